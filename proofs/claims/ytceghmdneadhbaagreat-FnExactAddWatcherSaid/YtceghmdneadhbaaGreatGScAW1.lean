/-
  Functions of the program as typed functions, printed by gen.py, and that the program's functions do what they say. No conditions.
-/
import Derived.Test.YtceghmdneadhbaaGreatGSbAW1
namespace Go.Proofs.YtceghmdneadhbaaGreat
open Go.RowKit
set_option linter.unusedVariables false
set_option maxRecDepth 100000
set_option maxHeartbeats 1000000
def spec_IsValidCounted_B1 (a0 : Y75) (rec : Int → Option (Sum (Unit) (Bool))) (y1 : Int) : Option (Sum (Unit) (Bool)) := cond (decide (y1 < (List.length a0.2.2 : Int))) (obind (geti a0.2.2 y1) fun e10 => cond (e10 == 0) (some (.inr false)) (obind (geti a0.2.2 y1) fun e13 => obind (spec_l1In e13 (-1000000) 1000000) fun v15 => cond (!v15) (some (.inr false)) (rec (IntKind.i64.wrap (y1 + 1))))) (some (.inl ()))
def spec_IsValidCounted (a0 : Y75) : Option (Bool) := cond ((List.length a0.2.1 : Int) != (List.length a0.2.2 : Int)) (some false) (obind (spec_IsValidRelation (a0.1, a0.2.1)) fun v3 => cond (!v3) (some false) (obind (loopF (spec_IsValidCounted_B1 a0) fz 0) fun o1 => (match o1 with
  | .inl _ => (some true)
  | .inr r => some r)))
theorem spec_IsValidCounted_s {a0 : Y75} {r : Bool} (h : spec_IsValidCounted a0 = some r) : SoundAt Tryz.prog 150 [.agg (c76_ddd a0)] (.bool r) := by
 unfold spec_IsValidCounted at h
 refine st lit150 rfl (rn 1 rfl (ls_seq_k fun K1 hK1 => rs (sp 8 rfl (?_))))
 rcases cond_some h with ⟨g2, h⟩ | ⟨g2, h⟩
 ·exact qg 11 g2 rfl (sp 8 rfl (evn (qT rfl rfl (rn 1 rfl (ls_ret ((by cases h; exact ⟨.inl rfl, rfl⟩)))))))
 ·refine qg 11 g2 rfl (sp 5 rfl (?_))
  obtain ⟨v3, g4, h⟩ := ob_some h
  refine oGR rfl rfl (qC (qa rfl (erg (erc rfl (erc (erD ec53_d _) rfl))) eran) (spec_IsValidRelation_s g4) (sp 2 rfl (evn ?_)))
  rcases cond_some h with ⟨g5, h⟩ | ⟨g5, h⟩
  ·exact qT rfl g5 (rn 1 rfl (qk [2] rfl (ls_ret ((by cases h; exact ⟨.inl rfl, rfl⟩)))))
  ·refine qF rfl g5 (ls_skip (hK1 _ (ls_seq_k fun K6 hK6 => rn 1 rfl ?_)))
   obtain ⟨o1, hl, hr1⟩ := ob_some h
   have kXB1 : (.inl ()) = o1 → Jn K6 [] := by
    intro h σ' hk
    subst h
    replace h := hr1
    try dsimp only at h
    exact hK6 _ (lh hk rfl (rn 1 rfl (ls_ret ((by cases h; exact ⟨.inl rfl, rfl⟩)))))
   refine ls_rec (fun (y1 : Int) => [(1, .box [nI a0.1, dL c53_d a0.2.1, dL ci64 a0.2.2]), (3, nI y1)]) _ _ _ _ hl (okr rfl) (fun _ => rfl) ?_
   rintro m y1 N h hN
   unfold spec_IsValidCounted_B1 at h
   refine ls_seq_k fun K7 hK7 => rn 1 rfl ?_
   rcases cond_some h with ⟨g8, h⟩ | ⟨g8, h⟩
   ·refine qT rfl g8 (ls_skip (hK7 _ (ls_seq_k fun K9 hK9 => ls_blk (rs (sp 3 rfl (?_))))))
    obtain ⟨e10, g11, h⟩ := ob_some h
    refine qI rfl zci64 g11 (sp 3 rfl (?_))
    rcases cond_some h with ⟨g12, h⟩ | ⟨g12, h⟩
    ·exact qg 33 g12 rfl (sp 8 rfl (evn (qT rfl rfl (rn 1 rfl (ls_ret ((by cases h; cases hr1; exact ⟨.inl rfl, rfl⟩)))))))
    ·refine qg 33 g12 rfl (sp 3 rfl (?_))
     obtain ⟨e13, g14, h⟩ := ob_some h
     refine oGR rfl rfl (qI rfl zci64 g14 (sp 1 rfl (?_)))
     obtain ⟨v15, g16, h⟩ := ob_some h
     refine oGR rfl rfl (qC (qs rfl (qs rfl (qs rfl eran))) (spec_l1In_s g16) (sp 2 rfl (evn (qk [1, 3, 41] rfl ?_))))
     rcases cond_some h with ⟨g17, h⟩ | ⟨g17, h⟩
     ·exact qT rfl g17 (rn 1 rfl (ls_ret ((by cases h; cases hr1; exact ⟨.inl rfl, rfl⟩))))
     ·exact qF rfl g17 (ls_skip (hK9 _ (rg (sp 3 rfl (evn (hN _ _ h (okr rfl)))))))
   ·exact qF rfl g8 (ls_exit (kXB1 (Option.some.inj h) _ trivial))
def spec_l5Place_B1 (a0 : Y42) (a1 : List Int) (rec : (Int × Int) → Option (Int)) (s : Int × Int) : Option (Int) := match s with
  | (y1, y2) => cond (decide (y1 < y2)) (obind (geti a0.2 (IntKind.i64.wrap (Int.tdiv (IntKind.i64.wrap (y1 + y2)) 2))) fun e5 => obind (spec_CompareRows e5 a1) fun v7 => cond (decide (v7 < 0)) (rec ((IntKind.i64.wrap ((IntKind.i64.wrap (Int.tdiv (IntKind.i64.wrap (y1 + y2)) 2)) + 1)), y2)) (rec (y1, (IntKind.i64.wrap (Int.tdiv (IntKind.i64.wrap (y1 + y2)) 2))))) (some y1)
def spec_l5Place_J2 (z2 : Int) (x11 : Bool) : Option (Int × Bool) := some (z2, x11)
def spec_l5Place (a0 : Y42) (a1 : List Int) : Option (Int × Bool) := obind (loopF (spec_l5Place_B1 a0 a1) fz (0, (List.length a0.2 : Int))) fun z2 => cond (decide (z2 < (List.length a0.2 : Int))) (obind (geti a0.2 z2) fun e13 => obind (spec_CompareRows e13 a1) fun v15 => spec_l5Place_J2 z2 (v15 == 0)) (spec_l5Place_J2 z2 false)
theorem spec_l5Place_s {a0 : Y42} {a1 : List Int} {r : Int × Bool} (h : spec_l5Place a0 a1 = some r) : SoundAt Tryz.prog 186 [.agg (c43_dd a0), dL ci64 a1] (.tup [nI r.1, .bool r.2]) := by
 unfold spec_l5Place at h
 refine st lit186 rfl (rn 3 rfl (ls_seq_k fun K1 hK1 => ?_))
 obtain ⟨o1, hl, hr1⟩ := ob_some h
 have kXB1 : ∀ {z2 : Int}, z2 = o1 → Jn K1 [(1, dL ci64 a1), (2, .box [nI a0.1, dL c53_d a0.2]), (6, nI z2)] := by
  intro z2 h σ' hk
  subst h
  replace h := hr1
  try dsimp only at h
  refine hK1 _ (lh hk rfl (rk fun K10 hK10 => ?_))
  have kJ2 : ∀ {x11 : Bool}, spec_l5Place_J2 z2 x11 = some r → Jn K10 [(4, nI z2), (5, .bool x11)] := by
   intro x11 h σ' hk
   unfold spec_l5Place_J2 at h
   exact hK10 _ (lh hk rfl (ls_ret ((by cases h; exact ⟨.inl rfl, rfl⟩))))
  refine sp 7 rfl (?_)
  rcases cond_some h with ⟨g12, h⟩ | ⟨g12, h⟩
  ·refine qg 36 g12 rfl (sp 3 rfl (?_))
   obtain ⟨e13, g14, h⟩ := ob_some h
   refine oGR rfl rfl (qI rfl zc53_d g14 (sp 2 rfl (?_)))
   obtain ⟨v15, g16, h⟩ := ob_some h
   exact oGR rfl rfl (qC (qa rfl (erD eci64 _) (qa rfl (erD eci64 _) eran)) (spec_CompareRows_s g16) (sp 4 rfl (evn (kJ2 h _ (okr rfl)))))
  ·exact qg 36 g12 rfl (sp 11 rfl (evn (kJ2 h _ (okr rfl))))
 refine ls_rec (fun (s : Int × Int) => match s with | (y1, y2) => [(1, dL ci64 a1), (2, .box [nI a0.1, dL c53_d a0.2]), (6, nI y1), (7, nI y2)]) _ _ _ _ hl (okr rfl) (fun _ => rfl) ?_
 rintro m ⟨y1, y2⟩ N h hN
 unfold spec_l5Place_B1 at h
 dsimp only at h
 refine ls_seq_k fun K3 hK3 => rn 1 rfl ?_
 rcases cond_some h with ⟨g4, h⟩ | ⟨g4, h⟩
 ·refine qT rfl g4 (ls_skip (hK3 _ (ls_blk (rn 1 rfl (rs (sp 3 rfl (?_)))))))
  obtain ⟨e5, g6, h⟩ := ob_some h
  refine qI rfl zc53_d g6 (sp 2 rfl (?_))
  obtain ⟨v7, g8, h⟩ := ob_some h
  refine qC (qa rfl (erD eci64 _) (qa rfl (erD eci64 _) eran)) (spec_CompareRows_s g8) (sp 1 rfl (evn ?_))
  rcases cond_some h with ⟨g9, h⟩ | ⟨g9, h⟩
  ·exact qT rfl g9 (rg (sp 3 rfl (evn (hN _ _ h (okr rfl)))))
  ·exact qF rfl g9 (rg (sp 2 rfl (evn (hN _ _ h (okr rfl)))))
 ·exact qF rfl g4 (ls_exit (kXB1 (Option.some.inj h) _ (okr rfl)))
def spec_l27Sum_B1 (a1 : List (List Int)) (a2 : List Int) (v1 : Y42 × Bool) (rec : ((List Int) × Int) → Option ((List Int))) (s : (List Int) × Int) : Option ((List Int)) := match s with
  | (y1, y2) => cond (decide (y2 < (List.length a1 : Int))) (obind (geti a1 y2) fun e11 => obind (spec_l5Place v1.1 e11) fun v13 => obind (geti y1 v13.1) fun e15 => obind (geti a2 y2) fun e17 => obind (geti y1 v13.1) fun e19 => rec ((seti y1 v13.1 (IntKind.i64.wrap (e15 + e17))), (IntKind.i64.wrap (y2 + 1)))) (some y1)
def spec_l27Sum_J3 (rec : ((List (Nat × (List Int))) × (List Int) × Int) → Option ((List (Nat × (List Int))) × (List Int))) (y5 : Int) (x29 : List (Nat × (List Int))) (x30 : List Int) : Option ((List (Nat × (List Int))) × (List Int)) := rec (x29, x30, (IntKind.i64.wrap (y5 + 1)))
def spec_l27Sum_B2 (v1 : Y42 × Bool) (z7 : List Int) (rec : ((List (Nat × (List Int))) × (List Int) × Int) → Option ((List (Nat × (List Int))) × (List Int))) (s : (List (Nat × (List Int))) × (List Int) × Int) : Option ((List (Nat × (List Int))) × (List Int)) := match s with
  | (y3, y4, y5) => cond (decide (y5 < (List.length (enumP 0 v1.1.2) : Int))) (obind (geti z7 y5) fun e27 => cond (e27 != 0) (obind (geti (enumP 0 v1.1.2) y5) fun e32 => chk (List.length y3 + List.length [e32] ≤ lim) (obind (geti z7 y5) fun e35 => chk (List.length y4 + List.length [e35] ≤ lim) (spec_l27Sum_J3 rec y5 (y3 ++ [e32]) (y4 ++ [e35])))) (spec_l27Sum_J3 rec y5 y3 y4)) (some (y3, y4))
def spec_l27Sum (a0 : Int) (a1 : List (List Int)) (a2 : List Int) : Option (Y75 × Bool) := obind (spec_NewRelation a0 a1) fun v1 => cond (!v1.2) (some ((0, [], []), false)) (chk ((0 : Int) ≤ (List.length v1.1.2 : Int) ∧ Int.toNat (List.length v1.1.2 : Int) ≤ lim) (obind (loopF (spec_l27Sum_B1 a1 a2 v1) fz ((List.replicate (Int.toNat (List.length v1.1.2 : Int)) (0 : Int)), 0)) fun z7 => obind (loopF (spec_l27Sum_B2 v1 z7) fz (([] : List (Nat × (List Int))), ([] : List Int), 0)) fun o2 => (match o2 with
  | (z22, z23) => (chk (okJ (v1.1.2) (inlM z22) [] = true) (obind (spec_IsValidCounted (a0, List.map getM (inlM z22), z23)) fun v40 => cond (!v40) (some ((0, [], []), false)) (some ((a0, List.map getM (inlM z22), z23), true)))))))
theorem spec_l27Sum_s {a0 : Int} {a1 : List (List Int)} {a2 : List Int} {r : Y75 × Bool} (h : spec_l27Sum a0 a1 a2 = some r) : SoundAt Tryz.prog 177 [nI a0, dL c53_d a1, dL ci64 a2] (.tup [.agg (c76_ooo r.1), .bool r.2]) := by
 unfold spec_l27Sum at h
 refine st lit177 rfl (rn 1 rfl (rs (sp 2 rfl (?_))))
 obtain ⟨v1, g2, h⟩ := ob_some h
 refine qC (qs rfl (qa rfl (erD ec53_d _) eran)) (spec_NewRelation_s g2) (sp 6 rfl (evn (ls_seq_k fun K3 hK3 => rn 1 rfl ?_)))
 rcases cond_some h with ⟨g4, h⟩ | ⟨g4, h⟩
 ·exact qT rfl g4 (rn 1 rfl (ls_ret ((by cases h; exact ⟨.inl rfl, rfl⟩))))
 ·refine qF rfl g4 (ls_skip (hK3 _ (rs (sp 3 rfl (?_)))))
  obtain ⟨g5, h⟩ := chk_some h
  refine qMu ci64 (0 : Int) rfl rfl rfl rfl g5 rfl (qAu rfl rfl rfl rfl (evn (ls_seq_k fun K6 hK6 => rn 1 rfl (qk [0, 1, 2, 6, 8, 10, 11] rfl ?_))))
  obtain ⟨o1, hl, hr1⟩ := ob_some h
  have kXB1 : ∀ {z7 : List Int}, z7 = o1 → Jn K6 [(0, nI a0), (6, .box [nI 0, oL 53 c53_o [], oL 3 ci64 []]), (8, .box [nI v1.1.1, oL 53 c53_o v1.1.2]), (10, wL 3 ci64 z7)] := by
   intro z7 h σ' hk
   subst h
   replace h := hr1
   try dsimp only at h
   refine hK6 _ (lh hk rfl (qk [0, 6, 8, 10] rfl (ls_hg (gSb (f := c53_o) (l := v1.1.2) (q := 900001) (b := 8) [nI v1.1.1] [] rfl rfl rfl (fun _ => rfl) ?_))))
   intro U us1 hU
   refine kp [(0, nI a0), (6, .box [nI 0, oL 53 c53_o [], oL 3 ci64 []]), (8, .box [nI v1.1.1, oL 53 (pE c53_o U) (enumP 0 v1.1.2)]), (10, wL 3 ci64 z7), (900001, .gh us1 (List.map (fun x => tokC (c53_o x)) v1.1.2))] rfl rfl (rn 1 rfl (ls_seq_k fun K21 hK21 => rn 1 rfl ?_))
   obtain ⟨o2, hl, hr2⟩ := ob_some h
   have kXB2 : ∀ {z22 : List (Nat × (List Int))} {z23 : List Int}, (z22, z23) = o2 → Jn K21 [(6, .box [nI 0, oL 53 c53_o [], oL 3 ci64 []]), (14, .box [nI a0, oL 53 (pE c53_o U) z22, oL 3 ci64 z23]), (900001, .gh us1 (List.map (fun x => tokC (c53_o x)) v1.1.2))] := by
    intro z22 z23 h σ' hk
    subst h
    replace h := hr2
    try dsimp only at h
    refine hK21 _ (lh hk rfl (ls_seq_k fun K38 hK38 => qk [6, 14, 900001] rfl ?_))
    obtain ⟨g39, h⟩ := chk_some h
    refine ls_hg (gJb (f := c53_o) (l := v1.1.2) (q := 900001) (b := 14) [nI a0] [oL 3 ci64 z23] (inlM z22) rfl own_inM rfl rfl (fun _ => rfl) hU g39 (kp [(6, .box [nI 0, oL 53 c53_o [], oL 3 ci64 []]), (14, .box [nI a0, oL 53 c53_o (List.map getM (inlM z22)), oL 3 ci64 z23])] rfl rfl (rs (sp 1 rfl (?_)))))
    obtain ⟨v40, g41, h⟩ := ob_some h
    refine qC (qa rfl (erg (erc rfl (erc (erD ec53_o _) (erc (erD eci64 _) rfl)))) eran) (spec_IsValidCounted_s g41) (sp 1 rfl (evn ?_))
    rcases cond_some h with ⟨g42, h⟩ | ⟨g42, h⟩
    ·exact qT rfl g42 (rn 1 rfl (ls_ret ((by cases h; exact ⟨.inl rfl, rfl⟩))))
    ·exact qF rfl g42 (ls_skip (hK38 _ (rn 1 rfl (ls_ret ((by cases h; exact ⟨.inl rfl, rfl⟩))))))
   refine ls_rec (fun (s : (List (Nat × (List Int))) × (List Int) × Int) => match s with | (y3, y4, y5) => [(6, .box [nI 0, oL 53 c53_o [], oL 3 ci64 []]), (8, .box [nI v1.1.1, oL 53 (pE c53_o U) (enumP 0 v1.1.2)]), (10, wL 3 ci64 z7), (14, .box [nI a0, oL 53 (pE c53_o U) y3, oL 3 ci64 y4]), (15, nI y5), (900001, .gh us1 (List.map (fun x => tokC (c53_o x)) v1.1.2))]) _ _ _ _ hl (okr rfl) (fun _ => rfl) ?_
   rintro m ⟨y3, y4, y5⟩ N h hN
   unfold spec_l27Sum_B2 at h
   dsimp only at h
   refine ls_seq_k fun K24 hK24 => rn 1 rfl ?_
   rcases cond_some h with ⟨g25, h⟩ | ⟨g25, h⟩
   ·refine qT rfl g25 (ls_skip (hK24 _ (ls_seq_k fun K26 hK26 => ls_blk (rs (sp 2 rfl (?_))))))
    obtain ⟨e27, g28, h⟩ := ob_some h
    refine qIu rfl ⟨(geti_some g28).1, (geti_some g28).2.1⟩ (qLu 0 rfl rfl rfl zci64 g28 rfl rfl rfl (sp 1 rfl (evn ?_)))
    have kJ3 : ∀ {x29 : List (Nat × (List Int))} {x30 : List Int}, spec_l27Sum_J3 (loopF (spec_l27Sum_B2 v1 z7) m) y5 x29 x30 = some o2 → Jn K26 [(6, .box [nI 0, oL 53 c53_o [], oL 3 ci64 []]), (8, .box [nI v1.1.1, oL 53 (pE c53_o U) (enumP 0 v1.1.2)]), (10, wL 3 ci64 z7), (14, .box [nI a0, oL 53 (pE c53_o U) x29, oL 3 ci64 x30]), (15, nI y5), (900001, .gh us1 (List.map (fun x => tokC (c53_o x)) v1.1.2))] := by
     intro x29 x30 h σ' hk
     unfold spec_l27Sum_J3 at h
     exact hK26 _ (lh hk rfl (rg (sp 3 rfl (evn (hN _ _ h (okr rfl))))))
    rcases cond_some h with ⟨g31, h⟩ | ⟨g31, h⟩
    ·refine qT rfl g31 (rd (by kernel_rfl) (sd 5 rfl (?_)))
     obtain ⟨e32, g33, h⟩ := ob_some h
     refine ed rfl (qI rfl (zpE zc53_o) g33 (sd 1 rfl (ed rfl (qBs (pE c53_o U) [e32] rfl rfl rfl (zpE zc53_o) (?_)))))
     obtain ⟨g34, h⟩ := chk_some h
     refine ed rfl (qA (pE c53_o U) y3 [e32] rfl rfl (flat_len (zpE zc53_o) [e32]) rfl g34 (sd 2 rfl (evdn (rgd (by kernel_rfl) (sd 4 rfl (?_))))))
     obtain ⟨e35, g36, h⟩ := ob_some h
     refine ed rfl (qIu rfl ⟨(geti_some g36).1, (geti_some g36).2.1⟩ (ed rfl (qLu 0 rfl rfl rfl zci64 g36 rfl rfl rfl (ed rfl (qBs ci64 [e35] rfl rfl rfl zci64 (?_))))))
     obtain ⟨g37, h⟩ := chk_some h
     exact ed rfl (qA ci64 y4 [e35] rfl rfl (flat_len zci64 [e35]) rfl g37 (sd 2 rfl (evdn (kJ3 h _ (okr rfl)))))
    ·exact qF rfl g31 (ls_skip (kJ3 h _ (okr rfl)))
   ·exact qF rfl g25 (ls_exit (kXB2 (Option.some.inj h) _ (okr rfl)))
  refine ls_rec (fun (s : (List Int) × Int) => match s with | (y1, y2) => [(0, nI a0), (1, dL c53_d a1), (2, dL ci64 a2), (6, .box [nI 0, oL 53 c53_o [], oL 3 ci64 []]), (8, .box [nI v1.1.1, oL 53 c53_o v1.1.2]), (10, wL 3 ci64 y1), (11, nI y2)]) _ _ _ _ hl (okr rfl) (fun _ => rfl) ?_
  rintro m ⟨y1, y2⟩ N h hN
  unfold spec_l27Sum_B1 at h
  dsimp only at h
  refine ls_seq_k fun K8 hK8 => rn 1 rfl ?_
  rcases cond_some h with ⟨g9, h⟩ | ⟨g9, h⟩
  ·refine qT rfl g9 (ls_skip (hK8 _ (ls_seq_k fun K10 hK10 => ls_blk (rd (by kernel_rfl) (sd 3 rfl (?_))))))
   obtain ⟨e11, g12, h⟩ := ob_some h
   refine ed rfl (qI rfl zc53_d g12 (sd 1 rfl (?_)))
   obtain ⟨v13, g14, h⟩ := ob_some h
   refine ed rfl (qC (qa rfl (erg (erc rfl (erc (erD ec53_o _) rfl))) (qa rfl (erD eci64 _) eran)) (spec_l5Place_s g14) (sd 5 rfl (evdn (rgd (by kernel_rfl) (sd 4 rfl (?_))))))
   obtain ⟨e15, g16, h⟩ := ob_some h
   refine ed rfl (qIu rfl ⟨(geti_some g16).1, (geti_some g16).2.1⟩ (ed rfl (qLu 0 rfl rfl rfl zci64 g16 rfl rfl rfl (sd 2 rfl (?_)))))
   obtain ⟨e17, g18, h⟩ := ob_some h
   refine ed rfl (qI rfl zci64 g18 (sd 2 rfl (?_)))
   obtain ⟨e19, g20, h⟩ := ob_some h
   exact ed rfl (qIu rfl ⟨(geti_some g20).1, (geti_some g20).2.1⟩ (ed rfl (qSu (IntKind.i64.wrap (e15 + e17)) rfl rfl zci64 ⟨(geti_some g20).1, (geti_some g20).2.1⟩ rfl rfl rfl rfl rfl rfl (evdn (hK10 _ (rg (sp 3 rfl (evn (hN _ _ h (okr rfl))))))))))
  ·exact qF rfl g9 (ls_exit (kXB1 (Option.some.inj h) _ (okr rfl)))
def spec_ProjectCounted_B1 (a0 : Y75) (a1 : List Int) (rec : Int → Option (Sum (Unit) (Y75 × Bool))) (y1 : Int) : Option (Sum (Unit) (Y75 × Bool)) := cond (decide (y1 < (List.length a1 : Int))) (obind (geti a1 y1) fun e5 => obind (spec_l1In e5 0 (IntKind.i64.wrap (a0.1 - 1))) fun v7 => cond (!v7) (some (.inr ((0, [], []), false))) (rec (IntKind.i64.wrap (y1 + 1)))) (some (.inl ()))
def spec_ProjectCounted_B2 (a0 : Y75) (a1 : List Int) (rec : ((List (List Int)) × Int) → Option ((List (List Int)))) (s : (List (List Int)) × Int) : Option ((List (List Int))) := match s with
  | (y2, y3) => cond (decide (y3 < (List.length a0.2.1 : Int))) (obind (geti a0.2.1 y3) fun e20 => obind (spec_l5Cols e20 a1) fun v22 => chk (List.length y2 + List.length [v22] ≤ lim) (rec ((y2 ++ [v22]), (IntKind.i64.wrap (y3 + 1))))) (some y2)
def spec_ProjectCounted (a0 : Y75) (a1 : List Int) : Option (Y75 × Bool) := obind (loopF (spec_ProjectCounted_B1 a0 a1) fz 0) fun o1 => (match o1 with
  | .inl _ => (obind (spec_IsValidCounted a0) fun v11 => cond (!v11) (some ((0, [], []), false)) (cond (decide (5 < (List.length a1 : Int))) (some ((0, [], []), false)) (obind (loopF (spec_ProjectCounted_B2 a0 a1) fz (([] : List (List Int)), 0)) fun z16 => obind (spec_l27Sum (List.length a1 : Int) z16 a0.2.2) fun v25 => some (v25.1, v25.2))))
  | .inr r => some r)
theorem spec_ProjectCounted_s {a0 : Y75} {a1 : List Int} {r : Y75 × Bool} (h : spec_ProjectCounted a0 a1 = some r) : SoundAt Tryz.prog 144 [.agg (c76_ddd a0), dL ci64 a1] (.tup [.agg (c76_ooo r.1), .bool r.2]) := by
 unfold spec_ProjectCounted at h
 refine st lit144 rfl (rn 1 rfl (ls_seq_k fun K1 hK1 => rn 1 rfl ?_))
 obtain ⟨o1, hl, hr1⟩ := ob_some h
 have kXB1 : (.inl ()) = o1 → Jn K1 [(1, dL ci64 a1), (2, .box [nI a0.1, dL c53_d a0.2.1, dL ci64 a0.2.2]), (4, .box [nI 0, oL 53 c53_o [], oL 3 ci64 []])] := by
  intro h σ' hk
  subst h
  replace h := hr1
  try dsimp only at h
  refine hK1 _ (lh hk rfl (ls_seq_k fun K10 hK10 => rs (sp 1 rfl (?_))))
  obtain ⟨v11, g12, h⟩ := ob_some h
  refine qC (qa rfl (erg (erc rfl (erc (erD ec53_d _) (erc (erD eci64 _) rfl)))) eran) (spec_IsValidCounted_s g12) (sp 2 rfl (?_))
  rcases cond_some h with ⟨g13, h⟩ | ⟨g13, h⟩
  ·exact qg 30 g13 rfl (sp 4 rfl (evn (qT rfl rfl (rn 1 rfl (ls_ret ((by cases h; exact ⟨.inl rfl, rfl⟩)))))))
  ·refine qg 30 g13 rfl (sp 4 rfl (evn ?_))
   rcases cond_some h with ⟨g14, h⟩ | ⟨g14, h⟩
   ·exact qT rfl g14 (rn 1 rfl (ls_ret ((by cases h; exact ⟨.inl rfl, rfl⟩))))
   ·refine qF rfl g14 (ls_skip (hK10 _ (rs (qBs c53_o [] rfl rfl rfl zc53_o (sp 1 rfl (evn (ls_seq_k fun K15 hK15 => rn 1 rfl (qk [1, 2, 4, 7, 8] rfl ?_))))))))
    obtain ⟨o2, hl, hr2⟩ := ob_some h
    have kXB2 : ∀ {z16 : List (List Int)}, z16 = o2 → Jn K15 [(1, dL ci64 a1), (2, .box [nI a0.1, dL c53_d a0.2.1, dL ci64 a0.2.2]), (4, .box [nI 0, oL 53 c53_o [], oL 3 ci64 []]), (7, oL 53 c53_o z16)] := by
     intro z16 h σ' hk
     subst h
     replace h := hr2
     try dsimp only at h
     refine hK15 _ (lh hk rfl (rs (sp 5 rfl (?_))))
     obtain ⟨v25, g26, h⟩ := ob_some h
     exact qC (qs rfl (qa rfl (erD ec53_o _) (qa rfl (erD eci64 _) eran))) (spec_l27Sum_s g26) (sp 6 rfl (evn (rn 1 rfl (ls_ret ((by cases h; exact ⟨.inl rfl, rfl⟩))))))
    refine ls_rec (fun (s : (List (List Int)) × Int) => match s with | (y2, y3) => [(1, dL ci64 a1), (2, .box [nI a0.1, dL c53_d a0.2.1, dL ci64 a0.2.2]), (4, .box [nI 0, oL 53 c53_o [], oL 3 ci64 []]), (7, oL 53 c53_o y2), (8, nI y3)]) _ _ _ _ hl (okr rfl) (fun _ => rfl) ?_
    rintro m ⟨y2, y3⟩ N h hN
    unfold spec_ProjectCounted_B2 at h
    dsimp only at h
    refine ls_seq_k fun K17 hK17 => rn 1 rfl ?_
    rcases cond_some h with ⟨g18, h⟩ | ⟨g18, h⟩
    ·refine qT rfl g18 (ls_skip (hK17 _ (ls_seq_k fun K19 hK19 => ls_blk (rg (sp 4 rfl (?_))))))
     obtain ⟨e20, g21, h⟩ := ob_some h
     refine qI rfl zc53_d g21 (sp 2 rfl (?_))
     obtain ⟨v22, g23, h⟩ := ob_some h
     refine qC (qa rfl (erD eci64 _) (qa rfl (erD eci64 _) eran)) (spec_l5Cols_s g23) (qBs c53_o [v22] rfl rfl rfl zc53_o (?_))
     obtain ⟨g24, h⟩ := chk_some h
     exact qA c53_o y2 [v22] rfl rfl (flat_len zc53_o [v22]) rfl g24 (sp 1 rfl (evn (hK19 _ (rg (sp 3 rfl (evn (hN _ _ h (okr rfl))))))))
    ·exact qF rfl g18 (ls_exit (kXB2 (Option.some.inj h) _ (okr rfl)))
 refine ls_rec (fun (y1 : Int) => [(1, dL ci64 a1), (2, .box [nI a0.1, dL c53_d a0.2.1, dL ci64 a0.2.2]), (4, .box [nI 0, oL 53 c53_o [], oL 3 ci64 []]), (6, nI y1)]) _ _ _ _ hl (okr rfl) (fun _ => rfl) ?_
 rintro m y1 N h hN
 unfold spec_ProjectCounted_B1 at h
 refine ls_seq_k fun K2 hK2 => rn 1 rfl ?_
 rcases cond_some h with ⟨g3, h⟩ | ⟨g3, h⟩
 ·refine qT rfl g3 (ls_skip (hK2 _ (ls_seq_k fun K4 hK4 => ls_blk (rd (by kernel_rfl) (sd 2 rfl (?_))))))
  obtain ⟨e5, g6, h⟩ := ob_some h
  refine ed rfl (qI rfl zci64 g6 (sd 4 rfl (?_)))
  obtain ⟨v7, g8, h⟩ := ob_some h
  refine ed rfl (qC (qs rfl (qs rfl (qs rfl eran))) (spec_l1In_s g8) (sd 1 rfl (evdn ?_)))
  rcases cond_some h with ⟨g9, h⟩ | ⟨g9, h⟩
  ·exact qT rfl g9 (rn 1 rfl (ls_ret ((by cases h; cases hr1; exact ⟨.inl rfl, rfl⟩))))
  ·exact qF rfl g9 (ls_skip (hK4 _ (rg (sp 3 rfl (evn (hN _ _ h (okr rfl)))))))
 ·exact qF rfl g3 (ls_exit (kXB1 (Option.some.inj h) _ (okr rfl)))
def spec_l28Z (a0 : List Y119) (a1 : Y54) : Option (Y75 × Bool) := obind (spec_AllBindings a0 a1) fun v1 => obind (spec_IsQueryFor a0 a1) fun v4 => cond (!v4) (some ((0, [], []), false)) (cond (v1.1 != a1.1) (some ((0, [], []), false)) (obind (spec_CountedFromRelation v1) fun v8 => obind (spec_ProjectCounted v8.1 a1.2.2) fun v10 => some (v10.1, v10.2)))
theorem spec_l28Z_s {a0 : List Y119} {a1 : Y54} {r : Y75 × Bool} (h : spec_l28Z a0 a1 = some r) : SoundAt Tryz.prog 91 [.agg [dL c120_dd a0], .agg (c55_ddd a1)] (.tup [.agg (c76_ooo r.1), .bool r.2]) := by
 unfold spec_l28Z at h
 refine st lit91 rfl (rn 1 rfl (rs (sp 2 rfl (?_))))
 obtain ⟨v1, g2, h⟩ := ob_some h
 refine qC (qa rfl (erg (erc (erD ec120_dd _) rfl)) (qa rfl (erg (erc rfl (erc (erD ec148_d _) (erc (erD eci64 _) rfl)))) eran)) (spec_AllBindings_s g2) (sp 2 rfl (evn (ls_seq_k fun K3 hK3 => rs (sp 2 rfl (?_)))))
 obtain ⟨v4, g5, h⟩ := ob_some h
 refine qC (qa rfl (erg (erc (erD ec120_dd _) rfl)) (qa rfl (erg (erc rfl (erc (erD ec148_d _) (erc (erD eci64 _) rfl)))) eran)) (spec_IsQueryFor_s g5) (sp 2 rfl (?_))
 rcases cond_some h with ⟨g6, h⟩ | ⟨g6, h⟩
 ·exact qg 18 g6 rfl (sp 6 rfl (evn (qT rfl rfl (rn 1 rfl (ls_ret ((by cases h; exact ⟨.inl rfl, rfl⟩)))))))
 ·refine qg 18 g6 rfl (sp 6 rfl (evn ?_))
  rcases cond_some h with ⟨g7, h⟩ | ⟨g7, h⟩
  ·exact qT rfl g7 (rn 1 rfl (qk [4, 5] rfl (ls_ret ((by cases h; exact ⟨.inl rfl, rfl⟩)))))
  ·refine qF rfl g7 (ls_skip (hK3 _ (rs (sp 1 rfl (?_)))))
   obtain ⟨v8, g9, h⟩ := ob_some h
   refine qC (qa rfl (erg (erc rfl (erc (erD ec53_o _) rfl))) eran) (spec_CountedFromRelation_s g9) (sp 6 rfl (evn (rs (sp 3 rfl (?_)))))
   obtain ⟨v10, g11, h⟩ := ob_some h
   exact qC (qa rfl (erg (erc rfl (erc (erD ec53_o _) (erc (erD eci64 _) rfl)))) (qa rfl (erD eci64 _) eran)) (spec_ProjectCounted_s g11) (sp 6 rfl (evn (rn 1 rfl (ls_ret ((by cases h; exact ⟨.inl rfl, rfl⟩))))))
def spec_IsValidView_J1 (x4 : Bool) : Option (Bool) := some x4
def spec_IsValidView (a0 : List Y119) (a1 : Y77) : Option (Bool) := obind (spec_l28Z a0 a1.1) fun v1 => cond v1.2 (obind (spec_EqualCounted v1.1 a1.2) fun v6 => spec_IsValidView_J1 v6) (spec_IsValidView_J1 false)
theorem spec_IsValidView_s {a0 : List Y119} {a1 : Y77} {r : Bool} (h : spec_IsValidView a0 a1 = some r) : SoundAt Tryz.prog 36 [.agg [dL c120_dd a0], .agg (c78_dddddd a1)] (.bool r) := by
 unfold spec_IsValidView at h
 refine st lit36 rfl (rn 1 rfl (rs (sp 3 rfl (?_))))
 obtain ⟨v1, g2, h⟩ := ob_some h
 refine qC (qa rfl (erg (erc (erD ec120_dd _) rfl)) (qa rfl (erg (erc rfl (erc (erD ec148_d _) (erc (erD eci64 _) rfl)))) eran)) (spec_l28Z_s g2) (sp 6 rfl (evn (rk fun K3 hK3 => ?_)))
 have kJ1 : ∀ {x4 : Bool}, spec_IsValidView_J1 x4 = some r → Jn K3 [(4, .bool x4)] := by
  intro x4 h σ' hk
  unfold spec_IsValidView_J1 at h
  exact hK3 _ (lh hk rfl (ls_ret ((by cases h; exact ⟨.inl rfl, rfl⟩))))
 refine sp 2 rfl (?_)
 rcases cond_some h with ⟨g5, h⟩ | ⟨g5, h⟩
 ·refine qg 15 g5 rfl (sp 3 rfl (?_))
  obtain ⟨v6, g7, h⟩ := ob_some h
  exact oGR rfl rfl (qC (qa rfl (erg (erc rfl (erc (erD ec53_o _) (erc (erD eci64 _) rfl)))) (qa rfl (erg (erc rfl (erc (erD ec53_d _) (erc (erD eci64 _) rfl)))) eran)) (spec_EqualCounted_s g7) (sp 2 rfl (evn (kJ1 h _ (okr rfl)))))
 ·exact qg 15 g5 rfl (sp 6 rfl (evn (kJ1 h _ (okr rfl))))
def spec_IsValidNotifier_B1 (a0 : Y36) (rec : Int → Option (Sum (Unit) (Bool))) (y1 : Int) : Option (Sum (Unit) (Bool)) := cond (decide (y1 < (List.length a0.2.1 : Int))) (obind (geti a0.2.1 y1) fun e11 => obind (spec_IsValidView a0.1 e11) fun v13 => cond (!v13) (some (.inr false)) (obind (geti a0.2.1 y1) fun e16 => obind (geti a0.2.2 y1) fun e18 => obind (spec_EqualCounted e16.2 e18) fun v20 => cond (!v20) (some (.inr false)) (rec (IntKind.i64.wrap (y1 + 1))))) (some (.inl ()))
def spec_IsValidNotifier (a0 : Y36) : Option (Bool) := obind (spec_IsValidDatabase a0.1) fun v2 => cond (!v2) (some false) (cond ((List.length a0.2.1 : Int) != (List.length a0.2.2 : Int)) (some false) (cond (decide (4 < (List.length a0.2.1 : Int))) (some false) (obind (loopF (spec_IsValidNotifier_B1 a0) fz 0) fun o1 => (match o1 with
  | .inl _ => (some true)
  | .inr r => some r))))
theorem spec_IsValidNotifier_s {a0 : Y36} {r : Bool} (h : spec_IsValidNotifier a0 = some r) : SoundAt Tryz.prog 8 [.agg (c37_dddddddddddddd a0)] (.bool r) := by
 unfold spec_IsValidNotifier at h
 refine st lit8 rfl (rn 1 rfl (ls_seq_k fun K1 hK1 => rs (sp 2 rfl (?_))))
 obtain ⟨v2, g3, h⟩ := ob_some h
 refine qC (qa rfl (erg (erc (erD ec120_dd _) rfl)) eran) (spec_IsValidDatabase_s g3) (sp 2 rfl (?_))
 rcases cond_some h with ⟨g4, h⟩ | ⟨g4, h⟩
 ·exact qg 8 g4 rfl (sp 14 rfl (evn (qT rfl rfl (rn 1 rfl (ls_ret ((by cases h; exact ⟨.inl rfl, rfl⟩)))))))
 ·refine qg 8 g4 rfl (sp 9 rfl (?_))
  rcases cond_some h with ⟨g5, h⟩ | ⟨g5, h⟩
  ·exact qg 17 g5 rfl (sp 5 rfl (evn (qk [1, 22] rfl (qT rfl rfl (rn 1 rfl (ls_ret ((by cases h; exact ⟨.inl rfl, rfl⟩))))))))
  ·refine qg 17 g5 rfl (sp 5 rfl (evn ?_))
   rcases cond_some h with ⟨g6, h⟩ | ⟨g6, h⟩
   ·exact qT rfl g6 (rn 1 rfl (ls_ret ((by cases h; exact ⟨.inl rfl, rfl⟩))))
   ·refine qF rfl g6 (ls_skip (hK1 _ (ls_seq_k fun K7 hK7 => rn 1 rfl ?_)))
    obtain ⟨o1, hl, hr1⟩ := ob_some h
    have kXB1 : (.inl ()) = o1 → Jn K7 [] := by
     intro h σ' hk
     subst h
     replace h := hr1
     try dsimp only at h
     exact hK7 _ (lh hk rfl (rn 1 rfl (ls_ret ((by cases h; exact ⟨.inl rfl, rfl⟩)))))
    refine ls_rec (fun (y1 : Int) => [(1, .box [dL c120_dd a0.1, dL c78_dddddd a0.2.1, dL c76_ddd a0.2.2]), (3, nI y1)]) _ _ _ _ hl (okr rfl) (fun _ => rfl) ?_
    rintro m y1 N h hN
    unfold spec_IsValidNotifier_B1 at h
    refine ls_seq_k fun K8 hK8 => rn 1 rfl ?_
    rcases cond_some h with ⟨g9, h⟩ | ⟨g9, h⟩
    ·refine qT rfl g9 (ls_skip (hK8 _ (ls_seq_k fun K10 hK10 => ls_blk (rd (by kernel_rfl) (sd 5 rfl (?_))))))
     obtain ⟨e11, g12, h⟩ := ob_some h
     refine ed rfl (qI rfl zc78_dddddd g12 (sd 1 rfl (?_)))
     obtain ⟨v13, g14, h⟩ := ob_some h
     refine ed rfl (qC (qa rfl (erg (erc (erD ec120_dd _) rfl)) (qa rfl (erg (erc rfl (erc (erD ec148_d _) (erc (erD eci64 _) (erc rfl (erc (erD ec53_d _) (erc (erD eci64 _) rfl))))))) eran)) (spec_IsValidView_s g14) (sd 2 rfl (?_)))
     rcases cond_some h with ⟨g15, h⟩ | ⟨g15, h⟩
     ·exact qgd 39 g15 rfl (sd 14 rfl (evdn (qT rfl rfl (rn 1 rfl (qk [2] rfl (ls_ret ((by cases h; cases hr1; exact ⟨.inl rfl, rfl⟩))))))))
     ·refine qgd 39 g15 rfl (sd 3 rfl (?_))
      obtain ⟨e16, g17, h⟩ := ob_some h
      refine ed rfl (oGR rfl rfl (qI rfl zc78_dddddd g17 (sd 5 rfl (?_))))
      obtain ⟨e18, g19, h⟩ := ob_some h
      refine ed rfl (oGR rfl rfl (qI rfl zc76_ddd g19 (sd 1 rfl (?_))))
      obtain ⟨v20, g21, h⟩ := ob_some h
      refine ed rfl (oGR rfl rfl (qC (qa rfl (erg (erc rfl (erc (erD ec53_d _) (erc (erD eci64 _) rfl)))) (qa rfl (erg (erc rfl (erc (erD ec53_d _) (erc (erD eci64 _) rfl)))) eran)) (spec_EqualCounted_s g21) (sd 2 rfl (evdn ?_))))
      rcases cond_some h with ⟨g22, h⟩ | ⟨g22, h⟩
      ·exact qT rfl g22 (rn 1 rfl (ls_ret ((by cases h; cases hr1; exact ⟨.inl rfl, rfl⟩))))
      ·exact qF rfl g22 (ls_skip (hK10 _ (rg (sp 3 rfl (evn (hN _ _ h (okr rfl)))))))
    ·exact qF rfl g9 (ls_exit (kXB1 (Option.some.inj h) _ trivial))
def spec_NegateCounted_B1 (a0 : Y75) (rec : ((List Int) × Int) → Option ((List Int))) (s : (List Int) × Int) : Option ((List Int)) := match s with
  | (y1, y2) => cond (decide (y2 < (List.length a0.2.2 : Int))) (obind (geti a0.2.2 y2) fun e8 => chk (List.length y1 + List.length [IntKind.i64.wrap (0 - e8)] ≤ lim) (rec ((y1 ++ [IntKind.i64.wrap (0 - e8)]), (IntKind.i64.wrap (y2 + 1))))) (some y1)
def spec_NegateCounted (a0 : Y75) : Option (Y75) := obind (spec_l5Copy (0, a0.2.1)) fun v1 => obind (loopF (spec_NegateCounted_B1 a0) fz (([] : List Int), 0)) fun z4 => some (a0.1, v1.2, z4)
theorem spec_NegateCounted_s {a0 : Y75} {r : Y75} (h : spec_NegateCounted a0 = some r) : SoundAt Tryz.prog 65 [.agg (c76_ddd a0)] (.agg (c76_ooo r)) := by
 unfold spec_NegateCounted at h
 refine st lit65 rfl (rn 1 rfl (rs (sp 3 rfl (?_))))
 obtain ⟨v1, g2, h⟩ := ob_some h
 refine qC (qa rfl (erg (erc rfl (erc (erD ec53_d _) rfl))) eran) (spec_l5Copy_s g2) (sp 2 rfl (evn (rn 1 rfl (ls_seq_k fun K3 hK3 => rn 1 rfl ?_))))
 obtain ⟨o1, hl, hr1⟩ := ob_some h
 have kXB1 : ∀ {z4 : List Int}, z4 = o1 → Jn K3 [(2, .box [nI 0, oL 53 c53_o [], oL 3 ci64 []]), (4, .box [nI a0.1, oL 53 c53_o v1.2, oL 3 ci64 z4])] := by
  intro z4 h σ' hk
  subst h
  replace h := hr1
  try dsimp only at h
  exact hK3 _ (lh hk rfl (rn 1 rfl (ls_ret ((by cases h; exact ⟨.inl rfl, rfl⟩)))))
 refine ls_rec (fun (s : (List Int) × Int) => match s with | (y1, y2) => [(1, .box [nI a0.1, dL c53_d a0.2.1, dL ci64 a0.2.2]), (2, .box [nI 0, oL 53 c53_o [], oL 3 ci64 []]), (4, .box [nI a0.1, oL 53 c53_o v1.2, oL 3 ci64 y1]), (5, nI y2)]) _ _ _ _ hl (okr rfl) (fun _ => rfl) ?_
 rintro m ⟨y1, y2⟩ N h hN
 unfold spec_NegateCounted_B1 at h
 dsimp only at h
 refine ls_seq_k fun K5 hK5 => rn 1 rfl ?_
 rcases cond_some h with ⟨g6, h⟩ | ⟨g6, h⟩
 ·refine qT rfl g6 (ls_skip (hK5 _ (ls_seq_k fun K7 hK7 => ls_blk (rgd (by kernel_rfl) (sd 5 rfl (?_))))))
  obtain ⟨e8, g9, h⟩ := ob_some h
  refine ed rfl (qI rfl zci64 g9 (sd 2 rfl (ed rfl (qBs ci64 [IntKind.i64.wrap (0 - e8)] rfl rfl rfl zci64 (?_)))))
  obtain ⟨g10, h⟩ := chk_some h
  exact ed rfl (qA ci64 y1 [IntKind.i64.wrap (0 - e8)] rfl rfl (flat_len zci64 [IntKind.i64.wrap (0 - e8)]) rfl g10 (sd 2 rfl (evdn (hK7 _ (rg (sp 3 rfl (evn (hN _ _ h (okr rfl)))))))))
 ·exact qF rfl g6 (ls_exit (kXB1 (Option.some.inj h) _ (okr rfl)))
def spec_l6Copy_B1 (a0 : List Y119) (rec : ((List Y119) × Int) → Option ((List Y119))) (s : (List Y119) × Int) : Option ((List Y119)) := match s with
  | (y1, y2) => cond (decide (y2 < (List.length a0 : Int))) (obind (geti a0 y2) fun e6 => obind (spec_l5Copy e6.2) fun v8 => obind (geti a0 y2) fun e10 => chk (List.length y1 + List.length [(e10.1, v8)] ≤ lim) (rec ((y1 ++ [(e10.1, v8)]), (IntKind.i64.wrap (y2 + 1))))) (some y1)
def spec_l6Copy (a0 : List Y119) : Option ((List Y119)) := obind (loopF (spec_l6Copy_B1 a0) fz (([] : List Y119), 0)) fun z2 => some z2
theorem spec_l6Copy_s {a0 : List Y119} {r : (List Y119)} (h : spec_l6Copy a0 = some r) : SoundAt Tryz.prog 123 [.agg [dL c120_dd a0]] (.agg [oL 120 c120_oo r]) := by
 unfold spec_l6Copy at h
 refine st lit123 rfl (rn 2 rfl (ls_seq_k fun K1 hK1 => rn 1 rfl ?_))
 obtain ⟨o1, hl, hr1⟩ := ob_some h
 have kXB1 : ∀ {z2 : List Y119}, z2 = o1 → Jn K1 [(2, .box [oL 120 c120_oo []]), (3, .box [oL 120 c120_oo z2])] := by
  intro z2 h σ' hk
  subst h
  replace h := hr1
  try dsimp only at h
  exact hK1 _ (lh hk rfl (rn 1 rfl (ls_ret ((by cases h; exact ⟨.inl rfl, rfl⟩)))))
 refine ls_rec (fun (s : (List Y119) × Int) => match s with | (y1, y2) => [(1, .box [dL c120_dd a0]), (2, .box [oL 120 c120_oo []]), (3, .box [oL 120 c120_oo y1]), (4, nI y2)]) _ _ _ _ hl (okr rfl) (fun _ => rfl) ?_
 rintro m ⟨y1, y2⟩ N h hN
 unfold spec_l6Copy_B1 at h
 dsimp only at h
 refine ls_seq_k fun K3 hK3 => rn 1 rfl ?_
 rcases cond_some h with ⟨g4, h⟩ | ⟨g4, h⟩
 ·refine qT rfl g4 (ls_skip (hK3 _ (ls_seq_k fun K5 hK5 => ls_blk (rs (sp 3 rfl (?_))))))
  obtain ⟨e6, g7, h⟩ := ob_some h
  refine qI rfl zc120_dd g7 (sp 2 rfl (?_))
  obtain ⟨v8, g9, h⟩ := ob_some h
  refine qC (qa rfl (erg (erc rfl (erc (erD ec53_d _) rfl))) eran) (spec_l5Copy_s g9) (sp 2 rfl (evn (rgd (by kernel_rfl) (sd 5 rfl (?_)))))
  obtain ⟨e10, g11, h⟩ := ob_some h
  refine ed rfl (qI rfl zc120_dd g11 (sd 4 rfl (ed rfl (qBs c120_oo [(e10.1, v8)] rfl rfl rfl zc120_oo (?_)))))
  obtain ⟨g12, h⟩ := chk_some h
  exact ed rfl (qA c120_oo y1 [(e10.1, v8)] rfl rfl (flat_len zc120_oo [(e10.1, v8)]) rfl g12 (sd 2 rfl (evdn (hK5 _ (rg (sp 3 rfl (evn (hN _ _ h (okr rfl)))))))))
 ·exact qF rfl g4 (ls_exit (kXB1 (Option.some.inj h) _ (okr rfl)))
def spec_l7Copy_B1 (a0 : Y54) (rec : ((List Y147) × Int) → Option ((List Y147))) (s : (List Y147) × Int) : Option ((List Y147)) := match s with
  | (y1, y2) => cond (decide (y2 < (List.length a0.2.1 : Int))) (obind (geti a0.2.1 y2) fun e7 => obind (geti a0.2.1 y2) fun e9 => chk (List.length ([] : List Int) + List.length e9.2 ≤ lim) (chk (List.length y1 + List.length ([(e7.1, ([] : List Int) ++ e9.2)]) ≤ lim) (rec ((y1 ++ ([(e7.1, ([] : List Int) ++ e9.2)])), (IntKind.i64.wrap (y2 + 1)))))) (some y1)
def spec_l7Copy (a0 : Y54) : Option (Y54) := chk (List.length ([] : List Int) + List.length a0.2.2 ≤ lim) (obind (loopF (spec_l7Copy_B1 a0) fz (([] : List Y147), 0)) fun z3 => some (a0.1, z3, ([] : List Int) ++ a0.2.2))
theorem spec_l7Copy_s {a0 : Y54} {r : Y54} (h : spec_l7Copy a0 = some r) : SoundAt Tryz.prog 125 [.agg (c55_ddd a0)] (.agg (c55_ooo r)) := by
 unfold spec_l7Copy at h
 refine st lit125 rfl (rn 1 rfl (rd (by kernel_rfl) (sd 2 rfl (ed rfl (qBs ci64 [] rfl rfl rfl zci64 (sd 2 rfl (?_)))))))
 obtain ⟨g1, h⟩ := chk_some h
 refine ed rfl (qA ci64 ([] : List Int) a0.2.2 rfl rfl (flat_len zci64 a0.2.2) (map_dg (fun _ => rfl) _) g1 (sd 3 rfl (evdn (ls_seq_k fun K2 hK2 => rn 1 rfl ?_))))
 obtain ⟨o1, hl, hr1⟩ := ob_some h
 have kXB1 : ∀ {z3 : List Y147}, z3 = o1 → Jn K2 [(2, .box [nI 0, oL 148 c148_o [], oL 3 ci64 []]), (3, .box [nI a0.1, oL 148 c148_o z3, oL 3 ci64 (([] : List Int) ++ a0.2.2)])] := by
  intro z3 h σ' hk
  subst h
  replace h := hr1
  try dsimp only at h
  exact hK2 _ (lh hk rfl (rn 1 rfl (ls_ret ((by cases h; exact ⟨.inl rfl, rfl⟩)))))
 refine ls_rec (fun (s : (List Y147) × Int) => match s with | (y1, y2) => [(1, .box [nI a0.1, dL c148_d a0.2.1, dL ci64 a0.2.2]), (2, .box [nI 0, oL 148 c148_o [], oL 3 ci64 []]), (3, .box [nI a0.1, oL 148 c148_o y1, oL 3 ci64 (([] : List Int) ++ a0.2.2)]), (4, nI y2)]) _ _ _ _ hl (okr rfl) (fun _ => rfl) ?_
 rintro m ⟨y1, y2⟩ N h hN
 unfold spec_l7Copy_B1 at h
 dsimp only at h
 refine ls_seq_k fun K4 hK4 => rn 1 rfl ?_
 rcases cond_some h with ⟨g5, h⟩ | ⟨g5, h⟩
 ·refine qT rfl g5 (ls_skip (hK4 _ (ls_seq_k fun K6 hK6 => ls_blk (rgd (by kernel_rfl) (sd 5 rfl (?_))))))
  obtain ⟨e7, g8, h⟩ := ob_some h
  refine ed rfl (qI rfl zc148_d g8 (sd 2 rfl (ed rfl (qBs ci64 [] rfl rfl rfl zci64 (sd 3 rfl (?_))))))
  obtain ⟨e9, g10, h⟩ := ob_some h
  refine ed rfl (qI rfl zc148_d g10 (sd 2 rfl (?_)))
  obtain ⟨g11, h⟩ := chk_some h
  refine ed rfl (qA ci64 ([] : List Int) e9.2 rfl rfl (flat_len zci64 e9.2) (map_dg (fun _ => rfl) _) g11 (sd 1 rfl (ed rfl (qBs c148_o [(e7.1, ([] : List Int) ++ e9.2)] rfl rfl rfl zc148_o (?_)))))
  obtain ⟨g12, h⟩ := chk_some h
  exact ed rfl (qA c148_o y1 ([(e7.1, ([] : List Int) ++ e9.2)]) rfl rfl (flat_len zc148_o ([(e7.1, ([] : List Int) ++ e9.2)])) rfl g12 (sd 2 rfl (evdn (hK6 _ (rg (sp 3 rfl (evn (hN _ _ h (okr rfl)))))))))
 ·exact qF rfl g5 (ls_exit (kXB1 (Option.some.inj h) _ (okr rfl)))
def spec_l39View (a0 : Y77) : Option (Y77) := obind (spec_l7Copy a0.1) fun v1 => obind (spec_NegateCounted a0.2) fun v3 => obind (spec_NegateCounted v3) fun v5 => some (v1, v5)
theorem spec_l39View_s {a0 : Y77} {r : Y77} (h : spec_l39View a0 = some r) : SoundAt Tryz.prog 124 [.agg (c78_dddddd a0)] (.agg (c78_oooooo r)) := by
 unfold spec_l39View at h
 refine st lit124 rfl (rn 1 rfl (rd (by kernel_rfl) (sd 2 rfl (?_))))
 obtain ⟨v1, g2, h⟩ := ob_some h
 refine ed rfl (qC (qa rfl (erg (erc rfl (erc (erD ec148_d _) (erc (erD eci64 _) rfl)))) eran) (spec_l7Copy_s g2) (sd 2 rfl (?_)))
 obtain ⟨v3, g4, h⟩ := ob_some h
 refine ed rfl (qC (qa rfl (erg (erc rfl (erc (erD ec53_d _) (erc (erD eci64 _) rfl)))) eran) (spec_NegateCounted_s g4) (?_))
 obtain ⟨v5, g6, h⟩ := ob_some h
 exact ed rfl (qC (qa rfl (erg (erc rfl (erc (erO ec53_o _) (erc (erO eci64 _) rfl)))) eran) (spec_NegateCounted_s g6) (sd 2 rfl (evdn (ls_ret ((by cases h; exact ⟨.inl rfl, rfl⟩))))))
def spec_l39Copy_B1 (a0 : Y36) (rec : ((List Y77) × Int) → Option ((List Y77))) (s : (List Y77) × Int) : Option ((List Y77)) := match s with
  | (y1, y2) => cond (decide (y2 < (List.length a0.2.1 : Int))) (obind (geti a0.2.1 y2) fun e8 => obind (spec_l39View e8) fun v10 => chk (List.length y1 + List.length [v10] ≤ lim) (rec ((y1 ++ [v10]), (IntKind.i64.wrap (y2 + 1))))) (some y1)
def spec_l39Copy_B2 (a0 : Y36) (rec : ((List Y75) × Int) → Option ((List Y75))) (s : (List Y75) × Int) : Option ((List Y75)) := match s with
  | (y3, y4) => cond (decide (y4 < (List.length a0.2.2 : Int))) (obind (geti a0.2.2 y4) fun e18 => obind (spec_NegateCounted e18) fun v20 => obind (spec_NegateCounted v20) fun v22 => chk (List.length y3 + List.length [v22] ≤ lim) (rec ((y3 ++ [v22]), (IntKind.i64.wrap (y4 + 1))))) (some y3)
def spec_l39Copy (a0 : Y36) : Option (Y36) := obind (spec_l6Copy a0.1) fun v1 => obind (loopF (spec_l39Copy_B1 a0) fz (([] : List Y77), 0)) fun z4 => obind (loopF (spec_l39Copy_B2 a0) fz (([] : List Y75), 0)) fun z14 => some (v1, z4, z14)
theorem spec_l39Copy_s {a0 : Y36} {r : Y36} (h : spec_l39Copy a0 = some r) : SoundAt Tryz.prog 63 [.agg (c37_dddddddddddddd a0)] (.agg (c37_oooooooooooooo r)) := by
 unfold spec_l39Copy at h
 refine st lit63 rfl (rn 1 rfl (rs (sp 2 rfl (?_))))
 obtain ⟨v1, g2, h⟩ := ob_some h
 refine qC (qa rfl (erg (erc (erD ec120_dd _) rfl)) eran) (spec_l6Copy_s g2) (sp 2 rfl (evn (rn 1 rfl (ls_seq_k fun K3 hK3 => rn 1 rfl ?_))))
 obtain ⟨o1, hl, hr1⟩ := ob_some h
 have kXB1 : ∀ {z4 : List Y77}, z4 = o1 → Jn K3 [(1, .box [dL c120_dd a0.1, dL c78_dddddd a0.2.1, dL c76_ddd a0.2.2]), (2, .box [oL 120 c120_oo [], oL 78 c78_oooooo [], oL 76 c76_ooo []]), (4, .box [oL 120 c120_oo v1, oL 78 c78_oooooo z4, oL 76 c76_ooo []])] := by
  intro z4 h σ' hk
  subst h
  replace h := hr1
  try dsimp only at h
  refine hK3 _ (lh hk rfl (ls_seq_k fun K13 hK13 => rn 1 rfl ?_))
  obtain ⟨o2, hl, hr2⟩ := ob_some h
  have kXB2 : ∀ {z14 : List Y75}, z14 = o2 → Jn K13 [(2, .box [oL 120 c120_oo [], oL 78 c78_oooooo [], oL 76 c76_ooo []]), (4, .box [oL 120 c120_oo v1, oL 78 c78_oooooo z4, oL 76 c76_ooo z14])] := by
   intro z14 h σ' hk
   subst h
   replace h := hr2
   try dsimp only at h
   exact hK13 _ (lh hk rfl (rn 1 rfl (ls_ret ((by cases h; exact ⟨.inl rfl, rfl⟩)))))
  refine ls_rec (fun (s : (List Y75) × Int) => match s with | (y3, y4) => [(1, .box [dL c120_dd a0.1, dL c78_dddddd a0.2.1, dL c76_ddd a0.2.2]), (2, .box [oL 120 c120_oo [], oL 78 c78_oooooo [], oL 76 c76_ooo []]), (4, .box [oL 120 c120_oo v1, oL 78 c78_oooooo z4, oL 76 c76_ooo y3]), (6, nI y4)]) _ _ _ _ hl (okr rfl) (fun _ => rfl) ?_
  rintro m ⟨y3, y4⟩ N h hN
  unfold spec_l39Copy_B2 at h
  dsimp only at h
  refine ls_seq_k fun K15 hK15 => rn 1 rfl ?_
  rcases cond_some h with ⟨g16, h⟩ | ⟨g16, h⟩
  ·refine qT rfl g16 (ls_skip (hK15 _ (ls_seq_k fun K17 hK17 => ls_blk (rgd (by kernel_rfl) (sd 5 rfl (?_))))))
   obtain ⟨e18, g19, h⟩ := ob_some h
   refine ed rfl (qI rfl zc76_ddd g19 (sd 1 rfl (?_)))
   obtain ⟨v20, g21, h⟩ := ob_some h
   refine ed rfl (qC (qa rfl (erg (erc rfl (erc (erD ec53_d _) (erc (erD eci64 _) rfl)))) eran) (spec_NegateCounted_s g21) (?_))
   obtain ⟨v22, g23, h⟩ := ob_some h
   refine ed rfl (qC (qa rfl (erg (erc rfl (erc (erO ec53_o _) (erc (erO eci64 _) rfl)))) eran) (spec_NegateCounted_s g23) (ed rfl (qBs c76_ooo [v22] rfl rfl rfl zc76_ooo (?_))))
   obtain ⟨g24, h⟩ := chk_some h
   exact ed rfl (qA c76_ooo y3 [v22] rfl rfl (flat_len zc76_ooo [v22]) rfl g24 (sd 2 rfl (evdn (hK17 _ (rg (sp 3 rfl (evn (hN _ _ h (okr rfl)))))))))
  ·exact qF rfl g16 (ls_exit (kXB2 (Option.some.inj h) _ (okr rfl)))
 refine ls_rec (fun (s : (List Y77) × Int) => match s with | (y1, y2) => [(1, .box [dL c120_dd a0.1, dL c78_dddddd a0.2.1, dL c76_ddd a0.2.2]), (2, .box [oL 120 c120_oo [], oL 78 c78_oooooo [], oL 76 c76_ooo []]), (4, .box [oL 120 c120_oo v1, oL 78 c78_oooooo y1, oL 76 c76_ooo []]), (5, nI y2)]) _ _ _ _ hl (okr rfl) (fun _ => rfl) ?_
 rintro m ⟨y1, y2⟩ N h hN
 unfold spec_l39Copy_B1 at h
 dsimp only at h
 refine ls_seq_k fun K5 hK5 => rn 1 rfl ?_
 rcases cond_some h with ⟨g6, h⟩ | ⟨g6, h⟩
 ·refine qT rfl g6 (ls_skip (hK5 _ (ls_seq_k fun K7 hK7 => ls_blk (rgd (by kernel_rfl) (sd 5 rfl (?_))))))
  obtain ⟨e8, g9, h⟩ := ob_some h
  refine ed rfl (qI rfl zc78_dddddd g9 (sd 1 rfl (?_)))
  obtain ⟨v10, g11, h⟩ := ob_some h
  refine ed rfl (qC (qa rfl (erg (erc rfl (erc (erD ec148_d _) (erc (erD eci64 _) (erc rfl (erc (erD ec53_d _) (erc (erD eci64 _) rfl))))))) eran) (spec_l39View_s g11) (ed rfl (qBs c78_oooooo [v10] rfl rfl rfl zc78_oooooo (?_))))
  obtain ⟨g12, h⟩ := chk_some h
  exact ed rfl (qA c78_oooooo y1 [v10] rfl rfl (flat_len zc78_oooooo [v10]) rfl g12 (sd 2 rfl (evdn (hK7 _ (rg (sp 3 rfl (evn (hN _ _ h (okr rfl)))))))))
 ·exact qF rfl g6 (ls_exit (kXB1 (Option.some.inj h) _ (okr rfl)))
def spec_NewView (a0 : List Y119) (a1 : Y54) : Option (Y77 × Bool) := obind (spec_l28Z a0 a1) fun v1 => cond (!v1.2) (some (((0, [], []), (0, [], [])), false)) (obind (spec_l7Copy a1) fun v5 => some ((v5, v1.1), true))
theorem spec_NewView_s {a0 : List Y119} {a1 : Y54} {r : Y77 × Bool} (h : spec_NewView a0 a1 = some r) : SoundAt Tryz.prog 64 [.agg [dL c120_dd a0], .agg (c55_ddd a1)] (.tup [.agg (c78_oooooo r.1), .bool r.2]) := by
 unfold spec_NewView at h
 refine st lit64 rfl (rn 1 rfl (rs (sp 2 rfl (?_))))
 obtain ⟨v1, g2, h⟩ := ob_some h
 refine qC (qa rfl (erg (erc (erD ec120_dd _) rfl)) (qa rfl (erg (erc rfl (erc (erD ec148_d _) (erc (erD eci64 _) rfl)))) eran)) (spec_l28Z_s g2) (sp 6 rfl (evn (ls_seq_k fun K3 hK3 => rn 1 rfl ?_)))
 rcases cond_some h with ⟨g4, h⟩ | ⟨g4, h⟩
 ·exact qT rfl g4 (rn 1 rfl (ls_ret ((by cases h; exact ⟨.inl rfl, rfl⟩))))
 ·refine qF rfl g4 (ls_skip (hK3 _ (rd (by kernel_rfl) (sd 1 rfl (?_)))))
  obtain ⟨v5, g6, h⟩ := ob_some h
  exact ed rfl (qC (qa rfl (erg (erc rfl (erc (erD ec148_d _) (erc (erD eci64 _) rfl)))) eran) (spec_l7Copy_s g6) (sd 4 rfl (evdn (ls_ret ((by cases h; exact ⟨.inl rfl, rfl⟩))))))
def spec_AddWatcher (a0 : Y36) (a1 : Y54) : Option (Y36 × Bool) := obind (spec_l39Copy a0) fun v1 => obind (spec_NewView a0.1 a1) fun v3 => obind (spec_IsValidNotifier a0) fun v6 => cond (!v6) (some (v1, false)) (cond (!v3.2) (some (v1, false)) (cond ((List.length a0.2.1 : Int) == 4) (some (v1, false)) (chk (List.length v1.2.1 + List.length [v3.1] ≤ lim) (obind (spec_NegateCounted v3.1.2) fun v12 => obind (spec_NegateCounted v12) fun v14 => chk (List.length v1.2.2 + List.length [v14] ≤ lim) (some ((v1.1, v1.2.1 ++ [v3.1], v1.2.2 ++ [v14]), true))))))
theorem spec_AddWatcher_s {a0 : Y36} {a1 : Y54} {r : Y36 × Bool} (h : spec_AddWatcher a0 a1 = some r) : SoundAt Tryz.prog 21 [.agg (c37_dddddddddddddd a0), .agg (c55_ddd a1)] (.tup [.agg (c37_oooooooooooooo r.1), .bool r.2]) := by
 unfold spec_AddWatcher at h
 refine st lit21 rfl (rn 1 rfl (rs (sp 1 rfl (?_))))
 obtain ⟨v1, g2, h⟩ := ob_some h
 refine qC (qa rfl (erg (erc (erD ec120_dd _) (erc (erD ec78_dddddd _) (erc (erD ec76_ddd _) rfl)))) eran) (spec_l39Copy_s g2) (sp 2 rfl (evn (rs (sp 3 rfl (?_)))))
 obtain ⟨v3, g4, h⟩ := ob_some h
 refine qC (qa rfl (erg (erc (erD ec120_dd _) rfl)) (qa rfl (erg (erc rfl (erc (erD ec148_d _) (erc (erD eci64 _) rfl)))) eran)) (spec_NewView_s g4) (sp 6 rfl (evn (ls_seq_k fun K5 hK5 => rs (sp 1 rfl (?_)))))
 obtain ⟨v6, g7, h⟩ := ob_some h
 refine qC (qa rfl (erg (erc (erD ec120_dd _) (erc (erD ec78_dddddd _) (erc (erD ec76_ddd _) rfl)))) eran) (spec_IsValidNotifier_s g7) (sp 2 rfl (?_))
 rcases cond_some h with ⟨g8, h⟩ | ⟨g8, h⟩
 ·exact qg 21 g8 rfl (sp 9 rfl (evn (qT rfl rfl (rn 1 rfl (qk [4, 5] rfl (ls_ret ((by cases h; exact ⟨.inl rfl, rfl⟩))))))))
 ·refine qg 21 g8 rfl (sp 4 rfl (?_))
  rcases cond_some h with ⟨g9, h⟩ | ⟨g9, h⟩
  ·exact qg 25 g9 rfl (sp 5 rfl (evn (qT rfl rfl (rn 1 rfl (ls_ret ((by cases h; exact ⟨.inl rfl, rfl⟩)))))))
  ·refine qg 25 g9 rfl (sp 5 rfl (evn ?_))
   rcases cond_some h with ⟨g10, h⟩ | ⟨g10, h⟩
   ·exact qT rfl g10 (rn 1 rfl (ls_ret ((by cases h; exact ⟨.inl rfl, rfl⟩))))
   ·refine qF rfl g10 (ls_skip (hK5 _ (rs (sp 3 rfl (qBs c78_oooooo [v3.1] rfl rfl rfl zc78_oooooo (?_))))))
    obtain ⟨g11, h⟩ := chk_some h
    refine qA c78_oooooo v1.2.1 [v3.1] rfl rfl (flat_len zc78_oooooo [v3.1]) rfl g11 (sp 2 rfl (evn (qk [4, 6, 7] rfl (rd (by kernel_rfl) (sd 4 rfl (?_))))))
    obtain ⟨v12, g13, h⟩ := ob_some h
    refine ed rfl (qC (qa rfl (erg (erc rfl (erc (erD ec53_o _) (erc (erD eci64 _) rfl)))) eran) (spec_NegateCounted_s g13) (?_))
    obtain ⟨v14, g15, h⟩ := ob_some h
    refine ed rfl (qC (qa rfl (erg (erc rfl (erc (erO ec53_o _) (erc (erO eci64 _) rfl)))) eran) (spec_NegateCounted_s g15) (ed rfl (qBs c76_ooo [v14] rfl rfl rfl zc76_ooo (?_))))
    obtain ⟨g16, h⟩ := chk_some h
    exact ed rfl (qA c76_ooo v1.2.2 [v14] rfl rfl (flat_len zc76_ooo [v14]) rfl g16 (sd 2 rfl (evdn (rn 1 rfl (ls_ret ((by cases h; exact ⟨.inl rfl, rfl⟩)))))))
def laws_heldIntS_B1 (a0 : List Int) (rec : (Int × Int) → Option (Sum (Int) (Int))) (s : Int × Int) : Option (Sum (Int) (Int)) := match s with
  | (y1, y2) => cond (decide (y2 < (List.length a0 : Int))) (obind (geti a0 y2) fun e7 => cond (e7 != y1) (some (.inr (-1))) (rec ((IntKind.i64.wrap (y1 + 1)), (IntKind.i64.wrap (y2 + 1))))) (some (.inl y1))
def laws_heldIntS (a0 : List Int) (a1 : Int) : Option (Int) := obind (loopF (laws_heldIntS_B1 a0) fz (a1, 0)) fun o1 => (match o1 with
  | .inl z2 => (some z2)
  | .inr r => some r)
theorem laws_heldIntS_s {a0 : List Int} {a1 : Int} {r : Int} (h : laws_heldIntS a0 a1 = some r) : SoundAt Tryz.prog 105 [dL ci64 a0, nI a1] (nI r) := by
 unfold laws_heldIntS at h
 refine st lit105 rfl (rn 1 rfl (ls_seq_k fun K1 hK1 => rn 1 rfl ?_))
 obtain ⟨o1, hl, hr1⟩ := ob_some h
 have kXB1 : ∀ {z2 : Int}, (.inl z2) = o1 → Jn K1 [(1, nI z2)] := by
  intro z2 h σ' hk
  subst h
  replace h := hr1
  try dsimp only at h
  exact hK1 _ (lh hk rfl (rn 1 rfl (ls_ret ((by cases h; exact ⟨.inl rfl, rfl⟩)))))
 refine ls_rec (fun (s : Int × Int) => match s with | (y1, y2) => [(0, dL ci64 a0), (1, nI y1), (5, nI y2)]) _ _ _ _ hl (okr rfl) (fun _ => rfl) ?_
 rintro m ⟨y1, y2⟩ N h hN
 unfold laws_heldIntS_B1 at h
 dsimp only at h
 refine ls_seq_k fun K3 hK3 => rn 1 rfl ?_
 rcases cond_some h with ⟨g4, h⟩ | ⟨g4, h⟩
 ·refine qT rfl g4 (ls_skip (hK3 _ (ls_seq_k fun K5 hK5 => ls_blk (ls_seq_k fun K6 hK6 => rs (sp 2 rfl (?_))))))
  obtain ⟨e7, g8, h⟩ := ob_some h
  refine qI rfl zci64 g8 (sp 3 rfl (evn ?_))
  rcases cond_some h with ⟨g9, h⟩ | ⟨g9, h⟩
  ·exact qT rfl g9 (rn 1 rfl (ls_ret ((by cases h; cases hr1; exact ⟨.inl rfl, rfl⟩))))
  ·exact qF rfl g9 (ls_skip (hK6 _ (rg (sp 3 rfl (evn (hK5 _ (rg (sp 3 rfl (evn (hN _ _ h (okr rfl)))))))))))
 ·exact qF rfl g4 (ls_exit (kXB1 (Option.some.inj h) _ (okr rfl)))
def laws_heldIntSS_B1 (a0 : List (List Int)) (rec : (Int × Int) → Option (Sum (Int) (Int))) (s : Int × Int) : Option (Sum (Int) (Int)) := match s with
  | (y1, y2) => cond (decide (y2 < (List.length a0 : Int))) (obind (geti a0 y2) fun e6 => obind (laws_heldIntS e6 y1) fun v8 => cond (decide (v8 < 0)) (some (.inr (-1))) (rec (v8, (IntKind.i64.wrap (y2 + 1))))) (some (.inl y1))
def laws_heldIntSS (a0 : List (List Int)) (a1 : Int) : Option (Int) := obind (loopF (laws_heldIntSS_B1 a0) fz (a1, 0)) fun o1 => (match o1 with
  | .inl z2 => (some z2)
  | .inr r => some r)
theorem laws_heldIntSS_s {a0 : List (List Int)} {a1 : Int} {r : Int} (h : laws_heldIntSS a0 a1 = some r) : SoundAt Tryz.prog 56 [dL c53_d a0, nI a1] (nI r) := by
 unfold laws_heldIntSS at h
 refine st lit56 rfl (rn 1 rfl (ls_seq_k fun K1 hK1 => rn 1 rfl ?_))
 obtain ⟨o1, hl, hr1⟩ := ob_some h
 have kXB1 : ∀ {z2 : Int}, (.inl z2) = o1 → Jn K1 [(1, nI z2)] := by
  intro z2 h σ' hk
  subst h
  replace h := hr1
  try dsimp only at h
  exact hK1 _ (lh hk rfl (rn 1 rfl (ls_ret ((by cases h; exact ⟨.inl rfl, rfl⟩)))))
 refine ls_rec (fun (s : Int × Int) => match s with | (y1, y2) => [(0, dL c53_d a0), (1, nI y1), (5, nI y2)]) _ _ _ _ hl (okr rfl) (fun _ => rfl) ?_
 rintro m ⟨y1, y2⟩ N h hN
 unfold laws_heldIntSS_B1 at h
 dsimp only at h
 refine ls_seq_k fun K3 hK3 => rn 1 rfl ?_
 rcases cond_some h with ⟨g4, h⟩ | ⟨g4, h⟩
 ·refine qT rfl g4 (ls_skip (hK3 _ (ls_seq_k fun K5 hK5 => ls_blk (rs (sp 2 rfl (?_))))))
  obtain ⟨e6, g7, h⟩ := ob_some h
  refine qI rfl zc53_d g7 (sp 2 rfl (?_))
  obtain ⟨v8, g9, h⟩ := ob_some h
  refine qC (qa rfl (erD eci64 _) (qs rfl eran)) (laws_heldIntS_s g9) (sp 1 rfl (evn (rn 1 rfl ?_)))
  rcases cond_some h with ⟨g10, h⟩ | ⟨g10, h⟩
  ·exact qT rfl g10 (rn 1 rfl (ls_ret ((by cases h; cases hr1; exact ⟨.inl rfl, rfl⟩))))
  ·exact qF rfl g10 (ls_skip (hK5 _ (rg (sp 3 rfl (evn (hN _ _ h (okr rfl)))))))
 ·exact qF rfl g4 (ls_exit (kXB1 (Option.some.inj h) _ (okr rfl)))
def laws_heldTableS_B1 (a0 : List Y119) (rec : (Int × Int) → Option (Sum (Int) (Int))) (s : Int × Int) : Option (Sum (Int) (Int)) := match s with
  | (y1, y2) => cond (decide (y2 < (List.length a0 : Int))) (obind (geti a0 y2) fun e7 => obind (laws_markText y1) fun v9 => cond (!(e7.1 == v9)) (some (.inr (-1))) (obind (geti a0 y2) fun e13 => cond (e13.2.1 != (IntKind.i64.wrap (y1 + 1))) (some (.inr (-1))) (obind (geti a0 y2) fun e16 => obind (laws_heldIntSS e16.2.2 (IntKind.i64.wrap ((IntKind.i64.wrap (y1 + 1)) + 1))) fun v18 => cond (decide (v18 < 0)) (some (.inr (-1))) (rec (v18, (IntKind.i64.wrap (y2 + 1))))))) (some (.inl y1))
def laws_heldTableS (a0 : List Y119) (a1 : Int) : Option (Int) := obind (loopF (laws_heldTableS_B1 a0) fz (a1, 0)) fun o1 => (match o1 with
  | .inl z2 => (some z2)
  | .inr r => some r)
theorem laws_heldTableS_s {a0 : List Y119} {a1 : Int} {r : Int} (h : laws_heldTableS a0 a1 = some r) : SoundAt Tryz.prog 138 [dL c120_dd a0, nI a1] (nI r) := by
 unfold laws_heldTableS at h
 refine st lit138 rfl (rn 1 rfl (ls_seq_k fun K1 hK1 => rn 1 rfl ?_))
 obtain ⟨o1, hl, hr1⟩ := ob_some h
 have kXB1 : ∀ {z2 : Int}, (.inl z2) = o1 → Jn K1 [(1, nI z2)] := by
  intro z2 h σ' hk
  subst h
  replace h := hr1
  try dsimp only at h
  exact hK1 _ (lh hk rfl (rn 1 rfl (ls_ret ((by cases h; exact ⟨.inl rfl, rfl⟩)))))
 refine ls_rec (fun (s : Int × Int) => match s with | (y1, y2) => [(0, dL c120_dd a0), (1, nI y1), (5, nI y2)]) _ _ _ _ hl (okr rfl) (fun _ => rfl) ?_
 rintro m ⟨y1, y2⟩ N h hN
 unfold laws_heldTableS_B1 at h
 dsimp only at h
 refine ls_seq_k fun K3 hK3 => rn 1 rfl ?_
 rcases cond_some h with ⟨g4, h⟩ | ⟨g4, h⟩
 ·refine qT rfl g4 (ls_skip (hK3 _ (ls_seq_k fun K5 hK5 => ls_blk (ls_seq_k fun K6 hK6 => rd (by kernel_rfl) (sd 2 rfl (?_))))))
  obtain ⟨e7, g8, h⟩ := ob_some h
  refine ed rfl (qI rfl zc120_dd g8 (sd 3 rfl (?_)))
  obtain ⟨v9, g10, h⟩ := ob_some h
  refine ed rfl (qC (qs rfl eran) (laws_markText_s g10) (sd 1 rfl (evdn ?_)))
  rcases cond_some h with ⟨g11, h⟩ | ⟨g11, h⟩
  ·exact qT rfl g11 (rn 1 rfl (ls_ret ((by cases h; cases hr1; exact ⟨.inl rfl, rfl⟩))))
  ·refine qF rfl g11 (ls_skip (hK6 _ (rn 1 rfl (ls_seq_k fun K12 hK12 => rs (sp 2 rfl (?_))))))
   obtain ⟨e13, g14, h⟩ := ob_some h
   refine qI rfl zc120_dd g14 (sp 5 rfl (evn (qk [0, 1, 5, 29] rfl ?_)))
   rcases cond_some h with ⟨g15, h⟩ | ⟨g15, h⟩
   ·exact qT rfl g15 (rn 1 rfl (ls_ret ((by cases h; cases hr1; exact ⟨.inl rfl, rfl⟩))))
   ·refine qF rfl g15 (ls_skip (hK12 _ (rn 1 rfl (rs (sp 2 rfl (?_))))))
    obtain ⟨e16, g17, h⟩ := ob_some h
    refine qI rfl zc120_dd g17 (sp 4 rfl (?_))
    obtain ⟨v18, g19, h⟩ := ob_some h
    refine qC (qa rfl (erD ec53_d _) (qs rfl eran)) (laws_heldIntSS_s g19) (sp 1 rfl (evn (rn 1 rfl ?_)))
    rcases cond_some h with ⟨g20, h⟩ | ⟨g20, h⟩
    ·exact qT rfl g20 (rn 1 rfl (ls_ret ((by cases h; cases hr1; exact ⟨.inl rfl, rfl⟩))))
    ·exact qF rfl g20 (ls_skip (hK5 _ (qk [0, 1, 5] rfl (rg (sp 3 rfl (evn (hN _ _ h (okr rfl))))))))
 ·exact qF rfl g4 (ls_exit (kXB1 (Option.some.inj h) _ (okr rfl)))
def laws_heldDatabase (a0 : List Y119) (a1 : Int) : Option (Int) := obind (laws_heldTableS a0 a1) fun v1 => cond (decide (v1 < 0)) (some (-1)) (some v1)
theorem laws_heldDatabase_s {a0 : List Y119} {a1 : Int} {r : Int} (h : laws_heldDatabase a0 a1 = some r) : SoundAt Tryz.prog 83 [.agg [dL c120_dd a0], nI a1] (nI r) := by
 unfold laws_heldDatabase at h
 refine st lit83 rfl (rn 1 rfl (rs (sp 3 rfl (?_))))
 obtain ⟨v1, g2, h⟩ := ob_some h
 refine qC (qa rfl (erD ec120_dd _) (qs rfl eran)) (laws_heldTableS_s g2) (sp 1 rfl (evn (ls_seq_k fun K3 hK3 => rn 1 rfl ?_)))
 rcases cond_some h with ⟨g4, h⟩ | ⟨g4, h⟩
 ·exact qT rfl g4 (rn 1 rfl (ls_ret ((by cases h; exact ⟨.inl rfl, rfl⟩))))
 ·exact qF rfl g4 (ls_skip (hK3 _ (rn 1 rfl (ls_ret ((by cases h; exact ⟨.inl rfl, rfl⟩))))))
def laws_heldAtomS_B1 (a0 : List Y147) (rec : (Int × Int) → Option (Sum (Int) (Int))) (s : Int × Int) : Option (Sum (Int) (Int)) := match s with
  | (y1, y2) => cond (decide (y2 < (List.length a0 : Int))) (obind (geti a0 y2) fun e7 => obind (laws_markText y1) fun v9 => cond (!(e7.1 == v9)) (some (.inr (-1))) (obind (geti a0 y2) fun e12 => obind (laws_heldIntS e12.2 (IntKind.i64.wrap (y1 + 1))) fun v14 => cond (decide (v14 < 0)) (some (.inr (-1))) (rec (v14, (IntKind.i64.wrap (y2 + 1)))))) (some (.inl y1))
def laws_heldAtomS (a0 : List Y147) (a1 : Int) : Option (Int) := obind (loopF (laws_heldAtomS_B1 a0) fz (a1, 0)) fun o1 => (match o1 with
  | .inl z2 => (some z2)
  | .inr r => some r)
theorem laws_heldAtomS_s {a0 : List Y147} {a1 : Int} {r : Int} (h : laws_heldAtomS a0 a1 = some r) : SoundAt Tryz.prog 139 [dL c148_d a0, nI a1] (nI r) := by
 unfold laws_heldAtomS at h
 refine st lit139 rfl (rn 1 rfl (ls_seq_k fun K1 hK1 => rn 1 rfl ?_))
 obtain ⟨o1, hl, hr1⟩ := ob_some h
 have kXB1 : ∀ {z2 : Int}, (.inl z2) = o1 → Jn K1 [(1, nI z2)] := by
  intro z2 h σ' hk
  subst h
  replace h := hr1
  try dsimp only at h
  exact hK1 _ (lh hk rfl (rn 1 rfl (ls_ret ((by cases h; exact ⟨.inl rfl, rfl⟩)))))
 refine ls_rec (fun (s : Int × Int) => match s with | (y1, y2) => [(0, dL c148_d a0), (1, nI y1), (5, nI y2)]) _ _ _ _ hl (okr rfl) (fun _ => rfl) ?_
 rintro m ⟨y1, y2⟩ N h hN
 unfold laws_heldAtomS_B1 at h
 dsimp only at h
 refine ls_seq_k fun K3 hK3 => rn 1 rfl ?_
 rcases cond_some h with ⟨g4, h⟩ | ⟨g4, h⟩
 ·refine qT rfl g4 (ls_skip (hK3 _ (ls_seq_k fun K5 hK5 => ls_blk (ls_seq_k fun K6 hK6 => rd (by kernel_rfl) (sd 2 rfl (?_))))))
  obtain ⟨e7, g8, h⟩ := ob_some h
  refine ed rfl (qI rfl zc148_d g8 (sd 3 rfl (?_)))
  obtain ⟨v9, g10, h⟩ := ob_some h
  refine ed rfl (qC (qs rfl eran) (laws_markText_s g10) (sd 1 rfl (evdn ?_)))
  rcases cond_some h with ⟨g11, h⟩ | ⟨g11, h⟩
  ·exact qT rfl g11 (rn 1 rfl (ls_ret ((by cases h; cases hr1; exact ⟨.inl rfl, rfl⟩))))
  ·refine qF rfl g11 (ls_skip (hK6 _ (rn 1 rfl (rs (sp 2 rfl (?_))))))
   obtain ⟨e12, g13, h⟩ := ob_some h
   refine qI rfl zc148_d g13 (sp 3 rfl (?_))
   obtain ⟨v14, g15, h⟩ := ob_some h
   refine qC (qa rfl (erD eci64 _) (qs rfl eran)) (laws_heldIntS_s g15) (sp 1 rfl (evn (qk [0, 1, 5] rfl (rn 1 rfl ?_))))
   rcases cond_some h with ⟨g16, h⟩ | ⟨g16, h⟩
   ·exact qT rfl g16 (rn 1 rfl (ls_ret ((by cases h; cases hr1; exact ⟨.inl rfl, rfl⟩))))
   ·exact qF rfl g16 (ls_skip (hK5 _ (rg (sp 3 rfl (evn (hN _ _ h (okr rfl)))))))
 ·exact qF rfl g4 (ls_exit (kXB1 (Option.some.inj h) _ (okr rfl)))
def laws_heldViewS_B1 (a0 : List Y77) (rec : (Int × Int) → Option (Sum (Int) (Int))) (s : Int × Int) : Option (Sum (Int) (Int)) := match s with
  | (y1, y2) => cond (decide (y2 < (List.length a0 : Int))) (obind (geti a0 y2) fun e7 => cond (e7.1.1 != y1) (some (.inr (-1))) (obind (geti a0 y2) fun e10 => obind (laws_heldAtomS e10.1.2.1 (IntKind.i64.wrap (y1 + 1))) fun v12 => cond (decide (v12 < 0)) (some (.inr (-1))) (obind (geti a0 y2) fun e16 => obind (laws_heldIntS e16.1.2.2 v12) fun v18 => cond (decide (v18 < 0)) (some (.inr (-1))) (obind (geti a0 y2) fun e23 => cond (e23.2.1 != v18) (some (.inr (-1))) (obind (geti a0 y2) fun e26 => obind (laws_heldIntSS e26.2.2.1 (IntKind.i64.wrap (v18 + 1))) fun v28 => cond (decide (v28 < 0)) (some (.inr (-1))) (obind (geti a0 y2) fun e32 => obind (laws_heldIntS e32.2.2.2 v28) fun v34 => cond (decide (v34 < 0)) (some (.inr (-1))) (rec (v34, (IntKind.i64.wrap (y2 + 1)))))))))) (some (.inl y1))
def laws_heldViewS (a0 : List Y77) (a1 : Int) : Option (Int) := obind (loopF (laws_heldViewS_B1 a0) fz (a1, 0)) fun o1 => (match o1 with
  | .inl z2 => (some z2)
  | .inr r => some r)
theorem laws_heldViewS_s {a0 : List Y77} {a1 : Int} {r : Int} (h : laws_heldViewS a0 a1 = some r) : SoundAt Tryz.prog 84 [dL c78_dddddd a0, nI a1] (nI r) := by
 unfold laws_heldViewS at h
 refine st lit84 rfl (rn 1 rfl (ls_seq_k fun K1 hK1 => rn 1 rfl ?_))
 obtain ⟨o1, hl, hr1⟩ := ob_some h
 have kXB1 : ∀ {z2 : Int}, (.inl z2) = o1 → Jn K1 [(1, nI z2)] := by
  intro z2 h σ' hk
  subst h
  replace h := hr1
  try dsimp only at h
  exact hK1 _ (lh hk rfl (rn 1 rfl (ls_ret ((by cases h; exact ⟨.inl rfl, rfl⟩)))))
 refine ls_rec (fun (s : Int × Int) => match s with | (y1, y2) => [(0, dL c78_dddddd a0), (1, nI y1), (5, nI y2)]) _ _ _ _ hl (okr rfl) (fun _ => rfl) ?_
 rintro m ⟨y1, y2⟩ N h hN
 unfold laws_heldViewS_B1 at h
 dsimp only at h
 refine ls_seq_k fun K3 hK3 => rn 1 rfl ?_
 rcases cond_some h with ⟨g4, h⟩ | ⟨g4, h⟩
 ·refine qT rfl g4 (ls_skip (hK3 _ (ls_seq_k fun K5 hK5 => ls_blk (ls_seq_k fun K6 hK6 => rs (sp 2 rfl (?_))))))
  obtain ⟨e7, g8, h⟩ := ob_some h
  refine qI rfl zc78_dddddd g8 (sp 5 rfl (evn ?_))
  rcases cond_some h with ⟨g9, h⟩ | ⟨g9, h⟩
  ·exact qT rfl g9 (rn 1 rfl (ls_ret ((by cases h; cases hr1; exact ⟨.inl rfl, rfl⟩))))
  ·refine qF rfl g9 (ls_skip (hK6 _ (rn 1 rfl (rs (sp 2 rfl (?_))))))
   obtain ⟨e10, g11, h⟩ := ob_some h
   refine qI rfl zc78_dddddd g11 (sp 4 rfl (?_))
   obtain ⟨v12, g13, h⟩ := ob_some h
   refine qC (qa rfl (erD ec148_d _) (qs rfl eran)) (laws_heldAtomS_s g13) (sp 1 rfl (evn (qk [0, 1, 5] rfl (ls_seq_k fun K14 hK14 => rn 1 rfl ?_))))
   rcases cond_some h with ⟨g15, h⟩ | ⟨g15, h⟩
   ·exact qT rfl g15 (rn 1 rfl (ls_ret ((by cases h; cases hr1; exact ⟨.inl rfl, rfl⟩))))
   ·refine qF rfl g15 (ls_skip (hK14 _ (rs (sp 2 rfl (?_)))))
    obtain ⟨e16, g17, h⟩ := ob_some h
    refine qI rfl zc78_dddddd g17 (sp 4 rfl (?_))
    obtain ⟨v18, g19, h⟩ := ob_some h
    refine qC (qa rfl (erD eci64 _) (qs rfl eran)) (laws_heldIntS_s g19) (sp 1 rfl (evn (ls_seq_k fun K20 hK20 => rn 1 rfl ?_)))
    rcases cond_some h with ⟨g21, h⟩ | ⟨g21, h⟩
    ·exact qT rfl g21 (rn 1 rfl (ls_ret ((by cases h; cases hr1; exact ⟨.inl rfl, rfl⟩))))
    ·refine qF rfl g21 (ls_skip (hK20 _ (qk [0, 1, 5] rfl (ls_seq_k fun K22 hK22 => rs (sp 2 rfl (?_))))))
     obtain ⟨e23, g24, h⟩ := ob_some h
     refine qI rfl zc78_dddddd g24 (sp 5 rfl (evn ?_))
     rcases cond_some h with ⟨g25, h⟩ | ⟨g25, h⟩
     ·exact qT rfl g25 (rn 1 rfl (ls_ret ((by cases h; cases hr1; exact ⟨.inl rfl, rfl⟩))))
     ·refine qF rfl g25 (ls_skip (hK22 _ (rn 1 rfl (rs (sp 2 rfl (?_))))))
      obtain ⟨e26, g27, h⟩ := ob_some h
      refine qI rfl zc78_dddddd g27 (sp 4 rfl (?_))
      obtain ⟨v28, g29, h⟩ := ob_some h
      refine qC (qa rfl (erD ec53_d _) (qs rfl eran)) (laws_heldIntSS_s g29) (sp 1 rfl (evn (ls_seq_k fun K30 hK30 => rn 1 rfl (qk [0, 1, 5, 61] rfl ?_))))
      rcases cond_some h with ⟨g31, h⟩ | ⟨g31, h⟩
      ·exact qT rfl g31 (rn 1 rfl (ls_ret ((by cases h; cases hr1; exact ⟨.inl rfl, rfl⟩))))
      ·refine qF rfl g31 (ls_skip (hK30 _ (rs (sp 2 rfl (?_)))))
       obtain ⟨e32, g33, h⟩ := ob_some h
       refine qI rfl zc78_dddddd g33 (sp 4 rfl (?_))
       obtain ⟨v34, g35, h⟩ := ob_some h
       refine qC (qa rfl (erD eci64 _) (qs rfl eran)) (laws_heldIntS_s g35) (sp 1 rfl (evn (rn 1 rfl ?_)))
       rcases cond_some h with ⟨g36, h⟩ | ⟨g36, h⟩
       ·exact qT rfl g36 (rn 1 rfl (ls_ret ((by cases h; cases hr1; exact ⟨.inl rfl, rfl⟩))))
       ·exact qF rfl g36 (ls_skip (hK5 _ (rg (sp 3 rfl (evn (hN _ _ h (okr rfl)))))))
 ·exact qF rfl g4 (ls_exit (kXB1 (Option.some.inj h) _ (okr rfl)))
def laws_heldCountedRelationS_B1 (a0 : List Y75) (rec : (Int × Int) → Option (Sum (Int) (Int))) (s : Int × Int) : Option (Sum (Int) (Int)) := match s with
  | (y1, y2) => cond (decide (y2 < (List.length a0 : Int))) (obind (geti a0 y2) fun e7 => cond (e7.1 != y1) (some (.inr (-1))) (obind (geti a0 y2) fun e10 => obind (laws_heldIntSS e10.2.1 (IntKind.i64.wrap (y1 + 1))) fun v12 => cond (decide (v12 < 0)) (some (.inr (-1))) (obind (geti a0 y2) fun e16 => obind (laws_heldIntS e16.2.2 v12) fun v18 => cond (decide (v18 < 0)) (some (.inr (-1))) (rec (v18, (IntKind.i64.wrap (y2 + 1))))))) (some (.inl y1))
def laws_heldCountedRelationS (a0 : List Y75) (a1 : Int) : Option (Int) := obind (loopF (laws_heldCountedRelationS_B1 a0) fz (a1, 0)) fun o1 => (match o1 with
  | .inl z2 => (some z2)
  | .inr r => some r)
theorem laws_heldCountedRelationS_s {a0 : List Y75} {a1 : Int} {r : Int} (h : laws_heldCountedRelationS a0 a1 = some r) : SoundAt Tryz.prog 85 [dL c76_ddd a0, nI a1] (nI r) := by
 unfold laws_heldCountedRelationS at h
 refine st lit85 rfl (rn 1 rfl (ls_seq_k fun K1 hK1 => rn 1 rfl ?_))
 obtain ⟨o1, hl, hr1⟩ := ob_some h
 have kXB1 : ∀ {z2 : Int}, (.inl z2) = o1 → Jn K1 [(1, nI z2)] := by
  intro z2 h σ' hk
  subst h
  replace h := hr1
  try dsimp only at h
  exact hK1 _ (lh hk rfl (rn 1 rfl (ls_ret ((by cases h; exact ⟨.inl rfl, rfl⟩)))))
 refine ls_rec (fun (s : Int × Int) => match s with | (y1, y2) => [(0, dL c76_ddd a0), (1, nI y1), (5, nI y2)]) _ _ _ _ hl (okr rfl) (fun _ => rfl) ?_
 rintro m ⟨y1, y2⟩ N h hN
 unfold laws_heldCountedRelationS_B1 at h
 dsimp only at h
 refine ls_seq_k fun K3 hK3 => rn 1 rfl ?_
 rcases cond_some h with ⟨g4, h⟩ | ⟨g4, h⟩
 ·refine qT rfl g4 (ls_skip (hK3 _ (ls_seq_k fun K5 hK5 => ls_blk (ls_seq_k fun K6 hK6 => rs (sp 2 rfl (?_))))))
  obtain ⟨e7, g8, h⟩ := ob_some h
  refine qI rfl zc76_ddd g8 (sp 4 rfl (evn ?_))
  rcases cond_some h with ⟨g9, h⟩ | ⟨g9, h⟩
  ·exact qT rfl g9 (rn 1 rfl (ls_ret ((by cases h; cases hr1; exact ⟨.inl rfl, rfl⟩))))
  ·refine qF rfl g9 (ls_skip (hK6 _ (rn 1 rfl (rs (sp 2 rfl (?_))))))
   obtain ⟨e10, g11, h⟩ := ob_some h
   refine qI rfl zc76_ddd g11 (sp 3 rfl (?_))
   obtain ⟨v12, g13, h⟩ := ob_some h
   refine qC (qa rfl (erD ec53_d _) (qs rfl eran)) (laws_heldIntSS_s g13) (sp 1 rfl (evn (qk [0, 1, 5] rfl (ls_seq_k fun K14 hK14 => rn 1 rfl ?_))))
   rcases cond_some h with ⟨g15, h⟩ | ⟨g15, h⟩
   ·exact qT rfl g15 (rn 1 rfl (ls_ret ((by cases h; cases hr1; exact ⟨.inl rfl, rfl⟩))))
   ·refine qF rfl g15 (ls_skip (hK14 _ (rs (sp 2 rfl (?_)))))
    obtain ⟨e16, g17, h⟩ := ob_some h
    refine qI rfl zc76_ddd g17 (sp 3 rfl (?_))
    obtain ⟨v18, g19, h⟩ := ob_some h
    refine qC (qa rfl (erD eci64 _) (qs rfl eran)) (laws_heldIntS_s g19) (sp 1 rfl (evn (rn 1 rfl ?_)))
    rcases cond_some h with ⟨g20, h⟩ | ⟨g20, h⟩
    ·exact qT rfl g20 (rn 1 rfl (ls_ret ((by cases h; cases hr1; exact ⟨.inl rfl, rfl⟩))))
    ·exact qF rfl g20 (ls_skip (hK5 _ (qk [0, 1, 5] rfl (rg (sp 3 rfl (evn (hN _ _ h (okr rfl))))))))
 ·exact qF rfl g4 (ls_exit (kXB1 (Option.some.inj h) _ (okr rfl)))
def laws_heldNotifier (a0 : Y36) (a1 : Int) : Option (Int) := obind (laws_heldDatabase a0.1 a1) fun v1 => cond (decide (v1 < 0)) (some (-1)) (obind (laws_heldViewS a0.2.1 v1) fun v5 => cond (decide (v5 < 0)) (some (-1)) (obind (laws_heldCountedRelationS a0.2.2 v5) fun v9 => cond (decide (v9 < 0)) (some (-1)) (some v9)))
theorem laws_heldNotifier_s {a0 : Y36} {a1 : Int} {r : Int} (h : laws_heldNotifier a0 a1 = some r) : SoundAt Tryz.prog 31 [.agg (c37_dddddddddddddd a0), nI a1] (nI r) := by
 unfold laws_heldNotifier at h
 refine st lit31 rfl (rn 1 rfl (rs (sp 3 rfl (?_))))
 obtain ⟨v1, g2, h⟩ := ob_some h
 refine qC (qa rfl (erg (erc (erD ec120_dd _) rfl)) (qs rfl eran)) (laws_heldDatabase_s g2) (sp 1 rfl (evn (ls_seq_k fun K3 hK3 => rn 1 rfl ?_)))
 rcases cond_some h with ⟨g4, h⟩ | ⟨g4, h⟩
 ·exact qT rfl g4 (rn 1 rfl (ls_ret ((by cases h; exact ⟨.inl rfl, rfl⟩))))
 ·refine qF rfl g4 (ls_skip (hK3 _ (rs (sp 3 rfl (?_)))))
  obtain ⟨v5, g6, h⟩ := ob_some h
  refine qC (qa rfl (erD ec78_dddddd _) (qs rfl eran)) (laws_heldViewS_s g6) (sp 1 rfl (evn (ls_seq_k fun K7 hK7 => rn 1 rfl ?_)))
  rcases cond_some h with ⟨g8, h⟩ | ⟨g8, h⟩
  ·exact qT rfl g8 (rn 1 rfl (qk [4] rfl (ls_ret ((by cases h; exact ⟨.inl rfl, rfl⟩)))))
  ·refine qF rfl g8 (ls_skip (hK7 _ (rs (sp 3 rfl (?_)))))
   obtain ⟨v9, g10, h⟩ := ob_some h
   refine qC (qa rfl (erD ec76_ddd _) (qs rfl eran)) (laws_heldCountedRelationS_s g10) (sp 1 rfl (evn (ls_seq_k fun K11 hK11 => rn 1 rfl ?_)))
   rcases cond_some h with ⟨g12, h⟩ | ⟨g12, h⟩
   ·exact qT rfl g12 (rn 1 rfl (ls_ret ((by cases h; exact ⟨.inl rfl, rfl⟩))))
   ·exact qF rfl g12 (ls_skip (hK11 _ (rn 1 rfl (ls_ret ((by cases h; exact ⟨.inl rfl, rfl⟩))))))
def laws_FnExactAddWatcher (a0 : Y27) (a1 : Y63) : Option (Bool) := obind (laws_szNotifier a0 1048576) fun v1 => cond (decide (v1 < 0)) (some true) (obind (laws_szQuery a1 v1) fun v5 => cond (decide (v5 < 0)) (some true) (obind (laws_toNotifier a0) fun v9 => obind (laws_toQuery a1) fun v11 => obind (spec_AddWatcher v9 v11) fun v13 => obind (laws_toNotifier a0) fun v15 => obind (laws_toQuery a1) fun v17 => obind (impl_AddWatcher v15 v17) fun v19 => obind (laws_eqNotifier v19.1 v13.1) fun v22 => cond (!v22) (some false) (cond (!(v19.2 == v13.2)) (some false) (obind (laws_toNotifier a0) fun v27 => obind (laws_eqNotifier v15 v27) fun v29 => cond (!v29) (some false) (obind (laws_toQuery a1) fun v33 => obind (laws_eqQuery v17 v33) fun v35 => cond (!v35) (some false) (obind (laws_markNotifier v15 1) fun v38 => obind (laws_markQuery v17 v38.2) fun v40 => cond (decide (v40.2 < 0)) (some false) (obind (laws_eqNotifier v19.1 v13.1) fun v44 => cond (!v44) (some false) (cond (!(v19.2 == v13.2)) (some false) (obind (laws_markNotifier v19.1 1) fun v48 => obind (laws_heldNotifier v48.1 1) fun v50 => cond (decide (v50 < 0)) (some false) (cond (v50 != v48.2) (some false) (obind (laws_toNotifier a0) fun v56 => obind (laws_toQuery a1) fun v58 => obind (impl_AddWatcher v56 v58) fun v60 => obind (laws_eqNotifier v60.1 v13.1) fun v63 => cond (!v63) (some false) (cond (!(v60.2 == v13.2)) (some false) (obind (laws_heldNotifier v48.1 1) fun v67 => cond (decide (v67 < 0)) (some false) (cond (v67 != v48.2) (some false) (some true)))))))))))))))
theorem laws_FnExactAddWatcher_s {a0 : Y27} {a1 : Y63} {r : Bool} (h : laws_FnExactAddWatcher a0 a1 = some r) : SoundAt Tryz.prog 6 [.agg (c28_aaaaaaaaaaaaaa a0), .agg (c64_aaa a1)] (.bool r) := by
 unfold laws_FnExactAddWatcher at h
 refine st lit6 rfl (rn 2 rfl (rs (sp 2 rfl (?_))))
 obtain ⟨v1, g2, h⟩ := ob_some h
 refine qC (qa rfl (erg (erc (erG ec168_aa _) (erc (erG ec117_aaaaaa _) (erc (erG ec115_aaa _) rfl)))) (qs rfl eran)) (laws_szNotifier_s g2) (sp 1 rfl (evn (ls_seq_k fun K3 hK3 => rn 1 rfl ?_)))
 rcases cond_some h with ⟨g4, h⟩ | ⟨g4, h⟩
 ·exact qT rfl g4 (rn 1 rfl (ls_ret ((by cases h; exact ⟨.inl rfl, rfl⟩))))
 ·refine qF rfl g4 (ls_skip (hK3 _ (rs (sp 2 rfl (?_)))))
  obtain ⟨v5, g6, h⟩ := ob_some h
  refine qC (qa rfl (erg (erc rfl (erc (erG ec161_a _) (erc (erG eci64 _) rfl)))) (qs rfl eran)) (laws_szQuery_s g6) (sp 1 rfl (evn (ls_seq_k fun K7 hK7 => rn 1 rfl (qk [2, 3, 26] rfl ?_))))
  rcases cond_some h with ⟨g8, h⟩ | ⟨g8, h⟩
  ·exact qT rfl g8 (rn 1 rfl (ls_ret ((by cases h; exact ⟨.inl rfl, rfl⟩))))
  ·refine qF rfl g8 (ls_skip (hK7 _ (rd (by kernel_rfl) (sd 1 rfl (?_)))))
   obtain ⟨v9, g10, h⟩ := ob_some h
   refine ed rfl (qC (qa rfl (erg (erc (erG ec168_aa _) (erc (erG ec117_aaaaaa _) (erc (erG ec115_aaa _) rfl)))) eran) (laws_toNotifier_s g10) (sd 1 rfl (?_)))
   obtain ⟨v11, g12, h⟩ := ob_some h
   refine ed rfl (qC (qa rfl (erg (erc rfl (erc (erG ec161_a _) (erc (erG eci64 _) rfl)))) eran) (laws_toQuery_s g12) (?_))
   obtain ⟨v13, g14, h⟩ := ob_some h
   refine ed rfl (qC (qa rfl (erg (erc (erO ec120_oo _) (erc (erO ec78_oooooo _) (erc (erO ec76_ooo _) rfl)))) (qa rfl (erg (erc rfl (erc (erO ec148_o _) (erc (erO eci64 _) rfl)))) eran)) (spec_AddWatcher_s g14) (sd 6 rfl (evdn (rs (sp 1 rfl (?_))))))
   obtain ⟨v15, g16, h⟩ := ob_some h
   refine qC (qa rfl (erg (erc (erG ec168_aa _) (erc (erG ec117_aaaaaa _) (erc (erG ec115_aaa _) rfl)))) eran) (laws_toNotifier_s g16) (sp 2 rfl (evn (rs (sp 1 rfl (?_)))))
   obtain ⟨v17, g18, h⟩ := ob_some h
   refine qC (qa rfl (erg (erc rfl (erc (erG ec161_a _) (erc (erG eci64 _) rfl)))) eran) (laws_toQuery_s g18) (sp 2 rfl (evn (rs (sp 2 rfl (?_)))))
   obtain ⟨v19, g20, h⟩ := ob_some h
   refine qC (qa rfl (erg (erc (erD ec120_oo _) (erc (erD ec78_oooooo _) (erc (erD ec76_ooo _) rfl)))) (qa rfl (erg (erc rfl (erc (erD ec148_o _) (erc (erD eci64 _) rfl)))) eran)) (impl_AddWatcher_s g20) (sp 6 rfl (evn (qk [2, 3, 6, 7, 8, 9, 10, 11] rfl (ls_seq_k fun K21 hK21 => rs (sp 2 rfl (?_))))))
   obtain ⟨v22, g23, h⟩ := ob_some h
   refine qC (qa rfl (erg (erc (erD ec120_oo _) (erc (erD ec78_oooooo _) (erc (erD ec76_ooo _) rfl)))) (qa rfl (erg (erc (erD ec120_oo _) (erc (erD ec78_oooooo _) (erc (erD ec76_ooo _) rfl)))) eran)) (laws_eqNotifier_s g23) (sp 2 rfl (?_))
   rcases cond_some h with ⟨g24, h⟩ | ⟨g24, h⟩
   ·exact qg 49 g24 rfl (sp 4 rfl (evn (qT rfl rfl (rn 1 rfl (ls_ret ((by cases h; exact ⟨.inl rfl, rfl⟩)))))))
   ·refine qg 49 g24 rfl (sp 4 rfl (evn ?_))
    rcases cond_some h with ⟨g25, h⟩ | ⟨g25, h⟩
    ·exact qT rfl g25 (rn 1 rfl (ls_ret ((by cases h; exact ⟨.inl rfl, rfl⟩))))
    ·refine qF rfl g25 (ls_skip (hK21 _ (ls_seq_k fun K26 hK26 => rd (by kernel_rfl) (sd 2 rfl (?_)))))
     obtain ⟨v27, g28, h⟩ := ob_some h
     refine ed rfl (qC (qa rfl (erg (erc (erG ec168_aa _) (erc (erG ec117_aaaaaa _) (erc (erG ec115_aaa _) rfl)))) eran) (laws_toNotifier_s g28) (?_))
     obtain ⟨v29, g30, h⟩ := ob_some h
     refine ed rfl (qC (qa rfl (erg (erc (erD ec120_oo _) (erc (erD ec78_oooooo _) (erc (erD ec76_ooo _) rfl)))) (qa rfl (erg (erc (erO ec120_oo _) (erc (erO ec78_oooooo _) (erc (erO ec76_ooo _) rfl)))) eran)) (laws_eqNotifier_s g30) (sd 1 rfl (evdn (qk [2, 3, 6, 7, 8, 9, 10, 11, 58] rfl ?_))))
     rcases cond_some h with ⟨g31, h⟩ | ⟨g31, h⟩
     ·exact qT rfl g31 (rn 1 rfl (ls_ret ((by cases h; exact ⟨.inl rfl, rfl⟩))))
     ·refine qF rfl g31 (ls_skip (hK26 _ (ls_seq_k fun K32 hK32 => rd (by kernel_rfl) (sd 2 rfl (?_)))))
      obtain ⟨v33, g34, h⟩ := ob_some h
      refine ed rfl (qC (qa rfl (erg (erc rfl (erc (erG ec161_a _) (erc (erG eci64 _) rfl)))) eran) (laws_toQuery_s g34) (?_))
      obtain ⟨v35, g36, h⟩ := ob_some h
      refine ed rfl (qC (qa rfl (erg (erc rfl (erc (erD ec148_o _) (erc (erD eci64 _) rfl)))) (qa rfl (erg (erc rfl (erc (erO ec148_o _) (erc (erO eci64 _) rfl)))) eran)) (laws_eqQuery_s g36) (sd 1 rfl (evdn ?_)))
      rcases cond_some h with ⟨g37, h⟩ | ⟨g37, h⟩
      ·exact qT rfl g37 (rn 1 rfl (ls_ret ((by cases h; exact ⟨.inl rfl, rfl⟩))))
      ·refine qF rfl g37 (ls_skip (hK32 _ (rn 1 rfl (qk [2, 3, 6, 7, 8, 9, 10, 11, 12] rfl ?_))))
       obtain ⟨v38, g39, h⟩ := ob_some h
       refine ls_mark (src_box tbOk rfl rfl rfl) rfl rfl (laws_markNotifier_m g39) (dp37 _) (sf_of (sfc (scc (sca ad168 _) (scc (sca ad117 _) (scc (sca ad115 _) scn))) (sfc (scc rfl (scc (sca ad161 _) (scc (sca (fun _ => rfl) _) scn))) (sfc (scc (sco dp120 _) (scc (sco dp78 _) (scc (sco dp76 _) scn))) (sfc rfl (sfs (sfc (scc rfl (scc (sco dp148 _) (scc (sco (fun _ => rfl) _) scn))) (sfc (scc (sco dp120 _) (scc (sco dp78 _) (scc (sco dp76 _) scn))) (sfc rfl (sfc rfl sfn)))))))))) rfl rfl ⟨by decide, by decide⟩ rfl rfl (kp [(2, .box [aL c168_aa a0.1, aL c117_aaaaaa a0.2.1, aL c115_aaa a0.2.2]), (3, .box [nI a1.1, aL c161_a a1.2.1, aL ci64 a1.2.2]), (6, .box [oL 120 c120_oo v13.1.1, oL 78 c78_oooooo v13.1.2.1, oL 76 c76_ooo v13.1.2.2]), (7, .bool v13.2), (9, .box [nI v17.1, oL 148 c148_o v17.2.1, oL 3 ci64 v17.2.2]), (10, .box [oL 120 c120_oo v19.1.1, oL 78 c78_oooooo v19.1.2.1, oL 76 c76_ooo v19.1.2.2]), (11, .bool v19.2), (12, nI v38.2)] rfl rfl (qk [2, 3, 6, 7, 9, 10, 11, 12] rfl ?_))
       obtain ⟨v40, g41, h⟩ := ob_some h
       refine ls_mark (src_box tbOk rfl rfl rfl) rfl rfl (laws_markQuery_m g41) (dp55 _) (sf_of (sfc (scc (sca ad168 _) (scc (sca ad117 _) (scc (sca ad115 _) scn))) (sfc (scc rfl (scc (sca ad161 _) (scc (sca (fun _ => rfl) _) scn))) (sfc (scc (sco dp120 _) (scc (sco dp78 _) (scc (sco dp76 _) scn))) (sfc rfl (sfs (sfc (scc (sco dp120 _) (scc (sco dp78 _) (scc (sco dp76 _) scn))) (sfc rfl (sfc rfl sfn))))))))) rfl rfl ⟨by decide, by decide⟩ rfl rfl (kp [(2, .box [aL c168_aa a0.1, aL c117_aaaaaa a0.2.1, aL c115_aaa a0.2.2]), (3, .box [nI a1.1, aL c161_a a1.2.1, aL ci64 a1.2.2]), (6, .box [oL 120 c120_oo v13.1.1, oL 78 c78_oooooo v13.1.2.1, oL 76 c76_ooo v13.1.2.2]), (7, .bool v13.2), (10, .box [oL 120 c120_oo v19.1.1, oL 78 c78_oooooo v19.1.2.1, oL 76 c76_ooo v19.1.2.2]), (11, .bool v19.2), (12, nI v40.2)] rfl rfl (ls_seq_k fun K42 hK42 => rs (sp 3 rfl (?_))))
       rcases cond_some h with ⟨g43, h⟩ | ⟨g43, h⟩
       ·exact qg 72 g43 rfl (sp 10 rfl (evn (qT rfl rfl (rn 1 rfl (ls_ret ((by cases h; exact ⟨.inl rfl, rfl⟩)))))))
       ·refine qg 72 g43 rfl (sp 2 rfl (?_))
        obtain ⟨v44, g45, h⟩ := ob_some h
        refine oGR rfl rfl (qC (qa rfl (erg (erc (erD ec120_oo _) (erc (erD ec78_oooooo _) (erc (erD ec76_ooo _) rfl)))) (qa rfl (erg (erc (erD ec120_oo _) (erc (erD ec78_oooooo _) (erc (erD ec76_ooo _) rfl)))) eran)) (laws_eqNotifier_s g45) (sp 3 rfl (?_)))
        rcases cond_some h with ⟨g46, h⟩ | ⟨g46, h⟩
        ·exact qg 78 g46 rfl (sp 4 rfl (evn (qT rfl rfl (rn 1 rfl (qk [4] rfl (ls_ret ((by cases h; exact ⟨.inl rfl, rfl⟩))))))))
        ·refine qg 78 g46 rfl (sp 4 rfl (evn ?_))
         rcases cond_some h with ⟨g47, h⟩ | ⟨g47, h⟩
         ·exact qT rfl g47 (rn 1 rfl (ls_ret ((by cases h; exact ⟨.inl rfl, rfl⟩))))
         ·refine qF rfl g47 (ls_skip (hK42 _ (rn 1 rfl (qk [2, 3, 6, 7, 10, 13] rfl ?_))))
          obtain ⟨v48, g49, h⟩ := ob_some h
          refine ls_mark (src_box tbOk rfl rfl rfl) rfl rfl (laws_markNotifier_m g49) (dp37 _) (sf_of (sfc (scc (sca ad168 _) (scc (sca ad117 _) (scc (sca ad115 _) scn))) (sfc (scc rfl (scc (sca ad161 _) (scc (sca (fun _ => rfl) _) scn))) (sfc (scc (sco dp120 _) (scc (sco dp78 _) (scc (sco dp76 _) scn))) (sfc rfl (sfs (sfc rfl sfn))))))) rfl rfl ⟨by decide, by decide⟩ rfl rfl (kp [(2, .box [aL c168_aa a0.1, aL c117_aaaaaa a0.2.1, aL c115_aaa a0.2.2]), (3, .box [nI a1.1, aL c161_a a1.2.1, aL ci64 a1.2.2]), (6, .box [oL 120 c120_oo v13.1.1, oL 78 c78_oooooo v13.1.2.1, oL 76 c76_ooo v13.1.2.2]), (7, .bool v13.2), (10, .box [oL 120 c120_oo v48.1.1, oL 78 c78_oooooo v48.1.2.1, oL 76 c76_ooo v48.1.2.2]), (13, nI v48.2)] rfl rfl (rn 1 rfl (rs (sp 2 rfl (?_)))))
          obtain ⟨v50, g51, h⟩ := ob_some h
          refine qC (qa rfl (erg (erc (erD ec120_oo _) (erc (erD ec78_oooooo _) (erc (erD ec76_ooo _) rfl)))) (qs rfl eran)) (laws_heldNotifier_s g51) (sp 1 rfl (evn (ls_seq_k fun K52 hK52 => rn 1 rfl ?_)))
          rcases cond_some h with ⟨g53, h⟩ | ⟨g53, h⟩
          ·exact qT rfl g53 (rn 1 rfl (ls_ret ((by cases h; exact ⟨.inl rfl, rfl⟩))))
          ·refine qF rfl g53 (ls_skip (hK52 _ (ls_seq_k fun K54 hK54 => rn 1 rfl ?_)))
           rcases cond_some h with ⟨g55, h⟩ | ⟨g55, h⟩
           ·exact qT rfl g55 (rn 1 rfl (qk [4] rfl (ls_ret ((by cases h; exact ⟨.inl rfl, rfl⟩)))))
           ·refine qF rfl g55 (ls_skip (hK54 _ (rd (by kernel_rfl) (sd 1 rfl (?_)))))
            obtain ⟨v56, g57, h⟩ := ob_some h
            refine ed rfl (qC (qa rfl (erg (erc (erG ec168_aa _) (erc (erG ec117_aaaaaa _) (erc (erG ec115_aaa _) rfl)))) eran) (laws_toNotifier_s g57) (sd 1 rfl (?_)))
            obtain ⟨v58, g59, h⟩ := ob_some h
            refine ed rfl (qC (qa rfl (erg (erc rfl (erc (erG ec161_a _) (erc (erG eci64 _) rfl)))) eran) (laws_toQuery_s g59) (?_))
            obtain ⟨v60, g61, h⟩ := ob_some h
            refine ed rfl (qC (qa rfl (erg (erc (erO ec120_oo _) (erc (erO ec78_oooooo _) (erc (erO ec76_ooo _) rfl)))) (qa rfl (erg (erc rfl (erc (erO ec148_o _) (erc (erO eci64 _) rfl)))) eran)) (impl_AddWatcher_s g61) (sd 6 rfl (evdn (ls_seq_k fun K62 hK62 => rs (sp 2 rfl (?_))))))
            obtain ⟨v63, g64, h⟩ := ob_some h
            refine qC (qa rfl (erg (erc (erD ec120_oo _) (erc (erD ec78_oooooo _) (erc (erD ec76_ooo _) rfl)))) (qa rfl (erg (erc (erD ec120_oo _) (erc (erD ec78_oooooo _) (erc (erD ec76_ooo _) rfl)))) eran)) (laws_eqNotifier_s g64) (sp 2 rfl (?_))
            rcases cond_some h with ⟨g65, h⟩ | ⟨g65, h⟩
            ·exact qg 106 g65 rfl (sp 4 rfl (evn (qT rfl rfl (rn 1 rfl (ls_ret ((by cases h; exact ⟨.inl rfl, rfl⟩)))))))
            ·refine qg 106 g65 rfl (sp 4 rfl (evn ?_))
             rcases cond_some h with ⟨g66, h⟩ | ⟨g66, h⟩
             ·exact qT rfl g66 (rn 1 rfl (qk [4] rfl (ls_ret ((by cases h; exact ⟨.inl rfl, rfl⟩)))))
             ·refine qF rfl g66 (ls_skip (hK62 _ (rn 1 rfl (rs (sp 2 rfl (?_))))))
              obtain ⟨v67, g68, h⟩ := ob_some h
              refine qC (qa rfl (erg (erc (erD ec120_oo _) (erc (erD ec78_oooooo _) (erc (erD ec76_ooo _) rfl)))) (qs rfl eran)) (laws_heldNotifier_s g68) (sp 1 rfl (evn (ls_seq_k fun K69 hK69 => rn 1 rfl ?_)))
              rcases cond_some h with ⟨g70, h⟩ | ⟨g70, h⟩
              ·exact qT rfl g70 (rn 1 rfl (ls_ret ((by cases h; exact ⟨.inl rfl, rfl⟩))))
              ·refine qF rfl g70 (ls_skip (hK69 _ (ls_seq_k fun K71 hK71 => rn 1 rfl ?_)))
               rcases cond_some h with ⟨g72, h⟩ | ⟨g72, h⟩
               ·exact qT rfl g72 (rn 1 rfl (qk [4] rfl (ls_ret ((by cases h; exact ⟨.inl rfl, rfl⟩)))))
               ·exact qF rfl g72 (ls_skip (hK71 _ (rn 1 rfl (ls_ret ((by cases h; exact ⟨.inl rfl, rfl⟩))))))
end Go.Proofs.YtceghmdneadhbaaGreat
