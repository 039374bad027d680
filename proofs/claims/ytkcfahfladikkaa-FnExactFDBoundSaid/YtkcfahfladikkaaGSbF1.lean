/-
  Functions of the program as typed functions, printed by gen.py, and that the program's functions do what they say. No conditions.
-/
import Derived.Test.YtkcfahfladikkaaGSF1
namespace Go.Proofs.Ytkcfahfladikkaa
open Go.RowKit
set_option linter.unusedVariables false
set_option maxRecDepth 100000
set_option maxHeartbeats 1000000
def impl_FDVariables_J4 (rec : (Bool × Int × Int) → Option (Bool × Int)) (y12 : Int) (x25 : Bool) (x26 : Int) : Option (Bool × Int) := rec (x25, x26, (IntKind.i64.wrap (y12 + 1)))
def impl_FDVariables_B3 (a1 : Y26) (e11 : Y194) (rec : (Bool × Int × Int) → Option (Bool × Int)) (s : Bool × Int × Int) : Option (Bool × Int) := match s with
  | (y10, y11, y12) => cond (decide (y12 < (List.length a1.2.1 : Int))) (obind (geti a1.2.1 y12) fun e21 => obind (impl_within e21 0 (IntKind.i64.wrap ((List.length e11.2 : Int) - 1))) fun v23 => cond (!v23) (impl_FDVariables_J4 rec y12 false y11) (obind (geti e11.2 e21) fun e28 => chk ((0 : Int) ≤ IntKind.u64.wrap e28) (impl_FDVariables_J4 rec y12 y10 (orI y11 (shlI 1 (IntKind.u64.wrap e28)))))) (some (y10, y11))
def impl_FDVariables_J5 (rec : ((List Int) × (List Int) × Int) → Option ((List Int) × (List Int))) (y6 : Int) (x31 : List Int) (x32 : List Int) : Option ((List Int) × (List Int)) := rec (x31, x32, (IntKind.i64.wrap (y6 + 1)))
def impl_FDVariables_J2 (rec : ((List Int) × (List Int) × Int) → Option ((List Int) × (List Int))) (a1 : Y26) (y4 : List Int) (y5 : List Int) (y6 : Int) (e11 : Y194) (x14 : Bool) : Option ((List Int) × (List Int)) := obind (loopF (impl_FDVariables_B3 a1 e11) fz (x14, 0, 0)) fun o3 => (match o3 with
  | (z16, z17) => (cond z16 (chk (List.length y4 + List.length [z17] ≤ lim) (obind (geti e11.2 a1.2.2) fun e35 => chk (List.length y5 + List.length [e35] ≤ lim) (impl_FDVariables_J5 rec y6 (y4 ++ [z17]) (y5 ++ [e35])))) (chk (List.length y4 + List.length [0] ≤ lim) (chk (List.length y5 + List.length [-1] ≤ lim) (impl_FDVariables_J5 rec y6 (y4 ++ [0]) (y5 ++ [-1]))))))
def impl_FDVariables_B1 (a0 : Y91) (a1 : Y26) (rec : ((List Int) × (List Int) × Int) → Option ((List Int) × (List Int))) (s : (List Int) × (List Int) × Int) : Option ((List Int) × (List Int)) := match s with
  | (y4, y5, y6) => cond (decide (y6 < (List.length a0.2.1 : Int))) (obind (geti a0.2.1 y6) fun e11 => cond (e11.1 == a1.1) (obind (impl_within a1.2.2 0 (IntKind.i64.wrap ((List.length e11.2 : Int) - 1))) fun v41 => impl_FDVariables_J2 rec a1 y4 y5 y6 e11 v41) (impl_FDVariables_J2 rec a1 y4 y5 y6 e11 false)) (some (y4, y5))
def impl_FDVariables (a0 : Y91) (a1 : Y26) : Option ((List Int) × (List Int)) := obind (impl_IsValidQuery a0) fun v2 => cond (!v2) (some (([] : List Int), ([] : List Int))) (obind (loopF (impl_FDVariables_B1 a0 a1) fz (([] : List Int), ([] : List Int), 0)) fun o1 => (match o1 with
  | (z6, z7) => (some (z6, z7))))
theorem impl_FDVariables_s {a0 : Y91} {a1 : Y26} {r : (List Int) × (List Int)} (h : impl_FDVariables a0 a1 = some r) : SoundAt Try.prog 234 [.agg (c92_ddd a0), .agg (c35_d a1)] (.tup [oL 3 ci64 r.1, oL 3 ci64 r.2]) := by
 unfold impl_FDVariables at h
 refine st lit234 rfl (rn 1 rfl (ls_seq_k fun K1 hK1 => rs (sp 1 rfl (?_))))
 obtain ⟨v2, g3, h⟩ := ob_some h
 refine qC (qa rfl (erg (erc rfl (erc (erD ec195_d _) (erc (erD eci64 _) rfl)))) eran) (impl_IsValidQuery_s g3) (sp 1 rfl (evn ?_))
 rcases cond_some h with ⟨g4, h⟩ | ⟨g4, h⟩
 ·exact qT rfl g4 (rn 1 rfl (ls_ret ((by cases h; exact ⟨.inl rfl, rfl⟩))))
 ·refine qF rfl g4 (ls_skip (hK1 _ (rn 1 rfl (ls_seq_k fun K5 hK5 => rn 1 rfl ?_))))
  obtain ⟨o1, hl, hr1⟩ := ob_some h
  have kXB1 : ∀ {z6 : List Int} {z7 : List Int}, (z6, z7) = o1 → Jn K5 [(6, oL 3 ci64 z6), (7, oL 3 ci64 z7)] := by
   intro z6 z7 h σ' hk
   subst h
   replace h := hr1
   try dsimp only at h
   exact hK5 _ (lh hk rfl (rn 1 rfl (ls_ret ((by cases h; exact ⟨.inl rfl, rfl⟩)))))
  refine ls_rec (fun (s : (List Int) × (List Int) × Int) => match s with | (y4, y5, y6) => [(3, .box [.str a1.1, dL ci64 a1.2.1, nI a1.2.2]), (6, oL 3 ci64 y4), (7, oL 3 ci64 y5), (18, dL c195_d a0.2.1), (19, nI (List.length a0.2.1 : Int)), (20, nI y6)]) _ _ _ _ hl (okr rfl) (fun _ => rfl) ?_
  rintro m ⟨y4, y5, y6⟩ N h hN
  unfold impl_FDVariables_B1 at h
  dsimp only at h
  refine rn 1 rfl (ls_seq_k fun K8 hK8 => ?_)
  rcases cond_some h with ⟨g9, h⟩ | ⟨g9, h⟩
  ·refine qT rfl g9 (ls_skip (hK8 _ (ls_seq_k fun K10 hK10 => ls_blk (rs ?_))))
   obtain ⟨e11, g12, h⟩ := ob_some h
   refine qI rfl zc195_d g12 (sp 3 rfl (evn (rk fun K13 hK13 => ?_)))
   have kJ2 : ∀ {x14 : Bool}, impl_FDVariables_J2 (loopF (impl_FDVariables_B1 a0 a1) m) a1 y4 y5 y6 e11 x14 = some o1 → Jn K13 [(3, .box [.str a1.1, dL ci64 a1.2.1, nI a1.2.2]), (6, oL 3 ci64 y4), (7, oL 3 ci64 y5), (9, .box [.str e11.1, dL ci64 e11.2]), (10, .bool x14), (18, dL c195_d a0.2.1), (19, nI (List.length a0.2.1 : Int)), (20, nI y6)] := by
    intro x14 h σ' hk
    unfold impl_FDVariables_J2 at h
    refine hK13 _ (lh hk rfl (rn 1 rfl (ls_seq_k fun K15 hK15 => rn 1 rfl ?_)))
    obtain ⟨o3, hl, hr3⟩ := ob_some h
    have kXB3 : ∀ {z16 : Bool} {z17 : Int}, (z16, z17) = o3 → Jn K15 [(3, .box [.str a1.1, dL ci64 a1.2.1, nI a1.2.2]), (6, oL 3 ci64 y4), (7, oL 3 ci64 y5), (9, .box [.str e11.1, dL ci64 e11.2]), (10, .bool z16), (11, nI z17), (18, dL c195_d a0.2.1), (19, nI (List.length a0.2.1 : Int)), (20, nI y6)] := by
     intro z16 z17 h σ' hk
     subst h
     replace h := hr3
     try dsimp only at h
     refine hK15 _ (lh hk rfl (rn 1 rfl ?_))
     have kJ5 : ∀ {x31 : List Int} {x32 : List Int}, impl_FDVariables_J5 (loopF (impl_FDVariables_B1 a0 a1) m) y6 x31 x32 = some o1 → Jn K10 [(3, .box [.str a1.1, dL ci64 a1.2.1, nI a1.2.2]), (6, oL 3 ci64 x31), (7, oL 3 ci64 x32), (18, dL c195_d a0.2.1), (19, nI (List.length a0.2.1 : Int)), (20, nI y6)] := by
      intro x31 x32 h σ' hk
      unfold impl_FDVariables_J5 at h
      exact hK10 _ (lh hk rfl (rg (sp 2 rfl (evn (hN _ _ h (okr rfl))))))
     rcases cond_some h with ⟨g33, h⟩ | ⟨g33, h⟩
     ·refine qT rfl g33 (rs (sp 2 rfl (qBs ci64 [z17] rfl rfl rfl zci64 (?_))))
      obtain ⟨g34, h⟩ := chk_some h
      refine qA ci64 y4 [z17] rfl rfl (flat_len zci64 [z17]) rfl g34 (sp 1 rfl (evn (rg (sp 5 rfl (?_)))))
      obtain ⟨e35, g36, h⟩ := ob_some h
      refine qI rfl zci64 g36 (sp 1 rfl (qBs ci64 [e35] rfl rfl rfl zci64 (?_)))
      obtain ⟨g37, h⟩ := chk_some h
      exact qA ci64 y5 [e35] rfl rfl (flat_len zci64 [e35]) rfl g37 (sp 1 rfl (evn (kJ5 h _ (okr rfl))))
     ·refine qF rfl g33 (rs (sp 1 rfl (qBs ci64 [0] rfl rfl rfl zci64 (?_))))
      obtain ⟨g38, h⟩ := chk_some h
      refine qA ci64 y4 [0] rfl rfl (flat_len zci64 [0]) rfl g38 (sp 1 rfl (evn (rg (sp 1 rfl (qBs ci64 [-1] rfl rfl rfl zci64 (?_))))))
      obtain ⟨g39, h⟩ := chk_some h
      exact qA ci64 y5 [-1] rfl rfl (flat_len zci64 [-1]) rfl g39 (sp 1 rfl (evn (kJ5 h _ (okr rfl))))
    refine ls_rec (fun (s : Bool × Int × Int) => match s with | (y10, y11, y12) => [(3, .box [.str a1.1, dL ci64 a1.2.1, nI a1.2.2]), (6, oL 3 ci64 y4), (7, oL 3 ci64 y5), (9, .box [.str e11.1, dL ci64 e11.2]), (10, .bool y10), (11, nI y11), (18, dL c195_d a0.2.1), (19, nI (List.length a0.2.1 : Int)), (20, nI y6), (39, dL ci64 a1.2.1), (40, nI (List.length a1.2.1 : Int)), (41, nI y12)]) _ _ _ _ hl (okr rfl) (fun _ => rfl) ?_
    rintro m ⟨y10, y11, y12⟩ N h hN
    unfold impl_FDVariables_B3 at h
    dsimp only at h
    refine rn 1 rfl (ls_seq_k fun K18 hK18 => ?_)
    rcases cond_some h with ⟨g19, h⟩ | ⟨g19, h⟩
    ·refine qT rfl g19 (ls_skip (hK18 _ (ls_seq_k fun K20 hK20 => ls_blk (rs ?_))))
     obtain ⟨e21, g22, h⟩ := ob_some h
     refine qI rfl zci64 g22 (sp 2 rfl (evn (rs (sp 5 rfl (?_)))))
     obtain ⟨v23, g24, h⟩ := ob_some h
     refine qC (qs rfl (qs rfl (qs rfl eran))) (impl_within_s g24) (sp 1 rfl (evn ?_))
     have kJ4 : ∀ {x25 : Bool} {x26 : Int}, impl_FDVariables_J4 (loopF (impl_FDVariables_B3 a1 e11) m) y12 x25 x26 = some o3 → Jn K20 [(3, .box [.str a1.1, dL ci64 a1.2.1, nI a1.2.2]), (6, oL 3 ci64 y4), (7, oL 3 ci64 y5), (9, .box [.str e11.1, dL ci64 e11.2]), (10, .bool x25), (11, nI x26), (18, dL c195_d a0.2.1), (19, nI (List.length a0.2.1 : Int)), (20, nI y6), (39, dL ci64 a1.2.1), (40, nI (List.length a1.2.1 : Int)), (41, nI y12)] := by
      intro x25 x26 h σ' hk
      unfold impl_FDVariables_J4 at h
      exact hK20 _ (lh hk rfl (rg (sp 2 rfl (evn (hN _ _ h (okr rfl))))))
     rcases cond_some h with ⟨g27, h⟩ | ⟨g27, h⟩
     ·exact qT rfl g27 (rg (sp 1 rfl (evn (kJ4 h _ (okr rfl)))))
     ·refine qF rfl g27 (rg (sp 4 rfl (?_)))
      obtain ⟨e28, g29, h⟩ := ob_some h
      refine qI rfl zci64 g29 (sp 2 rfl (?_))
      obtain ⟨g30, h⟩ := chk_some h
      exact qB rfl g30 rfl (sp 2 rfl (evn (kJ4 h _ (okr rfl))))
    ·exact qF rfl g19 (ls_exit (kXB3 (Option.some.inj h) _ (okr rfl)))
   refine sp 6 rfl (?_)
   rcases cond_some h with ⟨g40, h⟩ | ⟨g40, h⟩
   ·refine qg 29 g40 rfl (sp 6 rfl (?_))
    obtain ⟨v41, g42, h⟩ := ob_some h
    exact oGR rfl rfl (qC (qs rfl (qs rfl (qs rfl eran))) (impl_within_s g42) (sp 2 rfl (evn (kJ2 h _ (okr rfl)))))
   ·exact qg 29 g40 rfl (sp 9 rfl (evn (kJ2 h _ (okr rfl))))
  ·exact qF rfl g9 (ls_exit (kXB1 (Option.some.inj h) _ (okr rfl)))
def impl_FDClosure_J2 (rec : (Int × Int) → Option (Int)) (y2 : Int) (x14 : Int) : Option (Int) := rec (x14, (IntKind.i64.wrap (y2 + 1)))
def impl_FDClosure_B1 (a0 : Y91) (a2 : List Int) (rec : (Int × Int) → Option (Int)) (s : Int × Int) : Option (Int) := match s with
  | (y1, y2) => cond (decide (y2 < (List.length a2 : Int))) (obind (geti a2 y2) fun e10 => obind (impl_within e10 0 (IntKind.i64.wrap (a0.1 - 1))) fun v12 => cond v12 (chk ((0 : Int) ≤ IntKind.u64.wrap e10) (impl_FDClosure_J2 rec y2 (orI y1 (shlI 1 (IntKind.u64.wrap e10))))) (impl_FDClosure_J2 rec y2 y1)) (some y1)
def impl_FDClosure_J7 (rec : (Int × Int) → Option (Int)) (y28 : Int) (x38 : Int) : Option (Int) := rec (x38, (IntKind.i64.wrap (y28 + 1)))
def impl_FDClosure_J6 (rec : (Int × Int) → Option (Int)) (v28 : (List Int) × (List Int)) (y27 : Int) (y28 : Int) (x37 : Bool) : Option (Int) := cond x37 (obind (geti v28.2 y28) fun e40 => chk ((0 : Int) ≤ IntKind.u64.wrap e40) (impl_FDClosure_J7 rec y28 (orI y27 (shlI 1 (IntKind.u64.wrap e40))))) (impl_FDClosure_J7 rec y28 y27)
def impl_FDClosure_B5 (v28 : (List Int) × (List Int)) (rec : (Int × Int) → Option (Int)) (s : Int × Int) : Option (Int) := match s with
  | (y27, y28) => cond (decide (y28 < (List.length v28.1 : Int))) (obind (geti v28.1 y28) fun e34 => obind (geti v28.2 y28) fun e43 => cond (decide (0 ≤ e43)) (impl_FDClosure_J6 rec v28 y27 y28 ((andNotI e34 y27) == 0)) (impl_FDClosure_J6 rec v28 y27 y28 false)) (some y27)
def impl_FDClosure_B4 (a0 : Y91) (a1 : List Y26) (rec : (Int × Int) → Option (Int)) (s : Int × Int) : Option (Int) := match s with
  | (y23, y24) => cond (decide (y24 < (List.length a1 : Int))) (obind (geti a1 y24) fun e26 => obind (impl_FDVariables a0 e26) fun v28 => obind (loopF (impl_FDClosure_B5 v28) fz (y23, 0)) fun z30 => rec (z30, (IntKind.i64.wrap (y24 + 1)))) (some y23)
def impl_FDClosure_B3 (a0 : Y91) (a1 : List Y26) (rec : (Int × Int) → Option (Int)) (s : Int × Int) : Option (Int) := match s with
  | (y11, y12) => cond (decide (y12 < a0.1)) (obind (loopF (impl_FDClosure_B4 a0 a1) fz (y11, 0)) fun z22 => rec (z22, (IntKind.i64.wrap (y12 + 1)))) (some y11)
def impl_FDClosure_J9 (rec : ((List Int) × Int) → Option ((List Int))) (y30 : Int) (x52 : List Int) : Option ((List Int)) := rec (x52, (IntKind.i64.wrap (y30 + 1)))
def impl_FDClosure_B8 (a0 : Y91) (z18 : Int) (rec : ((List Int) × Int) → Option ((List Int))) (s : (List Int) × Int) : Option ((List Int)) := match s with
  | (y29, y30) => cond (decide (y30 < a0.1)) (chk ((0 : Int) ≤ IntKind.u64.wrap y30) (cond ((andI (shrI z18 (IntKind.u64.wrap y30)) 1) == 1) (chk (List.length y29 + List.length [y30] ≤ lim) (impl_FDClosure_J9 rec y30 (y29 ++ [y30]))) (impl_FDClosure_J9 rec y30 y29))) (some y29)
def impl_FDClosure (a0 : Y91) (a1 : List Y26) (a2 : List Int) : Option ((List Int)) := obind (impl_IsValidQuery a0) fun v2 => cond (!v2) (some ([] : List Int)) (obind (loopF (impl_FDClosure_B1 a0 a2) fz (0, 0)) fun z6 => obind (loopF (impl_FDClosure_B3 a0 a1) fz (z6, 0)) fun z18 => obind (loopF (impl_FDClosure_B8 a0 z18) fz (([] : List Int), 0)) fun z47 => some z47)
theorem impl_FDClosure_s {a0 : Y91} {a1 : List Y26} {a2 : List Int} {r : (List Int)} (h : impl_FDClosure a0 a1 a2 = some r) : SoundAt Try.prog 170 [.agg (c92_ddd a0), dL c35_d a1, dL ci64 a2] (oL 3 ci64 r) := by
 unfold impl_FDClosure at h
 refine st lit170 rfl (rn 1 rfl (ls_seq_k fun K1 hK1 => rs (sp 1 rfl (?_))))
 obtain ⟨v2, g3, h⟩ := ob_some h
 refine qC (qa rfl (erg (erc rfl (erc (erD ec195_d _) (erc (erD eci64 _) rfl)))) eran) (impl_IsValidQuery_s g3) (sp 1 rfl (evn ?_))
 rcases cond_some h with ⟨g4, h⟩ | ⟨g4, h⟩
 ·exact qT rfl g4 (rn 1 rfl (ls_ret ((by cases h; exact ⟨.inl rfl, rfl⟩))))
 ·refine qF rfl g4 (ls_skip (hK1 _ (rn 1 rfl (ls_seq_k fun K5 hK5 => rn 1 rfl ?_))))
  obtain ⟨o1, hl, hr1⟩ := ob_some h
  have kXB1 : ∀ {z6 : Int}, z6 = o1 → Jn K5 [(1, dL c35_d a1), (3, .box [nI a0.1, dL c195_d a0.2.1, dL ci64 a0.2.2]), (7, nI z6)] := by
   intro z6 h σ' hk
   subst h
   replace h := hr1
   try dsimp only at h
   refine hK5 _ (lh hk rfl (ls_seq_k fun K17 hK17 => rn 1 rfl ?_))
   obtain ⟨o3, hl, hr3⟩ := ob_some h
   have kXB3 : ∀ {z18 : Int}, z18 = o3 → Jn K17 [(3, .box [nI a0.1, dL c195_d a0.2.1, dL ci64 a0.2.2]), (7, nI z18)] := by
    intro z18 h σ' hk
    subst h
    replace h := hr3
    try dsimp only at h
    refine hK17 _ (lh hk rfl (rn 1 rfl (ls_seq_k fun K46 hK46 => rn 1 rfl ?_)))
    obtain ⟨o8, hl, hr8⟩ := ob_some h
    have kXB8 : ∀ {z47 : List Int}, z47 = o8 → Jn K46 [(17, oL 3 ci64 z47)] := by
     intro z47 h σ' hk
     subst h
     replace h := hr8
     try dsimp only at h
     exact hK46 _ (lh hk rfl (rn 1 rfl (ls_ret ((by cases h; exact ⟨.inl rfl, rfl⟩)))))
    refine ls_rec (fun (s : (List Int) × Int) => match s with | (y29, y30) => [(3, .box [nI a0.1, dL c195_d a0.2.1, dL ci64 a0.2.2]), (7, nI z18), (17, oL 3 ci64 y29), (18, nI y30)]) _ _ _ _ hl (okr rfl) (fun _ => rfl) ?_
    rintro m ⟨y29, y30⟩ N h hN
    unfold impl_FDClosure_B8 at h
    dsimp only at h
    refine ls_seq_k fun K48 hK48 => rn 1 rfl ?_
    rcases cond_some h with ⟨g49, h⟩ | ⟨g49, h⟩
    ·refine qT rfl g49 (ls_skip (hK48 _ (ls_seq_k fun K50 hK50 => ls_blk (rs (sp 3 rfl (?_))))))
     obtain ⟨g51, h⟩ := chk_some h
     refine qB rfl g51 rfl (sp 2 rfl (evn ?_))
     have kJ9 : ∀ {x52 : List Int}, impl_FDClosure_J9 (loopF (impl_FDClosure_B8 a0 z18) m) y30 x52 = some o8 → Jn K50 [(3, .box [nI a0.1, dL c195_d a0.2.1, dL ci64 a0.2.2]), (7, nI z18), (17, oL 3 ci64 x52), (18, nI y30)] := by
      intro x52 h σ' hk
      unfold impl_FDClosure_J9 at h
      exact hK50 _ (lh hk rfl (rg (sp 3 rfl (evn (hN _ _ h (okr rfl))))))
     rcases cond_some h with ⟨g53, h⟩ | ⟨g53, h⟩
     ·refine qT rfl g53 (rg (sp 2 rfl (qBs ci64 [y30] rfl rfl rfl zci64 (?_))))
      obtain ⟨g54, h⟩ := chk_some h
      exact qA ci64 y29 [y30] rfl rfl (flat_len zci64 [y30]) rfl g54 (sp 1 rfl (evn (kJ9 h _ (okr rfl))))
     ·exact qF rfl g53 (ls_skip (kJ9 h _ (okr rfl)))
    ·exact qF rfl g49 (ls_exit (kXB8 (Option.some.inj h) _ (okr rfl)))
   refine ls_rec (fun (s : Int × Int) => match s with | (y11, y12) => [(1, dL c35_d a1), (3, .box [nI a0.1, dL c195_d a0.2.1, dL ci64 a0.2.2]), (7, nI y11), (10, nI y12)]) _ _ _ _ hl (okr rfl) (fun _ => rfl) ?_
   rintro m ⟨y11, y12⟩ N h hN
   unfold impl_FDClosure_B3 at h
   dsimp only at h
   refine ls_seq_k fun K19 hK19 => rn 1 rfl ?_
   rcases cond_some h with ⟨g20, h⟩ | ⟨g20, h⟩
   ·refine qT rfl g20 (ls_skip (hK19 _ (ls_seq_k fun K21 hK21 => ls_blk (rn 1 rfl ?_))))
    obtain ⟨o4, hl, hr4⟩ := ob_some h
    have kXB4 : ∀ {z22 : Int}, z22 = o4 → Jn K21 [(1, dL c35_d a1), (3, .box [nI a0.1, dL c195_d a0.2.1, dL ci64 a0.2.2]), (7, nI z22), (10, nI y12)] := by
     intro z22 h σ' hk
     subst h
     replace h := hr4
     try dsimp only at h
     exact hK21 _ (lh hk rfl (rg (sp 3 rfl (evn (hN _ _ h (okr rfl))))))
    refine ls_rec (fun (s : Int × Int) => match s with | (y23, y24) => [(1, dL c35_d a1), (3, .box [nI a0.1, dL c195_d a0.2.1, dL ci64 a0.2.2]), (7, nI y23), (10, nI y12), (45, dL c35_d a1), (46, nI (List.length a1 : Int)), (47, nI y24)]) _ _ _ _ hl (okr rfl) (fun _ => rfl) ?_
    rintro m ⟨y23, y24⟩ N h hN
    unfold impl_FDClosure_B4 at h
    dsimp only at h
    refine rn 1 rfl (ls_seq_k fun K23 hK23 => ?_)
    rcases cond_some h with ⟨g24, h⟩ | ⟨g24, h⟩
    ·refine qT rfl g24 (ls_skip (hK23 _ (ls_seq_k fun K25 hK25 => ls_blk (rs ?_))))
     obtain ⟨e26, g27, h⟩ := ob_some h
     refine qI rfl zc35_d g27 (sp 3 rfl (evn (rs (sp 2 rfl (?_)))))
     obtain ⟨v28, g29, h⟩ := ob_some h
     refine qC (qa rfl (erg (erc rfl (erc (erD ec195_d _) (erc (erD eci64 _) rfl)))) (qa rfl (erg (erc rfl (erc (erD eci64 _) (erc rfl rfl)))) eran)) (impl_FDVariables_s g29) (sp 5 rfl (evn (rn 1 rfl ?_)))
     obtain ⟨o5, hl, hr5⟩ := ob_some h
     have kXB5 : ∀ {z30 : Int}, z30 = o5 → Jn K25 [(1, dL c35_d a1), (3, .box [nI a0.1, dL c195_d a0.2.1, dL ci64 a0.2.2]), (7, nI z30), (10, nI y12), (45, dL c35_d a1), (46, nI (List.length a1 : Int)), (47, nI y24)] := by
      intro z30 h σ' hk
      subst h
      replace h := hr5
      try dsimp only at h
      exact hK25 _ (lh hk rfl (rg (sp 2 rfl (evn (hN _ _ h (okr rfl))))))
     refine ls_rec (fun (s : Int × Int) => match s with | (y27, y28) => [(1, dL c35_d a1), (3, .box [nI a0.1, dL c195_d a0.2.1, dL ci64 a0.2.2]), (7, nI y27), (10, nI y12), (14, oL 3 ci64 v28.2), (45, dL c35_d a1), (46, nI (List.length a1 : Int)), (47, nI y24), (57, dL ci64 v28.1), (58, nI (List.length v28.1 : Int)), (59, nI y28)]) _ _ _ _ hl (okr rfl) (fun _ => rfl) ?_
     rintro m ⟨y27, y28⟩ N h hN
     unfold impl_FDClosure_B5 at h
     dsimp only at h
     refine rn 1 rfl (ls_seq_k fun K31 hK31 => ?_)
     rcases cond_some h with ⟨g32, h⟩ | ⟨g32, h⟩
     ·refine qT rfl g32 (ls_skip (hK31 _ (ls_seq_k fun K33 hK33 => ls_blk (rs (sp 1 rfl (?_))))))
      obtain ⟨e34, g35, h⟩ := ob_some h
      refine qI rfl zci64 g35 (sp 3 rfl (evn (rk fun K36 hK36 => ?_)))
      have kJ6 : ∀ {x37 : Bool}, impl_FDClosure_J6 (loopF (impl_FDClosure_B5 v28) m) v28 y27 y28 x37 = some o5 → Jn K36 [(1, dL c35_d a1), (3, .box [nI a0.1, dL c195_d a0.2.1, dL ci64 a0.2.2]), (7, nI y27), (10, nI y12), (14, oL 3 ci64 v28.2), (15, nI y28), (45, dL c35_d a1), (46, nI (List.length a1 : Int)), (47, nI y24), (57, dL ci64 v28.1), (58, nI (List.length v28.1 : Int)), (59, nI y28), (74, .bool x37)] := by
       intro x37 h σ' hk
       unfold impl_FDClosure_J6 at h
       refine hK36 _ (lh hk rfl ?_)
       have kJ7 : ∀ {x38 : Int}, impl_FDClosure_J7 (loopF (impl_FDClosure_B5 v28) m) y28 x38 = some o5 → Jn K33 [(1, dL c35_d a1), (3, .box [nI a0.1, dL c195_d a0.2.1, dL ci64 a0.2.2]), (7, nI x38), (10, nI y12), (14, oL 3 ci64 v28.2), (45, dL c35_d a1), (46, nI (List.length a1 : Int)), (47, nI y24), (57, dL ci64 v28.1), (58, nI (List.length v28.1 : Int)), (59, nI y28)] := by
        intro x38 h σ' hk
        unfold impl_FDClosure_J7 at h
        exact hK33 _ (lh hk rfl (rg (sp 2 rfl (evn (hN _ _ h (okr rfl))))))
       rcases cond_some h with ⟨g39, h⟩ | ⟨g39, h⟩
       ·refine qT rfl g39 (rg (sp 3 rfl (?_)))
        obtain ⟨e40, g41, h⟩ := ob_some h
        refine qI rfl zci64 g41 (sp 2 rfl (?_))
        obtain ⟨g42, h⟩ := chk_some h
        exact qB rfl g42 rfl (sp 2 rfl (evn (kJ7 h _ (okr rfl))))
       ·exact qF rfl g39 (ls_skip (kJ7 h _ (okr rfl)))
      refine sp 2 rfl (?_)
      obtain ⟨e43, g44, h⟩ := ob_some h
      refine qI rfl zci64 g44 (sp 3 rfl (?_))
      rcases cond_some h with ⟨g45, h⟩ | ⟨g45, h⟩
      ·exact qg 69 g45 rfl (sp 5 rfl (evn (kJ6 h _ (okr rfl))))
      ·exact qg 69 g45 rfl (sp 5 rfl (evn (kJ6 h _ (okr rfl))))
     ·exact qF rfl g32 (ls_exit (kXB5 (Option.some.inj h) _ (okr rfl)))
    ·exact qF rfl g24 (ls_exit (kXB4 (Option.some.inj h) _ (okr rfl)))
   ·exact qF rfl g20 (ls_exit (kXB3 (Option.some.inj h) _ (okr rfl)))
  refine ls_rec (fun (s : Int × Int) => match s with | (y1, y2) => [(1, dL c35_d a1), (3, .box [nI a0.1, dL c195_d a0.2.1, dL ci64 a0.2.2]), (7, nI y1), (22, dL ci64 a2), (23, nI (List.length a2 : Int)), (24, nI y2)]) _ _ _ _ hl (okr rfl) (fun _ => rfl) ?_
  rintro m ⟨y1, y2⟩ N h hN
  unfold impl_FDClosure_B1 at h
  dsimp only at h
  refine rn 1 rfl (ls_seq_k fun K7 hK7 => ?_)
  rcases cond_some h with ⟨g8, h⟩ | ⟨g8, h⟩
  ·refine qT rfl g8 (ls_skip (hK7 _ (ls_seq_k fun K9 hK9 => ls_blk (rs ?_))))
   obtain ⟨e10, g11, h⟩ := ob_some h
   refine qI rfl zci64 g11 (sp 2 rfl (evn (rs (sp 4 rfl (?_)))))
   obtain ⟨v12, g13, h⟩ := ob_some h
   refine qC (qs rfl (qs rfl (qs rfl eran))) (impl_within_s g13) (evn ?_)
   have kJ2 : ∀ {x14 : Int}, impl_FDClosure_J2 (loopF (impl_FDClosure_B1 a0 a2) m) y2 x14 = some o1 → Jn K9 [(1, dL c35_d a1), (3, .box [nI a0.1, dL c195_d a0.2.1, dL ci64 a0.2.2]), (7, nI x14), (22, dL ci64 a2), (23, nI (List.length a2 : Int)), (24, nI y2)] := by
    intro x14 h σ' hk
    unfold impl_FDClosure_J2 at h
    exact hK9 _ (lh hk rfl (rg (sp 2 rfl (evn (hN _ _ h (okr rfl))))))
   rcases cond_some h with ⟨g15, h⟩ | ⟨g15, h⟩
   ·refine qT rfl g15 (rg (sp 3 rfl (?_)))
    obtain ⟨g16, h⟩ := chk_some h
    exact qB rfl g16 rfl (sp 2 rfl (evn (kJ2 h _ (okr rfl))))
   ·exact qF rfl g15 (ls_skip (kJ2 h _ (okr rfl)))
  ·exact qF rfl g8 (ls_exit (kXB1 (Option.some.inj h) _ (okr rfl)))
def impl_FDBound_J2 (rec : (Bool × Int) → Option (Bool)) (y2 : Int) (x10 : Bool) : Option (Bool) := rec (x10, (IntKind.i64.wrap (y2 + 1)))
def impl_FDBound_B1 (a0 : List Y207) (a2 : List Y26) (rec : (Bool × Int) → Option (Bool)) (s : Bool × Int) : Option (Bool) := match s with
  | (y1, y2) => cond (decide (y2 < (List.length a2 : Int))) (obind (geti a2 y2) fun e8 => cond y1 (obind (impl_FDHolds a0 e8) fun v12 => impl_FDBound_J2 rec y2 v12) (impl_FDBound_J2 rec y2 false)) (some y1)
def impl_FDBound_J5 (rec : ((List Int) × Int × Int) → Option ((List Int) × Int)) (y13 : Int) (x31 : List Int) (x32 : Int) : Option ((List Int) × Int) := rec (x31, x32, (IntKind.i64.wrap (y13 + 1)))
def impl_FDBound_B4 (a1 : Y91) (v1 : (List Int) × Bool) (y7 : Int) (rec : ((List Int) × Int × Int) → Option ((List Int) × Int)) (s : (List Int) × Int × Int) : Option ((List Int) × Int) := match s with
  | (y11, y12, y13) => cond (decide (y13 < (List.length a1.2.1 : Int))) (obind (geti a1.2.1 y13) fun e28 => chk ((0 : Int) ≤ IntKind.u64.wrap y13) (cond ((andI (shrI y7 (IntKind.u64.wrap y13)) 1) == 1) (obind (impl_AtomVariables e28) fun v34 => obind (impl_unite y11 v34) fun v36 => obind (geti v1.1 y13) fun e38 => impl_FDBound_J5 rec y13 v36 (IntKind.i64.wrap (y12 * e38))) (impl_FDBound_J5 rec y13 y11 y12))) (some (y11, y12))
def impl_FDBound_J7 (rec : (Int × Int) → Option (Int)) (y7 : Int) (x42 : Int) : Option (Int) := rec (x42, (IntKind.i64.wrap (y7 + 1)))
def impl_FDBound_J6 (rec : (Int × Int) → Option (Int)) (y6 : Int) (y7 : Int) (z24 : Int) (x41 : Bool) : Option (Int) := cond x41 (impl_FDBound_J7 rec y7 z24) (impl_FDBound_J7 rec y7 y6)
def impl_FDBound_B3 (a1 : Y91) (a2 : List Y26) (v1 : (List Int) × Bool) (rec : (Int × Int) → Option (Int)) (s : Int × Int) : Option (Int) := match s with
  | (y6, y7) => chk ((0 : Int) ≤ IntKind.u64.wrap (List.length a1.2.1 : Int)) (cond (decide (y7 < (shlI 1 (IntKind.u64.wrap (List.length a1.2.1 : Int))))) (obind (loopF (impl_FDBound_B4 a1 v1 y7) fz (([] : List Int), 1, 0)) fun o4 => (match o4 with
  | (z23, z24) => (obind (impl_FDClosure a1 a2 z23) fun v44 => cond ((List.length v44 : Int) == a1.1) (cond (decide (y6 < 0)) (impl_FDBound_J6 rec y6 y7 z24 true) (impl_FDBound_J6 rec y6 y7 z24 (decide (z24 < y6)))) (impl_FDBound_J6 rec y6 y7 z24 false)))) (some y6))
def impl_FDBound (a0 : List Y207) (a1 : Y91) (a2 : List Y26) : Option (Int × Bool) := obind (impl_AtomSizes a0 a1) fun v1 => obind (loopF (impl_FDBound_B1 a0 a2) fz (v1.2, 0)) fun z4 => cond (!z4) (some (0, false)) (obind (loopF (impl_FDBound_B3 a1 a2 v1) fz ((-1), 0)) fun z17 => some (z17, true))
theorem impl_FDBound_s {a0 : List Y207} {a1 : Y91} {a2 : List Y26} {r : Int × Bool} (h : impl_FDBound a0 a1 a2 = some r) : SoundAt Try.prog 69 [.agg [dL c208_dd a0], .agg (c92_ddd a1), dL c35_d a2] (.tup [nI r.1, .bool r.2]) := by
 unfold impl_FDBound at h
 refine st lit69 rfl (rn 1 rfl (rs (sp 2 rfl (?_))))
 obtain ⟨v1, g2, h⟩ := ob_some h
 refine qC (qa rfl (erg (erc (erD ec208_dd _) rfl)) (qa rfl (erg (erc rfl (erc (erD ec195_d _) (erc (erD eci64 _) rfl)))) eran)) (impl_AtomSizes_s g2) (sp 5 rfl (evn (ls_seq_k fun K3 hK3 => rn 1 rfl ?_)))
 obtain ⟨o1, hl, hr1⟩ := ob_some h
 have kXB1 : ∀ {z4 : Bool}, z4 = o1 → Jn K3 [(2, dL c35_d a2), (4, .box [nI a1.1, dL c195_d a1.2.1, dL ci64 a1.2.2]), (8, oL 3 ci64 v1.1), (9, .bool z4)] := by
  intro z4 h σ' hk
  subst h
  replace h := hr1
  try dsimp only at h
  refine hK3 _ (lh hk rfl (ls_seq_k fun K14 hK14 => rn 1 rfl ?_))
  rcases cond_some h with ⟨g15, h⟩ | ⟨g15, h⟩
  ·exact qT rfl g15 (rn 1 rfl (ls_ret ((by cases h; exact ⟨.inl rfl, rfl⟩))))
  ·refine qF rfl g15 (ls_skip (hK14 _ (rn 1 rfl (ls_seq_k fun K16 hK16 => rn 1 rfl ?_))))
   obtain ⟨o3, hl, hr3⟩ := ob_some h
   have kXB3 : ∀ {z17 : Int}, z17 = o3 → Jn K16 [(12, nI z17)] := by
    intro z17 h σ' hk
    subst h
    replace h := hr3
    try dsimp only at h
    exact hK16 _ (lh hk rfl (rn 1 rfl (ls_ret ((by cases h; exact ⟨.inl rfl, rfl⟩)))))
   refine ls_rec (fun (s : Int × Int) => match s with | (y6, y7) => [(2, dL c35_d a2), (4, .box [nI a1.1, dL c195_d a1.2.1, dL ci64 a1.2.2]), (8, oL 3 ci64 v1.1), (12, nI y6), (13, nI y7)]) _ _ _ _ hl (okr rfl) (fun _ => rfl) ?_
   rintro m ⟨y6, y7⟩ N h hN
   unfold impl_FDBound_B3 at h
   dsimp only at h
   refine ls_seq_k fun K18 hK18 => rs (sp 5 rfl (?_))
   obtain ⟨g19, h⟩ := chk_some h
   refine qB rfl g19 rfl (sp 1 rfl (evn ?_))
   rcases cond_some h with ⟨g20, h⟩ | ⟨g20, h⟩
   ·refine qT rfl g20 (ls_skip (hK18 _ (ls_seq_k fun K21 hK21 => ls_blk (rn 2 rfl (ls_seq_k fun K22 hK22 => rn 1 rfl ?_)))))
    obtain ⟨o4, hl, hr4⟩ := ob_some h
    have kXB4 : ∀ {z23 : List Int} {z24 : Int}, (z23, z24) = o4 → Jn K22 [(2, dL c35_d a2), (4, .box [nI a1.1, dL c195_d a1.2.1, dL ci64 a1.2.2]), (8, oL 3 ci64 v1.1), (12, nI y6), (13, nI y7), (14, oL 3 ci64 z23), (15, nI z24)] := by
     intro z23 z24 h σ' hk
     subst h
     replace h := hr4
     try dsimp only at h
     refine hK22 _ (lh hk rfl (rdk (by kernel_rfl) fun K40 hK40 => ?_))
     have kJ6 : ∀ {x41 : Bool}, impl_FDBound_J6 (loopF (impl_FDBound_B3 a1 a2 v1) m) y6 y7 z24 x41 = some o3 → Jn K40 [(2, dL c35_d a2), (4, .box [nI a1.1, dL c195_d a1.2.1, dL ci64 a1.2.2]), (8, oL 3 ci64 v1.1), (12, nI y6), (13, nI y7), (15, nI z24), (89, .bool x41)] := by
      intro x41 h σ' hk
      unfold impl_FDBound_J6 at h
      refine hK40 _ (lh hk rfl ?_)
      have kJ7 : ∀ {x42 : Int}, impl_FDBound_J7 (loopF (impl_FDBound_B3 a1 a2 v1) m) y7 x42 = some o3 → Jn K21 [(2, dL c35_d a2), (4, .box [nI a1.1, dL c195_d a1.2.1, dL ci64 a1.2.2]), (8, oL 3 ci64 v1.1), (12, nI x42), (13, nI y7)] := by
       intro x42 h σ' hk
       unfold impl_FDBound_J7 at h
       exact hK21 _ (lh hk rfl (rg (sp 3 rfl (evn (hN _ _ h (okr rfl))))))
      rcases cond_some h with ⟨g43, h⟩ | ⟨g43, h⟩
      ·exact qT rfl g43 (rg (sp 2 rfl (evn (kJ7 h _ (okr rfl)))))
      ·exact qF rfl g43 (ls_skip (kJ7 h _ (okr rfl)))
     refine sd 3 rfl (?_)
     obtain ⟨v44, g45, h⟩ := ob_some h
     refine ed rfl (qC (qa rfl (erg (erc rfl (erc (erD ec195_d _) (erc (erD eci64 _) rfl)))) (qa rfl (erD ec35_d _) (qa rfl (erD eci64 _) eran))) (impl_FDClosure_s g45) (sd 5 rfl (?_)))
     rcases cond_some h with ⟨g46, h⟩ | ⟨g46, h⟩
     ·refine qgd 81 g46 rfl (sd 3 rfl (?_))
      rcases cond_some h with ⟨g47, h⟩ | ⟨g47, h⟩
      ·exact qgd 84 g47 rfl (sd 5 rfl (evdn (kJ6 h _ (okr rfl))))
      ·exact qgd 84 g47 rfl (sd 5 rfl (evdn (kJ6 h _ (okr rfl))))
     ·exact qgd 81 g46 rfl (sd 8 rfl (evdn (kJ6 h _ (okr rfl))))
    refine ls_rec (fun (s : (List Int) × Int × Int) => match s with | (y11, y12, y13) => [(2, dL c35_d a2), (4, .box [nI a1.1, dL c195_d a1.2.1, dL ci64 a1.2.2]), (8, oL 3 ci64 v1.1), (12, nI y6), (13, nI y7), (14, oL 3 ci64 y11), (15, nI y12), (49, dL c195_d a1.2.1), (50, nI (List.length a1.2.1 : Int)), (51, nI y13)]) _ _ _ _ hl (okr rfl) (fun _ => rfl) ?_
    rintro m ⟨y11, y12, y13⟩ N h hN
    unfold impl_FDBound_B4 at h
    dsimp only at h
    refine rn 1 rfl (ls_seq_k fun K25 hK25 => ?_)
    rcases cond_some h with ⟨g26, h⟩ | ⟨g26, h⟩
    ·refine qT rfl g26 (ls_skip (hK25 _ (ls_seq_k fun K27 hK27 => ls_blk (rs (sp 1 rfl (?_))))))
     obtain ⟨e28, g29, h⟩ := ob_some h
     refine qI rfl zc195_d g29 (sp 4 rfl (evn (rs (sp 3 rfl (?_)))))
     obtain ⟨g30, h⟩ := chk_some h
     refine qB rfl g30 rfl (sp 2 rfl (evn ?_))
     have kJ5 : ∀ {x31 : List Int} {x32 : Int}, impl_FDBound_J5 (loopF (impl_FDBound_B4 a1 v1 y7) m) y13 x31 x32 = some o4 → Jn K27 [(2, dL c35_d a2), (4, .box [nI a1.1, dL c195_d a1.2.1, dL ci64 a1.2.2]), (8, oL 3 ci64 v1.1), (12, nI y6), (13, nI y7), (14, oL 3 ci64 x31), (15, nI x32), (49, dL c195_d a1.2.1), (50, nI (List.length a1.2.1 : Int)), (51, nI y13)] := by
      intro x31 x32 h σ' hk
      unfold impl_FDBound_J5 at h
      exact hK27 _ (lh hk rfl (rg (sp 2 rfl (evn (hN _ _ h (okr rfl))))))
     rcases cond_some h with ⟨g33, h⟩ | ⟨g33, h⟩
     ·refine qT rfl g33 (rs (sp 2 rfl (?_)))
      obtain ⟨v34, g35, h⟩ := ob_some h
      refine qC (qa rfl (erg (erc rfl (erc (erD eci64 _) rfl))) eran) (impl_AtomVariables_s g35) (?_)
      obtain ⟨v36, g37, h⟩ := ob_some h
      refine qC (qa rfl (erD eci64 _) (qa rfl (erO eci64 _) eran)) (impl_unite_s g37) (sp 1 rfl (evn (rg (sp 3 rfl (?_)))))
      obtain ⟨e38, g39, h⟩ := ob_some h
      exact qI rfl zci64 g39 (sp 3 rfl (evn (kJ5 h _ (okr rfl))))
     ·exact qF rfl g33 (ls_skip (kJ5 h _ (okr rfl)))
    ·exact qF rfl g26 (ls_exit (kXB4 (Option.some.inj h) _ (okr rfl)))
   ·exact qF rfl g20 (ls_exit (kXB3 (Option.some.inj h) _ (okr rfl)))
 refine ls_rec (fun (s : Bool × Int) => match s with | (y1, y2) => [(2, dL c35_d a2), (3, .box [dL c208_dd a0]), (4, .box [nI a1.1, dL c195_d a1.2.1, dL ci64 a1.2.2]), (8, oL 3 ci64 v1.1), (9, .bool y1), (24, dL c35_d a2), (25, nI (List.length a2 : Int)), (26, nI y2)]) _ _ _ _ hl (okr rfl) (fun _ => rfl) ?_
 rintro m ⟨y1, y2⟩ N h hN
 unfold impl_FDBound_B1 at h
 dsimp only at h
 refine rn 1 rfl (ls_seq_k fun K5 hK5 => ?_)
 rcases cond_some h with ⟨g6, h⟩ | ⟨g6, h⟩
 ·refine qT rfl g6 (ls_skip (hK5 _ (ls_seq_k fun K7 hK7 => ls_blk (rs ?_))))
  obtain ⟨e8, g9, h⟩ := ob_some h
  refine qI rfl zc35_d g9 (sp 3 rfl (evn ?_))
  have kJ2 : ∀ {x10 : Bool}, impl_FDBound_J2 (loopF (impl_FDBound_B1 a0 a2) m) y2 x10 = some o1 → Jn K7 [(2, dL c35_d a2), (3, .box [dL c208_dd a0]), (4, .box [nI a1.1, dL c195_d a1.2.1, dL ci64 a1.2.2]), (8, oL 3 ci64 v1.1), (9, .bool x10), (24, dL c35_d a2), (25, nI (List.length a2 : Int)), (26, nI y2)] := by
   intro x10 h σ' hk
   unfold impl_FDBound_J2 at h
   exact hK7 _ (lh hk rfl (rg (sp 2 rfl (evn (hN _ _ h (okr rfl))))))
  refine rg (sp 2 rfl (?_))
  rcases cond_some h with ⟨g11, h⟩ | ⟨g11, h⟩
  ·refine qg 31 g11 rfl (sp 2 rfl (?_))
   obtain ⟨v12, g13, h⟩ := ob_some h
   exact oGR rfl rfl (qC (qa rfl (erg (erc (erD ec208_dd _) rfl)) (qa rfl (erg (erc rfl (erc (erD eci64 _) (erc rfl rfl)))) eran)) (impl_FDHolds_s g13) (sp 2 rfl (evn (kJ2 h _ (okr rfl)))))
  ·exact qg 31 g11 rfl (sp 5 rfl (evn (kJ2 h _ (okr rfl))))
 ·exact qF rfl g6 (ls_exit (kXB1 (Option.some.inj h) _ (okr rfl)))
def laws_eqFunctionalDependency (a0 : Y26) (a1 : Y26) : Option (Bool) := cond (!(a0.1 == a1.1)) (some false) (obind (laws_eqIntS a0.2.1 a1.2.1) fun v4 => cond (!v4) (some false) (cond (a0.2.2 != a1.2.2) (some false) (some true)))
theorem laws_eqFunctionalDependency_s {a0 : Y26} {a1 : Y26} {r : Bool} (h : laws_eqFunctionalDependency a0 a1 = some r) : SoundAt Try.prog 21 [.agg (c35_d a0), .agg (c35_d a1)] (.bool r) := by
 unfold laws_eqFunctionalDependency at h
 refine st lit21 rfl (rn 1 rfl (ls_seq_k fun K1 hK1 => rn 1 rfl ?_))
 rcases cond_some h with ⟨g2, h⟩ | ⟨g2, h⟩
 ·exact qT rfl g2 (rn 1 rfl (ls_ret ((by cases h; exact ⟨.inl rfl, rfl⟩))))
 ·refine qF rfl g2 (ls_skip (hK1 _ (ls_seq_k fun K3 hK3 => rs (sp 4 rfl (?_)))))
  obtain ⟨v4, g5, h⟩ := ob_some h
  refine qC (qa rfl (erD eci64 _) (qa rfl (erD eci64 _) eran)) (laws_eqIntS_s g5) (sp 1 rfl (evn ?_))
  rcases cond_some h with ⟨g6, h⟩ | ⟨g6, h⟩
  ·exact qT rfl g6 (rn 1 rfl (ls_ret ((by cases h; exact ⟨.inl rfl, rfl⟩))))
  ·refine qF rfl g6 (ls_skip (hK3 _ (ls_seq_k fun K7 hK7 => rn 1 rfl (qk [20] rfl ?_))))
   rcases cond_some h with ⟨g8, h⟩ | ⟨g8, h⟩
   ·exact qT rfl g8 (rn 1 rfl (ls_ret ((by cases h; exact ⟨.inl rfl, rfl⟩))))
   ·exact qF rfl g8 (ls_skip (hK7 _ (rn 1 rfl (ls_ret ((by cases h; exact ⟨.inl rfl, rfl⟩))))))
def laws_eqFunctionalDependencyS_B1 (a0 : List Y26) (a1 : List Y26) (rec : Int → Option (Sum (Unit) (Bool))) (y1 : Int) : Option (Sum (Unit) (Bool)) := cond (decide (y1 < (List.length a0 : Int))) (obind (geti a0 y1) fun e7 => obind (geti a1 y1) fun e9 => obind (laws_eqFunctionalDependency e7 e9) fun v11 => cond (!v11) (some (.inr false)) (rec (IntKind.i64.wrap (y1 + 1)))) (some (.inl ()))
def laws_eqFunctionalDependencyS (a0 : List Y26) (a1 : List Y26) : Option (Bool) := cond ((List.length a0 : Int) != (List.length a1 : Int)) (some false) (obind (loopF (laws_eqFunctionalDependencyS_B1 a0 a1) fz 0) fun o1 => (match o1 with
  | .inl _ => (some true)
  | .inr r => some r))
theorem laws_eqFunctionalDependencyS_s {a0 : List Y26} {a1 : List Y26} {r : Bool} (h : laws_eqFunctionalDependencyS a0 a1 = some r) : SoundAt Try.prog 70 [dL c35_d a0, dL c35_d a1] (.bool r) := by
 unfold laws_eqFunctionalDependencyS at h
 refine st lit70 rfl (rn 1 rfl (ls_seq_k fun K1 hK1 => rn 1 rfl ?_))
 rcases cond_some h with ⟨g2, h⟩ | ⟨g2, h⟩
 ·exact qT rfl g2 (rn 1 rfl (ls_ret ((by cases h; exact ⟨.inl rfl, rfl⟩))))
 ·refine qF rfl g2 (ls_skip (hK1 _ (ls_seq_k fun K3 hK3 => rn 1 rfl ?_)))
  obtain ⟨o1, hl, hr1⟩ := ob_some h
  have kXB1 : (.inl ()) = o1 → Jn K3 [] := by
   intro h σ' hk
   subst h
   replace h := hr1
   try dsimp only at h
   exact hK3 _ (lh hk rfl (rn 1 rfl (ls_ret ((by cases h; exact ⟨.inl rfl, rfl⟩)))))
  refine ls_rec (fun (y1 : Int) => [(0, dL c35_d a0), (1, dL c35_d a1), (5, nI y1)]) _ _ _ _ hl (okr rfl) (fun _ => rfl) ?_
  rintro m y1 N h hN
  unfold laws_eqFunctionalDependencyS_B1 at h
  refine ls_seq_k fun K4 hK4 => rn 1 rfl ?_
  rcases cond_some h with ⟨g5, h⟩ | ⟨g5, h⟩
  ·refine qT rfl g5 (ls_skip (hK4 _ (ls_seq_k fun K6 hK6 => ls_blk (rd (by kernel_rfl) (sd 2 rfl (?_))))))
   obtain ⟨e7, g8, h⟩ := ob_some h
   refine ed rfl (qI rfl zc35_d g8 (sd 3 rfl (?_)))
   obtain ⟨e9, g10, h⟩ := ob_some h
   refine ed rfl (qI rfl zc35_d g10 (sd 1 rfl (?_)))
   obtain ⟨v11, g12, h⟩ := ob_some h
   refine ed rfl (qC (qa rfl (erg (erc rfl (erc (erD eci64 _) (erc rfl rfl)))) (qa rfl (erg (erc rfl (erc (erD eci64 _) (erc rfl rfl)))) eran)) (laws_eqFunctionalDependency_s g12) (sd 1 rfl (evdn ?_)))
   rcases cond_some h with ⟨g13, h⟩ | ⟨g13, h⟩
   ·exact qT rfl g13 (rn 1 rfl (ls_ret ((by cases h; cases hr1; exact ⟨.inl rfl, rfl⟩))))
   ·exact qF rfl g13 (ls_skip (hK6 _ (rg (sp 3 rfl (evn (hN _ _ h (okr rfl)))))))
  ·exact qF rfl g5 (ls_exit (kXB1 (Option.some.inj h) _ trivial))
def laws_FnExactFDBound (a0 : List Y205) (a1 : Y78) (a2 : List Y26) : Option (Bool) := obind (laws_szDatabase a0 1048576) fun v1 => cond (decide (v1 < 0)) (some true) (obind (laws_szQuery a1 v1) fun v5 => cond (decide (v5 < 0)) (some true) (obind (laws_szFunctionalDependencyS a2 v5) fun v9 => cond (decide (v9 < 0)) (some true) (obind (laws_toDatabase a0) fun v13 => obind (laws_toQuery a1) fun v15 => obind (laws_toFunctionalDependencyS a2) fun v17 => obind (spec_FDBound v13 v15 v17) fun v19 => obind (laws_toDatabase a0) fun v21 => obind (laws_toQuery a1) fun v23 => obind (laws_toFunctionalDependencyS a2) fun v25 => obind (impl_FDBound v21 v23 v25) fun v27 => cond (v27.1 != v19.1) (some false) (cond (!(v27.2 == v19.2)) (some false) (obind (laws_toDatabase a0) fun v33 => obind (laws_eqDatabase v21 v33) fun v35 => cond (!v35) (some false) (obind (laws_toQuery a1) fun v39 => obind (laws_eqQuery v23 v39) fun v41 => cond (!v41) (some false) (obind (laws_toFunctionalDependencyS a2) fun v45 => obind (laws_eqFunctionalDependencyS v25 v45) fun v47 => cond (!v47) (some false) (some true))))))))
theorem laws_FnExactFDBound_s {a0 : List Y205} {a1 : Y78} {a2 : List Y26} {r : Bool} (h : laws_FnExactFDBound a0 a1 a2 = some r) : SoundAt Try.prog 12 [.agg [dL c206_dd a0], .agg (c79_ddd a1), dL c27_d a2] (.bool r) := by
 unfold laws_FnExactFDBound at h
 refine st lit12 rfl (rn 2 rfl (rs (sp 2 rfl (?_))))
 obtain ⟨v1, g2, h⟩ := ob_some h
 refine qC (qa rfl (erg (erc (erD ec206_dd _) rfl)) (qs rfl eran)) (laws_szDatabase_s g2) (sp 1 rfl (evn (ls_seq_k fun K3 hK3 => rn 1 rfl ?_)))
 rcases cond_some h with ⟨g4, h⟩ | ⟨g4, h⟩
 ·exact qT rfl g4 (rn 1 rfl (ls_ret ((by cases h; exact ⟨.inl rfl, rfl⟩))))
 ·refine qF rfl g4 (ls_skip (hK3 _ (rs (sp 2 rfl (?_)))))
  obtain ⟨v5, g6, h⟩ := ob_some h
  refine qC (qa rfl (erg (erc rfl (erc (erD ec231_d _) (erc (erD eci64 _) rfl)))) (qs rfl eran)) (laws_szQuery_s g6) (sp 1 rfl (evn (ls_seq_k fun K7 hK7 => rn 1 rfl (qk [2, 3, 4, 7, 24] rfl ?_))))
  rcases cond_some h with ⟨g8, h⟩ | ⟨g8, h⟩
  ·exact qT rfl g8 (rn 1 rfl (ls_ret ((by cases h; exact ⟨.inl rfl, rfl⟩))))
  ·refine qF rfl g8 (ls_skip (hK7 _ (rs (sp 2 rfl (?_)))))
   obtain ⟨v9, g10, h⟩ := ob_some h
   refine qC (qa rfl (erD ec27_d _) (qs rfl eran)) (laws_szFunctionalDependencyS_s g10) (sp 1 rfl (evn (ls_seq_k fun K11 hK11 => rn 1 rfl ?_)))
   rcases cond_some h with ⟨g12, h⟩ | ⟨g12, h⟩
   ·exact qT rfl g12 (rn 1 rfl (ls_ret ((by cases h; exact ⟨.inl rfl, rfl⟩))))
   ·refine qF rfl g12 (ls_skip (hK11 _ (rd (by kernel_rfl) (sd 1 rfl (?_)))))
    obtain ⟨v13, g14, h⟩ := ob_some h
    refine ed rfl (qC (qa rfl (erg (erc (erD ec206_dd _) rfl)) eran) (laws_toDatabase_s g14) (sd 1 rfl (?_)))
    obtain ⟨v15, g16, h⟩ := ob_some h
    refine ed rfl (qC (qa rfl (erg (erc rfl (erc (erD ec231_d _) (erc (erD eci64 _) rfl)))) eran) (laws_toQuery_s g16) (sd 1 rfl (?_)))
    obtain ⟨v17, g18, h⟩ := ob_some h
    refine ed rfl (qC (qa rfl (erD ec27_d _) eran) (laws_toFunctionalDependencyS_s g18) (?_))
    obtain ⟨v19, g20, h⟩ := ob_some h
    refine ed rfl (qC (qa rfl (erg (erc (erO ec208_oo _) rfl)) (qa rfl (erg (erc rfl (erc (erO ec195_o _) (erc (erO eci64 _) rfl)))) (qa rfl (erO ec35_o _) eran))) (spec_FDBound_s g20) (sd 5 rfl (evdn (qk [2, 3, 4, 8, 9] rfl (rs (sp 1 rfl (?_)))))))
    obtain ⟨v21, g22, h⟩ := ob_some h
    refine qC (qa rfl (erg (erc (erD ec206_dd _) rfl)) eran) (laws_toDatabase_s g22) (sp 2 rfl (evn (rs (sp 1 rfl (?_)))))
    obtain ⟨v23, g24, h⟩ := ob_some h
    refine qC (qa rfl (erg (erc rfl (erc (erD ec231_d _) (erc (erD eci64 _) rfl)))) eran) (laws_toQuery_s g24) (sp 2 rfl (evn (rs (sp 1 rfl (?_)))))
    obtain ⟨v25, g26, h⟩ := ob_some h
    refine qC (qa rfl (erD ec27_d _) eran) (laws_toFunctionalDependencyS_s g26) (sp 1 rfl (evn (rs (sp 3 rfl (?_)))))
    obtain ⟨v27, g28, h⟩ := ob_some h
    refine qC (qa rfl (erg (erc (erD ec208_oo _) rfl)) (qa rfl (erg (erc rfl (erc (erD ec195_o _) (erc (erD eci64 _) rfl)))) (qa rfl (erD ec35_o _) eran))) (impl_FDBound_s g28) (sp 5 rfl (evn (ls_seq_k fun K29 hK29 => rs (sp 4 rfl (?_)))))
    rcases cond_some h with ⟨g30, h⟩ | ⟨g30, h⟩
    ·exact qg 56 g30 rfl (sp 4 rfl (evn (qT rfl rfl (rn 1 rfl (qk [6] rfl (ls_ret ((by cases h; exact ⟨.inl rfl, rfl⟩))))))))
    ·refine qg 56 g30 rfl (sp 4 rfl (evn ?_))
     rcases cond_some h with ⟨g31, h⟩ | ⟨g31, h⟩
     ·exact qT rfl g31 (rn 1 rfl (ls_ret ((by cases h; exact ⟨.inl rfl, rfl⟩))))
     ·refine qF rfl g31 (ls_skip (hK29 _ (ls_seq_k fun K32 hK32 => rd (by kernel_rfl) (sd 2 rfl (?_)))))
      obtain ⟨v33, g34, h⟩ := ob_some h
      refine ed rfl (qC (qa rfl (erg (erc (erD ec206_dd _) rfl)) eran) (laws_toDatabase_s g34) (?_))
      obtain ⟨v35, g36, h⟩ := ob_some h
      refine ed rfl (qC (qa rfl (erg (erc (erD ec208_oo _) rfl)) (qa rfl (erg (erc (erO ec208_oo _) rfl)) eran)) (laws_eqDatabase_s g36) (sd 1 rfl (evdn ?_)))
      rcases cond_some h with ⟨g37, h⟩ | ⟨g37, h⟩
      ·exact qT rfl g37 (rn 1 rfl (ls_ret ((by cases h; exact ⟨.inl rfl, rfl⟩))))
      ·refine qF rfl g37 (ls_skip (hK32 _ (ls_seq_k fun K38 hK38 => rd (by kernel_rfl) (sd 2 rfl (?_)))))
       obtain ⟨v39, g40, h⟩ := ob_some h
       refine ed rfl (qC (qa rfl (erg (erc rfl (erc (erD ec231_d _) (erc (erD eci64 _) rfl)))) eran) (laws_toQuery_s g40) (?_))
       obtain ⟨v41, g42, h⟩ := ob_some h
       refine ed rfl (qC (qa rfl (erg (erc rfl (erc (erD ec195_o _) (erc (erD eci64 _) rfl)))) (qa rfl (erg (erc rfl (erc (erO ec195_o _) (erc (erO eci64 _) rfl)))) eran)) (laws_eqQuery_s g42) (sd 1 rfl (evdn (qk [2, 12, 70] rfl ?_))))
       rcases cond_some h with ⟨g43, h⟩ | ⟨g43, h⟩
       ·exact qT rfl g43 (rn 1 rfl (ls_ret ((by cases h; exact ⟨.inl rfl, rfl⟩))))
       ·refine qF rfl g43 (ls_skip (hK38 _ (ls_seq_k fun K44 hK44 => rs (sp 2 rfl (?_)))))
        obtain ⟨v45, g46, h⟩ := ob_some h
        refine qC (qa rfl (erD ec27_d _) eran) (laws_toFunctionalDependencyS_s g46) (?_)
        obtain ⟨v47, g48, h⟩ := ob_some h
        refine qC (qa rfl (erD ec35_o _) (qa rfl (erO ec35_o _) eran)) (laws_eqFunctionalDependencyS_s g48) (sp 1 rfl (evn ?_))
        rcases cond_some h with ⟨g49, h⟩ | ⟨g49, h⟩
        ·exact qT rfl g49 (rn 1 rfl (ls_ret ((by cases h; exact ⟨.inl rfl, rfl⟩))))
        ·exact qF rfl g49 (ls_skip (hK44 _ (rn 1 rfl (ls_ret ((by cases h; exact ⟨.inl rfl, rfl⟩))))))
end Go.Proofs.Ytkcfahfladikkaa
