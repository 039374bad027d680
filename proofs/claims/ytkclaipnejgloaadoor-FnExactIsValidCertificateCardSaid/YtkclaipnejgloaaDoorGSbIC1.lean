/-
  Functions of the program as typed functions, printed by gen.py, and that the program's functions do what they say. No conditions.
-/
import Derived.Test.YtkclaipnejgloaaDoorGSIC1
namespace Go.Proofs.YtkclaipnejgloaaDoor
open Go.RowKit
set_option linter.unusedVariables false
set_option maxRecDepth 100000
set_option maxHeartbeats 1000000
def impl_IsFractionalCover_J3 (rec : ((List Y65) × Int) → Option ((List Y65))) (y7 : Int) (x22 : List Y65) : Option ((List Y65)) := rec (x22, (IntKind.i64.wrap (y7 + 1)))
def impl_IsFractionalCover_B2 (a0 : Y33) (a1 : List Y65) (y3 : Int) (rec : ((List Y65) × Int) → Option ((List Y65))) (s : (List Y65) × Int) : Option ((List Y65)) := match s with
  | (y6, y7) => cond (decide (y7 < (List.length a0.2.1 : Int))) (obind (geti a0.2.1 y7) fun e18 => obind (impl_ContainsVariable e18 y3) fun v20 => cond v20 (obind (geti a1 y7) fun e24 => chk (List.length y6 + List.length [e24] ≤ lim) (impl_IsFractionalCover_J3 rec y7 (y6 ++ [e24]))) (impl_IsFractionalCover_J3 rec y7 y6)) (some y6)
def impl_IsFractionalCover_B1 (a0 : Y33) (a1 : List Y65) (rec : Int → Option (Sum (Unit) (Bool))) (y3 : Int) : Option (Sum (Unit) (Bool)) := cond (decide (y3 < a0.1)) (obind (loopF (impl_IsFractionalCover_B2 a0 a1 y3) fz (([] : List Y65), 0)) fun z14 => obind (impl_SumRationals z14) fun v27 => cond (!v27.2) (some (.inr false)) (obind (impl_CompareRationals v27.1 (1, 1)) fun v30 => cond (decide (v30 < 0)) (some (.inr false)) (rec (IntKind.i64.wrap (y3 + 1))))) (some (.inl ()))
def impl_IsFractionalCover (a0 : Y33) (a1 : List Y65) : Option (Bool) := obind (impl_IsValidQuery a0) fun v2 => cond (!v2) (some false) (cond ((List.length a1 : Int) != (List.length a0.2.1 : Int)) (some false) (obind (impl_admissible a1) fun v6 => cond (!v6) (some false) (obind (loopF (impl_IsFractionalCover_B1 a0 a1) fz 0) fun o1 => (match o1 with
  | .inl _ => (some true)
  | .inr r => some r))))
theorem impl_IsFractionalCover_s {a0 : Y33} {a1 : List Y65} {r : Bool} (h : impl_IsFractionalCover a0 a1 = some r) : SoundAt Tryd.prog 24 [.agg (c34_ddd a0), dL c66_ a1] (.bool r) := by
 unfold impl_IsFractionalCover at h
 refine st lit24 rfl (rn 1 rfl (ls_seq_k fun K1 hK1 => rs (sp 1 rfl (?_))))
 obtain ⟨v2, g3, h⟩ := ob_some h
 refine qC (qa rfl (erg (erc rfl (erc (erD ec64_d _) (erc (erD eci64 _) rfl)))) eran) (impl_IsValidQuery_s g3) (sp 2 rfl (?_))
 rcases cond_some h with ⟨g4, h⟩ | ⟨g4, h⟩
 ·exact qg 14 g4 rfl (sp 12 rfl (evn (qT rfl rfl (rn 1 rfl (ls_ret ((by cases h; exact ⟨.inl rfl, rfl⟩)))))))
 ·refine qg 14 g4 rfl (sp 8 rfl (?_))
  rcases cond_some h with ⟨g5, h⟩ | ⟨g5, h⟩
  ·exact qg 22 g5 rfl (sp 4 rfl (evn (qk [1, 2, 26] rfl (qT rfl rfl (rn 1 rfl (ls_ret ((by cases h; exact ⟨.inl rfl, rfl⟩))))))))
  ·refine qg 22 g5 rfl (sp 1 rfl (?_))
   obtain ⟨v6, g7, h⟩ := ob_some h
   refine oGR rfl rfl (qC (qa rfl (erD ec66_ _) eran) (impl_admissible_s g7) (sp 2 rfl (evn ?_)))
   rcases cond_some h with ⟨g8, h⟩ | ⟨g8, h⟩
   ·exact qT rfl g8 (rn 1 rfl (ls_ret ((by cases h; exact ⟨.inl rfl, rfl⟩))))
   ·refine qF rfl g8 (ls_skip (hK1 _ (ls_seq_k fun K9 hK9 => rn 1 rfl ?_)))
    obtain ⟨o1, hl, hr1⟩ := ob_some h
    have kXB1 : (.inl ()) = o1 → Jn K9 [] := by
     intro h σ' hk
     subst h
     replace h := hr1
     try dsimp only at h
     exact hK9 _ (lh hk rfl (rn 1 rfl (ls_ret ((by cases h; exact ⟨.inl rfl, rfl⟩)))))
    refine ls_rec (fun (y3 : Int) => [(1, dL c66_ a1), (2, .box [nI a0.1, dL c64_d a0.2.1, dL ci64 a0.2.2]), (5, nI y3)]) _ _ _ _ hl (okr rfl) (fun _ => rfl) ?_
    rintro m y3 N h hN
    unfold impl_IsFractionalCover_B1 at h
    refine ls_seq_k fun K10 hK10 => rn 1 rfl ?_
    rcases cond_some h with ⟨g11, h⟩ | ⟨g11, h⟩
    ·refine qT rfl g11 (ls_skip (hK10 _ (ls_seq_k fun K12 hK12 => ls_blk (rn 1 rfl (ls_seq_k fun K13 hK13 => rn 1 rfl ?_)))))
     obtain ⟨o2, hl, hr2⟩ := ob_some h
     have kXB2 : ∀ {z14 : List Y65}, z14 = o2 → Jn K13 [(1, dL c66_ a1), (2, .box [nI a0.1, dL c64_d a0.2.1, dL ci64 a0.2.2]), (5, nI y3), (6, oL 66 c66_ z14)] := by
      intro z14 h σ' hk
      subst h
      replace h := hr2
      try dsimp only at h
      refine hK13 _ (lh hk rfl (rs (sp 1 rfl (?_))))
      obtain ⟨v27, g28, h⟩ := ob_some h
      refine qC (qa rfl (erD ec66_ _) eran) (impl_SumRationals_s g28) (sp 6 rfl (evn (rs (sp 3 rfl (?_)))))
      rcases cond_some h with ⟨g29, h⟩ | ⟨g29, h⟩
      ·exact qg 59 g29 rfl (sp 5 rfl (evn (qT rfl rfl (rn 1 rfl (ls_ret ((by cases h; cases hr1; exact ⟨.inl rfl, rfl⟩)))))))
      ·refine qg 59 g29 rfl (sp 2 rfl (?_))
       obtain ⟨v30, g31, h⟩ := ob_some h
       refine oGR rfl rfl (qC (qa rfl (erg (erc rfl (erc rfl rfl))) (qa rfl (erg (erc rfl (erc rfl rfl))) eran)) (impl_CompareRationals_s g31) (sp 2 rfl (evn ?_)))
       rcases cond_some h with ⟨g32, h⟩ | ⟨g32, h⟩
       ·exact qT rfl g32 (rn 1 rfl (ls_ret ((by cases h; cases hr1; exact ⟨.inl rfl, rfl⟩))))
       ·exact qF rfl g32 (ls_skip (hK12 _ (qk [1, 2, 5] rfl (rg (sp 3 rfl (evn (hN _ _ h (okr rfl))))))))
     refine ls_rec (fun (s : (List Y65) × Int) => match s with | (y6, y7) => [(1, dL c66_ a1), (2, .box [nI a0.1, dL c64_d a0.2.1, dL ci64 a0.2.2]), (5, nI y3), (6, oL 66 c66_ y6), (34, dL c64_d a0.2.1), (35, nI (List.length a0.2.1 : Int)), (36, nI y7)]) _ _ _ _ hl (okr rfl) (fun _ => rfl) ?_
     rintro m ⟨y6, y7⟩ N h hN
     unfold impl_IsFractionalCover_B2 at h
     dsimp only at h
     refine rn 1 rfl (ls_seq_k fun K15 hK15 => ?_)
     rcases cond_some h with ⟨g16, h⟩ | ⟨g16, h⟩
     ·refine qT rfl g16 (ls_skip (hK15 _ (ls_seq_k fun K17 hK17 => ls_blk (rs (sp 1 rfl (?_))))))
      obtain ⟨e18, g19, h⟩ := ob_some h
      refine qI rfl zc64_d g19 (sp 4 rfl (evn (rs (sp 2 rfl (?_)))))
      obtain ⟨v20, g21, h⟩ := ob_some h
      refine qC (qa rfl (erg (erc rfl (erc (erD eci64 _) rfl))) (qs rfl eran)) (impl_ContainsVariable_s g21) (evn ?_)
      have kJ3 : ∀ {x22 : List Y65}, impl_IsFractionalCover_J3 (loopF (impl_IsFractionalCover_B2 a0 a1 y3) m) y7 x22 = some o2 → Jn K17 [(1, dL c66_ a1), (2, .box [nI a0.1, dL c64_d a0.2.1, dL ci64 a0.2.2]), (5, nI y3), (6, oL 66 c66_ x22), (34, dL c64_d a0.2.1), (35, nI (List.length a0.2.1 : Int)), (36, nI y7)] := by
       intro x22 h σ' hk
       unfold impl_IsFractionalCover_J3 at h
       exact hK17 _ (lh hk rfl (rg (sp 2 rfl (evn (hN _ _ h (okr rfl))))))
      rcases cond_some h with ⟨g23, h⟩ | ⟨g23, h⟩
      ·refine qT rfl g23 (rg (sp 3 rfl (?_)))
       obtain ⟨e24, g25, h⟩ := ob_some h
       refine qI rfl zc66_ g25 (sp 1 rfl (qBs c66_ [e24] rfl rfl rfl zc66_ (?_)))
       obtain ⟨g26, h⟩ := chk_some h
       exact qA c66_ y6 [e24] rfl rfl (flat_len zc66_ [e24]) rfl g26 (sp 1 rfl (evn (kJ3 h _ (okr rfl))))
      ·exact qF rfl g23 (ls_skip (kJ3 h _ (okr rfl)))
     ·exact qF rfl g16 (ls_exit (kXB2 (Option.some.inj h) _ (okr rfl)))
    ·exact qF rfl g11 (ls_exit (kXB1 (Option.some.inj h) _ trivial))
def impl_ScaleToIntegers_B1 (a0 : List Y65) (rec : Int → Option (Sum (Unit) ((List Int) × Int))) (y1 : Int) : Option (Sum (Unit) ((List Int) × Int)) := cond (decide (y1 < (List.length a0 : Int))) (obind (geti a0 y1) fun e5 => obind (impl_IsValidRational e5) fun v7 => cond (!v7) (some (.inr (([] : List Int), 0))) (cond (decide (e5.1 < 0)) (some (.inr (([] : List Int), 0))) (rec (IntKind.i64.wrap (y1 + 1))))) (some (.inl ()))
def impl_ScaleToIntegers_B2 (a0 : List Y65) (rec : (Int × Int) → Option (Sum (Int) ((List Int) × Int))) (s : Int × Int) : Option (Sum (Int) ((List Int) × Int)) := match s with
  | (y2, y3) => cond (decide (y3 < (List.length a0 : Int))) (obind (geti a0 y3) fun e16 => obind (impl_gcd y2 e16.2) fun v18 => chk (v18 ≠ 0) (cond (decide (1000 < (IntKind.i64.wrap ((IntKind.i64.wrap (Int.tdiv y2 v18)) * e16.2)))) (some (.inr (([] : List Int), 0))) (rec ((IntKind.i64.wrap ((IntKind.i64.wrap (Int.tdiv y2 v18)) * e16.2)), (IntKind.i64.wrap (y3 + 1)))))) (some (.inl y2))
def impl_ScaleToIntegers_B3 (a0 : List Y65) (z12 : Int) (rec : ((List Int) × Int) → Option ((List Int))) (s : (List Int) × Int) : Option ((List Int)) := match s with
  | (y4, y5) => cond (decide (y5 < (List.length a0 : Int))) (obind (geti a0 y5) fun e27 => chk (e27.2 ≠ 0) (chk (List.length y4 + List.length [IntKind.i64.wrap (e27.1 * (IntKind.i64.wrap (Int.tdiv z12 e27.2)))] ≤ lim) (rec ((y4 ++ [IntKind.i64.wrap (e27.1 * (IntKind.i64.wrap (Int.tdiv z12 e27.2)))]), (IntKind.i64.wrap (y5 + 1)))))) (some y4)
def impl_ScaleToIntegers (a0 : List Y65) : Option ((List Int) × Int) := obind (loopF (impl_ScaleToIntegers_B1 a0) fz 0) fun o1 => (match o1 with
  | .inl _ => (obind (loopF (impl_ScaleToIntegers_B2 a0) fz (1, 0)) fun o2 => (match o2 with
  | .inl z12 => (obind (loopF (impl_ScaleToIntegers_B3 a0 z12) fz (([] : List Int), 0)) fun z23 => some (z23, z12))
  | .inr r => some r))
  | .inr r => some r)
theorem impl_ScaleToIntegers_s {a0 : List Y65} {r : (List Int) × Int} (h : impl_ScaleToIntegers a0 = some r) : SoundAt Tryd.prog 70 [dL c66_ a0] (.tup [oL 3 ci64 r.1, nI r.2]) := by
 unfold impl_ScaleToIntegers at h
 refine st lit70 rfl (rn 2 rfl (ls_seq_k fun K1 hK1 => rn 1 rfl ?_))
 obtain ⟨o1, hl, hr1⟩ := ob_some h
 have kXB1 : (.inl ()) = o1 → Jn K1 [(0, dL c66_ a0), (4, nI 1)] := by
  intro h σ' hk
  subst h
  replace h := hr1
  try dsimp only at h
  refine hK1 _ (lh hk rfl (ls_seq_k fun K11 hK11 => rn 1 rfl ?_))
  obtain ⟨o2, hl, hr2⟩ := ob_some h
  have kXB2 : ∀ {z12 : Int}, (.inl z12) = o2 → Jn K11 [(0, dL c66_ a0), (4, nI z12)] := by
   intro z12 h σ' hk
   subst h
   replace h := hr2
   try dsimp only at h
   refine hK11 _ (lh hk rfl (rn 1 rfl (ls_seq_k fun K22 hK22 => rn 1 rfl ?_)))
   obtain ⟨o3, hl, hr3⟩ := ob_some h
   have kXB3 : ∀ {z23 : List Int}, z23 = o3 → Jn K22 [(4, nI z12), (9, oL 3 ci64 z23)] := by
    intro z23 h σ' hk
    subst h
    replace h := hr3
    try dsimp only at h
    exact hK22 _ (lh hk rfl (rn 1 rfl (ls_ret ((by cases h; exact ⟨.inl rfl, rfl⟩)))))
   refine ls_rec (fun (s : (List Int) × Int) => match s with | (y4, y5) => [(4, nI z12), (9, oL 3 ci64 y4), (45, dL c66_ a0), (46, nI (List.length a0 : Int)), (47, nI y5)]) _ _ _ _ hl (okr rfl) (fun _ => rfl) ?_
   rintro m ⟨y4, y5⟩ N h hN
   unfold impl_ScaleToIntegers_B3 at h
   dsimp only at h
   refine rn 1 rfl (ls_seq_k fun K24 hK24 => ?_)
   rcases cond_some h with ⟨g25, h⟩ | ⟨g25, h⟩
   ·refine qT rfl g25 (ls_skip (hK24 _ (ls_seq_k fun K26 hK26 => ls_blk (rs ?_))))
    obtain ⟨e27, g28, h⟩ := ob_some h
    refine qI rfl zc66_ g28 (sp 3 rfl (evn (rgd (by kernel_rfl) (sd 6 rfl (?_)))))
    obtain ⟨g29, h⟩ := chk_some h
    refine ed rfl (qB rfl ⟨rfl, g29⟩ rfl (sd 1 rfl (ed rfl (qBs ci64 [IntKind.i64.wrap (e27.1 * (IntKind.i64.wrap (Int.tdiv z12 e27.2)))] rfl rfl rfl zci64 (?_)))))
    obtain ⟨g30, h⟩ := chk_some h
    exact ed rfl (qA ci64 y4 [IntKind.i64.wrap (e27.1 * (IntKind.i64.wrap (Int.tdiv z12 e27.2)))] rfl rfl (flat_len zci64 [IntKind.i64.wrap (e27.1 * (IntKind.i64.wrap (Int.tdiv z12 e27.2)))]) rfl g30 (sd 1 rfl (evdn (hK26 _ (rg (sp 2 rfl (evn (hN _ _ h (okr rfl)))))))))
   ·exact qF rfl g25 (ls_exit (kXB3 (Option.some.inj h) _ (okr rfl)))
  refine ls_rec (fun (s : Int × Int) => match s with | (y2, y3) => [(0, dL c66_ a0), (4, nI y2), (27, dL c66_ a0), (28, nI (List.length a0 : Int)), (29, nI y3)]) _ _ _ _ hl (okr rfl) (fun _ => rfl) ?_
  rintro m ⟨y2, y3⟩ N h hN
  unfold impl_ScaleToIntegers_B2 at h
  dsimp only at h
  refine rn 1 rfl (ls_seq_k fun K13 hK13 => ?_)
  rcases cond_some h with ⟨g14, h⟩ | ⟨g14, h⟩
  ·refine qT rfl g14 (ls_skip (hK13 _ (ls_seq_k fun K15 hK15 => ls_blk (rs ?_))))
   obtain ⟨e16, g17, h⟩ := ob_some h
   refine qI rfl zc66_ g17 (sp 3 rfl (evn (rd (by kernel_rfl) (sd 4 rfl (?_)))))
   obtain ⟨v18, g19, h⟩ := ob_some h
   refine ed rfl (qC (qs rfl (qs rfl eran)) (impl_gcd_s g19) (?_))
   obtain ⟨g20, h⟩ := chk_some h
   refine ed rfl (qB rfl ⟨rfl, g20⟩ rfl (sd 4 rfl (evdn (rn 1 rfl ?_))))
   rcases cond_some h with ⟨g21, h⟩ | ⟨g21, h⟩
   ·exact qT rfl g21 (rn 1 rfl (ls_ret ((by cases h; cases hr2; exact ⟨.inl rfl, rfl⟩))))
   ·exact qF rfl g21 (ls_skip (hK15 _ (qk [0, 4, 27, 28, 29] rfl (rg (sp 2 rfl (evn (hN _ _ h (okr rfl))))))))
  ·exact qF rfl g14 (ls_exit (kXB2 (Option.some.inj h) _ (okr rfl)))
 refine ls_rec (fun (y1 : Int) => [(0, dL c66_ a0), (4, nI 1), (12, dL c66_ a0), (13, nI (List.length a0 : Int)), (14, nI y1)]) _ _ _ _ hl (okr rfl) (fun _ => rfl) ?_
 rintro m y1 N h hN
 unfold impl_ScaleToIntegers_B1 at h
 refine rn 1 rfl (ls_seq_k fun K2 hK2 => ?_)
 rcases cond_some h with ⟨g3, h⟩ | ⟨g3, h⟩
 ·refine qT rfl g3 (ls_skip (hK2 _ (ls_seq_k fun K4 hK4 => ls_blk (rs ?_))))
  obtain ⟨e5, g6, h⟩ := ob_some h
  refine qI rfl zc66_ g6 (sp 3 rfl (evn (rs (sp 1 rfl (?_)))))
  obtain ⟨v7, g8, h⟩ := ob_some h
  refine qC (qa rfl (erg (erc rfl (erc rfl rfl))) eran) (impl_IsValidRational_s g8) (sp 2 rfl (?_))
  rcases cond_some h with ⟨g9, h⟩ | ⟨g9, h⟩
  ·exact qg 21 g9 rfl (sp 4 rfl (evn (qT rfl rfl (rn 1 rfl (ls_ret ((by cases h; cases hr1; exact ⟨.inl rfl, rfl⟩)))))))
  ·refine qg 21 g9 rfl (sp 4 rfl (evn ?_))
   rcases cond_some h with ⟨g10, h⟩ | ⟨g10, h⟩
   ·exact qT rfl g10 (rn 1 rfl (qk [2, 3] rfl (ls_ret ((by cases h; cases hr1; exact ⟨.inl rfl, rfl⟩)))))
   ·exact qF rfl g10 (ls_skip (hK4 _ (rg (sp 2 rfl (evn (hN _ _ h (okr rfl)))))))
 ·exact qF rfl g3 (ls_exit (kXB1 (Option.some.inj h) _ (okr rfl)))
def impl_IsValidBigInt_B1 (a0 : List Int) (rec : Int → Option (Sum (Unit) (Bool))) (y1 : Int) : Option (Sum (Unit) (Bool)) := cond (decide (y1 < (List.length a0 : Int))) (obind (geti a0 y1) fun e5 => obind (impl_within e5 0 9) fun v7 => cond (!v7) (some (.inr false)) (rec (IntKind.i64.wrap (y1 + 1)))) (some (.inl ()))
def impl_IsValidBigInt_J2 (x11 : Bool) : Option (Bool) := some x11
def impl_IsValidBigInt (a0 : List Int) : Option (Bool) := obind (loopF (impl_IsValidBigInt_B1 a0) fz 0) fun o1 => (match o1 with
  | .inl _ => (cond (decide ((List.length a0 : Int) ≤ 60)) (cond ((List.length a0 : Int) == 0) (impl_IsValidBigInt_J2 true) (obind (geti a0 (IntKind.i64.wrap ((List.length a0 : Int) - 1))) fun e14 => impl_IsValidBigInt_J2 (e14 != 0))) (impl_IsValidBigInt_J2 false))
  | .inr r => some r)
theorem impl_IsValidBigInt_s {a0 : List Int} {r : Bool} (h : impl_IsValidBigInt a0 = some r) : SoundAt Tryd.prog 82 [.agg [dL ci64 a0]] (.bool r) := by
 unfold impl_IsValidBigInt at h
 refine st lit82 rfl (rn 2 rfl (ls_seq_k fun K1 hK1 => rn 1 rfl ?_))
 obtain ⟨o1, hl, hr1⟩ := ob_some h
 have kXB1 : (.inl ()) = o1 → Jn K1 [(1, .box [dL ci64 a0]), (3, nI (List.length a0 : Int))] := by
  intro h σ' hk
  subst h
  replace h := hr1
  try dsimp only at h
  refine hK1 _ (lh hk rfl (rk fun K10 hK10 => ?_))
  have kJ2 : ∀ {x11 : Bool}, impl_IsValidBigInt_J2 x11 = some r → Jn K10 [(2, .bool x11)] := by
   intro x11 h σ' hk
   unfold impl_IsValidBigInt_J2 at h
   exact hK10 _ (lh hk rfl (ls_ret ((by cases h; exact ⟨.inl rfl, rfl⟩))))
  refine sp 3 rfl (?_)
  rcases cond_some h with ⟨g12, h⟩ | ⟨g12, h⟩
  ·refine qg 22 g12 rfl (sp 3 rfl (?_))
   rcases cond_some h with ⟨g13, h⟩ | ⟨g13, h⟩
   ·exact qg 25 g13 rfl (sp 10 rfl (evn (kJ2 h _ (okr rfl))))
   ·refine qg 25 g13 rfl (sp 4 rfl (?_))
    obtain ⟨e14, g15, h⟩ := ob_some h
    exact oGR rfl rfl (qI rfl zci64 g15 (sp 5 rfl (evn (kJ2 h _ (okr rfl)))))
  ·exact qg 22 g12 rfl (sp 13 rfl (evn (kJ2 h _ (okr rfl))))
 refine ls_rec (fun (y1 : Int) => [(1, .box [dL ci64 a0]), (3, nI (List.length a0 : Int)), (10, dL ci64 a0), (11, nI (List.length a0 : Int)), (12, nI y1)]) _ _ _ _ hl (okr rfl) (fun _ => rfl) ?_
 rintro m y1 N h hN
 unfold impl_IsValidBigInt_B1 at h
 refine rn 1 rfl (ls_seq_k fun K2 hK2 => ?_)
 rcases cond_some h with ⟨g3, h⟩ | ⟨g3, h⟩
 ·refine qT rfl g3 (ls_skip (hK2 _ (ls_seq_k fun K4 hK4 => ls_blk (rs ?_))))
  obtain ⟨e5, g6, h⟩ := ob_some h
  refine qI rfl zci64 g6 (sp 2 rfl (evn (rs (sp 1 rfl (?_)))))
  obtain ⟨v7, g8, h⟩ := ob_some h
  refine qC (qs rfl (qs rfl (qs rfl eran))) (impl_within_s g8) (sp 1 rfl (evn ?_))
  rcases cond_some h with ⟨g9, h⟩ | ⟨g9, h⟩
  ·exact qT rfl g9 (rn 1 rfl (ls_ret ((by cases h; cases hr1; exact ⟨.inl rfl, rfl⟩))))
  ·exact qF rfl g9 (ls_skip (hK4 _ (rg (sp 2 rfl (evn (hN _ _ h (okr rfl)))))))
 ·exact qF rfl g3 (ls_exit (kXB1 (Option.some.inj h) _ (okr rfl)))
def impl_carried_J3 (rec : ((List Int) × Int × Int) → Option ((List Int))) (y1 : List Int) (y3 : Int) (x9 : Int) : Option ((List Int)) := chk (List.length y1 + List.length [Int.tmod x9 10] ≤ lim) (rec ((y1 ++ [Int.tmod x9 10]), (IntKind.i64.wrap (Int.tdiv x9 10)), (IntKind.i64.wrap (y3 + 1))))
def impl_carried_J2 (rec : ((List Int) × Int × Int) → Option ((List Int))) (a0 : List Int) (y1 : List Int) (y2 : Int) (y3 : Int) (x5 : Bool) : Option ((List Int)) := cond x5 (cond (decide (y3 < (List.length a0 : Int))) (obind (geti a0 y3) fun e12 => impl_carried_J3 rec y1 y3 (IntKind.i64.wrap (y2 + e12))) (impl_carried_J3 rec y1 y3 y2)) (some y1)
def impl_carried_B1 (a0 : List Int) (rec : ((List Int) × Int × Int) → Option ((List Int))) (s : (List Int) × Int × Int) : Option ((List Int)) := match s with
  | (y1, y2, y3) => cond (decide (y3 < (List.length a0 : Int))) (impl_carried_J2 rec a0 y1 y2 y3 true) (impl_carried_J2 rec a0 y1 y2 y3 (decide (0 < y2)))
def impl_carried_B4 (z2 : List Int) (rec : Int → Option (Int)) (y4 : Int) : Option (Int) := cond (decide (0 < y4)) (obind (geti z2 (IntKind.i64.wrap (y4 - 1))) fun e19 => cond (e19 == 0) (rec (IntKind.i64.wrap (y4 - 1))) (some y4)) (some y4)
def impl_carried (a0 : List Int) : Option ((List Int) × Bool) := obind (loopF (impl_carried_B1 a0) fz (([] : List Int), 0, 0)) fun z2 => obind (loopF (impl_carried_B4 z2) fz (List.length z2 : Int)) fun z16 => chk ((0 : Int) ≤ 0 ∧ 0 ≤ z16 ∧ z16 ≤ (List.length z2 : Int)) (cond (decide (60 < z16)) (some ([], false)) (some (subl z2 0 z16, true)))
theorem impl_carried_s {a0 : List Int} {r : (List Int) × Bool} (h : impl_carried a0 = some r) : SoundAt Tryd.prog 83 [dL ci64 a0] (.tup [.agg [dL ci64 r.1], .bool r.2]) := by
 unfold impl_carried at h
 refine st lit83 rfl (rn 3 rfl (ls_seq_k fun K1 hK1 => rn 1 rfl ?_))
 obtain ⟨o1, hl, hr1⟩ := ob_some h
 have kXB1 : ∀ {z2 : List Int}, z2 = o1 → Jn K1 [(2, .box [oL 3 ci64 []]), (4, .box [oL 3 ci64 z2])] := by
  intro z2 h σ' hk
  subst h
  replace h := hr1
  try dsimp only at h
  refine hK1 _ (lh hk rfl (rn 1 rfl (ls_seq_k fun K15 hK15 => ?_)))
  obtain ⟨o4, hl, hr4⟩ := ob_some h
  have kXB4 : ∀ {z16 : Int}, z16 = o4 → Jn K15 [(2, .box [oL 3 ci64 []]), (4, .box [oL 3 ci64 z2]), (7, nI z16)] := by
   intro z16 h σ' hk
   subst h
   replace h := hr4
   try dsimp only at h
   refine hK15 _ (lh hk rfl (rs (sp 3 rfl (?_))))
   obtain ⟨g22, h⟩ := chk_some h
   refine qSl rfl zci64 g22 (sp 2 rfl (evn (ls_seq_k fun K23 hK23 => rn 1 rfl ?_)))
   rcases cond_some h with ⟨g24, h⟩ | ⟨g24, h⟩
   ·exact qT rfl g24 (rn 1 rfl (ls_keep [(2, .box [dL ci64 []]), (3, .bool false)] ⟨(kb (cwe rfl rfl cwn)), kr, trivial⟩ rfl (ls_ret ((by cases h; exact ⟨.inl rfl, rfl⟩)))))
   ·exact qF rfl g24 (ls_skip (hK23 _ (rn 1 rfl (ls_ret ((by cases h; exact ⟨.inl rfl, rfl⟩))))))
  refine ls_rec (fun (y4 : Int) => [(2, .box [oL 3 ci64 []]), (4, .box [oL 3 ci64 z2]), (7, nI y4)]) _ _ _ _ hl (okr rfl) (fun _ => rfl) ?_
  rintro m y4 N h hN
  unfold impl_carried_B4 at h
  refine ls_seq_k fun K17 hK17 => rs (sp 3 rfl (?_))
  rcases cond_some h with ⟨g18, h⟩ | ⟨g18, h⟩
  ·refine qg 42 g18 rfl (sp 4 rfl (?_))
   obtain ⟨e19, g20, h⟩ := ob_some h
   refine oGR rfl rfl (qI rfl zci64 g20 (sp 3 rfl (evn ?_)))
   rcases cond_some h with ⟨g21, h⟩ | ⟨g21, h⟩
   ·exact qT rfl g21 (ls_skip (hK17 _ (ls_blk (rg (sp 3 rfl (evn (hN _ _ h (okr rfl))))))))
   ·exact qF rfl g21 (ls_exit (kXB4 (Option.some.inj h) _ (okr rfl)))
  ·exact qg 42 g18 rfl (sp 8 rfl (evn (qF rfl rfl (ls_exit (kXB4 (Option.some.inj h) _ (okr rfl))))))
 refine ls_rec (fun (s : (List Int) × Int × Int) => match s with | (y1, y2, y3) => [(0, dL ci64 a0), (2, .box [oL 3 ci64 []]), (4, .box [oL 3 ci64 y1]), (5, nI y2), (6, nI y3)]) _ _ _ _ hl (okr rfl) (fun _ => rfl) ?_
 rintro m ⟨y1, y2, y3⟩ N h hN
 unfold impl_carried_B1 at h
 dsimp only at h
 refine ls_seq_k fun K3 hK3 => rk fun K4 hK4 => ?_
 have kJ2 : ∀ {x5 : Bool}, impl_carried_J2 (loopF (impl_carried_B1 a0) m) a0 y1 y2 y3 x5 = some o1 → Jn K4 [(0, dL ci64 a0), (2, .box [oL 3 ci64 []]), (4, .box [oL 3 ci64 y1]), (5, nI y2), (6, nI y3), (15, .bool x5)] := by
  intro x5 h σ' hk
  unfold impl_carried_J2 at h
  refine hK4 _ (lh hk rfl ?_)
  rcases cond_some h with ⟨g6, h⟩ | ⟨g6, h⟩
  ·refine qT rfl g6 (ls_skip (hK3 _ (ls_seq_k fun K7 hK7 => ls_blk (ls_seq_k fun K8 hK8 => rn 1 rfl ?_))))
   have kJ3 : ∀ {x9 : Int}, impl_carried_J3 (loopF (impl_carried_B1 a0) m) y1 y3 x9 = some o1 → Jn K8 [(0, dL ci64 a0), (2, .box [oL 3 ci64 []]), (4, .box [oL 3 ci64 y1]), (5, nI x9), (6, nI y3)] := by
    intro x9 h σ' hk
    unfold impl_carried_J3 at h
    refine hK8 _ (lh hk rfl (rs (sp 4 rfl (qBs ci64 [Int.tmod x9 10] rfl rfl rfl zci64 (?_)))))
    obtain ⟨g10, h⟩ := chk_some h
    exact qA ci64 y1 [Int.tmod x9 10] rfl rfl (flat_len zci64 [Int.tmod x9 10]) rfl g10 (sp 2 rfl (evn (rg (sp 3 rfl (evn (hK7 _ (rg (sp 3 rfl (evn (hN _ _ h (okr rfl)))))))))))
   rcases cond_some h with ⟨g11, h⟩ | ⟨g11, h⟩
   ·refine qT rfl g11 (rg (sp 3 rfl (?_)))
    obtain ⟨e12, g13, h⟩ := ob_some h
    exact qI rfl zci64 g13 (sp 3 rfl (evn (kJ3 h _ (okr rfl))))
   ·exact qF rfl g11 (ls_skip (kJ3 h _ (okr rfl)))
  ·exact qF rfl g6 (ls_exit (kXB1 (Option.some.inj h) _ (okr rfl)))
 refine sp 5 rfl (?_)
 rcases cond_some h with ⟨g14, h⟩ | ⟨g14, h⟩
 ·exact qg 12 g14 rfl (sp 3 rfl (evn (kJ2 h _ (okr rfl))))
 ·exact qg 12 g14 rfl (sp 3 rfl (evn (kJ2 h _ (okr rfl))))
def impl_MulBigInt_B2 (a1 : List Int) (y4 : Int) (e14 : Int) (rec : ((List Int) × Int) → Option ((List Int))) (s : (List Int) × Int) : Option ((List Int)) := match s with
  | (y7, y8) => cond (decide (y8 < (List.length a1 : Int))) (obind (geti a1 y8) fun e20 => obind (geti y7 (IntKind.i64.wrap (y4 + y8))) fun e22 => obind (geti y7 (IntKind.i64.wrap (y4 + y8))) fun e24 => rec ((seti y7 (IntKind.i64.wrap (y4 + y8)) (IntKind.i64.wrap (e22 + (IntKind.i64.wrap (e14 * e20))))), (IntKind.i64.wrap (y8 + 1)))) (some y7)
def impl_MulBigInt_B1 (a0 : List Int) (a1 : List Int) (rec : ((List Int) × Int) → Option ((List Int))) (s : (List Int) × Int) : Option ((List Int)) := match s with
  | (y3, y4) => cond (decide (y4 < (List.length a0 : Int))) (obind (geti a0 y4) fun e14 => obind (loopF (impl_MulBigInt_B2 a1 y4 e14) fz (y3, 0)) fun z16 => rec (z16, (IntKind.i64.wrap (y4 + 1)))) (some y3)
def impl_MulBigInt (a0 : List Int) (a1 : List Int) : Option ((List Int) × Bool) := obind (impl_IsValidBigInt a0) fun v2 => cond (!v2) (some ([], false)) (obind (impl_IsValidBigInt a1) fun v5 => cond (!v5) (some ([], false)) (chk ((0 : Int) ≤ IntKind.i64.wrap ((List.length a0 : Int) + (List.length a1 : Int)) ∧ Int.toNat (IntKind.i64.wrap ((List.length a0 : Int) + (List.length a1 : Int))) ≤ lim) (obind (loopF (impl_MulBigInt_B1 a0 a1) fz ((List.replicate (Int.toNat (IntKind.i64.wrap ((List.length a0 : Int) + (List.length a1 : Int)))) (0 : Int)), 0)) fun z10 => obind (impl_carried z10) fun v26 => some (v26.1, v26.2))))
theorem impl_MulBigInt_s {a0 : List Int} {a1 : List Int} {r : (List Int) × Bool} (h : impl_MulBigInt a0 a1 = some r) : SoundAt Tryd.prog 73 [.agg [dL ci64 a0], .agg [dL ci64 a1]] (.tup [.agg [dL ci64 r.1], .bool r.2]) := by
 unfold impl_MulBigInt at h
 refine st lit73 rfl (rn 1 rfl (ls_seq_k fun K1 hK1 => rs (sp 1 rfl (?_))))
 obtain ⟨v2, g3, h⟩ := ob_some h
 refine qC (qa rfl (erg (erc (erD eci64 _) rfl)) eran) (impl_IsValidBigInt_s g3) (sp 2 rfl (?_))
 rcases cond_some h with ⟨g4, h⟩ | ⟨g4, h⟩
 ·exact qg 14 g4 rfl (sp 4 rfl (evn (qT rfl rfl (rn 1 rfl (ls_keep [(4, .box [dL ci64 []]), (5, .bool false)] ⟨(kb (cwe rfl rfl cwn)), kr, trivial⟩ rfl (ls_ret ((by cases h; exact ⟨.inl rfl, rfl⟩))))))))
 ·refine qg 14 g4 rfl (sp 1 rfl (?_))
  obtain ⟨v5, g6, h⟩ := ob_some h
  refine oGR rfl rfl (qC (qa rfl (erg (erc (erD eci64 _) rfl)) eran) (impl_IsValidBigInt_s g6) (sp 2 rfl (evn ?_)))
  rcases cond_some h with ⟨g7, h⟩ | ⟨g7, h⟩
  ·exact qT rfl g7 (rn 1 rfl (ls_keep [(4, .box [dL ci64 []]), (5, .bool false)] ⟨(kb (cwe rfl rfl cwn)), kr, trivial⟩ rfl (ls_ret ((by cases h; exact ⟨.inl rfl, rfl⟩)))))
  ·refine qF rfl g7 (ls_skip (hK1 _ (rs (sp 7 rfl (?_)))))
   obtain ⟨g8, h⟩ := chk_some h
   refine qMu ci64 (0 : Int) rfl rfl rfl rfl g8 rfl (qAu rfl rfl rfl rfl (evn (ls_seq_k fun K9 hK9 => rn 1 rfl ?_)))
   obtain ⟨o1, hl, hr1⟩ := ob_some h
   have kXB1 : ∀ {z10 : List Int}, z10 = o1 → Jn K9 [(4, .box [oL 3 ci64 []]), (6, wL 3 ci64 z10)] := by
    intro z10 h σ' hk
    subst h
    replace h := hr1
    try dsimp only at h
    refine hK9 _ (lh hk rfl (rs (qTu rfl rfl rfl (?_))))
    obtain ⟨v26, g27, h⟩ := ob_some h
    exact qC (qa rfl (erO eci64 _) eran) (impl_carried_s g27) (sp 4 rfl (evn (ls_ret ((by cases h; exact ⟨.inl rfl, rfl⟩)))))
   refine ls_rec (fun (s : (List Int) × Int) => match s with | (y3, y4) => [(3, .box [dL ci64 a1]), (4, .box [oL 3 ci64 []]), (6, wL 3 ci64 y3), (29, dL ci64 a0), (30, nI (List.length a0 : Int)), (31, nI y4)]) _ _ _ _ hl (okr rfl) (fun _ => rfl) ?_
   rintro m ⟨y3, y4⟩ N h hN
   unfold impl_MulBigInt_B1 at h
   dsimp only at h
   refine rn 1 rfl (ls_seq_k fun K11 hK11 => ?_)
   rcases cond_some h with ⟨g12, h⟩ | ⟨g12, h⟩
   ·refine qT rfl g12 (ls_skip (hK11 _ (ls_seq_k fun K13 hK13 => ls_blk (rs (sp 1 rfl (?_))))))
    obtain ⟨e14, g15, h⟩ := ob_some h
    refine qI rfl zci64 g15 (sp 3 rfl (evn (rn 1 rfl ?_)))
    obtain ⟨o2, hl, hr2⟩ := ob_some h
    have kXB2 : ∀ {z16 : List Int}, z16 = o2 → Jn K13 [(3, .box [dL ci64 a1]), (4, .box [oL 3 ci64 []]), (6, wL 3 ci64 z16), (29, dL ci64 a0), (30, nI (List.length a0 : Int)), (31, nI y4)] := by
     intro z16 h σ' hk
     subst h
     replace h := hr2
     try dsimp only at h
     exact hK13 _ (lh hk rfl (rg (sp 2 rfl (evn (hN _ _ h (okr rfl))))))
    refine ls_rec (fun (s : (List Int) × Int) => match s with | (y7, y8) => [(3, .box [dL ci64 a1]), (4, .box [oL 3 ci64 []]), (6, wL 3 ci64 y7), (7, nI y4), (8, nI e14), (29, dL ci64 a0), (30, nI (List.length a0 : Int)), (31, nI y4), (37, dL ci64 a1), (38, nI (List.length a1 : Int)), (39, nI y8)]) _ _ _ _ hl (okr rfl) (fun _ => rfl) ?_
    rintro m ⟨y7, y8⟩ N h hN
    unfold impl_MulBigInt_B2 at h
    dsimp only at h
    refine rn 1 rfl (ls_seq_k fun K17 hK17 => ?_)
    rcases cond_some h with ⟨g18, h⟩ | ⟨g18, h⟩
    ·refine qT rfl g18 (ls_skip (hK17 _ (ls_seq_k fun K19 hK19 => ls_blk (rs (sp 1 rfl (?_))))))
     obtain ⟨e20, g21, h⟩ := ob_some h
     refine qI rfl zci64 g21 (sp 3 rfl (evn (rg (sp 4 rfl (?_)))))
     obtain ⟨e22, g23, h⟩ := ob_some h
     refine qIu rfl ⟨(geti_some g23).1, (geti_some g23).2.1⟩ (qLu 0 rfl rfl rfl zci64 g23 rfl rfl rfl (sp 4 rfl (?_)))
     obtain ⟨e24, g25, h⟩ := ob_some h
     exact qIu rfl ⟨(geti_some g25).1, (geti_some g25).2.1⟩ (qSu (IntKind.i64.wrap (e22 + (IntKind.i64.wrap (e14 * e20)))) rfl rfl zci64 ⟨(geti_some g25).1, (geti_some g25).2.1⟩ rfl rfl rfl rfl rfl rfl (evn (hK19 _ (rg (sp 2 rfl (evn (hN _ _ h (okr rfl))))))))
    ·exact qF rfl g18 (ls_exit (kXB2 (Option.some.inj h) _ (okr rfl)))
   ·exact qF rfl g12 (ls_exit (kXB1 (Option.some.inj h) _ (okr rfl)))
def impl_BigIntFromInt_B1  (rec : (Int × (List Int)) → Option ((List Int))) (s : Int × (List Int)) : Option ((List Int)) := match s with
  | (y1, y2) => cond (decide (0 < y1)) (chk (List.length y2 + List.length [Int.tmod y1 10] ≤ lim) (rec ((IntKind.i64.wrap (Int.tdiv y1 10)), (y2 ++ [Int.tmod y1 10])))) (some y2)
def impl_BigIntFromInt (a0 : Int) : Option ((List Int)) := obind (loopF impl_BigIntFromInt_B1 fz (a0, ([] : List Int))) fun z2 => some z2
theorem impl_BigIntFromInt_s {a0 : Int} {r : (List Int)} (h : impl_BigIntFromInt a0 = some r) : SoundAt Tryd.prog 81 [nI a0] (.agg [oL 3 ci64 r]) := by
 unfold impl_BigIntFromInt at h
 refine st lit81 rfl (rn 2 rfl (ls_seq_k fun K1 hK1 => ?_))
 obtain ⟨o1, hl, hr1⟩ := ob_some h
 have kXB1 : ∀ {z2 : List Int}, z2 = o1 → Jn K1 [(2, .box [oL 3 ci64 []]), (3, .box [oL 3 ci64 z2])] := by
  intro z2 h σ' hk
  subst h
  replace h := hr1
  try dsimp only at h
  exact hK1 _ (lh hk rfl (rn 1 rfl (ls_ret ((by cases h; exact ⟨.inl rfl, rfl⟩)))))
 refine ls_rec (fun (s : Int × (List Int)) => match s with | (y1, y2) => [(0, nI y1), (2, .box [oL 3 ci64 []]), (3, .box [oL 3 ci64 y2])]) _ _ _ _ hl (okr rfl) (fun _ => rfl) ?_
 rintro m ⟨y1, y2⟩ N h hN
 unfold impl_BigIntFromInt_B1 at h
 dsimp only at h
 refine ls_seq_k fun K3 hK3 => rn 1 rfl ?_
 rcases cond_some h with ⟨g4, h⟩ | ⟨g4, h⟩
 ·refine qT rfl g4 (ls_skip (hK3 _ (ls_blk (rs (sp 4 rfl (qBs ci64 [Int.tmod y1 10] rfl rfl rfl zci64 (?_)))))))
  obtain ⟨g5, h⟩ := chk_some h
  exact qA ci64 y2 [Int.tmod y1 10] rfl rfl (flat_len zci64 [Int.tmod y1 10]) rfl g5 (sp 2 rfl (evn (rg (sp 3 rfl (evn (hN _ _ h (okr rfl)))))))
 ·exact qF rfl g4 (ls_exit (kXB1 (Option.some.inj h) _ (okr rfl)))
def impl_PowBigInt_B1 (a0 : Int) (a1 : Int) (rec : ((List Int) × Int) → Option (Sum ((List Int)) ((List Int) × Bool))) (s : (List Int) × Int) : Option (Sum ((List Int)) ((List Int) × Bool)) := match s with
  | (y1, y2) => cond (decide (y2 < a1)) (obind (impl_BigIntFromInt a0) fun v13 => obind (impl_MulBigInt y1 v13) fun v15 => cond (!v15.2) (some (.inr ([], false))) (rec (v15.1, (IntKind.i64.wrap (y2 + 1))))) (some (.inl y1))
def impl_PowBigInt (a0 : Int) (a1 : Int) : Option ((List Int) × Bool) := cond (decide (a0 < 0)) (some ([], false)) (obind (impl_within a1 0 100) fun v3 => cond (!v3) (some ([], false)) (obind (impl_BigIntFromInt 1) fun v6 => obind (loopF (impl_PowBigInt_B1 a0 a1) fz (v6, 0)) fun o1 => (match o1 with
  | .inl z9 => (some (z9, true))
  | .inr r => some r)))
theorem impl_PowBigInt_s {a0 : Int} {a1 : Int} {r : (List Int) × Bool} (h : impl_PowBigInt a0 a1 = some r) : SoundAt Tryd.prog 71 [nI a0, nI a1] (.tup [.agg [dL ci64 r.1], .bool r.2]) := by
 unfold impl_PowBigInt at h
 refine st lit71 rfl (rn 1 rfl (ls_seq_k fun K1 hK1 => rs (sp 3 rfl (?_))))
 rcases cond_some h with ⟨g2, h⟩ | ⟨g2, h⟩
 ·exact qg 12 g2 rfl (sp 4 rfl (evn (qT rfl rfl (rn 1 rfl (ls_keep [(4, .box [dL ci64 []]), (5, .bool false)] ⟨(kb (cwe rfl rfl cwn)), kr, trivial⟩ rfl (ls_ret ((by cases h; exact ⟨.inl rfl, rfl⟩))))))))
 ·refine qg 12 g2 rfl (sp 1 rfl (?_))
  obtain ⟨v3, g4, h⟩ := ob_some h
  refine oGR rfl rfl (qC (qs rfl (qs rfl (qs rfl eran))) (impl_within_s g4) (sp 2 rfl (evn ?_)))
  rcases cond_some h with ⟨g5, h⟩ | ⟨g5, h⟩
  ·exact qT rfl g5 (rn 1 rfl (ls_keep [(4, .box [dL ci64 []]), (5, .bool false)] ⟨(kb (cwe rfl rfl cwn)), kr, trivial⟩ rfl (ls_ret ((by cases h; exact ⟨.inl rfl, rfl⟩)))))
  ·refine qF rfl g5 (ls_skip (hK1 _ (rs ?_)))
   obtain ⟨v6, g7, h⟩ := ob_some h
   refine qC (qs rfl eran) (impl_BigIntFromInt_s g7) (sp 2 rfl (evn (ls_seq_k fun K8 hK8 => rn 1 rfl ?_)))
   obtain ⟨o1, hl, hr1⟩ := ob_some h
   have kXB1 : ∀ {z9 : List Int}, (.inl z9) = o1 → Jn K8 [(4, .box [oL 3 ci64 []]), (6, .box [dL ci64 z9])] := by
    intro z9 h σ' hk
    subst h
    replace h := hr1
    try dsimp only at h
    exact hK8 _ (lh hk rfl (rn 1 rfl (ls_ret ((by cases h; exact ⟨.inl rfl, rfl⟩)))))
   refine ls_rec (fun (s : (List Int) × Int) => match s with | (y1, y2) => [(0, nI a0), (1, nI a1), (4, .box [oL 3 ci64 []]), (6, .box [dL ci64 y1]), (7, nI y2)]) _ _ _ _ hl ⟨kr, kr, kr, (kb (cwd rfl rfl cwn)), kr, trivial⟩ (fun _ => rfl) ?_
   rintro m ⟨y1, y2⟩ N h hN
   unfold impl_PowBigInt_B1 at h
   dsimp only at h
   refine ls_seq_k fun K10 hK10 => rn 1 rfl ?_
   rcases cond_some h with ⟨g11, h⟩ | ⟨g11, h⟩
   ·refine qT rfl g11 (ls_skip (hK10 _ (ls_seq_k fun K12 hK12 => ls_blk (rd (by kernel_rfl) (sd 2 rfl (?_))))))
    obtain ⟨v13, g14, h⟩ := ob_some h
    refine ed rfl (qC (qs rfl eran) (impl_BigIntFromInt_s g14) (?_))
    obtain ⟨v15, g16, h⟩ := ob_some h
    refine ed rfl (qC (qa rfl (erg (erc (erD eci64 _) rfl)) (qa rfl (erg (erc (erO eci64 _) rfl)) eran)) (impl_MulBigInt_s g16) (sd 6 rfl (evdn (ls_seq_k fun K17 hK17 => rn 1 rfl ?_))))
    rcases cond_some h with ⟨g18, h⟩ | ⟨g18, h⟩
    ·exact qT rfl g18 (rn 1 rfl (ls_keep [(4, .box [dL ci64 []]), (5, .bool false)] ⟨(kb (cwe rfl rfl cwn)), kr, trivial⟩ rfl (ls_ret ((by cases h; cases hr1; exact ⟨.inl rfl, rfl⟩)))))
    ·exact qF rfl g18 (ls_skip (hK17 _ (rg (sp 2 rfl (evn (hK12 _ (rg (sp 3 rfl (evn (hN _ _ h (okr rfl)))))))))))
   ·exact qF rfl g11 (ls_exit (kXB1 (Option.some.inj h) _ (okr rfl)))
def impl_ProductOfPowers_B1 (a0 : List Int) (a1 : List Int) (rec : ((List Int) × Int) → Option (Sum ((List Int)) ((List Int) × Bool))) (s : (List Int) × Int) : Option (Sum ((List Int)) ((List Int) × Bool)) := match s with
  | (y1, y2) => cond (decide (y2 < (List.length a0 : Int))) (obind (geti a0 y2) fun e10 => obind (geti a1 y2) fun e12 => obind (impl_PowBigInt e10 e12) fun v14 => obind (impl_MulBigInt y1 v14.1) fun v16 => cond (!v14.2) (some (.inr ([], false))) (cond (!v16.2) (some (.inr ([], false))) (rec (v16.1, (IntKind.i64.wrap (y2 + 1)))))) (some (.inl y1))
def impl_ProductOfPowers (a0 : List Int) (a1 : List Int) : Option ((List Int) × Bool) := cond ((List.length a0 : Int) != (List.length a1 : Int)) (some ([], false)) (obind (impl_BigIntFromInt 1) fun v3 => obind (loopF (impl_ProductOfPowers_B1 a0 a1) fz (v3, 0)) fun o1 => (match o1 with
  | .inl z6 => (some (z6, true))
  | .inr r => some r))
theorem impl_ProductOfPowers_s {a0 : List Int} {a1 : List Int} {r : (List Int) × Bool} (h : impl_ProductOfPowers a0 a1 = some r) : SoundAt Tryd.prog 72 [dL ci64 a0, dL ci64 a1] (.tup [.agg [dL ci64 r.1], .bool r.2]) := by
 unfold impl_ProductOfPowers at h
 refine st lit72 rfl (rn 1 rfl (ls_seq_k fun K1 hK1 => rn 1 rfl ?_))
 rcases cond_some h with ⟨g2, h⟩ | ⟨g2, h⟩
 ·exact qT rfl g2 (rn 1 rfl (ls_keep [(4, .box [dL ci64 []]), (5, .bool false)] ⟨(kb (cwe rfl rfl cwn)), kr, trivial⟩ rfl (ls_ret ((by cases h; exact ⟨.inl rfl, rfl⟩)))))
 ·refine qF rfl g2 (ls_skip (hK1 _ (rs ?_)))
  obtain ⟨v3, g4, h⟩ := ob_some h
  refine qC (qs rfl eran) (impl_BigIntFromInt_s g4) (sp 2 rfl (evn (ls_seq_k fun K5 hK5 => rn 1 rfl ?_)))
  obtain ⟨o1, hl, hr1⟩ := ob_some h
  have kXB1 : ∀ {z6 : List Int}, (.inl z6) = o1 → Jn K5 [(4, .box [oL 3 ci64 []]), (6, .box [dL ci64 z6])] := by
   intro z6 h σ' hk
   subst h
   replace h := hr1
   try dsimp only at h
   exact hK5 _ (lh hk rfl (rn 1 rfl (ls_ret ((by cases h; exact ⟨.inl rfl, rfl⟩)))))
  refine ls_rec (fun (s : (List Int) × Int) => match s with | (y1, y2) => [(0, dL ci64 a0), (1, dL ci64 a1), (4, .box [oL 3 ci64 []]), (6, .box [dL ci64 y1]), (20, nI (List.length a0 : Int)), (21, nI y2)]) _ _ _ _ hl ⟨kr, kr, kr, (kb (cwd rfl rfl cwn)), kr, kr, trivial⟩ (fun _ => rfl) ?_
  rintro m ⟨y1, y2⟩ N h hN
  unfold impl_ProductOfPowers_B1 at h
  dsimp only at h
  refine rn 1 rfl (ls_seq_k fun K7 hK7 => ?_)
  rcases cond_some h with ⟨g8, h⟩ | ⟨g8, h⟩
  ·refine qT rfl g8 (ls_skip (hK7 _ (ls_seq_k fun K9 hK9 => ls_blk (rn 1 rfl (rd (by kernel_rfl) (sd 2 rfl (?_)))))))
   obtain ⟨e10, g11, h⟩ := ob_some h
   refine ed rfl (qI rfl zci64 g11 (sd 3 rfl (?_)))
   obtain ⟨e12, g13, h⟩ := ob_some h
   refine ed rfl (qI rfl zci64 g13 (sd 1 rfl (?_)))
   obtain ⟨v14, g15, h⟩ := ob_some h
   refine ed rfl (qC (qs rfl (qs rfl eran)) (impl_PowBigInt_s g15) (sd 6 rfl (evdn (rs (sp 2 rfl (?_))))))
   obtain ⟨v16, g17, h⟩ := ob_some h
   refine qC (qa rfl (erg (erc (erD eci64 _) rfl)) (qa rfl (erg (erc (erD eci64 _) rfl)) eran)) (impl_MulBigInt_s g17) (sp 6 rfl (evn (qk [0, 1, 4, 6, 9, 10, 11, 20, 21] rfl (ls_seq_k fun K18 hK18 => rs (sp 3 rfl (?_))))))
   rcases cond_some h with ⟨g19, h⟩ | ⟨g19, h⟩
   ·exact qg 44 g19 rfl (sp 3 rfl (evn (qT rfl rfl (rn 1 rfl (ls_keep [(4, .box [dL ci64 []]), (5, .bool false)] ⟨(kb (cwe rfl rfl cwn)), kr, trivial⟩ rfl (ls_ret ((by cases h; cases hr1; exact ⟨.inl rfl, rfl⟩))))))))
   ·refine qg 44 g19 rfl (sp 3 rfl (evn ?_))
    rcases cond_some h with ⟨g20, h⟩ | ⟨g20, h⟩
    ·exact qT rfl g20 (rn 1 rfl (ls_keep [(4, .box [dL ci64 []]), (5, .bool false)] ⟨(kb (cwe rfl rfl cwn)), kr, trivial⟩ rfl (ls_ret ((by cases h; cases hr1; exact ⟨.inl rfl, rfl⟩)))))
    ·exact qF rfl g20 (ls_skip (hK18 _ (rg (sp 2 rfl (evn (hK9 _ (rg (sp 2 rfl (evn (hN _ _ h (okr rfl)))))))))))
  ·exact qF rfl g8 (ls_exit (kXB1 (Option.some.inj h) _ (okr rfl)))
def impl_CompareBigInts_B1 (a0 : List Int) (a1 : List Int) (rec : Int → Option (Sum (Unit) (Int))) (y1 : Int) : Option (Sum (Unit) (Int)) := cond (decide (0 ≤ y1)) (obind (geti a0 y1) fun e16 => obind (geti a1 y1) fun e18 => cond (e16 != e18) (obind (geti a0 y1) fun e21 => obind (geti a1 y1) fun e23 => obind (impl_compareInts e21 e23) fun v25 => some (.inr v25)) (rec (IntKind.i64.wrap (y1 - 1)))) (some (.inl ()))
def impl_CompareBigInts (a0 : List Int) (a1 : List Int) : Option (Int) := obind (impl_IsValidBigInt a0) fun v2 => cond (!v2) (some 0) (obind (impl_IsValidBigInt a1) fun v5 => cond (!v5) (some 0) (cond ((List.length a0 : Int) != (List.length a1 : Int)) (obind (impl_compareInts (List.length a0 : Int) (List.length a1 : Int)) fun v10 => some v10) (obind (loopF (impl_CompareBigInts_B1 a0 a1) fz (IntKind.i64.wrap ((List.length a0 : Int) - 1))) fun o1 => (match o1 with
  | .inl _ => (some 0)
  | .inr r => some r))))
theorem impl_CompareBigInts_s {a0 : List Int} {a1 : List Int} {r : Int} (h : impl_CompareBigInts a0 a1 = some r) : SoundAt Tryd.prog 74 [.agg [dL ci64 a0], .agg [dL ci64 a1]] (nI r) := by
 unfold impl_CompareBigInts at h
 refine st lit74 rfl (rn 1 rfl (ls_seq_k fun K1 hK1 => rs (sp 1 rfl (?_))))
 obtain ⟨v2, g3, h⟩ := ob_some h
 refine qC (qa rfl (erg (erc (erD eci64 _) rfl)) eran) (impl_IsValidBigInt_s g3) (sp 2 rfl (?_))
 rcases cond_some h with ⟨g4, h⟩ | ⟨g4, h⟩
 ·exact qg 9 g4 rfl (sp 4 rfl (evn (qT rfl rfl (rn 1 rfl (ls_ret ((by cases h; exact ⟨.inl rfl, rfl⟩)))))))
 ·refine qg 9 g4 rfl (sp 1 rfl (?_))
  obtain ⟨v5, g6, h⟩ := ob_some h
  refine oGR rfl rfl (qC (qa rfl (erg (erc (erD eci64 _) rfl)) eran) (impl_IsValidBigInt_s g6) (sp 2 rfl (evn ?_)))
  rcases cond_some h with ⟨g7, h⟩ | ⟨g7, h⟩
  ·exact qT rfl g7 (rn 1 rfl (ls_ret ((by cases h; exact ⟨.inl rfl, rfl⟩))))
  ·refine qF rfl g7 (ls_skip (hK1 _ (ls_seq_k fun K8 hK8 => rn 1 rfl (qk [2, 3, 20] rfl ?_))))
   rcases cond_some h with ⟨g9, h⟩ | ⟨g9, h⟩
   ·refine qT rfl g9 (rs (sp 6 rfl (?_)))
    obtain ⟨v10, g11, h⟩ := ob_some h
    exact qC (qs rfl (qs rfl eran)) (impl_compareInts_s g11) (sp 1 rfl (evn (ls_ret ((by cases h; exact ⟨.inl rfl, rfl⟩)))))
   ·refine qF rfl g9 (ls_skip (hK8 _ (ls_seq_k fun K12 hK12 => rn 1 rfl ?_)))
    obtain ⟨o1, hl, hr1⟩ := ob_some h
    have kXB1 : (.inl ()) = o1 → Jn K12 [] := by
     intro h σ' hk
     subst h
     replace h := hr1
     try dsimp only at h
     exact hK12 _ (lh hk rfl (rn 1 rfl (ls_ret ((by cases h; exact ⟨.inl rfl, rfl⟩)))))
    refine ls_rec (fun (y1 : Int) => [(2, .box [dL ci64 a0]), (3, .box [dL ci64 a1]), (5, nI y1)]) _ _ _ _ hl (okr rfl) (fun _ => rfl) ?_
    rintro m y1 N h hN
    unfold impl_CompareBigInts_B1 at h
    refine ls_seq_k fun K13 hK13 => rn 1 rfl ?_
    rcases cond_some h with ⟨g14, h⟩ | ⟨g14, h⟩
    ·refine qT rfl g14 (ls_skip (hK13 _ (ls_seq_k fun K15 hK15 => ls_blk (rd (by kernel_rfl) (sd 3 rfl (?_))))))
     obtain ⟨e16, g17, h⟩ := ob_some h
     refine ed rfl (qI rfl zci64 g17 (sd 4 rfl (?_)))
     obtain ⟨e18, g19, h⟩ := ob_some h
     refine ed rfl (qI rfl zci64 g19 (sd 2 rfl (evdn ?_)))
     rcases cond_some h with ⟨g20, h⟩ | ⟨g20, h⟩
     ·refine qT rfl g20 (rd (by kernel_rfl) (sd 3 rfl (?_)))
      obtain ⟨e21, g22, h⟩ := ob_some h
      refine ed rfl (qI rfl zci64 g22 (sd 4 rfl (?_)))
      obtain ⟨e23, g24, h⟩ := ob_some h
      refine ed rfl (qI rfl zci64 g24 (sd 1 rfl (?_)))
      obtain ⟨v25, g26, h⟩ := ob_some h
      exact ed rfl (qC (qs rfl (qs rfl eran)) (impl_compareInts_s g26) (sd 1 rfl (evdn (ls_ret ((by cases h; cases hr1; exact ⟨.inl rfl, rfl⟩))))))
     ·exact qF rfl g20 (ls_skip (hK15 _ (qk [2, 3, 5] rfl (rg (sp 3 rfl (evn (hN _ _ h (okr rfl))))))))
    ·exact qF rfl g14 (ls_exit (kXB1 (Option.some.inj h) _ trivial))
def impl_withinPowers_B1 (a0 : List Int) (rec : Int → Option (Sum (Unit) (Bool))) (y1 : Int) : Option (Sum (Unit) (Bool)) := cond (decide (y1 < (List.length a0 : Int))) (obind (geti a0 y1) fun e11 => cond (decide (e11 < 0)) (some (.inr false)) (rec (IntKind.i64.wrap (y1 + 1)))) (some (.inl ()))
def impl_withinPowers_J2 (x23 : Bool) : Option (Bool) := some x23
def impl_withinPowers (a0 : List Int) (a1 : List Y65) (a2 : Int) (a3 : Int) : Option (Bool) := obind (impl_ScaleToIntegers a1) fun v1 => cond (decide (a2 < 0)) (some false) (cond (decide (v1.2 < 1)) (some false) (cond (decide (100 < v1.2)) (some false) (obind (loopF (impl_withinPowers_B1 a0) fz 0) fun o1 => (match o1 with
  | .inl _ => (obind (impl_PowBigInt a2 v1.2) fun v14 => obind (impl_ProductOfPowers a0 v1.1) fun v16 => obind (impl_PowBigInt a3 v1.2) fun v18 => obind (impl_MulBigInt v16.1 v18.1) fun v20 => cond v14.2 (cond v16.2 (cond v18.2 (cond v20.2 (obind (impl_CompareBigInts v14.1 v20.1) fun v28 => impl_withinPowers_J2 (decide (v28 ≤ 0))) (impl_withinPowers_J2 false)) (impl_withinPowers_J2 false)) (impl_withinPowers_J2 false)) (impl_withinPowers_J2 false))
  | .inr r => some r))))
theorem impl_withinPowers_s {a0 : List Int} {a1 : List Y65} {a2 : Int} {a3 : Int} {r : Bool} (h : impl_withinPowers a0 a1 a2 a3 = some r) : SoundAt Tryd.prog 52 [dL ci64 a0, dL c66_ a1, nI a2, nI a3] (.bool r) := by
 unfold impl_withinPowers at h
 refine st lit52 rfl (rn 1 rfl (rs (sp 1 rfl (?_))))
 obtain ⟨v1, g2, h⟩ := ob_some h
 refine qC (qa rfl (erD ec66_ _) eran) (impl_ScaleToIntegers_s g2) (sp 5 rfl (evn (ls_seq_k fun K3 hK3 => rs (sp 3 rfl (?_)))))
 rcases cond_some h with ⟨g4, h⟩ | ⟨g4, h⟩
 ·exact qg 28 g4 rfl (sp 7 rfl (evn (qT rfl rfl (rn 1 rfl (ls_ret ((by cases h; exact ⟨.inl rfl, rfl⟩)))))))
 ·refine qg 28 g4 rfl (sp 4 rfl (?_))
  rcases cond_some h with ⟨g5, h⟩ | ⟨g5, h⟩
  ·exact qg 32 g5 rfl (sp 3 rfl (evn (qk [0, 2, 3, 9, 10, 35] rfl (qT rfl rfl (rn 1 rfl (ls_ret ((by cases h; exact ⟨.inl rfl, rfl⟩))))))))
  ·refine qg 32 g5 rfl (sp 3 rfl (evn ?_))
   rcases cond_some h with ⟨g6, h⟩ | ⟨g6, h⟩
   ·exact qT rfl g6 (rn 1 rfl (ls_ret ((by cases h; exact ⟨.inl rfl, rfl⟩))))
   ·refine qF rfl g6 (ls_skip (hK3 _ (ls_seq_k fun K7 hK7 => rn 1 rfl ?_)))
    obtain ⟨o1, hl, hr1⟩ := ob_some h
    have kXB1 : (.inl ()) = o1 → Jn K7 [(0, dL ci64 a0), (2, nI a2), (3, nI a3), (9, oL 3 ci64 v1.1), (10, nI v1.2)] := by
     intro h σ' hk
     subst h
     replace h := hr1
     try dsimp only at h
     refine hK7 _ (lh hk rfl (rs (sp 2 rfl (?_))))
     obtain ⟨v14, g15, h⟩ := ob_some h
     refine qC (qs rfl (qs rfl eran)) (impl_PowBigInt_s g15) (sp 6 rfl (evn (rs (sp 2 rfl (?_)))))
     obtain ⟨v16, g17, h⟩ := ob_some h
     refine qC (qa rfl (erD eci64 _) (qa rfl (erD eci64 _) eran)) (impl_ProductOfPowers_s g17) (sp 6 rfl (evn (rs (sp 2 rfl (?_)))))
     obtain ⟨v18, g19, h⟩ := ob_some h
     refine qC (qs rfl (qs rfl eran)) (impl_PowBigInt_s g19) (sp 6 rfl (evn (rs (sp 2 rfl (?_)))))
     obtain ⟨v20, g21, h⟩ := ob_some h
     refine qC (qa rfl (erg (erc (erD eci64 _) rfl)) (qa rfl (erg (erc (erD eci64 _) rfl)) eran)) (impl_MulBigInt_s g21) (sp 6 rfl (evn (rk fun K22 hK22 => ?_)))
     have kJ2 : ∀ {x23 : Bool}, impl_withinPowers_J2 x23 = some r → Jn K22 [(8, .bool x23)] := by
      intro x23 h σ' hk
      unfold impl_withinPowers_J2 at h
      exact hK22 _ (lh hk rfl (ls_ret ((by cases h; exact ⟨.inl rfl, rfl⟩))))
     refine sp 2 rfl (?_)
     rcases cond_some h with ⟨g24, h⟩ | ⟨g24, h⟩
     ·refine qg 70 g24 rfl (sp 3 rfl (?_))
      rcases cond_some h with ⟨g25, h⟩ | ⟨g25, h⟩
      ·refine qg 73 g25 rfl (sp 3 rfl (?_))
       rcases cond_some h with ⟨g26, h⟩ | ⟨g26, h⟩
       ·refine qg 76 g26 rfl (sp 3 rfl (?_))
        rcases cond_some h with ⟨g27, h⟩ | ⟨g27, h⟩
        ·refine qg 79 g27 rfl (sp 2 rfl (?_))
         obtain ⟨v28, g29, h⟩ := ob_some h
         exact oGR rfl rfl (qC (qa rfl (erg (erc (erD eci64 _) rfl)) (qa rfl (erg (erc (erD eci64 _) rfl)) eran)) (impl_CompareBigInts_s g29) (sp 3 rfl (evn (kJ2 h _ (okr rfl)))))
        ·exact qg 79 g27 rfl (sp 6 rfl (evn (kJ2 h _ (okr rfl))))
       ·exact qg 76 g26 rfl (sp 9 rfl (evn (kJ2 h _ (okr rfl))))
      ·exact qg 73 g25 rfl (sp 12 rfl (evn (kJ2 h _ (okr rfl))))
     ·exact qg 70 g24 rfl (sp 15 rfl (evn (kJ2 h _ (okr rfl))))
    refine ls_rec (fun (y1 : Int) => [(0, dL ci64 a0), (2, nI a2), (3, nI a3), (9, oL 3 ci64 v1.1), (10, nI v1.2), (36, dL ci64 a0), (37, nI (List.length a0 : Int)), (38, nI y1)]) _ _ _ _ hl (okr rfl) (fun _ => rfl) ?_
    rintro m y1 N h hN
    unfold impl_withinPowers_B1 at h
    refine rn 1 rfl (ls_seq_k fun K8 hK8 => ?_)
    rcases cond_some h with ⟨g9, h⟩ | ⟨g9, h⟩
    ·refine qT rfl g9 (ls_skip (hK8 _ (ls_seq_k fun K10 hK10 => ls_blk (rs ?_))))
     obtain ⟨e11, g12, h⟩ := ob_some h
     refine qI rfl zci64 g12 (sp 2 rfl (evn (rn 1 rfl ?_)))
     rcases cond_some h with ⟨g13, h⟩ | ⟨g13, h⟩
     ·exact qT rfl g13 (rn 1 rfl (ls_ret ((by cases h; cases hr1; exact ⟨.inl rfl, rfl⟩))))
     ·exact qF rfl g13 (ls_skip (hK10 _ (rg (sp 2 rfl (evn (hN _ _ h (okr rfl)))))))
    ·exact qF rfl g9 (ls_exit (kXB1 (Option.some.inj h) _ (okr rfl)))
def impl_IsWithinAGMBound (a0 : List Int) (a1 : List Y65) (a2 : Int) : Option (Bool) := obind (impl_withinPowers a0 a1 a2 1) fun v1 => some v1
theorem impl_IsWithinAGMBound_s {a0 : List Int} {a1 : List Y65} {a2 : Int} {r : Bool} (h : impl_IsWithinAGMBound a0 a1 a2 = some r) : SoundAt Tryd.prog 26 [dL ci64 a0, dL c66_ a1, nI a2] (.bool r) := by
 unfold impl_IsWithinAGMBound at h
 refine st lit26 rfl (rn 1 rfl (rs (sp 3 rfl (?_))))
 obtain ⟨v1, g2, h⟩ := ob_some h
 exact qC (qa rfl (erD eci64 _) (qa rfl (erD ec66_ _) (qs rfl (qs rfl eran)))) (impl_withinPowers_s g2) (sp 1 rfl (evn (ls_ret ((by cases h; exact ⟨.inl rfl, rfl⟩)))))
def impl_SeekBound (a0 : Y33) (a1 : Int) : Option (Int) := obind (impl_IsValidQuery a0) fun v2 => cond (!v2) (some 0) (obind (impl_within a1 0 1000000) fun v5 => cond (!v5) (some 0) (some (IntKind.i64.wrap ((IntKind.i64.wrap ((IntKind.i64.wrap (2 * a0.1)) * (List.length a0.2.1 : Int))) * a1))))
theorem impl_SeekBound_s {a0 : Y33} {a1 : Int} {r : Int} (h : impl_SeekBound a0 a1 = some r) : SoundAt Tryd.prog 53 [.agg (c34_ddd a0), nI a1] (nI r) := by
 unfold impl_SeekBound at h
 refine st lit53 rfl (rn 1 rfl (ls_seq_k fun K1 hK1 => rs (sp 1 rfl (?_))))
 obtain ⟨v2, g3, h⟩ := ob_some h
 refine qC (qa rfl (erg (erc rfl (erc (erD ec64_d _) (erc (erD eci64 _) rfl)))) eran) (impl_IsValidQuery_s g3) (sp 2 rfl (?_))
 rcases cond_some h with ⟨g4, h⟩ | ⟨g4, h⟩
 ·exact qg 8 g4 rfl (sp 4 rfl (evn (qT rfl rfl (rn 1 rfl (ls_ret ((by cases h; exact ⟨.inl rfl, rfl⟩)))))))
 ·refine qg 8 g4 rfl (sp 1 rfl (?_))
  obtain ⟨v5, g6, h⟩ := ob_some h
  refine oGR rfl rfl (qC (qs rfl (qs rfl (qs rfl eran))) (impl_within_s g6) (sp 2 rfl (evn ?_)))
  rcases cond_some h with ⟨g7, h⟩ | ⟨g7, h⟩
  ·exact qT rfl g7 (rn 1 rfl (ls_ret ((by cases h; exact ⟨.inl rfl, rfl⟩))))
  ·exact qF rfl g7 (ls_skip (hK1 _ (rn 1 rfl (qk [4] rfl (ls_ret ((by cases h; exact ⟨.inl rfl, rfl⟩)))))))
def impl_IsWithinSeekBound_J1 (x2 : Bool) : Option (Bool) := some x2
def impl_IsWithinSeekBound (a0 : Y33) (a1 : List Int) (a2 : List Y65) (a3 : Int) : Option (Bool) := obind (impl_IsValidQuery a0) fun v3 => cond v3 (obind (impl_SeekBound a0 1) fun v6 => obind (impl_withinPowers a1 a2 a3 v6) fun v8 => impl_IsWithinSeekBound_J1 v8) (impl_IsWithinSeekBound_J1 false)
theorem impl_IsWithinSeekBound_s {a0 : Y33} {a1 : List Int} {a2 : List Y65} {a3 : Int} {r : Bool} (h : impl_IsWithinSeekBound a0 a1 a2 a3 = some r) : SoundAt Tryd.prog 27 [.agg (c34_ddd a0), dL ci64 a1, dL c66_ a2, nI a3] (.bool r) := by
 unfold impl_IsWithinSeekBound at h
 refine st lit27 rfl (rn 1 rfl (rk fun K1 hK1 => ?_))
 have kJ1 : ∀ {x2 : Bool}, impl_IsWithinSeekBound_J1 x2 = some r → Jn K1 [(8, .bool x2)] := by
  intro x2 h σ' hk
  unfold impl_IsWithinSeekBound_J1 at h
  exact hK1 _ (lh hk rfl (ls_ret ((by cases h; exact ⟨.inl rfl, rfl⟩))))
 refine sp 1 rfl (?_)
 obtain ⟨v3, g4, h⟩ := ob_some h
 refine qC (qa rfl (erg (erc rfl (erc (erD ec64_d _) (erc (erD eci64 _) rfl)))) eran) (impl_IsValidQuery_s g4) (sp 1 rfl (?_))
 rcases cond_some h with ⟨g5, h⟩ | ⟨g5, h⟩
 ·refine qg 11 g5 rfl (sp 4 rfl (?_))
  obtain ⟨v6, g7, h⟩ := ob_some h
  refine oGR rfl rfl (qC (qa rfl (erg (erc rfl (erc (erD ec64_d _) (erc (erD eci64 _) rfl)))) (qs rfl eran)) (impl_SeekBound_s g7) (?_))
  obtain ⟨v8, g9, h⟩ := ob_some h
  exact oGR rfl rfl (qC (qa rfl (erD eci64 _) (qa rfl (erD ec66_ _) (qs rfl (qs rfl eran)))) (impl_withinPowers_s g9) (sp 2 rfl (evn (kJ1 h _ (okr rfl)))))
 ·exact qg 11 g5 rfl (sp 8 rfl (evn (kJ1 h _ (okr rfl))))
def impl_IsValidCertificate_B1 (a1 : Y37) (rec : Int → Option (Sum (Unit) (Bool))) (y1 : Int) : Option (Sum (Unit) (Bool)) := cond (decide (y1 < (List.length a1.2.2.1 : Int))) (obind (geti a1.2.2.1 y1) fun e13 => obind (impl_within e13 0 16) fun v15 => cond (!v15) (some (.inr false)) (rec (IntKind.i64.wrap (y1 + 1)))) (some (.inl ()))
def impl_IsValidCertificate_J2 (x19 : Bool) : Option (Bool) := some x19
def impl_IsValidCertificate (a0 : Y33) (a1 : Y37) : Option (Bool) := obind (impl_IsValidOrder a0 a1.1) fun v2 => cond (!v2) (some false) (obind (impl_IsFractionalCover a0 a1.2.1) fun v5 => cond (!v5) (some false) (cond ((List.length a1.2.2.1 : Int) != (List.length a0.2.1 : Int)) (some false) (obind (loopF (impl_IsValidCertificate_B1 a1) fz 0) fun o1 => (match o1 with
  | .inl _ => (obind (impl_IsWithinAGMBound a1.2.2.1 a1.2.1 a1.2.2.2.1) fun v20 => cond v20 (obind (impl_IsWithinSeekBound a0 a1.2.2.1 a1.2.1 a1.2.2.2.2) fun v23 => impl_IsValidCertificate_J2 v23) (impl_IsValidCertificate_J2 false))
  | .inr r => some r))))
theorem impl_IsValidCertificate_s {a0 : Y33} {a1 : Y37} {r : Bool} (h : impl_IsValidCertificate a0 a1 = some r) : SoundAt Tryd.prog 9 [.agg (c34_ddd a0), .agg (c38_ddd a1)] (.bool r) := by
 unfold impl_IsValidCertificate at h
 refine st lit9 rfl (rn 2 rfl (ls_seq_k fun K1 hK1 => rs (sp 3 rfl (?_))))
 obtain ⟨v2, g3, h⟩ := ob_some h
 refine qC (qa rfl (erg (erc rfl (erc (erD ec64_d _) (erc (erD eci64 _) rfl)))) (qa rfl (erD eci64 _) eran)) (impl_IsValidOrder_s g3) (sp 2 rfl (?_))
 rcases cond_some h with ⟨g4, h⟩ | ⟨g4, h⟩
 ·exact qg 14 g4 rfl (sp 15 rfl (evn (qT rfl rfl (rn 1 rfl (ls_ret ((by cases h; exact ⟨.inl rfl, rfl⟩)))))))
 ·refine qg 14 g4 rfl (sp 3 rfl (?_))
  obtain ⟨v5, g6, h⟩ := ob_some h
  refine oGR rfl rfl (qC (qa rfl (erg (erc rfl (erc (erD ec64_d _) (erc (erD eci64 _) rfl)))) (qa rfl (erD ec66_ _) eran)) (impl_IsFractionalCover_s g6) (sp 3 rfl (?_)))
  rcases cond_some h with ⟨g7, h⟩ | ⟨g7, h⟩
  ·exact qg 21 g7 rfl (sp 8 rfl (evn (qk [2, 5, 29] rfl (qT rfl rfl (rn 1 rfl (ls_ret ((by cases h; exact ⟨.inl rfl, rfl⟩))))))))
  ·refine qg 21 g7 rfl (sp 8 rfl (evn ?_))
   rcases cond_some h with ⟨g8, h⟩ | ⟨g8, h⟩
   ·exact qT rfl g8 (rn 1 rfl (ls_ret ((by cases h; exact ⟨.inl rfl, rfl⟩))))
   ·refine qF rfl g8 (ls_skip (hK1 _ (ls_seq_k fun K9 hK9 => rn 1 rfl ?_)))
    obtain ⟨o1, hl, hr1⟩ := ob_some h
    have kXB1 : (.inl ()) = o1 → Jn K9 [(2, .box [nI a0.1, dL c64_d a0.2.1, dL ci64 a0.2.2]), (5, .box [dL ci64 a1.1, dL c66_ a1.2.1, dL ci64 a1.2.2.1, nI a1.2.2.2.1, nI a1.2.2.2.2])] := by
     intro h σ' hk
     subst h
     replace h := hr1
     try dsimp only at h
     refine hK9 _ (lh hk rfl (rk fun K18 hK18 => ?_))
     have kJ2 : ∀ {x19 : Bool}, impl_IsValidCertificate_J2 x19 = some r → Jn K18 [(4, .bool x19)] := by
      intro x19 h σ' hk
      unfold impl_IsValidCertificate_J2 at h
      exact hK18 _ (lh hk rfl (ls_ret ((by cases h; exact ⟨.inl rfl, rfl⟩))))
     refine sp 6 rfl (?_)
     obtain ⟨v20, g21, h⟩ := ob_some h
     refine qC (qa rfl (erD eci64 _) (qa rfl (erD ec66_ _) (qs rfl eran))) (impl_IsWithinAGMBound_s g21) (sp 1 rfl (?_))
     rcases cond_some h with ⟨g22, h⟩ | ⟨g22, h⟩
     ·refine qg 48 g22 rfl (sp 7 rfl (?_))
      obtain ⟨v23, g24, h⟩ := ob_some h
      exact oGR rfl rfl (qC (qa rfl (erg (erc rfl (erc (erD ec64_d _) (erc (erD eci64 _) rfl)))) (qa rfl (erD eci64 _) (qa rfl (erD ec66_ _) (qs rfl eran)))) (impl_IsWithinSeekBound_s g24) (sp 2 rfl (evn (kJ2 h _ (okr rfl)))))
     ·exact qg 48 g22 rfl (sp 10 rfl (evn (kJ2 h _ (okr rfl))))
    refine ls_rec (fun (y1 : Int) => [(2, .box [nI a0.1, dL c64_d a0.2.1, dL ci64 a0.2.2]), (5, .box [dL ci64 a1.1, dL c66_ a1.2.1, dL ci64 a1.2.2.1, nI a1.2.2.2.1, nI a1.2.2.2.2]), (31, dL ci64 a1.2.2.1), (32, nI (List.length a1.2.2.1 : Int)), (33, nI y1)]) _ _ _ _ hl (okr rfl) (fun _ => rfl) ?_
    rintro m y1 N h hN
    unfold impl_IsValidCertificate_B1 at h
    refine rn 1 rfl (ls_seq_k fun K10 hK10 => ?_)
    rcases cond_some h with ⟨g11, h⟩ | ⟨g11, h⟩
    ·refine qT rfl g11 (ls_skip (hK10 _ (ls_seq_k fun K12 hK12 => ls_blk (rs ?_))))
     obtain ⟨e13, g14, h⟩ := ob_some h
     refine qI rfl zci64 g14 (sp 2 rfl (evn (rs (sp 1 rfl (?_)))))
     obtain ⟨v15, g16, h⟩ := ob_some h
     refine qC (qs rfl (qs rfl (qs rfl eran))) (impl_within_s g16) (sp 1 rfl (evn ?_))
     rcases cond_some h with ⟨g17, h⟩ | ⟨g17, h⟩
     ·exact qT rfl g17 (rn 1 rfl (ls_ret ((by cases h; cases hr1; exact ⟨.inl rfl, rfl⟩))))
     ·exact qF rfl g17 (ls_skip (hK12 _ (rg (sp 2 rfl (evn (hN _ _ h (okr rfl)))))))
    ·exact qF rfl g11 (ls_exit (kXB1 (Option.some.inj h) _ (okr rfl)))
def laws_eqIntS_B1 (a0 : List Int) (a1 : List Int) (rec : Int → Option (Sum (Unit) (Bool))) (y1 : Int) : Option (Sum (Unit) (Bool)) := cond (decide (y1 < (List.length a0 : Int))) (obind (geti a0 y1) fun e7 => obind (geti a1 y1) fun e9 => cond (e7 != e9) (some (.inr false)) (rec (IntKind.i64.wrap (y1 + 1)))) (some (.inl ()))
def laws_eqIntS (a0 : List Int) (a1 : List Int) : Option (Bool) := cond ((List.length a0 : Int) != (List.length a1 : Int)) (some false) (obind (loopF (laws_eqIntS_B1 a0 a1) fz 0) fun o1 => (match o1 with
  | .inl _ => (some true)
  | .inr r => some r))
theorem laws_eqIntS_s {a0 : List Int} {a1 : List Int} {r : Bool} (h : laws_eqIntS a0 a1 = some r) : SoundAt Tryd.prog 29 [dL ci64 a0, dL ci64 a1] (.bool r) := by
 unfold laws_eqIntS at h
 refine st lit29 rfl (rn 1 rfl (ls_seq_k fun K1 hK1 => rn 1 rfl ?_))
 rcases cond_some h with ⟨g2, h⟩ | ⟨g2, h⟩
 ·exact qT rfl g2 (rn 1 rfl (ls_ret ((by cases h; exact ⟨.inl rfl, rfl⟩))))
 ·refine qF rfl g2 (ls_skip (hK1 _ (ls_seq_k fun K3 hK3 => rn 1 rfl ?_)))
  obtain ⟨o1, hl, hr1⟩ := ob_some h
  have kXB1 : (.inl ()) = o1 → Jn K3 [] := by
   intro h σ' hk
   subst h
   replace h := hr1
   try dsimp only at h
   exact hK3 _ (lh hk rfl (rn 1 rfl (ls_ret ((by cases h; exact ⟨.inl rfl, rfl⟩)))))
  refine ls_rec (fun (y1 : Int) => [(0, dL ci64 a0), (1, dL ci64 a1), (5, nI y1)]) _ _ _ _ hl (okr rfl) (fun _ => rfl) ?_
  rintro m y1 N h hN
  unfold laws_eqIntS_B1 at h
  refine ls_seq_k fun K4 hK4 => rn 1 rfl ?_
  rcases cond_some h with ⟨g5, h⟩ | ⟨g5, h⟩
  ·refine qT rfl g5 (ls_skip (hK4 _ (ls_seq_k fun K6 hK6 => ls_blk (rd (by kernel_rfl) (sd 2 rfl (?_))))))
   obtain ⟨e7, g8, h⟩ := ob_some h
   refine ed rfl (qI rfl zci64 g8 (sd 3 rfl (?_)))
   obtain ⟨e9, g10, h⟩ := ob_some h
   refine ed rfl (qI rfl zci64 g10 (sd 2 rfl (evdn ?_)))
   rcases cond_some h with ⟨g11, h⟩ | ⟨g11, h⟩
   ·exact qT rfl g11 (rn 1 rfl (ls_ret ((by cases h; cases hr1; exact ⟨.inl rfl, rfl⟩))))
   ·exact qF rfl g11 (ls_skip (hK6 _ (rg (sp 3 rfl (evn (hN _ _ h (okr rfl)))))))
  ·exact qF rfl g5 (ls_exit (kXB1 (Option.some.inj h) _ trivial))
def laws_eqAtom (a0 : Y58) (a1 : Y58) : Option (Bool) := cond (!(a0.1 == a1.1)) (some false) (obind (laws_eqIntS a0.2 a1.2) fun v4 => cond (!v4) (some false) (some true))
theorem laws_eqAtom_s {a0 : Y58} {a1 : Y58} {r : Bool} (h : laws_eqAtom a0 a1 = some r) : SoundAt Tryd.prog 54 [.agg (c64_d a0), .agg (c64_d a1)] (.bool r) := by
 unfold laws_eqAtom at h
 refine st lit54 rfl (rn 1 rfl (ls_seq_k fun K1 hK1 => rn 1 rfl ?_))
 rcases cond_some h with ⟨g2, h⟩ | ⟨g2, h⟩
 ·exact qT rfl g2 (rn 1 rfl (ls_ret ((by cases h; exact ⟨.inl rfl, rfl⟩))))
 ·refine qF rfl g2 (ls_skip (hK1 _ (ls_seq_k fun K3 hK3 => rs (sp 4 rfl (?_)))))
  obtain ⟨v4, g5, h⟩ := ob_some h
  refine qC (qa rfl (erD eci64 _) (qa rfl (erD eci64 _) eran)) (laws_eqIntS_s g5) (sp 1 rfl (evn ?_))
  rcases cond_some h with ⟨g6, h⟩ | ⟨g6, h⟩
  ·exact qT rfl g6 (rn 1 rfl (ls_ret ((by cases h; exact ⟨.inl rfl, rfl⟩))))
  ·exact qF rfl g6 (ls_skip (hK3 _ (rn 1 rfl (qk [4] rfl (ls_ret ((by cases h; exact ⟨.inl rfl, rfl⟩)))))))
def laws_eqAtomS_B1 (a0 : List Y58) (a1 : List Y58) (rec : Int → Option (Sum (Unit) (Bool))) (y1 : Int) : Option (Sum (Unit) (Bool)) := cond (decide (y1 < (List.length a0 : Int))) (obind (geti a0 y1) fun e7 => obind (geti a1 y1) fun e9 => obind (laws_eqAtom e7 e9) fun v11 => cond (!v11) (some (.inr false)) (rec (IntKind.i64.wrap (y1 + 1)))) (some (.inl ()))
def laws_eqAtomS (a0 : List Y58) (a1 : List Y58) : Option (Bool) := cond ((List.length a0 : Int) != (List.length a1 : Int)) (some false) (obind (loopF (laws_eqAtomS_B1 a0 a1) fz 0) fun o1 => (match o1 with
  | .inl _ => (some true)
  | .inr r => some r))
theorem laws_eqAtomS_s {a0 : List Y58} {a1 : List Y58} {r : Bool} (h : laws_eqAtomS a0 a1 = some r) : SoundAt Tryd.prog 28 [dL c64_d a0, dL c64_d a1] (.bool r) := by
 unfold laws_eqAtomS at h
 refine st lit28 rfl (rn 1 rfl (ls_seq_k fun K1 hK1 => rn 1 rfl ?_))
 rcases cond_some h with ⟨g2, h⟩ | ⟨g2, h⟩
 ·exact qT rfl g2 (rn 1 rfl (ls_ret ((by cases h; exact ⟨.inl rfl, rfl⟩))))
 ·refine qF rfl g2 (ls_skip (hK1 _ (ls_seq_k fun K3 hK3 => rn 1 rfl ?_)))
  obtain ⟨o1, hl, hr1⟩ := ob_some h
  have kXB1 : (.inl ()) = o1 → Jn K3 [] := by
   intro h σ' hk
   subst h
   replace h := hr1
   try dsimp only at h
   exact hK3 _ (lh hk rfl (rn 1 rfl (ls_ret ((by cases h; exact ⟨.inl rfl, rfl⟩)))))
  refine ls_rec (fun (y1 : Int) => [(0, dL c64_d a0), (1, dL c64_d a1), (5, nI y1)]) _ _ _ _ hl (okr rfl) (fun _ => rfl) ?_
  rintro m y1 N h hN
  unfold laws_eqAtomS_B1 at h
  refine ls_seq_k fun K4 hK4 => rn 1 rfl ?_
  rcases cond_some h with ⟨g5, h⟩ | ⟨g5, h⟩
  ·refine qT rfl g5 (ls_skip (hK4 _ (ls_seq_k fun K6 hK6 => ls_blk (rd (by kernel_rfl) (sd 2 rfl (?_))))))
   obtain ⟨e7, g8, h⟩ := ob_some h
   refine ed rfl (qI rfl zc64_d g8 (sd 3 rfl (?_)))
   obtain ⟨e9, g10, h⟩ := ob_some h
   refine ed rfl (qI rfl zc64_d g10 (sd 1 rfl (?_)))
   obtain ⟨v11, g12, h⟩ := ob_some h
   refine ed rfl (qC (qa rfl (erg (erc rfl (erc (erD eci64 _) rfl))) (qa rfl (erg (erc rfl (erc (erD eci64 _) rfl))) eran)) (laws_eqAtom_s g12) (sd 1 rfl (evdn ?_)))
   rcases cond_some h with ⟨g13, h⟩ | ⟨g13, h⟩
   ·exact qT rfl g13 (rn 1 rfl (ls_ret ((by cases h; cases hr1; exact ⟨.inl rfl, rfl⟩))))
   ·exact qF rfl g13 (ls_skip (hK6 _ (rg (sp 3 rfl (evn (hN _ _ h (okr rfl)))))))
  ·exact qF rfl g5 (ls_exit (kXB1 (Option.some.inj h) _ trivial))
def laws_eqQuery (a0 : Y33) (a1 : Y33) : Option (Bool) := cond (a0.1 != a1.1) (some false) (obind (laws_eqAtomS a0.2.1 a1.2.1) fun v4 => cond (!v4) (some false) (obind (laws_eqIntS a0.2.2 a1.2.2) fun v8 => cond (!v8) (some false) (some true)))
theorem laws_eqQuery_s {a0 : Y33} {a1 : Y33} {r : Bool} (h : laws_eqQuery a0 a1 = some r) : SoundAt Tryd.prog 10 [.agg (c34_ddd a0), .agg (c34_ddd a1)] (.bool r) := by
 unfold laws_eqQuery at h
 refine st lit10 rfl (rn 1 rfl (ls_seq_k fun K1 hK1 => rn 1 rfl ?_))
 rcases cond_some h with ⟨g2, h⟩ | ⟨g2, h⟩
 ·exact qT rfl g2 (rn 1 rfl (ls_ret ((by cases h; exact ⟨.inl rfl, rfl⟩))))
 ·refine qF rfl g2 (ls_skip (hK1 _ (ls_seq_k fun K3 hK3 => rs (sp 4 rfl (?_)))))
  obtain ⟨v4, g5, h⟩ := ob_some h
  refine qC (qa rfl (erD ec64_d _) (qa rfl (erD ec64_d _) eran)) (laws_eqAtomS_s g5) (sp 1 rfl (evn ?_))
  rcases cond_some h with ⟨g6, h⟩ | ⟨g6, h⟩
  ·exact qT rfl g6 (rn 1 rfl (ls_ret ((by cases h; exact ⟨.inl rfl, rfl⟩))))
  ·refine qF rfl g6 (ls_skip (hK3 _ (ls_seq_k fun K7 hK7 => rs (sp 4 rfl (?_)))))
   obtain ⟨v8, g9, h⟩ := ob_some h
   refine qC (qa rfl (erD eci64 _) (qa rfl (erD eci64 _) eran)) (laws_eqIntS_s g9) (sp 1 rfl (evn (qk [21] rfl ?_)))
   rcases cond_some h with ⟨g10, h⟩ | ⟨g10, h⟩
   ·exact qT rfl g10 (rn 1 rfl (ls_ret ((by cases h; exact ⟨.inl rfl, rfl⟩))))
   ·exact qF rfl g10 (ls_skip (hK7 _ (rn 1 rfl (ls_ret ((by cases h; exact ⟨.inl rfl, rfl⟩))))))
def laws_eqRational (a0 : Y65) (a1 : Y65) : Option (Bool) := cond (a0.1 != a1.1) (some false) (cond (a0.2 != a1.2) (some false) (some true))
theorem laws_eqRational_s {a0 : Y65} {a1 : Y65} {r : Bool} (h : laws_eqRational a0 a1 = some r) : SoundAt Tryd.prog 55 [.agg (c66_ a0), .agg (c66_ a1)] (.bool r) := by
 unfold laws_eqRational at h
 refine st lit55 rfl (rn 1 rfl (ls_seq_k fun K1 hK1 => rn 1 rfl ?_))
 rcases cond_some h with ⟨g2, h⟩ | ⟨g2, h⟩
 ·exact qT rfl g2 (rn 1 rfl (ls_ret ((by cases h; exact ⟨.inl rfl, rfl⟩))))
 ·refine qF rfl g2 (ls_skip (hK1 _ (ls_seq_k fun K3 hK3 => rn 1 rfl ?_)))
  rcases cond_some h with ⟨g4, h⟩ | ⟨g4, h⟩
  ·exact qT rfl g4 (rn 1 rfl (ls_ret ((by cases h; exact ⟨.inl rfl, rfl⟩))))
  ·exact qF rfl g4 (ls_skip (hK3 _ (rn 1 rfl (qk [4] rfl (ls_ret ((by cases h; exact ⟨.inl rfl, rfl⟩)))))))
def laws_eqRationalS_B1 (a0 : List Y65) (a1 : List Y65) (rec : Int → Option (Sum (Unit) (Bool))) (y1 : Int) : Option (Sum (Unit) (Bool)) := cond (decide (y1 < (List.length a0 : Int))) (obind (geti a0 y1) fun e7 => obind (geti a1 y1) fun e9 => obind (laws_eqRational e7 e9) fun v11 => cond (!v11) (some (.inr false)) (rec (IntKind.i64.wrap (y1 + 1)))) (some (.inl ()))
def laws_eqRationalS (a0 : List Y65) (a1 : List Y65) : Option (Bool) := cond ((List.length a0 : Int) != (List.length a1 : Int)) (some false) (obind (loopF (laws_eqRationalS_B1 a0 a1) fz 0) fun o1 => (match o1 with
  | .inl _ => (some true)
  | .inr r => some r))
theorem laws_eqRationalS_s {a0 : List Y65} {a1 : List Y65} {r : Bool} (h : laws_eqRationalS a0 a1 = some r) : SoundAt Tryd.prog 30 [dL c66_ a0, dL c66_ a1] (.bool r) := by
 unfold laws_eqRationalS at h
 refine st lit30 rfl (rn 1 rfl (ls_seq_k fun K1 hK1 => rn 1 rfl ?_))
 rcases cond_some h with ⟨g2, h⟩ | ⟨g2, h⟩
 ·exact qT rfl g2 (rn 1 rfl (ls_ret ((by cases h; exact ⟨.inl rfl, rfl⟩))))
 ·refine qF rfl g2 (ls_skip (hK1 _ (ls_seq_k fun K3 hK3 => rn 1 rfl ?_)))
  obtain ⟨o1, hl, hr1⟩ := ob_some h
  have kXB1 : (.inl ()) = o1 → Jn K3 [] := by
   intro h σ' hk
   subst h
   replace h := hr1
   try dsimp only at h
   exact hK3 _ (lh hk rfl (rn 1 rfl (ls_ret ((by cases h; exact ⟨.inl rfl, rfl⟩)))))
  refine ls_rec (fun (y1 : Int) => [(0, dL c66_ a0), (1, dL c66_ a1), (5, nI y1)]) _ _ _ _ hl (okr rfl) (fun _ => rfl) ?_
  rintro m y1 N h hN
  unfold laws_eqRationalS_B1 at h
  refine ls_seq_k fun K4 hK4 => rn 1 rfl ?_
  rcases cond_some h with ⟨g5, h⟩ | ⟨g5, h⟩
  ·refine qT rfl g5 (ls_skip (hK4 _ (ls_seq_k fun K6 hK6 => ls_blk (rd (by kernel_rfl) (sd 2 rfl (?_))))))
   obtain ⟨e7, g8, h⟩ := ob_some h
   refine ed rfl (qI rfl zc66_ g8 (sd 3 rfl (?_)))
   obtain ⟨e9, g10, h⟩ := ob_some h
   refine ed rfl (qI rfl zc66_ g10 (sd 1 rfl (?_)))
   obtain ⟨v11, g12, h⟩ := ob_some h
   refine ed rfl (qC (qa rfl (erg (erc rfl (erc rfl rfl))) (qa rfl (erg (erc rfl (erc rfl rfl))) eran)) (laws_eqRational_s g12) (sd 1 rfl (evdn ?_)))
   rcases cond_some h with ⟨g13, h⟩ | ⟨g13, h⟩
   ·exact qT rfl g13 (rn 1 rfl (ls_ret ((by cases h; cases hr1; exact ⟨.inl rfl, rfl⟩))))
   ·exact qF rfl g13 (ls_skip (hK6 _ (rg (sp 3 rfl (evn (hN _ _ h (okr rfl)))))))
  ·exact qF rfl g5 (ls_exit (kXB1 (Option.some.inj h) _ trivial))
def laws_eqCertificate (a0 : Y37) (a1 : Y37) : Option (Bool) := obind (laws_eqIntS a0.1 a1.1) fun v2 => cond (!v2) (some false) (obind (laws_eqRationalS a0.2.1 a1.2.1) fun v6 => cond (!v6) (some false) (obind (laws_eqIntS a0.2.2.1 a1.2.2.1) fun v10 => cond (!v10) (some false) (cond (a0.2.2.2.1 != a1.2.2.2.1) (some false) (cond (a0.2.2.2.2 != a1.2.2.2.2) (some false) (some true)))))
theorem laws_eqCertificate_s {a0 : Y37} {a1 : Y37} {r : Bool} (h : laws_eqCertificate a0 a1 = some r) : SoundAt Tryd.prog 11 [.agg (c38_ddd a0), .agg (c38_ddd a1)] (.bool r) := by
 unfold laws_eqCertificate at h
 refine st lit11 rfl (rn 1 rfl (ls_seq_k fun K1 hK1 => rs (sp 4 rfl (?_))))
 obtain ⟨v2, g3, h⟩ := ob_some h
 refine qC (qa rfl (erD eci64 _) (qa rfl (erD eci64 _) eran)) (laws_eqIntS_s g3) (sp 1 rfl (evn ?_))
 rcases cond_some h with ⟨g4, h⟩ | ⟨g4, h⟩
 ·exact qT rfl g4 (rn 1 rfl (ls_ret ((by cases h; exact ⟨.inl rfl, rfl⟩))))
 ·refine qF rfl g4 (ls_skip (hK1 _ (ls_seq_k fun K5 hK5 => rs (sp 4 rfl (?_)))))
  obtain ⟨v6, g7, h⟩ := ob_some h
  refine qC (qa rfl (erD ec66_ _) (qa rfl (erD ec66_ _) eran)) (laws_eqRationalS_s g7) (sp 1 rfl (evn ?_))
  rcases cond_some h with ⟨g8, h⟩ | ⟨g8, h⟩
  ·exact qT rfl g8 (rn 1 rfl (ls_ret ((by cases h; exact ⟨.inl rfl, rfl⟩))))
  ·refine qF rfl g8 (ls_skip (hK5 _ (qk [2, 3] rfl (ls_seq_k fun K9 hK9 => rs (sp 4 rfl (?_))))))
   obtain ⟨v10, g11, h⟩ := ob_some h
   refine qC (qa rfl (erD eci64 _) (qa rfl (erD eci64 _) eran)) (laws_eqIntS_s g11) (sp 1 rfl (evn ?_))
   rcases cond_some h with ⟨g12, h⟩ | ⟨g12, h⟩
   ·exact qT rfl g12 (rn 1 rfl (ls_ret ((by cases h; exact ⟨.inl rfl, rfl⟩))))
   ·refine qF rfl g12 (ls_skip (hK9 _ (ls_seq_k fun K13 hK13 => rn 1 rfl ?_)))
    rcases cond_some h with ⟨g14, h⟩ | ⟨g14, h⟩
    ·exact qT rfl g14 (rn 1 rfl (ls_ret ((by cases h; exact ⟨.inl rfl, rfl⟩))))
    ·refine qF rfl g14 (ls_skip (hK13 _ (ls_seq_k fun K15 hK15 => rn 1 rfl ?_)))
     rcases cond_some h with ⟨g16, h⟩ | ⟨g16, h⟩
     ·exact qT rfl g16 (rn 1 rfl (qk [4] rfl (ls_ret ((by cases h; exact ⟨.inl rfl, rfl⟩)))))
     ·exact qF rfl g16 (ls_skip (hK15 _ (rn 1 rfl (ls_ret ((by cases h; exact ⟨.inl rfl, rfl⟩))))))
def laws_FnExactIsValidCertificate (a0 : Y24) (a1 : Y27) : Option (Bool) := obind (laws_szQuery a0 1048576) fun v1 => cond (decide (v1 < 0)) (some true) (obind (laws_szCertificate a1 v1) fun v5 => cond (decide (v5 < 0)) (some true) (obind (laws_toQuery a0) fun v9 => obind (laws_toCertificate a1) fun v11 => obind (spec_IsValidCertificate v9 v11) fun v13 => obind (laws_toQuery a0) fun v15 => obind (laws_toCertificate a1) fun v17 => obind (impl_IsValidCertificate v15 v17) fun v19 => cond (!(v19 == v13)) (some false) (obind (laws_toQuery a0) fun v24 => obind (laws_eqQuery v15 v24) fun v26 => cond (!v26) (some false) (obind (laws_toCertificate a1) fun v30 => obind (laws_eqCertificate v17 v30) fun v32 => cond (!v32) (some false) (some true)))))
theorem laws_FnExactIsValidCertificate_s {a0 : Y24} {a1 : Y27} {r : Bool} (h : laws_FnExactIsValidCertificate a0 a1 = some r) : SoundAt Tryd.prog 3 [.agg (c25_ddd a0), .agg (c28_ddd a1)] (.bool r) := by
 unfold laws_FnExactIsValidCertificate at h
 refine st lit3 rfl (rn 2 rfl (rs (sp 2 rfl (?_))))
 obtain ⟨v1, g2, h⟩ := ob_some h
 refine qC (qa rfl (erg (erc rfl (erc (erD ec59_d _) (erc (erD eci64 _) rfl)))) (qs rfl eran)) (laws_szQuery_s g2) (sp 1 rfl (evn (ls_seq_k fun K3 hK3 => rn 1 rfl ?_)))
 rcases cond_some h with ⟨g4, h⟩ | ⟨g4, h⟩
 ·exact qT rfl g4 (rn 1 rfl (ls_ret ((by cases h; exact ⟨.inl rfl, rfl⟩))))
 ·refine qF rfl g4 (ls_skip (hK3 _ (rs (sp 2 rfl (?_)))))
  obtain ⟨v5, g6, h⟩ := ob_some h
  refine qC (qa rfl (erg (erc (erD eci64 _) (erc (erD ec82_ _) (erc (erD eci64 _) (erc rfl (erc rfl rfl)))))) (qs rfl eran)) (laws_szCertificate_s g6) (sp 1 rfl (evn (ls_seq_k fun K7 hK7 => rn 1 rfl (qk [2, 3, 19] rfl ?_))))
  rcases cond_some h with ⟨g8, h⟩ | ⟨g8, h⟩
  ·exact qT rfl g8 (rn 1 rfl (ls_ret ((by cases h; exact ⟨.inl rfl, rfl⟩))))
  ·refine qF rfl g8 (ls_skip (hK7 _ (rd (by kernel_rfl) (sd 1 rfl (?_)))))
   obtain ⟨v9, g10, h⟩ := ob_some h
   refine ed rfl (qC (qa rfl (erg (erc rfl (erc (erD ec59_d _) (erc (erD eci64 _) rfl)))) eran) (laws_toQuery_s g10) (sd 1 rfl (?_)))
   obtain ⟨v11, g12, h⟩ := ob_some h
   refine ed rfl (qC (qa rfl (erg (erc (erD eci64 _) (erc (erD ec82_ _) (erc (erD eci64 _) (erc rfl (erc rfl rfl)))))) eran) (laws_toCertificate_s g12) (?_))
   obtain ⟨v13, g14, h⟩ := ob_some h
   refine ed rfl (qC (qa rfl (erg (erc rfl (erc (erO ec64_o _) (erc (erO eci64 _) rfl)))) (qa rfl (erg (erc (erO eci64 _) (erc (erO ec66_ _) (erc (erO eci64 _) (erc rfl (erc rfl rfl)))))) eran)) (spec_IsValidCertificate_s g14) (sd 1 rfl (evdn (rs (sp 1 rfl (?_))))))
   obtain ⟨v15, g16, h⟩ := ob_some h
   refine qC (qa rfl (erg (erc rfl (erc (erD ec59_d _) (erc (erD eci64 _) rfl)))) eran) (laws_toQuery_s g16) (sp 2 rfl (evn (rs (sp 1 rfl (?_)))))
   obtain ⟨v17, g18, h⟩ := ob_some h
   refine qC (qa rfl (erg (erc (erD eci64 _) (erc (erD ec82_ _) (erc (erD eci64 _) (erc rfl (erc rfl rfl)))))) eran) (laws_toCertificate_s g18) (sp 2 rfl (evn (rs (sp 2 rfl (?_)))))
   obtain ⟨v19, g20, h⟩ := ob_some h
   refine qC (qa rfl (erg (erc rfl (erc (erD ec64_o _) (erc (erD eci64 _) rfl)))) (qa rfl (erg (erc (erD eci64 _) (erc (erD ec66_ _) (erc (erD eci64 _) (erc rfl (erc rfl rfl)))))) eran)) (impl_IsValidCertificate_s g20) (sp 1 rfl (evn (ls_seq_k fun K21 hK21 => rn 1 rfl (qk [2, 3, 7, 8, 34] rfl ?_))))
   rcases cond_some h with ⟨g22, h⟩ | ⟨g22, h⟩
   ·exact qT rfl g22 (rn 1 rfl (ls_ret ((by cases h; exact ⟨.inl rfl, rfl⟩))))
   ·refine qF rfl g22 (ls_skip (hK21 _ (ls_seq_k fun K23 hK23 => rd (by kernel_rfl) (sd 2 rfl (?_)))))
    obtain ⟨v24, g25, h⟩ := ob_some h
    refine ed rfl (qC (qa rfl (erg (erc rfl (erc (erD ec59_d _) (erc (erD eci64 _) rfl)))) eran) (laws_toQuery_s g25) (?_))
    obtain ⟨v26, g27, h⟩ := ob_some h
    refine ed rfl (qC (qa rfl (erg (erc rfl (erc (erD ec64_o _) (erc (erD eci64 _) rfl)))) (qa rfl (erg (erc rfl (erc (erO ec64_o _) (erc (erO eci64 _) rfl)))) eran)) (laws_eqQuery_s g27) (sd 1 rfl (evdn ?_)))
    rcases cond_some h with ⟨g28, h⟩ | ⟨g28, h⟩
    ·exact qT rfl g28 (rn 1 rfl (ls_ret ((by cases h; exact ⟨.inl rfl, rfl⟩))))
    ·refine qF rfl g28 (ls_skip (hK23 _ (ls_seq_k fun K29 hK29 => rd (by kernel_rfl) (sd 2 rfl (?_)))))
     obtain ⟨v30, g31, h⟩ := ob_some h
     refine ed rfl (qC (qa rfl (erg (erc (erD eci64 _) (erc (erD ec82_ _) (erc (erD eci64 _) (erc rfl (erc rfl rfl)))))) eran) (laws_toCertificate_s g31) (?_))
     obtain ⟨v32, g33, h⟩ := ob_some h
     refine ed rfl (qC (qa rfl (erg (erc (erD eci64 _) (erc (erD ec66_ _) (erc (erD eci64 _) (erc rfl (erc rfl rfl)))))) (qa rfl (erg (erc (erO eci64 _) (erc (erO ec66_ _) (erc (erO eci64 _) (erc rfl (erc rfl rfl)))))) eran)) (laws_eqCertificate_s g33) (sd 1 rfl (evdn ?_)))
     rcases cond_some h with ⟨g34, h⟩ | ⟨g34, h⟩
     ·exact qT rfl g34 (rn 1 rfl (qk [4] rfl (ls_ret ((by cases h; exact ⟨.inl rfl, rfl⟩)))))
     ·exact qF rfl g34 (ls_skip (hK29 _ (rn 1 rfl (ls_ret ((by cases h; exact ⟨.inl rfl, rfl⟩))))))
end Go.Proofs.YtkclaipnejgloaaDoor
