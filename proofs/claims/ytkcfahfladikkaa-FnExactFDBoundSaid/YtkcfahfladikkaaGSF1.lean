/-
  Functions of the program as typed functions, printed by gen.py, and that the program's functions do what they say. No conditions.
-/
import Derived.Test.YtkcfahfladikkaaKb
import Derived.Test.YtkcfahfladikkaaLit2F1
namespace Go.Proofs.Ytkcfahfladikkaa
open Go.RowKit
set_option linter.unusedVariables false
set_option maxRecDepth 100000
set_option maxHeartbeats 1000000
def laws_szIntS (a0 : List Int) (a1 : Int) : Option (Int) := cond (decide ((IntKind.i64.wrap (a1 - (List.length a0 : Int))) < 0)) (some (-1)) (some (IntKind.i64.wrap (a1 - (List.length a0 : Int))))
theorem laws_szIntS_s {a0 : List Int} {a1 : Int} {r : Int} (h : laws_szIntS a0 a1 = some r) : SoundAt Try.prog 72 [dL ci64 a0, nI a1] (nI r) := by
 unfold laws_szIntS at h
 refine st lit72 rfl (rn 2 rfl (ls_seq_k fun K1 hK1 => rn 1 rfl ?_))
 rcases cond_some h with ⟨g2, h⟩ | ⟨g2, h⟩
 ·exact qT rfl g2 (rn 1 rfl (ls_ret ((by cases h; exact ⟨.inl rfl, rfl⟩))))
 ·exact qF rfl g2 (ls_skip (hK1 _ (rn 1 rfl (ls_ret ((by cases h; exact ⟨.inl rfl, rfl⟩))))))
def c25_d (x : List Int) : List V := [dL ci64 x]
theorem zc25_d (x : List Int) : (c25_d x).length = 1 := rfl
theorem ec25_d (x : List Int) : erL (c25_d x) = c25_d x := (erc (erD eci64 _) rfl)
def laws_szIntSS_B1 (a0 : List (List Int)) (rec : (Int × Int) → Option (Sum (Int) (Int))) (s : Int × Int) : Option (Sum (Int) (Int)) := match s with
  | (y1, y2) => cond (decide (y2 < (List.length a0 : Int))) (obind (geti a0 y2) fun e8 => obind (laws_szIntS e8 y1) fun v10 => cond (decide (v10 < 0)) (some (.inr (-1))) (rec (v10, (IntKind.i64.wrap (y2 + 1))))) (some (.inl y1))
def laws_szIntSS (a0 : List (List Int)) (a1 : Int) : Option (Int) := cond (decide ((IntKind.i64.wrap (a1 - (List.length a0 : Int))) < 0)) (some (-1)) (obind (loopF (laws_szIntSS_B1 a0) fz ((IntKind.i64.wrap (a1 - (List.length a0 : Int))), 0)) fun o1 => (match o1 with
  | .inl z4 => (some z4)
  | .inr r => some r))
theorem laws_szIntSS_s {a0 : List (List Int)} {a1 : Int} {r : Int} (h : laws_szIntSS a0 a1 = some r) : SoundAt Try.prog 199 [dL c25_d a0, nI a1] (nI r) := by
 unfold laws_szIntSS at h
 refine st lit199 rfl (rn 2 rfl (ls_seq_k fun K1 hK1 => rn 1 rfl ?_))
 rcases cond_some h with ⟨g2, h⟩ | ⟨g2, h⟩
 ·exact qT rfl g2 (rn 1 rfl (ls_ret ((by cases h; exact ⟨.inl rfl, rfl⟩))))
 ·refine qF rfl g2 (ls_skip (hK1 _ (ls_seq_k fun K3 hK3 => rn 1 rfl ?_)))
  obtain ⟨o1, hl, hr1⟩ := ob_some h
  have kXB1 : ∀ {z4 : Int}, (.inl z4) = o1 → Jn K3 [(1, nI z4)] := by
   intro z4 h σ' hk
   subst h
   replace h := hr1
   try dsimp only at h
   exact hK3 _ (lh hk rfl (rn 1 rfl (ls_ret ((by cases h; exact ⟨.inl rfl, rfl⟩)))))
  refine ls_rec (fun (s : Int × Int) => match s with | (y1, y2) => [(0, dL c25_d a0), (1, nI y1), (5, nI y2)]) _ _ _ _ hl (okr rfl) (fun _ => rfl) ?_
  rintro m ⟨y1, y2⟩ N h hN
  unfold laws_szIntSS_B1 at h
  dsimp only at h
  refine ls_seq_k fun K5 hK5 => rn 1 rfl ?_
  rcases cond_some h with ⟨g6, h⟩ | ⟨g6, h⟩
  ·refine qT rfl g6 (ls_skip (hK5 _ (ls_seq_k fun K7 hK7 => ls_blk (rs (sp 2 rfl (?_))))))
   obtain ⟨e8, g9, h⟩ := ob_some h
   refine qI rfl zc25_d g9 (sp 2 rfl (?_))
   obtain ⟨v10, g11, h⟩ := ob_some h
   refine qC (qa rfl (erD eci64 _) (qs rfl eran)) (laws_szIntS_s g11) (sp 1 rfl (evn (rn 1 rfl ?_)))
   rcases cond_some h with ⟨g12, h⟩ | ⟨g12, h⟩
   ·exact qT rfl g12 (rn 1 rfl (ls_ret ((by cases h; cases hr1; exact ⟨.inl rfl, rfl⟩))))
   ·exact qF rfl g12 (ls_skip (hK7 _ (rg (sp 3 rfl (evn (hN _ _ h (okr rfl)))))))
  ·exact qF rfl g6 (ls_exit (kXB1 (Option.some.inj h) _ (okr rfl)))
abbrev Y127 := Int × (List (List Int))
def c204_dd (x : Y127) : List V := [nI x.1, dL c25_d x.2]
theorem zc204_dd (x : Y127) : (c204_dd x).length = 2 := rfl
theorem ec204_dd (x : Y127) : erL (c204_dd x) = c204_dd x := (erc rfl (erc (erD ec25_d _) rfl))
def laws_szRelation (a0 : Y127) (a1 : Int) : Option (Int) := obind (laws_szIntSS a0.2 a1) fun v1 => cond (decide (v1 < 0)) (some (-1)) (some v1)
theorem laws_szRelation_s {a0 : Y127} {a1 : Int} {r : Int} (h : laws_szRelation a0 a1 = some r) : SoundAt Try.prog 235 [.agg (c204_dd a0), nI a1] (nI r) := by
 unfold laws_szRelation at h
 refine st lit235 rfl (rn 1 rfl (rs (sp 3 rfl (?_))))
 obtain ⟨v1, g2, h⟩ := ob_some h
 refine qC (qa rfl (erD ec25_d _) (qs rfl eran)) (laws_szIntSS_s g2) (sp 1 rfl (evn (ls_seq_k fun K3 hK3 => rn 1 rfl ?_)))
 rcases cond_some h with ⟨g4, h⟩ | ⟨g4, h⟩
 ·exact qT rfl g4 (rn 1 rfl (ls_ret ((by cases h; exact ⟨.inl rfl, rfl⟩))))
 ·exact qF rfl g4 (ls_skip (hK3 _ (rn 1 rfl (ls_ret ((by cases h; exact ⟨.inl rfl, rfl⟩))))))
abbrev Y205 := (List UInt8) × Y127
def c206_dd (x : Y205) : List V := [.str x.1, nI x.2.1, dL c25_d x.2.2]
theorem zc206_dd (x : Y205) : (c206_dd x).length = 3 := rfl
theorem ec206_dd (x : Y205) : erL (c206_dd x) = c206_dd x := (erc rfl (erc rfl (erc (erD ec25_d _) rfl)))
def laws_szTable (a0 : Y205) (a1 : Int) : Option (Int) := cond (decide ((IntKind.i64.wrap (a1 - (List.length a0.1 : Int))) < 0)) (some (-1)) (obind (laws_szRelation a0.2 (IntKind.i64.wrap (a1 - (List.length a0.1 : Int)))) fun v3 => cond (decide (v3 < 0)) (some (-1)) (some v3))
theorem laws_szTable_s {a0 : Y205} {a1 : Int} {r : Int} (h : laws_szTable a0 a1 = some r) : SoundAt Try.prog 171 [.agg (c206_dd a0), nI a1] (nI r) := by
 unfold laws_szTable at h
 refine st lit171 rfl (rn 2 rfl (ls_seq_k fun K1 hK1 => rn 1 rfl ?_))
 rcases cond_some h with ⟨g2, h⟩ | ⟨g2, h⟩
 ·exact qT rfl g2 (rn 1 rfl (ls_ret ((by cases h; exact ⟨.inl rfl, rfl⟩))))
 ·refine qF rfl g2 (ls_skip (hK1 _ (rs (sp 3 rfl (?_)))))
  obtain ⟨v3, g4, h⟩ := ob_some h
  refine qC (qa rfl (erg (erc rfl (erc (erD ec25_d _) rfl))) (qs rfl eran)) (laws_szRelation_s g4) (sp 1 rfl (evn (ls_seq_k fun K5 hK5 => rn 1 rfl ?_)))
  rcases cond_some h with ⟨g6, h⟩ | ⟨g6, h⟩
  ·exact qT rfl g6 (rn 1 rfl (qk [4] rfl (ls_ret ((by cases h; exact ⟨.inl rfl, rfl⟩)))))
  ·exact qF rfl g6 (ls_skip (hK5 _ (rn 1 rfl (ls_ret ((by cases h; exact ⟨.inl rfl, rfl⟩))))))
def laws_szTableS_B1 (a0 : List Y205) (rec : (Int × Int) → Option (Sum (Int) (Int))) (s : Int × Int) : Option (Sum (Int) (Int)) := match s with
  | (y1, y2) => cond (decide (y2 < (List.length a0 : Int))) (obind (geti a0 y2) fun e8 => obind (laws_szTable e8 y1) fun v10 => cond (decide (v10 < 0)) (some (.inr (-1))) (rec (v10, (IntKind.i64.wrap (y2 + 1))))) (some (.inl y1))
def laws_szTableS (a0 : List Y205) (a1 : Int) : Option (Int) := cond (decide ((IntKind.i64.wrap (a1 - (List.length a0 : Int))) < 0)) (some (-1)) (obind (loopF (laws_szTableS_B1 a0) fz ((IntKind.i64.wrap (a1 - (List.length a0 : Int))), 0)) fun o1 => (match o1 with
  | .inl z4 => (some z4)
  | .inr r => some r))
theorem laws_szTableS_s {a0 : List Y205} {a1 : Int} {r : Int} (h : laws_szTableS a0 a1 = some r) : SoundAt Try.prog 71 [dL c206_dd a0, nI a1] (nI r) := by
 unfold laws_szTableS at h
 refine st lit71 rfl (rn 2 rfl (ls_seq_k fun K1 hK1 => rn 1 rfl ?_))
 rcases cond_some h with ⟨g2, h⟩ | ⟨g2, h⟩
 ·exact qT rfl g2 (rn 1 rfl (ls_ret ((by cases h; exact ⟨.inl rfl, rfl⟩))))
 ·refine qF rfl g2 (ls_skip (hK1 _ (ls_seq_k fun K3 hK3 => rn 1 rfl ?_)))
  obtain ⟨o1, hl, hr1⟩ := ob_some h
  have kXB1 : ∀ {z4 : Int}, (.inl z4) = o1 → Jn K3 [(1, nI z4)] := by
   intro z4 h σ' hk
   subst h
   replace h := hr1
   try dsimp only at h
   exact hK3 _ (lh hk rfl (rn 1 rfl (ls_ret ((by cases h; exact ⟨.inl rfl, rfl⟩)))))
  refine ls_rec (fun (s : Int × Int) => match s with | (y1, y2) => [(0, dL c206_dd a0), (1, nI y1), (5, nI y2)]) _ _ _ _ hl (okr rfl) (fun _ => rfl) ?_
  rintro m ⟨y1, y2⟩ N h hN
  unfold laws_szTableS_B1 at h
  dsimp only at h
  refine ls_seq_k fun K5 hK5 => rn 1 rfl ?_
  rcases cond_some h with ⟨g6, h⟩ | ⟨g6, h⟩
  ·refine qT rfl g6 (ls_skip (hK5 _ (ls_seq_k fun K7 hK7 => ls_blk (rs (sp 2 rfl (?_))))))
   obtain ⟨e8, g9, h⟩ := ob_some h
   refine qI rfl zc206_dd g9 (sp 2 rfl (?_))
   obtain ⟨v10, g11, h⟩ := ob_some h
   refine qC (qa rfl (erg (erc rfl (erc rfl (erc (erD ec25_d _) rfl)))) (qs rfl eran)) (laws_szTable_s g11) (sp 1 rfl (evn (rn 1 rfl ?_)))
   rcases cond_some h with ⟨g12, h⟩ | ⟨g12, h⟩
   ·exact qT rfl g12 (rn 1 rfl (ls_ret ((by cases h; cases hr1; exact ⟨.inl rfl, rfl⟩))))
   ·exact qF rfl g12 (ls_skip (hK7 _ (rg (sp 3 rfl (evn (hN _ _ h (okr rfl)))))))
  ·exact qF rfl g6 (ls_exit (kXB1 (Option.some.inj h) _ (okr rfl)))
def laws_szDatabase (a0 : List Y205) (a1 : Int) : Option (Int) := obind (laws_szTableS a0 a1) fun v1 => cond (decide (v1 < 0)) (some (-1)) (some v1)
theorem laws_szDatabase_s {a0 : List Y205} {a1 : Int} {r : Int} (h : laws_szDatabase a0 a1 = some r) : SoundAt Try.prog 13 [.agg [dL c206_dd a0], nI a1] (nI r) := by
 unfold laws_szDatabase at h
 refine st lit13 rfl (rn 1 rfl (rs (sp 3 rfl (?_))))
 obtain ⟨v1, g2, h⟩ := ob_some h
 refine qC (qa rfl (erD ec206_dd _) (qs rfl eran)) (laws_szTableS_s g2) (sp 1 rfl (evn (ls_seq_k fun K3 hK3 => rn 1 rfl ?_)))
 rcases cond_some h with ⟨g4, h⟩ | ⟨g4, h⟩
 ·exact qT rfl g4 (rn 1 rfl (ls_ret ((by cases h; exact ⟨.inl rfl, rfl⟩))))
 ·exact qF rfl g4 (ls_skip (hK3 _ (rn 1 rfl (ls_ret ((by cases h; exact ⟨.inl rfl, rfl⟩))))))
def laws_toIntS_B1 (a0 : List Int) (rec : ((List Int) × Int) → Option ((List Int))) (s : (List Int) × Int) : Option ((List Int)) := match s with
  | (y1, y2) => cond (decide (y2 < (List.length a0 : Int))) (obind (geti a0 y2) fun e7 => obind (geti y1 y2) fun e9 => rec ((seti y1 y2 e7), (IntKind.i64.wrap (y2 + 1)))) (some y1)
def laws_toIntS (a0 : List Int) : Option ((List Int)) := chk ((0 : Int) ≤ (List.length a0 : Int) ∧ Int.toNat (List.length a0 : Int) ≤ lim) (obind (loopF (laws_toIntS_B1 a0) fz ((List.replicate (Int.toNat (List.length a0 : Int)) (0 : Int)), 0)) fun z3 => some z3)
theorem laws_toIntS_s {a0 : List Int} {r : (List Int)} (h : laws_toIntS a0 = some r) : SoundAt Try.prog 58 [dL ci64 a0] (oL 3 ci64 r) := by
 unfold laws_toIntS at h
 refine st lit58 rfl (rn 1 rfl (rs (sp 2 rfl (?_))))
 obtain ⟨g1, h⟩ := chk_some h
 refine qMu ci64 (0 : Int) rfl rfl rfl rfl g1 rfl (qAu rfl rfl rfl rfl (evn (ls_seq_k fun K2 hK2 => rn 1 rfl ?_)))
 obtain ⟨o1, hl, hr1⟩ := ob_some h
 have kXB1 : ∀ {z3 : List Int}, z3 = o1 → Jn K2 [(3, wL 3 ci64 z3)] := by
  intro z3 h σ' hk
  subst h
  replace h := hr1
  try dsimp only at h
  exact hK2 _ (lh hk rfl (rs (qTu rfl rfl rfl (sp 1 rfl (evn (ls_ret ((by cases h; exact ⟨.inl rfl, rfl⟩))))))))
 refine ls_rec (fun (s : (List Int) × Int) => match s with | (y1, y2) => [(0, dL ci64 a0), (3, wL 3 ci64 y1), (4, nI y2)]) _ _ _ _ hl (okr rfl) (fun _ => rfl) ?_
 rintro m ⟨y1, y2⟩ N h hN
 unfold laws_toIntS_B1 at h
 dsimp only at h
 refine ls_seq_k fun K4 hK4 => rn 1 rfl ?_
 rcases cond_some h with ⟨g5, h⟩ | ⟨g5, h⟩
 ·refine qT rfl g5 (ls_skip (hK4 _ (ls_seq_k fun K6 hK6 => ls_blk (rg (sp 4 rfl (?_))))))
  obtain ⟨e7, g8, h⟩ := ob_some h
  refine qI rfl zci64 g8 (sp 1 rfl (?_))
  obtain ⟨e9, g10, h⟩ := ob_some h
  exact qIu rfl ⟨(geti_some g10).1, (geti_some g10).2.1⟩ (qSu e7 rfl rfl zci64 ⟨(geti_some g10).1, (geti_some g10).2.1⟩ rfl rfl rfl rfl rfl rfl (evn (hK6 _ (rg (sp 3 rfl (evn (hN _ _ h (okr rfl))))))))
 ·exact qF rfl g5 (ls_exit (kXB1 (Option.some.inj h) _ (okr rfl)))
def c25_o (x : List Int) : List V := [oL 3 ci64 x]
theorem zc25_o (x : List Int) : (c25_o x).length = 1 := rfl
theorem ec25_o (x : List Int) : erL (c25_o x) = c25_d x := (erc (erO eci64 _) rfl)
def laws_toIntSS_B1 (a0 : List (List Int)) (rec : ((List (List Int)) × Int) → Option ((List (List Int)))) (s : (List (List Int)) × Int) : Option ((List (List Int))) := match s with
  | (y1, y2) => cond (decide (y2 < (List.length a0 : Int))) (obind (geti a0 y2) fun e7 => obind (laws_toIntS e7) fun v9 => obind (geti y1 y2) fun e11 => rec ((seti y1 y2 v9), (IntKind.i64.wrap (y2 + 1)))) (some y1)
def laws_toIntSS (a0 : List (List Int)) : Option ((List (List Int))) := chk ((0 : Int) ≤ (List.length a0 : Int) ∧ Int.toNat (List.length a0 : Int) ≤ lim) (obind (loopF (laws_toIntSS_B1 a0) fz ((List.replicate (Int.toNat (List.length a0 : Int)) ([] : List Int)), 0)) fun z3 => some z3)
theorem laws_toIntSS_s {a0 : List (List Int)} {r : (List (List Int))} (h : laws_toIntSS a0 = some r) : SoundAt Try.prog 208 [dL c25_d a0] (oL 25 c25_o r) := by
 unfold laws_toIntSS at h
 refine st lit208 rfl (rn 1 rfl (rs (sp 2 rfl (?_))))
 obtain ⟨g1, h⟩ := chk_some h
 refine qMu c25_o ([] : List Int) rfl rfl rfl rfl g1 rfl (qAu rfl rfl rfl rfl (evn (ls_seq_k fun K2 hK2 => rn 1 rfl ?_)))
 obtain ⟨o1, hl, hr1⟩ := ob_some h
 have kXB1 : ∀ {z3 : List (List Int)}, z3 = o1 → Jn K2 [(3, wL 25 c25_o z3)] := by
  intro z3 h σ' hk
  subst h
  replace h := hr1
  try dsimp only at h
  exact hK2 _ (lh hk rfl (rs (qTu rfl rfl rfl (sp 1 rfl (evn (ls_ret ((by cases h; exact ⟨.inl rfl, rfl⟩))))))))
 refine ls_rec (fun (s : (List (List Int)) × Int) => match s with | (y1, y2) => [(0, dL c25_d a0), (3, wL 25 c25_o y1), (4, nI y2)]) _ _ _ _ hl (okr rfl) (fun _ => rfl) ?_
 rintro m ⟨y1, y2⟩ N h hN
 unfold laws_toIntSS_B1 at h
 dsimp only at h
 refine ls_seq_k fun K4 hK4 => rn 1 rfl ?_
 rcases cond_some h with ⟨g5, h⟩ | ⟨g5, h⟩
 ·refine qT rfl g5 (ls_skip (hK4 _ (ls_seq_k fun K6 hK6 => ls_blk (rg (sp 4 rfl (?_))))))
  obtain ⟨e7, g8, h⟩ := ob_some h
  refine qI rfl zc25_d g8 (sp 1 rfl (?_))
  obtain ⟨v9, g10, h⟩ := ob_some h
  refine qC (qa rfl (erD eci64 _) eran) (laws_toIntS_s g10) (?_)
  obtain ⟨e11, g12, h⟩ := ob_some h
  exact qIu rfl ⟨(geti_some g12).1, (geti_some g12).2.1⟩ (qSu v9 rfl rfl zc25_o ⟨(geti_some g12).1, (geti_some g12).2.1⟩ rfl rfl rfl rfl rfl rfl (evn (hK6 _ (rg (sp 3 rfl (evn (hN _ _ h (okr rfl))))))))
 ·exact qF rfl g5 (ls_exit (kXB1 (Option.some.inj h) _ (okr rfl)))
def c128_dd (x : Y127) : List V := [nI x.1, dL c25_d x.2]
theorem zc128_dd (x : Y127) : (c128_dd x).length = 2 := rfl
theorem ec128_dd (x : Y127) : erL (c128_dd x) = c128_dd x := (erc rfl (erc (erD ec25_d _) rfl))
def c128_oo (x : Y127) : List V := [nI x.1, oL 25 c25_o x.2]
theorem zc128_oo (x : Y127) : (c128_oo x).length = 2 := rfl
theorem ec128_oo (x : Y127) : erL (c128_oo x) = c128_dd x := (erc rfl (erc (erO ec25_o _) rfl))
def laws_toRelation (a0 : Y127) : Option (Y127) := obind (laws_toIntSS a0.2) fun v1 => some (a0.1, v1)
theorem laws_toRelation_s {a0 : Y127} {r : Y127} (h : laws_toRelation a0 = some r) : SoundAt Try.prog 236 [.agg (c204_dd a0)] (.agg (c128_oo r)) := by
 unfold laws_toRelation at h
 refine st lit236 rfl (rn 3 rfl (rs (sp 2 rfl (?_))))
 obtain ⟨v1, g2, h⟩ := ob_some h
 exact qC (qa rfl (erD ec25_d _) eran) (laws_toIntSS_s g2) (sp 2 rfl (evn (rn 1 rfl (ls_ret ((by cases h; exact ⟨.inl rfl, rfl⟩))))))
abbrev Y207 := (List UInt8) × Y127
def c208_dd (x : Y207) : List V := [.str x.1, nI x.2.1, dL c25_d x.2.2]
theorem zc208_dd (x : Y207) : (c208_dd x).length = 3 := rfl
theorem ec208_dd (x : Y207) : erL (c208_dd x) = c208_dd x := (erc rfl (erc rfl (erc (erD ec25_d _) rfl)))
def c208_oo (x : Y207) : List V := [.str x.1, nI x.2.1, oL 25 c25_o x.2.2]
theorem zc208_oo (x : Y207) : (c208_oo x).length = 3 := rfl
theorem ec208_oo (x : Y207) : erL (c208_oo x) = c208_dd x := (erc rfl (erc rfl (erc (erO ec25_o _) rfl)))
def laws_toTable (a0 : Y205) : Option (Y207) := obind (laws_toRelation a0.2) fun v1 => some (a0.1, v1)
theorem laws_toTable_s {a0 : Y205} {r : Y207} (h : laws_toTable a0 = some r) : SoundAt Try.prog 173 [.agg (c206_dd a0)] (.agg (c208_oo r)) := by
 unfold laws_toTable at h
 refine st lit173 rfl (rn 3 rfl (rs (sp 2 rfl (?_))))
 obtain ⟨v1, g2, h⟩ := ob_some h
 exact qC (qa rfl (erg (erc rfl (erc (erD ec25_d _) rfl))) eran) (laws_toRelation_s g2) (sp 2 rfl (evn (rn 1 rfl (ls_ret ((by cases h; exact ⟨.inl rfl, rfl⟩))))))
def laws_toTableS_B1 (a0 : List Y205) (rec : ((List Y207) × Int) → Option ((List Y207))) (s : (List Y207) × Int) : Option ((List Y207)) := match s with
  | (y1, y2) => cond (decide (y2 < (List.length a0 : Int))) (obind (geti a0 y2) fun e7 => obind (laws_toTable e7) fun v9 => obind (geti y1 y2) fun e11 => rec ((seti y1 y2 v9), (IntKind.i64.wrap (y2 + 1)))) (some y1)
def laws_toTableS (a0 : List Y205) : Option ((List Y207)) := chk ((0 : Int) ≤ (List.length a0 : Int) ∧ Int.toNat (List.length a0 : Int) ≤ lim) (obind (loopF (laws_toTableS_B1 a0) fz ((List.replicate (Int.toNat (List.length a0 : Int)) (([], (0, [])) : Y207)), 0)) fun z3 => some z3)
theorem laws_toTableS_s {a0 : List Y205} {r : (List Y207)} (h : laws_toTableS a0 = some r) : SoundAt Try.prog 77 [dL c206_dd a0] (oL 208 c208_oo r) := by
 unfold laws_toTableS at h
 refine st lit77 rfl (rn 1 rfl (rs (sp 2 rfl (?_))))
 obtain ⟨g1, h⟩ := chk_some h
 refine qMu c208_oo (([], (0, [])) : Y207) rfl rfl rfl rfl g1 rfl (qAu rfl rfl rfl rfl (evn (ls_seq_k fun K2 hK2 => rn 1 rfl ?_)))
 obtain ⟨o1, hl, hr1⟩ := ob_some h
 have kXB1 : ∀ {z3 : List Y207}, z3 = o1 → Jn K2 [(3, wL 208 c208_oo z3)] := by
  intro z3 h σ' hk
  subst h
  replace h := hr1
  try dsimp only at h
  exact hK2 _ (lh hk rfl (rs (qTu rfl rfl rfl (sp 1 rfl (evn (ls_ret ((by cases h; exact ⟨.inl rfl, rfl⟩))))))))
 refine ls_rec (fun (s : (List Y207) × Int) => match s with | (y1, y2) => [(0, dL c206_dd a0), (3, wL 208 c208_oo y1), (4, nI y2)]) _ _ _ _ hl (okr rfl) (fun _ => rfl) ?_
 rintro m ⟨y1, y2⟩ N h hN
 unfold laws_toTableS_B1 at h
 dsimp only at h
 refine ls_seq_k fun K4 hK4 => rn 1 rfl ?_
 rcases cond_some h with ⟨g5, h⟩ | ⟨g5, h⟩
 ·refine qT rfl g5 (ls_skip (hK4 _ (ls_seq_k fun K6 hK6 => ls_blk (rg (sp 4 rfl (?_))))))
  obtain ⟨e7, g8, h⟩ := ob_some h
  refine qI rfl zc206_dd g8 (sp 1 rfl (?_))
  obtain ⟨v9, g10, h⟩ := ob_some h
  refine qC (qa rfl (erg (erc rfl (erc rfl (erc (erD ec25_d _) rfl)))) eran) (laws_toTable_s g10) (?_)
  obtain ⟨e11, g12, h⟩ := ob_some h
  exact qIu rfl ⟨(geti_some g12).1, (geti_some g12).2.1⟩ (qSu v9 rfl rfl zc208_oo ⟨(geti_some g12).1, (geti_some g12).2.1⟩ rfl rfl rfl rfl rfl rfl (evn (hK6 _ (rg (sp 3 rfl (evn (hN _ _ h (okr rfl))))))))
 ·exact qF rfl g5 (ls_exit (kXB1 (Option.some.inj h) _ (okr rfl)))
def laws_toDatabase (a0 : List Y205) : Option ((List Y207)) := obind (laws_toTableS a0) fun v1 => some v1
theorem laws_toDatabase_s {a0 : List Y205} {r : (List Y207)} (h : laws_toDatabase a0 = some r) : SoundAt Try.prog 16 [.agg [dL c206_dd a0]] (.agg [oL 208 c208_oo r]) := by
 unfold laws_toDatabase at h
 refine st lit16 rfl (rn 2 rfl (rs (sp 2 rfl (?_))))
 obtain ⟨v1, g2, h⟩ := ob_some h
 exact qC (qa rfl (erD ec206_dd _) eran) (laws_toTableS_s g2) (sp 2 rfl (evn (rn 1 rfl (ls_ret ((by cases h; exact ⟨.inl rfl, rfl⟩))))))
def laws_eqIntS_B1 (a0 : List Int) (a1 : List Int) (rec : Int → Option (Sum (Unit) (Bool))) (y1 : Int) : Option (Sum (Unit) (Bool)) := cond (decide (y1 < (List.length a0 : Int))) (obind (geti a0 y1) fun e7 => obind (geti a1 y1) fun e9 => cond (e7 != e9) (some (.inr false)) (rec (IntKind.i64.wrap (y1 + 1)))) (some (.inl ()))
def laws_eqIntS (a0 : List Int) (a1 : List Int) : Option (Bool) := cond ((List.length a0 : Int) != (List.length a1 : Int)) (some false) (obind (loopF (laws_eqIntS_B1 a0 a1) fz 0) fun o1 => (match o1 with
  | .inl _ => (some true)
  | .inr r => some r))
theorem laws_eqIntS_s {a0 : List Int} {a1 : List Int} {r : Bool} (h : laws_eqIntS a0 a1 = some r) : SoundAt Try.prog 19 [dL ci64 a0, dL ci64 a1] (.bool r) := by
 unfold laws_eqIntS at h
 refine st lit19 rfl (rn 1 rfl (ls_seq_k fun K1 hK1 => rn 1 rfl ?_))
 rcases cond_some h with ⟨g2, h⟩ | ⟨g2, h⟩
 ·exact qT rfl g2 (rn 1 rfl (ls_ret ((by cases h; exact ⟨.inl rfl, rfl⟩))))
 ·refine qF rfl g2 (ls_skip (hK1 _ (ls_seq_k fun K3 hK3 => rn 1 rfl ?_)))
  obtain ⟨o1, hl, hr1⟩ := ob_some h
  have kXB1 : (.inl ()) = o1 → Jn K3 [] := by
   intro h σ' hk
   subst h
   replace h := hr1
   try dsimp only at h
   exact hK3 _ (lh hk rfl (rn 1 rfl (ls_ret ((by cases h; exact ⟨.inl rfl, rfl⟩)))))
  refine ls_rec (fun (y1 : Int) => [(0, dL ci64 a0), (1, dL ci64 a1), (5, nI y1)]) _ _ _ _ hl (okr rfl) (fun _ => rfl) ?_
  rintro m y1 N h hN
  unfold laws_eqIntS_B1 at h
  refine ls_seq_k fun K4 hK4 => rn 1 rfl ?_
  rcases cond_some h with ⟨g5, h⟩ | ⟨g5, h⟩
  ·refine qT rfl g5 (ls_skip (hK4 _ (ls_seq_k fun K6 hK6 => ls_blk (rd (by kernel_rfl) (sd 2 rfl (?_))))))
   obtain ⟨e7, g8, h⟩ := ob_some h
   refine ed rfl (qI rfl zci64 g8 (sd 3 rfl (?_)))
   obtain ⟨e9, g10, h⟩ := ob_some h
   refine ed rfl (qI rfl zci64 g10 (sd 2 rfl (evdn ?_)))
   rcases cond_some h with ⟨g11, h⟩ | ⟨g11, h⟩
   ·exact qT rfl g11 (rn 1 rfl (ls_ret ((by cases h; cases hr1; exact ⟨.inl rfl, rfl⟩))))
   ·exact qF rfl g11 (ls_skip (hK6 _ (rg (sp 3 rfl (evn (hN _ _ h (okr rfl)))))))
  ·exact qF rfl g5 (ls_exit (kXB1 (Option.some.inj h) _ trivial))
def laws_eqIntSS_B1 (a0 : List (List Int)) (a1 : List (List Int)) (rec : Int → Option (Sum (Unit) (Bool))) (y1 : Int) : Option (Sum (Unit) (Bool)) := cond (decide (y1 < (List.length a0 : Int))) (obind (geti a0 y1) fun e7 => obind (geti a1 y1) fun e9 => obind (laws_eqIntS e7 e9) fun v11 => cond (!v11) (some (.inr false)) (rec (IntKind.i64.wrap (y1 + 1)))) (some (.inl ()))
def laws_eqIntSS (a0 : List (List Int)) (a1 : List (List Int)) : Option (Bool) := cond ((List.length a0 : Int) != (List.length a1 : Int)) (some false) (obind (loopF (laws_eqIntSS_B1 a0 a1) fz 0) fun o1 => (match o1 with
  | .inl _ => (some true)
  | .inr r => some r))
theorem laws_eqIntSS_s {a0 : List (List Int)} {a1 : List (List Int)} {r : Bool} (h : laws_eqIntSS a0 a1 = some r) : SoundAt Try.prog 215 [dL c25_d a0, dL c25_d a1] (.bool r) := by
 unfold laws_eqIntSS at h
 refine st lit215 rfl (rn 1 rfl (ls_seq_k fun K1 hK1 => rn 1 rfl ?_))
 rcases cond_some h with ⟨g2, h⟩ | ⟨g2, h⟩
 ·exact qT rfl g2 (rn 1 rfl (ls_ret ((by cases h; exact ⟨.inl rfl, rfl⟩))))
 ·refine qF rfl g2 (ls_skip (hK1 _ (ls_seq_k fun K3 hK3 => rn 1 rfl ?_)))
  obtain ⟨o1, hl, hr1⟩ := ob_some h
  have kXB1 : (.inl ()) = o1 → Jn K3 [] := by
   intro h σ' hk
   subst h
   replace h := hr1
   try dsimp only at h
   exact hK3 _ (lh hk rfl (rn 1 rfl (ls_ret ((by cases h; exact ⟨.inl rfl, rfl⟩)))))
  refine ls_rec (fun (y1 : Int) => [(0, dL c25_d a0), (1, dL c25_d a1), (5, nI y1)]) _ _ _ _ hl (okr rfl) (fun _ => rfl) ?_
  rintro m y1 N h hN
  unfold laws_eqIntSS_B1 at h
  refine ls_seq_k fun K4 hK4 => rn 1 rfl ?_
  rcases cond_some h with ⟨g5, h⟩ | ⟨g5, h⟩
  ·refine qT rfl g5 (ls_skip (hK4 _ (ls_seq_k fun K6 hK6 => ls_blk (rd (by kernel_rfl) (sd 2 rfl (?_))))))
   obtain ⟨e7, g8, h⟩ := ob_some h
   refine ed rfl (qI rfl zc25_d g8 (sd 3 rfl (?_)))
   obtain ⟨e9, g10, h⟩ := ob_some h
   refine ed rfl (qI rfl zc25_d g10 (sd 1 rfl (?_)))
   obtain ⟨v11, g12, h⟩ := ob_some h
   refine ed rfl (qC (qa rfl (erD eci64 _) (qa rfl (erD eci64 _) eran)) (laws_eqIntS_s g12) (sd 1 rfl (evdn ?_)))
   rcases cond_some h with ⟨g13, h⟩ | ⟨g13, h⟩
   ·exact qT rfl g13 (rn 1 rfl (ls_ret ((by cases h; cases hr1; exact ⟨.inl rfl, rfl⟩))))
   ·exact qF rfl g13 (ls_skip (hK6 _ (rg (sp 3 rfl (evn (hN _ _ h (okr rfl)))))))
  ·exact qF rfl g5 (ls_exit (kXB1 (Option.some.inj h) _ trivial))
def laws_eqRelation (a0 : Y127) (a1 : Y127) : Option (Bool) := cond (a0.1 != a1.1) (some false) (obind (laws_eqIntSS a0.2 a1.2) fun v4 => cond (!v4) (some false) (some true))
theorem laws_eqRelation_s {a0 : Y127} {a1 : Y127} {r : Bool} (h : laws_eqRelation a0 a1 = some r) : SoundAt Try.prog 238 [.agg (c128_dd a0), .agg (c128_dd a1)] (.bool r) := by
 unfold laws_eqRelation at h
 refine st lit238 rfl (rn 1 rfl (ls_seq_k fun K1 hK1 => rn 1 rfl ?_))
 rcases cond_some h with ⟨g2, h⟩ | ⟨g2, h⟩
 ·exact qT rfl g2 (rn 1 rfl (ls_ret ((by cases h; exact ⟨.inl rfl, rfl⟩))))
 ·refine qF rfl g2 (ls_skip (hK1 _ (ls_seq_k fun K3 hK3 => rs (sp 4 rfl (?_)))))
  obtain ⟨v4, g5, h⟩ := ob_some h
  refine qC (qa rfl (erD ec25_d _) (qa rfl (erD ec25_d _) eran)) (laws_eqIntSS_s g5) (sp 1 rfl (evn ?_))
  rcases cond_some h with ⟨g6, h⟩ | ⟨g6, h⟩
  ·exact qT rfl g6 (rn 1 rfl (ls_ret ((by cases h; exact ⟨.inl rfl, rfl⟩))))
  ·exact qF rfl g6 (ls_skip (hK3 _ (rn 1 rfl (qk [4] rfl (ls_ret ((by cases h; exact ⟨.inl rfl, rfl⟩)))))))
def laws_eqTable (a0 : Y207) (a1 : Y207) : Option (Bool) := cond (!(a0.1 == a1.1)) (some false) (obind (laws_eqRelation a0.2 a1.2) fun v4 => cond (!v4) (some false) (some true))
theorem laws_eqTable_s {a0 : Y207} {a1 : Y207} {r : Bool} (h : laws_eqTable a0 a1 = some r) : SoundAt Try.prog 176 [.agg (c208_dd a0), .agg (c208_dd a1)] (.bool r) := by
 unfold laws_eqTable at h
 refine st lit176 rfl (rn 1 rfl (ls_seq_k fun K1 hK1 => rn 1 rfl ?_))
 rcases cond_some h with ⟨g2, h⟩ | ⟨g2, h⟩
 ·exact qT rfl g2 (rn 1 rfl (ls_ret ((by cases h; exact ⟨.inl rfl, rfl⟩))))
 ·refine qF rfl g2 (ls_skip (hK1 _ (ls_seq_k fun K3 hK3 => rs (sp 4 rfl (?_)))))
  obtain ⟨v4, g5, h⟩ := ob_some h
  refine qC (qa rfl (erg (erc rfl (erc (erD ec25_d _) rfl))) (qa rfl (erg (erc rfl (erc (erD ec25_d _) rfl))) eran)) (laws_eqRelation_s g5) (sp 1 rfl (evn ?_))
  rcases cond_some h with ⟨g6, h⟩ | ⟨g6, h⟩
  ·exact qT rfl g6 (rn 1 rfl (ls_ret ((by cases h; exact ⟨.inl rfl, rfl⟩))))
  ·exact qF rfl g6 (ls_skip (hK3 _ (rn 1 rfl (qk [4] rfl (ls_ret ((by cases h; exact ⟨.inl rfl, rfl⟩)))))))
def laws_eqTableS_B1 (a0 : List Y207) (a1 : List Y207) (rec : Int → Option (Sum (Unit) (Bool))) (y1 : Int) : Option (Sum (Unit) (Bool)) := cond (decide (y1 < (List.length a0 : Int))) (obind (geti a0 y1) fun e7 => obind (geti a1 y1) fun e9 => obind (laws_eqTable e7 e9) fun v11 => cond (!v11) (some (.inr false)) (rec (IntKind.i64.wrap (y1 + 1)))) (some (.inl ()))
def laws_eqTableS (a0 : List Y207) (a1 : List Y207) : Option (Bool) := cond ((List.length a0 : Int) != (List.length a1 : Int)) (some false) (obind (loopF (laws_eqTableS_B1 a0 a1) fz 0) fun o1 => (match o1 with
  | .inl _ => (some true)
  | .inr r => some r))
theorem laws_eqTableS_s {a0 : List Y207} {a1 : List Y207} {r : Bool} (h : laws_eqTableS a0 a1 = some r) : SoundAt Try.prog 82 [dL c208_dd a0, dL c208_dd a1] (.bool r) := by
 unfold laws_eqTableS at h
 refine st lit82 rfl (rn 1 rfl (ls_seq_k fun K1 hK1 => rn 1 rfl ?_))
 rcases cond_some h with ⟨g2, h⟩ | ⟨g2, h⟩
 ·exact qT rfl g2 (rn 1 rfl (ls_ret ((by cases h; exact ⟨.inl rfl, rfl⟩))))
 ·refine qF rfl g2 (ls_skip (hK1 _ (ls_seq_k fun K3 hK3 => rn 1 rfl ?_)))
  obtain ⟨o1, hl, hr1⟩ := ob_some h
  have kXB1 : (.inl ()) = o1 → Jn K3 [] := by
   intro h σ' hk
   subst h
   replace h := hr1
   try dsimp only at h
   exact hK3 _ (lh hk rfl (rn 1 rfl (ls_ret ((by cases h; exact ⟨.inl rfl, rfl⟩)))))
  refine ls_rec (fun (y1 : Int) => [(0, dL c208_dd a0), (1, dL c208_dd a1), (5, nI y1)]) _ _ _ _ hl (okr rfl) (fun _ => rfl) ?_
  rintro m y1 N h hN
  unfold laws_eqTableS_B1 at h
  refine ls_seq_k fun K4 hK4 => rn 1 rfl ?_
  rcases cond_some h with ⟨g5, h⟩ | ⟨g5, h⟩
  ·refine qT rfl g5 (ls_skip (hK4 _ (ls_seq_k fun K6 hK6 => ls_blk (rd (by kernel_rfl) (sd 2 rfl (?_))))))
   obtain ⟨e7, g8, h⟩ := ob_some h
   refine ed rfl (qI rfl zc208_dd g8 (sd 3 rfl (?_)))
   obtain ⟨e9, g10, h⟩ := ob_some h
   refine ed rfl (qI rfl zc208_dd g10 (sd 1 rfl (?_)))
   obtain ⟨v11, g12, h⟩ := ob_some h
   refine ed rfl (qC (qa rfl (erg (erc rfl (erc rfl (erc (erD ec25_d _) rfl)))) (qa rfl (erg (erc rfl (erc rfl (erc (erD ec25_d _) rfl)))) eran)) (laws_eqTable_s g12) (sd 1 rfl (evdn ?_)))
   rcases cond_some h with ⟨g13, h⟩ | ⟨g13, h⟩
   ·exact qT rfl g13 (rn 1 rfl (ls_ret ((by cases h; cases hr1; exact ⟨.inl rfl, rfl⟩))))
   ·exact qF rfl g13 (ls_skip (hK6 _ (rg (sp 3 rfl (evn (hN _ _ h (okr rfl)))))))
  ·exact qF rfl g5 (ls_exit (kXB1 (Option.some.inj h) _ trivial))
def laws_eqDatabase (a0 : List Y207) (a1 : List Y207) : Option (Bool) := obind (laws_eqTableS a0 a1) fun v2 => cond (!v2) (some false) (some true)
theorem laws_eqDatabase_s {a0 : List Y207} {a1 : List Y207} {r : Bool} (h : laws_eqDatabase a0 a1 = some r) : SoundAt Try.prog 20 [.agg [dL c208_dd a0], .agg [dL c208_dd a1]] (.bool r) := by
 unfold laws_eqDatabase at h
 refine st lit20 rfl (rn 1 rfl (ls_seq_k fun K1 hK1 => rs (sp 4 rfl (?_))))
 obtain ⟨v2, g3, h⟩ := ob_some h
 refine qC (qa rfl (erD ec208_dd _) (qa rfl (erD ec208_dd _) eran)) (laws_eqTableS_s g3) (sp 1 rfl (evn ?_))
 rcases cond_some h with ⟨g4, h⟩ | ⟨g4, h⟩
 ·exact qT rfl g4 (rn 1 rfl (ls_ret ((by cases h; exact ⟨.inl rfl, rfl⟩))))
 ·exact qF rfl g4 (ls_skip (hK1 _ (rn 1 rfl (ls_ret ((by cases h; exact ⟨.inl rfl, rfl⟩))))))
abbrev Y194 := (List UInt8) × (List Int)
def c231_d (x : Y194) : List V := [.str x.1, dL ci64 x.2]
theorem zc231_d (x : Y194) : (c231_d x).length = 2 := rfl
theorem ec231_d (x : Y194) : erL (c231_d x) = c231_d x := (erc rfl (erc (erD eci64 _) rfl))
def laws_szAtom (a0 : Y194) (a1 : Int) : Option (Int) := cond (decide ((IntKind.i64.wrap (a1 - (List.length a0.1 : Int))) < 0)) (some (-1)) (obind (laws_szIntS a0.2 (IntKind.i64.wrap (a1 - (List.length a0.1 : Int)))) fun v3 => cond (decide (v3 < 0)) (some (-1)) (some v3))
theorem laws_szAtom_s {a0 : Y194} {a1 : Int} {r : Int} (h : laws_szAtom a0 a1 = some r) : SoundAt Try.prog 198 [.agg (c231_d a0), nI a1] (nI r) := by
 unfold laws_szAtom at h
 refine st lit198 rfl (rn 2 rfl (ls_seq_k fun K1 hK1 => rn 1 rfl ?_))
 rcases cond_some h with ⟨g2, h⟩ | ⟨g2, h⟩
 ·exact qT rfl g2 (rn 1 rfl (ls_ret ((by cases h; exact ⟨.inl rfl, rfl⟩))))
 ·refine qF rfl g2 (ls_skip (hK1 _ (rs (sp 3 rfl (?_)))))
  obtain ⟨v3, g4, h⟩ := ob_some h
  refine qC (qa rfl (erD eci64 _) (qs rfl eran)) (laws_szIntS_s g4) (sp 1 rfl (evn (ls_seq_k fun K5 hK5 => rn 1 rfl ?_)))
  rcases cond_some h with ⟨g6, h⟩ | ⟨g6, h⟩
  ·exact qT rfl g6 (rn 1 rfl (qk [4] rfl (ls_ret ((by cases h; exact ⟨.inl rfl, rfl⟩)))))
  ·exact qF rfl g6 (ls_skip (hK5 _ (rn 1 rfl (ls_ret ((by cases h; exact ⟨.inl rfl, rfl⟩))))))
def laws_szAtomS_B1 (a0 : List Y194) (rec : (Int × Int) → Option (Sum (Int) (Int))) (s : Int × Int) : Option (Sum (Int) (Int)) := match s with
  | (y1, y2) => cond (decide (y2 < (List.length a0 : Int))) (obind (geti a0 y2) fun e8 => obind (laws_szAtom e8 y1) fun v10 => cond (decide (v10 < 0)) (some (.inr (-1))) (rec (v10, (IntKind.i64.wrap (y2 + 1))))) (some (.inl y1))
def laws_szAtomS (a0 : List Y194) (a1 : Int) : Option (Int) := cond (decide ((IntKind.i64.wrap (a1 - (List.length a0 : Int))) < 0)) (some (-1)) (obind (loopF (laws_szAtomS_B1 a0) fz ((IntKind.i64.wrap (a1 - (List.length a0 : Int))), 0)) fun o1 => (match o1 with
  | .inl z4 => (some z4)
  | .inr r => some r))
theorem laws_szAtomS_s {a0 : List Y194} {a1 : Int} {r : Int} (h : laws_szAtomS a0 a1 = some r) : SoundAt Try.prog 120 [dL c231_d a0, nI a1] (nI r) := by
 unfold laws_szAtomS at h
 refine st lit120 rfl (rn 2 rfl (ls_seq_k fun K1 hK1 => rn 1 rfl ?_))
 rcases cond_some h with ⟨g2, h⟩ | ⟨g2, h⟩
 ·exact qT rfl g2 (rn 1 rfl (ls_ret ((by cases h; exact ⟨.inl rfl, rfl⟩))))
 ·refine qF rfl g2 (ls_skip (hK1 _ (ls_seq_k fun K3 hK3 => rn 1 rfl ?_)))
  obtain ⟨o1, hl, hr1⟩ := ob_some h
  have kXB1 : ∀ {z4 : Int}, (.inl z4) = o1 → Jn K3 [(1, nI z4)] := by
   intro z4 h σ' hk
   subst h
   replace h := hr1
   try dsimp only at h
   exact hK3 _ (lh hk rfl (rn 1 rfl (ls_ret ((by cases h; exact ⟨.inl rfl, rfl⟩)))))
  refine ls_rec (fun (s : Int × Int) => match s with | (y1, y2) => [(0, dL c231_d a0), (1, nI y1), (5, nI y2)]) _ _ _ _ hl (okr rfl) (fun _ => rfl) ?_
  rintro m ⟨y1, y2⟩ N h hN
  unfold laws_szAtomS_B1 at h
  dsimp only at h
  refine ls_seq_k fun K5 hK5 => rn 1 rfl ?_
  rcases cond_some h with ⟨g6, h⟩ | ⟨g6, h⟩
  ·refine qT rfl g6 (ls_skip (hK5 _ (ls_seq_k fun K7 hK7 => ls_blk (rs (sp 2 rfl (?_))))))
   obtain ⟨e8, g9, h⟩ := ob_some h
   refine qI rfl zc231_d g9 (sp 2 rfl (?_))
   obtain ⟨v10, g11, h⟩ := ob_some h
   refine qC (qa rfl (erg (erc rfl (erc (erD eci64 _) rfl))) (qs rfl eran)) (laws_szAtom_s g11) (sp 1 rfl (evn (rn 1 rfl ?_)))
   rcases cond_some h with ⟨g12, h⟩ | ⟨g12, h⟩
   ·exact qT rfl g12 (rn 1 rfl (ls_ret ((by cases h; cases hr1; exact ⟨.inl rfl, rfl⟩))))
   ·exact qF rfl g12 (ls_skip (hK7 _ (rg (sp 3 rfl (evn (hN _ _ h (okr rfl)))))))
  ·exact qF rfl g6 (ls_exit (kXB1 (Option.some.inj h) _ (okr rfl)))
abbrev Y78 := Int × (List Y194) × (List Int)
def c79_ddd (x : Y78) : List V := [nI x.1, dL c231_d x.2.1, dL ci64 x.2.2]
theorem zc79_ddd (x : Y78) : (c79_ddd x).length = 3 := rfl
theorem ec79_ddd (x : Y78) : erL (c79_ddd x) = c79_ddd x := (erc rfl (erc (erD ec231_d _) (erc (erD eci64 _) rfl)))
def laws_szQuery (a0 : Y78) (a1 : Int) : Option (Int) := obind (laws_szAtomS a0.2.1 a1) fun v1 => cond (decide (v1 < 0)) (some (-1)) (obind (laws_szIntS a0.2.2 v1) fun v5 => cond (decide (v5 < 0)) (some (-1)) (some v5))
theorem laws_szQuery_s {a0 : Y78} {a1 : Int} {r : Int} (h : laws_szQuery a0 a1 = some r) : SoundAt Try.prog 43 [.agg (c79_ddd a0), nI a1] (nI r) := by
 unfold laws_szQuery at h
 refine st lit43 rfl (rn 1 rfl (rs (sp 3 rfl (?_))))
 obtain ⟨v1, g2, h⟩ := ob_some h
 refine qC (qa rfl (erD ec231_d _) (qs rfl eran)) (laws_szAtomS_s g2) (sp 1 rfl (evn (ls_seq_k fun K3 hK3 => rn 1 rfl ?_)))
 rcases cond_some h with ⟨g4, h⟩ | ⟨g4, h⟩
 ·exact qT rfl g4 (rn 1 rfl (ls_ret ((by cases h; exact ⟨.inl rfl, rfl⟩))))
 ·refine qF rfl g4 (ls_skip (hK3 _ (rs (sp 3 rfl (?_)))))
  obtain ⟨v5, g6, h⟩ := ob_some h
  refine qC (qa rfl (erD eci64 _) (qs rfl eran)) (laws_szIntS_s g6) (sp 1 rfl (evn (ls_seq_k fun K7 hK7 => rn 1 rfl ?_)))
  rcases cond_some h with ⟨g8, h⟩ | ⟨g8, h⟩
  ·exact qT rfl g8 (rn 1 rfl (qk [4] rfl (ls_ret ((by cases h; exact ⟨.inl rfl, rfl⟩)))))
  ·exact qF rfl g8 (ls_skip (hK7 _ (rn 1 rfl (ls_ret ((by cases h; exact ⟨.inl rfl, rfl⟩))))))
def c195_d (x : Y194) : List V := [.str x.1, dL ci64 x.2]
theorem zc195_d (x : Y194) : (c195_d x).length = 2 := rfl
theorem ec195_d (x : Y194) : erL (c195_d x) = c195_d x := (erc rfl (erc (erD eci64 _) rfl))
def c195_o (x : Y194) : List V := [.str x.1, oL 3 ci64 x.2]
theorem zc195_o (x : Y194) : (c195_o x).length = 2 := rfl
theorem ec195_o (x : Y194) : erL (c195_o x) = c195_d x := (erc rfl (erc (erO eci64 _) rfl))
def laws_toAtom (a0 : Y194) : Option (Y194) := obind (laws_toIntS a0.2) fun v1 => some (a0.1, v1)
theorem laws_toAtom_s {a0 : Y194} {r : Y194} (h : laws_toAtom a0 = some r) : SoundAt Try.prog 207 [.agg (c231_d a0)] (.agg (c195_o r)) := by
 unfold laws_toAtom at h
 refine st lit207 rfl (rn 3 rfl (rs (sp 2 rfl (?_))))
 obtain ⟨v1, g2, h⟩ := ob_some h
 exact qC (qa rfl (erD eci64 _) eran) (laws_toIntS_s g2) (sp 2 rfl (evn (rn 1 rfl (ls_ret ((by cases h; exact ⟨.inl rfl, rfl⟩))))))
def laws_toAtomS_B1 (a0 : List Y194) (rec : ((List Y194) × Int) → Option ((List Y194))) (s : (List Y194) × Int) : Option ((List Y194)) := match s with
  | (y1, y2) => cond (decide (y2 < (List.length a0 : Int))) (obind (geti a0 y2) fun e7 => obind (laws_toAtom e7) fun v9 => obind (geti y1 y2) fun e11 => rec ((seti y1 y2 v9), (IntKind.i64.wrap (y2 + 1)))) (some y1)
def laws_toAtomS (a0 : List Y194) : Option ((List Y194)) := chk ((0 : Int) ≤ (List.length a0 : Int) ∧ Int.toNat (List.length a0 : Int) ≤ lim) (obind (loopF (laws_toAtomS_B1 a0) fz ((List.replicate (Int.toNat (List.length a0 : Int)) (([], []) : Y194)), 0)) fun z3 => some z3)
theorem laws_toAtomS_s {a0 : List Y194} {r : (List Y194)} (h : laws_toAtomS a0 = some r) : SoundAt Try.prog 126 [dL c231_d a0] (oL 195 c195_o r) := by
 unfold laws_toAtomS at h
 refine st lit126 rfl (rn 1 rfl (rs (sp 2 rfl (?_))))
 obtain ⟨g1, h⟩ := chk_some h
 refine qMu c195_o (([], []) : Y194) rfl rfl rfl rfl g1 rfl (qAu rfl rfl rfl rfl (evn (ls_seq_k fun K2 hK2 => rn 1 rfl ?_)))
 obtain ⟨o1, hl, hr1⟩ := ob_some h
 have kXB1 : ∀ {z3 : List Y194}, z3 = o1 → Jn K2 [(3, wL 195 c195_o z3)] := by
  intro z3 h σ' hk
  subst h
  replace h := hr1
  try dsimp only at h
  exact hK2 _ (lh hk rfl (rs (qTu rfl rfl rfl (sp 1 rfl (evn (ls_ret ((by cases h; exact ⟨.inl rfl, rfl⟩))))))))
 refine ls_rec (fun (s : (List Y194) × Int) => match s with | (y1, y2) => [(0, dL c231_d a0), (3, wL 195 c195_o y1), (4, nI y2)]) _ _ _ _ hl (okr rfl) (fun _ => rfl) ?_
 rintro m ⟨y1, y2⟩ N h hN
 unfold laws_toAtomS_B1 at h
 dsimp only at h
 refine ls_seq_k fun K4 hK4 => rn 1 rfl ?_
 rcases cond_some h with ⟨g5, h⟩ | ⟨g5, h⟩
 ·refine qT rfl g5 (ls_skip (hK4 _ (ls_seq_k fun K6 hK6 => ls_blk (rg (sp 4 rfl (?_))))))
  obtain ⟨e7, g8, h⟩ := ob_some h
  refine qI rfl zc231_d g8 (sp 1 rfl (?_))
  obtain ⟨v9, g10, h⟩ := ob_some h
  refine qC (qa rfl (erg (erc rfl (erc (erD eci64 _) rfl))) eran) (laws_toAtom_s g10) (?_)
  obtain ⟨e11, g12, h⟩ := ob_some h
  exact qIu rfl ⟨(geti_some g12).1, (geti_some g12).2.1⟩ (qSu v9 rfl rfl zc195_o ⟨(geti_some g12).1, (geti_some g12).2.1⟩ rfl rfl rfl rfl rfl rfl (evn (hK6 _ (rg (sp 3 rfl (evn (hN _ _ h (okr rfl))))))))
 ·exact qF rfl g5 (ls_exit (kXB1 (Option.some.inj h) _ (okr rfl)))
abbrev Y91 := Int × (List Y194) × (List Int)
def c92_ddd (x : Y91) : List V := [nI x.1, dL c195_d x.2.1, dL ci64 x.2.2]
theorem zc92_ddd (x : Y91) : (c92_ddd x).length = 3 := rfl
theorem ec92_ddd (x : Y91) : erL (c92_ddd x) = c92_ddd x := (erc rfl (erc (erD ec195_d _) (erc (erD eci64 _) rfl)))
def c92_ooo (x : Y91) : List V := [nI x.1, oL 195 c195_o x.2.1, oL 3 ci64 x.2.2]
theorem zc92_ooo (x : Y91) : (c92_ooo x).length = 3 := rfl
theorem ec92_ooo (x : Y91) : erL (c92_ooo x) = c92_ddd x := (erc rfl (erc (erO ec195_o _) (erc (erO eci64 _) rfl)))
def laws_toQuery (a0 : Y78) : Option (Y91) := obind (laws_toAtomS a0.2.1) fun v1 => obind (laws_toIntS a0.2.2) fun v3 => some (a0.1, v1, v3)
theorem laws_toQuery_s {a0 : Y78} {r : Y91} (h : laws_toQuery a0 = some r) : SoundAt Try.prog 46 [.agg (c79_ddd a0)] (.agg (c92_ooo r)) := by
 unfold laws_toQuery at h
 refine st lit46 rfl (rn 3 rfl (rs (sp 2 rfl (?_))))
 obtain ⟨v1, g2, h⟩ := ob_some h
 refine qC (qa rfl (erD ec231_d _) eran) (laws_toAtomS_s g2) (sp 2 rfl (evn (rs (sp 2 rfl (?_)))))
 obtain ⟨v3, g4, h⟩ := ob_some h
 exact qC (qa rfl (erD eci64 _) eran) (laws_toIntS_s g4) (sp 2 rfl (evn (rn 1 rfl (ls_ret ((by cases h; exact ⟨.inl rfl, rfl⟩))))))
def laws_eqAtom (a0 : Y194) (a1 : Y194) : Option (Bool) := cond (!(a0.1 == a1.1)) (some false) (obind (laws_eqIntS a0.2 a1.2) fun v4 => cond (!v4) (some false) (some true))
theorem laws_eqAtom_s {a0 : Y194} {a1 : Y194} {r : Bool} (h : laws_eqAtom a0 a1 = some r) : SoundAt Try.prog 214 [.agg (c195_d a0), .agg (c195_d a1)] (.bool r) := by
 unfold laws_eqAtom at h
 refine st lit214 rfl (rn 1 rfl (ls_seq_k fun K1 hK1 => rn 1 rfl ?_))
 rcases cond_some h with ⟨g2, h⟩ | ⟨g2, h⟩
 ·exact qT rfl g2 (rn 1 rfl (ls_ret ((by cases h; exact ⟨.inl rfl, rfl⟩))))
 ·refine qF rfl g2 (ls_skip (hK1 _ (ls_seq_k fun K3 hK3 => rs (sp 4 rfl (?_)))))
  obtain ⟨v4, g5, h⟩ := ob_some h
  refine qC (qa rfl (erD eci64 _) (qa rfl (erD eci64 _) eran)) (laws_eqIntS_s g5) (sp 1 rfl (evn ?_))
  rcases cond_some h with ⟨g6, h⟩ | ⟨g6, h⟩
  ·exact qT rfl g6 (rn 1 rfl (ls_ret ((by cases h; exact ⟨.inl rfl, rfl⟩))))
  ·exact qF rfl g6 (ls_skip (hK3 _ (rn 1 rfl (qk [4] rfl (ls_ret ((by cases h; exact ⟨.inl rfl, rfl⟩)))))))
def laws_eqAtomS_B1 (a0 : List Y194) (a1 : List Y194) (rec : Int → Option (Sum (Unit) (Bool))) (y1 : Int) : Option (Sum (Unit) (Bool)) := cond (decide (y1 < (List.length a0 : Int))) (obind (geti a0 y1) fun e7 => obind (geti a1 y1) fun e9 => obind (laws_eqAtom e7 e9) fun v11 => cond (!v11) (some (.inr false)) (rec (IntKind.i64.wrap (y1 + 1)))) (some (.inl ()))
def laws_eqAtomS (a0 : List Y194) (a1 : List Y194) : Option (Bool) := cond ((List.length a0 : Int) != (List.length a1 : Int)) (some false) (obind (loopF (laws_eqAtomS_B1 a0 a1) fz 0) fun o1 => (match o1 with
  | .inl _ => (some true)
  | .inr r => some r))
theorem laws_eqAtomS_s {a0 : List Y194} {a1 : List Y194} {r : Bool} (h : laws_eqAtomS a0 a1 = some r) : SoundAt Try.prog 132 [dL c195_d a0, dL c195_d a1] (.bool r) := by
 unfold laws_eqAtomS at h
 refine st lit132 rfl (rn 1 rfl (ls_seq_k fun K1 hK1 => rn 1 rfl ?_))
 rcases cond_some h with ⟨g2, h⟩ | ⟨g2, h⟩
 ·exact qT rfl g2 (rn 1 rfl (ls_ret ((by cases h; exact ⟨.inl rfl, rfl⟩))))
 ·refine qF rfl g2 (ls_skip (hK1 _ (ls_seq_k fun K3 hK3 => rn 1 rfl ?_)))
  obtain ⟨o1, hl, hr1⟩ := ob_some h
  have kXB1 : (.inl ()) = o1 → Jn K3 [] := by
   intro h σ' hk
   subst h
   replace h := hr1
   try dsimp only at h
   exact hK3 _ (lh hk rfl (rn 1 rfl (ls_ret ((by cases h; exact ⟨.inl rfl, rfl⟩)))))
  refine ls_rec (fun (y1 : Int) => [(0, dL c195_d a0), (1, dL c195_d a1), (5, nI y1)]) _ _ _ _ hl (okr rfl) (fun _ => rfl) ?_
  rintro m y1 N h hN
  unfold laws_eqAtomS_B1 at h
  refine ls_seq_k fun K4 hK4 => rn 1 rfl ?_
  rcases cond_some h with ⟨g5, h⟩ | ⟨g5, h⟩
  ·refine qT rfl g5 (ls_skip (hK4 _ (ls_seq_k fun K6 hK6 => ls_blk (rd (by kernel_rfl) (sd 2 rfl (?_))))))
   obtain ⟨e7, g8, h⟩ := ob_some h
   refine ed rfl (qI rfl zc195_d g8 (sd 3 rfl (?_)))
   obtain ⟨e9, g10, h⟩ := ob_some h
   refine ed rfl (qI rfl zc195_d g10 (sd 1 rfl (?_)))
   obtain ⟨v11, g12, h⟩ := ob_some h
   refine ed rfl (qC (qa rfl (erg (erc rfl (erc (erD eci64 _) rfl))) (qa rfl (erg (erc rfl (erc (erD eci64 _) rfl))) eran)) (laws_eqAtom_s g12) (sd 1 rfl (evdn ?_)))
   rcases cond_some h with ⟨g13, h⟩ | ⟨g13, h⟩
   ·exact qT rfl g13 (rn 1 rfl (ls_ret ((by cases h; cases hr1; exact ⟨.inl rfl, rfl⟩))))
   ·exact qF rfl g13 (ls_skip (hK6 _ (rg (sp 3 rfl (evn (hN _ _ h (okr rfl)))))))
  ·exact qF rfl g5 (ls_exit (kXB1 (Option.some.inj h) _ trivial))
def laws_eqQuery (a0 : Y91) (a1 : Y91) : Option (Bool) := cond (a0.1 != a1.1) (some false) (obind (laws_eqAtomS a0.2.1 a1.2.1) fun v4 => cond (!v4) (some false) (obind (laws_eqIntS a0.2.2 a1.2.2) fun v8 => cond (!v8) (some false) (some true)))
theorem laws_eqQuery_s {a0 : Y91} {a1 : Y91} {r : Bool} (h : laws_eqQuery a0 a1 = some r) : SoundAt Try.prog 49 [.agg (c92_ddd a0), .agg (c92_ddd a1)] (.bool r) := by
 unfold laws_eqQuery at h
 refine st lit49 rfl (rn 1 rfl (ls_seq_k fun K1 hK1 => rn 1 rfl ?_))
 rcases cond_some h with ⟨g2, h⟩ | ⟨g2, h⟩
 ·exact qT rfl g2 (rn 1 rfl (ls_ret ((by cases h; exact ⟨.inl rfl, rfl⟩))))
 ·refine qF rfl g2 (ls_skip (hK1 _ (ls_seq_k fun K3 hK3 => rs (sp 4 rfl (?_)))))
  obtain ⟨v4, g5, h⟩ := ob_some h
  refine qC (qa rfl (erD ec195_d _) (qa rfl (erD ec195_d _) eran)) (laws_eqAtomS_s g5) (sp 1 rfl (evn ?_))
  rcases cond_some h with ⟨g6, h⟩ | ⟨g6, h⟩
  ·exact qT rfl g6 (rn 1 rfl (ls_ret ((by cases h; exact ⟨.inl rfl, rfl⟩))))
  ·refine qF rfl g6 (ls_skip (hK3 _ (ls_seq_k fun K7 hK7 => rs (sp 4 rfl (?_)))))
   obtain ⟨v8, g9, h⟩ := ob_some h
   refine qC (qa rfl (erD eci64 _) (qa rfl (erD eci64 _) eran)) (laws_eqIntS_s g9) (sp 1 rfl (evn (qk [21] rfl ?_)))
   rcases cond_some h with ⟨g10, h⟩ | ⟨g10, h⟩
   ·exact qT rfl g10 (rn 1 rfl (ls_ret ((by cases h; exact ⟨.inl rfl, rfl⟩))))
   ·exact qF rfl g10 (ls_skip (hK7 _ (rn 1 rfl (ls_ret ((by cases h; exact ⟨.inl rfl, rfl⟩))))))
abbrev Y26 := (List UInt8) × (List Int) × Int
def c27_d (x : Y26) : List V := [.str x.1, dL ci64 x.2.1, nI x.2.2]
theorem zc27_d (x : Y26) : (c27_d x).length = 3 := rfl
theorem ec27_d (x : Y26) : erL (c27_d x) = c27_d x := (erc rfl (erc (erD eci64 _) (erc rfl rfl)))
def laws_szFunctionalDependency (a0 : Y26) (a1 : Int) : Option (Int) := cond (decide ((IntKind.i64.wrap (a1 - (List.length a0.1 : Int))) < 0)) (some (-1)) (obind (laws_szIntS a0.2.1 (IntKind.i64.wrap (a1 - (List.length a0.1 : Int)))) fun v3 => cond (decide (v3 < 0)) (some (-1)) (some v3))
theorem laws_szFunctionalDependency_s {a0 : Y26} {a1 : Int} {r : Int} (h : laws_szFunctionalDependency a0 a1 = some r) : SoundAt Try.prog 14 [.agg (c27_d a0), nI a1] (nI r) := by
 unfold laws_szFunctionalDependency at h
 refine st lit14 rfl (rn 2 rfl (ls_seq_k fun K1 hK1 => rn 1 rfl ?_))
 rcases cond_some h with ⟨g2, h⟩ | ⟨g2, h⟩
 ·exact qT rfl g2 (rn 1 rfl (ls_ret ((by cases h; exact ⟨.inl rfl, rfl⟩))))
 ·refine qF rfl g2 (ls_skip (hK1 _ (rs (sp 3 rfl (?_)))))
  obtain ⟨v3, g4, h⟩ := ob_some h
  refine qC (qa rfl (erD eci64 _) (qs rfl eran)) (laws_szIntS_s g4) (sp 1 rfl (evn (ls_seq_k fun K5 hK5 => rn 1 rfl ?_)))
  rcases cond_some h with ⟨g6, h⟩ | ⟨g6, h⟩
  ·exact qT rfl g6 (rn 1 rfl (qk [4] rfl (ls_ret ((by cases h; exact ⟨.inl rfl, rfl⟩)))))
  ·exact qF rfl g6 (ls_skip (hK5 _ (rn 1 rfl (ls_ret ((by cases h; exact ⟨.inl rfl, rfl⟩))))))
def laws_szFunctionalDependencyS_B1 (a0 : List Y26) (rec : (Int × Int) → Option (Sum (Int) (Int))) (s : Int × Int) : Option (Sum (Int) (Int)) := match s with
  | (y1, y2) => cond (decide (y2 < (List.length a0 : Int))) (obind (geti a0 y2) fun e8 => obind (laws_szFunctionalDependency e8 y1) fun v10 => cond (decide (v10 < 0)) (some (.inr (-1))) (rec (v10, (IntKind.i64.wrap (y2 + 1))))) (some (.inl y1))
def laws_szFunctionalDependencyS (a0 : List Y26) (a1 : Int) : Option (Int) := cond (decide ((IntKind.i64.wrap (a1 - (List.length a0 : Int))) < 0)) (some (-1)) (obind (loopF (laws_szFunctionalDependencyS_B1 a0) fz ((IntKind.i64.wrap (a1 - (List.length a0 : Int))), 0)) fun o1 => (match o1 with
  | .inl z4 => (some z4)
  | .inr r => some r))
theorem laws_szFunctionalDependencyS_s {a0 : List Y26} {a1 : Int} {r : Int} (h : laws_szFunctionalDependencyS a0 a1 = some r) : SoundAt Try.prog 66 [dL c27_d a0, nI a1] (nI r) := by
 unfold laws_szFunctionalDependencyS at h
 refine st lit66 rfl (rn 2 rfl (ls_seq_k fun K1 hK1 => rn 1 rfl ?_))
 rcases cond_some h with ⟨g2, h⟩ | ⟨g2, h⟩
 ·exact qT rfl g2 (rn 1 rfl (ls_ret ((by cases h; exact ⟨.inl rfl, rfl⟩))))
 ·refine qF rfl g2 (ls_skip (hK1 _ (ls_seq_k fun K3 hK3 => rn 1 rfl ?_)))
  obtain ⟨o1, hl, hr1⟩ := ob_some h
  have kXB1 : ∀ {z4 : Int}, (.inl z4) = o1 → Jn K3 [(1, nI z4)] := by
   intro z4 h σ' hk
   subst h
   replace h := hr1
   try dsimp only at h
   exact hK3 _ (lh hk rfl (rn 1 rfl (ls_ret ((by cases h; exact ⟨.inl rfl, rfl⟩)))))
  refine ls_rec (fun (s : Int × Int) => match s with | (y1, y2) => [(0, dL c27_d a0), (1, nI y1), (5, nI y2)]) _ _ _ _ hl (okr rfl) (fun _ => rfl) ?_
  rintro m ⟨y1, y2⟩ N h hN
  unfold laws_szFunctionalDependencyS_B1 at h
  dsimp only at h
  refine ls_seq_k fun K5 hK5 => rn 1 rfl ?_
  rcases cond_some h with ⟨g6, h⟩ | ⟨g6, h⟩
  ·refine qT rfl g6 (ls_skip (hK5 _ (ls_seq_k fun K7 hK7 => ls_blk (rs (sp 2 rfl (?_))))))
   obtain ⟨e8, g9, h⟩ := ob_some h
   refine qI rfl zc27_d g9 (sp 2 rfl (?_))
   obtain ⟨v10, g11, h⟩ := ob_some h
   refine qC (qa rfl (erg (erc rfl (erc (erD eci64 _) (erc rfl rfl)))) (qs rfl eran)) (laws_szFunctionalDependency_s g11) (sp 1 rfl (evn (rn 1 rfl ?_)))
   rcases cond_some h with ⟨g12, h⟩ | ⟨g12, h⟩
   ·exact qT rfl g12 (rn 1 rfl (ls_ret ((by cases h; cases hr1; exact ⟨.inl rfl, rfl⟩))))
   ·exact qF rfl g12 (ls_skip (hK7 _ (rg (sp 3 rfl (evn (hN _ _ h (okr rfl)))))))
  ·exact qF rfl g6 (ls_exit (kXB1 (Option.some.inj h) _ (okr rfl)))
def spec_l1In_J1 (x2 : Bool) : Option (Bool) := some x2
def spec_l1In (a0 : Int) (a1 : Int) (a2 : Int) : Option (Bool) := cond (decide (a1 ≤ a0)) (spec_l1In_J1 (decide (a0 ≤ a2))) (spec_l1In_J1 false)
theorem spec_l1In_s {a0 : Int} {a1 : Int} {a2 : Int} {r : Bool} (h : spec_l1In a0 a1 a2 = some r) : SoundAt Try.prog 86 [nI a0, nI a1, nI a2] (.bool r) := by
 unfold spec_l1In at h
 refine st lit86 rfl (rn 1 rfl (rk fun K1 hK1 => ?_))
 have kJ1 : ∀ {x2 : Bool}, spec_l1In_J1 x2 = some r → Jn K1 [(6, .bool x2)] := by
  intro x2 h σ' hk
  unfold spec_l1In_J1 at h
  exact hK1 _ (lh hk rfl (ls_ret ((by cases h; exact ⟨.inl rfl, rfl⟩))))
 refine sp 4 rfl (?_)
 rcases cond_some h with ⟨g3, h⟩ | ⟨g3, h⟩
 ·exact qg 10 g3 rfl (sp 5 rfl (evn (kJ1 h _ (okr rfl))))
 ·exact qg 10 g3 rfl (sp 5 rfl (evn (kJ1 h _ (okr rfl))))
def spec_IsValidName_B1 (a0 : List UInt8) (rec : Int → Option (Sum (Unit) (Bool))) (y1 : Int) : Option (Sum (Unit) (Bool)) := cond (decide (y1 < (List.length a0 : Int))) (obind (geti a0 y1) fun b5 => cond (decide ((UInt8.toNat b5 : Int) < 97)) (some (.inr false)) (obind (geti a0 y1) fun b8 => cond (decide (122 < (UInt8.toNat b8 : Int))) (some (.inr false)) (rec (IntKind.i64.wrap (y1 + 1))))) (some (.inl ()))
def spec_IsValidName (a0 : List UInt8) : Option (Bool) := obind (loopF (spec_IsValidName_B1 a0) fz 0) fun o1 => (match o1 with
  | .inl _ => (obind (spec_l1In (List.length a0 : Int) 1 4) fun v11 => some v11)
  | .inr r => some r)
theorem spec_IsValidName_s {a0 : List UInt8} {r : Bool} (h : spec_IsValidName a0 = some r) : SoundAt Try.prog 216 [.str a0] (.bool r) := by
 unfold spec_IsValidName at h
 refine st lit216 rfl (rn 1 rfl (ls_seq_k fun K1 hK1 => rn 1 rfl ?_))
 obtain ⟨o1, hl, hr1⟩ := ob_some h
 have kXB1 : (.inl ()) = o1 → Jn K1 [(0, .str a0)] := by
  intro h σ' hk
  subst h
  replace h := hr1
  try dsimp only at h
  refine hK1 _ (lh hk rfl (rs (sp 2 rfl (?_))))
  obtain ⟨v11, g12, h⟩ := ob_some h
  exact qC (qs rfl (qs rfl (qs rfl eran))) (spec_l1In_s g12) (sp 1 rfl (evn (ls_ret ((by cases h; exact ⟨.inl rfl, rfl⟩)))))
 refine ls_rec (fun (y1 : Int) => [(0, .str a0), (3, nI y1)]) _ _ _ _ hl (okr rfl) (fun _ => rfl) ?_
 rintro m y1 N h hN
 unfold spec_IsValidName_B1 at h
 refine ls_seq_k fun K2 hK2 => rn 1 rfl ?_
 rcases cond_some h with ⟨g3, h⟩ | ⟨g3, h⟩
 ·refine qT rfl g3 (ls_skip (hK2 _ (ls_seq_k fun K4 hK4 => ls_blk (rs (sp 2 rfl (?_))))))
  obtain ⟨b5, g6, h⟩ := ob_some h
  refine qX rfl g6 (sp 2 rfl (?_))
  rcases cond_some h with ⟨g7, h⟩ | ⟨g7, h⟩
  ·exact qg 14 g7 rfl (sp 5 rfl (evn (qT rfl rfl (rn 1 rfl (ls_ret ((by cases h; cases hr1; exact ⟨.inl rfl, rfl⟩)))))))
  ·refine qg 14 g7 rfl (sp 2 rfl (?_))
   obtain ⟨b8, g9, h⟩ := ob_some h
   refine oGR rfl rfl (qX rfl g9 (sp 2 rfl (evn ?_)))
   rcases cond_some h with ⟨g10, h⟩ | ⟨g10, h⟩
   ·exact qT rfl g10 (rn 1 rfl (qk [2] rfl (ls_ret ((by cases h; cases hr1; exact ⟨.inl rfl, rfl⟩)))))
   ·exact qF rfl g10 (ls_skip (hK4 _ (rg (sp 3 rfl (evn (hN _ _ h (okr rfl)))))))
 ·exact qF rfl g3 (ls_exit (kXB1 (Option.some.inj h) _ (okr rfl)))
def spec_CompareRows_B1 (a0 : List Int) (a1 : List Int) (rec : Int → Option (Sum (Unit) (Int))) (y1 : Int) : Option (Sum (Unit) (Int)) := cond (decide (y1 < (List.length a0 : Int))) (cond (decide (y1 < (List.length a1 : Int))) (obind (geti a0 y1) fun e7 => obind (geti a1 y1) fun e9 => cond (decide (e7 < e9)) (some (.inr (-1))) (obind (geti a0 y1) fun e12 => obind (geti a1 y1) fun e14 => cond (decide (e14 < e12)) (some (.inr 1)) (rec (IntKind.i64.wrap (y1 + 1))))) (some (.inl ()))) (some (.inl ()))
def spec_CompareRows (a0 : List Int) (a1 : List Int) : Option (Int) := obind (loopF (spec_CompareRows_B1 a0 a1) fz 0) fun o1 => (match o1 with
  | .inl _ => (cond (decide ((List.length a0 : Int) < (List.length a1 : Int))) (some (-1)) (cond (decide ((List.length a1 : Int) < (List.length a0 : Int))) (some 1) (some 0)))
  | .inr r => some r)
theorem spec_CompareRows_s {a0 : List Int} {a1 : List Int} {r : Int} (h : spec_CompareRows a0 a1 = some r) : SoundAt Try.prog 75 [dL ci64 a0, dL ci64 a1] (nI r) := by
 unfold spec_CompareRows at h
 refine st lit75 rfl (rn 1 rfl (ls_seq_k fun K1 hK1 => rn 1 rfl ?_))
 obtain ⟨o1, hl, hr1⟩ := ob_some h
 have kXB1 : (.inl ()) = o1 → Jn K1 [(0, dL ci64 a0), (1, dL ci64 a1)] := by
  intro h σ' hk
  subst h
  replace h := hr1
  try dsimp only at h
  refine hK1 _ (lh hk rfl (ls_seq_k fun K17 hK17 => rn 1 rfl ?_))
  rcases cond_some h with ⟨g18, h⟩ | ⟨g18, h⟩
  ·exact qT rfl g18 (rn 1 rfl (ls_ret ((by cases h; exact ⟨.inl rfl, rfl⟩))))
  ·refine qF rfl g18 (ls_skip (hK17 _ (ls_seq_k fun K19 hK19 => rn 1 rfl ?_)))
   rcases cond_some h with ⟨g20, h⟩ | ⟨g20, h⟩
   ·exact qT rfl g20 (rn 1 rfl (ls_ret ((by cases h; exact ⟨.inl rfl, rfl⟩))))
   ·exact qF rfl g20 (ls_skip (hK19 _ (rn 1 rfl (ls_ret ((by cases h; exact ⟨.inl rfl, rfl⟩))))))
 refine ls_rec (fun (y1 : Int) => [(0, dL ci64 a0), (1, dL ci64 a1), (5, nI y1)]) _ _ _ _ hl (okr rfl) (fun _ => rfl) ?_
 rintro m y1 N h hN
 unfold spec_CompareRows_B1 at h
 refine ls_seq_k fun K2 hK2 => rs (sp 5 rfl (?_))
 rcases cond_some h with ⟨g3, h⟩ | ⟨g3, h⟩
 ·refine qg 10 g3 rfl (sp 5 rfl (evn ?_))
  rcases cond_some h with ⟨g4, h⟩ | ⟨g4, h⟩
  ·refine qT rfl g4 (ls_skip (hK2 _ (ls_seq_k fun K5 hK5 => ls_blk (ls_seq_k fun K6 hK6 => rd (by kernel_rfl) (sd 2 rfl (?_))))))
   obtain ⟨e7, g8, h⟩ := ob_some h
   refine ed rfl (qI rfl zci64 g8 (sd 3 rfl (?_)))
   obtain ⟨e9, g10, h⟩ := ob_some h
   refine ed rfl (qI rfl zci64 g10 (sd 2 rfl (evdn ?_)))
   rcases cond_some h with ⟨g11, h⟩ | ⟨g11, h⟩
   ·exact qT rfl g11 (rn 1 rfl (ls_ret ((by cases h; cases hr1; exact ⟨.inl rfl, rfl⟩))))
   ·refine qF rfl g11 (ls_skip (hK6 _ (rd (by kernel_rfl) (sd 2 rfl (?_)))))
    obtain ⟨e12, g13, h⟩ := ob_some h
    refine ed rfl (qI rfl zci64 g13 (sd 3 rfl (?_)))
    obtain ⟨e14, g15, h⟩ := ob_some h
    refine ed rfl (qI rfl zci64 g15 (sd 2 rfl (evdn (qk [0, 1, 5, 35] rfl ?_))))
    rcases cond_some h with ⟨g16, h⟩ | ⟨g16, h⟩
    ·exact qT rfl g16 (rn 1 rfl (ls_ret ((by cases h; cases hr1; exact ⟨.inl rfl, rfl⟩))))
    ·exact qF rfl g16 (ls_skip (hK5 _ (rg (sp 3 rfl (evn (hN _ _ h (okr rfl)))))))
  ·exact qF rfl g4 (ls_exit (kXB1 (Option.some.inj h) _ (okr rfl)))
 ·exact qg 10 g3 rfl (sp 5 rfl (evn (qF rfl rfl (ls_exit (kXB1 (Option.some.inj h) _ (okr rfl))))))
def spec_AreValidValues_B1 (a0 : List Int) (rec : Int → Option (Sum (Unit) (Bool))) (y1 : Int) : Option (Sum (Unit) (Bool)) := cond (decide (y1 < (List.length a0 : Int))) (obind (geti a0 y1) fun e5 => obind (spec_l1In e5 0 99) fun v7 => cond (!v7) (some (.inr false)) (rec (IntKind.i64.wrap (y1 + 1)))) (some (.inl ()))
def spec_AreValidValues (a0 : List Int) : Option (Bool) := obind (loopF (spec_AreValidValues_B1 a0) fz 0) fun o1 => (match o1 with
  | .inl _ => (some true)
  | .inr r => some r)
theorem spec_AreValidValues_s {a0 : List Int} {r : Bool} (h : spec_AreValidValues a0 = some r) : SoundAt Try.prog 242 [dL ci64 a0] (.bool r) := by
 unfold spec_AreValidValues at h
 refine st lit242 rfl (rn 1 rfl (ls_seq_k fun K1 hK1 => rn 1 rfl ?_))
 obtain ⟨o1, hl, hr1⟩ := ob_some h
 have kXB1 : (.inl ()) = o1 → Jn K1 [] := by
  intro h σ' hk
  subst h
  replace h := hr1
  try dsimp only at h
  exact hK1 _ (lh hk rfl (rn 1 rfl (ls_ret ((by cases h; exact ⟨.inl rfl, rfl⟩)))))
 refine ls_rec (fun (y1 : Int) => [(0, dL ci64 a0), (3, nI y1)]) _ _ _ _ hl (okr rfl) (fun _ => rfl) ?_
 rintro m y1 N h hN
 unfold spec_AreValidValues_B1 at h
 refine ls_seq_k fun K2 hK2 => rn 1 rfl ?_
 rcases cond_some h with ⟨g3, h⟩ | ⟨g3, h⟩
 ·refine qT rfl g3 (ls_skip (hK2 _ (ls_seq_k fun K4 hK4 => ls_blk (rs (sp 2 rfl (?_))))))
  obtain ⟨e5, g6, h⟩ := ob_some h
  refine qI rfl zci64 g6 (sp 1 rfl (?_))
  obtain ⟨v7, g8, h⟩ := ob_some h
  refine qC (qs rfl (qs rfl (qs rfl eran))) (spec_l1In_s g8) (sp 1 rfl (evn ?_))
  rcases cond_some h with ⟨g9, h⟩ | ⟨g9, h⟩
  ·exact qT rfl g9 (rn 1 rfl (ls_ret ((by cases h; cases hr1; exact ⟨.inl rfl, rfl⟩))))
  ·exact qF rfl g9 (ls_skip (hK4 _ (rg (sp 3 rfl (evn (hN _ _ h (okr rfl)))))))
 ·exact qF rfl g3 (ls_exit (kXB1 (Option.some.inj h) _ trivial))
def spec_IsValidRelation_J2 (rec : Int → Option (Sum (Unit) (Bool))) (y1 : Int) (x11 : Bool) : Option (Sum (Unit) (Bool)) := cond x11 (some (.inr false)) (rec (IntKind.i64.wrap (y1 + 1)))
def spec_IsValidRelation_B1 (a0 : Y127) (rec : Int → Option (Sum (Unit) (Bool))) (y1 : Int) : Option (Sum (Unit) (Bool)) := cond (decide (y1 < (List.length a0.2 : Int))) (obind (geti a0.2 y1) fun e13 => cond ((List.length e13 : Int) != a0.1) (spec_IsValidRelation_J2 rec y1 true) (obind (geti a0.2 y1) fun e16 => obind (spec_AreValidValues e16) fun v18 => cond (!v18) (spec_IsValidRelation_J2 rec y1 true) (cond (decide (0 < y1)) (obind (geti a0.2 (IntKind.i64.wrap (y1 - 1))) fun e22 => obind (geti a0.2 y1) fun e24 => obind (spec_CompareRows e22 e24) fun v26 => spec_IsValidRelation_J2 rec y1 (decide (0 ≤ v26))) (spec_IsValidRelation_J2 rec y1 false)))) (some (.inl ()))
def spec_IsValidRelation (a0 : Y127) : Option (Bool) := obind (spec_l1In a0.1 0 5) fun v2 => cond (!v2) (some false) (cond (decide (4000 < (List.length a0.2 : Int))) (some false) (obind (loopF (spec_IsValidRelation_B1 a0) fz 0) fun o1 => (match o1 with
  | .inl _ => (some true)
  | .inr r => some r)))
theorem spec_IsValidRelation_s {a0 : Y127} {r : Bool} (h : spec_IsValidRelation a0 = some r) : SoundAt Try.prog 217 [.agg (c128_dd a0)] (.bool r) := by
 unfold spec_IsValidRelation at h
 refine st lit217 rfl (rn 1 rfl (ls_seq_k fun K1 hK1 => rs (sp 2 rfl (?_))))
 obtain ⟨v2, g3, h⟩ := ob_some h
 refine qC (qs rfl (qs rfl (qs rfl eran))) (spec_l1In_s g3) (sp 2 rfl (?_))
 rcases cond_some h with ⟨g4, h⟩ | ⟨g4, h⟩
 ·exact qg 8 g4 rfl (sp 5 rfl (evn (qT rfl rfl (rn 1 rfl (ls_ret ((by cases h; exact ⟨.inl rfl, rfl⟩)))))))
 ·refine qg 8 g4 rfl (sp 5 rfl (evn ?_))
  rcases cond_some h with ⟨g5, h⟩ | ⟨g5, h⟩
  ·exact qT rfl g5 (rn 1 rfl (ls_ret ((by cases h; exact ⟨.inl rfl, rfl⟩))))
  ·refine qF rfl g5 (ls_skip (hK1 _ (qk [1] rfl (ls_seq_k fun K6 hK6 => rn 1 rfl ?_))))
   obtain ⟨o1, hl, hr1⟩ := ob_some h
   have kXB1 : (.inl ()) = o1 → Jn K6 [] := by
    intro h σ' hk
    subst h
    replace h := hr1
    try dsimp only at h
    exact hK6 _ (lh hk rfl (rn 1 rfl (ls_ret ((by cases h; exact ⟨.inl rfl, rfl⟩)))))
   refine ls_rec (fun (y1 : Int) => [(1, .box [nI a0.1, dL c25_d a0.2]), (3, nI y1)]) _ _ _ _ hl (okr rfl) (fun _ => rfl) ?_
   rintro m y1 N h hN
   unfold spec_IsValidRelation_B1 at h
   refine ls_seq_k fun K7 hK7 => rn 1 rfl ?_
   rcases cond_some h with ⟨g8, h⟩ | ⟨g8, h⟩
   ·refine qT rfl g8 (ls_skip (hK7 _ (ls_seq_k fun K9 hK9 => ls_blk (rdk (by kernel_rfl) fun K10 hK10 => ?_))))
    have kJ2 : ∀ {x11 : Bool}, spec_IsValidRelation_J2 (loopF (spec_IsValidRelation_B1 a0) m) y1 x11 = some o1 → Jn K10 [(1, .box [nI a0.1, dL c25_d a0.2]), (3, nI y1), (57, .bool x11)] := by
     intro x11 h σ' hk
     unfold spec_IsValidRelation_J2 at h
     refine hK10 _ (lh hk rfl ?_)
     rcases cond_some h with ⟨g12, h⟩ | ⟨g12, h⟩
     ·exact qT rfl g12 (rn 1 rfl (ls_ret ((by cases h; cases hr1; exact ⟨.inl rfl, rfl⟩))))
     ·exact qF rfl g12 (ls_skip (hK9 _ (rg (sp 3 rfl (evn (hN _ _ h (okr rfl)))))))
    refine sd 3 rfl (?_)
    obtain ⟨e13, g14, h⟩ := ob_some h
    refine ed rfl (qI rfl zc25_d g14 (sd 6 rfl (?_)))
    rcases cond_some h with ⟨g15, h⟩ | ⟨g15, h⟩
    ·exact qgd 30 g15 rfl (sd 27 rfl (evdn (kJ2 h _ (okr rfl))))
    ·refine qgd 30 g15 rfl (sd 3 rfl (?_))
     obtain ⟨e16, g17, h⟩ := ob_some h
     refine ed rfl (oGR rfl rfl (qI rfl zc25_d g17 (sd 1 rfl (?_))))
     obtain ⟨v18, g19, h⟩ := ob_some h
     refine ed rfl (oGR rfl rfl (qC (qa rfl (erD eci64 _) eran) (spec_AreValidValues_s g19) (sd 3 rfl (?_))))
     rcases cond_some h with ⟨g20, h⟩ | ⟨g20, h⟩
     ·exact qgd 39 g20 rfl (sd 18 rfl (evdn (kJ2 h _ (okr rfl))))
     ·refine qgd 39 g20 rfl (sd 3 rfl (?_))
      rcases cond_some h with ⟨g21, h⟩ | ⟨g21, h⟩
      ·refine qgd 42 g21 rfl (sd 4 rfl (?_))
       obtain ⟨e22, g23, h⟩ := ob_some h
       refine ed rfl (oGR rfl rfl (qI rfl zc25_d g23 (sd 4 rfl (?_))))
       obtain ⟨e24, g25, h⟩ := ob_some h
       refine ed rfl (oGR rfl rfl (qI rfl zc25_d g25 (sd 1 rfl (?_))))
       obtain ⟨v26, g27, h⟩ := ob_some h
       exact ed rfl (oGR rfl rfl (qC (qa rfl (erD eci64 _) (qa rfl (erD eci64 _) eran)) (spec_CompareRows_s g27) (sd 3 rfl (evdn (kJ2 h _ (okr rfl))))))
      ·exact qgd 42 g21 rfl (sd 15 rfl (evdn (kJ2 h _ (okr rfl))))
   ·exact qF rfl g8 (ls_exit (kXB1 (Option.some.inj h) _ trivial))
def spec_IsValidDatabase_J2 (rec : Int → Option (Sum (Unit) (Bool))) (y1 : Int) (x8 : Bool) : Option (Sum (Unit) (Bool)) := cond x8 (some (.inr false)) (rec (IntKind.i64.wrap (y1 + 1)))
def spec_IsValidDatabase_B1 (a0 : List Y207) (rec : Int → Option (Sum (Unit) (Bool))) (y1 : Int) : Option (Sum (Unit) (Bool)) := cond (decide (y1 < (List.length a0 : Int))) (obind (geti a0 y1) fun e5 => obind (spec_IsValidName e5.1) fun v10 => cond (!v10) (spec_IsValidDatabase_J2 rec y1 true) (cond (decide (0 < y1)) (obind (geti a0 (IntKind.i64.wrap (y1 - 1))) fun e14 => cond (!Op.bytesLess e14.1 e5.1) (spec_IsValidDatabase_J2 rec y1 true) (obind (spec_IsValidRelation e5.2) fun v17 => cond (!v17) (spec_IsValidDatabase_J2 rec y1 true) (cond (decide (16 < (List.length e5.2.2 : Int))) (spec_IsValidDatabase_J2 rec y1 true) (spec_IsValidDatabase_J2 rec y1 (decide (e5.2.1 < 1)))))) (obind (spec_IsValidRelation e5.2) fun v21 => cond (!v21) (spec_IsValidDatabase_J2 rec y1 true) (cond (decide (16 < (List.length e5.2.2 : Int))) (spec_IsValidDatabase_J2 rec y1 true) (spec_IsValidDatabase_J2 rec y1 (decide (e5.2.1 < 1))))))) (some (.inl ()))
def spec_IsValidDatabase (a0 : List Y207) : Option (Bool) := obind (loopF (spec_IsValidDatabase_B1 a0) fz 0) fun o1 => (match o1 with
  | .inl _ => (some (decide ((List.length a0 : Int) ≤ 6)))
  | .inr r => some r)
theorem spec_IsValidDatabase_s {a0 : List Y207} {r : Bool} (h : spec_IsValidDatabase a0 = some r) : SoundAt Try.prog 135 [.agg [dL c208_dd a0]] (.bool r) := by
 unfold spec_IsValidDatabase at h
 refine st lit135 rfl (rn 1 rfl (ls_seq_k fun K1 hK1 => rn 1 rfl ?_))
 obtain ⟨o1, hl, hr1⟩ := ob_some h
 have kXB1 : (.inl ()) = o1 → Jn K1 [(1, .box [dL c208_dd a0])] := by
  intro h σ' hk
  subst h
  replace h := hr1
  try dsimp only at h
  exact hK1 _ (lh hk rfl (rn 1 rfl (ls_ret ((by cases h; exact ⟨.inl rfl, rfl⟩)))))
 refine ls_rec (fun (y1 : Int) => [(1, .box [dL c208_dd a0]), (3, nI y1)]) _ _ _ _ hl (okr rfl) (fun _ => rfl) ?_
 rintro m y1 N h hN
 unfold spec_IsValidDatabase_B1 at h
 refine ls_seq_k fun K2 hK2 => rn 1 rfl ?_
 rcases cond_some h with ⟨g3, h⟩ | ⟨g3, h⟩
 ·refine qT rfl g3 (ls_skip (hK2 _ (ls_seq_k fun K4 hK4 => ls_blk (rs (sp 3 rfl (?_))))))
  obtain ⟨e5, g6, h⟩ := ob_some h
  refine qI rfl zc208_dd g6 (sp 3 rfl (evn (rdk (by kernel_rfl) fun K7 hK7 => ?_)))
  have kJ2 : ∀ {x8 : Bool}, spec_IsValidDatabase_J2 (loopF (spec_IsValidDatabase_B1 a0) m) y1 x8 = some o1 → Jn K7 [(1, .box [dL c208_dd a0]), (3, nI y1), (55, .bool x8)] := by
   intro x8 h σ' hk
   unfold spec_IsValidDatabase_J2 at h
   refine hK7 _ (lh hk rfl ?_)
   rcases cond_some h with ⟨g9, h⟩ | ⟨g9, h⟩
   ·exact qT rfl g9 (rn 1 rfl (ls_ret ((by cases h; cases hr1; exact ⟨.inl rfl, rfl⟩))))
   ·exact qF rfl g9 (ls_skip (hK4 _ (rg (sp 3 rfl (evn (hN _ _ h (okr rfl)))))))
  refine sd 2 rfl (?_)
  obtain ⟨v10, g11, h⟩ := ob_some h
  refine ed rfl (qC (qs rfl eran) (spec_IsValidName_s g11) (sd 2 rfl (?_)))
  rcases cond_some h with ⟨g12, h⟩ | ⟨g12, h⟩
  ·exact qgd 21 g12 rfl (sd 34 rfl (evdn (kJ2 h _ (okr rfl))))
  ·refine qgd 21 g12 rfl (sd 3 rfl (?_))
   rcases cond_some h with ⟨g13, h⟩ | ⟨g13, h⟩
   ·refine qgd 24 g13 rfl (sd 4 rfl (?_))
    obtain ⟨e14, g15, h⟩ := ob_some h
    refine ed rfl (oGR rfl rfl (qI rfl zc208_dd g15 (sd 8 rfl (?_))))
    rcases cond_some h with ⟨g16, h⟩ | ⟨g16, h⟩
    ·exact qgd 37 g16 rfl (sd 18 rfl (evdn (kJ2 h _ (okr rfl))))
    ·refine qgd 37 g16 rfl (sd 2 rfl (?_))
     obtain ⟨v17, g18, h⟩ := ob_some h
     refine ed rfl (oGR rfl rfl (qC (qa rfl (erg (erc rfl (erc (erD ec25_d _) rfl))) eran) (spec_IsValidRelation_s g18) (sd 3 rfl (?_))))
     rcases cond_some h with ⟨g19, h⟩ | ⟨g19, h⟩
     ·exact qgd 43 g19 rfl (sd 12 rfl (evdn (kJ2 h _ (okr rfl))))
     ·refine qgd 43 g19 rfl (sd 7 rfl (?_))
      rcases cond_some h with ⟨g20, h⟩ | ⟨g20, h⟩
      ·exact qgd 50 g20 rfl (sd 5 rfl (evdn (kJ2 h _ (okr rfl))))
      ·exact qgd 50 g20 rfl (sd 5 rfl (evdn (kJ2 h _ (okr rfl))))
   ·refine qgd 24 g13 rfl (sd 15 rfl (?_))
    obtain ⟨v21, g22, h⟩ := ob_some h
    refine ed rfl (oGR rfl rfl (qC (qa rfl (erg (erc rfl (erc (erD ec25_d _) rfl))) eran) (spec_IsValidRelation_s g22) (sd 3 rfl (?_))))
    rcases cond_some h with ⟨g23, h⟩ | ⟨g23, h⟩
    ·exact qgd 43 g23 rfl (sd 12 rfl (evdn (kJ2 h _ (okr rfl))))
    ·refine qgd 43 g23 rfl (sd 7 rfl (?_))
     rcases cond_some h with ⟨g24, h⟩ | ⟨g24, h⟩
     ·exact qgd 50 g24 rfl (sd 5 rfl (evdn (kJ2 h _ (okr rfl))))
     ·exact qgd 50 g24 rfl (sd 5 rfl (evdn (kJ2 h _ (okr rfl))))
 ·exact qF rfl g3 (ls_exit (kXB1 (Option.some.inj h) _ (okr rfl)))
def spec_l5Copy_B1 (a0 : Y127) (rec : ((List (List Int)) × Int) → Option ((List (List Int)))) (s : (List (List Int)) × Int) : Option ((List (List Int))) := match s with
  | (y1, y2) => cond (decide (y2 < (List.length a0.2 : Int))) (obind (geti a0.2 y2) fun e6 => chk (List.length ([] : List Int) + List.length e6 ≤ lim) (chk (List.length y1 + List.length ([([] : List Int) ++ e6]) ≤ lim) (rec ((y1 ++ ([([] : List Int) ++ e6])), (IntKind.i64.wrap (y2 + 1)))))) (some y1)
def spec_l5Copy (a0 : Y127) : Option (Y127) := obind (loopF (spec_l5Copy_B1 a0) fz (([] : List (List Int)), 0)) fun z2 => some (a0.1, z2)
theorem spec_l5Copy_s {a0 : Y127} {r : Y127} (h : spec_l5Copy a0 = some r) : SoundAt Try.prog 172 [.agg (c128_dd a0)] (.agg (c128_oo r)) := by
 unfold spec_l5Copy at h
 refine st lit172 rfl (rn 2 rfl (ls_seq_k fun K1 hK1 => rn 1 rfl ?_))
 obtain ⟨o1, hl, hr1⟩ := ob_some h
 have kXB1 : ∀ {z2 : List (List Int)}, z2 = o1 → Jn K1 [(2, .box [nI 0, oL 25 c25_o []]), (3, .box [nI a0.1, oL 25 c25_o z2])] := by
  intro z2 h σ' hk
  subst h
  replace h := hr1
  try dsimp only at h
  exact hK1 _ (lh hk rfl (rn 1 rfl (ls_ret ((by cases h; exact ⟨.inl rfl, rfl⟩)))))
 refine ls_rec (fun (s : (List (List Int)) × Int) => match s with | (y1, y2) => [(1, .box [nI a0.1, dL c25_d a0.2]), (2, .box [nI 0, oL 25 c25_o []]), (3, .box [nI a0.1, oL 25 c25_o y1]), (4, nI y2)]) _ _ _ _ hl (okr rfl) (fun _ => rfl) ?_
 rintro m ⟨y1, y2⟩ N h hN
 unfold spec_l5Copy_B1 at h
 dsimp only at h
 refine ls_seq_k fun K3 hK3 => rn 1 rfl ?_
 rcases cond_some h with ⟨g4, h⟩ | ⟨g4, h⟩
 ·refine qT rfl g4 (ls_skip (hK3 _ (ls_seq_k fun K5 hK5 => ls_blk (rgd (by kernel_rfl) (sd 2 rfl (ed rfl (qBs ci64 [] rfl rfl rfl zci64 (sd 3 rfl (?_)))))))))
  obtain ⟨e6, g7, h⟩ := ob_some h
  refine ed rfl (qI rfl zc25_d g7 (sd 1 rfl (?_)))
  obtain ⟨g8, h⟩ := chk_some h
  refine ed rfl (qA ci64 ([] : List Int) e6 rfl rfl (flat_len zci64 e6) (map_dg (fun _ => rfl) _) g8 (ed rfl (qBs c25_o [([] : List Int) ++ e6] rfl rfl rfl zc25_o (?_))))
  obtain ⟨g9, h⟩ := chk_some h
  exact ed rfl (qA c25_o y1 ([([] : List Int) ++ e6]) rfl rfl (flat_len zc25_o ([([] : List Int) ++ e6])) rfl g9 (sd 2 rfl (evdn (hK5 _ (rg (sp 3 rfl (evn (hN _ _ h (okr rfl)))))))))
 ·exact qF rfl g4 (ls_exit (kXB1 (Option.some.inj h) _ (okr rfl)))
def spec_LookupRelation_B1 (a0 : List Y207) (a1 : List UInt8) (rec : Int → Option (Sum (Unit) (Y127 × Bool))) (y1 : Int) : Option (Sum (Unit) (Y127 × Bool)) := cond (decide (y1 < (List.length a0 : Int))) (obind (spec_IsValidDatabase a0) fun v4 => cond v4 (obind (geti a0 y1) fun e8 => cond (e8.1 == a1) (obind (geti a0 y1) fun e11 => obind (spec_l5Copy e11.2) fun v13 => some (.inr (v13, true))) (rec (IntKind.i64.wrap (y1 + 1)))) (some (.inl ()))) (some (.inl ()))
def spec_LookupRelation (a0 : List Y207) (a1 : List UInt8) : Option (Y127 × Bool) := obind (loopF (spec_LookupRelation_B1 a0 a1) fz 0) fun o1 => (match o1 with
  | .inl _ => (some ((0, []), false))
  | .inr r => some r)
theorem spec_LookupRelation_s {a0 : List Y207} {a1 : List UInt8} {r : Y127 × Bool} (h : spec_LookupRelation a0 a1 = some r) : SoundAt Try.prog 73 [.agg [dL c208_dd a0], .str a1] (.tup [.agg (c128_oo r.1), .bool r.2]) := by
 unfold spec_LookupRelation at h
 refine st lit73 rfl (rn 1 rfl (ls_seq_k fun K1 hK1 => rn 1 rfl ?_))
 obtain ⟨o1, hl, hr1⟩ := ob_some h
 have kXB1 : (.inl ()) = o1 → Jn K1 [(4, .box [nI 0, oL 25 c25_o []])] := by
  intro h σ' hk
  subst h
  replace h := hr1
  try dsimp only at h
  exact hK1 _ (lh hk rfl (rn 1 rfl (ls_ret ((by cases h; exact ⟨.inl rfl, rfl⟩)))))
 refine ls_rec (fun (y1 : Int) => [(1, .str a1), (2, .box [dL c208_dd a0]), (4, .box [nI 0, oL 25 c25_o []]), (6, nI y1)]) _ _ _ _ hl (okr rfl) (fun _ => rfl) ?_
 rintro m y1 N h hN
 unfold spec_LookupRelation_B1 at h
 refine ls_seq_k fun K2 hK2 => rs (sp 6 rfl (?_))
 rcases cond_some h with ⟨g3, h⟩ | ⟨g3, h⟩
 ·refine qg 12 g3 rfl (sp 1 rfl (?_))
  obtain ⟨v4, g5, h⟩ := ob_some h
  refine oGR rfl rfl (qC (qa rfl (erg (erc (erD ec208_dd _) rfl)) eran) (spec_IsValidDatabase_s g5) (sp 1 rfl (evn ?_)))
  rcases cond_some h with ⟨g6, h⟩ | ⟨g6, h⟩
  ·refine qT rfl g6 (ls_skip (hK2 _ (ls_seq_k fun K7 hK7 => ls_blk (rs (sp 3 rfl (?_))))))
   obtain ⟨e8, g9, h⟩ := ob_some h
   refine qI rfl zc208_dd g9 (sp 4 rfl (evn ?_))
   rcases cond_some h with ⟨g10, h⟩ | ⟨g10, h⟩
   ·refine qT rfl g10 (rs (sp 3 rfl (?_)))
    obtain ⟨e11, g12, h⟩ := ob_some h
    refine qI rfl zc208_dd g12 (sp 2 rfl (?_))
    obtain ⟨v13, g14, h⟩ := ob_some h
    exact qC (qa rfl (erg (erc rfl (erc (erD ec25_d _) rfl))) eran) (spec_l5Copy_s g14) (sp 2 rfl (evn (ls_ret ((by cases h; cases hr1; exact ⟨.inl rfl, rfl⟩)))))
   ·exact qF rfl g10 (ls_skip (hK7 _ (qk [1, 2, 4, 6] rfl (rg (sp 3 rfl (evn (hN _ _ h (okr rfl))))))))
  ·exact qF rfl g6 (ls_exit (kXB1 (Option.some.inj h) _ (okr rfl)))
 ·exact qg 12 g3 rfl (sp 3 rfl (evn (qF rfl rfl (ls_exit (kXB1 (Option.some.inj h) _ (okr rfl))))))
def spec_ContainsVariable_B1 (a0 : Y194) (a1 : Int) (rec : Int → Option (Sum (Unit) (Bool))) (y1 : Int) : Option (Sum (Unit) (Bool)) := cond (decide (y1 < (List.length a0.2 : Int))) (obind (geti a0.2 y1) fun e5 => cond (e5 == a1) (some (.inr true)) (rec (IntKind.i64.wrap (y1 + 1)))) (some (.inl ()))
def spec_ContainsVariable (a0 : Y194) (a1 : Int) : Option (Bool) := obind (loopF (spec_ContainsVariable_B1 a0 a1) fz 0) fun o1 => (match o1 with
  | .inl _ => (some false)
  | .inr r => some r)
theorem spec_ContainsVariable_s {a0 : Y194} {a1 : Int} {r : Bool} (h : spec_ContainsVariable a0 a1 = some r) : SoundAt Try.prog 157 [.agg (c195_d a0), nI a1] (.bool r) := by
 unfold spec_ContainsVariable at h
 refine st lit157 rfl (rn 1 rfl (ls_seq_k fun K1 hK1 => rn 1 rfl ?_))
 obtain ⟨o1, hl, hr1⟩ := ob_some h
 have kXB1 : (.inl ()) = o1 → Jn K1 [] := by
  intro h σ' hk
  subst h
  replace h := hr1
  try dsimp only at h
  exact hK1 _ (lh hk rfl (rn 1 rfl (ls_ret ((by cases h; exact ⟨.inl rfl, rfl⟩)))))
 refine ls_rec (fun (y1 : Int) => [(1, nI a1), (2, .box [.str a0.1, dL ci64 a0.2]), (5, nI y1)]) _ _ _ _ hl (okr rfl) (fun _ => rfl) ?_
 rintro m y1 N h hN
 unfold spec_ContainsVariable_B1 at h
 refine ls_seq_k fun K2 hK2 => rn 1 rfl ?_
 rcases cond_some h with ⟨g3, h⟩ | ⟨g3, h⟩
 ·refine qT rfl g3 (ls_skip (hK2 _ (ls_seq_k fun K4 hK4 => ls_blk (rs (sp 3 rfl (?_))))))
  obtain ⟨e5, g6, h⟩ := ob_some h
  refine qI rfl zci64 g6 (sp 3 rfl (evn ?_))
  rcases cond_some h with ⟨g7, h⟩ | ⟨g7, h⟩
  ·exact qT rfl g7 (rn 1 rfl (ls_ret ((by cases h; cases hr1; exact ⟨.inl rfl, rfl⟩))))
  ·exact qF rfl g7 (ls_skip (hK4 _ (rg (sp 3 rfl (evn (hN _ _ h (okr rfl)))))))
 ·exact qF rfl g3 (ls_exit (kXB1 (Option.some.inj h) _ trivial))
def spec_l7Find_B1 (a0 : List Int) (a1 : Int) (rec : Int → Option (Sum (Unit) (Int))) (y1 : Int) : Option (Sum (Unit) (Int)) := cond (decide (y1 < (List.length a0 : Int))) (obind (geti a0 y1) fun e5 => cond (e5 == a1) (some (.inr y1)) (rec (IntKind.i64.wrap (y1 + 1)))) (some (.inl ()))
def spec_l7Find (a0 : List Int) (a1 : Int) : Option (Int) := obind (loopF (spec_l7Find_B1 a0 a1) fz 0) fun o1 => (match o1 with
  | .inl _ => (some (-1))
  | .inr r => some r)
theorem spec_l7Find_s {a0 : List Int} {a1 : Int} {r : Int} (h : spec_l7Find a0 a1 = some r) : SoundAt Try.prog 205 [dL ci64 a0, nI a1] (nI r) := by
 unfold spec_l7Find at h
 refine st lit205 rfl (rn 1 rfl (ls_seq_k fun K1 hK1 => rn 1 rfl ?_))
 obtain ⟨o1, hl, hr1⟩ := ob_some h
 have kXB1 : (.inl ()) = o1 → Jn K1 [] := by
  intro h σ' hk
  subst h
  replace h := hr1
  try dsimp only at h
  exact hK1 _ (lh hk rfl (rn 1 rfl (ls_ret ((by cases h; exact ⟨.inl rfl, rfl⟩)))))
 refine ls_rec (fun (y1 : Int) => [(0, dL ci64 a0), (1, nI a1), (5, nI y1)]) _ _ _ _ hl (okr rfl) (fun _ => rfl) ?_
 rintro m y1 N h hN
 unfold spec_l7Find_B1 at h
 refine ls_seq_k fun K2 hK2 => rn 1 rfl ?_
 rcases cond_some h with ⟨g3, h⟩ | ⟨g3, h⟩
 ·refine qT rfl g3 (ls_skip (hK2 _ (ls_seq_k fun K4 hK4 => ls_blk (rs (sp 2 rfl (?_))))))
  obtain ⟨e5, g6, h⟩ := ob_some h
  refine qI rfl zci64 g6 (sp 3 rfl (evn ?_))
  rcases cond_some h with ⟨g7, h⟩ | ⟨g7, h⟩
  ·exact qT rfl g7 (rn 1 rfl (ls_ret ((by cases h; cases hr1; exact ⟨.inl rfl, rfl⟩))))
  ·exact qF rfl g7 (ls_skip (hK4 _ (rg (sp 3 rfl (evn (hN _ _ h (okr rfl)))))))
 ·exact qF rfl g3 (ls_exit (kXB1 (Option.some.inj h) _ trivial))
def spec_IsValidQuery_B2 (a0 : Y91) (y2 : Int) (rec : Int → Option (Sum (Unit) (Bool))) (y4 : Int) : Option (Sum (Unit) (Bool)) := obind (geti a0.2.1 y2) fun e25 => cond (decide (y4 < (List.length e25.2 : Int))) (obind (geti a0.2.1 y2) fun e29 => obind (geti e29.2 y4) fun e31 => obind (spec_l1In e31 0 (IntKind.i64.wrap (a0.1 - 1))) fun v33 => cond (!v33) (some (.inr false)) (rec (IntKind.i64.wrap (y4 + 1)))) (some (.inl ()))
def spec_IsValidQuery_B1 (a0 : Y91) (rec : Int → Option (Sum (Unit) (Bool))) (y2 : Int) : Option (Sum (Unit) (Bool)) := cond (decide (y2 < (List.length a0.2.1 : Int))) (obind (geti a0.2.1 y2) fun e14 => obind (spec_IsValidName e14.1) fun v16 => cond (!v16) (some (.inr false)) (obind (geti a0.2.1 y2) fun e19 => obind (spec_l1In (List.length e19.2 : Int) 1 5) fun v21 => cond (!v21) (some (.inr false)) (obind (loopF (spec_IsValidQuery_B2 a0 y2) fz 0) fun o2 => (match o2 with
  | .inl _ => (rec (IntKind.i64.wrap (y2 + 1)))
  | .inr r => some (.inr r))))) (some (.inl ()))
def spec_IsValidQuery_J5 (rec : (Bool × Int) → Option (Bool)) (y11 : Int) (x45 : Bool) : Option (Bool) := rec (x45, (IntKind.i64.wrap (y11 + 1)))
def spec_IsValidQuery_B4 (a0 : Y91) (y7 : Int) (rec : (Bool × Int) → Option (Bool)) (s : Bool × Int) : Option (Bool) := match s with
  | (y10, y11) => cond (decide (y11 < (List.length a0.2.1 : Int))) (cond y10 (spec_IsValidQuery_J5 rec y11 true) (obind (geti a0.2.1 y11) fun e47 => obind (spec_ContainsVariable e47 y7) fun v49 => spec_IsValidQuery_J5 rec y11 v49)) (some y10)
def spec_IsValidQuery_B3 (a0 : Y91) (rec : Int → Option (Sum (Unit) (Bool))) (y7 : Int) : Option (Sum (Unit) (Bool)) := cond (decide (y7 < a0.1)) (obind (loopF (spec_IsValidQuery_B4 a0 y7) fz (false, 0)) fun z41 => cond (!z41) (some (.inr false)) (rec (IntKind.i64.wrap (y7 + 1)))) (some (.inl ()))
def spec_IsValidQuery_B6 (a0 : Y91) (rec : Int → Option (Sum (Unit) (Bool))) (y12 : Int) : Option (Sum (Unit) (Bool)) := cond (decide (y12 < (List.length a0.2.2 : Int))) (obind (geti a0.2.2 y12) fun e56 => obind (spec_l1In e56 0 (IntKind.i64.wrap (a0.1 - 1))) fun v58 => cond (!v58) (some (.inr false)) (chk ((0 : Int) ≤ 0 ∧ 0 ≤ y12 ∧ y12 ≤ (List.length a0.2.2 : Int)) (obind (geti a0.2.2 y12) fun e62 => obind (spec_l7Find (subl a0.2.2 0 y12) e62) fun v64 => cond (decide (0 ≤ v64)) (some (.inr false)) (rec (IntKind.i64.wrap (y12 + 1)))))) (some (.inl ()))
def spec_IsValidQuery (a0 : Y91) : Option (Bool) := obind (spec_l1In a0.1 1 5) fun v2 => cond (!v2) (some false) (obind (spec_l1In (List.length a0.2.1 : Int) 1 4) fun v5 => cond (!v5) (some false) (cond (decide (a0.1 < (List.length a0.2.2 : Int))) (some false) (obind (loopF (spec_IsValidQuery_B1 a0) fz 0) fun o1 => (match o1 with
  | .inl _ => (obind (loopF (spec_IsValidQuery_B3 a0) fz 0) fun o3 => (match o3 with
  | .inl _ => (obind (loopF (spec_IsValidQuery_B6 a0) fz 0) fun o6 => (match o6 with
  | .inl _ => (some true)
  | .inr r => some r))
  | .inr r => some r))
  | .inr r => some r))))
theorem spec_IsValidQuery_s {a0 : Y91} {r : Bool} (h : spec_IsValidQuery a0 = some r) : SoundAt Try.prog 200 [.agg (c92_ddd a0)] (.bool r) := by
 unfold spec_IsValidQuery at h
 refine st lit200 rfl (rn 1 rfl (ls_seq_k fun K1 hK1 => rs (sp 2 rfl (?_))))
 obtain ⟨v2, g3, h⟩ := ob_some h
 refine qC (qs rfl (qs rfl (qs rfl eran))) (spec_l1In_s g3) (sp 2 rfl (?_))
 rcases cond_some h with ⟨g4, h⟩ | ⟨g4, h⟩
 ·exact qg 13 g4 rfl (sp 14 rfl (evn (qT rfl rfl (rn 1 rfl (ls_ret ((by cases h; exact ⟨.inl rfl, rfl⟩)))))))
 ·refine qg 13 g4 rfl (sp 3 rfl (?_))
  obtain ⟨v5, g6, h⟩ := ob_some h
  refine oGR rfl rfl (qC (qs rfl (qs rfl (qs rfl eran))) (spec_l1In_s g6) (sp 3 rfl (?_)))
  rcases cond_some h with ⟨g7, h⟩ | ⟨g7, h⟩
  ·exact qg 20 g7 rfl (sp 7 rfl (evn (qk [1, 27] rfl (qT rfl rfl (rn 1 rfl (ls_ret ((by cases h; exact ⟨.inl rfl, rfl⟩))))))))
  ·refine qg 20 g7 rfl (sp 7 rfl (evn ?_))
   rcases cond_some h with ⟨g8, h⟩ | ⟨g8, h⟩
   ·exact qT rfl g8 (rn 1 rfl (ls_ret ((by cases h; exact ⟨.inl rfl, rfl⟩))))
   ·refine qF rfl g8 (ls_skip (hK1 _ (ls_seq_k fun K9 hK9 => rn 1 rfl ?_)))
    obtain ⟨o1, hl, hr1⟩ := ob_some h
    have kXB1 : (.inl ()) = o1 → Jn K9 [(1, .box [nI a0.1, dL c195_d a0.2.1, dL ci64 a0.2.2])] := by
     intro h σ' hk
     subst h
     replace h := hr1
     try dsimp only at h
     refine hK9 _ (lh hk rfl (ls_seq_k fun K36 hK36 => rn 1 rfl ?_))
     obtain ⟨o3, hl, hr3⟩ := ob_some h
     have kXB3 : (.inl ()) = o3 → Jn K36 [(1, .box [nI a0.1, dL c195_d a0.2.1, dL ci64 a0.2.2])] := by
      intro h σ' hk
      subst h
      replace h := hr3
      try dsimp only at h
      refine hK36 _ (lh hk rfl (ls_seq_k fun K52 hK52 => rn 1 rfl ?_))
      obtain ⟨o6, hl, hr6⟩ := ob_some h
      have kXB6 : (.inl ()) = o6 → Jn K52 [] := by
       intro h σ' hk
       subst h
       replace h := hr6
       try dsimp only at h
       exact hK52 _ (lh hk rfl (rn 1 rfl (ls_ret ((by cases h; exact ⟨.inl rfl, rfl⟩)))))
      refine ls_rec (fun (y12 : Int) => [(1, .box [nI a0.1, dL c195_d a0.2.1, dL ci64 a0.2.2]), (8, nI y12)]) _ _ _ _ hl (okr rfl) (fun _ => rfl) ?_
      rintro m y12 N h hN
      unfold spec_IsValidQuery_B6 at h
      refine ls_seq_k fun K53 hK53 => rn 1 rfl ?_
      rcases cond_some h with ⟨g54, h⟩ | ⟨g54, h⟩
      ·refine qT rfl g54 (ls_skip (hK53 _ (ls_seq_k fun K55 hK55 => ls_blk (rd (by kernel_rfl) (sd 3 rfl (?_))))))
       obtain ⟨e56, g57, h⟩ := ob_some h
       refine ed rfl (qI rfl zci64 g57 (sd 4 rfl (?_)))
       obtain ⟨v58, g59, h⟩ := ob_some h
       refine ed rfl (qC (qs rfl (qs rfl (qs rfl eran))) (spec_l1In_s g59) (sd 2 rfl (?_)))
       rcases cond_some h with ⟨g60, h⟩ | ⟨g60, h⟩
       ·exact qgd 121 g60 rfl (sd 12 rfl (evdn (qT rfl rfl (rn 1 rfl (qk [2] rfl (ls_ret ((by cases h; cases hr6; exact ⟨.inl rfl, rfl⟩))))))))
       ·refine qgd 121 g60 rfl (sd 3 rfl (?_))
        obtain ⟨g61, h⟩ := chk_some h
        refine ed rfl (oGR rfl rfl (qSl rfl zci64 g61 (sd 3 rfl (?_))))
        obtain ⟨e62, g63, h⟩ := ob_some h
        refine ed rfl (oGR rfl rfl (qI rfl zci64 g63 (sd 1 rfl (?_))))
        obtain ⟨v64, g65, h⟩ := ob_some h
        refine ed rfl (oGR rfl rfl (qC (qa rfl (erD eci64 _) (qs rfl eran)) (spec_l7Find_s g65) (sd 2 rfl (evdn ?_))))
        rcases cond_some h with ⟨g66, h⟩ | ⟨g66, h⟩
        ·exact qT rfl g66 (rn 1 rfl (ls_ret ((by cases h; cases hr6; exact ⟨.inl rfl, rfl⟩))))
        ·exact qF rfl g66 (ls_skip (hK55 _ (rg (sp 3 rfl (evn (hN _ _ h (okr rfl)))))))
      ·exact qF rfl g54 (ls_exit (kXB6 (Option.some.inj h) _ trivial))
     refine ls_rec (fun (y7 : Int) => [(1, .box [nI a0.1, dL c195_d a0.2.1, dL ci64 a0.2.2]), (5, nI y7)]) _ _ _ _ hl (okr rfl) (fun _ => rfl) ?_
     rintro m y7 N h hN
     unfold spec_IsValidQuery_B3 at h
     refine ls_seq_k fun K37 hK37 => rn 1 rfl ?_
     rcases cond_some h with ⟨g38, h⟩ | ⟨g38, h⟩
     ·refine qT rfl g38 (ls_skip (hK37 _ (ls_seq_k fun K39 hK39 => ls_blk (rn 1 rfl (ls_seq_k fun K40 hK40 => rn 1 rfl ?_)))))
      obtain ⟨o4, hl, hr4⟩ := ob_some h
      have kXB4 : ∀ {z41 : Bool}, z41 = o4 → Jn K40 [(1, .box [nI a0.1, dL c195_d a0.2.1, dL ci64 a0.2.2]), (5, nI y7), (6, .bool z41)] := by
       intro z41 h σ' hk
       subst h
       replace h := hr4
       try dsimp only at h
       refine hK40 _ (lh hk rfl (rn 1 rfl ?_))
       rcases cond_some h with ⟨g51, h⟩ | ⟨g51, h⟩
       ·exact qT rfl g51 (rn 1 rfl (ls_ret ((by cases h; cases hr3; exact ⟨.inl rfl, rfl⟩))))
       ·exact qF rfl g51 (ls_skip (hK39 _ (rg (sp 3 rfl (evn (hN _ _ h (okr rfl)))))))
      refine ls_rec (fun (s : Bool × Int) => match s with | (y10, y11) => [(1, .box [nI a0.1, dL c195_d a0.2.1, dL ci64 a0.2.2]), (5, nI y7), (6, .bool y10), (7, nI y11)]) _ _ _ _ hl (okr rfl) (fun _ => rfl) ?_
      rintro m ⟨y10, y11⟩ N h hN
      unfold spec_IsValidQuery_B4 at h
      dsimp only at h
      refine ls_seq_k fun K42 hK42 => rn 1 rfl ?_
      rcases cond_some h with ⟨g43, h⟩ | ⟨g43, h⟩
      ·refine qT rfl g43 (ls_skip (hK42 _ (ls_seq_k fun K44 hK44 => ls_blk ?_)))
       have kJ5 : ∀ {x45 : Bool}, spec_IsValidQuery_J5 (loopF (spec_IsValidQuery_B4 a0 y7) m) y11 x45 = some o4 → Jn K44 [(1, .box [nI a0.1, dL c195_d a0.2.1, dL ci64 a0.2.2]), (5, nI y7), (6, .bool x45), (7, nI y11)] := by
        intro x45 h σ' hk
        unfold spec_IsValidQuery_J5 at h
        exact hK44 _ (lh hk rfl (rg (sp 3 rfl (evn (hN _ _ h (okr rfl))))))
       refine rg (sp 2 rfl (?_))
       rcases cond_some h with ⟨g46, h⟩ | ⟨g46, h⟩
       ·exact qg 93 g46 rfl (sp 9 rfl (evn (kJ5 h _ (okr rfl))))
       ·refine qg 93 g46 rfl (sp 3 rfl (?_))
        obtain ⟨e47, g48, h⟩ := ob_some h
        refine oGR rfl rfl (qI rfl zc195_d g48 (sp 2 rfl (?_)))
        obtain ⟨v49, g50, h⟩ := ob_some h
        exact oGR rfl rfl (qC (qa rfl (erg (erc rfl (erc (erD eci64 _) rfl))) (qs rfl eran)) (spec_ContainsVariable_s g50) (sp 2 rfl (evn (kJ5 h _ (okr rfl)))))
      ·exact qF rfl g43 (ls_exit (kXB4 (Option.some.inj h) _ (okr rfl)))
     ·exact qF rfl g38 (ls_exit (kXB3 (Option.some.inj h) _ (okr rfl)))
    refine ls_rec (fun (y2 : Int) => [(1, .box [nI a0.1, dL c195_d a0.2.1, dL ci64 a0.2.2]), (3, nI y2)]) _ _ _ _ hl (okr rfl) (fun _ => rfl) ?_
    rintro m y2 N h hN
    unfold spec_IsValidQuery_B1 at h
    refine ls_seq_k fun K10 hK10 => rn 1 rfl ?_
    rcases cond_some h with ⟨g11, h⟩ | ⟨g11, h⟩
    ·refine qT rfl g11 (ls_skip (hK10 _ (ls_seq_k fun K12 hK12 => ls_blk (ls_seq_k fun K13 hK13 => rs (sp 3 rfl (?_))))))
     obtain ⟨e14, g15, h⟩ := ob_some h
     refine qI rfl zc195_d g15 (sp 2 rfl (?_))
     obtain ⟨v16, g17, h⟩ := ob_some h
     refine qC (qs rfl eran) (spec_IsValidName_s g17) (sp 2 rfl (?_))
     rcases cond_some h with ⟨g18, h⟩ | ⟨g18, h⟩
     ·exact qg 43 g18 rfl (sp 10 rfl (evn (qT rfl rfl (rn 1 rfl (ls_ret ((by cases h; cases hr1; exact ⟨.inl rfl, rfl⟩)))))))
     ·refine qg 43 g18 rfl (sp 3 rfl (?_))
      obtain ⟨e19, g20, h⟩ := ob_some h
      refine oGR rfl rfl (qI rfl zc195_d g20 (sp 3 rfl (?_)))
      obtain ⟨v21, g22, h⟩ := ob_some h
      refine oGR rfl rfl (qC (qs rfl (qs rfl (qs rfl eran))) (spec_l1In_s g22) (sp 2 rfl (evn (qk [1, 3, 53] rfl ?_))))
      rcases cond_some h with ⟨g23, h⟩ | ⟨g23, h⟩
      ·exact qT rfl g23 (rn 1 rfl (ls_ret ((by cases h; cases hr1; exact ⟨.inl rfl, rfl⟩))))
      ·refine qF rfl g23 (ls_skip (hK13 _ (rn 1 rfl ?_)))
       obtain ⟨o2, hl, hr2⟩ := ob_some h
       have kXB2 : (.inl ()) = o2 → Jn K12 [(1, .box [nI a0.1, dL c195_d a0.2.1, dL ci64 a0.2.2]), (3, nI y2)] := by
        intro h σ' hk
        subst h
        replace h := hr2
        try dsimp only at h
        exact hK12 _ (lh hk rfl (rg (sp 3 rfl (evn (hN _ _ h (okr rfl))))))
       refine ls_rec (fun (y4 : Int) => [(1, .box [nI a0.1, dL c195_d a0.2.1, dL ci64 a0.2.2]), (3, nI y2), (4, nI y4)]) _ _ _ _ hl (okr rfl) (fun _ => rfl) ?_
       rintro m y4 N h hN
       unfold spec_IsValidQuery_B2 at h
       refine ls_seq_k fun K24 hK24 => rs (sp 4 rfl (?_))
       obtain ⟨e25, g26, h⟩ := ob_some h
       refine qI rfl zc195_d g26 (sp 4 rfl (evn ?_))
       rcases cond_some h with ⟨g27, h⟩ | ⟨g27, h⟩
       ·refine qT rfl g27 (ls_skip (hK24 _ (ls_seq_k fun K28 hK28 => ls_blk (rd (by kernel_rfl) (sd 3 rfl (?_))))))
        obtain ⟨e29, g30, h⟩ := ob_some h
        refine ed rfl (qI rfl zc195_d g30 (sd 3 rfl (?_)))
        obtain ⟨e31, g32, h⟩ := ob_some h
        refine ed rfl (qI rfl zci64 g32 (sd 4 rfl (?_)))
        obtain ⟨v33, g34, h⟩ := ob_some h
        refine ed rfl (qC (qs rfl (qs rfl (qs rfl eran))) (spec_l1In_s g34) (sd 1 rfl (evdn ?_)))
        rcases cond_some h with ⟨g35, h⟩ | ⟨g35, h⟩
        ·exact qT rfl g35 (rn 1 rfl (ls_ret ((by cases h; cases hr2; cases hr1; exact ⟨.inl rfl, rfl⟩))))
        ·exact qF rfl g35 (ls_skip (hK28 _ (qk [1, 3, 4] rfl (rg (sp 3 rfl (evn (hN _ _ h (okr rfl))))))))
       ·exact qF rfl g27 (ls_exit (kXB2 (Option.some.inj h) _ (okr rfl)))
    ·exact qF rfl g11 (ls_exit (kXB1 (Option.some.inj h) _ (okr rfl)))
def spec_IsQueryFor_B1 (a0 : List Y207) (a1 : Y91) (rec : Int → Option (Sum (Unit) (Bool))) (y1 : Int) : Option (Sum (Unit) (Bool)) := cond (decide (y1 < (List.length a1.2.1 : Int))) (obind (geti a1.2.1 y1) fun e5 => obind (spec_LookupRelation a0 e5.1) fun v7 => cond (!v7.2) (some (.inr false)) (obind (geti a1.2.1 y1) fun e10 => cond (v7.1.1 != (List.length e10.2 : Int)) (some (.inr false)) (rec (IntKind.i64.wrap (y1 + 1))))) (some (.inl ()))
def spec_IsQueryFor_J2 (x14 : Bool) : Option (Bool) := some x14
def spec_IsQueryFor (a0 : List Y207) (a1 : Y91) : Option (Bool) := obind (loopF (spec_IsQueryFor_B1 a0 a1) fz 0) fun o1 => (match o1 with
  | .inl _ => (obind (spec_IsValidQuery a1) fun v15 => cond v15 (obind (spec_IsValidDatabase a0) fun v18 => spec_IsQueryFor_J2 v18) (spec_IsQueryFor_J2 false))
  | .inr r => some r)
theorem spec_IsQueryFor_s {a0 : List Y207} {a1 : Y91} {r : Bool} (h : spec_IsQueryFor a0 a1 = some r) : SoundAt Try.prog 148 [.agg [dL c208_dd a0], .agg (c92_ddd a1)] (.bool r) := by
 unfold spec_IsQueryFor at h
 refine st lit148 rfl (rn 1 rfl (ls_seq_k fun K1 hK1 => rn 1 rfl ?_))
 obtain ⟨o1, hl, hr1⟩ := ob_some h
 have kXB1 : (.inl ()) = o1 → Jn K1 [(2, .box [dL c208_dd a0]), (3, .box [nI a1.1, dL c195_d a1.2.1, dL ci64 a1.2.2])] := by
  intro h σ' hk
  subst h
  replace h := hr1
  try dsimp only at h
  refine hK1 _ (lh hk rfl (rk fun K13 hK13 => ?_))
  have kJ2 : ∀ {x14 : Bool}, spec_IsQueryFor_J2 x14 = some r → Jn K13 [(4, .bool x14)] := by
   intro x14 h σ' hk
   unfold spec_IsQueryFor_J2 at h
   exact hK13 _ (lh hk rfl (ls_ret ((by cases h; exact ⟨.inl rfl, rfl⟩))))
  refine sp 1 rfl (?_)
  obtain ⟨v15, g16, h⟩ := ob_some h
  refine qC (qa rfl (erg (erc rfl (erc (erD ec195_d _) (erc (erD eci64 _) rfl)))) eran) (spec_IsValidQuery_s g16) (sp 1 rfl (?_))
  rcases cond_some h with ⟨g17, h⟩ | ⟨g17, h⟩
  ·refine qg 42 g17 rfl (sp 1 rfl (?_))
   obtain ⟨v18, g19, h⟩ := ob_some h
   exact oGR rfl rfl (qC (qa rfl (erg (erc (erD ec208_dd _) rfl)) eran) (spec_IsValidDatabase_s g19) (sp 2 rfl (evn (kJ2 h _ (okr rfl)))))
  ·exact qg 42 g17 rfl (sp 4 rfl (evn (kJ2 h _ (okr rfl))))
 refine ls_rec (fun (y1 : Int) => [(2, .box [dL c208_dd a0]), (3, .box [nI a1.1, dL c195_d a1.2.1, dL ci64 a1.2.2]), (5, nI y1)]) _ _ _ _ hl (okr rfl) (fun _ => rfl) ?_
 rintro m y1 N h hN
 unfold spec_IsQueryFor_B1 at h
 refine ls_seq_k fun K2 hK2 => rn 1 rfl ?_
 rcases cond_some h with ⟨g3, h⟩ | ⟨g3, h⟩
 ·refine qT rfl g3 (ls_skip (hK2 _ (ls_seq_k fun K4 hK4 => ls_blk (rd (by kernel_rfl) (sd 4 rfl (?_))))))
  obtain ⟨e5, g6, h⟩ := ob_some h
  refine ed rfl (qI rfl zc195_d g6 (sd 2 rfl (?_)))
  obtain ⟨v7, g8, h⟩ := ob_some h
  refine ed rfl (qC (qa rfl (erg (erc (erD ec208_dd _) rfl)) (qs rfl eran)) (spec_LookupRelation_s g8) (sd 6 rfl (evdn (rd (by kernel_rfl) (sd 3 rfl (?_))))))
  rcases cond_some h with ⟨g9, h⟩ | ⟨g9, h⟩
  ·exact qgd 28 g9 rfl (sd 11 rfl (evdn (qk [2, 3, 5, 39] rfl (qT rfl rfl (rn 1 rfl (ls_ret ((by cases h; cases hr1; exact ⟨.inl rfl, rfl⟩))))))))
  ·refine qgd 28 g9 rfl (sd 5 rfl (?_))
   obtain ⟨e10, g11, h⟩ := ob_some h
   refine ed rfl (oGR rfl rfl (qI rfl zc195_d g11 (sd 5 rfl (evdn ?_))))
   rcases cond_some h with ⟨g12, h⟩ | ⟨g12, h⟩
   ·exact qT rfl g12 (rn 1 rfl (ls_ret ((by cases h; cases hr1; exact ⟨.inl rfl, rfl⟩))))
   ·exact qF rfl g12 (ls_skip (hK4 _ (rg (sp 3 rfl (evn (hN _ _ h (okr rfl)))))))
 ·exact qF rfl g3 (ls_exit (kXB1 (Option.some.inj h) _ (okr rfl)))
def spec_AtomVariables_J2 (rec : ((List Int) × Int) → Option ((List Int))) (y2 : Int) (x8 : List Int) : Option ((List Int)) := rec (x8, (IntKind.i64.wrap (y2 + 1)))
def spec_AtomVariables_B1 (a0 : Y194) (rec : ((List Int) × Int) → Option ((List Int))) (s : (List Int) × Int) : Option ((List Int)) := match s with
  | (y1, y2) => cond (decide (y2 < 5)) (obind (spec_ContainsVariable a0 y2) fun v6 => cond v6 (chk (List.length y1 + List.length [y2] ≤ lim) (spec_AtomVariables_J2 rec y2 (y1 ++ [y2]))) (spec_AtomVariables_J2 rec y2 y1)) (some y1)
def spec_AtomVariables (a0 : Y194) : Option ((List Int)) := obind (loopF (spec_AtomVariables_B1 a0) fz (([] : List Int), 0)) fun z2 => some z2
theorem spec_AtomVariables_s {a0 : Y194} {r : (List Int)} (h : spec_AtomVariables a0 = some r) : SoundAt Try.prog 246 [.agg (c195_d a0)] (oL 3 ci64 r) := by
 unfold spec_AtomVariables at h
 refine st lit246 rfl (rn 1 rfl (rs (qBs ci64 [] rfl rfl rfl zci64 (sp 1 rfl (evn (ls_seq_k fun K1 hK1 => rn 1 rfl ?_))))))
 obtain ⟨o1, hl, hr1⟩ := ob_some h
 have kXB1 : ∀ {z2 : List Int}, z2 = o1 → Jn K1 [(3, oL 3 ci64 z2)] := by
  intro z2 h σ' hk
  subst h
  replace h := hr1
  try dsimp only at h
  exact hK1 _ (lh hk rfl (rn 1 rfl (ls_ret ((by cases h; exact ⟨.inl rfl, rfl⟩)))))
 refine ls_rec (fun (s : (List Int) × Int) => match s with | (y1, y2) => [(1, .box [.str a0.1, dL ci64 a0.2]), (3, oL 3 ci64 y1), (4, nI y2)]) _ _ _ _ hl (okr rfl) (fun _ => rfl) ?_
 rintro m ⟨y1, y2⟩ N h hN
 unfold spec_AtomVariables_B1 at h
 dsimp only at h
 refine ls_seq_k fun K3 hK3 => rn 1 rfl ?_
 rcases cond_some h with ⟨g4, h⟩ | ⟨g4, h⟩
 ·refine qT rfl g4 (ls_skip (hK3 _ (ls_seq_k fun K5 hK5 => ls_blk (rs (sp 2 rfl (?_))))))
  obtain ⟨v6, g7, h⟩ := ob_some h
  refine qC (qa rfl (erg (erc rfl (erc (erD eci64 _) rfl))) (qs rfl eran)) (spec_ContainsVariable_s g7) (evn ?_)
  have kJ2 : ∀ {x8 : List Int}, spec_AtomVariables_J2 (loopF (spec_AtomVariables_B1 a0) m) y2 x8 = some o1 → Jn K5 [(1, .box [.str a0.1, dL ci64 a0.2]), (3, oL 3 ci64 x8), (4, nI y2)] := by
   intro x8 h σ' hk
   unfold spec_AtomVariables_J2 at h
   exact hK5 _ (lh hk rfl (rg (sp 3 rfl (evn (hN _ _ h (okr rfl))))))
  rcases cond_some h with ⟨g9, h⟩ | ⟨g9, h⟩
  ·refine qT rfl g9 (rg (sp 2 rfl (qBs ci64 [y2] rfl rfl rfl zci64 (?_))))
   obtain ⟨g10, h⟩ := chk_some h
   exact qA ci64 y1 [y2] rfl rfl (flat_len zci64 [y2]) rfl g10 (sp 1 rfl (evn (kJ2 h _ (okr rfl))))
  ·exact qF rfl g9 (ls_skip (kJ2 h _ (okr rfl)))
 ·exact qF rfl g4 (ls_exit (kXB1 (Option.some.inj h) _ (okr rfl)))
def spec_l5Sort_J5 (rec : ((List (List Int)) × (List (List Int)) × (List (List Int))) → Option ((List (List Int)))) (y3 : List (List Int)) (x18 : List (List Int)) (x19 : List (List Int)) (x20 : List Int) (x22 : Bool) : Option ((List (List Int))) := cond x22 (chk (List.length y3 + List.length [x20] ≤ lim) (rec (x18, x19, (y3 ++ [x20])))) (rec (x18, x19, y3))
def spec_l5Sort_J4 (rec : ((List (List Int)) × (List (List Int)) × (List (List Int))) → Option ((List (List Int)))) (y3 : List (List Int)) (x18 : List (List Int)) (x19 : List (List Int)) (x20 : List Int) : Option ((List (List Int))) := cond ((List.length y3 : Int) == 0) (spec_l5Sort_J5 rec y3 x18 x19 x20 true) (obind (geti y3 (IntKind.i64.wrap ((List.length y3 : Int) - 1))) fun e26 => obind (spec_CompareRows e26 x20) fun v28 => spec_l5Sort_J5 rec y3 x18 x19 x20 (v28 != 0))
def spec_l5Sort_J3 (rec : ((List (List Int)) × (List (List Int)) × (List (List Int))) → Option ((List (List Int)))) (y1 : List (List Int)) (y2 : List (List Int)) (y3 : List (List Int)) (x16 : Int) : Option ((List (List Int))) := cond (decide (0 < x16)) (obind (geti y2 0) fun e31 => chk ((0 : Int) ≤ 1 ∧ 1 ≤ (List.length y2 : Int) ∧ (List.length y2 : Int) ≤ (List.length y2 : Int)) (spec_l5Sort_J4 rec y3 y1 (subl y2 1 (List.length y2 : Int)) e31)) (obind (geti y1 0) fun e34 => chk ((0 : Int) ≤ 1 ∧ 1 ≤ (List.length y1 : Int) ∧ (List.length y1 : Int) ≤ (List.length y1 : Int)) (spec_l5Sort_J4 rec y3 (subl y1 1 (List.length y1 : Int)) y2 e34))
def spec_l5Sort_J2 (rec : ((List (List Int)) × (List (List Int)) × (List (List Int))) → Option ((List (List Int)))) (y1 : List (List Int)) (y2 : List (List Int)) (y3 : List (List Int)) (x13 : Bool) : Option ((List (List Int))) := cond x13 (cond ((List.length y1 : Int) == 0) (spec_l5Sort_J3 rec y1 y2 y3 1) (cond (decide (0 < (List.length y2 : Int))) (obind (geti y1 0) fun e39 => obind (geti y2 0) fun e41 => obind (spec_CompareRows e39 e41) fun v43 => spec_l5Sort_J3 rec y1 y2 y3 v43) (spec_l5Sort_J3 rec y1 y2 y3 (-1)))) (some y3)
def spec_l5Sort_B1  (rec : ((List (List Int)) × (List (List Int)) × (List (List Int))) → Option ((List (List Int)))) (s : (List (List Int)) × (List (List Int)) × (List (List Int))) : Option ((List (List Int))) := match s with
  | (y1, y2, y3) => cond (decide (0 < (List.length y1 : Int))) (spec_l5Sort_J2 rec y1 y2 y3 true) (spec_l5Sort_J2 rec y1 y2 y3 (decide (0 < (List.length y2 : Int))))
def spec_l5Sort_R (rec : ((List (List Int))) → Option ((List (List Int)))) (a0 : (List (List Int))) : Option ((List (List Int))) := cond (decide ((List.length a0 : Int) < 2)) (some a0) (chk ((0 : Int) ≤ 0 ∧ 0 ≤ IntKind.i64.wrap (Int.tdiv (List.length a0 : Int) 2) ∧ IntKind.i64.wrap (Int.tdiv (List.length a0 : Int) 2) ≤ (List.length a0 : Int)) (obind (rec (subl a0 0 (IntKind.i64.wrap (Int.tdiv (List.length a0 : Int) 2)))) fun v4 => chk ((0 : Int) ≤ IntKind.i64.wrap (Int.tdiv (List.length a0 : Int) 2) ∧ IntKind.i64.wrap (Int.tdiv (List.length a0 : Int) 2) ≤ (List.length a0 : Int) ∧ (List.length a0 : Int) ≤ (List.length a0 : Int)) (obind (rec (subl a0 (IntKind.i64.wrap (Int.tdiv (List.length a0 : Int) 2)) (List.length a0 : Int))) fun v7 => obind (loopF spec_l5Sort_B1 fz (v4, v7, ([] : List (List Int)))) fun z10 => some z10)))
def spec_l5Sort (a0 : List (List Int)) : Option ((List (List Int))) := loopF spec_l5Sort_R fz a0
theorem spec_l5Sort_s {a0 : List (List Int)} {r : (List (List Int))} (h : spec_l5Sort a0 = some r) : SoundAt Try.prog 259 [dL c25_d a0] (dL c25_d r) := by
 suffices key : ∀ m (a0 : List (List Int)) (r : (List (List Int))), loopF spec_l5Sort_R m a0 = some r → SoundAt Try.prog 259 [dL c25_d a0] (dL c25_d r) from key fz a0 r h
 intro m
 induction m with
 | zero => intro a0 r h; cases h
 | succ m ih0 =>
  intro a0 r h
  have ih : ∀ {a0 : List (List Int)} {r : (List (List Int))}, loopF spec_l5Sort_R m a0 = some r → SoundAt Try.prog 259 [dL c25_d a0] (dL c25_d r) := fun h => ih0 _ _ h
  change spec_l5Sort_R (loopF spec_l5Sort_R m) a0 = some r at h
  unfold spec_l5Sort_R at h
  try dsimp only at h
  refine st lit259 rfl (rn 1 rfl (ls_seq_k fun K1 hK1 => rn 1 rfl ?_))
  rcases cond_some h with ⟨g2, h⟩ | ⟨g2, h⟩
  ·exact qT rfl g2 (rn 1 rfl (ls_ret ((by cases h; exact ⟨.inl rfl, rfl⟩))))
  ·refine qF rfl g2 (ls_skip (hK1 _ (rn 1 rfl (rs (sp 2 rfl (?_))))))
   obtain ⟨g3, h⟩ := chk_some h
   refine qSl rfl zc25_d g3 (?_)
   obtain ⟨v4, g5, h⟩ := ob_some h
   refine qC (qa rfl (erD ec25_d _) eran) (ih g5) (sp 1 rfl (evn (rs (sp 2 rfl (?_)))))
   obtain ⟨g6, h⟩ := chk_some h
   refine qSl rfl zc25_d g6 (?_)
   obtain ⟨v7, g8, h⟩ := ob_some h
   refine qC (qa rfl (erD ec25_d _) eran) (ih g8) (sp 1 rfl (evn (qk [4, 5] rfl (rs (qBs c25_o [] rfl rfl rfl zc25_o (sp 1 rfl (evn (ls_seq_k fun K9 hK9 => ?_))))))))
   obtain ⟨o1, hl, hr1⟩ := ob_some h
   have kXB1 : ∀ {z10 : List (List Int)}, z10 = o1 → Jn K9 [(6, oL 25 c25_d z10)] := by
    intro z10 h σ' hk
    subst h
    replace h := hr1
    try dsimp only at h
    exact hK9 _ (lh hk rfl (rn 1 rfl (ls_keep [(2, dL c25_d z10)] ⟨(ke rfl (erO ec25_d _)), trivial⟩ rfl (ls_ret ((by cases h; exact ⟨.inl rfl, rfl⟩))))))
   refine ls_rec (fun (s : (List (List Int)) × (List (List Int)) × (List (List Int))) => match s with | (y1, y2, y3) => [(4, dL c25_d y1), (5, dL c25_d y2), (6, oL 25 c25_d y3)]) _ _ _ _ hl (okr rfl) (fun _ => rfl) ?_
   rintro m ⟨y1, y2, y3⟩ N h hN
   unfold spec_l5Sort_B1 at h
   dsimp only at h
   refine ls_seq_k fun K11 hK11 => rk fun K12 hK12 => ?_
   have kJ2 : ∀ {x13 : Bool}, spec_l5Sort_J2 (loopF spec_l5Sort_B1 m) y1 y2 y3 x13 = some o1 → Jn K12 [(4, dL c25_d y1), (5, dL c25_d y2), (6, oL 25 c25_d y3), (32, .bool x13)] := by
    intro x13 h σ' hk
    unfold spec_l5Sort_J2 at h
    refine hK12 _ (lh hk rfl ?_)
    rcases cond_some h with ⟨g14, h⟩ | ⟨g14, h⟩
    ·refine qT rfl g14 (ls_skip (hK11 _ (ls_blk (rn 1 rfl (ls_seq_k fun K15 hK15 => ls_blk (rn 1 rfl ?_))))))
     have kJ3 : ∀ {x16 : Int}, spec_l5Sort_J3 (loopF spec_l5Sort_B1 m) y1 y2 y3 x16 = some o1 → Jn K15 [(4, dL c25_d y1), (5, dL c25_d y2), (6, oL 25 c25_d y3), (7, nI x16)] := by
      intro x16 h σ' hk
      unfold spec_l5Sort_J3 at h
      refine hK15 _ (lh hk rfl (rs (qBs ci64 [] rfl rfl rfl zci64 (sp 1 rfl (evn (ls_seq_k fun K17 hK17 => rn 1 rfl ?_))))))
      have kJ4 : ∀ {x18 : List (List Int)} {x19 : List (List Int)} {x20 : List Int}, spec_l5Sort_J4 (loopF spec_l5Sort_B1 m) y3 x18 x19 x20 = some o1 → Jn K17 [(4, dL c25_d x18), (5, dL c25_d x19), (6, oL 25 c25_d y3), (8, dL ci64 x20)] := by
       intro x18 x19 x20 h σ' hk
       unfold spec_l5Sort_J4 at h
       refine hK17 _ (lh hk rfl (rk fun K21 hK21 => ?_))
       have kJ5 : ∀ {x22 : Bool}, spec_l5Sort_J5 (loopF spec_l5Sort_B1 m) y3 x18 x19 x20 x22 = some o1 → Jn K21 [(4, dL c25_d x18), (5, dL c25_d x19), (6, oL 25 c25_d y3), (8, dL ci64 x20), (74, .bool x22)] := by
        intro x22 h σ' hk
        unfold spec_l5Sort_J5 at h
        refine hK21 _ (lh hk rfl ?_)
        rcases cond_some h with ⟨g23, h⟩ | ⟨g23, h⟩
        ·refine qT rfl g23 (rg (sp 2 rfl (qBs c25_d [x20] rfl rfl rfl zc25_d (?_))))
         obtain ⟨g24, h⟩ := chk_some h
         exact qA c25_d y3 [x20] rfl rfl (flat_len zc25_d [x20]) rfl g24 (sp 1 rfl (evn (hN _ _ h (okr rfl))))
        ·exact qF rfl g23 (ls_skip (hN _ _ h (okr rfl)))
       refine sp 4 rfl (?_)
       rcases cond_some h with ⟨g25, h⟩ | ⟨g25, h⟩
       ·exact qg 64 g25 rfl (sp 10 rfl (evn (kJ5 h _ (okr rfl))))
       ·refine qg 64 g25 rfl (sp 4 rfl (?_))
        obtain ⟨e26, g27, h⟩ := ob_some h
        refine oGR rfl rfl (qI rfl zc25_d g27 (sp 2 rfl (?_)))
        obtain ⟨v28, g29, h⟩ := ob_some h
        exact oGR rfl rfl (qC (qa rfl (erD eci64 _) (qa rfl (erD eci64 _) eran)) (spec_CompareRows_s g29) (sp 2 rfl (evn (kJ5 h _ (okr rfl)))))
      rcases cond_some h with ⟨g30, h⟩ | ⟨g30, h⟩
      ·refine qT rfl g30 (rs (sp 1 rfl (?_)))
       obtain ⟨e31, g32, h⟩ := ob_some h
       refine qI rfl zc25_d g32 (sp 2 rfl (evn (qk [4, 5, 6, 8] rfl (rg (sp 1 rfl (?_))))))
       obtain ⟨g33, h⟩ := chk_some h
       exact qSl rfl zc25_d g33 (sp 1 rfl (evn (kJ4 h _ (okr rfl))))
      ·refine qF rfl g30 (rs (sp 1 rfl (?_)))
       obtain ⟨e34, g35, h⟩ := ob_some h
       refine qI rfl zc25_d g35 (sp 2 rfl (evn (rg (sp 1 rfl (?_)))))
       obtain ⟨g36, h⟩ := chk_some h
       exact qSl rfl zc25_d g36 (sp 1 rfl (evn (kJ4 h _ (okr rfl))))
     rcases cond_some h with ⟨g37, h⟩ | ⟨g37, h⟩
     ·exact qT rfl g37 (rg (sp 1 rfl (evn (kJ3 h _ (okr rfl)))))
     ·refine qF rfl g37 (rn 1 rfl ?_)
      rcases cond_some h with ⟨g38, h⟩ | ⟨g38, h⟩
      ·refine qT rfl g38 (rgd (by kernel_rfl) (sd 1 rfl (?_)))
       obtain ⟨e39, g40, h⟩ := ob_some h
       refine ed rfl (qI rfl zc25_d g40 (sd 2 rfl (?_)))
       obtain ⟨e41, g42, h⟩ := ob_some h
       refine ed rfl (qI rfl zc25_d g42 (sd 1 rfl (?_)))
       obtain ⟨v43, g44, h⟩ := ob_some h
       exact ed rfl (qC (qa rfl (erD eci64 _) (qa rfl (erD eci64 _) eran)) (spec_CompareRows_s g44) (sd 1 rfl (evdn (kJ3 h _ (okr rfl)))))
      ·exact qF rfl g38 (rg (sp 1 rfl (evn (kJ3 h _ (okr rfl)))))
    ·exact qF rfl g14 (ls_exit (kXB1 (Option.some.inj h) _ (okr rfl)))
   refine sp 4 rfl (?_)
   rcases cond_some h with ⟨g45, h⟩ | ⟨g45, h⟩
   ·exact qg 28 g45 rfl (sp 4 rfl (evn (kJ2 h _ (okr rfl))))
   ·exact qg 28 g45 rfl (sp 4 rfl (evn (kJ2 h _ (okr rfl))))
def spec_NewRelation_B1 (a0 : Int) (a1 : List (List Int)) (rec : Int → Option (Sum (Unit) (Y127 × Bool))) (y1 : Int) : Option (Sum (Unit) (Y127 × Bool)) := cond (decide (y1 < (List.length a1 : Int))) (obind (geti a1 y1) fun e5 => cond ((List.length e5 : Int) != a0) (some (.inr ((0, []), false))) (obind (geti a1 y1) fun e8 => obind (spec_AreValidValues e8) fun v10 => cond (!v10) (some (.inr ((0, []), false))) (rec (IntKind.i64.wrap (y1 + 1))))) (some (.inl ()))
def spec_NewRelation (a0 : Int) (a1 : List (List Int)) : Option (Y127 × Bool) := obind (loopF (spec_NewRelation_B1 a0 a1) fz 0) fun o1 => (match o1 with
  | .inl _ => (obind (spec_l5Sort a1) fun v13 => obind (spec_l5Copy (a0, v13)) fun v15 => obind (spec_IsValidRelation v15) fun v18 => cond (!v18) (some ((0, []), false)) (some (v15, true)))
  | .inr r => some r)
theorem spec_NewRelation_s {a0 : Int} {a1 : List (List Int)} {r : Y127 × Bool} (h : spec_NewRelation a0 a1 = some r) : SoundAt Try.prog 247 [nI a0, dL c25_d a1] (.tup [.agg (c128_oo r.1), .bool r.2]) := by
 unfold spec_NewRelation at h
 refine st lit247 rfl (rn 1 rfl (ls_seq_k fun K1 hK1 => rn 1 rfl ?_))
 obtain ⟨o1, hl, hr1⟩ := ob_some h
 have kXB1 : (.inl ()) = o1 → Jn K1 [(0, nI a0), (1, dL c25_d a1), (4, .box [nI 0, oL 25 c25_o []])] := by
  intro h σ' hk
  subst h
  replace h := hr1
  try dsimp only at h
  refine hK1 _ (lh hk rfl (rs (sp 2 rfl (?_))))
  obtain ⟨v13, g14, h⟩ := ob_some h
  refine qC (qa rfl (erD ec25_d _) eran) (spec_l5Sort_s g14) (sp 1 rfl (?_))
  obtain ⟨v15, g16, h⟩ := ob_some h
  refine qC (qa rfl (erg (erc rfl (erc (erD ec25_d _) rfl))) eran) (spec_l5Copy_s g16) (sp 2 rfl (evn (ls_seq_k fun K17 hK17 => rs (sp 1 rfl (?_)))))
  obtain ⟨v18, g19, h⟩ := ob_some h
  refine qC (qa rfl (erg (erc rfl (erc (erD ec25_o _) rfl))) eran) (spec_IsValidRelation_s g19) (sp 1 rfl (evn ?_))
  rcases cond_some h with ⟨g20, h⟩ | ⟨g20, h⟩
  ·exact qT rfl g20 (rn 1 rfl (ls_ret ((by cases h; exact ⟨.inl rfl, rfl⟩))))
  ·exact qF rfl g20 (ls_skip (hK17 _ (rn 1 rfl (ls_ret ((by cases h; exact ⟨.inl rfl, rfl⟩))))))
 refine ls_rec (fun (y1 : Int) => [(0, nI a0), (1, dL c25_d a1), (4, .box [nI 0, oL 25 c25_o []]), (6, nI y1)]) _ _ _ _ hl (okr rfl) (fun _ => rfl) ?_
 rintro m y1 N h hN
 unfold spec_NewRelation_B1 at h
 refine ls_seq_k fun K2 hK2 => rn 1 rfl ?_
 rcases cond_some h with ⟨g3, h⟩ | ⟨g3, h⟩
 ·refine qT rfl g3 (ls_skip (hK2 _ (ls_seq_k fun K4 hK4 => ls_blk (rs (sp 2 rfl (?_))))))
  obtain ⟨e5, g6, h⟩ := ob_some h
  refine qI rfl zc25_d g6 (sp 5 rfl (?_))
  rcases cond_some h with ⟨g7, h⟩ | ⟨g7, h⟩
  ·exact qg 21 g7 rfl (sp 7 rfl (evn (qT rfl rfl (rn 1 rfl (ls_ret ((by cases h; cases hr1; exact ⟨.inl rfl, rfl⟩)))))))
  ·refine qg 21 g7 rfl (sp 2 rfl (?_))
   obtain ⟨e8, g9, h⟩ := ob_some h
   refine oGR rfl rfl (qI rfl zc25_d g9 (sp 1 rfl (?_)))
   obtain ⟨v10, g11, h⟩ := ob_some h
   refine oGR rfl rfl (qC (qa rfl (erD eci64 _) eran) (spec_AreValidValues_s g11) (sp 2 rfl (evn (qk [0, 1, 4, 6, 28] rfl ?_))))
   rcases cond_some h with ⟨g12, h⟩ | ⟨g12, h⟩
   ·exact qT rfl g12 (rn 1 rfl (ls_ret ((by cases h; cases hr1; exact ⟨.inl rfl, rfl⟩))))
   ·exact qF rfl g12 (ls_skip (hK4 _ (rg (sp 3 rfl (evn (hN _ _ h (okr rfl)))))))
 ·exact qF rfl g3 (ls_exit (kXB1 (Option.some.inj h) _ (okr rfl)))
def spec_AtomBindings_B2 (a1 : Y194) (v1 : (List Int)) (v3 : Y127 × Bool) (y6 : Int) (rec : ((List Int) × Int) → Option ((List Int))) (s : (List Int) × Int) : Option ((List Int)) := match s with
  | (y11, y12) => cond (decide (y12 < (List.length v1 : Int))) (obind (geti v3.1.2 y6) fun e18 => obind (geti v1 y12) fun e20 => obind (spec_l7Find a1.2 e20) fun v22 => obind (geti e18 v22) fun e24 => chk (List.length y11 + List.length [e24] ≤ lim) (rec ((y11 ++ [e24]), (IntKind.i64.wrap (y12 + 1))))) (some y11)
def spec_AtomBindings_J4 (rec : (Bool × Int) → Option (Bool)) (y14 : Int) (x36 : Bool) : Option (Bool) := rec (x36, (IntKind.i64.wrap (y14 + 1)))
def spec_AtomBindings_B3 (a1 : Y194) (v1 : (List Int)) (v3 : Y127 × Bool) (y6 : Int) (z14 : List Int) (rec : (Bool × Int) → Option (Bool)) (s : Bool × Int) : Option (Bool) := match s with
  | (y13, y14) => cond (decide (y14 < (List.length a1.2 : Int))) (obind (geti a1.2 y14) fun e32 => obind (spec_l7Find v1 e32) fun v34 => cond y13 (cond (decide (0 ≤ v34)) (obind (geti z14 v34) fun e39 => obind (geti v3.1.2 y6) fun e41 => obind (geti e41 y14) fun e43 => spec_AtomBindings_J4 rec y14 (e39 == e43)) (spec_AtomBindings_J4 rec y14 false)) (spec_AtomBindings_J4 rec y14 false)) (some y13)
def spec_AtomBindings_J5 (rec : ((List (List Int)) × Int) → Option ((List (List Int)))) (y6 : Int) (x45 : List (List Int)) : Option ((List (List Int))) := rec (x45, (IntKind.i64.wrap (y6 + 1)))
def spec_AtomBindings_B1 (a1 : Y194) (v1 : (List Int)) (v3 : Y127 × Bool) (rec : ((List (List Int)) × Int) → Option ((List (List Int)))) (s : (List (List Int)) × Int) : Option ((List (List Int))) := match s with
  | (y5, y6) => cond (decide (y6 < (List.length v3.1.2 : Int))) (obind (loopF (spec_AtomBindings_B2 a1 v1 v3 y6) fz (([] : List Int), 0)) fun z14 => obind (loopF (spec_AtomBindings_B3 a1 v1 v3 y6 z14) fz (true, 0)) fun z28 => cond z28 (chk (List.length y5 + List.length [z14] ≤ lim) (spec_AtomBindings_J5 rec y6 (y5 ++ [z14]))) (spec_AtomBindings_J5 rec y6 y5)) (some y5)
def spec_AtomBindings (a0 : List Y207) (a1 : Y194) : Option (Y127) := obind (spec_AtomVariables a1) fun v1 => obind (spec_LookupRelation a0 a1.1) fun v3 => cond (!v3.2) (some ((List.length v1 : Int), [])) (cond (v3.1.1 != (List.length a1.2 : Int)) (some ((List.length v1 : Int), [])) (obind (loopF (spec_AtomBindings_B1 a1 v1 v3) fz (([] : List (List Int)), 0)) fun z9 => obind (spec_NewRelation (List.length v1 : Int) z9) fun v48 => cond (!v48.2) (some ((List.length v1 : Int), [])) (some v48.1)))
theorem spec_AtomBindings_s {a0 : List Y207} {a1 : Y194} {r : Y127} (h : spec_AtomBindings a0 a1 = some r) : SoundAt Try.prog 223 [.agg [dL c208_dd a0], .agg (c195_d a1)] (.agg (c128_oo r)) := by
 unfold spec_AtomBindings at h
 refine st lit223 rfl (rn 1 rfl (rs (sp 1 rfl (?_))))
 obtain ⟨v1, g2, h⟩ := ob_some h
 refine qC (qa rfl (erg (erc rfl (erc (erD eci64 _) rfl))) eran) (spec_AtomVariables_s g2) (sp 1 rfl (evn (rs (sp 3 rfl (?_)))))
 obtain ⟨v3, g4, h⟩ := ob_some h
 refine qC (qa rfl (erg (erc (erD ec208_dd _) rfl)) (qs rfl eran)) (spec_LookupRelation_s g4) (sp 6 rfl (evn (rn 1 rfl (ls_seq_k fun K5 hK5 => rs (sp 3 rfl (?_))))))
 rcases cond_some h with ⟨g6, h⟩ | ⟨g6, h⟩
 ·exact qg 32 g6 rfl (sp 7 rfl (evn (qT rfl rfl (rn 1 rfl (qk [4] rfl (ls_ret ((by cases h; exact ⟨.inl rfl, rfl⟩))))))))
 ·refine qg 32 g6 rfl (sp 7 rfl (evn ?_))
  rcases cond_some h with ⟨g7, h⟩ | ⟨g7, h⟩
  ·exact qT rfl g7 (rn 1 rfl (ls_ret ((by cases h; exact ⟨.inl rfl, rfl⟩))))
  ·refine qF rfl g7 (ls_skip (hK5 _ (rs (qBs c25_o [] rfl rfl rfl zc25_o (sp 1 rfl (evn (ls_seq_k fun K8 hK8 => rn 1 rfl ?_)))))))
   obtain ⟨o1, hl, hr1⟩ := ob_some h
   have kXB1 : ∀ {z9 : List (List Int)}, z9 = o1 → Jn K8 [(4, .box [nI 0, oL 25 c25_o []]), (5, oL 3 ci64 v1), (8, .box [nI (List.length v1 : Int), oL 25 c25_o []]), (9, oL 25 c25_o z9)] := by
    intro z9 h σ' hk
    subst h
    replace h := hr1
    try dsimp only at h
    refine hK8 _ (lh hk rfl (rs (sp 3 rfl (?_))))
    obtain ⟨v48, g49, h⟩ := ob_some h
    refine qC (qs rfl (qa rfl (erD ec25_o _) eran)) (spec_NewRelation_s g49) (sp 6 rfl (evn (ls_seq_k fun K50 hK50 => rn 1 rfl ?_)))
    rcases cond_some h with ⟨g51, h⟩ | ⟨g51, h⟩
    ·exact qT rfl g51 (rn 1 rfl (ls_ret ((by cases h; exact ⟨.inl rfl, rfl⟩))))
    ·exact qF rfl g51 (ls_skip (hK50 _ (rn 1 rfl (ls_ret ((by cases h; exact ⟨.inl rfl, rfl⟩))))))
   refine ls_rec (fun (s : (List (List Int)) × Int) => match s with | (y5, y6) => [(3, .box [.str a1.1, dL ci64 a1.2]), (4, .box [nI 0, oL 25 c25_o []]), (5, oL 3 ci64 v1), (6, .box [nI v3.1.1, oL 25 c25_o v3.1.2]), (8, .box [nI (List.length v1 : Int), oL 25 c25_o []]), (9, oL 25 c25_o y5), (10, nI y6)]) _ _ _ _ hl (okr rfl) (fun _ => rfl) ?_
   rintro m ⟨y5, y6⟩ N h hN
   unfold spec_AtomBindings_B1 at h
   dsimp only at h
   refine ls_seq_k fun K10 hK10 => rn 1 rfl ?_
   rcases cond_some h with ⟨g11, h⟩ | ⟨g11, h⟩
   ·refine qT rfl g11 (ls_skip (hK10 _ (ls_seq_k fun K12 hK12 => ls_blk (rs (qBs ci64 [] rfl rfl rfl zci64 (sp 1 rfl (evn (ls_seq_k fun K13 hK13 => rn 1 rfl ?_))))))))
    obtain ⟨o2, hl, hr2⟩ := ob_some h
    have kXB2 : ∀ {z14 : List Int}, z14 = o2 → Jn K13 [(3, .box [.str a1.1, dL ci64 a1.2]), (4, .box [nI 0, oL 25 c25_o []]), (5, oL 3 ci64 v1), (6, .box [nI v3.1.1, oL 25 c25_o v3.1.2]), (8, .box [nI (List.length v1 : Int), oL 25 c25_o []]), (9, oL 25 c25_o y5), (10, nI y6), (11, oL 3 ci64 z14)] := by
     intro z14 h σ' hk
     subst h
     replace h := hr2
     try dsimp only at h
     refine hK13 _ (lh hk rfl (rn 1 rfl (ls_seq_k fun K27 hK27 => rn 1 rfl ?_)))
     obtain ⟨o3, hl, hr3⟩ := ob_some h
     have kXB3 : ∀ {z28 : Bool}, z28 = o3 → Jn K27 [(3, .box [.str a1.1, dL ci64 a1.2]), (4, .box [nI 0, oL 25 c25_o []]), (5, oL 3 ci64 v1), (6, .box [nI v3.1.1, oL 25 c25_o v3.1.2]), (8, .box [nI (List.length v1 : Int), oL 25 c25_o []]), (9, oL 25 c25_o y5), (10, nI y6), (11, oL 3 ci64 z14), (13, .bool z28)] := by
      intro z28 h σ' hk
      subst h
      replace h := hr3
      try dsimp only at h
      refine hK27 _ (lh hk rfl (rn 1 rfl ?_))
      have kJ5 : ∀ {x45 : List (List Int)}, spec_AtomBindings_J5 (loopF (spec_AtomBindings_B1 a1 v1 v3) m) y6 x45 = some o1 → Jn K12 [(3, .box [.str a1.1, dL ci64 a1.2]), (4, .box [nI 0, oL 25 c25_o []]), (5, oL 3 ci64 v1), (6, .box [nI v3.1.1, oL 25 c25_o v3.1.2]), (8, .box [nI (List.length v1 : Int), oL 25 c25_o []]), (9, oL 25 c25_o x45), (10, nI y6)] := by
       intro x45 h σ' hk
       unfold spec_AtomBindings_J5 at h
       exact hK12 _ (lh hk rfl (rg (sp 3 rfl (evn (hN _ _ h (okr rfl))))))
      rcases cond_some h with ⟨g46, h⟩ | ⟨g46, h⟩
      ·refine qT rfl g46 (rg (sp 2 rfl (qBs c25_o [z14] rfl rfl rfl zc25_o (?_))))
       obtain ⟨g47, h⟩ := chk_some h
       exact qA c25_o y5 [z14] rfl rfl (flat_len zc25_o [z14]) rfl g47 (sp 1 rfl (evn (kJ5 h _ (okr rfl))))
      ·exact qF rfl g46 (ls_skip (kJ5 h _ (okr rfl)))
     refine ls_rec (fun (s : Bool × Int) => match s with | (y13, y14) => [(3, .box [.str a1.1, dL ci64 a1.2]), (4, .box [nI 0, oL 25 c25_o []]), (5, oL 3 ci64 v1), (6, .box [nI v3.1.1, oL 25 c25_o v3.1.2]), (8, .box [nI (List.length v1 : Int), oL 25 c25_o []]), (9, oL 25 c25_o y5), (10, nI y6), (11, oL 3 ci64 z14), (13, .bool y13), (14, nI y14)]) _ _ _ _ hl (okr rfl) (fun _ => rfl) ?_
     rintro m ⟨y13, y14⟩ N h hN
     unfold spec_AtomBindings_B3 at h
     dsimp only at h
     refine ls_seq_k fun K29 hK29 => rn 1 rfl ?_
     rcases cond_some h with ⟨g30, h⟩ | ⟨g30, h⟩
     ·refine qT rfl g30 (ls_skip (hK29 _ (ls_seq_k fun K31 hK31 => ls_blk (rs (sp 4 rfl (?_))))))
      obtain ⟨e32, g33, h⟩ := ob_some h
      refine qI rfl zci64 g33 (sp 1 rfl (?_))
      obtain ⟨v34, g35, h⟩ := ob_some h
      refine qC (qa rfl (erD eci64 _) (qs rfl eran)) (spec_l7Find_s g35) (sp 1 rfl (evn ?_))
      have kJ4 : ∀ {x36 : Bool}, spec_AtomBindings_J4 (loopF (spec_AtomBindings_B3 a1 v1 v3 y6 z14) m) y14 x36 = some o3 → Jn K31 [(3, .box [.str a1.1, dL ci64 a1.2]), (4, .box [nI 0, oL 25 c25_o []]), (5, oL 3 ci64 v1), (6, .box [nI v3.1.1, oL 25 c25_o v3.1.2]), (8, .box [nI (List.length v1 : Int), oL 25 c25_o []]), (9, oL 25 c25_o y5), (10, nI y6), (11, oL 3 ci64 z14), (13, .bool x36), (14, nI y14)] := by
       intro x36 h σ' hk
       unfold spec_AtomBindings_J4 at h
       exact hK31 _ (lh hk rfl (rg (sp 3 rfl (evn (hN _ _ h (okr rfl))))))
      refine rgd (by kernel_rfl) (sd 2 rfl (?_))
      rcases cond_some h with ⟨g37, h⟩ | ⟨g37, h⟩
      ·refine qgd 88 g37 rfl (sd 4 rfl (?_))
       rcases cond_some h with ⟨g38, h⟩ | ⟨g38, h⟩
       ·refine qgd 92 g38 rfl (sd 2 rfl (?_))
        obtain ⟨e39, g40, h⟩ := ob_some h
        refine ed rfl (oGR rfl rfl (qI rfl zci64 g40 (sd 4 rfl (?_))))
        obtain ⟨e41, g42, h⟩ := ob_some h
        refine ed rfl (oGR rfl rfl (qI rfl zc25_o g42 (sd 2 rfl (?_))))
        obtain ⟨e43, g44, h⟩ := ob_some h
        exact ed rfl (oGR rfl rfl (qI rfl zci64 g44 (sd 4 rfl (evdn (kJ4 h _ (okr rfl))))))
       ·exact qgd 92 g38 rfl (sd 15 rfl (evdn (kJ4 h _ (okr rfl))))
      ·exact qgd 88 g37 rfl (sd 19 rfl (evdn (kJ4 h _ (okr rfl))))
     ·exact qF rfl g30 (ls_exit (kXB3 (Option.some.inj h) _ (okr rfl)))
    refine ls_rec (fun (s : (List Int) × Int) => match s with | (y11, y12) => [(3, .box [.str a1.1, dL ci64 a1.2]), (4, .box [nI 0, oL 25 c25_o []]), (5, oL 3 ci64 v1), (6, .box [nI v3.1.1, oL 25 c25_o v3.1.2]), (8, .box [nI (List.length v1 : Int), oL 25 c25_o []]), (9, oL 25 c25_o y5), (10, nI y6), (11, oL 3 ci64 y11), (12, nI y12)]) _ _ _ _ hl (okr rfl) (fun _ => rfl) ?_
    rintro m ⟨y11, y12⟩ N h hN
    unfold spec_AtomBindings_B2 at h
    dsimp only at h
    refine ls_seq_k fun K15 hK15 => rn 1 rfl ?_
    rcases cond_some h with ⟨g16, h⟩ | ⟨g16, h⟩
    ·refine qT rfl g16 (ls_skip (hK15 _ (ls_seq_k fun K17 hK17 => ls_blk (rgd (by kernel_rfl) (sd 4 rfl (?_))))))
     obtain ⟨e18, g19, h⟩ := ob_some h
     refine ed rfl (qI rfl zc25_o g19 (sd 5 rfl (?_)))
     obtain ⟨e20, g21, h⟩ := ob_some h
     refine ed rfl (qI rfl zci64 g21 (sd 1 rfl (?_)))
     obtain ⟨v22, g23, h⟩ := ob_some h
     refine ed rfl (qC (qa rfl (erD eci64 _) (qs rfl eran)) (spec_l7Find_s g23) (?_))
     obtain ⟨e24, g25, h⟩ := ob_some h
     refine ed rfl (qI rfl zci64 g25 (sd 1 rfl (ed rfl (qBs ci64 [e24] rfl rfl rfl zci64 (?_)))))
     obtain ⟨g26, h⟩ := chk_some h
     exact ed rfl (qA ci64 y11 [e24] rfl rfl (flat_len zci64 [e24]) rfl g26 (sd 1 rfl (evdn (hK17 _ (rg (sp 3 rfl (evn (hN _ _ h (okr rfl)))))))))
    ·exact qF rfl g16 (ls_exit (kXB2 (Option.some.inj h) _ (okr rfl)))
   ·exact qF rfl g11 (ls_exit (kXB1 (Option.some.inj h) _ (okr rfl)))
def spec_AtomSizes_B1 (a0 : List Y207) (a1 : Y91) (rec : ((List Int) × Int) → Option ((List Int))) (s : (List Int) × Int) : Option ((List Int)) := match s with
  | (y1, y2) => cond (decide (y2 < (List.length a1.2.1 : Int))) (obind (geti a1.2.1 y2) fun e10 => obind (spec_AtomBindings a0 e10) fun v12 => chk (List.length y1 + List.length [(List.length v12.2 : Int)] ≤ lim) (rec ((y1 ++ [(List.length v12.2 : Int)]), (IntKind.i64.wrap (y2 + 1))))) (some y1)
def spec_AtomSizes (a0 : List Y207) (a1 : Y91) : Option ((List Int) × Bool) := obind (spec_IsQueryFor a0 a1) fun v2 => cond (!v2) (some (([] : List Int), false)) (obind (loopF (spec_AtomSizes_B1 a0 a1) fz (([] : List Int), 0)) fun z6 => some (z6, true))
theorem spec_AtomSizes_s {a0 : List Y207} {a1 : Y91} {r : (List Int) × Bool} (h : spec_AtomSizes a0 a1 = some r) : SoundAt Try.prog 164 [.agg [dL c208_dd a0], .agg (c92_ddd a1)] (.tup [oL 3 ci64 r.1, .bool r.2]) := by
 unfold spec_AtomSizes at h
 refine st lit164 rfl (rn 1 rfl (rs (qBs ci64 [] rfl rfl rfl zci64 (sp 1 rfl (evn (ls_seq_k fun K1 hK1 => rs (sp 2 rfl (?_))))))))
 obtain ⟨v2, g3, h⟩ := ob_some h
 refine qC (qa rfl (erg (erc (erD ec208_dd _) rfl)) (qa rfl (erg (erc rfl (erc (erD ec195_d _) (erc (erD eci64 _) rfl)))) eran)) (spec_IsQueryFor_s g3) (sp 1 rfl (evn ?_))
 rcases cond_some h with ⟨g4, h⟩ | ⟨g4, h⟩
 ·exact qT rfl g4 (rn 1 rfl (ls_ret ((by cases h; exact ⟨.inl rfl, rfl⟩))))
 ·refine qF rfl g4 (ls_skip (hK1 _ (ls_seq_k fun K5 hK5 => rn 1 rfl ?_)))
  obtain ⟨o1, hl, hr1⟩ := ob_some h
  have kXB1 : ∀ {z6 : List Int}, z6 = o1 → Jn K5 [(6, oL 3 ci64 z6)] := by
   intro z6 h σ' hk
   subst h
   replace h := hr1
   try dsimp only at h
   exact hK5 _ (lh hk rfl (rn 1 rfl (ls_ret ((by cases h; exact ⟨.inl rfl, rfl⟩)))))
  refine ls_rec (fun (s : (List Int) × Int) => match s with | (y1, y2) => [(2, .box [dL c208_dd a0]), (3, .box [nI a1.1, dL c195_d a1.2.1, dL ci64 a1.2.2]), (6, oL 3 ci64 y1), (7, nI y2)]) _ _ _ _ hl (okr rfl) (fun _ => rfl) ?_
  rintro m ⟨y1, y2⟩ N h hN
  unfold spec_AtomSizes_B1 at h
  dsimp only at h
  refine ls_seq_k fun K7 hK7 => rn 1 rfl ?_
  rcases cond_some h with ⟨g8, h⟩ | ⟨g8, h⟩
  ·refine qT rfl g8 (ls_skip (hK7 _ (ls_seq_k fun K9 hK9 => ls_blk (rgd (by kernel_rfl) (sd 5 rfl (?_))))))
   obtain ⟨e10, g11, h⟩ := ob_some h
   refine ed rfl (qI rfl zc195_d g11 (sd 1 rfl (?_)))
   obtain ⟨v12, g13, h⟩ := ob_some h
   refine ed rfl (qC (qa rfl (erg (erc (erD ec208_dd _) rfl)) (qa rfl (erg (erc rfl (erc (erD eci64 _) rfl))) eran)) (spec_AtomBindings_s g13) (ed rfl (qFd 1 (by kernel_rfl) rfl (sd 1 rfl (ed rfl (qBs ci64 [(List.length v12.2 : Int)] rfl rfl rfl zci64 (?_)))))))
   obtain ⟨g14, h⟩ := chk_some h
   exact ed rfl (qA ci64 y1 [(List.length v12.2 : Int)] rfl rfl (flat_len zci64 [(List.length v12.2 : Int)]) rfl g14 (sd 1 rfl (evdn (hK9 _ (rg (sp 3 rfl (evn (hN _ _ h (okr rfl)))))))))
  ·exact qF rfl g8 (ls_exit (kXB1 (Option.some.inj h) _ (okr rfl)))
def c35_d (x : Y26) : List V := [.str x.1, dL ci64 x.2.1, nI x.2.2]
theorem zc35_d (x : Y26) : (c35_d x).length = 3 := rfl
theorem ec35_d (x : Y26) : erL (c35_d x) = c35_d x := (erc rfl (erc (erD eci64 _) (erc rfl rfl)))
def spec_IsValidFD_J2 (rec : Int → Option (Sum (Unit) (Bool))) (y1 : Int) (x8 : Bool) : Option (Sum (Unit) (Bool)) := cond x8 (some (.inr false)) (rec (IntKind.i64.wrap (y1 + 1)))
def spec_IsValidFD_B1 (a1 : Y26) (v1 : Y127 × Bool) (rec : Int → Option (Sum (Unit) (Bool))) (y1 : Int) : Option (Sum (Unit) (Bool)) := cond (decide (y1 < (List.length a1.2.1 : Int))) (obind (geti a1.2.1 y1) fun e10 => obind (spec_l1In e10 0 (IntKind.i64.wrap (v1.1.1 - 1))) fun v12 => cond (!v12) (spec_IsValidFD_J2 rec y1 true) (cond (decide (0 < y1)) (obind (geti a1.2.1 y1) fun e16 => obind (geti a1.2.1 (IntKind.i64.wrap (y1 - 1))) fun e18 => spec_IsValidFD_J2 rec y1 (decide (e16 ≤ e18))) (spec_IsValidFD_J2 rec y1 false))) (some (.inl ()))
def spec_IsValidFD_J3 (x21 : Bool) : Option (Bool) := some x21
def spec_IsValidFD (a0 : List Y207) (a1 : Y26) : Option (Bool) := obind (spec_LookupRelation a0 a1.1) fun v1 => obind (loopF (spec_IsValidFD_B1 a1 v1) fz 0) fun o1 => (match o1 with
  | .inl _ => (cond v1.2 (obind (spec_l1In a1.2.2 0 (IntKind.i64.wrap (v1.1.1 - 1))) fun v23 => spec_IsValidFD_J3 v23) (spec_IsValidFD_J3 false))
  | .inr r => some r)
theorem spec_IsValidFD_s {a0 : List Y207} {a1 : Y26} {r : Bool} (h : spec_IsValidFD a0 a1 = some r) : SoundAt Try.prog 74 [.agg [dL c208_dd a0], .agg (c35_d a1)] (.bool r) := by
 unfold spec_IsValidFD at h
 refine st lit74 rfl (rn 1 rfl (rs (sp 3 rfl (?_))))
 obtain ⟨v1, g2, h⟩ := ob_some h
 refine qC (qa rfl (erg (erc (erD ec208_dd _) rfl)) (qs rfl eran)) (spec_LookupRelation_s g2) (sp 6 rfl (evn (ls_seq_k fun K3 hK3 => rn 1 rfl ?_)))
 obtain ⟨o1, hl, hr1⟩ := ob_some h
 have kXB1 : (.inl ()) = o1 → Jn K3 [(3, .box [.str a1.1, dL ci64 a1.2.1, nI a1.2.2]), (5, .box [nI v1.1.1, oL 25 c25_o v1.1.2]), (6, .bool v1.2)] := by
  intro h σ' hk
  subst h
  replace h := hr1
  try dsimp only at h
  refine hK3 _ (lh hk rfl (rk fun K20 hK20 => ?_))
  have kJ3 : ∀ {x21 : Bool}, spec_IsValidFD_J3 x21 = some r → Jn K20 [(4, .bool x21)] := by
   intro x21 h σ' hk
   unfold spec_IsValidFD_J3 at h
   exact hK20 _ (lh hk rfl (ls_ret ((by cases h; exact ⟨.inl rfl, rfl⟩))))
  refine sp 2 rfl (?_)
  rcases cond_some h with ⟨g22, h⟩ | ⟨g22, h⟩
  ·refine qg 51 g22 rfl (sp 5 rfl (?_))
   obtain ⟨v23, g24, h⟩ := ob_some h
   exact oGR rfl rfl (qC (qs rfl (qs rfl (qs rfl eran))) (spec_l1In_s g24) (sp 2 rfl (evn (kJ3 h _ (okr rfl)))))
  ·exact qg 51 g22 rfl (sp 8 rfl (evn (kJ3 h _ (okr rfl))))
 refine ls_rec (fun (y1 : Int) => [(3, .box [.str a1.1, dL ci64 a1.2.1, nI a1.2.2]), (5, .box [nI v1.1.1, oL 25 c25_o v1.1.2]), (6, .bool v1.2), (7, nI y1)]) _ _ _ _ hl (okr rfl) (fun _ => rfl) ?_
 rintro m y1 N h hN
 unfold spec_IsValidFD_B1 at h
 refine ls_seq_k fun K4 hK4 => rn 1 rfl ?_
 rcases cond_some h with ⟨g5, h⟩ | ⟨g5, h⟩
 ·refine qT rfl g5 (ls_skip (hK4 _ (ls_seq_k fun K6 hK6 => ls_blk (rdk (by kernel_rfl) fun K7 hK7 => ?_))))
  have kJ2 : ∀ {x8 : Bool}, spec_IsValidFD_J2 (loopF (spec_IsValidFD_B1 a1 v1) m) y1 x8 = some o1 → Jn K7 [(3, .box [.str a1.1, dL ci64 a1.2.1, nI a1.2.2]), (5, .box [nI v1.1.1, oL 25 c25_o v1.1.2]), (6, .bool v1.2), (7, nI y1), (49, .bool x8)] := by
   intro x8 h σ' hk
   unfold spec_IsValidFD_J2 at h
   refine hK7 _ (lh hk rfl ?_)
   rcases cond_some h with ⟨g9, h⟩ | ⟨g9, h⟩
   ·exact qT rfl g9 (rn 1 rfl (ls_ret ((by cases h; cases hr1; exact ⟨.inl rfl, rfl⟩))))
   ·exact qF rfl g9 (ls_skip (hK6 _ (rg (sp 3 rfl (evn (hN _ _ h (okr rfl)))))))
  refine sd 3 rfl (?_)
  obtain ⟨e10, g11, h⟩ := ob_some h
  refine ed rfl (qI rfl zci64 g11 (sd 4 rfl (?_)))
  obtain ⟨v12, g13, h⟩ := ob_some h
  refine ed rfl (qC (qs rfl (qs rfl (qs rfl eran))) (spec_l1In_s g13) (sd 2 rfl (?_)))
  rcases cond_some h with ⟨g14, h⟩ | ⟨g14, h⟩
  ·exact qgd 32 g14 rfl (sd 17 rfl (evdn (kJ2 h _ (okr rfl))))
  ·refine qgd 32 g14 rfl (sd 3 rfl (?_))
   rcases cond_some h with ⟨g15, h⟩ | ⟨g15, h⟩
   ·refine qgd 35 g15 rfl (sd 3 rfl (?_))
    obtain ⟨e16, g17, h⟩ := ob_some h
    refine ed rfl (oGR rfl rfl (qI rfl zci64 g17 (sd 5 rfl (?_))))
    obtain ⟨e18, g19, h⟩ := ob_some h
    exact ed rfl (oGR rfl rfl (qI rfl zci64 g19 (sd 4 rfl (evdn (kJ2 h _ (okr rfl))))))
   ·exact qgd 35 g15 rfl (sd 14 rfl (evdn (kJ2 h _ (okr rfl))))
 ·exact qF rfl g5 (ls_exit (kXB1 (Option.some.inj h) _ (okr rfl)))
def spec_l5Cols_B1 (a0 : List Int) (a1 : List Int) (rec : ((List Int) × Int) → Option ((List Int))) (s : (List Int) × Int) : Option ((List Int)) := match s with
  | (y1, y2) => cond (decide (y2 < (List.length a1 : Int))) (obind (geti a1 y2) fun e6 => obind (geti a0 e6) fun e8 => chk (List.length y1 + List.length [e8] ≤ lim) (rec ((y1 ++ [e8]), (IntKind.i64.wrap (y2 + 1))))) (some y1)
def spec_l5Cols (a0 : List Int) (a1 : List Int) : Option ((List Int)) := obind (loopF (spec_l5Cols_B1 a0 a1) fz (([] : List Int), 0)) fun z2 => some z2
theorem spec_l5Cols_s {a0 : List Int} {a1 : List Int} {r : (List Int)} (h : spec_l5Cols a0 a1 = some r) : SoundAt Try.prog 76 [dL ci64 a0, dL ci64 a1] (oL 3 ci64 r) := by
 unfold spec_l5Cols at h
 refine st lit76 rfl (rn 1 rfl (rs (qBs ci64 [] rfl rfl rfl zci64 (sp 1 rfl (evn (ls_seq_k fun K1 hK1 => rn 1 rfl ?_))))))
 obtain ⟨o1, hl, hr1⟩ := ob_some h
 have kXB1 : ∀ {z2 : List Int}, z2 = o1 → Jn K1 [(5, oL 3 ci64 z2)] := by
  intro z2 h σ' hk
  subst h
  replace h := hr1
  try dsimp only at h
  exact hK1 _ (lh hk rfl (rn 1 rfl (ls_ret ((by cases h; exact ⟨.inl rfl, rfl⟩)))))
 refine ls_rec (fun (s : (List Int) × Int) => match s with | (y1, y2) => [(0, dL ci64 a0), (1, dL ci64 a1), (5, oL 3 ci64 y1), (6, nI y2)]) _ _ _ _ hl (okr rfl) (fun _ => rfl) ?_
 rintro m ⟨y1, y2⟩ N h hN
 unfold spec_l5Cols_B1 at h
 dsimp only at h
 refine ls_seq_k fun K3 hK3 => rn 1 rfl ?_
 rcases cond_some h with ⟨g4, h⟩ | ⟨g4, h⟩
 ·refine qT rfl g4 (ls_skip (hK3 _ (ls_seq_k fun K5 hK5 => ls_blk (rg (sp 4 rfl (?_))))))
  obtain ⟨e6, g7, h⟩ := ob_some h
  refine qI rfl zci64 g7 (sp 1 rfl (?_))
  obtain ⟨e8, g9, h⟩ := ob_some h
  refine qI rfl zci64 g9 (sp 1 rfl (qBs ci64 [e8] rfl rfl rfl zci64 (?_)))
  obtain ⟨g10, h⟩ := chk_some h
  exact qA ci64 y1 [e8] rfl rfl (flat_len zci64 [e8]) rfl g10 (sp 1 rfl (evn (hK5 _ (rg (sp 3 rfl (evn (hN _ _ h (okr rfl))))))))
 ·exact qF rfl g4 (ls_exit (kXB1 (Option.some.inj h) _ (okr rfl)))
def spec_FDViolation_J3 (rec : Int → Option (Sum (Unit) ((List Int)))) (y2 : Int) (y4 : Int) (x14 : Bool) : Option (Sum (Unit) ((List Int))) := cond x14 (some (.inr [y4, y2])) (rec (IntKind.i64.wrap (y4 + 1)))
def spec_FDViolation_B2 (a1 : Y26) (v1 : Y127 × Bool) (y2 : Int) (rec : Int → Option (Sum (Unit) ((List Int)))) (y4 : Int) : Option (Sum (Unit) ((List Int))) := cond (decide (y4 < y2)) (obind (geti v1.1.2 y4) fun e16 => obind (spec_l5Cols e16 a1.2.1) fun v18 => obind (geti v1.1.2 y2) fun e20 => obind (spec_l5Cols e20 a1.2.1) fun v22 => obind (spec_CompareRows v18 v22) fun v24 => cond (v24 == 0) (obind (geti v1.1.2 y4) fun e27 => obind (geti e27 a1.2.2) fun e29 => obind (geti v1.1.2 y2) fun e31 => obind (geti e31 a1.2.2) fun e33 => spec_FDViolation_J3 rec y2 y4 (e29 != e33)) (spec_FDViolation_J3 rec y2 y4 false)) (some (.inl ()))
def spec_FDViolation_B1 (a0 : List Y207) (a1 : Y26) (v1 : Y127 × Bool) (rec : Int → Option (Sum (Unit) ((List Int)))) (y2 : Int) : Option (Sum (Unit) ((List Int))) := cond (decide (y2 < (List.length v1.1.2 : Int))) (obind (spec_IsValidFD a0 a1) fun v6 => cond v6 (obind (loopF (spec_FDViolation_B2 a1 v1 y2) fz 0) fun o2 => (match o2 with
  | .inl _ => (rec (IntKind.i64.wrap (y2 + 1)))
  | .inr r => some (.inr r))) (some (.inl ()))) (some (.inl ()))
def spec_FDViolation (a0 : List Y207) (a1 : Y26) : Option ((List Int)) := obind (spec_LookupRelation a0 a1.1) fun v1 => obind (loopF (spec_FDViolation_B1 a0 a1 v1) fz 0) fun o1 => (match o1 with
  | .inl _ => (some ([] : List Int))
  | .inr r => some r)
theorem spec_FDViolation_s {a0 : List Y207} {a1 : Y26} {r : (List Int)} (h : spec_FDViolation a0 a1 = some r) : SoundAt Try.prog 15 [.agg [dL c208_dd a0], .agg (c35_d a1)] (oL 3 ci64 r) := by
 unfold spec_FDViolation at h
 refine st lit15 rfl (rn 1 rfl (rs (sp 3 rfl (?_))))
 obtain ⟨v1, g2, h⟩ := ob_some h
 refine qC (qa rfl (erg (erc (erD ec208_dd _) rfl)) (qs rfl eran)) (spec_LookupRelation_s g2) (sp 6 rfl (evn (ls_seq_k fun K3 hK3 => rn 1 rfl ?_)))
 obtain ⟨o1, hl, hr1⟩ := ob_some h
 have kXB1 : (.inl ()) = o1 → Jn K3 [] := by
  intro h σ' hk
  subst h
  replace h := hr1
  try dsimp only at h
  exact hK3 _ (lh hk rfl (rs (qBs ci64 [] rfl rfl rfl zci64 (sp 1 rfl (evn (ls_ret ((by cases h; exact ⟨.inl rfl, rfl⟩))))))))
 refine ls_rec (fun (y2 : Int) => [(2, .box [dL c208_dd a0]), (3, .box [.str a1.1, dL ci64 a1.2.1, nI a1.2.2]), (5, .box [nI v1.1.1, oL 25 c25_o v1.1.2]), (7, nI y2)]) _ _ _ _ hl (okr rfl) (fun _ => rfl) ?_
 rintro m y2 N h hN
 unfold spec_FDViolation_B1 at h
 refine ls_seq_k fun K4 hK4 => rs (sp 6 rfl (?_))
 rcases cond_some h with ⟨g5, h⟩ | ⟨g5, h⟩
 ·refine qg 21 g5 rfl (sp 2 rfl (?_))
  obtain ⟨v6, g7, h⟩ := ob_some h
  refine oGR rfl rfl (qC (qa rfl (erg (erc (erD ec208_dd _) rfl)) (qa rfl (erg (erc rfl (erc (erD eci64 _) (erc rfl rfl)))) eran)) (spec_IsValidFD_s g7) (sp 1 rfl (evn ?_)))
  rcases cond_some h with ⟨g8, h⟩ | ⟨g8, h⟩
  ·refine qT rfl g8 (ls_skip (hK4 _ (ls_seq_k fun K9 hK9 => ls_blk (rn 1 rfl ?_))))
   obtain ⟨o2, hl, hr2⟩ := ob_some h
   have kXB2 : (.inl ()) = o2 → Jn K9 [(2, .box [dL c208_dd a0]), (3, .box [.str a1.1, dL ci64 a1.2.1, nI a1.2.2]), (5, .box [nI v1.1.1, oL 25 c25_o v1.1.2]), (7, nI y2)] := by
    intro h σ' hk
    subst h
    replace h := hr2
    try dsimp only at h
    exact hK9 _ (lh hk rfl (rg (sp 3 rfl (evn (hN _ _ h (okr rfl))))))
   refine ls_rec (fun (y4 : Int) => [(2, .box [dL c208_dd a0]), (3, .box [.str a1.1, dL ci64 a1.2.1, nI a1.2.2]), (5, .box [nI v1.1.1, oL 25 c25_o v1.1.2]), (7, nI y2), (8, nI y4)]) _ _ _ _ hl (okr rfl) (fun _ => rfl) ?_
   rintro m y4 N h hN
   unfold spec_FDViolation_B2 at h
   refine ls_seq_k fun K10 hK10 => rn 1 rfl ?_
   rcases cond_some h with ⟨g11, h⟩ | ⟨g11, h⟩
   ·refine qT rfl g11 (ls_skip (hK10 _ (ls_seq_k fun K12 hK12 => ls_blk (rdk (by kernel_rfl) fun K13 hK13 => ?_))))
    have kJ3 : ∀ {x14 : Bool}, spec_FDViolation_J3 (loopF (spec_FDViolation_B2 a1 v1 y2) m) y2 y4 x14 = some o2 → Jn K13 [(2, .box [dL c208_dd a0]), (3, .box [.str a1.1, dL ci64 a1.2.1, nI a1.2.2]), (5, .box [nI v1.1.1, oL 25 c25_o v1.1.2]), (7, nI y2), (8, nI y4), (71, .bool x14)] := by
     intro x14 h σ' hk
     unfold spec_FDViolation_J3 at h
     refine hK13 _ (lh hk rfl ?_)
     rcases cond_some h with ⟨g15, h⟩ | ⟨g15, h⟩
     ·exact qT rfl g15 (rs (sp 2 rfl (qBs ci64 [y4, y2] rfl rfl rfl zci64 (sp 1 rfl (evn (ls_ret ((by cases h; cases hr2; cases hr1; exact ⟨.inl rfl, rfl⟩))))))))
     ·exact qF rfl g15 (ls_skip (hK12 _ (rg (sp 3 rfl (evn (hN _ _ h (okr rfl)))))))
    refine sd 3 rfl (?_)
    obtain ⟨e16, g17, h⟩ := ob_some h
    refine ed rfl (qI rfl zc25_o g17 (sd 3 rfl (?_)))
    obtain ⟨v18, g19, h⟩ := ob_some h
    refine ed rfl (qC (qa rfl (erD eci64 _) (qa rfl (erD eci64 _) eran)) (spec_l5Cols_s g19) (sd 3 rfl (?_)))
    obtain ⟨e20, g21, h⟩ := ob_some h
    refine ed rfl (qI rfl zc25_o g21 (sd 3 rfl (?_)))
    obtain ⟨v22, g23, h⟩ := ob_some h
    refine ed rfl (qC (qa rfl (erD eci64 _) (qa rfl (erD eci64 _) eran)) (spec_l5Cols_s g23) (?_))
    obtain ⟨v24, g25, h⟩ := ob_some h
    refine ed rfl (qC (qa rfl (erO eci64 _) (qa rfl (erO eci64 _) eran)) (spec_CompareRows_s g25) (sd 2 rfl (?_)))
    rcases cond_some h with ⟨g26, h⟩ | ⟨g26, h⟩
    ·refine qgd 51 g26 rfl (sd 3 rfl (?_))
     obtain ⟨e27, g28, h⟩ := ob_some h
     refine ed rfl (oGR rfl rfl (qI rfl zc25_o g28 (sd 3 rfl (?_))))
     obtain ⟨e29, g30, h⟩ := ob_some h
     refine ed rfl (oGR rfl rfl (qI rfl zci64 g30 (sd 4 rfl (?_))))
     obtain ⟨e31, g32, h⟩ := ob_some h
     refine ed rfl (oGR rfl rfl (qI rfl zc25_o g32 (sd 3 rfl (?_))))
     obtain ⟨e33, g34, h⟩ := ob_some h
     exact ed rfl (oGR rfl rfl (qI rfl zci64 g34 (sd 3 rfl (evdn (kJ3 h _ (okr rfl))))))
    ·exact qgd 51 g26 rfl (sd 20 rfl (evdn (kJ3 h _ (okr rfl))))
   ·exact qF rfl g11 (ls_exit (kXB2 (Option.some.inj h) _ (okr rfl)))
  ·exact qF rfl g8 (ls_exit (kXB1 (Option.some.inj h) _ trivial))
 ·exact qg 21 g5 rfl (sp 4 rfl (evn (qk [2, 3, 5, 7, 25] rfl (qF rfl rfl (ls_exit (kXB1 (Option.some.inj h) _ trivial))))))
def spec_FDHolds_J1 (x2 : Bool) : Option (Bool) := some x2
def spec_FDHolds (a0 : List Y207) (a1 : Y26) : Option (Bool) := obind (spec_IsValidFD a0 a1) fun v3 => cond v3 (obind (spec_FDViolation a0 a1) fun v6 => spec_FDHolds_J1 ((List.length v6 : Int) == 0)) (spec_FDHolds_J1 false)
theorem spec_FDHolds_s {a0 : List Y207} {a1 : Y26} {r : Bool} (h : spec_FDHolds a0 a1 = some r) : SoundAt Try.prog 165 [.agg [dL c208_dd a0], .agg (c35_d a1)] (.bool r) := by
 unfold spec_FDHolds at h
 refine st lit165 rfl (rn 1 rfl (rk fun K1 hK1 => ?_))
 have kJ1 : ∀ {x2 : Bool}, spec_FDHolds_J1 x2 = some r → Jn K1 [(4, .bool x2)] := by
  intro x2 h σ' hk
  unfold spec_FDHolds_J1 at h
  exact hK1 _ (lh hk rfl (ls_ret ((by cases h; exact ⟨.inl rfl, rfl⟩))))
 refine sp 2 rfl (?_)
 obtain ⟨v3, g4, h⟩ := ob_some h
 refine qC (qa rfl (erg (erc (erD ec208_dd _) rfl)) (qa rfl (erg (erc rfl (erc (erD eci64 _) (erc rfl rfl)))) eran)) (spec_IsValidFD_s g4) (sp 1 rfl (?_))
 rcases cond_some h with ⟨g5, h⟩ | ⟨g5, h⟩
 ·refine qg 8 g5 rfl (sp 2 rfl (?_))
  obtain ⟨v6, g7, h⟩ := ob_some h
  exact oGR rfl rfl (qC (qa rfl (erg (erc (erD ec208_dd _) rfl)) (qa rfl (erg (erc rfl (erc (erD eci64 _) (erc rfl rfl)))) eran)) (spec_FDViolation_s g7) (sp 4 rfl (evn (kJ1 h _ (okr rfl)))))
 ·exact qg 8 g5 rfl (sp 7 rfl (evn (kJ1 h _ (okr rfl))))
def spec_FDVariables_J5 (rec : (Bool × Int × Int) → Option (Bool × Int)) (y12 : Int) (x21 : Bool) (x22 : Int) : Option (Bool × Int) := rec (x21, x22, (IntKind.i64.wrap (y12 + 1)))
def spec_FDVariables_J4 (rec : (Bool × Int × Int) → Option (Bool × Int)) (a1 : Y26) (e10 : Y194) (y11 : Int) (y12 : Int) (x21 : Bool) : Option (Bool × Int) := cond x21 (obind (geti a1.2.1 y12) fun e24 => obind (geti e10.2 e24) fun e26 => chk ((0 : Int) ≤ e26) (spec_FDVariables_J5 rec y12 x21 (orI y11 (shlI 1 e26)))) (spec_FDVariables_J5 rec y12 x21 y11)
def spec_FDVariables_B3 (a1 : Y26) (e10 : Y194) (rec : (Bool × Int × Int) → Option (Bool × Int)) (s : Bool × Int × Int) : Option (Bool × Int) := match s with
  | (y10, y11, y12) => cond (decide (y12 < (List.length a1.2.1 : Int))) (cond y10 (obind (geti a1.2.1 y12) fun e30 => obind (spec_l1In e30 0 (IntKind.i64.wrap ((List.length e10.2 : Int) - 1))) fun v32 => spec_FDVariables_J4 rec a1 e10 y11 y12 v32) (spec_FDVariables_J4 rec a1 e10 y11 y12 false)) (some (y10, y11))
def spec_FDVariables_J6 (rec : ((List Int) × (List Int) × Int) → Option ((List Int) × (List Int))) (y6 : Int) (x34 : List Int) (x35 : List Int) : Option ((List Int) × (List Int)) := rec (x34, x35, (IntKind.i64.wrap (y6 + 1)))
def spec_FDVariables_J2 (rec : ((List Int) × (List Int) × Int) → Option ((List Int) × (List Int))) (a1 : Y26) (y4 : List Int) (y5 : List Int) (y6 : Int) (e10 : Y194) (x13 : Bool) : Option ((List Int) × (List Int)) := obind (loopF (spec_FDVariables_B3 a1 e10) fz (x13, 0, 0)) fun o3 => (match o3 with
  | (z15, z16) => (cond z15 (chk (List.length y4 + List.length [z16] ≤ lim) (obind (geti e10.2 a1.2.2) fun e38 => chk (List.length y5 + List.length [e38] ≤ lim) (spec_FDVariables_J6 rec y6 (y4 ++ [z16]) (y5 ++ [e38])))) (chk (List.length y4 + List.length [0] ≤ lim) (chk (List.length y5 + List.length [-1] ≤ lim) (spec_FDVariables_J6 rec y6 (y4 ++ [0]) (y5 ++ [-1]))))))
def spec_FDVariables_B1 (a0 : Y91) (a1 : Y26) (rec : ((List Int) × (List Int) × Int) → Option ((List Int) × (List Int))) (s : (List Int) × (List Int) × Int) : Option ((List Int) × (List Int)) := match s with
  | (y4, y5, y6) => cond (decide (y6 < (List.length a0.2.1 : Int))) (obind (spec_IsValidQuery a0) fun v6 => cond v6 (obind (geti a0.2.1 y6) fun e10 => cond (e10.1 == a1.1) (obind (spec_l1In a1.2.2 0 (IntKind.i64.wrap ((List.length e10.2 : Int) - 1))) fun v44 => spec_FDVariables_J2 rec a1 y4 y5 y6 e10 v44) (spec_FDVariables_J2 rec a1 y4 y5 y6 e10 false)) (some (y4, y5))) (some (y4, y5))
def spec_FDVariables (a0 : Y91) (a1 : Y26) : Option ((List Int) × (List Int)) := obind (loopF (spec_FDVariables_B1 a0 a1) fz (([] : List Int), ([] : List Int), 0)) fun o1 => (match o1 with
  | (z2, z3) => (some (z2, z3)))
theorem spec_FDVariables_s {a0 : Y91} {a1 : Y26} {r : (List Int) × (List Int)} (h : spec_FDVariables a0 a1 = some r) : SoundAt Try.prog 233 [.agg (c92_ddd a0), .agg (c35_d a1)] (.tup [oL 3 ci64 r.1, oL 3 ci64 r.2]) := by
 unfold spec_FDVariables at h
 refine st lit233 rfl (rn 1 rfl (rs (qBs ci64 [] rfl rfl rfl zci64 (sp 1 rfl (evn (rs (qBs ci64 [] rfl rfl rfl zci64 (sp 1 rfl (evn (ls_seq_k fun K1 hK1 => rn 1 rfl ?_))))))))))
 obtain ⟨o1, hl, hr1⟩ := ob_some h
 have kXB1 : ∀ {z2 : List Int} {z3 : List Int}, (z2, z3) = o1 → Jn K1 [(6, oL 3 ci64 z2), (7, oL 3 ci64 z3)] := by
  intro z2 z3 h σ' hk
  subst h
  replace h := hr1
  try dsimp only at h
  exact hK1 _ (lh hk rfl (rn 1 rfl (ls_ret ((by cases h; exact ⟨.inl rfl, rfl⟩)))))
 refine ls_rec (fun (s : (List Int) × (List Int) × Int) => match s with | (y4, y5, y6) => [(2, .box [nI a0.1, dL c195_d a0.2.1, dL ci64 a0.2.2]), (3, .box [.str a1.1, dL ci64 a1.2.1, nI a1.2.2]), (6, oL 3 ci64 y4), (7, oL 3 ci64 y5), (8, nI y6)]) _ _ _ _ hl (okr rfl) (fun _ => rfl) ?_
 rintro m ⟨y4, y5, y6⟩ N h hN
 unfold spec_FDVariables_B1 at h
 dsimp only at h
 refine ls_seq_k fun K4 hK4 => rs (sp 6 rfl (?_))
 rcases cond_some h with ⟨g5, h⟩ | ⟨g5, h⟩
 ·refine qg 20 g5 rfl (sp 1 rfl (?_))
  obtain ⟨v6, g7, h⟩ := ob_some h
  refine oGR rfl rfl (qC (qa rfl (erg (erc rfl (erc (erD ec195_d _) (erc (erD eci64 _) rfl)))) eran) (spec_IsValidQuery_s g7) (sp 1 rfl (evn ?_)))
  rcases cond_some h with ⟨g8, h⟩ | ⟨g8, h⟩
  ·refine qT rfl g8 (ls_skip (hK4 _ (ls_seq_k fun K9 hK9 => ls_blk (rs (sp 3 rfl (?_))))))
   obtain ⟨e10, g11, h⟩ := ob_some h
   refine qI rfl zc195_d g11 (sp 3 rfl (evn (rk fun K12 hK12 => ?_)))
   have kJ2 : ∀ {x13 : Bool}, spec_FDVariables_J2 (loopF (spec_FDVariables_B1 a0 a1) m) a1 y4 y5 y6 e10 x13 = some o1 → Jn K12 [(2, .box [nI a0.1, dL c195_d a0.2.1, dL ci64 a0.2.2]), (3, .box [.str a1.1, dL ci64 a1.2.1, nI a1.2.2]), (6, oL 3 ci64 y4), (7, oL 3 ci64 y5), (8, nI y6), (9, .box [.str e10.1, dL ci64 e10.2]), (10, .bool x13)] := by
    intro x13 h σ' hk
    unfold spec_FDVariables_J2 at h
    refine hK12 _ (lh hk rfl (rn 1 rfl (ls_seq_k fun K14 hK14 => rn 1 rfl ?_)))
    obtain ⟨o3, hl, hr3⟩ := ob_some h
    have kXB3 : ∀ {z15 : Bool} {z16 : Int}, (z15, z16) = o3 → Jn K14 [(2, .box [nI a0.1, dL c195_d a0.2.1, dL ci64 a0.2.2]), (3, .box [.str a1.1, dL ci64 a1.2.1, nI a1.2.2]), (6, oL 3 ci64 y4), (7, oL 3 ci64 y5), (8, nI y6), (9, .box [.str e10.1, dL ci64 e10.2]), (10, .bool z15), (11, nI z16)] := by
     intro z15 z16 h σ' hk
     subst h
     replace h := hr3
     try dsimp only at h
     refine hK14 _ (lh hk rfl (rn 1 rfl ?_))
     have kJ6 : ∀ {x34 : List Int} {x35 : List Int}, spec_FDVariables_J6 (loopF (spec_FDVariables_B1 a0 a1) m) y6 x34 x35 = some o1 → Jn K9 [(2, .box [nI a0.1, dL c195_d a0.2.1, dL ci64 a0.2.2]), (3, .box [.str a1.1, dL ci64 a1.2.1, nI a1.2.2]), (6, oL 3 ci64 x34), (7, oL 3 ci64 x35), (8, nI y6)] := by
      intro x34 x35 h σ' hk
      unfold spec_FDVariables_J6 at h
      exact hK9 _ (lh hk rfl (rg (sp 3 rfl (evn (hN _ _ h (okr rfl))))))
     rcases cond_some h with ⟨g36, h⟩ | ⟨g36, h⟩
     ·refine qT rfl g36 (rs (sp 2 rfl (qBs ci64 [z16] rfl rfl rfl zci64 (?_))))
      obtain ⟨g37, h⟩ := chk_some h
      refine qA ci64 y4 [z16] rfl rfl (flat_len zci64 [z16]) rfl g37 (sp 1 rfl (evn (rg (sp 5 rfl (?_)))))
      obtain ⟨e38, g39, h⟩ := ob_some h
      refine qI rfl zci64 g39 (sp 1 rfl (qBs ci64 [e38] rfl rfl rfl zci64 (?_)))
      obtain ⟨g40, h⟩ := chk_some h
      exact qA ci64 y5 [e38] rfl rfl (flat_len zci64 [e38]) rfl g40 (sp 1 rfl (evn (kJ6 h _ (okr rfl))))
     ·refine qF rfl g36 (rs (sp 1 rfl (qBs ci64 [0] rfl rfl rfl zci64 (?_))))
      obtain ⟨g41, h⟩ := chk_some h
      refine qA ci64 y4 [0] rfl rfl (flat_len zci64 [0]) rfl g41 (sp 1 rfl (evn (rg (sp 1 rfl (qBs ci64 [-1] rfl rfl rfl zci64 (?_))))))
      obtain ⟨g42, h⟩ := chk_some h
      exact qA ci64 y5 [-1] rfl rfl (flat_len zci64 [-1]) rfl g42 (sp 1 rfl (evn (kJ6 h _ (okr rfl))))
    refine ls_rec (fun (s : Bool × Int × Int) => match s with | (y10, y11, y12) => [(2, .box [nI a0.1, dL c195_d a0.2.1, dL ci64 a0.2.2]), (3, .box [.str a1.1, dL ci64 a1.2.1, nI a1.2.2]), (6, oL 3 ci64 y4), (7, oL 3 ci64 y5), (8, nI y6), (9, .box [.str e10.1, dL ci64 e10.2]), (10, .bool y10), (11, nI y11), (12, nI y12)]) _ _ _ _ hl (okr rfl) (fun _ => rfl) ?_
    rintro m ⟨y10, y11, y12⟩ N h hN
    unfold spec_FDVariables_B3 at h
    dsimp only at h
    refine ls_seq_k fun K17 hK17 => rn 1 rfl ?_
    rcases cond_some h with ⟨g18, h⟩ | ⟨g18, h⟩
    ·refine qT rfl g18 (ls_skip (hK17 _ (ls_seq_k fun K19 hK19 => ls_blk (rdk (by kernel_rfl) fun K20 hK20 => ?_))))
     have kJ4 : ∀ {x21 : Bool}, spec_FDVariables_J4 (loopF (spec_FDVariables_B3 a1 e10) m) a1 e10 y11 y12 x21 = some o3 → Jn K20 [(2, .box [nI a0.1, dL c195_d a0.2.1, dL ci64 a0.2.2]), (3, .box [.str a1.1, dL ci64 a1.2.1, nI a1.2.2]), (6, oL 3 ci64 y4), (7, oL 3 ci64 y5), (8, nI y6), (9, .box [.str e10.1, dL ci64 e10.2]), (10, .bool x21), (11, nI y11), (12, nI y12)] := by
      intro x21 h σ' hk
      unfold spec_FDVariables_J4 at h
      refine hK20 _ (lh hk rfl (rn 1 rfl ?_))
      have kJ5 : ∀ {x22 : Int}, spec_FDVariables_J5 (loopF (spec_FDVariables_B3 a1 e10) m) y12 x21 x22 = some o3 → Jn K19 [(2, .box [nI a0.1, dL c195_d a0.2.1, dL ci64 a0.2.2]), (3, .box [.str a1.1, dL ci64 a1.2.1, nI a1.2.2]), (6, oL 3 ci64 y4), (7, oL 3 ci64 y5), (8, nI y6), (9, .box [.str e10.1, dL ci64 e10.2]), (10, .bool x21), (11, nI x22), (12, nI y12)] := by
       intro x22 h σ' hk
       unfold spec_FDVariables_J5 at h
       exact hK19 _ (lh hk rfl (rg (sp 3 rfl (evn (hN _ _ h (okr rfl))))))
      rcases cond_some h with ⟨g23, h⟩ | ⟨g23, h⟩
      ·refine qT rfl g23 (rgd (by kernel_rfl) (sd 6 rfl (?_)))
       obtain ⟨e24, g25, h⟩ := ob_some h
       refine ed rfl (qI rfl zci64 g25 (sd 1 rfl (?_)))
       obtain ⟨e26, g27, h⟩ := ob_some h
       refine ed rfl (qI rfl zci64 g27 (sd 1 rfl (?_)))
       obtain ⟨g28, h⟩ := chk_some h
       exact ed rfl (qB rfl g28 rfl (sd 2 rfl (evdn (kJ5 h _ (okr rfl)))))
      ·exact qF rfl g23 (ls_skip (kJ5 h _ (okr rfl)))
     refine sd 2 rfl (?_)
     rcases cond_some h with ⟨g29, h⟩ | ⟨g29, h⟩
     ·refine qgd 53 g29 rfl (sd 3 rfl (?_))
      obtain ⟨e30, g31, h⟩ := ob_some h
      refine ed rfl (oGR rfl rfl (qI rfl zci64 g31 (sd 5 rfl (?_))))
      obtain ⟨v32, g33, h⟩ := ob_some h
      exact ed rfl (oGR rfl rfl (qC (qs rfl (qs rfl (qs rfl eran))) (spec_l1In_s g33) (sd 2 rfl (evdn (kJ4 h _ (okr rfl))))))
     ·exact qgd 53 g29 rfl (sd 12 rfl (evdn (kJ4 h _ (okr rfl))))
    ·exact qF rfl g18 (ls_exit (kXB3 (Option.some.inj h) _ (okr rfl)))
   refine sp 6 rfl (?_)
   rcases cond_some h with ⟨g43, h⟩ | ⟨g43, h⟩
   ·refine qg 36 g43 rfl (sp 6 rfl (?_))
    obtain ⟨v44, g45, h⟩ := ob_some h
    exact oGR rfl rfl (qC (qs rfl (qs rfl (qs rfl eran))) (spec_l1In_s g45) (sp 2 rfl (evn (kJ2 h _ (okr rfl)))))
   ·exact qg 36 g43 rfl (sp 9 rfl (evn (kJ2 h _ (okr rfl))))
  ·exact qF rfl g8 (ls_exit (kXB1 (Option.some.inj h) _ (okr rfl)))
 ·exact qg 20 g5 rfl (sp 3 rfl (evn (qk [2, 3, 6, 7, 8, 23] rfl (qF rfl rfl (ls_exit (kXB1 (Option.some.inj h) _ (okr rfl)))))))
def spec_FDClosure_J2 (rec : (Int × Int) → Option (Int)) (y2 : Int) (x14 : Int) : Option (Int) := rec (x14, (IntKind.i64.wrap (y2 + 1)))
def spec_FDClosure_B1 (a0 : Y91) (a2 : List Int) (rec : (Int × Int) → Option (Int)) (s : Int × Int) : Option (Int) := match s with
  | (y1, y2) => cond (decide (y2 < (List.length a2 : Int))) (obind (geti a2 y2) fun e10 => obind (spec_l1In e10 0 (IntKind.i64.wrap (a0.1 - 1))) fun v12 => cond v12 (obind (geti a2 y2) fun e16 => chk ((0 : Int) ≤ e16) (spec_FDClosure_J2 rec y2 (orI y1 (shlI 1 e16)))) (spec_FDClosure_J2 rec y2 y1)) (some y1)
def spec_FDClosure_J7 (rec : (Int × Int) → Option (Int)) (y28 : Int) (x38 : Int) : Option (Int) := rec (x38, (IntKind.i64.wrap (y28 + 1)))
def spec_FDClosure_J6 (rec : (Int × Int) → Option (Int)) (v30 : (List Int) × (List Int)) (y27 : Int) (y28 : Int) (x37 : Bool) : Option (Int) := cond x37 (obind (geti v30.2 y28) fun e40 => chk ((0 : Int) ≤ e40) (spec_FDClosure_J7 rec y28 (orI y27 (shlI 1 e40)))) (spec_FDClosure_J7 rec y28 y27)
def spec_FDClosure_B5 (v30 : (List Int) × (List Int)) (rec : (Int × Int) → Option (Int)) (s : Int × Int) : Option (Int) := match s with
  | (y27, y28) => cond (decide (y28 < (List.length v30.1 : Int))) (obind (geti v30.2 y28) fun e43 => cond (decide (0 ≤ e43)) (obind (geti v30.1 y28) fun e46 => spec_FDClosure_J6 rec v30 y27 y28 ((andNotI e46 y27) == 0)) (spec_FDClosure_J6 rec v30 y27 y28 false)) (some y27)
def spec_FDClosure_B4 (a0 : Y91) (a1 : List Y26) (rec : (Int × Int) → Option (Int)) (s : Int × Int) : Option (Int) := match s with
  | (y23, y24) => cond (decide (y24 < (List.length a1 : Int))) (obind (geti a1 y24) fun e28 => obind (spec_FDVariables a0 e28) fun v30 => obind (loopF (spec_FDClosure_B5 v30) fz (y23, 0)) fun z32 => rec (z32, (IntKind.i64.wrap (y24 + 1)))) (some y23)
def spec_FDClosure_B3 (a0 : Y91) (a1 : List Y26) (rec : (Int × Int) → Option (Int)) (s : Int × Int) : Option (Int) := match s with
  | (y11, y12) => cond (decide (y12 < a0.1)) (obind (loopF (spec_FDClosure_B4 a0 a1) fz (y11, 0)) fun z24 => rec (z24, (IntKind.i64.wrap (y12 + 1)))) (some y11)
def spec_FDClosure_J9 (rec : ((List Int) × Int) → Option ((List Int))) (y30 : Int) (x54 : List Int) : Option ((List Int)) := rec (x54, (IntKind.i64.wrap (y30 + 1)))
def spec_FDClosure_B8 (a0 : Y91) (z20 : Int) (rec : ((List Int) × Int) → Option ((List Int))) (s : (List Int) × Int) : Option ((List Int)) := match s with
  | (y29, y30) => cond (decide (y30 < a0.1)) (chk ((0 : Int) ≤ y30) (cond ((andI (shrI z20 y30) 1) == 1) (chk (List.length y29 + List.length [y30] ≤ lim) (spec_FDClosure_J9 rec y30 (y29 ++ [y30]))) (spec_FDClosure_J9 rec y30 y29))) (some y29)
def spec_FDClosure (a0 : Y91) (a1 : List Y26) (a2 : List Int) : Option ((List Int)) := obind (spec_IsValidQuery a0) fun v2 => cond (!v2) (some ([] : List Int)) (obind (loopF (spec_FDClosure_B1 a0 a2) fz (0, 0)) fun z6 => obind (loopF (spec_FDClosure_B3 a0 a1) fz (z6, 0)) fun z20 => obind (loopF (spec_FDClosure_B8 a0 z20) fz (([] : List Int), 0)) fun z49 => some z49)
theorem spec_FDClosure_s {a0 : Y91} {a1 : List Y26} {a2 : List Int} {r : (List Int)} (h : spec_FDClosure a0 a1 a2 = some r) : SoundAt Try.prog 166 [.agg (c92_ddd a0), dL c35_d a1, dL ci64 a2] (oL 3 ci64 r) := by
 unfold spec_FDClosure at h
 refine st lit166 rfl (rn 1 rfl (rs (qBs ci64 [] rfl rfl rfl zci64 (sp 1 rfl (evn (ls_seq_k fun K1 hK1 => rs (sp 1 rfl (?_))))))))
 obtain ⟨v2, g3, h⟩ := ob_some h
 refine qC (qa rfl (erg (erc rfl (erc (erD ec195_d _) (erc (erD eci64 _) rfl)))) eran) (spec_IsValidQuery_s g3) (sp 1 rfl (evn ?_))
 rcases cond_some h with ⟨g4, h⟩ | ⟨g4, h⟩
 ·exact qT rfl g4 (rn 1 rfl (ls_ret ((by cases h; exact ⟨.inl rfl, rfl⟩))))
 ·refine qF rfl g4 (ls_skip (hK1 _ (rn 1 rfl (ls_seq_k fun K5 hK5 => rn 1 rfl ?_))))
  obtain ⟨o1, hl, hr1⟩ := ob_some h
  have kXB1 : ∀ {z6 : Int}, z6 = o1 → Jn K5 [(1, dL c35_d a1), (3, .box [nI a0.1, dL c195_d a0.2.1, dL ci64 a0.2.2]), (7, oL 3 ci64 []), (8, nI z6)] := by
   intro z6 h σ' hk
   subst h
   replace h := hr1
   try dsimp only at h
   refine hK5 _ (lh hk rfl (ls_seq_k fun K19 hK19 => rn 1 rfl ?_))
   obtain ⟨o3, hl, hr3⟩ := ob_some h
   have kXB3 : ∀ {z20 : Int}, z20 = o3 → Jn K19 [(3, .box [nI a0.1, dL c195_d a0.2.1, dL ci64 a0.2.2]), (7, oL 3 ci64 []), (8, nI z20)] := by
    intro z20 h σ' hk
    subst h
    replace h := hr3
    try dsimp only at h
    refine hK19 _ (lh hk rfl (ls_seq_k fun K48 hK48 => rn 1 rfl ?_))
    obtain ⟨o8, hl, hr8⟩ := ob_some h
    have kXB8 : ∀ {z49 : List Int}, z49 = o8 → Jn K48 [(7, oL 3 ci64 z49)] := by
     intro z49 h σ' hk
     subst h
     replace h := hr8
     try dsimp only at h
     exact hK48 _ (lh hk rfl (rn 1 rfl (ls_ret ((by cases h; exact ⟨.inl rfl, rfl⟩)))))
    refine ls_rec (fun (s : (List Int) × Int) => match s with | (y29, y30) => [(3, .box [nI a0.1, dL c195_d a0.2.1, dL ci64 a0.2.2]), (7, oL 3 ci64 y29), (8, nI z20), (15, nI y30)]) _ _ _ _ hl (okr rfl) (fun _ => rfl) ?_
    rintro m ⟨y29, y30⟩ N h hN
    unfold spec_FDClosure_B8 at h
    dsimp only at h
    refine ls_seq_k fun K50 hK50 => rn 1 rfl ?_
    rcases cond_some h with ⟨g51, h⟩ | ⟨g51, h⟩
    ·refine qT rfl g51 (ls_skip (hK50 _ (ls_seq_k fun K52 hK52 => ls_blk (rs (sp 2 rfl (?_))))))
     obtain ⟨g53, h⟩ := chk_some h
     refine qB rfl g53 rfl (sp 2 rfl (evn ?_))
     have kJ9 : ∀ {x54 : List Int}, spec_FDClosure_J9 (loopF (spec_FDClosure_B8 a0 z20) m) y30 x54 = some o8 → Jn K52 [(3, .box [nI a0.1, dL c195_d a0.2.1, dL ci64 a0.2.2]), (7, oL 3 ci64 x54), (8, nI z20), (15, nI y30)] := by
      intro x54 h σ' hk
      unfold spec_FDClosure_J9 at h
      exact hK52 _ (lh hk rfl (rg (sp 3 rfl (evn (hN _ _ h (okr rfl))))))
     rcases cond_some h with ⟨g55, h⟩ | ⟨g55, h⟩
     ·refine qT rfl g55 (rg (sp 2 rfl (qBs ci64 [y30] rfl rfl rfl zci64 (?_))))
      obtain ⟨g56, h⟩ := chk_some h
      exact qA ci64 y29 [y30] rfl rfl (flat_len zci64 [y30]) rfl g56 (sp 1 rfl (evn (kJ9 h _ (okr rfl))))
     ·exact qF rfl g55 (ls_skip (kJ9 h _ (okr rfl)))
    ·exact qF rfl g51 (ls_exit (kXB8 (Option.some.inj h) _ (okr rfl)))
   refine ls_rec (fun (s : Int × Int) => match s with | (y11, y12) => [(1, dL c35_d a1), (3, .box [nI a0.1, dL c195_d a0.2.1, dL ci64 a0.2.2]), (7, oL 3 ci64 []), (8, nI y11), (10, nI y12)]) _ _ _ _ hl (okr rfl) (fun _ => rfl) ?_
   rintro m ⟨y11, y12⟩ N h hN
   unfold spec_FDClosure_B3 at h
   dsimp only at h
   refine ls_seq_k fun K21 hK21 => rn 1 rfl ?_
   rcases cond_some h with ⟨g22, h⟩ | ⟨g22, h⟩
   ·refine qT rfl g22 (ls_skip (hK21 _ (ls_seq_k fun K23 hK23 => ls_blk (rn 1 rfl ?_))))
    obtain ⟨o4, hl, hr4⟩ := ob_some h
    have kXB4 : ∀ {z24 : Int}, z24 = o4 → Jn K23 [(1, dL c35_d a1), (3, .box [nI a0.1, dL c195_d a0.2.1, dL ci64 a0.2.2]), (7, oL 3 ci64 []), (8, nI z24), (10, nI y12)] := by
     intro z24 h σ' hk
     subst h
     replace h := hr4
     try dsimp only at h
     exact hK23 _ (lh hk rfl (rg (sp 3 rfl (evn (hN _ _ h (okr rfl))))))
    refine ls_rec (fun (s : Int × Int) => match s with | (y23, y24) => [(1, dL c35_d a1), (3, .box [nI a0.1, dL c195_d a0.2.1, dL ci64 a0.2.2]), (7, oL 3 ci64 []), (8, nI y23), (10, nI y12), (11, nI y24)]) _ _ _ _ hl (okr rfl) (fun _ => rfl) ?_
    rintro m ⟨y23, y24⟩ N h hN
    unfold spec_FDClosure_B4 at h
    dsimp only at h
    refine ls_seq_k fun K25 hK25 => rn 1 rfl ?_
    rcases cond_some h with ⟨g26, h⟩ | ⟨g26, h⟩
    ·refine qT rfl g26 (ls_skip (hK25 _ (ls_seq_k fun K27 hK27 => ls_blk (rd (by kernel_rfl) (sd 3 rfl (?_))))))
     obtain ⟨e28, g29, h⟩ := ob_some h
     refine ed rfl (qI rfl zc35_d g29 (sd 1 rfl (?_)))
     obtain ⟨v30, g31, h⟩ := ob_some h
     refine ed rfl (qC (qa rfl (erg (erc rfl (erc (erD ec195_d _) (erc (erD eci64 _) rfl)))) (qa rfl (erg (erc rfl (erc (erD eci64 _) (erc rfl rfl)))) eran)) (spec_FDVariables_s g31) (sd 5 rfl (evdn (rn 1 rfl ?_))))
     obtain ⟨o5, hl, hr5⟩ := ob_some h
     have kXB5 : ∀ {z32 : Int}, z32 = o5 → Jn K27 [(1, dL c35_d a1), (3, .box [nI a0.1, dL c195_d a0.2.1, dL ci64 a0.2.2]), (7, oL 3 ci64 []), (8, nI z32), (10, nI y12), (11, nI y24)] := by
      intro z32 h σ' hk
      subst h
      replace h := hr5
      try dsimp only at h
      exact hK27 _ (lh hk rfl (rg (sp 3 rfl (evn (hN _ _ h (okr rfl))))))
     refine ls_rec (fun (s : Int × Int) => match s with | (y27, y28) => [(1, dL c35_d a1), (3, .box [nI a0.1, dL c195_d a0.2.1, dL ci64 a0.2.2]), (7, oL 3 ci64 []), (8, nI y27), (10, nI y12), (11, nI y24), (12, oL 3 ci64 v30.1), (13, oL 3 ci64 v30.2), (14, nI y28)]) _ _ _ _ hl (okr rfl) (fun _ => rfl) ?_
     rintro m ⟨y27, y28⟩ N h hN
     unfold spec_FDClosure_B5 at h
     dsimp only at h
     refine ls_seq_k fun K33 hK33 => rn 1 rfl ?_
     rcases cond_some h with ⟨g34, h⟩ | ⟨g34, h⟩
     ·refine qT rfl g34 (ls_skip (hK33 _ (ls_seq_k fun K35 hK35 => ls_blk (rk fun K36 hK36 => ?_))))
      have kJ6 : ∀ {x37 : Bool}, spec_FDClosure_J6 (loopF (spec_FDClosure_B5 v30) m) v30 y27 y28 x37 = some o5 → Jn K36 [(1, dL c35_d a1), (3, .box [nI a0.1, dL c195_d a0.2.1, dL ci64 a0.2.2]), (7, oL 3 ci64 []), (8, nI y27), (10, nI y12), (11, nI y24), (12, oL 3 ci64 v30.1), (13, oL 3 ci64 v30.2), (14, nI y28), (82, .bool x37)] := by
       intro x37 h σ' hk
       unfold spec_FDClosure_J6 at h
       refine hK36 _ (lh hk rfl ?_)
       have kJ7 : ∀ {x38 : Int}, spec_FDClosure_J7 (loopF (spec_FDClosure_B5 v30) m) y28 x38 = some o5 → Jn K35 [(1, dL c35_d a1), (3, .box [nI a0.1, dL c195_d a0.2.1, dL ci64 a0.2.2]), (7, oL 3 ci64 []), (8, nI x38), (10, nI y12), (11, nI y24), (12, oL 3 ci64 v30.1), (13, oL 3 ci64 v30.2), (14, nI y28)] := by
        intro x38 h σ' hk
        unfold spec_FDClosure_J7 at h
        exact hK35 _ (lh hk rfl (rg (sp 3 rfl (evn (hN _ _ h (okr rfl))))))
       rcases cond_some h with ⟨g39, h⟩ | ⟨g39, h⟩
       ·refine qT rfl g39 (rg (sp 3 rfl (?_)))
        obtain ⟨e40, g41, h⟩ := ob_some h
        refine qI rfl zci64 g41 (sp 1 rfl (?_))
        obtain ⟨g42, h⟩ := chk_some h
        exact qB rfl g42 rfl (sp 2 rfl (evn (kJ7 h _ (okr rfl))))
       ·exact qF rfl g39 (ls_skip (kJ7 h _ (okr rfl)))
      refine sp 2 rfl (?_)
      obtain ⟨e43, g44, h⟩ := ob_some h
      refine qI rfl zci64 g44 (sp 3 rfl (?_))
      rcases cond_some h with ⟨g45, h⟩ | ⟨g45, h⟩
      ·refine qg 74 g45 rfl (sp 2 rfl (?_))
       obtain ⟨e46, g47, h⟩ := ob_some h
       exact oGR rfl rfl (qI rfl zci64 g47 (sp 5 rfl (evn (kJ6 h _ (okr rfl)))))
      ·exact qg 74 g45 rfl (sp 8 rfl (evn (kJ6 h _ (okr rfl))))
     ·exact qF rfl g34 (ls_exit (kXB5 (Option.some.inj h) _ (okr rfl)))
    ·exact qF rfl g26 (ls_exit (kXB4 (Option.some.inj h) _ (okr rfl)))
   ·exact qF rfl g22 (ls_exit (kXB3 (Option.some.inj h) _ (okr rfl)))
  refine ls_rec (fun (s : Int × Int) => match s with | (y1, y2) => [(1, dL c35_d a1), (2, dL ci64 a2), (3, .box [nI a0.1, dL c195_d a0.2.1, dL ci64 a0.2.2]), (7, oL 3 ci64 []), (8, nI y1), (9, nI y2)]) _ _ _ _ hl (okr rfl) (fun _ => rfl) ?_
  rintro m ⟨y1, y2⟩ N h hN
  unfold spec_FDClosure_B1 at h
  dsimp only at h
  refine ls_seq_k fun K7 hK7 => rn 1 rfl ?_
  rcases cond_some h with ⟨g8, h⟩ | ⟨g8, h⟩
  ·refine qT rfl g8 (ls_skip (hK7 _ (ls_seq_k fun K9 hK9 => ls_blk (rd (by kernel_rfl) (sd 2 rfl (?_))))))
   obtain ⟨e10, g11, h⟩ := ob_some h
   refine ed rfl (qI rfl zci64 g11 (sd 4 rfl (?_)))
   obtain ⟨v12, g13, h⟩ := ob_some h
   refine ed rfl (qC (qs rfl (qs rfl (qs rfl eran))) (spec_l1In_s g13) (evdn ?_))
   have kJ2 : ∀ {x14 : Int}, spec_FDClosure_J2 (loopF (spec_FDClosure_B1 a0 a2) m) y2 x14 = some o1 → Jn K9 [(1, dL c35_d a1), (2, dL ci64 a2), (3, .box [nI a0.1, dL c195_d a0.2.1, dL ci64 a0.2.2]), (7, oL 3 ci64 []), (8, nI x14), (9, nI y2)] := by
    intro x14 h σ' hk
    unfold spec_FDClosure_J2 at h
    exact hK9 _ (lh hk rfl (rg (sp 3 rfl (evn (hN _ _ h (okr rfl))))))
   rcases cond_some h with ⟨g15, h⟩ | ⟨g15, h⟩
   ·refine qT rfl g15 (rg (sp 3 rfl (?_)))
    obtain ⟨e16, g17, h⟩ := ob_some h
    refine qI rfl zci64 g17 (sp 1 rfl (?_))
    obtain ⟨g18, h⟩ := chk_some h
    exact qB rfl g18 rfl (sp 2 rfl (evn (kJ2 h _ (okr rfl))))
   ·exact qF rfl g15 (ls_skip (kJ2 h _ (okr rfl)))
  ·exact qF rfl g8 (ls_exit (kXB1 (Option.some.inj h) _ (okr rfl)))
def spec_FDBound_B1 (a0 : List Y207) (a2 : List Y26) (rec : Int → Option (Sum (Unit) (Int × Bool))) (y1 : Int) : Option (Sum (Unit) (Int × Bool)) := cond (decide (y1 < (List.length a2 : Int))) (obind (geti a2 y1) fun e9 => obind (spec_FDHolds a0 e9) fun v11 => cond (!v11) (some (.inr (0, false))) (rec (IntKind.i64.wrap (y1 + 1)))) (some (.inl ()))
def spec_FDBound_J4 (rec : ((List Int) × Int × Int) → Option ((List Int) × Int)) (y12 : Int) (x27 : List Int) (x28 : Int) : Option ((List Int) × Int) := rec (x27, x28, (IntKind.i64.wrap (y12 + 1)))
def spec_FDBound_B3 (a1 : Y91) (v1 : (List Int) × Bool) (y6 : Int) (rec : ((List Int) × Int × Int) → Option ((List Int) × Int)) (s : (List Int) × Int × Int) : Option ((List Int) × Int) := match s with
  | (y10, y11, y12) => cond (decide (y12 < (List.length a1.2.1 : Int))) (chk ((0 : Int) ≤ y12) (cond ((andI (shrI y6 y12) 1) == 1) (obind (geti a1.2.1 y12) fun e30 => chk (List.length y10 + List.length e30.2 ≤ lim) (obind (geti v1.1 y12) fun e33 => spec_FDBound_J4 rec y12 (y10 ++ e30.2) (IntKind.i64.wrap (y11 * e33)))) (spec_FDBound_J4 rec y12 y10 y11))) (some (y10, y11))
def spec_FDBound_J6 (rec : (Int × Int) → Option (Int)) (y6 : Int) (x37 : Int) : Option (Int) := rec (x37, (IntKind.i64.wrap (y6 + 1)))
def spec_FDBound_J5 (rec : (Int × Int) → Option (Int)) (y5 : Int) (y6 : Int) (z22 : Int) (x36 : Bool) : Option (Int) := cond x36 (spec_FDBound_J6 rec y6 z22) (spec_FDBound_J6 rec y6 y5)
def spec_FDBound_B2 (a1 : Y91) (a2 : List Y26) (v1 : (List Int) × Bool) (rec : (Int × Int) → Option (Int)) (s : Int × Int) : Option (Int) := match s with
  | (y5, y6) => chk ((0 : Int) ≤ (List.length a1.2.1 : Int)) (cond (decide (y6 < (shlI 1 (List.length a1.2.1 : Int)))) (obind (loopF (spec_FDBound_B3 a1 v1 y6) fz (([] : List Int), 1, 0)) fun o3 => (match o3 with
  | (z21, z22) => (obind (spec_FDClosure a1 a2 z21) fun v39 => cond ((List.length v39 : Int) == a1.1) (cond (decide (y5 < 0)) (spec_FDBound_J5 rec y5 y6 z22 true) (spec_FDBound_J5 rec y5 y6 z22 (decide (z22 < y5)))) (spec_FDBound_J5 rec y5 y6 z22 false)))) (some y5))
def spec_FDBound (a0 : List Y207) (a1 : Y91) (a2 : List Y26) : Option (Int × Bool) := obind (spec_AtomSizes a0 a1) fun v1 => cond (!v1.2) (some (0, false)) (obind (loopF (spec_FDBound_B1 a0 a2) fz 0) fun o1 => (match o1 with
  | .inl _ => (obind (loopF (spec_FDBound_B2 a1 a2 v1) fz ((-1), 0)) fun z15 => some (z15, true))
  | .inr r => some r))
theorem spec_FDBound_s {a0 : List Y207} {a1 : Y91} {a2 : List Y26} {r : Int × Bool} (h : spec_FDBound a0 a1 a2 = some r) : SoundAt Try.prog 67 [.agg [dL c208_dd a0], .agg (c92_ddd a1), dL c35_d a2] (.tup [nI r.1, .bool r.2]) := by
 unfold spec_FDBound at h
 refine st lit67 rfl (rn 1 rfl (rs (sp 2 rfl (?_))))
 obtain ⟨v1, g2, h⟩ := ob_some h
 refine qC (qa rfl (erg (erc (erD ec208_dd _) rfl)) (qa rfl (erg (erc rfl (erc (erD ec195_d _) (erc (erD eci64 _) rfl)))) eran)) (spec_AtomSizes_s g2) (sp 5 rfl (evn (ls_seq_k fun K3 hK3 => rn 1 rfl ?_)))
 rcases cond_some h with ⟨g4, h⟩ | ⟨g4, h⟩
 ·exact qT rfl g4 (rn 1 rfl (ls_ret ((by cases h; exact ⟨.inl rfl, rfl⟩))))
 ·refine qF rfl g4 (ls_skip (hK3 _ (ls_seq_k fun K5 hK5 => rn 1 rfl ?_)))
  obtain ⟨o1, hl, hr1⟩ := ob_some h
  have kXB1 : (.inl ()) = o1 → Jn K5 [(2, dL c35_d a2), (4, .box [nI a1.1, dL c195_d a1.2.1, dL ci64 a1.2.2]), (8, oL 3 ci64 v1.1)] := by
   intro h σ' hk
   subst h
   replace h := hr1
   try dsimp only at h
   refine hK5 _ (lh hk rfl (rn 1 rfl (ls_seq_k fun K14 hK14 => rn 1 rfl ?_)))
   obtain ⟨o2, hl, hr2⟩ := ob_some h
   have kXB2 : ∀ {z15 : Int}, z15 = o2 → Jn K14 [(11, nI z15)] := by
    intro z15 h σ' hk
    subst h
    replace h := hr2
    try dsimp only at h
    exact hK14 _ (lh hk rfl (rn 1 rfl (ls_ret ((by cases h; exact ⟨.inl rfl, rfl⟩)))))
   refine ls_rec (fun (s : Int × Int) => match s with | (y5, y6) => [(2, dL c35_d a2), (4, .box [nI a1.1, dL c195_d a1.2.1, dL ci64 a1.2.2]), (8, oL 3 ci64 v1.1), (11, nI y5), (12, nI y6)]) _ _ _ _ hl (okr rfl) (fun _ => rfl) ?_
   rintro m ⟨y5, y6⟩ N h hN
   unfold spec_FDBound_B2 at h
   dsimp only at h
   refine ls_seq_k fun K16 hK16 => rs (sp 4 rfl (?_))
   obtain ⟨g17, h⟩ := chk_some h
   refine qB rfl g17 rfl (sp 1 rfl (evn ?_))
   rcases cond_some h with ⟨g18, h⟩ | ⟨g18, h⟩
   ·refine qT rfl g18 (ls_skip (hK16 _ (ls_seq_k fun K19 hK19 => ls_blk (rs (qBs ci64 [] rfl rfl rfl zci64 (sp 1 rfl (evn (rn 1 rfl (ls_seq_k fun K20 hK20 => rn 1 rfl ?_)))))))))
    obtain ⟨o3, hl, hr3⟩ := ob_some h
    have kXB3 : ∀ {z21 : List Int} {z22 : Int}, (z21, z22) = o3 → Jn K20 [(2, dL c35_d a2), (4, .box [nI a1.1, dL c195_d a1.2.1, dL ci64 a1.2.2]), (8, oL 3 ci64 v1.1), (11, nI y5), (12, nI y6), (13, oL 3 ci64 z21), (14, nI z22)] := by
     intro z21 z22 h σ' hk
     subst h
     replace h := hr3
     try dsimp only at h
     refine hK20 _ (lh hk rfl (rdk (by kernel_rfl) fun K35 hK35 => ?_))
     have kJ5 : ∀ {x36 : Bool}, spec_FDBound_J5 (loopF (spec_FDBound_B2 a1 a2 v1) m) y5 y6 z22 x36 = some o2 → Jn K35 [(2, dL c35_d a2), (4, .box [nI a1.1, dL c195_d a1.2.1, dL ci64 a1.2.2]), (8, oL 3 ci64 v1.1), (11, nI y5), (12, nI y6), (14, nI z22), (88, .bool x36)] := by
      intro x36 h σ' hk
      unfold spec_FDBound_J5 at h
      refine hK35 _ (lh hk rfl ?_)
      have kJ6 : ∀ {x37 : Int}, spec_FDBound_J6 (loopF (spec_FDBound_B2 a1 a2 v1) m) y6 x37 = some o2 → Jn K19 [(2, dL c35_d a2), (4, .box [nI a1.1, dL c195_d a1.2.1, dL ci64 a1.2.2]), (8, oL 3 ci64 v1.1), (11, nI x37), (12, nI y6)] := by
       intro x37 h σ' hk
       unfold spec_FDBound_J6 at h
       exact hK19 _ (lh hk rfl (rg (sp 3 rfl (evn (hN _ _ h (okr rfl))))))
      rcases cond_some h with ⟨g38, h⟩ | ⟨g38, h⟩
      ·exact qT rfl g38 (rg (sp 2 rfl (evn (kJ6 h _ (okr rfl)))))
      ·exact qF rfl g38 (ls_skip (kJ6 h _ (okr rfl)))
     refine sd 3 rfl (?_)
     obtain ⟨v39, g40, h⟩ := ob_some h
     refine ed rfl (qC (qa rfl (erg (erc rfl (erc (erD ec195_d _) (erc (erD eci64 _) rfl)))) (qa rfl (erD ec35_d _) (qa rfl (erD eci64 _) eran))) (spec_FDClosure_s g40) (sd 5 rfl (?_)))
     rcases cond_some h with ⟨g41, h⟩ | ⟨g41, h⟩
     ·refine qgd 80 g41 rfl (sd 3 rfl (?_))
      rcases cond_some h with ⟨g42, h⟩ | ⟨g42, h⟩
      ·exact qgd 83 g42 rfl (sd 5 rfl (evdn (kJ5 h _ (okr rfl))))
      ·exact qgd 83 g42 rfl (sd 5 rfl (evdn (kJ5 h _ (okr rfl))))
     ·exact qgd 80 g41 rfl (sd 8 rfl (evdn (kJ5 h _ (okr rfl))))
    refine ls_rec (fun (s : (List Int) × Int × Int) => match s with | (y10, y11, y12) => [(2, dL c35_d a2), (4, .box [nI a1.1, dL c195_d a1.2.1, dL ci64 a1.2.2]), (8, oL 3 ci64 v1.1), (11, nI y5), (12, nI y6), (13, oL 3 ci64 y10), (14, nI y11), (15, nI y12)]) _ _ _ _ hl (okr rfl) (fun _ => rfl) ?_
    rintro m ⟨y10, y11, y12⟩ N h hN
    unfold spec_FDBound_B3 at h
    dsimp only at h
    refine ls_seq_k fun K23 hK23 => rn 1 rfl ?_
    rcases cond_some h with ⟨g24, h⟩ | ⟨g24, h⟩
    ·refine qT rfl g24 (ls_skip (hK23 _ (ls_seq_k fun K25 hK25 => ls_blk (rs (sp 2 rfl (?_))))))
     obtain ⟨g26, h⟩ := chk_some h
     refine qB rfl g26 rfl (sp 2 rfl (evn ?_))
     have kJ4 : ∀ {x27 : List Int} {x28 : Int}, spec_FDBound_J4 (loopF (spec_FDBound_B3 a1 v1 y6) m) y12 x27 x28 = some o3 → Jn K25 [(2, dL c35_d a2), (4, .box [nI a1.1, dL c195_d a1.2.1, dL ci64 a1.2.2]), (8, oL 3 ci64 v1.1), (11, nI y5), (12, nI y6), (13, oL 3 ci64 x27), (14, nI x28), (15, nI y12)] := by
      intro x27 x28 h σ' hk
      unfold spec_FDBound_J4 at h
      exact hK25 _ (lh hk rfl (rg (sp 3 rfl (evn (hN _ _ h (okr rfl))))))
     rcases cond_some h with ⟨g29, h⟩ | ⟨g29, h⟩
     ·refine qT rfl g29 (rs (sp 4 rfl (?_)))
      obtain ⟨e30, g31, h⟩ := ob_some h
      refine qI rfl zc195_d g31 (sp 2 rfl (?_))
      obtain ⟨g32, h⟩ := chk_some h
      refine qA ci64 y10 e30.2 rfl rfl (flat_len zci64 e30.2) (map_dg (fun _ => rfl) _) g32 (sp 1 rfl (evn (rg (sp 3 rfl (?_)))))
      obtain ⟨e33, g34, h⟩ := ob_some h
      exact qI rfl zci64 g34 (sp 3 rfl (evn (kJ4 h _ (okr rfl))))
     ·exact qF rfl g29 (ls_skip (kJ4 h _ (okr rfl)))
    ·exact qF rfl g24 (ls_exit (kXB3 (Option.some.inj h) _ (okr rfl)))
   ·exact qF rfl g18 (ls_exit (kXB2 (Option.some.inj h) _ (okr rfl)))
  refine ls_rec (fun (y1 : Int) => [(2, dL c35_d a2), (3, .box [dL c208_dd a0]), (4, .box [nI a1.1, dL c195_d a1.2.1, dL ci64 a1.2.2]), (8, oL 3 ci64 v1.1), (10, nI y1)]) _ _ _ _ hl (okr rfl) (fun _ => rfl) ?_
  rintro m y1 N h hN
  unfold spec_FDBound_B1 at h
  refine ls_seq_k fun K6 hK6 => rn 1 rfl ?_
  rcases cond_some h with ⟨g7, h⟩ | ⟨g7, h⟩
  ·refine qT rfl g7 (ls_skip (hK6 _ (ls_seq_k fun K8 hK8 => ls_blk (rd (by kernel_rfl) (sd 3 rfl (?_))))))
   obtain ⟨e9, g10, h⟩ := ob_some h
   refine ed rfl (qI rfl zc35_d g10 (sd 1 rfl (?_)))
   obtain ⟨v11, g12, h⟩ := ob_some h
   refine ed rfl (qC (qa rfl (erg (erc (erD ec208_dd _) rfl)) (qa rfl (erg (erc rfl (erc (erD eci64 _) (erc rfl rfl)))) eran)) (spec_FDHolds_s g12) (sd 1 rfl (evdn ?_)))
   rcases cond_some h with ⟨g13, h⟩ | ⟨g13, h⟩
   ·exact qT rfl g13 (rn 1 rfl (ls_ret ((by cases h; cases hr1; exact ⟨.inl rfl, rfl⟩))))
   ·exact qF rfl g13 (ls_skip (hK8 _ (rg (sp 3 rfl (evn (hN _ _ h (okr rfl)))))))
  ·exact qF rfl g7 (ls_exit (kXB1 (Option.some.inj h) _ (okr rfl)))
def c35_o (x : Y26) : List V := [.str x.1, oL 3 ci64 x.2.1, nI x.2.2]
theorem zc35_o (x : Y26) : (c35_o x).length = 3 := rfl
theorem ec35_o (x : Y26) : erL (c35_o x) = c35_d x := (erc rfl (erc (erO eci64 _) (erc rfl rfl)))
def laws_toFunctionalDependency (a0 : Y26) : Option (Y26) := obind (laws_toIntS a0.2.1) fun v1 => some (a0.1, v1, a0.2.2)
theorem laws_toFunctionalDependency_s {a0 : Y26} {r : Y26} (h : laws_toFunctionalDependency a0 = some r) : SoundAt Try.prog 17 [.agg (c27_d a0)] (.agg (c35_o r)) := by
 unfold laws_toFunctionalDependency at h
 refine st lit17 rfl (rn 3 rfl (rs (sp 2 rfl (?_))))
 obtain ⟨v1, g2, h⟩ := ob_some h
 exact qC (qa rfl (erD eci64 _) eran) (laws_toIntS_s g2) (sp 2 rfl (evn (rn 2 rfl (ls_ret ((by cases h; exact ⟨.inl rfl, rfl⟩))))))
def laws_toFunctionalDependencyS_B1 (a0 : List Y26) (rec : ((List Y26) × Int) → Option ((List Y26))) (s : (List Y26) × Int) : Option ((List Y26)) := match s with
  | (y1, y2) => cond (decide (y2 < (List.length a0 : Int))) (obind (geti a0 y2) fun e7 => obind (laws_toFunctionalDependency e7) fun v9 => obind (geti y1 y2) fun e11 => rec ((seti y1 y2 v9), (IntKind.i64.wrap (y2 + 1)))) (some y1)
def laws_toFunctionalDependencyS (a0 : List Y26) : Option ((List Y26)) := chk ((0 : Int) ≤ (List.length a0 : Int) ∧ Int.toNat (List.length a0 : Int) ≤ lim) (obind (loopF (laws_toFunctionalDependencyS_B1 a0) fz ((List.replicate (Int.toNat (List.length a0 : Int)) (([], [], 0) : Y26)), 0)) fun z3 => some z3)
theorem laws_toFunctionalDependencyS_s {a0 : List Y26} {r : (List Y26)} (h : laws_toFunctionalDependencyS a0 = some r) : SoundAt Try.prog 68 [dL c27_d a0] (oL 35 c35_o r) := by
 unfold laws_toFunctionalDependencyS at h
 refine st lit68 rfl (rn 1 rfl (rs (sp 2 rfl (?_))))
 obtain ⟨g1, h⟩ := chk_some h
 refine qMu c35_o (([], [], 0) : Y26) rfl rfl rfl rfl g1 rfl (qAu rfl rfl rfl rfl (evn (ls_seq_k fun K2 hK2 => rn 1 rfl ?_)))
 obtain ⟨o1, hl, hr1⟩ := ob_some h
 have kXB1 : ∀ {z3 : List Y26}, z3 = o1 → Jn K2 [(3, wL 35 c35_o z3)] := by
  intro z3 h σ' hk
  subst h
  replace h := hr1
  try dsimp only at h
  exact hK2 _ (lh hk rfl (rs (qTu rfl rfl rfl (sp 1 rfl (evn (ls_ret ((by cases h; exact ⟨.inl rfl, rfl⟩))))))))
 refine ls_rec (fun (s : (List Y26) × Int) => match s with | (y1, y2) => [(0, dL c27_d a0), (3, wL 35 c35_o y1), (4, nI y2)]) _ _ _ _ hl (okr rfl) (fun _ => rfl) ?_
 rintro m ⟨y1, y2⟩ N h hN
 unfold laws_toFunctionalDependencyS_B1 at h
 dsimp only at h
 refine ls_seq_k fun K4 hK4 => rn 1 rfl ?_
 rcases cond_some h with ⟨g5, h⟩ | ⟨g5, h⟩
 ·refine qT rfl g5 (ls_skip (hK4 _ (ls_seq_k fun K6 hK6 => ls_blk (rg (sp 4 rfl (?_))))))
  obtain ⟨e7, g8, h⟩ := ob_some h
  refine qI rfl zc27_d g8 (sp 1 rfl (?_))
  obtain ⟨v9, g10, h⟩ := ob_some h
  refine qC (qa rfl (erg (erc rfl (erc (erD eci64 _) (erc rfl rfl)))) eran) (laws_toFunctionalDependency_s g10) (?_)
  obtain ⟨e11, g12, h⟩ := ob_some h
  exact qIu rfl ⟨(geti_some g12).1, (geti_some g12).2.1⟩ (qSu v9 rfl rfl zc35_o ⟨(geti_some g12).1, (geti_some g12).2.1⟩ rfl rfl rfl rfl rfl rfl (evn (hK6 _ (rg (sp 3 rfl (evn (hN _ _ h (okr rfl))))))))
 ·exact qF rfl g5 (ls_exit (kXB1 (Option.some.inj h) _ (okr rfl)))
def impl_indexOf_B1 (a0 : List Int) (a1 : Int) (rec : Int → Option (Sum (Unit) (Int))) (y1 : Int) : Option (Sum (Unit) (Int)) := cond (decide (y1 < (List.length a0 : Int))) (obind (geti a0 y1) fun e5 => cond (e5 == a1) (some (.inr y1)) (rec (IntKind.i64.wrap (y1 + 1)))) (some (.inl ()))
def impl_indexOf (a0 : List Int) (a1 : Int) : Option (Int) := obind (loopF (impl_indexOf_B1 a0 a1) fz 0) fun o1 => (match o1 with
  | .inl _ => (some (-1))
  | .inr r => some r)
theorem impl_indexOf_s {a0 : List Int} {a1 : Int} {r : Int} (h : impl_indexOf a0 a1 = some r) : SoundAt Try.prog 252 [dL ci64 a0, nI a1] (nI r) := by
 unfold impl_indexOf at h
 refine st lit252 rfl (rn 1 rfl (ls_seq_k fun K1 hK1 => rn 1 rfl ?_))
 obtain ⟨o1, hl, hr1⟩ := ob_some h
 have kXB1 : (.inl ()) = o1 → Jn K1 [] := by
  intro h σ' hk
  subst h
  replace h := hr1
  try dsimp only at h
  exact hK1 _ (lh hk rfl (rn 1 rfl (ls_ret ((by cases h; exact ⟨.inl rfl, rfl⟩)))))
 refine ls_rec (fun (y1 : Int) => [(1, nI a1), (7, dL ci64 a0), (8, nI (List.length a0 : Int)), (9, nI y1)]) _ _ _ _ hl (okr rfl) (fun _ => rfl) ?_
 rintro m y1 N h hN
 unfold impl_indexOf_B1 at h
 refine rn 1 rfl (ls_seq_k fun K2 hK2 => ?_)
 rcases cond_some h with ⟨g3, h⟩ | ⟨g3, h⟩
 ·refine qT rfl g3 (ls_skip (hK2 _ (ls_seq_k fun K4 hK4 => ls_blk (rs (sp 1 rfl (?_))))))
  obtain ⟨e5, g6, h⟩ := ob_some h
  refine qI rfl zci64 g6 (sp 3 rfl (evn (rn 1 rfl ?_)))
  rcases cond_some h with ⟨g7, h⟩ | ⟨g7, h⟩
  ·exact qT rfl g7 (rn 1 rfl (ls_ret ((by cases h; cases hr1; exact ⟨.inl rfl, rfl⟩))))
  ·exact qF rfl g7 (ls_skip (hK4 _ (rg (sp 2 rfl (evn (hN _ _ h (okr rfl)))))))
 ·exact qF rfl g3 (ls_exit (kXB1 (Option.some.inj h) _ trivial))
def impl_hasInt (a0 : List Int) (a1 : Int) : Option (Bool) := obind (impl_indexOf a0 a1) fun v1 => some (decide (0 ≤ v1))
theorem impl_hasInt_s {a0 : List Int} {a1 : Int} {r : Bool} (h : impl_hasInt a0 a1 = some r) : SoundAt Try.prog 230 [dL ci64 a0, nI a1] (.bool r) := by
 unfold impl_hasInt at h
 refine st lit230 rfl (rn 1 rfl (rs (sp 2 rfl (?_))))
 obtain ⟨v1, g2, h⟩ := ob_some h
 exact qC (qa rfl (erD eci64 _) (qs rfl eran)) (impl_indexOf_s g2) (sp 2 rfl (evn (ls_ret ((by cases h; exact ⟨.inl rfl, rfl⟩)))))
def impl_ContainsVariable (a0 : Y194) (a1 : Int) : Option (Bool) := obind (impl_hasInt a0.2 a1) fun v1 => some v1
theorem impl_ContainsVariable_s {a0 : Y194} {a1 : Int} {r : Bool} (h : impl_ContainsVariable a0 a1 = some r) : SoundAt Try.prog 229 [.agg (c195_d a0), nI a1] (.bool r) := by
 unfold impl_ContainsVariable at h
 refine st lit229 rfl (rn 1 rfl (rs (sp 3 rfl (?_))))
 obtain ⟨v1, g2, h⟩ := ob_some h
 exact qC (qa rfl (erD eci64 _) (qs rfl eran)) (impl_hasInt_s g2) (sp 1 rfl (evn (ls_ret ((by cases h; exact ⟨.inl rfl, rfl⟩)))))
def impl_AtomVariables_J2 (rec : ((List Int) × Int) → Option ((List Int))) (y2 : Int) (x8 : List Int) : Option ((List Int)) := rec (x8, (IntKind.i64.wrap (y2 + 1)))
def impl_AtomVariables_B1 (a0 : Y194) (rec : ((List Int) × Int) → Option ((List Int))) (s : (List Int) × Int) : Option ((List Int)) := match s with
  | (y1, y2) => cond (decide (y2 < 5)) (obind (impl_ContainsVariable a0 y2) fun v6 => cond v6 (chk (List.length y1 + List.length [y2] ≤ lim) (impl_AtomVariables_J2 rec y2 (y1 ++ [y2]))) (impl_AtomVariables_J2 rec y2 y1)) (some y1)
def impl_AtomVariables (a0 : Y194) : Option ((List Int)) := obind (loopF (impl_AtomVariables_B1 a0) fz (([] : List Int), 0)) fun z2 => some z2
theorem impl_AtomVariables_s {a0 : Y194} {r : (List Int)} (h : impl_AtomVariables a0 = some r) : SoundAt Try.prog 162 [.agg (c195_d a0)] (oL 3 ci64 r) := by
 unfold impl_AtomVariables at h
 refine st lit162 rfl (rn 2 rfl (ls_seq_k fun K1 hK1 => rn 1 rfl ?_))
 obtain ⟨o1, hl, hr1⟩ := ob_some h
 have kXB1 : ∀ {z2 : List Int}, z2 = o1 → Jn K1 [(3, oL 3 ci64 z2)] := by
  intro z2 h σ' hk
  subst h
  replace h := hr1
  try dsimp only at h
  exact hK1 _ (lh hk rfl (rn 1 rfl (ls_ret ((by cases h; exact ⟨.inl rfl, rfl⟩)))))
 refine ls_rec (fun (s : (List Int) × Int) => match s with | (y1, y2) => [(1, .box [.str a0.1, dL ci64 a0.2]), (3, oL 3 ci64 y1), (4, nI y2)]) _ _ _ _ hl (okr rfl) (fun _ => rfl) ?_
 rintro m ⟨y1, y2⟩ N h hN
 unfold impl_AtomVariables_B1 at h
 dsimp only at h
 refine ls_seq_k fun K3 hK3 => rn 1 rfl ?_
 rcases cond_some h with ⟨g4, h⟩ | ⟨g4, h⟩
 ·refine qT rfl g4 (ls_skip (hK3 _ (ls_seq_k fun K5 hK5 => ls_blk (rs (sp 2 rfl (?_))))))
  obtain ⟨v6, g7, h⟩ := ob_some h
  refine qC (qa rfl (erg (erc rfl (erc (erD eci64 _) rfl))) (qs rfl eran)) (impl_ContainsVariable_s g7) (evn ?_)
  have kJ2 : ∀ {x8 : List Int}, impl_AtomVariables_J2 (loopF (impl_AtomVariables_B1 a0) m) y2 x8 = some o1 → Jn K5 [(1, .box [.str a0.1, dL ci64 a0.2]), (3, oL 3 ci64 x8), (4, nI y2)] := by
   intro x8 h σ' hk
   unfold impl_AtomVariables_J2 at h
   exact hK5 _ (lh hk rfl (rg (sp 3 rfl (evn (hN _ _ h (okr rfl))))))
  rcases cond_some h with ⟨g9, h⟩ | ⟨g9, h⟩
  ·refine qT rfl g9 (rg (sp 2 rfl (qBs ci64 [y2] rfl rfl rfl zci64 (?_))))
   obtain ⟨g10, h⟩ := chk_some h
   exact qA ci64 y1 [y2] rfl rfl (flat_len zci64 [y2]) rfl g10 (sp 1 rfl (evn (kJ2 h _ (okr rfl))))
  ·exact qF rfl g9 (ls_skip (kJ2 h _ (okr rfl)))
 ·exact qF rfl g4 (ls_exit (kXB1 (Option.some.inj h) _ (okr rfl)))
def impl_isLetters_B1 (a0 : List UInt8) (rec : Int → Option (Sum (Unit) (Bool))) (y1 : Int) : Option (Sum (Unit) (Bool)) := cond (decide (y1 < (List.length a0 : Int))) (obind (geti a0 y1) fun b8 => cond (decide ((UInt8.toNat b8 : Int) < 97)) (some (.inr false)) (obind (geti a0 y1) fun b11 => cond (decide (122 < (UInt8.toNat b11 : Int))) (some (.inr false)) (rec (IntKind.i64.wrap (y1 + 1))))) (some (.inl ()))
def impl_isLetters (a0 : List UInt8) (a1 : Int) : Option (Bool) := cond (decide ((List.length a0 : Int) < 1)) (some false) (cond (decide (a1 < (List.length a0 : Int))) (some false) (obind (loopF (impl_isLetters_B1 a0) fz 0) fun o1 => (match o1 with
  | .inl _ => (some true)
  | .inr r => some r)))
theorem impl_isLetters_s {a0 : List UInt8} {a1 : Int} {r : Bool} (h : impl_isLetters a0 a1 = some r) : SoundAt Try.prog 243 [.str a0, nI a1] (.bool r) := by
 unfold impl_isLetters at h
 refine st lit243 rfl (rn 1 rfl (ls_seq_k fun K1 hK1 => rs (sp 4 rfl (?_))))
 rcases cond_some h with ⟨g2, h⟩ | ⟨g2, h⟩
 ·exact qg 9 g2 rfl (sp 5 rfl (evn (qT rfl rfl (rn 1 rfl (ls_ret ((by cases h; exact ⟨.inl rfl, rfl⟩)))))))
 ·refine qg 9 g2 rfl (sp 5 rfl (evn ?_))
  rcases cond_some h with ⟨g3, h⟩ | ⟨g3, h⟩
  ·exact qT rfl g3 (rn 1 rfl (ls_ret ((by cases h; exact ⟨.inl rfl, rfl⟩))))
  ·refine qF rfl g3 (ls_skip (hK1 _ (ls_seq_k fun K4 hK4 => rn 1 rfl (qk [0, 5] rfl ?_))))
   obtain ⟨o1, hl, hr1⟩ := ob_some h
   have kXB1 : (.inl ()) = o1 → Jn K4 [] := by
    intro h σ' hk
    subst h
    replace h := hr1
    try dsimp only at h
    exact hK4 _ (lh hk rfl (rn 1 rfl (ls_ret ((by cases h; exact ⟨.inl rfl, rfl⟩)))))
   refine ls_rec (fun (y1 : Int) => [(0, .str a0), (5, nI y1)]) _ _ _ _ hl (okr rfl) (fun _ => rfl) ?_
   rintro m y1 N h hN
   unfold impl_isLetters_B1 at h
   refine ls_seq_k fun K5 hK5 => rn 1 rfl ?_
   rcases cond_some h with ⟨g6, h⟩ | ⟨g6, h⟩
   ·refine qT rfl g6 (ls_skip (hK5 _ (ls_seq_k fun K7 hK7 => ls_blk (rs (sp 2 rfl (?_))))))
    obtain ⟨b8, g9, h⟩ := ob_some h
    refine qX rfl g9 (sp 2 rfl (?_))
    rcases cond_some h with ⟨g10, h⟩ | ⟨g10, h⟩
    ·exact qg 25 g10 rfl (sp 5 rfl (evn (qT rfl rfl (rn 1 rfl (ls_ret ((by cases h; cases hr1; exact ⟨.inl rfl, rfl⟩)))))))
    ·refine qg 25 g10 rfl (sp 2 rfl (?_))
     obtain ⟨b11, g12, h⟩ := ob_some h
     refine oGR rfl rfl (qX rfl g12 (sp 2 rfl (evn ?_)))
     rcases cond_some h with ⟨g13, h⟩ | ⟨g13, h⟩
     ·exact qT rfl g13 (rn 1 rfl (qk [4] rfl (ls_ret ((by cases h; cases hr1; exact ⟨.inl rfl, rfl⟩)))))
     ·exact qF rfl g13 (ls_skip (hK7 _ (rg (sp 3 rfl (evn (hN _ _ h (okr rfl)))))))
   ·exact qF rfl g6 (ls_exit (kXB1 (Option.some.inj h) _ trivial))
def impl_IsValidName (a0 : List UInt8) : Option (Bool) := obind (impl_isLetters a0 4) fun v1 => some v1
theorem impl_IsValidName_s {a0 : List UInt8} {r : Bool} (h : impl_IsValidName a0 = some r) : SoundAt Try.prog 218 [.str a0] (.bool r) := by
 unfold impl_IsValidName at h
 refine st lit218 rfl (rn 1 rfl (rs (sp 1 rfl (?_))))
 obtain ⟨v1, g2, h⟩ := ob_some h
 exact qC (qs rfl (qs rfl eran)) (impl_isLetters_s g2) (sp 1 rfl (evn (ls_ret ((by cases h; exact ⟨.inl rfl, rfl⟩)))))
def impl_within_J1 (x2 : Bool) : Option (Bool) := some x2
def impl_within (a0 : Int) (a1 : Int) (a2 : Int) : Option (Bool) := cond (decide (a1 ≤ a0)) (impl_within_J1 (decide (a0 ≤ a2))) (impl_within_J1 false)
theorem impl_within_s {a0 : Int} {a1 : Int} {a2 : Int} {r : Bool} (h : impl_within a0 a1 a2 = some r) : SoundAt Try.prog 90 [nI a0, nI a1, nI a2] (.bool r) := by
 unfold impl_within at h
 refine st lit90 rfl (rn 1 rfl (rk fun K1 hK1 => ?_))
 have kJ1 : ∀ {x2 : Bool}, impl_within_J1 x2 = some r → Jn K1 [(6, .bool x2)] := by
  intro x2 h σ' hk
  unfold impl_within_J1 at h
  exact hK1 _ (lh hk rfl (ls_ret ((by cases h; exact ⟨.inl rfl, rfl⟩))))
 refine sp 4 rfl (?_)
 rcases cond_some h with ⟨g3, h⟩ | ⟨g3, h⟩
 ·exact qg 10 g3 rfl (sp 5 rfl (evn (kJ1 h _ (okr rfl))))
 ·exact qg 10 g3 rfl (sp 5 rfl (evn (kJ1 h _ (okr rfl))))
def impl_compareInts (a0 : Int) (a1 : Int) : Option (Int) := cond (decide (a0 < a1)) (some (-1)) (cond (decide (a1 < a0)) (some 1) (some 0))
theorem impl_compareInts_s {a0 : Int} {a1 : Int} {r : Int} (h : impl_compareInts a0 a1 = some r) : SoundAt Try.prog 262 [nI a0, nI a1] (nI r) := by
 unfold impl_compareInts at h
 refine st lit262 rfl (rn 1 rfl (ls_seq_k fun K1 hK1 => ls_blk (rn 1 rfl ?_)))
 rcases cond_some h with ⟨g2, h⟩ | ⟨g2, h⟩
 ·exact qT rfl g2 (rn 1 rfl (ls_ret ((by cases h; exact ⟨.inl rfl, rfl⟩))))
 ·refine qF rfl g2 (rn 1 rfl ?_)
  rcases cond_some h with ⟨g3, h⟩ | ⟨g3, h⟩
  ·exact qT rfl g3 (rn 1 rfl (ls_ret ((by cases h; exact ⟨.inl rfl, rfl⟩))))
  ·exact qF rfl g3 (ls_skip (hK1 _ (rn 1 rfl (qk [4] rfl (ls_ret ((by cases h; exact ⟨.inl rfl, rfl⟩)))))))
def impl_CompareRows_B1 (a0 : List Int) (a1 : List Int) (rec : Int → Option (Sum (Unit) (Int))) (y1 : Int) : Option (Sum (Unit) (Int)) := cond (decide (y1 < (List.length a0 : Int))) (cond (decide (y1 < (List.length a1 : Int))) (obind (geti a0 y1) fun e6 => obind (geti a1 y1) fun e8 => cond (e6 != e8) (obind (geti a0 y1) fun e11 => obind (geti a1 y1) fun e13 => obind (impl_compareInts e11 e13) fun v15 => some (.inr v15)) (rec (IntKind.i64.wrap (y1 + 1)))) (some (.inl ()))) (some (.inl ()))
def impl_CompareRows (a0 : List Int) (a1 : List Int) : Option (Int) := obind (loopF (impl_CompareRows_B1 a0 a1) fz 0) fun o1 => (match o1 with
  | .inl _ => (obind (impl_compareInts (List.length a0 : Int) (List.length a1 : Int)) fun v17 => some v17)
  | .inr r => some r)
theorem impl_CompareRows_s {a0 : List Int} {a1 : List Int} {r : Int} (h : impl_CompareRows a0 a1 = some r) : SoundAt Try.prog 255 [dL ci64 a0, dL ci64 a1] (nI r) := by
 unfold impl_CompareRows at h
 refine st lit255 rfl (rn 1 rfl (ls_seq_k fun K1 hK1 => rn 1 rfl ?_))
 obtain ⟨o1, hl, hr1⟩ := ob_some h
 have kXB1 : (.inl ()) = o1 → Jn K1 [(0, dL ci64 a0), (1, dL ci64 a1)] := by
  intro h σ' hk
  subst h
  replace h := hr1
  try dsimp only at h
  refine hK1 _ (lh hk rfl (rs (sp 4 rfl (?_))))
  obtain ⟨v17, g18, h⟩ := ob_some h
  exact qC (qs rfl (qs rfl eran)) (impl_compareInts_s g18) (sp 1 rfl (evn (ls_ret ((by cases h; exact ⟨.inl rfl, rfl⟩)))))
 refine ls_rec (fun (y1 : Int) => [(0, dL ci64 a0), (1, dL ci64 a1), (5, nI y1)]) _ _ _ _ hl (okr rfl) (fun _ => rfl) ?_
 rintro m y1 N h hN
 unfold impl_CompareRows_B1 at h
 refine ls_seq_k fun K2 hK2 => rs (sp 5 rfl (?_))
 rcases cond_some h with ⟨g3, h⟩ | ⟨g3, h⟩
 ·refine qg 10 g3 rfl (sp 5 rfl (evn ?_))
  rcases cond_some h with ⟨g4, h⟩ | ⟨g4, h⟩
  ·refine qT rfl g4 (ls_skip (hK2 _ (ls_seq_k fun K5 hK5 => ls_blk (rd (by kernel_rfl) (sd 2 rfl (?_))))))
   obtain ⟨e6, g7, h⟩ := ob_some h
   refine ed rfl (qI rfl zci64 g7 (sd 3 rfl (?_)))
   obtain ⟨e8, g9, h⟩ := ob_some h
   refine ed rfl (qI rfl zci64 g9 (sd 2 rfl (evdn ?_)))
   rcases cond_some h with ⟨g10, h⟩ | ⟨g10, h⟩
   ·refine qT rfl g10 (rd (by kernel_rfl) (sd 2 rfl (?_)))
    obtain ⟨e11, g12, h⟩ := ob_some h
    refine ed rfl (qI rfl zci64 g12 (sd 3 rfl (?_)))
    obtain ⟨e13, g14, h⟩ := ob_some h
    refine ed rfl (qI rfl zci64 g14 (sd 1 rfl (?_)))
    obtain ⟨v15, g16, h⟩ := ob_some h
    exact ed rfl (qC (qs rfl (qs rfl eran)) (impl_compareInts_s g16) (sd 1 rfl (evdn (qk [4] rfl (ls_ret ((by cases h; cases hr1; exact ⟨.inl rfl, rfl⟩)))))))
   ·exact qF rfl g10 (ls_skip (hK5 _ (rg (sp 3 rfl (evn (hN _ _ h (okr rfl)))))))
  ·exact qF rfl g4 (ls_exit (kXB1 (Option.some.inj h) _ (okr rfl)))
 ·exact qg 10 g3 rfl (sp 5 rfl (evn (qF rfl rfl (ls_exit (kXB1 (Option.some.inj h) _ (okr rfl))))))
def impl_AreValidValues_B1 (a0 : List Int) (rec : Int → Option (Sum (Unit) (Bool))) (y1 : Int) : Option (Sum (Unit) (Bool)) := cond (decide (y1 < (List.length a0 : Int))) (obind (geti a0 y1) fun e5 => obind (impl_within e5 0 99) fun v7 => cond (!v7) (some (.inr false)) (rec (IntKind.i64.wrap (y1 + 1)))) (some (.inl ()))
def impl_AreValidValues (a0 : List Int) : Option (Bool) := obind (loopF (impl_AreValidValues_B1 a0) fz 0) fun o1 => (match o1 with
  | .inl _ => (some true)
  | .inr r => some r)
theorem impl_AreValidValues_s {a0 : List Int} {r : Bool} (h : impl_AreValidValues a0 = some r) : SoundAt Try.prog 258 [dL ci64 a0] (.bool r) := by
 unfold impl_AreValidValues at h
 refine st lit258 rfl (rn 1 rfl (ls_seq_k fun K1 hK1 => rn 1 rfl ?_))
 obtain ⟨o1, hl, hr1⟩ := ob_some h
 have kXB1 : (.inl ()) = o1 → Jn K1 [] := by
  intro h σ' hk
  subst h
  replace h := hr1
  try dsimp only at h
  exact hK1 _ (lh hk rfl (rn 1 rfl (ls_ret ((by cases h; exact ⟨.inl rfl, rfl⟩)))))
 refine ls_rec (fun (y1 : Int) => [(5, dL ci64 a0), (6, nI (List.length a0 : Int)), (7, nI y1)]) _ _ _ _ hl (okr rfl) (fun _ => rfl) ?_
 rintro m y1 N h hN
 unfold impl_AreValidValues_B1 at h
 refine rn 1 rfl (ls_seq_k fun K2 hK2 => ?_)
 rcases cond_some h with ⟨g3, h⟩ | ⟨g3, h⟩
 ·refine qT rfl g3 (ls_skip (hK2 _ (ls_seq_k fun K4 hK4 => ls_blk (rs ?_))))
  obtain ⟨e5, g6, h⟩ := ob_some h
  refine qI rfl zci64 g6 (sp 2 rfl (evn (rs (sp 1 rfl (?_)))))
  obtain ⟨v7, g8, h⟩ := ob_some h
  refine qC (qs rfl (qs rfl (qs rfl eran))) (impl_within_s g8) (sp 1 rfl (evn ?_))
  rcases cond_some h with ⟨g9, h⟩ | ⟨g9, h⟩
  ·exact qT rfl g9 (rn 1 rfl (ls_ret ((by cases h; cases hr1; exact ⟨.inl rfl, rfl⟩))))
  ·exact qF rfl g9 (ls_skip (hK4 _ (rg (sp 2 rfl (evn (hN _ _ h (okr rfl)))))))
 ·exact qF rfl g3 (ls_exit (kXB1 (Option.some.inj h) _ trivial))
def impl_rowsValid_J2 (rec : Int → Option (Sum (Unit) (Bool))) (y1 : Int) (x13 : Bool) : Option (Sum (Unit) (Bool)) := cond x13 (some (.inr false)) (rec (IntKind.i64.wrap (y1 + 1)))
def impl_rowsValid_B1 (a0 : Int) (a1 : List (List Int)) (rec : Int → Option (Sum (Unit) (Bool))) (y1 : Int) : Option (Sum (Unit) (Bool)) := cond (decide (y1 < (List.length a1 : Int))) (obind (geti a1 y1) fun e10 => cond ((List.length e10 : Int) != a0) (impl_rowsValid_J2 rec y1 true) (obind (impl_AreValidValues e10) fun v16 => cond (!v16) (impl_rowsValid_J2 rec y1 true) (cond (decide (0 < y1)) (obind (geti a1 (IntKind.i64.wrap (y1 - 1))) fun e20 => obind (impl_CompareRows e20 e10) fun v22 => impl_rowsValid_J2 rec y1 (decide (0 ≤ v22))) (impl_rowsValid_J2 rec y1 false)))) (some (.inl ()))
def impl_rowsValid (a0 : Int) (a1 : List (List Int)) : Option (Bool) := obind (impl_within a0 0 5) fun v2 => cond (!v2) (some false) (cond (decide (4000 < (List.length a1 : Int))) (some false) (obind (loopF (impl_rowsValid_B1 a0 a1) fz 0) fun o1 => (match o1 with
  | .inl _ => (some true)
  | .inr r => some r)))
theorem impl_rowsValid_s {a0 : Int} {a1 : List (List Int)} {r : Bool} (h : impl_rowsValid a0 a1 = some r) : SoundAt Try.prog 244 [nI a0, dL c25_d a1] (.bool r) := by
 unfold impl_rowsValid at h
 refine st lit244 rfl (rn 1 rfl (ls_seq_k fun K1 hK1 => rs (sp 1 rfl (?_))))
 obtain ⟨v2, g3, h⟩ := ob_some h
 refine qC (qs rfl (qs rfl (qs rfl eran))) (impl_within_s g3) (sp 2 rfl (?_))
 rcases cond_some h with ⟨g4, h⟩ | ⟨g4, h⟩
 ·exact qg 10 g4 rfl (sp 4 rfl (evn (qT rfl rfl (rn 1 rfl (ls_ret ((by cases h; exact ⟨.inl rfl, rfl⟩)))))))
 ·refine qg 10 g4 rfl (sp 4 rfl (evn ?_))
  rcases cond_some h with ⟨g5, h⟩ | ⟨g5, h⟩
  ·exact qT rfl g5 (rn 1 rfl (ls_ret ((by cases h; exact ⟨.inl rfl, rfl⟩))))
  ·refine qF rfl g5 (ls_skip (hK1 _ (ls_seq_k fun K6 hK6 => rn 1 rfl (qk [0, 1, 15, 16, 17] rfl ?_))))
   obtain ⟨o1, hl, hr1⟩ := ob_some h
   have kXB1 : (.inl ()) = o1 → Jn K6 [] := by
    intro h σ' hk
    subst h
    replace h := hr1
    try dsimp only at h
    exact hK6 _ (lh hk rfl (rn 1 rfl (ls_ret ((by cases h; exact ⟨.inl rfl, rfl⟩)))))
   refine ls_rec (fun (y1 : Int) => [(0, nI a0), (1, dL c25_d a1), (15, dL c25_d a1), (16, nI (List.length a1 : Int)), (17, nI y1)]) _ _ _ _ hl (okr rfl) (fun _ => rfl) ?_
   rintro m y1 N h hN
   unfold impl_rowsValid_B1 at h
   refine rn 1 rfl (ls_seq_k fun K7 hK7 => ?_)
   rcases cond_some h with ⟨g8, h⟩ | ⟨g8, h⟩
   ·refine qT rfl g8 (ls_skip (hK7 _ (ls_seq_k fun K9 hK9 => ls_blk (rs (sp 1 rfl (?_))))))
    obtain ⟨e10, g11, h⟩ := ob_some h
    refine qI rfl zc25_d g11 (sp 3 rfl (evn (rk fun K12 hK12 => ?_)))
    have kJ2 : ∀ {x13 : Bool}, impl_rowsValid_J2 (loopF (impl_rowsValid_B1 a0 a1) m) y1 x13 = some o1 → Jn K12 [(0, nI a0), (1, dL c25_d a1), (15, dL c25_d a1), (16, nI (List.length a1 : Int)), (17, nI y1), (44, .bool x13)] := by
     intro x13 h σ' hk
     unfold impl_rowsValid_J2 at h
     refine hK12 _ (lh hk rfl ?_)
     rcases cond_some h with ⟨g14, h⟩ | ⟨g14, h⟩
     ·exact qT rfl g14 (rn 1 rfl (ls_ret ((by cases h; cases hr1; exact ⟨.inl rfl, rfl⟩))))
     ·exact qF rfl g14 (ls_skip (hK9 _ (rg (sp 2 rfl (evn (hN _ _ h (okr rfl)))))))
    refine sp 5 rfl (?_)
    rcases cond_some h with ⟨g15, h⟩ | ⟨g15, h⟩
    ·exact qg 26 g15 rfl (sp 18 rfl (evn (kJ2 h _ (okr rfl))))
    ·refine qg 26 g15 rfl (sp 1 rfl (?_))
     obtain ⟨v16, g17, h⟩ := ob_some h
     refine oGR rfl rfl (qC (qa rfl (erD eci64 _) eran) (impl_AreValidValues_s g17) (sp 3 rfl (?_)))
     rcases cond_some h with ⟨g18, h⟩ | ⟨g18, h⟩
     ·exact qg 31 g18 rfl (sp 13 rfl (evn (kJ2 h _ (okr rfl))))
     ·refine qg 31 g18 rfl (sp 3 rfl (?_))
      rcases cond_some h with ⟨g19, h⟩ | ⟨g19, h⟩
      ·refine qg 34 g19 rfl (sp 3 rfl (?_))
       obtain ⟨e20, g21, h⟩ := ob_some h
       refine oGR rfl rfl (qI rfl zc25_d g21 (sp 2 rfl (?_)))
       obtain ⟨v22, g23, h⟩ := ob_some h
       exact oGR rfl rfl (qC (qa rfl (erD eci64 _) (qa rfl (erD eci64 _) eran)) (impl_CompareRows_s g23) (sp 3 rfl (evn (kJ2 h _ (okr rfl)))))
      ·exact qg 34 g19 rfl (sp 10 rfl (evn (kJ2 h _ (okr rfl))))
   ·exact qF rfl g8 (ls_exit (kXB1 (Option.some.inj h) _ trivial))
def impl_IsValidRelation (a0 : Y127) : Option (Bool) := obind (impl_rowsValid a0.1 a0.2) fun v1 => some v1
theorem impl_IsValidRelation_s {a0 : Y127} {r : Bool} (h : impl_IsValidRelation a0 = some r) : SoundAt Try.prog 219 [.agg (c128_dd a0)] (.bool r) := by
 unfold impl_IsValidRelation at h
 refine st lit219 rfl (rn 1 rfl (rs (sp 4 rfl (?_))))
 obtain ⟨v1, g2, h⟩ := ob_some h
 exact qC (qs rfl (qa rfl (erD ec25_d _) eran)) (impl_rowsValid_s g2) (sp 1 rfl (evn (ls_ret ((by cases h; exact ⟨.inl rfl, rfl⟩)))))
def impl_IsValidDatabase_J2 (rec : Int → Option (Sum (Unit) (Bool))) (y1 : Int) (x10 : Bool) : Option (Sum (Unit) (Bool)) := cond x10 (some (.inr false)) (rec (IntKind.i64.wrap (y1 + 1)))
def impl_IsValidDatabase_B1 (a0 : List Y207) (rec : Int → Option (Sum (Unit) (Bool))) (y1 : Int) : Option (Sum (Unit) (Bool)) := cond (decide (y1 < (List.length a0 : Int))) (obind (geti a0 y1) fun e7 => obind (impl_IsValidName e7.1) fun v12 => cond (!v12) (impl_IsValidDatabase_J2 rec y1 true) (cond (decide (0 < y1)) (obind (geti a0 (IntKind.i64.wrap (y1 - 1))) fun e16 => cond (!Op.bytesLess e16.1 e7.1) (impl_IsValidDatabase_J2 rec y1 true) (obind (impl_IsValidRelation e7.2) fun v19 => cond (!v19) (impl_IsValidDatabase_J2 rec y1 true) (cond (decide (e7.2.1 < 1)) (impl_IsValidDatabase_J2 rec y1 true) (impl_IsValidDatabase_J2 rec y1 (decide (16 < (List.length e7.2.2 : Int))))))) (obind (impl_IsValidRelation e7.2) fun v23 => cond (!v23) (impl_IsValidDatabase_J2 rec y1 true) (cond (decide (e7.2.1 < 1)) (impl_IsValidDatabase_J2 rec y1 true) (impl_IsValidDatabase_J2 rec y1 (decide (16 < (List.length e7.2.2 : Int)))))))) (some (.inl ()))
def impl_IsValidDatabase (a0 : List Y207) : Option (Bool) := cond (decide (6 < (List.length a0 : Int))) (some false) (obind (loopF (impl_IsValidDatabase_B1 a0) fz 0) fun o1 => (match o1 with
  | .inl _ => (some true)
  | .inr r => some r))
theorem impl_IsValidDatabase_s {a0 : List Y207} {r : Bool} (h : impl_IsValidDatabase a0 = some r) : SoundAt Try.prog 136 [.agg [dL c208_dd a0]] (.bool r) := by
 unfold impl_IsValidDatabase at h
 refine st lit136 rfl (rn 1 rfl (ls_seq_k fun K1 hK1 => rn 1 rfl ?_))
 rcases cond_some h with ⟨g2, h⟩ | ⟨g2, h⟩
 ·exact qT rfl g2 (rn 1 rfl (ls_ret ((by cases h; exact ⟨.inl rfl, rfl⟩))))
 ·refine qF rfl g2 (ls_skip (hK1 _ (ls_seq_k fun K3 hK3 => rn 1 rfl ?_)))
  obtain ⟨o1, hl, hr1⟩ := ob_some h
  have kXB1 : (.inl ()) = o1 → Jn K3 [] := by
   intro h σ' hk
   subst h
   replace h := hr1
   try dsimp only at h
   exact hK3 _ (lh hk rfl (rn 1 rfl (ls_ret ((by cases h; exact ⟨.inl rfl, rfl⟩)))))
  refine ls_rec (fun (y1 : Int) => [(1, .box [dL c208_dd a0]), (10, dL c208_dd a0), (11, nI (List.length a0 : Int)), (12, nI y1)]) _ _ _ _ hl (okr rfl) (fun _ => rfl) ?_
  rintro m y1 N h hN
  unfold impl_IsValidDatabase_B1 at h
  refine rn 1 rfl (ls_seq_k fun K4 hK4 => ?_)
  rcases cond_some h with ⟨g5, h⟩ | ⟨g5, h⟩
  ·refine qT rfl g5 (ls_skip (hK4 _ (ls_seq_k fun K6 hK6 => ls_blk (rs (sp 1 rfl (?_))))))
   obtain ⟨e7, g8, h⟩ := ob_some h
   refine qI rfl zc208_dd g8 (sp 4 rfl (evn (rdk (by kernel_rfl) fun K9 hK9 => ?_)))
   have kJ2 : ∀ {x10 : Bool}, impl_IsValidDatabase_J2 (loopF (impl_IsValidDatabase_B1 a0) m) y1 x10 = some o1 → Jn K9 [(1, .box [dL c208_dd a0]), (10, dL c208_dd a0), (11, nI (List.length a0 : Int)), (12, nI y1), (55, .bool x10)] := by
    intro x10 h σ' hk
    unfold impl_IsValidDatabase_J2 at h
    refine hK9 _ (lh hk rfl ?_)
    rcases cond_some h with ⟨g11, h⟩ | ⟨g11, h⟩
    ·exact qT rfl g11 (rn 1 rfl (ls_ret ((by cases h; cases hr1; exact ⟨.inl rfl, rfl⟩))))
    ·exact qF rfl g11 (ls_skip (hK6 _ (rg (sp 2 rfl (evn (hN _ _ h (okr rfl)))))))
   refine sd 2 rfl (?_)
   obtain ⟨v12, g13, h⟩ := ob_some h
   refine ed rfl (qC (qs rfl eran) (impl_IsValidName_s g13) (sd 2 rfl (?_)))
   rcases cond_some h with ⟨g14, h⟩ | ⟨g14, h⟩
   ·exact qgd 21 g14 rfl (sd 34 rfl (evdn (kJ2 h _ (okr rfl))))
   ·refine qgd 21 g14 rfl (sd 3 rfl (?_))
    rcases cond_some h with ⟨g15, h⟩ | ⟨g15, h⟩
    ·refine qgd 24 g15 rfl (sd 4 rfl (?_))
     obtain ⟨e16, g17, h⟩ := ob_some h
     refine ed rfl (oGR rfl rfl (qI rfl zc208_dd g17 (sd 8 rfl (?_))))
     rcases cond_some h with ⟨g18, h⟩ | ⟨g18, h⟩
     ·exact qgd 37 g18 rfl (sd 18 rfl (evdn (kJ2 h _ (okr rfl))))
     ·refine qgd 37 g18 rfl (sd 2 rfl (?_))
      obtain ⟨v19, g20, h⟩ := ob_some h
      refine ed rfl (oGR rfl rfl (qC (qa rfl (erg (erc rfl (erc (erD ec25_d _) rfl))) eran) (impl_IsValidRelation_s g20) (sd 3 rfl (?_))))
      rcases cond_some h with ⟨g21, h⟩ | ⟨g21, h⟩
      ·exact qgd 43 g21 rfl (sd 12 rfl (evdn (kJ2 h _ (okr rfl))))
      ·refine qgd 43 g21 rfl (sd 6 rfl (?_))
       rcases cond_some h with ⟨g22, h⟩ | ⟨g22, h⟩
       ·exact qgd 49 g22 rfl (sd 6 rfl (evdn (kJ2 h _ (okr rfl))))
       ·exact qgd 49 g22 rfl (sd 6 rfl (evdn (kJ2 h _ (okr rfl))))
    ·refine qgd 24 g15 rfl (sd 15 rfl (?_))
     obtain ⟨v23, g24, h⟩ := ob_some h
     refine ed rfl (oGR rfl rfl (qC (qa rfl (erg (erc rfl (erc (erD ec25_d _) rfl))) eran) (impl_IsValidRelation_s g24) (sd 3 rfl (?_))))
     rcases cond_some h with ⟨g25, h⟩ | ⟨g25, h⟩
     ·exact qgd 43 g25 rfl (sd 12 rfl (evdn (kJ2 h _ (okr rfl))))
     ·refine qgd 43 g25 rfl (sd 6 rfl (?_))
      rcases cond_some h with ⟨g26, h⟩ | ⟨g26, h⟩
      ·exact qgd 49 g26 rfl (sd 6 rfl (evdn (kJ2 h _ (okr rfl))))
      ·exact qgd 49 g26 rfl (sd 6 rfl (evdn (kJ2 h _ (okr rfl))))
  ·exact qF rfl g5 (ls_exit (kXB1 (Option.some.inj h) _ trivial))
def impl_copyInts (a0 : List Int) : Option ((List Int)) := chk (List.length ([] : List Int) + List.length a0 ≤ lim) (some (([] : List Int) ++ a0))
theorem impl_copyInts_s {a0 : List Int} {r : (List Int)} (h : impl_copyInts a0 = some r) : SoundAt Try.prog 151 [dL ci64 a0] (oL 3 ci64 r) := by
 unfold impl_copyInts at h
 refine st lit151 rfl (rn 1 rfl (rs (qBs ci64 [] rfl rfl rfl zci64 (sp 1 rfl (?_)))))
 obtain ⟨g1, h⟩ := chk_some h
 exact qA ci64 ([] : List Int) a0 rfl rfl (flat_len zci64 a0) (map_dg (fun _ => rfl) _) g1 (sp 1 rfl (evn (ls_ret ((by cases h; exact ⟨.inl rfl, rfl⟩)))))
def impl_copyRows_B1 (a0 : List (List Int)) (rec : ((List (List Int)) × Int) → Option ((List (List Int)))) (s : (List (List Int)) × Int) : Option ((List (List Int))) := match s with
  | (y1, y2) => cond (decide (y2 < (List.length a0 : Int))) (obind (geti a0 y2) fun e6 => obind (impl_copyInts e6) fun v8 => chk (List.length y1 + List.length [v8] ≤ lim) (rec ((y1 ++ [v8]), (IntKind.i64.wrap (y2 + 1))))) (some y1)
def impl_copyRows (a0 : List (List Int)) : Option ((List (List Int))) := obind (loopF (impl_copyRows_B1 a0) fz (([] : List (List Int)), 0)) fun z2 => some z2
theorem impl_copyRows_s {a0 : List (List Int)} {r : (List (List Int))} (h : impl_copyRows a0 = some r) : SoundAt Try.prog 237 [dL c25_d a0] (oL 25 c25_o r) := by
 unfold impl_copyRows at h
 refine st lit237 rfl (rn 2 rfl (ls_seq_k fun K1 hK1 => rn 1 rfl ?_))
 obtain ⟨o1, hl, hr1⟩ := ob_some h
 have kXB1 : ∀ {z2 : List (List Int)}, z2 = o1 → Jn K1 [(3, oL 25 c25_o z2)] := by
  intro z2 h σ' hk
  subst h
  replace h := hr1
  try dsimp only at h
  exact hK1 _ (lh hk rfl (rn 1 rfl (ls_ret ((by cases h; exact ⟨.inl rfl, rfl⟩)))))
 refine ls_rec (fun (s : (List (List Int)) × Int) => match s with | (y1, y2) => [(3, oL 25 c25_o y1), (6, dL c25_d a0), (7, nI (List.length a0 : Int)), (8, nI y2)]) _ _ _ _ hl (okr rfl) (fun _ => rfl) ?_
 rintro m ⟨y1, y2⟩ N h hN
 unfold impl_copyRows_B1 at h
 dsimp only at h
 refine rn 1 rfl (ls_seq_k fun K3 hK3 => ?_)
 rcases cond_some h with ⟨g4, h⟩ | ⟨g4, h⟩
 ·refine qT rfl g4 (ls_skip (hK3 _ (ls_seq_k fun K5 hK5 => ls_blk (rs ?_))))
  obtain ⟨e6, g7, h⟩ := ob_some h
  refine qI rfl zc25_d g7 (sp 2 rfl (evn (rg (sp 2 rfl (?_)))))
  obtain ⟨v8, g9, h⟩ := ob_some h
  refine qC (qa rfl (erD eci64 _) eran) (impl_copyInts_s g9) (qBs c25_o [v8] rfl rfl rfl zc25_o (?_))
  obtain ⟨g10, h⟩ := chk_some h
  exact qA c25_o y1 [v8] rfl rfl (flat_len zc25_o [v8]) rfl g10 (sp 1 rfl (evn (hK5 _ (rg (sp 2 rfl (evn (hN _ _ h (okr rfl))))))))
 ·exact qF rfl g4 (ls_exit (kXB1 (Option.some.inj h) _ (okr rfl)))
def impl_copyRelation (a0 : Y127) : Option (Y127) := obind (impl_copyRows a0.2) fun v1 => some (a0.1, v1)
theorem impl_copyRelation_s {a0 : Y127} {r : Y127} (h : impl_copyRelation a0 = some r) : SoundAt Try.prog 175 [.agg (c128_dd a0)] (.agg (c128_oo r)) := by
 unfold impl_copyRelation at h
 refine st lit175 rfl (rn 1 rfl (rd (by kernel_rfl) (sd 4 rfl (?_))))
 obtain ⟨v1, g2, h⟩ := ob_some h
 exact ed rfl (qC (qa rfl (erD ec25_d _) eran) (impl_copyRows_s g2) (sd 2 rfl (evdn (ls_ret ((by cases h; exact ⟨.inl rfl, rfl⟩))))))
def impl_LookupRelation_J1  : Option (Y127 × Bool) := some ((0, []), false)
def impl_LookupRelation_B2 (a0 : List Y207) (a1 : List UInt8) (rec : Int → Option (Sum (Unit) (Y127 × Bool))) (y2 : Int) : Option (Sum (Unit) (Y127 × Bool)) := cond (decide (y2 < (List.length a0 : Int))) (obind (geti a0 y2) fun e8 => cond (e8.1 == a1) (obind (impl_copyRelation e8.2) fun v11 => some (.inr (v11, true))) (rec (IntKind.i64.wrap (y2 + 1)))) (some (.inl ()))
def impl_LookupRelation (a0 : List Y207) (a1 : List UInt8) : Option (Y127 × Bool) := obind (impl_IsValidDatabase a0) fun v2 => cond v2 (obind (loopF (impl_LookupRelation_B2 a0 a1) fz 0) fun o2 => (match o2 with
  | .inl _ => (impl_LookupRelation_J1 )
  | .inr r => some r)) (impl_LookupRelation_J1 )
theorem impl_LookupRelation_s {a0 : List Y207} {a1 : List UInt8} {r : Y127 × Bool} (h : impl_LookupRelation a0 a1 = some r) : SoundAt Try.prog 79 [.agg [dL c208_dd a0], .str a1] (.tup [.agg (c128_oo r.1), .bool r.2]) := by
 unfold impl_LookupRelation at h
 refine st lit79 rfl (rn 1 rfl (ls_seq_k fun K1 hK1 => rs (sp 1 rfl (?_))))
 obtain ⟨v2, g3, h⟩ := ob_some h
 refine qC (qa rfl (erg (erc (erD ec208_dd _) rfl)) eran) (impl_IsValidDatabase_s g3) (evn ?_)
 have kJ1 : impl_LookupRelation_J1 = some r → Jn K1 [(4, .box [nI 0, oL 25 c25_o []])] := by
  intro h σ' hk
  unfold impl_LookupRelation_J1 at h
  exact hK1 _ (lh hk rfl (rn 1 rfl (ls_ret ((by cases h; exact ⟨.inl rfl, rfl⟩)))))
 rcases cond_some h with ⟨g4, h⟩ | ⟨g4, h⟩
 ·refine qT rfl g4 (rn 1 rfl ?_)
  obtain ⟨o2, hl, hr2⟩ := ob_some h
  have kXB2 : (.inl ()) = o2 → Jn K1 [(4, .box [nI 0, oL 25 c25_o []])] := by
   intro h σ' hk
   subst h
   replace h := hr2
   try dsimp only at h
   exact kJ1 h _ ⟨hk.1, trivial⟩
  refine ls_rec (fun (y2 : Int) => [(1, .str a1), (4, .box [nI 0, oL 25 c25_o []]), (11, dL c208_dd a0), (12, nI (List.length a0 : Int)), (13, nI y2)]) _ _ _ _ hl (okr rfl) (fun _ => rfl) ?_
  rintro m y2 N h hN
  unfold impl_LookupRelation_B2 at h
  refine rn 1 rfl (ls_seq_k fun K5 hK5 => ?_)
  rcases cond_some h with ⟨g6, h⟩ | ⟨g6, h⟩
  ·refine qT rfl g6 (ls_skip (hK5 _ (ls_seq_k fun K7 hK7 => ls_blk (rs ?_))))
   obtain ⟨e8, g9, h⟩ := ob_some h
   refine qI rfl zc208_dd g9 (sp 3 rfl (evn (rn 1 rfl ?_)))
   rcases cond_some h with ⟨g10, h⟩ | ⟨g10, h⟩
   ·refine qT rfl g10 (rs (sp 2 rfl (?_)))
    obtain ⟨v11, g12, h⟩ := ob_some h
    exact qC (qa rfl (erg (erc rfl (erc (erD ec25_d _) rfl))) eran) (impl_copyRelation_s g12) (sp 2 rfl (evn (ls_ret ((by cases h; cases hr2; exact ⟨.inl rfl, rfl⟩)))))
   ·exact qF rfl g10 (ls_skip (hK7 _ (rg (sp 2 rfl (evn (hN _ _ h (okr rfl)))))))
  ·exact qF rfl g6 (ls_exit (kXB2 (Option.some.inj h) _ (okr rfl)))
 ·exact qF rfl g4 (ls_skip (kJ1 h _ (okr rfl)))
def impl_isSetOf_B1 (a0 : List Int) (a1 : Int) (rec : Int → Option (Sum (Unit) (Bool))) (y1 : Int) : Option (Sum (Unit) (Bool)) := cond (decide (y1 < (List.length a0 : Int))) (obind (geti a0 y1) fun e5 => obind (impl_within e5 0 (IntKind.i64.wrap (a1 - 1))) fun v7 => cond (!v7) (some (.inr false)) (chk ((0 : Int) ≤ 0 ∧ 0 ≤ y1 ∧ y1 ≤ (List.length a0 : Int)) (obind (impl_hasInt (subl a0 0 y1) e5) fun v11 => cond v11 (some (.inr false)) (rec (IntKind.i64.wrap (y1 + 1)))))) (some (.inl ()))
def impl_isSetOf (a0 : List Int) (a1 : Int) : Option (Bool) := obind (loopF (impl_isSetOf_B1 a0 a1) fz 0) fun o1 => (match o1 with
  | .inl _ => (some true)
  | .inr r => some r)
theorem impl_isSetOf_s {a0 : List Int} {a1 : Int} {r : Bool} (h : impl_isSetOf a0 a1 = some r) : SoundAt Try.prog 213 [dL ci64 a0, nI a1] (.bool r) := by
 unfold impl_isSetOf at h
 refine st lit213 rfl (rn 1 rfl (ls_seq_k fun K1 hK1 => rn 1 rfl ?_))
 obtain ⟨o1, hl, hr1⟩ := ob_some h
 have kXB1 : (.inl ()) = o1 → Jn K1 [] := by
  intro h σ' hk
  subst h
  replace h := hr1
  try dsimp only at h
  exact hK1 _ (lh hk rfl (rn 1 rfl (ls_ret ((by cases h; exact ⟨.inl rfl, rfl⟩)))))
 refine ls_rec (fun (y1 : Int) => [(0, dL ci64 a0), (1, nI a1), (7, dL ci64 a0), (8, nI (List.length a0 : Int)), (9, nI y1)]) _ _ _ _ hl (okr rfl) (fun _ => rfl) ?_
 rintro m y1 N h hN
 unfold impl_isSetOf_B1 at h
 refine rn 1 rfl (ls_seq_k fun K2 hK2 => ?_)
 rcases cond_some h with ⟨g3, h⟩ | ⟨g3, h⟩
 ·refine qT rfl g3 (ls_skip (hK2 _ (ls_seq_k fun K4 hK4 => ls_blk (rs (sp 1 rfl (?_))))))
  obtain ⟨e5, g6, h⟩ := ob_some h
  refine qI rfl zci64 g6 (sp 3 rfl (evn (rs (sp 3 rfl (?_)))))
  obtain ⟨v7, g8, h⟩ := ob_some h
  refine qC (qs rfl (qs rfl (qs rfl eran))) (impl_within_s g8) (sp 2 rfl (?_))
  rcases cond_some h with ⟨g9, h⟩ | ⟨g9, h⟩
  ·exact qg 19 g9 rfl (sp 6 rfl (evn (qT rfl rfl (rn 1 rfl (ls_ret ((by cases h; cases hr1; exact ⟨.inl rfl, rfl⟩)))))))
  ·refine qg 19 g9 rfl (sp 2 rfl (?_))
   obtain ⟨g10, h⟩ := chk_some h
   refine oGR rfl rfl (qSl rfl zci64 g10 (sp 1 rfl (?_)))
   obtain ⟨v11, g12, h⟩ := ob_some h
   refine oGR rfl rfl (qC (qa rfl (erD eci64 _) (qs rfl eran)) (impl_hasInt_s g12) (sp 1 rfl (evn (qk [0, 1, 7, 8, 9, 25] rfl ?_))))
   rcases cond_some h with ⟨g13, h⟩ | ⟨g13, h⟩
   ·exact qT rfl g13 (rn 1 rfl (ls_ret ((by cases h; cases hr1; exact ⟨.inl rfl, rfl⟩))))
   ·exact qF rfl g13 (ls_skip (hK4 _ (rg (sp 2 rfl (evn (hN _ _ h (okr rfl)))))))
 ·exact qF rfl g3 (ls_exit (kXB1 (Option.some.inj h) _ trivial))
def impl_IsValidQuery_B2 (a0 : Y91) (e17 : Y194) (rec : ((List Bool) × Int) → Option (Sum ((List Bool)) (Bool))) (s : (List Bool) × Int) : Option (Sum ((List Bool)) (Bool)) := match s with
  | (y7, y8) => cond (decide (y8 < (List.length e17.2 : Int))) (obind (geti e17.2 y8) fun e30 => obind (impl_within e30 0 (IntKind.i64.wrap (a0.1 - 1))) fun v33 => cond (!v33) (some (.inr false)) (obind (geti y7 e30) fun e36 => rec ((seti y7 e30 true), (IntKind.i64.wrap (y8 + 1))))) (some (.inl y7))
def impl_IsValidQuery_B1 (a0 : Y91) (rec : ((List Bool) × Int) → Option (Sum ((List Bool)) (Bool))) (s : (List Bool) × Int) : Option (Sum ((List Bool)) (Bool)) := match s with
  | (y3, y4) => cond (decide (y4 < (List.length a0.2.1 : Int))) (obind (geti a0.2.1 y4) fun e17 => obind (impl_IsValidName e17.1) fun v20 => cond (!v20) (some (.inr false)) (obind (impl_within (List.length e17.2 : Int) 1 5) fun v23 => cond (!v23) (some (.inr false)) (obind (loopF (impl_IsValidQuery_B2 a0 e17) fz (y3, 0)) fun o2 => (match o2 with
  | .inl z26 => (rec (z26, (IntKind.i64.wrap (y4 + 1))))
  | .inr r => some (.inr r))))) (some (.inl y3))
def impl_IsValidQuery_B3 (z13 : List Bool) (rec : Int → Option (Sum (Unit) (Bool))) (y9 : Int) : Option (Sum (Unit) (Bool)) := cond (decide (y9 < (List.length z13 : Int))) (obind (geti z13 y9) fun e42 => cond (!e42) (some (.inr false)) (rec (IntKind.i64.wrap (y9 + 1)))) (some (.inl ()))
def impl_IsValidQuery (a0 : Y91) : Option (Bool) := obind (impl_within a0.1 1 5) fun v2 => cond (!v2) (some false) (obind (impl_within (List.length a0.2.1 : Int) 1 4) fun v5 => cond (!v5) (some false) (obind (impl_isSetOf a0.2.2 a0.1) fun v8 => cond (!v8) (some false) (chk ((0 : Int) ≤ a0.1 ∧ Int.toNat a0.1 ≤ lim) (obind (loopF (impl_IsValidQuery_B1 a0) fz ((List.replicate (Int.toNat a0.1) (false : Bool)), 0)) fun o1 => (match o1 with
  | .inl z13 => (obind (loopF (impl_IsValidQuery_B3 z13) fz 0) fun o3 => (match o3 with
  | .inl _ => (some true)
  | .inr r => some r))
  | .inr r => some r)))))
theorem impl_IsValidQuery_s {a0 : Y91} {r : Bool} (h : impl_IsValidQuery a0 = some r) : SoundAt Try.prog 209 [.agg (c92_ddd a0)] (.bool r) := by
 unfold impl_IsValidQuery at h
 refine st lit209 rfl (rn 2 rfl (ls_seq_k fun K1 hK1 => rs (sp 1 rfl (?_))))
 obtain ⟨v2, g3, h⟩ := ob_some h
 refine qC (qs rfl (qs rfl (qs rfl eran))) (impl_within_s g3) (sp 2 rfl (?_))
 rcases cond_some h with ⟨g4, h⟩ | ⟨g4, h⟩
 ·exact qg 16 g4 rfl (sp 13 rfl (evn (qT rfl rfl (rn 1 rfl (ls_ret ((by cases h; exact ⟨.inl rfl, rfl⟩)))))))
 ·refine qg 16 g4 rfl (sp 3 rfl (?_))
  obtain ⟨v5, g6, h⟩ := ob_some h
  refine oGR rfl rfl (qC (qs rfl (qs rfl (qs rfl eran))) (impl_within_s g6) (sp 3 rfl (?_)))
  rcases cond_some h with ⟨g7, h⟩ | ⟨g7, h⟩
  ·exact qg 23 g7 rfl (sp 6 rfl (evn (qk [1, 3, 29] rfl (qT rfl rfl (rn 1 rfl (ls_ret ((by cases h; exact ⟨.inl rfl, rfl⟩))))))))
  ·refine qg 23 g7 rfl (sp 3 rfl (?_))
   obtain ⟨v8, g9, h⟩ := ob_some h
   refine oGR rfl rfl (qC (qa rfl (erD eci64 _) (qs rfl eran)) (impl_isSetOf_s g9) (sp 2 rfl (evn ?_)))
   rcases cond_some h with ⟨g10, h⟩ | ⟨g10, h⟩
   ·exact qT rfl g10 (rn 1 rfl (ls_ret ((by cases h; exact ⟨.inl rfl, rfl⟩))))
   ·refine qF rfl g10 (ls_skip (hK1 _ (rs (sp 1 rfl (?_)))))
    obtain ⟨g11, h⟩ := chk_some h
    refine qMu cbl (false : Bool) rfl rfl rfl rfl g11 rfl (qAu rfl rfl rfl rfl (evn (ls_seq_k fun K12 hK12 => rn 1 rfl ?_)))
    obtain ⟨o1, hl, hr1⟩ := ob_some h
    have kXB1 : ∀ {z13 : List Bool}, (.inl z13) = o1 → Jn K12 [(4, wL 4 cbl z13)] := by
     intro z13 h σ' hk
     subst h
     replace h := hr1
     try dsimp only at h
     refine hK12 _ (lh hk rfl (ls_seq_k fun K38 hK38 => rn 1 rfl ?_))
     obtain ⟨o3, hl, hr3⟩ := ob_some h
     have kXB3 : (.inl ()) = o3 → Jn K38 [] := by
      intro h σ' hk
      subst h
      replace h := hr3
      try dsimp only at h
      exact hK38 _ (lh hk rfl (rn 1 rfl (ls_ret ((by cases h; exact ⟨.inl rfl, rfl⟩)))))
     refine ls_rec (fun (y9 : Int) => [(4, wL 4 cbl z13), (67, .same 4), (68, nI (List.length z13 : Int)), (69, nI y9)]) _ _ _ _ hl (okr rfl) (fun _ => rfl) ?_
     rintro m y9 N h hN
     unfold impl_IsValidQuery_B3 at h
     refine rn 1 rfl (ls_seq_k fun K39 hK39 => ?_)
     rcases cond_some h with ⟨g40, h⟩ | ⟨g40, h⟩
     ·refine qT rfl g40 (ls_skip (hK39 _ (ls_seq_k fun K41 hK41 => ls_blk (rs ?_))))
      obtain ⟨e42, g43, h⟩ := ob_some h
      refine qIu rfl ⟨(geti_some g43).1, (geti_some g43).2.1⟩ (qLu 0 rfl rfl rfl zcbl g43 rfl rfl rfl (sp 1 rfl (evn (rn 1 rfl ?_))))
      rcases cond_some h with ⟨g44, h⟩ | ⟨g44, h⟩
      ·exact qT rfl g44 (rn 1 rfl (ls_ret ((by cases h; cases hr3; exact ⟨.inl rfl, rfl⟩))))
      ·exact qF rfl g44 (ls_skip (hK41 _ (rg (sp 2 rfl (evn (hN _ _ h (okr rfl)))))))
     ·exact qF rfl g40 (ls_exit (kXB3 (Option.some.inj h) _ trivial))
    refine ls_rec (fun (s : (List Bool) × Int) => match s with | (y3, y4) => [(3, nI a0.1), (4, wL 4 cbl y3), (33, dL c195_d a0.2.1), (34, nI (List.length a0.2.1 : Int)), (35, nI y4)]) _ _ _ _ hl (okr rfl) (fun _ => rfl) ?_
    rintro m ⟨y3, y4⟩ N h hN
    unfold impl_IsValidQuery_B1 at h
    dsimp only at h
    refine rn 1 rfl (ls_seq_k fun K14 hK14 => ?_)
    rcases cond_some h with ⟨g15, h⟩ | ⟨g15, h⟩
    ·refine qT rfl g15 (ls_skip (hK14 _ (ls_seq_k fun K16 hK16 => ls_blk (rs ?_))))
     obtain ⟨e17, g18, h⟩ := ob_some h
     refine qI rfl zc195_d g18 (sp 3 rfl (evn (ls_seq_k fun K19 hK19 => rs (sp 2 rfl (?_)))))
     obtain ⟨v20, g21, h⟩ := ob_some h
     refine qC (qs rfl eran) (impl_IsValidName_s g21) (sp 2 rfl (?_))
     rcases cond_some h with ⟨g22, h⟩ | ⟨g22, h⟩
     ·exact qg 43 g22 rfl (sp 6 rfl (evn (qT rfl rfl (rn 1 rfl (ls_ret ((by cases h; cases hr1; exact ⟨.inl rfl, rfl⟩)))))))
     ·refine qg 43 g22 rfl (sp 3 rfl (?_))
      obtain ⟨v23, g24, h⟩ := ob_some h
      refine oGR rfl rfl (qC (qs rfl (qs rfl (qs rfl eran))) (impl_within_s g24) (sp 2 rfl (evn (qk [3, 4, 6, 33, 34, 35, 49] rfl ?_))))
      rcases cond_some h with ⟨g25, h⟩ | ⟨g25, h⟩
      ·exact qT rfl g25 (rn 1 rfl (ls_ret ((by cases h; cases hr1; exact ⟨.inl rfl, rfl⟩))))
      ·refine qF rfl g25 (ls_skip (hK19 _ (rn 1 rfl ?_)))
       obtain ⟨o2, hl, hr2⟩ := ob_some h
       have kXB2 : ∀ {z26 : List Bool}, (.inl z26) = o2 → Jn K16 [(3, nI a0.1), (4, wL 4 cbl z26), (33, dL c195_d a0.2.1), (34, nI (List.length a0.2.1 : Int)), (35, nI y4)] := by
        intro z26 h σ' hk
        subst h
        replace h := hr2
        try dsimp only at h
        exact hK16 _ (lh hk rfl (rg (sp 2 rfl (evn (hN _ _ h (okr rfl))))))
       refine ls_rec (fun (s : (List Bool) × Int) => match s with | (y7, y8) => [(3, nI a0.1), (4, wL 4 cbl y7), (33, dL c195_d a0.2.1), (34, nI (List.length a0.2.1 : Int)), (35, nI y4), (51, dL ci64 e17.2), (52, nI (List.length e17.2 : Int)), (53, nI y8)]) _ _ _ _ hl (okr rfl) (fun _ => rfl) ?_
       rintro m ⟨y7, y8⟩ N h hN
       unfold impl_IsValidQuery_B2 at h
       dsimp only at h
       refine rn 1 rfl (ls_seq_k fun K27 hK27 => ?_)
       rcases cond_some h with ⟨g28, h⟩ | ⟨g28, h⟩
       ·refine qT rfl g28 (ls_skip (hK27 _ (ls_seq_k fun K29 hK29 => ls_blk (rs ?_))))
        obtain ⟨e30, g31, h⟩ := ob_some h
        refine qI rfl zci64 g31 (sp 2 rfl (evn (ls_seq_k fun K32 hK32 => rs (sp 3 rfl (?_)))))
        obtain ⟨v33, g34, h⟩ := ob_some h
        refine qC (qs rfl (qs rfl (qs rfl eran))) (impl_within_s g34) (sp 1 rfl (evn ?_))
        rcases cond_some h with ⟨g35, h⟩ | ⟨g35, h⟩
        ·exact qT rfl g35 (rn 1 rfl (ls_ret ((by cases h; cases hr2; cases hr1; exact ⟨.inl rfl, rfl⟩))))
        ·refine qF rfl g35 (ls_skip (hK32 _ (rg (sp 2 rfl (?_)))))
         obtain ⟨e36, g37, h⟩ := ob_some h
         exact qIu rfl ⟨(geti_some g37).1, (geti_some g37).2.1⟩ (qSu true rfl rfl zcbl ⟨(geti_some g37).1, (geti_some g37).2.1⟩ rfl rfl rfl rfl rfl rfl (evn (hK29 _ (rg (sp 2 rfl (evn (hN _ _ h (okr rfl))))))))
       ·exact qF rfl g28 (ls_exit (kXB2 (Option.some.inj h) _ (okr rfl)))
    ·exact qF rfl g15 (ls_exit (kXB1 (Option.some.inj h) _ (okr rfl)))
def impl_IsQueryFor_B1 (a0 : List Y207) (a1 : Y91) (rec : Int → Option (Sum (Unit) (Bool))) (y1 : Int) : Option (Sum (Unit) (Bool)) := cond (decide (y1 < (List.length a1.2.1 : Int))) (obind (geti a1.2.1 y1) fun e12 => obind (impl_LookupRelation a0 e12.1) fun v14 => cond (!v14.2) (some (.inr false)) (cond (v14.1.1 != (List.length e12.2 : Int)) (some (.inr false)) (rec (IntKind.i64.wrap (y1 + 1))))) (some (.inl ()))
def impl_IsQueryFor (a0 : List Y207) (a1 : Y91) : Option (Bool) := obind (impl_IsValidQuery a1) fun v2 => cond (!v2) (some false) (obind (impl_IsValidDatabase a0) fun v5 => cond (!v5) (some false) (obind (loopF (impl_IsQueryFor_B1 a0 a1) fz 0) fun o1 => (match o1 with
  | .inl _ => (some true)
  | .inr r => some r)))
theorem impl_IsQueryFor_s {a0 : List Y207} {a1 : Y91} {r : Bool} (h : impl_IsQueryFor a0 a1 = some r) : SoundAt Try.prog 150 [.agg [dL c208_dd a0], .agg (c92_ddd a1)] (.bool r) := by
 unfold impl_IsQueryFor at h
 refine st lit150 rfl (rn 1 rfl (ls_seq_k fun K1 hK1 => rs (sp 1 rfl (?_))))
 obtain ⟨v2, g3, h⟩ := ob_some h
 refine qC (qa rfl (erg (erc rfl (erc (erD ec195_d _) (erc (erD eci64 _) rfl)))) eran) (impl_IsValidQuery_s g3) (sp 2 rfl (?_))
 rcases cond_some h with ⟨g4, h⟩ | ⟨g4, h⟩
 ·exact qg 12 g4 rfl (sp 4 rfl (evn (qT rfl rfl (rn 1 rfl (ls_ret ((by cases h; exact ⟨.inl rfl, rfl⟩)))))))
 ·refine qg 12 g4 rfl (sp 1 rfl (?_))
  obtain ⟨v5, g6, h⟩ := ob_some h
  refine oGR rfl rfl (qC (qa rfl (erg (erc (erD ec208_dd _) rfl)) eran) (impl_IsValidDatabase_s g6) (sp 2 rfl (evn ?_)))
  rcases cond_some h with ⟨g7, h⟩ | ⟨g7, h⟩
  ·exact qT rfl g7 (rn 1 rfl (ls_ret ((by cases h; exact ⟨.inl rfl, rfl⟩))))
  ·refine qF rfl g7 (ls_skip (hK1 _ (ls_seq_k fun K8 hK8 => rn 1 rfl (qk [2, 18, 19, 20] rfl ?_))))
   obtain ⟨o1, hl, hr1⟩ := ob_some h
   have kXB1 : (.inl ()) = o1 → Jn K8 [] := by
    intro h σ' hk
    subst h
    replace h := hr1
    try dsimp only at h
    exact hK8 _ (lh hk rfl (rn 1 rfl (ls_ret ((by cases h; exact ⟨.inl rfl, rfl⟩)))))
   refine ls_rec (fun (y1 : Int) => [(2, .box [dL c208_dd a0]), (18, dL c195_d a1.2.1), (19, nI (List.length a1.2.1 : Int)), (20, nI y1)]) _ _ _ _ hl (okr rfl) (fun _ => rfl) ?_
   rintro m y1 N h hN
   unfold impl_IsQueryFor_B1 at h
   refine rn 1 rfl (ls_seq_k fun K9 hK9 => ?_)
   rcases cond_some h with ⟨g10, h⟩ | ⟨g10, h⟩
   ·refine qT rfl g10 (ls_skip (hK9 _ (ls_seq_k fun K11 hK11 => ls_blk (rs ?_))))
    obtain ⟨e12, g13, h⟩ := ob_some h
    refine qI rfl zc195_d g13 (sp 3 rfl (evn (rs (sp 3 rfl (?_)))))
    obtain ⟨v14, g15, h⟩ := ob_some h
    refine qC (qa rfl (erg (erc (erD ec208_dd _) rfl)) (qs rfl eran)) (impl_LookupRelation_s g15) (sp 6 rfl (evn (rs (sp 3 rfl (?_)))))
    rcases cond_some h with ⟨g16, h⟩ | ⟨g16, h⟩
    ·exact qg 33 g16 rfl (sp 7 rfl (evn (qT rfl rfl (rn 1 rfl (qk [4] rfl (ls_ret ((by cases h; cases hr1; exact ⟨.inl rfl, rfl⟩))))))))
    ·refine qg 33 g16 rfl (sp 7 rfl (evn ?_))
     rcases cond_some h with ⟨g17, h⟩ | ⟨g17, h⟩
     ·exact qT rfl g17 (rn 1 rfl (ls_ret ((by cases h; cases hr1; exact ⟨.inl rfl, rfl⟩))))
     ·exact qF rfl g17 (ls_skip (hK11 _ (rg (sp 2 rfl (evn (hN _ _ h (okr rfl)))))))
   ·exact qF rfl g10 (ls_exit (kXB1 (Option.some.inj h) _ trivial))
def impl_pick_B1 (a0 : List Int) (a1 : List Int) (rec : ((List Int) × Int) → Option ((List Int))) (s : (List Int) × Int) : Option ((List Int)) := match s with
  | (y1, y2) => cond (decide (y2 < (List.length a1 : Int))) (obind (geti a1 y2) fun e6 => obind (geti a0 e6) fun e8 => chk (List.length y1 + List.length [e8] ≤ lim) (rec ((y1 ++ [e8]), (IntKind.i64.wrap (y2 + 1))))) (some y1)
def impl_pick (a0 : List Int) (a1 : List Int) : Option ((List Int)) := obind (loopF (impl_pick_B1 a0 a1) fz (([] : List Int), 0)) fun z2 => some z2
theorem impl_pick_s {a0 : List Int} {a1 : List Int} {r : (List Int)} (h : impl_pick a0 a1 = some r) : SoundAt Try.prog 81 [dL ci64 a0, dL ci64 a1] (oL 3 ci64 r) := by
 unfold impl_pick at h
 refine st lit81 rfl (rn 1 rfl (rs (qBs ci64 [] rfl rfl rfl zci64 (sp 1 rfl (evn (ls_seq_k fun K1 hK1 => rn 1 rfl ?_))))))
 obtain ⟨o1, hl, hr1⟩ := ob_some h
 have kXB1 : ∀ {z2 : List Int}, z2 = o1 → Jn K1 [(5, oL 3 ci64 z2)] := by
  intro z2 h σ' hk
  subst h
  replace h := hr1
  try dsimp only at h
  exact hK1 _ (lh hk rfl (rn 1 rfl (ls_ret ((by cases h; exact ⟨.inl rfl, rfl⟩)))))
 refine ls_rec (fun (s : (List Int) × Int) => match s with | (y1, y2) => [(0, dL ci64 a0), (5, oL 3 ci64 y1), (9, dL ci64 a1), (10, nI (List.length a1 : Int)), (11, nI y2)]) _ _ _ _ hl (okr rfl) (fun _ => rfl) ?_
 rintro m ⟨y1, y2⟩ N h hN
 unfold impl_pick_B1 at h
 dsimp only at h
 refine rn 1 rfl (ls_seq_k fun K3 hK3 => ?_)
 rcases cond_some h with ⟨g4, h⟩ | ⟨g4, h⟩
 ·refine qT rfl g4 (ls_skip (hK3 _ (ls_seq_k fun K5 hK5 => ls_blk (rs ?_))))
  obtain ⟨e6, g7, h⟩ := ob_some h
  refine qI rfl zci64 g7 (sp 2 rfl (evn (rg (sp 3 rfl (?_)))))
  obtain ⟨e8, g9, h⟩ := ob_some h
  refine qI rfl zci64 g9 (sp 1 rfl (qBs ci64 [e8] rfl rfl rfl zci64 (?_)))
  obtain ⟨g10, h⟩ := chk_some h
  exact qA ci64 y1 [e8] rfl rfl (flat_len zci64 [e8]) rfl g10 (sp 1 rfl (evn (hK5 _ (rg (sp 2 rfl (evn (hN _ _ h (okr rfl))))))))
 ·exact qF rfl g4 (ls_exit (kXB1 (Option.some.inj h) _ (okr rfl)))
def impl_columnsFit_B1 (a0 : Int) (a1 : List Int) (rec : Int → Option (Sum (Unit) (Bool))) (y1 : Int) : Option (Sum (Unit) (Bool)) := cond (decide (y1 < (List.length a1 : Int))) (obind (geti a1 y1) fun e7 => obind (impl_within e7 0 (IntKind.i64.wrap (a0 - 1))) fun v9 => cond (!v9) (some (.inr false)) (rec (IntKind.i64.wrap (y1 + 1)))) (some (.inl ()))
def impl_columnsFit (a0 : Int) (a1 : List Int) : Option (Bool) := cond (decide (5 < (List.length a1 : Int))) (some false) (obind (loopF (impl_columnsFit_B1 a0 a1) fz 0) fun o1 => (match o1 with
  | .inl _ => (some true)
  | .inr r => some r))
theorem impl_columnsFit_s {a0 : Int} {a1 : List Int} {r : Bool} (h : impl_columnsFit a0 a1 = some r) : SoundAt Try.prog 251 [nI a0, dL ci64 a1] (.bool r) := by
 unfold impl_columnsFit at h
 refine st lit251 rfl (rn 1 rfl (ls_seq_k fun K1 hK1 => rn 1 rfl ?_))
 rcases cond_some h with ⟨g2, h⟩ | ⟨g2, h⟩
 ·exact qT rfl g2 (rn 1 rfl (ls_ret ((by cases h; exact ⟨.inl rfl, rfl⟩))))
 ·refine qF rfl g2 (ls_skip (hK1 _ (ls_seq_k fun K3 hK3 => rn 1 rfl ?_)))
  obtain ⟨o1, hl, hr1⟩ := ob_some h
  have kXB1 : (.inl ()) = o1 → Jn K3 [] := by
   intro h σ' hk
   subst h
   replace h := hr1
   try dsimp only at h
   exact hK3 _ (lh hk rfl (rn 1 rfl (ls_ret ((by cases h; exact ⟨.inl rfl, rfl⟩)))))
  refine ls_rec (fun (y1 : Int) => [(0, nI a0), (10, dL ci64 a1), (11, nI (List.length a1 : Int)), (12, nI y1)]) _ _ _ _ hl (okr rfl) (fun _ => rfl) ?_
  rintro m y1 N h hN
  unfold impl_columnsFit_B1 at h
  refine rn 1 rfl (ls_seq_k fun K4 hK4 => ?_)
  rcases cond_some h with ⟨g5, h⟩ | ⟨g5, h⟩
  ·refine qT rfl g5 (ls_skip (hK4 _ (ls_seq_k fun K6 hK6 => ls_blk (rs ?_))))
   obtain ⟨e7, g8, h⟩ := ob_some h
   refine qI rfl zci64 g8 (sp 2 rfl (evn (rs (sp 3 rfl (?_)))))
   obtain ⟨v9, g10, h⟩ := ob_some h
   refine qC (qs rfl (qs rfl (qs rfl eran))) (impl_within_s g10) (sp 1 rfl (evn ?_))
   rcases cond_some h with ⟨g11, h⟩ | ⟨g11, h⟩
   ·exact qT rfl g11 (rn 1 rfl (ls_ret ((by cases h; cases hr1; exact ⟨.inl rfl, rfl⟩))))
   ·exact qF rfl g11 (ls_skip (hK6 _ (rg (sp 2 rfl (evn (hN _ _ h (okr rfl)))))))
  ·exact qF rfl g5 (ls_exit (kXB1 (Option.some.inj h) _ trivial))
def impl_sorted_J5 (rec : ((List (Nat × (List Int))) × (List (Nat × (List Int))) × (List (Nat × (List Int)))) → Option ((List (Nat × (List Int))))) (y2 : List (Nat × (List Int))) (x20 : List (Nat × (List Int))) (x24 : List (Nat × (List Int))) : Option ((List (Nat × (List Int)))) := chk ((0 : Int) ≤ 1 ∧ 1 ≤ (List.length y2 : Int) ∧ (List.length y2 : Int) ≤ (List.length y2 : Int)) (rec (x20, (subl y2 1 (List.length y2 : Int)), x24))
def impl_sorted_J4 (rec : ((List (Nat × (List Int))) × (List (Nat × (List Int))) × (List (Nat × (List Int)))) → Option ((List (Nat × (List Int))))) (y2 : List (Nat × (List Int))) (x18 : Int) (x20 : List (Nat × (List Int))) (x21 : List (Nat × (List Int))) : Option ((List (Nat × (List Int)))) := cond (decide (0 ≤ x18)) (cond (decide (0 < x18)) (obind (geti y2 0) fun e27 => chk (List.length x21 + List.length [e27] ≤ lim) (impl_sorted_J5 rec y2 x20 (x21 ++ [e27]))) (impl_sorted_J5 rec y2 x20 x21)) (rec (x20, y2, x21))
def impl_sorted_J3 (rec : ((List (Nat × (List Int))) × (List (Nat × (List Int))) × (List (Nat × (List Int)))) → Option ((List (Nat × (List Int))))) (y1 : List (Nat × (List Int))) (y2 : List (Nat × (List Int))) (y3 : List (Nat × (List Int))) (x18 : Int) : Option ((List (Nat × (List Int)))) := cond (decide (x18 ≤ 0)) (obind (geti y1 0) fun e31 => chk (List.length y3 + List.length [e31] ≤ lim) (chk ((0 : Int) ≤ 1 ∧ 1 ≤ (List.length y1 : Int) ∧ (List.length y1 : Int) ≤ (List.length y1 : Int)) (impl_sorted_J4 rec y2 x18 (subl y1 1 (List.length y1 : Int)) (y3 ++ [e31])))) (impl_sorted_J4 rec y2 x18 y1 y3)
def impl_sorted_J2 (rec : ((List (Nat × (List Int))) × (List (Nat × (List Int))) × (List (Nat × (List Int)))) → Option ((List (Nat × (List Int))))) (y1 : List (Nat × (List Int))) (y2 : List (Nat × (List Int))) (y3 : List (Nat × (List Int))) (x15 : Bool) : Option ((List (Nat × (List Int)))) := cond x15 (cond ((List.length y1 : Int) == 0) (impl_sorted_J3 rec y1 y2 y3 1) (cond (decide (0 < (List.length y2 : Int))) (obind (geti y1 0) fun e37 => obind (geti y2 0) fun e39 => obind (impl_CompareRows e37.2 e39.2) fun v41 => impl_sorted_J3 rec y1 y2 y3 v41) (impl_sorted_J3 rec y1 y2 y3 (-1)))) (some y3)
def impl_sorted_B1  (rec : ((List (Nat × (List Int))) × (List (Nat × (List Int))) × (List (Nat × (List Int)))) → Option ((List (Nat × (List Int))))) (s : (List (Nat × (List Int))) × (List (Nat × (List Int))) × (List (Nat × (List Int)))) : Option ((List (Nat × (List Int)))) := match s with
  | (y1, y2, y3) => cond (decide (0 < (List.length y1 : Int))) (impl_sorted_J2 rec y1 y2 y3 true) (impl_sorted_J2 rec y1 y2 y3 (decide (0 < (List.length y2 : Int))))
def impl_sorted_R (rec : ((List (List Int))) → Option ((List (List Int)))) (a0 : (List (List Int))) : Option ((List (List Int))) := cond (decide ((List.length a0 : Int) < 2)) (obind (impl_copyRows a0) fun v3 => some v3) (chk ((0 : Int) ≤ 0 ∧ 0 ≤ IntKind.i64.wrap (Int.tdiv (List.length a0 : Int) 2) ∧ IntKind.i64.wrap (Int.tdiv (List.length a0 : Int) 2) ≤ (List.length a0 : Int)) (obind (rec (subl a0 0 (IntKind.i64.wrap (Int.tdiv (List.length a0 : Int) 2)))) fun v6 => chk ((0 : Int) ≤ IntKind.i64.wrap (Int.tdiv (List.length a0 : Int) 2) ∧ IntKind.i64.wrap (Int.tdiv (List.length a0 : Int) 2) ≤ (List.length a0 : Int) ∧ (List.length a0 : Int) ≤ (List.length a0 : Int)) (obind (rec (subl a0 (IntKind.i64.wrap (Int.tdiv (List.length a0 : Int) 2)) (List.length a0 : Int))) fun v9 => obind (loopF impl_sorted_B1 fz ((enumP 0 v6), (enumP (List.length v6) v9), ([] : List (Nat × (List Int))))) fun z12 => chk (okJ (v6 ++ v9) (List.map Sum.inl z12) [] = true) (some (List.map getM (List.map Sum.inl z12))))))
def impl_sorted (a0 : List (List Int)) : Option ((List (List Int))) := loopF impl_sorted_R fz a0
theorem impl_sorted_s {a0 : List (List Int)} {r : (List (List Int))} (h : impl_sorted a0 = some r) : SoundAt Try.prog 253 [dL c25_d a0] (oL 25 c25_o r) := by
 suffices key : ∀ m (a0 : List (List Int)) (r : (List (List Int))), loopF impl_sorted_R m a0 = some r → SoundAt Try.prog 253 [dL c25_d a0] (oL 25 c25_o r) from key fz a0 r h
 intro m
 induction m with
 | zero => intro a0 r h; cases h
 | succ m ih0 =>
  intro a0 r h
  have ih : ∀ {a0 : List (List Int)} {r : (List (List Int))}, loopF impl_sorted_R m a0 = some r → SoundAt Try.prog 253 [dL c25_d a0] (oL 25 c25_o r) := fun h => ih0 _ _ h
  change impl_sorted_R (loopF impl_sorted_R m) a0 = some r at h
  unfold impl_sorted_R at h
  try dsimp only at h
  refine st lit253 rfl (rn 1 rfl (ls_seq_k fun K1 hK1 => rn 1 rfl ?_))
  rcases cond_some h with ⟨g2, h⟩ | ⟨g2, h⟩
  ·refine qT rfl g2 (rs (sp 1 rfl (?_)))
   obtain ⟨v3, g4, h⟩ := ob_some h
   exact qC (qa rfl (erD ec25_d _) eran) (impl_copyRows_s g4) (sp 1 rfl (evn (ls_ret ((by cases h; exact ⟨.inl rfl, rfl⟩)))))
  ·refine qF rfl g2 (ls_skip (hK1 _ (rn 1 rfl (rd (by kernel_rfl) (sd 2 rfl (?_))))))
   obtain ⟨g5, h⟩ := chk_some h
   refine ed rfl (qSl rfl zc25_d g5 (?_))
   obtain ⟨v6, g7, h⟩ := ob_some h
   refine ed rfl (qC (qa rfl (erD ec25_d _) eran) (ih g7) (sd 2 rfl (?_)))
   obtain ⟨g8, h⟩ := chk_some h
   refine ed rfl (qSl rfl zc25_d g8 (?_))
   obtain ⟨v9, g10, h⟩ := ob_some h
   refine ed rfl (qC (qa rfl (erD ec25_d _) eran) (ih g10) (sd 2 rfl (evdn (qk [4, 5] rfl (ls_split2 (f := c25_o) (s1 := 4) (s2 := 5) (g1 := 900001) (g2 := 900002) rfl rfl rfl rfl ⟨by decide, by decide, by decide, by decide, by decide, by decide⟩ (split_own (fun _ => rfl)) (split_own (fun _ => rfl)) (fun _ => rfl) (fun _ => rfl) (fun _ => rfl) (fun _ => rfl) ?_)))))
   intro U us1 us2 hu1 hu2 hU
   refine kp [(4, oL 25 (pE c25_o U) (enumP 0 v6)), (5, oL 25 (pE c25_o U) (enumP (List.length v6) v9)), (900001, .gh us1 (List.map (fun x => tokC (c25_o x)) v6)), (900002, .gh us2 (List.map (fun x => tokC (c25_o x)) v9))] rfl rfl (rn 1 rfl (ls_seq_k fun K11 hK11 => ?_))
   obtain ⟨o1, hl, hr1⟩ := ob_some h
   have kXB1 : ∀ {z12 : List (Nat × (List Int))}, z12 = o1 → Jn K11 [(6, oL 25 (pE c25_o U) z12), (900001, .gh us1 (List.map (fun x => tokC (c25_o x)) v6)), (900002, .gh us2 (List.map (fun x => tokC (c25_o x)) v9))] := by
    intro z12 h σ' hk
    subst h
    replace h := hr1
    try dsimp only at h
    refine hK11 _ (lh hk rfl (qk [6, 900001, 900002] rfl ?_))
    obtain ⟨g44, h⟩ := chk_some h
    exact ls_merge (g1 := 900001) (g2 := 900002) rfl rfl (by decide) (ls_join1 (f := c25_o) (s := 6) (q := 900001) (l := v6 ++ v9) (U := U) (L := List.map Sum.inl z12) own_inl rfl List.map_append.symm (by decide) (join_own (fun _ => rfl)) hU g44 rfl rfl (kp [(6, oL 25 c25_o (List.map getM (List.map Sum.inl z12)))] rfl rfl (rn 1 rfl (ls_ret ((by cases h; exact ⟨.inl rfl, rfl⟩))))))
   refine ls_rec (fun (s : (List (Nat × (List Int))) × (List (Nat × (List Int))) × (List (Nat × (List Int)))) => match s with | (y1, y2, y3) => [(4, dL (pE c25_o U) y1), (5, dL (pE c25_o U) y2), (6, oL 25 (pE c25_o U) y3), (900001, .gh us1 (List.map (fun x => tokC (c25_o x)) v6)), (900002, .gh us2 (List.map (fun x => tokC (c25_o x)) v9))]) _ _ _ _ hl ⟨(kd rfl rfl), (kd rfl rfl), kr, kr, kr, trivial⟩ (fun _ => rfl) ?_
   rintro m ⟨y1, y2, y3⟩ N h hN
   unfold impl_sorted_B1 at h
   dsimp only at h
   refine ls_seq_k fun K13 hK13 => rk fun K14 hK14 => ?_
   have kJ2 : ∀ {x15 : Bool}, impl_sorted_J2 (loopF impl_sorted_B1 m) y1 y2 y3 x15 = some o1 → Jn K14 [(4, dL (pE c25_o U) y1), (5, dL (pE c25_o U) y2), (6, oL 25 (pE c25_o U) y3), (31, .bool x15), (900001, .gh us1 (List.map (fun x => tokC (c25_o x)) v6)), (900002, .gh us2 (List.map (fun x => tokC (c25_o x)) v9))] := by
    intro x15 h σ' hk
    unfold impl_sorted_J2 at h
    refine hK14 _ (lh hk rfl ?_)
    rcases cond_some h with ⟨g16, h⟩ | ⟨g16, h⟩
    ·refine qT rfl g16 (ls_skip (hK13 _ (ls_blk (rn 1 rfl (ls_seq_k fun K17 hK17 => rn 1 rfl ?_)))))
     have kJ3 : ∀ {x18 : Int}, impl_sorted_J3 (loopF impl_sorted_B1 m) y1 y2 y3 x18 = some o1 → Jn K17 [(4, dL (pE c25_o U) y1), (5, dL (pE c25_o U) y2), (6, oL 25 (pE c25_o U) y3), (7, nI x18), (900001, .gh us1 (List.map (fun x => tokC (c25_o x)) v6)), (900002, .gh us2 (List.map (fun x => tokC (c25_o x)) v9))] := by
      intro x18 h σ' hk
      unfold impl_sorted_J3 at h
      refine hK17 _ (lh hk rfl (ls_seq_k fun K19 hK19 => rn 1 rfl ?_))
      have kJ4 : ∀ {x20 : List (Nat × (List Int))} {x21 : List (Nat × (List Int))}, impl_sorted_J4 (loopF impl_sorted_B1 m) y2 x18 x20 x21 = some o1 → Jn K19 [(4, dL (pE c25_o U) x20), (5, dL (pE c25_o U) y2), (6, oL 25 (pE c25_o U) x21), (7, nI x18), (900001, .gh us1 (List.map (fun x => tokC (c25_o x)) v6)), (900002, .gh us2 (List.map (fun x => tokC (c25_o x)) v9))] := by
       intro x20 x21 h σ' hk
       unfold impl_sorted_J4 at h
       refine hK19 _ (lh hk rfl (rn 1 rfl ?_))
       rcases cond_some h with ⟨g22, h⟩ | ⟨g22, h⟩
       ·refine qT rfl g22 (ls_seq_k fun K23 hK23 => rn 1 rfl ?_)
        have kJ5 : ∀ {x24 : List (Nat × (List Int))}, impl_sorted_J5 (loopF impl_sorted_B1 m) y2 x20 x24 = some o1 → Jn K23 [(4, dL (pE c25_o U) x20), (5, dL (pE c25_o U) y2), (6, oL 25 (pE c25_o U) x24), (900001, .gh us1 (List.map (fun x => tokC (c25_o x)) v6)), (900002, .gh us2 (List.map (fun x => tokC (c25_o x)) v9))] := by
         intro x24 h σ' hk
         unfold impl_sorted_J5 at h
         refine hK23 _ (lh hk rfl (rg (sp 1 rfl (?_))))
         obtain ⟨g25, h⟩ := chk_some h
         exact qSl rfl (zpE zc25_o) g25 (sp 1 rfl (evn (hN _ _ h (okr rfl))))
        rcases cond_some h with ⟨g26, h⟩ | ⟨g26, h⟩
        ·refine qT rfl g26 (rg (sp 2 rfl (?_)))
         obtain ⟨e27, g28, h⟩ := ob_some h
         refine qI rfl (zpE zc25_o) g28 (sp 1 rfl (qBs (pE c25_o U) [e27] rfl rfl rfl (zpE zc25_o) (?_)))
         obtain ⟨g29, h⟩ := chk_some h
         exact qA (pE c25_o U) x21 [e27] rfl rfl (flat_len (zpE zc25_o) [e27]) rfl g29 (sp 1 rfl (evn (kJ5 h _ (okr rfl))))
        ·exact qF rfl g26 (ls_skip (kJ5 h _ (okr rfl)))
       ·exact qF rfl g22 (ls_skip (hN _ _ h (okr rfl)))
      rcases cond_some h with ⟨g30, h⟩ | ⟨g30, h⟩
      ·refine qT rfl g30 (rs (sp 2 rfl (?_)))
       obtain ⟨e31, g32, h⟩ := ob_some h
       refine qI rfl (zpE zc25_o) g32 (sp 1 rfl (qBs (pE c25_o U) [e31] rfl rfl rfl (zpE zc25_o) (?_)))
       obtain ⟨g33, h⟩ := chk_some h
       refine qA (pE c25_o U) y3 [e31] rfl rfl (flat_len (zpE zc25_o) [e31]) rfl g33 (sp 1 rfl (evn (rg (sp 1 rfl (?_)))))
       obtain ⟨g34, h⟩ := chk_some h
       exact qSl rfl (zpE zc25_o) g34 (sp 1 rfl (evn (kJ4 h _ (okr rfl))))
      ·exact qF rfl g30 (ls_skip (kJ4 h _ (okr rfl)))
     rcases cond_some h with ⟨g35, h⟩ | ⟨g35, h⟩
     ·exact qT rfl g35 (rg (sp 1 rfl (evn (kJ3 h _ (okr rfl)))))
     ·refine qF rfl g35 (rn 1 rfl (qk [4, 5, 6, 7, 37, 900001, 900002] rfl ?_))
      rcases cond_some h with ⟨g36, h⟩ | ⟨g36, h⟩
      ·refine qT rfl g36 (rgd (by kernel_rfl) (sd 1 rfl (?_)))
       obtain ⟨e37, g38, h⟩ := ob_some h
       refine ed rfl (qI rfl (zpE zc25_o) g38 (sd 2 rfl (?_)))
       obtain ⟨e39, g40, h⟩ := ob_some h
       refine ed rfl (qI rfl (zpE zc25_o) g40 (sd 1 rfl (?_)))
       obtain ⟨v41, g42, h⟩ := ob_some h
       exact ed rfl (qC (qa rfl (erP eci64 eci64 _) (qa rfl (erP eci64 eci64 _) eran)) (impl_CompareRows_s g42) (sd 1 rfl (evdn (kJ3 h _ (okr rfl)))))
      ·exact qF rfl g36 (ls_skip (kJ3 h _ (okr rfl)))
    ·exact qF rfl g16 (ls_exit (kXB1 (Option.some.inj h) _ (okr rfl)))
   refine sp 4 rfl (?_)
   rcases cond_some h with ⟨g43, h⟩ | ⟨g43, h⟩
   ·exact qg 27 g43 rfl (sp 4 rfl (evn (kJ2 h _ (okr rfl))))
   ·exact qg 27 g43 rfl (sp 4 rfl (evn (kJ2 h _ (okr rfl))))
def impl_AtomBindings_J3 (rec : ((List Int) × Bool × Int) → Option ((List Int) × Bool)) (e16 : List Int) (y9 : List Int) (y11 : Int) (e25 : Int) (x30 : Bool) : Option ((List Int) × Bool) := obind (geti e16 y11) fun e31 => obind (geti y9 e25) fun e33 => rec ((seti y9 e25 e31), x30, (IntKind.i64.wrap (y11 + 1)))
def impl_AtomBindings_B2 (a1 : Y194) (e16 : List Int) (rec : ((List Int) × Bool × Int) → Option ((List Int) × Bool)) (s : (List Int) × Bool × Int) : Option ((List Int) × Bool) := match s with
  | (y9, y10, y11) => cond (decide (y11 < (List.length a1.2 : Int))) (obind (geti a1.2 y11) fun e25 => obind (impl_indexOf a1.2 e25) fun v27 => cond y10 (obind (geti e16 v27) fun e36 => obind (geti e16 y11) fun e38 => impl_AtomBindings_J3 rec e16 y9 y11 e25 (e36 == e38)) (impl_AtomBindings_J3 rec e16 y9 y11 e25 false)) (some (y9, y10))
def impl_AtomBindings_J4 (rec : ((List (List Int)) × Int) → Option ((List (List Int)))) (y5 : Int) (x40 : List (List Int)) : Option ((List (List Int))) := rec (x40, (IntKind.i64.wrap (y5 + 1)))
def impl_AtomBindings_B1 (a1 : Y194) (v1 : (List Int)) (v3 : Y127 × Bool) (rec : ((List (List Int)) × Int) → Option ((List (List Int)))) (s : (List (List Int)) × Int) : Option ((List (List Int))) := match s with
  | (y4, y5) => cond (decide (y5 < (List.length v3.1.2 : Int))) (obind (geti v3.1.2 y5) fun e16 => chk ((0 : Int) ≤ 5 ∧ Int.toNat 5 ≤ lim) (obind (loopF (impl_AtomBindings_B2 a1 e16) fz ((List.replicate (Int.toNat 5) (0 : Int)), true, 0)) fun o2 => (match o2 with
  | (z20, z21) => (cond z21 (obind (impl_pick z20 v1) fun v42 => chk (List.length y4 + List.length [v42] ≤ lim) (impl_AtomBindings_J4 rec y5 (y4 ++ [v42]))) (impl_AtomBindings_J4 rec y5 y4))))) (some y4)
def impl_AtomBindings (a0 : List Y207) (a1 : Y194) : Option (Y127) := obind (impl_AtomVariables a1) fun v1 => obind (impl_LookupRelation a0 a1.1) fun v3 => cond (!v3.2) (some ((List.length v1 : Int), [])) (cond (v3.1.1 != (List.length a1.2 : Int)) (some ((List.length v1 : Int), [])) (obind (impl_columnsFit 5 a1.2) fun v8 => cond (!v8) (some ((List.length v1 : Int), [])) (obind (loopF (impl_AtomBindings_B1 a1 v1 v3) fz (([] : List (List Int)), 0)) fun z12 => obind (impl_sorted z12) fun v45 => some ((List.length v1 : Int), v45))))
theorem impl_AtomBindings_s {a0 : List Y207} {a1 : Y194} {r : Y127} (h : impl_AtomBindings a0 a1 = some r) : SoundAt Try.prog 227 [.agg [dL c208_dd a0], .agg (c195_d a1)] (.agg (c128_oo r)) := by
 unfold impl_AtomBindings at h
 refine st lit227 rfl (rn 1 rfl (rs (sp 1 rfl (?_))))
 obtain ⟨v1, g2, h⟩ := ob_some h
 refine qC (qa rfl (erg (erc rfl (erc (erD eci64 _) rfl))) eran) (impl_AtomVariables_s g2) (sp 1 rfl (evn (rn 1 rfl (rs (sp 3 rfl (?_))))))
 obtain ⟨v3, g4, h⟩ := ob_some h
 refine qC (qa rfl (erg (erc (erD ec208_dd _) rfl)) (qs rfl eran)) (impl_LookupRelation_s g4) (sp 6 rfl (evn (ls_seq_k fun K5 hK5 => rs (sp 3 rfl (?_)))))
 rcases cond_some h with ⟨g6, h⟩ | ⟨g6, h⟩
 ·exact qg 31 g6 rfl (sp 13 rfl (evn (qk [3, 4, 5, 6, 7, 44] rfl (qT rfl rfl (rn 1 rfl (ls_ret ((by cases h; exact ⟨.inl rfl, rfl⟩))))))))
 ·refine qg 31 g6 rfl (sp 8 rfl (?_))
  rcases cond_some h with ⟨g7, h⟩ | ⟨g7, h⟩
  ·exact qg 39 g7 rfl (sp 5 rfl (evn (qT rfl rfl (rn 1 rfl (ls_ret ((by cases h; exact ⟨.inl rfl, rfl⟩)))))))
  ·refine qg 39 g7 rfl (sp 2 rfl (?_))
   obtain ⟨v8, g9, h⟩ := ob_some h
   refine oGR rfl rfl (qC (qs rfl (qa rfl (erD eci64 _) eran)) (impl_columnsFit_s g9) (sp 2 rfl (evn ?_)))
   rcases cond_some h with ⟨g10, h⟩ | ⟨g10, h⟩
   ·exact qT rfl g10 (rn 1 rfl (ls_ret ((by cases h; exact ⟨.inl rfl, rfl⟩))))
   ·refine qF rfl g10 (ls_skip (hK5 _ (qk [3, 4, 5, 6, 7] rfl (rn 1 rfl (ls_seq_k fun K11 hK11 => rn 1 rfl ?_)))))
    obtain ⟨o1, hl, hr1⟩ := ob_some h
    have kXB1 : ∀ {z12 : List (List Int)}, z12 = o1 → Jn K11 [(4, .box [nI 0, oL 25 c25_o []]), (6, .box [nI (List.length v1 : Int), oL 25 c25_o []]), (9, oL 25 c25_o z12)] := by
     intro z12 h σ' hk
     subst h
     replace h := hr1
     try dsimp only at h
     refine hK11 _ (lh hk rfl (rs (sp 1 rfl (?_))))
     obtain ⟨v45, g46, h⟩ := ob_some h
     exact qC (qa rfl (erD ec25_o _) eran) (impl_sorted_s g46) (sp 2 rfl (evn (rn 1 rfl (ls_ret ((by cases h; exact ⟨.inl rfl, rfl⟩))))))
    refine ls_rec (fun (s : (List (List Int)) × Int) => match s with | (y4, y5) => [(3, .box [.str a1.1, dL ci64 a1.2]), (4, .box [nI 0, oL 25 c25_o []]), (5, oL 3 ci64 v1), (6, .box [nI (List.length v1 : Int), oL 25 c25_o []]), (9, oL 25 c25_o y4), (47, dL c25_o v3.1.2), (48, nI (List.length v3.1.2 : Int)), (49, nI y5)]) _ _ _ _ hl (okr rfl) (fun _ => rfl) ?_
    rintro m ⟨y4, y5⟩ N h hN
    unfold impl_AtomBindings_B1 at h
    dsimp only at h
    refine rn 1 rfl (ls_seq_k fun K13 hK13 => ?_)
    rcases cond_some h with ⟨g14, h⟩ | ⟨g14, h⟩
    ·refine qT rfl g14 (ls_skip (hK13 _ (ls_seq_k fun K15 hK15 => ls_blk (rs ?_))))
     obtain ⟨e16, g17, h⟩ := ob_some h
     refine qI rfl zc25_o g17 (sp 2 rfl (evn (rs ?_)))
     obtain ⟨g18, h⟩ := chk_some h
     refine qMu ci64 (0 : Int) rfl rfl rfl rfl g18 rfl (qAu rfl rfl rfl rfl (evn (rn 1 rfl (ls_seq_k fun K19 hK19 => rn 1 rfl ?_))))
     obtain ⟨o2, hl, hr2⟩ := ob_some h
     have kXB2 : ∀ {z20 : List Int} {z21 : Bool}, (z20, z21) = o2 → Jn K19 [(3, .box [.str a1.1, dL ci64 a1.2]), (4, .box [nI 0, oL 25 c25_o []]), (5, oL 3 ci64 v1), (6, .box [nI (List.length v1 : Int), oL 25 c25_o []]), (9, oL 25 c25_o y4), (12, wL 3 ci64 z20), (13, .bool z21), (47, dL c25_o v3.1.2), (48, nI (List.length v3.1.2 : Int)), (49, nI y5)] := by
      intro z20 z21 h σ' hk
      subst h
      replace h := hr2
      try dsimp only at h
      refine hK19 _ (lh hk rfl (rn 1 rfl ?_))
      have kJ4 : ∀ {x40 : List (List Int)}, impl_AtomBindings_J4 (loopF (impl_AtomBindings_B1 a1 v1 v3) m) y5 x40 = some o1 → Jn K15 [(3, .box [.str a1.1, dL ci64 a1.2]), (4, .box [nI 0, oL 25 c25_o []]), (5, oL 3 ci64 v1), (6, .box [nI (List.length v1 : Int), oL 25 c25_o []]), (9, oL 25 c25_o x40), (47, dL c25_o v3.1.2), (48, nI (List.length v3.1.2 : Int)), (49, nI y5)] := by
       intro x40 h σ' hk
       unfold impl_AtomBindings_J4 at h
       exact hK15 _ (lh hk rfl (rg (sp 2 rfl (evn (hN _ _ h (okr rfl))))))
      rcases cond_some h with ⟨g41, h⟩ | ⟨g41, h⟩
      ·refine qT rfl g41 (rg (sp 1 rfl (qTu rfl rfl rfl (sp 1 rfl (?_)))))
       obtain ⟨v42, g43, h⟩ := ob_some h
       refine qC (qa rfl (erO eci64 _) (qa rfl (erD eci64 _) eran)) (impl_pick_s g43) (qBs c25_o [v42] rfl rfl rfl zc25_o (?_))
       obtain ⟨g44, h⟩ := chk_some h
       exact qA c25_o y4 [v42] rfl rfl (flat_len zc25_o [v42]) rfl g44 (sp 1 rfl (evn (kJ4 h _ (okr rfl))))
      ·exact qF rfl g41 (ls_skip (kJ4 h _ (okr rfl)))
     refine ls_rec (fun (s : (List Int) × Bool × Int) => match s with | (y9, y10, y11) => [(3, .box [.str a1.1, dL ci64 a1.2]), (4, .box [nI 0, oL 25 c25_o []]), (5, oL 3 ci64 v1), (6, .box [nI (List.length v1 : Int), oL 25 c25_o []]), (9, oL 25 c25_o y4), (11, dL ci64 e16), (12, wL 3 ci64 y9), (13, .bool y10), (47, dL c25_o v3.1.2), (48, nI (List.length v3.1.2 : Int)), (49, nI y5), (55, dL ci64 a1.2), (56, nI (List.length a1.2 : Int)), (57, nI y11)]) _ _ _ _ hl (okr rfl) (fun _ => rfl) ?_
     rintro m ⟨y9, y10, y11⟩ N h hN
     unfold impl_AtomBindings_B2 at h
     dsimp only at h
     refine rn 1 rfl (ls_seq_k fun K22 hK22 => ?_)
     rcases cond_some h with ⟨g23, h⟩ | ⟨g23, h⟩
     ·refine qT rfl g23 (ls_skip (hK22 _ (ls_seq_k fun K24 hK24 => ls_blk (rs (sp 1 rfl (?_))))))
      obtain ⟨e25, g26, h⟩ := ob_some h
      refine qI rfl zci64 g26 (sp 3 rfl (evn (rs (sp 3 rfl (?_)))))
      obtain ⟨v27, g28, h⟩ := ob_some h
      refine qC (qa rfl (erD eci64 _) (qs rfl eran)) (impl_indexOf_s g28) (sp 1 rfl (evn (rdk (by kernel_rfl) fun K29 hK29 => ?_)))
      have kJ3 : ∀ {x30 : Bool}, impl_AtomBindings_J3 (loopF (impl_AtomBindings_B2 a1 e16) m) e16 y9 y11 e25 x30 = some o2 → Jn K29 [(3, .box [.str a1.1, dL ci64 a1.2]), (4, .box [nI 0, oL 25 c25_o []]), (5, oL 3 ci64 v1), (6, .box [nI (List.length v1 : Int), oL 25 c25_o []]), (9, oL 25 c25_o y4), (11, dL ci64 e16), (12, wL 3 ci64 y9), (13, .bool x30), (14, nI y11), (15, nI e25), (47, dL c25_o v3.1.2), (48, nI (List.length v3.1.2 : Int)), (49, nI y5), (55, dL ci64 a1.2), (56, nI (List.length a1.2 : Int)), (57, nI y11)] := by
       intro x30 h σ' hk
       unfold impl_AtomBindings_J3 at h
       refine hK29 _ (lh hk rfl (rg (sp 4 rfl (?_))))
       obtain ⟨e31, g32, h⟩ := ob_some h
       refine qI rfl zci64 g32 (sp 1 rfl (?_))
       obtain ⟨e33, g34, h⟩ := ob_some h
       exact qIu rfl ⟨(geti_some g34).1, (geti_some g34).2.1⟩ (qSu e31 rfl rfl zci64 ⟨(geti_some g34).1, (geti_some g34).2.1⟩ rfl rfl rfl rfl rfl rfl (evn (hK24 _ (rg (sp 2 rfl (evn (hN _ _ h (okr rfl))))))))
      refine sd 2 rfl (?_)
      rcases cond_some h with ⟨g35, h⟩ | ⟨g35, h⟩
      ·refine qgd 67 g35 rfl (sd 2 rfl (?_))
       obtain ⟨e36, g37, h⟩ := ob_some h
       refine ed rfl (oGR rfl rfl (qI rfl zci64 g37 (sd 3 rfl (?_))))
       obtain ⟨e38, g39, h⟩ := ob_some h
       exact ed rfl (oGR rfl rfl (qI rfl zci64 g39 (sd 4 rfl (evdn (kJ3 h _ (okr rfl))))))
      ·exact qgd 67 g35 rfl (sd 11 rfl (evdn (kJ3 h _ (okr rfl))))
     ·exact qF rfl g23 (ls_exit (kXB2 (Option.some.inj h) _ (okr rfl)))
    ·exact qF rfl g14 (ls_exit (kXB1 (Option.some.inj h) _ (okr rfl)))
def impl_AtomSizes_B1 (a0 : List Y207) (a1 : Y91) (rec : ((List Int) × Int) → Option ((List Int))) (s : (List Int) × Int) : Option ((List Int)) := match s with
  | (y1, y2) => cond (decide (y2 < (List.length a1.2.1 : Int))) (obind (geti a1.2.1 y2) fun e10 => obind (impl_AtomBindings a0 e10) fun v12 => chk (List.length y1 + List.length [(List.length v12.2 : Int)] ≤ lim) (rec ((y1 ++ [(List.length v12.2 : Int)]), (IntKind.i64.wrap (y2 + 1))))) (some y1)
def impl_AtomSizes (a0 : List Y207) (a1 : Y91) : Option ((List Int) × Bool) := obind (impl_IsQueryFor a0 a1) fun v2 => cond (!v2) (some (([] : List Int), false)) (obind (loopF (impl_AtomSizes_B1 a0 a1) fz (([] : List Int), 0)) fun z6 => some (z6, true))
theorem impl_AtomSizes_s {a0 : List Y207} {a1 : Y91} {r : (List Int) × Bool} (h : impl_AtomSizes a0 a1 = some r) : SoundAt Try.prog 167 [.agg [dL c208_dd a0], .agg (c92_ddd a1)] (.tup [oL 3 ci64 r.1, .bool r.2]) := by
 unfold impl_AtomSizes at h
 refine st lit167 rfl (rn 1 rfl (ls_seq_k fun K1 hK1 => rs (sp 2 rfl (?_))))
 obtain ⟨v2, g3, h⟩ := ob_some h
 refine qC (qa rfl (erg (erc (erD ec208_dd _) rfl)) (qa rfl (erg (erc rfl (erc (erD ec195_d _) (erc (erD eci64 _) rfl)))) eran)) (impl_IsQueryFor_s g3) (sp 1 rfl (evn ?_))
 rcases cond_some h with ⟨g4, h⟩ | ⟨g4, h⟩
 ·exact qT rfl g4 (rn 1 rfl (ls_ret ((by cases h; exact ⟨.inl rfl, rfl⟩))))
 ·refine qF rfl g4 (ls_skip (hK1 _ (rn 1 rfl (ls_seq_k fun K5 hK5 => rn 1 rfl ?_))))
  obtain ⟨o1, hl, hr1⟩ := ob_some h
  have kXB1 : ∀ {z6 : List Int}, z6 = o1 → Jn K5 [(6, oL 3 ci64 z6)] := by
   intro z6 h σ' hk
   subst h
   replace h := hr1
   try dsimp only at h
   exact hK5 _ (lh hk rfl (rn 1 rfl (ls_ret ((by cases h; exact ⟨.inl rfl, rfl⟩)))))
  refine ls_rec (fun (s : (List Int) × Int) => match s with | (y1, y2) => [(2, .box [dL c208_dd a0]), (6, oL 3 ci64 y1), (14, dL c195_d a1.2.1), (15, nI (List.length a1.2.1 : Int)), (16, nI y2)]) _ _ _ _ hl (okr rfl) (fun _ => rfl) ?_
  rintro m ⟨y1, y2⟩ N h hN
  unfold impl_AtomSizes_B1 at h
  dsimp only at h
  refine rn 1 rfl (ls_seq_k fun K7 hK7 => ?_)
  rcases cond_some h with ⟨g8, h⟩ | ⟨g8, h⟩
  ·refine qT rfl g8 (ls_skip (hK7 _ (ls_seq_k fun K9 hK9 => ls_blk (rs ?_))))
   obtain ⟨e10, g11, h⟩ := ob_some h
   refine qI rfl zc195_d g11 (sp 3 rfl (evn (rg (sp 3 rfl (?_)))))
   obtain ⟨v12, g13, h⟩ := ob_some h
   refine qC (qa rfl (erg (erc (erD ec208_dd _) rfl)) (qa rfl (erg (erc rfl (erc (erD eci64 _) rfl))) eran)) (impl_AtomBindings_s g13) (qFd 1 (by kernel_rfl) rfl (sp 1 rfl (qBs ci64 [(List.length v12.2 : Int)] rfl rfl rfl zci64 (?_))))
   obtain ⟨g14, h⟩ := chk_some h
   exact qA ci64 y1 [(List.length v12.2 : Int)] rfl rfl (flat_len zci64 [(List.length v12.2 : Int)]) rfl g14 (sp 1 rfl (evn (hK9 _ (rg (sp 2 rfl (evn (hN _ _ h (okr rfl))))))))
  ·exact qF rfl g8 (ls_exit (kXB1 (Option.some.inj h) _ (okr rfl)))
def impl_IsStrictlyAscending_B1 (a0 : List Int) (rec : Int → Option (Sum (Unit) (Bool))) (y1 : Int) : Option (Sum (Unit) (Bool)) := cond (decide (y1 < (List.length a0 : Int))) (obind (geti a0 (IntKind.i64.wrap (y1 - 1))) fun e5 => obind (geti a0 y1) fun e7 => cond (decide (e7 ≤ e5)) (some (.inr false)) (rec (IntKind.i64.wrap (y1 + 1)))) (some (.inl ()))
def impl_IsStrictlyAscending (a0 : List Int) : Option (Bool) := obind (loopF (impl_IsStrictlyAscending_B1 a0) fz 1) fun o1 => (match o1 with
  | .inl _ => (some true)
  | .inr r => some r)
theorem impl_IsStrictlyAscending_s {a0 : List Int} {r : Bool} (h : impl_IsStrictlyAscending a0 = some r) : SoundAt Try.prog 174 [dL ci64 a0] (.bool r) := by
 unfold impl_IsStrictlyAscending at h
 refine st lit174 rfl (rn 1 rfl (ls_seq_k fun K1 hK1 => rn 1 rfl ?_))
 obtain ⟨o1, hl, hr1⟩ := ob_some h
 have kXB1 : (.inl ()) = o1 → Jn K1 [] := by
  intro h σ' hk
  subst h
  replace h := hr1
  try dsimp only at h
  exact hK1 _ (lh hk rfl (rn 1 rfl (ls_ret ((by cases h; exact ⟨.inl rfl, rfl⟩)))))
 refine ls_rec (fun (y1 : Int) => [(0, dL ci64 a0), (3, nI y1)]) _ _ _ _ hl (okr rfl) (fun _ => rfl) ?_
 rintro m y1 N h hN
 unfold impl_IsStrictlyAscending_B1 at h
 refine ls_seq_k fun K2 hK2 => rn 1 rfl ?_
 rcases cond_some h with ⟨g3, h⟩ | ⟨g3, h⟩
 ·refine qT rfl g3 (ls_skip (hK2 _ (ls_seq_k fun K4 hK4 => ls_blk (rd (by kernel_rfl) (sd 3 rfl (?_))))))
  obtain ⟨e5, g6, h⟩ := ob_some h
  refine ed rfl (qI rfl zci64 g6 (sd 3 rfl (?_)))
  obtain ⟨e7, g8, h⟩ := ob_some h
  refine ed rfl (qI rfl zci64 g8 (sd 2 rfl (evdn ?_)))
  rcases cond_some h with ⟨g9, h⟩ | ⟨g9, h⟩
  ·exact qT rfl g9 (rn 1 rfl (ls_ret ((by cases h; cases hr1; exact ⟨.inl rfl, rfl⟩))))
  ·exact qF rfl g9 (ls_skip (hK4 _ (rg (sp 3 rfl (evn (hN _ _ h (okr rfl)))))))
 ·exact qF rfl g3 (ls_exit (kXB1 (Option.some.inj h) _ trivial))
def impl_IsValidFD_B1 (a1 : Y26) (v1 : Y127 × Bool) (rec : Int → Option (Sum (Unit) (Bool))) (y1 : Int) : Option (Sum (Unit) (Bool)) := cond (decide (y1 < (List.length a1.2.1 : Int))) (obind (geti a1.2.1 y1) fun e15 => obind (impl_within e15 0 (IntKind.i64.wrap (v1.1.1 - 1))) fun v17 => cond (!v17) (some (.inr false)) (rec (IntKind.i64.wrap (y1 + 1)))) (some (.inl ()))
def impl_IsValidFD (a0 : List Y207) (a1 : Y26) : Option (Bool) := obind (impl_LookupRelation a0 a1.1) fun v1 => cond (!v1.2) (some false) (obind (impl_IsStrictlyAscending a1.2.1) fun v5 => cond (!v5) (some false) (obind (impl_within a1.2.2 0 (IntKind.i64.wrap (v1.1.1 - 1))) fun v8 => cond (!v8) (some false) (obind (loopF (impl_IsValidFD_B1 a1 v1) fz 0) fun o1 => (match o1 with
  | .inl _ => (some true)
  | .inr r => some r))))
theorem impl_IsValidFD_s {a0 : List Y207} {a1 : Y26} {r : Bool} (h : impl_IsValidFD a0 a1 = some r) : SoundAt Try.prog 78 [.agg [dL c208_dd a0], .agg (c35_d a1)] (.bool r) := by
 unfold impl_IsValidFD at h
 refine st lit78 rfl (rn 1 rfl (rs (sp 3 rfl (?_))))
 obtain ⟨v1, g2, h⟩ := ob_some h
 refine qC (qa rfl (erg (erc (erD ec208_dd _) rfl)) (qs rfl eran)) (impl_LookupRelation_s g2) (sp 6 rfl (evn (ls_seq_k fun K3 hK3 => rs (sp 3 rfl (?_)))))
 rcases cond_some h with ⟨g4, h⟩ | ⟨g4, h⟩
 ·exact qg 18 g4 rfl (sp 14 rfl (evn (qT rfl rfl (rn 1 rfl (ls_ret ((by cases h; exact ⟨.inl rfl, rfl⟩)))))))
 ·refine qg 18 g4 rfl (sp 2 rfl (?_))
  obtain ⟨v5, g6, h⟩ := ob_some h
  refine oGR rfl rfl (qC (qa rfl (erD eci64 _) eran) (impl_IsStrictlyAscending_s g6) (sp 3 rfl (?_)))
  rcases cond_some h with ⟨g7, h⟩ | ⟨g7, h⟩
  ·exact qg 24 g7 rfl (sp 8 rfl (evn (qk [3, 5, 32] rfl (qT rfl rfl (rn 1 rfl (ls_ret ((by cases h; exact ⟨.inl rfl, rfl⟩))))))))
  ·refine qg 24 g7 rfl (sp 5 rfl (?_))
   obtain ⟨v8, g9, h⟩ := ob_some h
   refine oGR rfl rfl (qC (qs rfl (qs rfl (qs rfl eran))) (impl_within_s g9) (sp 2 rfl (evn ?_)))
   rcases cond_some h with ⟨g10, h⟩ | ⟨g10, h⟩
   ·exact qT rfl g10 (rn 1 rfl (ls_ret ((by cases h; exact ⟨.inl rfl, rfl⟩))))
   ·refine qF rfl g10 (ls_skip (hK3 _ (ls_seq_k fun K11 hK11 => rn 1 rfl ?_)))
    obtain ⟨o1, hl, hr1⟩ := ob_some h
    have kXB1 : (.inl ()) = o1 → Jn K11 [] := by
     intro h σ' hk
     subst h
     replace h := hr1
     try dsimp only at h
     exact hK11 _ (lh hk rfl (rn 1 rfl (ls_ret ((by cases h; exact ⟨.inl rfl, rfl⟩)))))
    refine ls_rec (fun (y1 : Int) => [(5, .box [nI v1.1.1, oL 25 c25_o v1.1.2]), (34, dL ci64 a1.2.1), (35, nI (List.length a1.2.1 : Int)), (36, nI y1)]) _ _ _ _ hl (okr rfl) (fun _ => rfl) ?_
    rintro m y1 N h hN
    unfold impl_IsValidFD_B1 at h
    refine rn 1 rfl (ls_seq_k fun K12 hK12 => ?_)
    rcases cond_some h with ⟨g13, h⟩ | ⟨g13, h⟩
    ·refine qT rfl g13 (ls_skip (hK12 _ (ls_seq_k fun K14 hK14 => ls_blk (rs ?_))))
     obtain ⟨e15, g16, h⟩ := ob_some h
     refine qI rfl zci64 g16 (sp 2 rfl (evn (rs (sp 4 rfl (?_)))))
     obtain ⟨v17, g18, h⟩ := ob_some h
     refine qC (qs rfl (qs rfl (qs rfl eran))) (impl_within_s g18) (sp 1 rfl (evn ?_))
     rcases cond_some h with ⟨g19, h⟩ | ⟨g19, h⟩
     ·exact qT rfl g19 (rn 1 rfl (ls_ret ((by cases h; cases hr1; exact ⟨.inl rfl, rfl⟩))))
     ·exact qF rfl g19 (ls_skip (hK14 _ (rg (sp 2 rfl (evn (hN _ _ h (okr rfl)))))))
    ·exact qF rfl g13 (ls_exit (kXB1 (Option.some.inj h) _ trivial))
def impl_sameInts_B1 (a0 : List Int) (a1 : List Int) (rec : Int → Option (Sum (Unit) (Bool))) (y1 : Int) : Option (Sum (Unit) (Bool)) := cond (decide (y1 < (List.length a0 : Int))) (obind (geti a0 y1) fun e7 => obind (geti a1 y1) fun e9 => cond (e7 != e9) (some (.inr false)) (rec (IntKind.i64.wrap (y1 + 1)))) (some (.inl ()))
def impl_sameInts (a0 : List Int) (a1 : List Int) : Option (Bool) := cond ((List.length a0 : Int) != (List.length a1 : Int)) (some false) (obind (loopF (impl_sameInts_B1 a0 a1) fz 0) fun o1 => (match o1 with
  | .inl _ => (some true)
  | .inr r => some r))
theorem impl_sameInts_s {a0 : List Int} {a1 : List Int} {r : Bool} (h : impl_sameInts a0 a1 = some r) : SoundAt Try.prog 80 [dL ci64 a0, dL ci64 a1] (.bool r) := by
 unfold impl_sameInts at h
 refine st lit80 rfl (rn 1 rfl (ls_seq_k fun K1 hK1 => rn 1 rfl ?_))
 rcases cond_some h with ⟨g2, h⟩ | ⟨g2, h⟩
 ·exact qT rfl g2 (rn 1 rfl (ls_ret ((by cases h; exact ⟨.inl rfl, rfl⟩))))
 ·refine qF rfl g2 (ls_skip (hK1 _ (ls_seq_k fun K3 hK3 => rn 1 rfl ?_)))
  obtain ⟨o1, hl, hr1⟩ := ob_some h
  have kXB1 : (.inl ()) = o1 → Jn K3 [] := by
   intro h σ' hk
   subst h
   replace h := hr1
   try dsimp only at h
   exact hK3 _ (lh hk rfl (rn 1 rfl (ls_ret ((by cases h; exact ⟨.inl rfl, rfl⟩)))))
  refine ls_rec (fun (y1 : Int) => [(0, dL ci64 a0), (1, dL ci64 a1), (12, nI (List.length a0 : Int)), (13, nI y1)]) _ _ _ _ hl (okr rfl) (fun _ => rfl) ?_
  rintro m y1 N h hN
  unfold impl_sameInts_B1 at h
  refine rn 1 rfl (ls_seq_k fun K4 hK4 => ?_)
  rcases cond_some h with ⟨g5, h⟩ | ⟨g5, h⟩
  ·refine qT rfl g5 (ls_skip (hK4 _ (ls_seq_k fun K6 hK6 => ls_blk (rn 1 rfl (rd (by kernel_rfl) (sd 2 rfl (?_)))))))
   obtain ⟨e7, g8, h⟩ := ob_some h
   refine ed rfl (qI rfl zci64 g8 (sd 3 rfl (?_)))
   obtain ⟨e9, g10, h⟩ := ob_some h
   refine ed rfl (qI rfl zci64 g10 (sd 2 rfl (evdn ?_)))
   rcases cond_some h with ⟨g11, h⟩ | ⟨g11, h⟩
   ·exact qT rfl g11 (rn 1 rfl (ls_ret ((by cases h; cases hr1; exact ⟨.inl rfl, rfl⟩))))
   ·exact qF rfl g11 (ls_skip (hK6 _ (rg (sp 2 rfl (evn (hN _ _ h (okr rfl)))))))
  ·exact qF rfl g5 (ls_exit (kXB1 (Option.some.inj h) _ trivial))
def impl_FDViolation_J3 (rec : Int → Option (Sum (Unit) ((List Int)))) (y2 : Int) (y4 : Int) (x20 : Bool) : Option (Sum (Unit) ((List Int))) := cond x20 (some (.inr [y4, y2])) (rec (IntKind.i64.wrap (y4 + 1)))
def impl_FDViolation_B2 (a1 : Y26) (v5 : Y127 × Bool) (y2 : Int) (e11 : List Int) (rec : Int → Option (Sum (Unit) ((List Int)))) (y4 : Int) : Option (Sum (Unit) ((List Int))) := cond (decide (y4 < (List.length (subl v5.1.2 0 y2) : Int))) (obind (geti (subl v5.1.2 0 y2) y4) fun e17 => obind (geti e17 a1.2.2) fun e22 => obind (geti e11 a1.2.2) fun e24 => cond (e22 != e24) (obind (impl_pick e17 a1.2.1) fun v27 => obind (impl_pick e11 a1.2.1) fun v29 => obind (impl_sameInts v27 v29) fun v31 => impl_FDViolation_J3 rec y2 y4 v31) (impl_FDViolation_J3 rec y2 y4 false)) (some (.inl ()))
def impl_FDViolation_B1 (a1 : Y26) (v5 : Y127 × Bool) (rec : Int → Option (Sum (Unit) ((List Int)))) (y2 : Int) : Option (Sum (Unit) ((List Int))) := cond (decide (y2 < (List.length v5.1.2 : Int))) (obind (geti v5.1.2 y2) fun e11 => chk ((0 : Int) ≤ 0 ∧ 0 ≤ y2 ∧ y2 ≤ (List.length v5.1.2 : Int)) (obind (loopF (impl_FDViolation_B2 a1 v5 y2 e11) fz 0) fun o2 => (match o2 with
  | .inl _ => (rec (IntKind.i64.wrap (y2 + 1)))
  | .inr r => some (.inr r)))) (some (.inl ()))
def impl_FDViolation (a0 : List Y207) (a1 : Y26) : Option ((List Int)) := obind (impl_IsValidFD a0 a1) fun v2 => cond (!v2) (some ([] : List Int)) (obind (impl_LookupRelation a0 a1.1) fun v5 => obind (loopF (impl_FDViolation_B1 a1 v5) fz 0) fun o1 => (match o1 with
  | .inl _ => (some ([] : List Int))
  | .inr r => some r))
theorem impl_FDViolation_s {a0 : List Y207} {a1 : Y26} {r : (List Int)} (h : impl_FDViolation a0 a1 = some r) : SoundAt Try.prog 18 [.agg [dL c208_dd a0], .agg (c35_d a1)] (oL 3 ci64 r) := by
 unfold impl_FDViolation at h
 refine st lit18 rfl (rn 1 rfl (ls_seq_k fun K1 hK1 => rs (sp 2 rfl (?_))))
 obtain ⟨v2, g3, h⟩ := ob_some h
 refine qC (qa rfl (erg (erc (erD ec208_dd _) rfl)) (qa rfl (erg (erc rfl (erc (erD eci64 _) (erc rfl rfl)))) eran)) (impl_IsValidFD_s g3) (sp 1 rfl (evn ?_))
 rcases cond_some h with ⟨g4, h⟩ | ⟨g4, h⟩
 ·exact qT rfl g4 (rn 1 rfl (ls_ret ((by cases h; exact ⟨.inl rfl, rfl⟩))))
 ·refine qF rfl g4 (ls_skip (hK1 _ (rs (sp 3 rfl (?_)))))
  obtain ⟨v5, g6, h⟩ := ob_some h
  refine qC (qa rfl (erg (erc (erD ec208_dd _) rfl)) (qs rfl eran)) (impl_LookupRelation_s g6) (sp 6 rfl (evn (ls_seq_k fun K7 hK7 => rn 1 rfl ?_)))
  obtain ⟨o1, hl, hr1⟩ := ob_some h
  have kXB1 : (.inl ()) = o1 → Jn K7 [] := by
   intro h σ' hk
   subst h
   replace h := hr1
   try dsimp only at h
   exact hK7 _ (lh hk rfl (rn 1 rfl (ls_ret ((by cases h; exact ⟨.inl rfl, rfl⟩)))))
  refine ls_rec (fun (y2 : Int) => [(3, .box [.str a1.1, dL ci64 a1.2.1, nI a1.2.2]), (5, .box [nI v5.1.1, oL 25 c25_o v5.1.2]), (23, dL c25_o v5.1.2), (24, nI (List.length v5.1.2 : Int)), (25, nI y2)]) _ _ _ _ hl (okr rfl) (fun _ => rfl) ?_
  rintro m y2 N h hN
  unfold impl_FDViolation_B1 at h
  refine rn 1 rfl (ls_seq_k fun K8 hK8 => ?_)
  rcases cond_some h with ⟨g9, h⟩ | ⟨g9, h⟩
  ·refine qT rfl g9 (ls_skip (hK8 _ (ls_seq_k fun K10 hK10 => ls_blk (rs (sp 1 rfl (?_))))))
   obtain ⟨e11, g12, h⟩ := ob_some h
   refine qI rfl zc25_o g12 (sp 3 rfl (evn (rs (sp 3 rfl (?_)))))
   obtain ⟨g13, h⟩ := chk_some h
   refine qSl rfl zc25_o g13 (sp 2 rfl (evn ?_))
   obtain ⟨o2, hl, hr2⟩ := ob_some h
   have kXB2 : (.inl ()) = o2 → Jn K10 [(3, .box [.str a1.1, dL ci64 a1.2.1, nI a1.2.2]), (5, .box [nI v5.1.1, oL 25 c25_o v5.1.2]), (23, dL c25_o v5.1.2), (24, nI (List.length v5.1.2 : Int)), (25, nI y2)] := by
    intro h σ' hk
    subst h
    replace h := hr2
    try dsimp only at h
    exact hK10 _ (lh hk rfl (rg (sp 2 rfl (evn (hN _ _ h (okr rfl))))))
   refine ls_rec (fun (y4 : Int) => [(3, .box [.str a1.1, dL ci64 a1.2.1, nI a1.2.2]), (5, .box [nI v5.1.1, oL 25 c25_o v5.1.2]), (7, nI y2), (8, dL ci64 e11), (23, dL c25_o v5.1.2), (24, nI (List.length v5.1.2 : Int)), (25, nI y2), (33, dL c25_o (subl v5.1.2 0 y2)), (34, nI (List.length (subl v5.1.2 0 y2) : Int)), (35, nI y4)]) _ _ _ _ hl (okr rfl) (fun _ => rfl) ?_
   rintro m y4 N h hN
   unfold impl_FDViolation_B2 at h
   refine rn 1 rfl (ls_seq_k fun K14 hK14 => ?_)
   rcases cond_some h with ⟨g15, h⟩ | ⟨g15, h⟩
   ·refine qT rfl g15 (ls_skip (hK14 _ (ls_seq_k fun K16 hK16 => ls_blk (rs (sp 1 rfl (?_))))))
    obtain ⟨e17, g18, h⟩ := ob_some h
    refine qI rfl zc25_o g18 (sp 3 rfl (evn (rdk (by kernel_rfl) fun K19 hK19 => ?_)))
    have kJ3 : ∀ {x20 : Bool}, impl_FDViolation_J3 (loopF (impl_FDViolation_B2 a1 v5 y2 e11) m) y2 y4 x20 = some o2 → Jn K19 [(3, .box [.str a1.1, dL ci64 a1.2.1, nI a1.2.2]), (5, .box [nI v5.1.1, oL 25 c25_o v5.1.2]), (7, nI y2), (8, dL ci64 e11), (9, nI y4), (23, dL c25_o v5.1.2), (24, nI (List.length v5.1.2 : Int)), (25, nI y2), (33, dL c25_o (subl v5.1.2 0 y2)), (34, nI (List.length (subl v5.1.2 0 y2) : Int)), (35, nI y4), (61, .bool x20)] := by
     intro x20 h σ' hk
     unfold impl_FDViolation_J3 at h
     refine hK19 _ (lh hk rfl ?_)
     rcases cond_some h with ⟨g21, h⟩ | ⟨g21, h⟩
     ·exact qT rfl g21 (rs (sp 2 rfl (qBs ci64 [y4, y2] rfl rfl rfl zci64 (sp 1 rfl (evn (ls_ret ((by cases h; cases hr2; cases hr1; exact ⟨.inl rfl, rfl⟩))))))))
     ·exact qF rfl g21 (ls_skip (hK16 _ (rg (sp 2 rfl (evn (hN _ _ h (okr rfl)))))))
    refine sd 3 rfl (?_)
    obtain ⟨e22, g23, h⟩ := ob_some h
    refine ed rfl (qI rfl zci64 g23 (sd 4 rfl (?_)))
    obtain ⟨e24, g25, h⟩ := ob_some h
    refine ed rfl (qI rfl zci64 g25 (sd 3 rfl (?_)))
    rcases cond_some h with ⟨g26, h⟩ | ⟨g26, h⟩
    ·refine qgd 51 g26 rfl (sd 3 rfl (?_))
     obtain ⟨v27, g28, h⟩ := ob_some h
     refine ed rfl (oGR rfl rfl (qC (qa rfl (erD eci64 _) (qa rfl (erD eci64 _) eran)) (impl_pick_s g28) (sd 3 rfl (?_))))
     obtain ⟨v29, g30, h⟩ := ob_some h
     refine ed rfl (oGR rfl rfl (qC (qa rfl (erD eci64 _) (qa rfl (erD eci64 _) eran)) (impl_pick_s g30) (?_)))
     obtain ⟨v31, g32, h⟩ := ob_some h
     exact ed rfl (oGR rfl rfl (qC (qa rfl (erO eci64 _) (qa rfl (erO eci64 _) eran)) (impl_sameInts_s g32) (sd 1 rfl (evdn (kJ3 h _ (okr rfl))))))
    ·exact qgd 51 g26 rfl (sd 10 rfl (evdn (kJ3 h _ (okr rfl))))
   ·exact qF rfl g15 (ls_exit (kXB2 (Option.some.inj h) _ (okr rfl)))
  ·exact qF rfl g9 (ls_exit (kXB1 (Option.some.inj h) _ trivial))
def impl_FDHolds_J1 (x2 : Bool) : Option (Bool) := some x2
def impl_FDHolds (a0 : List Y207) (a1 : Y26) : Option (Bool) := obind (impl_IsValidFD a0 a1) fun v3 => cond v3 (obind (impl_FDViolation a0 a1) fun v6 => impl_FDHolds_J1 ((List.length v6 : Int) == 0)) (impl_FDHolds_J1 false)
theorem impl_FDHolds_s {a0 : List Y207} {a1 : Y26} {r : Bool} (h : impl_FDHolds a0 a1 = some r) : SoundAt Try.prog 168 [.agg [dL c208_dd a0], .agg (c35_d a1)] (.bool r) := by
 unfold impl_FDHolds at h
 refine st lit168 rfl (rn 1 rfl (rk fun K1 hK1 => ?_))
 have kJ1 : ∀ {x2 : Bool}, impl_FDHolds_J1 x2 = some r → Jn K1 [(4, .bool x2)] := by
  intro x2 h σ' hk
  unfold impl_FDHolds_J1 at h
  exact hK1 _ (lh hk rfl (ls_ret ((by cases h; exact ⟨.inl rfl, rfl⟩))))
 refine sp 2 rfl (?_)
 obtain ⟨v3, g4, h⟩ := ob_some h
 refine qC (qa rfl (erg (erc (erD ec208_dd _) rfl)) (qa rfl (erg (erc rfl (erc (erD eci64 _) (erc rfl rfl)))) eran)) (impl_IsValidFD_s g4) (sp 1 rfl (?_))
 rcases cond_some h with ⟨g5, h⟩ | ⟨g5, h⟩
 ·refine qg 8 g5 rfl (sp 2 rfl (?_))
  obtain ⟨v6, g7, h⟩ := ob_some h
  exact oGR rfl rfl (qC (qa rfl (erg (erc (erD ec208_dd _) rfl)) (qa rfl (erg (erc rfl (erc (erD eci64 _) (erc rfl rfl)))) eran)) (impl_FDViolation_s g7) (sp 4 rfl (evn (kJ1 h _ (okr rfl)))))
 ·exact qg 8 g5 rfl (sp 7 rfl (evn (kJ1 h _ (okr rfl))))
def impl_unite_B2 (y2 : List Int) (e8 : Int) (rec : Int → Option (Int)) (y5 : Int) : Option (Int) := cond (decide (y5 < (List.length y2 : Int))) (obind (geti y2 y5) fun e14 => cond (decide (e14 < e8)) (rec (IntKind.i64.wrap (y5 + 1))) (some y5)) (some y5)
def impl_unite_J4 (rec : ((List Int) × Int) → Option ((List Int))) (y3 : Int) (x19 : List Int) : Option ((List Int)) := rec (x19, (IntKind.i64.wrap (y3 + 1)))
def impl_unite_J3 (rec : ((List Int) × Int) → Option ((List Int))) (y2 : List Int) (y3 : Int) (e8 : Int) (z11 : Int) (x18 : Bool) : Option ((List Int)) := cond x18 (chk ((0 : Int) ≤ 0 ∧ 0 ≤ z11 ∧ z11 ≤ (List.length y2 : Int)) (obind (impl_copyInts (subl y2 0 z11)) fun v22 => chk (List.length v22 + List.length [e8] ≤ lim) (chk ((0 : Int) ≤ z11 ∧ z11 ≤ (List.length y2 : Int) ∧ (List.length y2 : Int) ≤ (List.length y2 : Int)) (chk (List.length (v22 ++ [e8]) + List.length (subl y2 z11 (List.length y2 : Int)) ≤ lim) (impl_unite_J4 rec y3 ((v22 ++ [e8]) ++ (subl y2 z11 (List.length y2 : Int)))))))) (impl_unite_J4 rec y3 y2)
def impl_unite_B1 (a1 : List Int) (rec : ((List Int) × Int) → Option ((List Int))) (s : (List Int) × Int) : Option ((List Int)) := match s with
  | (y2, y3) => cond (decide (y3 < (List.length a1 : Int))) (obind (geti a1 y3) fun e8 => obind (loopF (impl_unite_B2 y2 e8) fz 0) fun z11 => cond (z11 == (List.length y2 : Int)) (impl_unite_J3 rec y2 y3 e8 z11 true) (obind (geti y2 z11) fun e28 => impl_unite_J3 rec y2 y3 e8 z11 (e28 != e8))) (some y2)
def impl_unite (a0 : List Int) (a1 : List Int) : Option ((List Int)) := obind (impl_copyInts a0) fun v1 => obind (loopF (impl_unite_B1 a1) fz (v1, 0)) fun z4 => some z4
theorem impl_unite_s {a0 : List Int} {a1 : List Int} {r : (List Int)} (h : impl_unite a0 a1 = some r) : SoundAt Try.prog 169 [dL ci64 a0, dL ci64 a1] (oL 3 ci64 r) := by
 unfold impl_unite at h
 refine st lit169 rfl (rn 1 rfl (rs (sp 1 rfl (?_))))
 obtain ⟨v1, g2, h⟩ := ob_some h
 refine qC (qa rfl (erD eci64 _) eran) (impl_copyInts_s g2) (sp 1 rfl (evn (ls_seq_k fun K3 hK3 => rn 1 rfl ?_)))
 obtain ⟨o1, hl, hr1⟩ := ob_some h
 have kXB1 : ∀ {z4 : List Int}, z4 = o1 → Jn K3 [(5, oL 3 ci64 z4)] := by
  intro z4 h σ' hk
  subst h
  replace h := hr1
  try dsimp only at h
  exact hK3 _ (lh hk rfl (rn 1 rfl (ls_ret ((by cases h; exact ⟨.inl rfl, rfl⟩)))))
 refine ls_rec (fun (s : (List Int) × Int) => match s with | (y2, y3) => [(5, oL 3 ci64 y2), (11, dL ci64 a1), (12, nI (List.length a1 : Int)), (13, nI y3)]) _ _ _ _ hl (okr rfl) (fun _ => rfl) ?_
 rintro m ⟨y2, y3⟩ N h hN
 unfold impl_unite_B1 at h
 dsimp only at h
 refine rn 1 rfl (ls_seq_k fun K5 hK5 => ?_)
 rcases cond_some h with ⟨g6, h⟩ | ⟨g6, h⟩
 ·refine qT rfl g6 (ls_skip (hK5 _ (ls_seq_k fun K7 hK7 => ls_blk (rs ?_))))
  obtain ⟨e8, g9, h⟩ := ob_some h
  refine qI rfl zci64 g9 (sp 2 rfl (evn (rn 1 rfl (ls_seq_k fun K10 hK10 => ?_))))
  obtain ⟨o2, hl, hr2⟩ := ob_some h
  have kXB2 : ∀ {z11 : Int}, z11 = o2 → Jn K10 [(5, oL 3 ci64 y2), (7, nI e8), (8, nI z11), (11, dL ci64 a1), (12, nI (List.length a1 : Int)), (13, nI y3)] := by
   intro z11 h σ' hk
   subst h
   replace h := hr2
   try dsimp only at h
   refine hK10 _ (lh hk rfl (rk fun K17 hK17 => ?_))
   have kJ3 : ∀ {x18 : Bool}, impl_unite_J3 (loopF (impl_unite_B1 a1) m) y2 y3 e8 z11 x18 = some o1 → Jn K17 [(5, oL 3 ci64 y2), (7, nI e8), (8, nI z11), (11, dL ci64 a1), (12, nI (List.length a1 : Int)), (13, nI y3), (42, .bool x18)] := by
    intro x18 h σ' hk
    unfold impl_unite_J3 at h
    refine hK17 _ (lh hk rfl ?_)
    have kJ4 : ∀ {x19 : List Int}, impl_unite_J4 (loopF (impl_unite_B1 a1) m) y3 x19 = some o1 → Jn K7 [(5, oL 3 ci64 x19), (11, dL ci64 a1), (12, nI (List.length a1 : Int)), (13, nI y3)] := by
     intro x19 h σ' hk
     unfold impl_unite_J4 at h
     exact hK7 _ (lh hk rfl (rg (sp 2 rfl (evn (hN _ _ h (okr rfl))))))
    rcases cond_some h with ⟨g20, h⟩ | ⟨g20, h⟩
    ·refine qT rfl g20 (rgd (by kernel_rfl) (sd 2 rfl (?_)))
     obtain ⟨g21, h⟩ := chk_some h
     refine ed rfl (qSl rfl zci64 g21 (?_))
     obtain ⟨v22, g23, h⟩ := ob_some h
     refine ed rfl (qC (qa rfl (erD eci64 _) eran) (impl_copyInts_s g23) (sd 1 rfl (ed rfl (qBs ci64 [e8] rfl rfl rfl zci64 (?_)))))
     obtain ⟨g24, h⟩ := chk_some h
     refine ed rfl (qA ci64 v22 [e8] rfl rfl (flat_len zci64 [e8]) rfl g24 (sd 2 rfl (?_)))
     obtain ⟨g25, h⟩ := chk_some h
     refine ed rfl (qSl rfl zci64 g25 (?_))
     obtain ⟨g26, h⟩ := chk_some h
     exact ed rfl (qA ci64 (v22 ++ [e8]) (subl y2 z11 (List.length y2 : Int)) rfl rfl (flat_len zci64 (subl y2 z11 (List.length y2 : Int))) (map_dg (fun _ => rfl) _) g26 (sd 1 rfl (evdn (kJ4 h _ (okr rfl)))))
    ·exact qF rfl g20 (ls_skip (kJ4 h _ (okr rfl)))
   refine sp 5 rfl (?_)
   rcases cond_some h with ⟨g27, h⟩ | ⟨g27, h⟩
   ·exact qg 35 g27 rfl (sp 7 rfl (evn (kJ3 h _ (okr rfl))))
   ·refine qg 35 g27 rfl (sp 2 rfl (?_))
    obtain ⟨e28, g29, h⟩ := ob_some h
    exact oGR rfl rfl (qI rfl zci64 g29 (sp 4 rfl (evn (kJ3 h _ (okr rfl)))))
  refine ls_rec (fun (y5 : Int) => [(5, oL 3 ci64 y2), (7, nI e8), (8, nI y5), (11, dL ci64 a1), (12, nI (List.length a1 : Int)), (13, nI y3)]) _ _ _ _ hl (okr rfl) (fun _ => rfl) ?_
  rintro m y5 N h hN
  unfold impl_unite_B2 at h
  refine ls_seq_k fun K12 hK12 => rs (sp 5 rfl (?_))
  rcases cond_some h with ⟨g13, h⟩ | ⟨g13, h⟩
  ·refine qg 21 g13 rfl (sp 2 rfl (?_))
   obtain ⟨e14, g15, h⟩ := ob_some h
   refine oGR rfl rfl (qI rfl zci64 g15 (sp 4 rfl (evn ?_)))
   rcases cond_some h with ⟨g16, h⟩ | ⟨g16, h⟩
   ·exact qT rfl g16 (ls_skip (hK12 _ (ls_blk (rg (sp 3 rfl (evn (hN _ _ h (okr rfl))))))))
   ·exact qF rfl g16 (ls_exit (kXB2 (Option.some.inj h) _ (okr rfl)))
  ·exact qg 21 g13 rfl (sp 7 rfl (evn (qF rfl rfl (ls_exit (kXB2 (Option.some.inj h) _ (okr rfl))))))
 ·exact qF rfl g6 (ls_exit (kXB1 (Option.some.inj h) _ (okr rfl)))
end Go.Proofs.Ytkcfahfladikkaa
