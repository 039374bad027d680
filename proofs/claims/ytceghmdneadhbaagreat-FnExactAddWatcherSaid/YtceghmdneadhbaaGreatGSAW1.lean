/-
  Functions of the program as typed functions, printed by gen.py, and that the program's functions do what they say. No conditions.
-/
import Derived.Test.YtceghmdneadhbaaGreatUpAW1
import Derived.Test.YtceghmdneadhbaaGreatLit2AW1
namespace Go.Proofs.YtceghmdneadhbaaGreat
open Go.RowKit
set_option linter.unusedVariables false
set_option maxRecDepth 100000
set_option maxHeartbeats 1000000
def laws_szIntS (a0 : List Int) (a1 : Int) : Option (Int) := cond (decide ((IntKind.i64.wrap (a1 - (List.length a0 : Int))) < 0)) (some (-1)) (some (IntKind.i64.wrap (a1 - (List.length a0 : Int))))
theorem laws_szIntS_s {a0 : List Int} {a1 : Int} {r : Int} (h : laws_szIntS a0 a1 = some r) : SoundAt Tryz.prog 76 [dL ci64 a0, nI a1] (nI r) := by
 unfold laws_szIntS at h
 refine st lit76 rfl (rn 2 rfl (ls_seq_k fun K1 hK1 => rn 1 rfl ?_))
 rcases cond_some h with ⟨g2, h⟩ | ⟨g2, h⟩
 ·exact qT rfl g2 (rn 1 rfl (ls_ret ((by cases h; exact ⟨.inl rfl, rfl⟩))))
 ·exact qF rfl g2 (ls_skip (hK1 _ (rn 1 rfl (ls_ret ((by cases h; exact ⟨.inl rfl, rfl⟩))))))
def laws_szIntSS_B1 (a0 : List (List Int)) (rec : (Int × Int) → Option (Sum (Int) (Int))) (s : Int × Int) : Option (Sum (Int) (Int)) := match s with
  | (y1, y2) => cond (decide (y2 < (List.length a0 : Int))) (obind (geti a0 y2) fun e8 => obind (laws_szIntS e8 y1) fun v10 => cond (decide (v10 < 0)) (some (.inr (-1))) (rec (v10, (IntKind.i64.wrap (y2 + 1))))) (some (.inl y1))
def laws_szIntSS (a0 : List (List Int)) (a1 : Int) : Option (Int) := cond (decide ((IntKind.i64.wrap (a1 - (List.length a0 : Int))) < 0)) (some (-1)) (obind (loopF (laws_szIntSS_B1 a0) fz ((IntKind.i64.wrap (a1 - (List.length a0 : Int))), 0)) fun o1 => (match o1 with
  | .inl z4 => (some z4)
  | .inr r => some r))
theorem laws_szIntSS_s {a0 : List (List Int)} {a1 : Int} {r : Int} (h : laws_szIntSS a0 a1 = some r) : SoundAt Tryz.prog 141 [dL c53_d a0, nI a1] (nI r) := by
 unfold laws_szIntSS at h
 refine st lit141 rfl (rn 2 rfl (ls_seq_k fun K1 hK1 => rn 1 rfl ?_))
 rcases cond_some h with ⟨g2, h⟩ | ⟨g2, h⟩
 ·exact qT rfl g2 (rn 1 rfl (ls_ret ((by cases h; exact ⟨.inl rfl, rfl⟩))))
 ·refine qF rfl g2 (ls_skip (hK1 _ (ls_seq_k fun K3 hK3 => rn 1 rfl ?_)))
  obtain ⟨o1, hl, hr1⟩ := ob_some h
  have kXB1 : ∀ {z4 : Int}, (.inl z4) = o1 → Jn K3 [(1, nI z4)] := by
   intro z4 h σ' hk
   subst h
   replace h := hr1
   try dsimp only at h
   exact hK3 _ (lh hk rfl (rn 1 rfl (ls_ret ((by cases h; exact ⟨.inl rfl, rfl⟩)))))
  refine ls_rec (fun (s : Int × Int) => match s with | (y1, y2) => [(0, dL c53_d a0), (1, nI y1), (5, nI y2)]) _ _ _ _ hl (okr rfl) (fun _ => rfl) ?_
  rintro m ⟨y1, y2⟩ N h hN
  unfold laws_szIntSS_B1 at h
  dsimp only at h
  refine ls_seq_k fun K5 hK5 => rn 1 rfl ?_
  rcases cond_some h with ⟨g6, h⟩ | ⟨g6, h⟩
  ·refine qT rfl g6 (ls_skip (hK5 _ (ls_seq_k fun K7 hK7 => ls_blk (rs (sp 2 rfl (?_))))))
   obtain ⟨e8, g9, h⟩ := ob_some h
   refine qI rfl zc53_d g9 (sp 2 rfl (?_))
   obtain ⟨v10, g11, h⟩ := ob_some h
   refine qC (qa rfl (erD eci64 _) (qs rfl eran)) (laws_szIntS_s g11) (sp 1 rfl (evn (rn 1 rfl ?_)))
   rcases cond_some h with ⟨g12, h⟩ | ⟨g12, h⟩
   ·exact qT rfl g12 (rn 1 rfl (ls_ret ((by cases h; cases hr1; exact ⟨.inl rfl, rfl⟩))))
   ·exact qF rfl g12 (ls_skip (hK7 _ (rg (sp 3 rfl (evn (hN _ _ h (okr rfl)))))))
  ·exact qF rfl g6 (ls_exit (kXB1 (Option.some.inj h) _ (okr rfl)))
def laws_szRelation (a0 : Y42) (a1 : Int) : Option (Int) := obind (laws_szIntSS a0.2 a1) fun v1 => cond (decide (v1 < 0)) (some (-1)) (some v1)
theorem laws_szRelation_s {a0 : Y42} {a1 : Int} {r : Int} (h : laws_szRelation a0 a1 = some r) : SoundAt Tryz.prog 176 [.agg (c166_dd a0), nI a1] (nI r) := by
 unfold laws_szRelation at h
 refine st lit176 rfl (rn 1 rfl (rs (sp 3 rfl (?_))))
 obtain ⟨v1, g2, h⟩ := ob_some h
 refine qC (qa rfl (erD ec53_d _) (qs rfl eran)) (laws_szIntSS_s g2) (sp 1 rfl (evn (ls_seq_k fun K3 hK3 => rn 1 rfl ?_)))
 rcases cond_some h with ⟨g4, h⟩ | ⟨g4, h⟩
 ·exact qT rfl g4 (rn 1 rfl (ls_ret ((by cases h; exact ⟨.inl rfl, rfl⟩))))
 ·exact qF rfl g4 (ls_skip (hK3 _ (rn 1 rfl (ls_ret ((by cases h; exact ⟨.inl rfl, rfl⟩))))))
def laws_szTable (a0 : Y167) (a1 : Int) : Option (Int) := cond (decide ((IntKind.i64.wrap (a1 - (List.length a0.1 : Int))) < 0)) (some (-1)) (obind (laws_szRelation a0.2 (IntKind.i64.wrap (a1 - (List.length a0.1 : Int)))) fun v3 => cond (decide (v3 < 0)) (some (-1)) (some v3))
theorem laws_szTable_s {a0 : Y167} {a1 : Int} {r : Int} (h : laws_szTable a0 a1 = some r) : SoundAt Tryz.prog 140 [.agg (c168_dd a0), nI a1] (nI r) := by
 unfold laws_szTable at h
 refine st lit140 rfl (rn 2 rfl (ls_seq_k fun K1 hK1 => rn 1 rfl ?_))
 rcases cond_some h with ⟨g2, h⟩ | ⟨g2, h⟩
 ·exact qT rfl g2 (rn 1 rfl (ls_ret ((by cases h; exact ⟨.inl rfl, rfl⟩))))
 ·refine qF rfl g2 (ls_skip (hK1 _ (rs (sp 3 rfl (?_)))))
  obtain ⟨v3, g4, h⟩ := ob_some h
  refine qC (qa rfl (erg (erc rfl (erc (erD ec53_d _) rfl))) (qs rfl eran)) (laws_szRelation_s g4) (sp 1 rfl (evn (ls_seq_k fun K5 hK5 => rn 1 rfl ?_)))
  rcases cond_some h with ⟨g6, h⟩ | ⟨g6, h⟩
  ·exact qT rfl g6 (rn 1 rfl (qk [4] rfl (ls_ret ((by cases h; exact ⟨.inl rfl, rfl⟩)))))
  ·exact qF rfl g6 (ls_skip (hK5 _ (rn 1 rfl (ls_ret ((by cases h; exact ⟨.inl rfl, rfl⟩))))))
def laws_szTableS_B1 (a0 : List Y167) (rec : (Int × Int) → Option (Sum (Int) (Int))) (s : Int × Int) : Option (Sum (Int) (Int)) := match s with
  | (y1, y2) => cond (decide (y2 < (List.length a0 : Int))) (obind (geti a0 y2) fun e8 => obind (laws_szTable e8 y1) fun v10 => cond (decide (v10 < 0)) (some (.inr (-1))) (rec (v10, (IntKind.i64.wrap (y2 + 1))))) (some (.inl y1))
def laws_szTableS (a0 : List Y167) (a1 : Int) : Option (Int) := cond (decide ((IntKind.i64.wrap (a1 - (List.length a0 : Int))) < 0)) (some (-1)) (obind (loopF (laws_szTableS_B1 a0) fz ((IntKind.i64.wrap (a1 - (List.length a0 : Int))), 0)) fun o1 => (match o1 with
  | .inl z4 => (some z4)
  | .inr r => some r))
theorem laws_szTableS_s {a0 : List Y167} {a1 : Int} {r : Int} (h : laws_szTableS a0 a1 = some r) : SoundAt Tryz.prog 86 [dL c168_dd a0, nI a1] (nI r) := by
 unfold laws_szTableS at h
 refine st lit86 rfl (rn 2 rfl (ls_seq_k fun K1 hK1 => rn 1 rfl ?_))
 rcases cond_some h with ⟨g2, h⟩ | ⟨g2, h⟩
 ·exact qT rfl g2 (rn 1 rfl (ls_ret ((by cases h; exact ⟨.inl rfl, rfl⟩))))
 ·refine qF rfl g2 (ls_skip (hK1 _ (ls_seq_k fun K3 hK3 => rn 1 rfl ?_)))
  obtain ⟨o1, hl, hr1⟩ := ob_some h
  have kXB1 : ∀ {z4 : Int}, (.inl z4) = o1 → Jn K3 [(1, nI z4)] := by
   intro z4 h σ' hk
   subst h
   replace h := hr1
   try dsimp only at h
   exact hK3 _ (lh hk rfl (rn 1 rfl (ls_ret ((by cases h; exact ⟨.inl rfl, rfl⟩)))))
  refine ls_rec (fun (s : Int × Int) => match s with | (y1, y2) => [(0, dL c168_dd a0), (1, nI y1), (5, nI y2)]) _ _ _ _ hl (okr rfl) (fun _ => rfl) ?_
  rintro m ⟨y1, y2⟩ N h hN
  unfold laws_szTableS_B1 at h
  dsimp only at h
  refine ls_seq_k fun K5 hK5 => rn 1 rfl ?_
  rcases cond_some h with ⟨g6, h⟩ | ⟨g6, h⟩
  ·refine qT rfl g6 (ls_skip (hK5 _ (ls_seq_k fun K7 hK7 => ls_blk (rs (sp 2 rfl (?_))))))
   obtain ⟨e8, g9, h⟩ := ob_some h
   refine qI rfl zc168_dd g9 (sp 2 rfl (?_))
   obtain ⟨v10, g11, h⟩ := ob_some h
   refine qC (qa rfl (erg (erc rfl (erc rfl (erc (erD ec53_d _) rfl)))) (qs rfl eran)) (laws_szTable_s g11) (sp 1 rfl (evn (rn 1 rfl ?_)))
   rcases cond_some h with ⟨g12, h⟩ | ⟨g12, h⟩
   ·exact qT rfl g12 (rn 1 rfl (ls_ret ((by cases h; cases hr1; exact ⟨.inl rfl, rfl⟩))))
   ·exact qF rfl g12 (ls_skip (hK7 _ (rg (sp 3 rfl (evn (hN _ _ h (okr rfl)))))))
  ·exact qF rfl g6 (ls_exit (kXB1 (Option.some.inj h) _ (okr rfl)))
def laws_szDatabase (a0 : List Y167) (a1 : Int) : Option (Int) := obind (laws_szTableS a0 a1) fun v1 => cond (decide (v1 < 0)) (some (-1)) (some v1)
theorem laws_szDatabase_s {a0 : List Y167} {a1 : Int} {r : Int} (h : laws_szDatabase a0 a1 = some r) : SoundAt Tryz.prog 32 [.agg [dL c168_dd a0], nI a1] (nI r) := by
 unfold laws_szDatabase at h
 refine st lit32 rfl (rn 1 rfl (rs (sp 3 rfl (?_))))
 obtain ⟨v1, g2, h⟩ := ob_some h
 refine qC (qa rfl (erD ec168_dd _) (qs rfl eran)) (laws_szTableS_s g2) (sp 1 rfl (evn (ls_seq_k fun K3 hK3 => rn 1 rfl ?_)))
 rcases cond_some h with ⟨g4, h⟩ | ⟨g4, h⟩
 ·exact qT rfl g4 (rn 1 rfl (ls_ret ((by cases h; exact ⟨.inl rfl, rfl⟩))))
 ·exact qF rfl g4 (ls_skip (hK3 _ (rn 1 rfl (ls_ret ((by cases h; exact ⟨.inl rfl, rfl⟩))))))
def laws_szAtom (a0 : Y147) (a1 : Int) : Option (Int) := cond (decide ((IntKind.i64.wrap (a1 - (List.length a0.1 : Int))) < 0)) (some (-1)) (obind (laws_szIntS a0.2 (IntKind.i64.wrap (a1 - (List.length a0.1 : Int)))) fun v3 => cond (decide (v3 < 0)) (some (-1)) (some v3))
theorem laws_szAtom_s {a0 : Y147} {a1 : Int} {r : Int} (h : laws_szAtom a0 a1 = some r) : SoundAt Tryz.prog 134 [.agg (c161_d a0), nI a1] (nI r) := by
 unfold laws_szAtom at h
 refine st lit134 rfl (rn 2 rfl (ls_seq_k fun K1 hK1 => rn 1 rfl ?_))
 rcases cond_some h with ⟨g2, h⟩ | ⟨g2, h⟩
 ·exact qT rfl g2 (rn 1 rfl (ls_ret ((by cases h; exact ⟨.inl rfl, rfl⟩))))
 ·refine qF rfl g2 (ls_skip (hK1 _ (rs (sp 3 rfl (?_)))))
  obtain ⟨v3, g4, h⟩ := ob_some h
  refine qC (qa rfl (erD eci64 _) (qs rfl eran)) (laws_szIntS_s g4) (sp 1 rfl (evn (ls_seq_k fun K5 hK5 => rn 1 rfl ?_)))
  rcases cond_some h with ⟨g6, h⟩ | ⟨g6, h⟩
  ·exact qT rfl g6 (rn 1 rfl (qk [4] rfl (ls_ret ((by cases h; exact ⟨.inl rfl, rfl⟩)))))
  ·exact qF rfl g6 (ls_skip (hK5 _ (rn 1 rfl (ls_ret ((by cases h; exact ⟨.inl rfl, rfl⟩))))))
def laws_szAtomS_B1 (a0 : List Y147) (rec : (Int × Int) → Option (Sum (Int) (Int))) (s : Int × Int) : Option (Sum (Int) (Int)) := match s with
  | (y1, y2) => cond (decide (y2 < (List.length a0 : Int))) (obind (geti a0 y2) fun e8 => obind (laws_szAtom e8 y1) fun v10 => cond (decide (v10 < 0)) (some (.inr (-1))) (rec (v10, (IntKind.i64.wrap (y2 + 1))))) (some (.inl y1))
def laws_szAtomS (a0 : List Y147) (a1 : Int) : Option (Int) := cond (decide ((IntKind.i64.wrap (a1 - (List.length a0 : Int))) < 0)) (some (-1)) (obind (loopF (laws_szAtomS_B1 a0) fz ((IntKind.i64.wrap (a1 - (List.length a0 : Int))), 0)) fun o1 => (match o1 with
  | .inl z4 => (some z4)
  | .inr r => some r))
theorem laws_szAtomS_s {a0 : List Y147} {a1 : Int} {r : Int} (h : laws_szAtomS a0 a1 = some r) : SoundAt Tryz.prog 75 [dL c161_d a0, nI a1] (nI r) := by
 unfold laws_szAtomS at h
 refine st lit75 rfl (rn 2 rfl (ls_seq_k fun K1 hK1 => rn 1 rfl ?_))
 rcases cond_some h with ⟨g2, h⟩ | ⟨g2, h⟩
 ·exact qT rfl g2 (rn 1 rfl (ls_ret ((by cases h; exact ⟨.inl rfl, rfl⟩))))
 ·refine qF rfl g2 (ls_skip (hK1 _ (ls_seq_k fun K3 hK3 => rn 1 rfl ?_)))
  obtain ⟨o1, hl, hr1⟩ := ob_some h
  have kXB1 : ∀ {z4 : Int}, (.inl z4) = o1 → Jn K3 [(1, nI z4)] := by
   intro z4 h σ' hk
   subst h
   replace h := hr1
   try dsimp only at h
   exact hK3 _ (lh hk rfl (rn 1 rfl (ls_ret ((by cases h; exact ⟨.inl rfl, rfl⟩)))))
  refine ls_rec (fun (s : Int × Int) => match s with | (y1, y2) => [(0, dL c161_d a0), (1, nI y1), (5, nI y2)]) _ _ _ _ hl (okr rfl) (fun _ => rfl) ?_
  rintro m ⟨y1, y2⟩ N h hN
  unfold laws_szAtomS_B1 at h
  dsimp only at h
  refine ls_seq_k fun K5 hK5 => rn 1 rfl ?_
  rcases cond_some h with ⟨g6, h⟩ | ⟨g6, h⟩
  ·refine qT rfl g6 (ls_skip (hK5 _ (ls_seq_k fun K7 hK7 => ls_blk (rs (sp 2 rfl (?_))))))
   obtain ⟨e8, g9, h⟩ := ob_some h
   refine qI rfl zc161_d g9 (sp 2 rfl (?_))
   obtain ⟨v10, g11, h⟩ := ob_some h
   refine qC (qa rfl (erg (erc rfl (erc (erD eci64 _) rfl))) (qs rfl eran)) (laws_szAtom_s g11) (sp 1 rfl (evn (rn 1 rfl ?_)))
   rcases cond_some h with ⟨g12, h⟩ | ⟨g12, h⟩
   ·exact qT rfl g12 (rn 1 rfl (ls_ret ((by cases h; cases hr1; exact ⟨.inl rfl, rfl⟩))))
   ·exact qF rfl g12 (ls_skip (hK7 _ (rg (sp 3 rfl (evn (hN _ _ h (okr rfl)))))))
  ·exact qF rfl g6 (ls_exit (kXB1 (Option.some.inj h) _ (okr rfl)))
def laws_szQuery (a0 : Y63) (a1 : Int) : Option (Int) := obind (laws_szAtomS a0.2.1 a1) fun v1 => cond (decide (v1 < 0)) (some (-1)) (obind (laws_szIntS a0.2.2 v1) fun v5 => cond (decide (v5 < 0)) (some (-1)) (some v5))
theorem laws_szQuery_s {a0 : Y63} {a1 : Int} {r : Int} (h : laws_szQuery a0 a1 = some r) : SoundAt Tryz.prog 27 [.agg (c64_ddd a0), nI a1] (nI r) := by
 unfold laws_szQuery at h
 refine st lit27 rfl (rn 1 rfl (rs (sp 3 rfl (?_))))
 obtain ⟨v1, g2, h⟩ := ob_some h
 refine qC (qa rfl (erD ec161_d _) (qs rfl eran)) (laws_szAtomS_s g2) (sp 1 rfl (evn (ls_seq_k fun K3 hK3 => rn 1 rfl ?_)))
 rcases cond_some h with ⟨g4, h⟩ | ⟨g4, h⟩
 ·exact qT rfl g4 (rn 1 rfl (ls_ret ((by cases h; exact ⟨.inl rfl, rfl⟩))))
 ·refine qF rfl g4 (ls_skip (hK3 _ (rs (sp 3 rfl (?_)))))
  obtain ⟨v5, g6, h⟩ := ob_some h
  refine qC (qa rfl (erD eci64 _) (qs rfl eran)) (laws_szIntS_s g6) (sp 1 rfl (evn (ls_seq_k fun K7 hK7 => rn 1 rfl ?_)))
  rcases cond_some h with ⟨g8, h⟩ | ⟨g8, h⟩
  ·exact qT rfl g8 (rn 1 rfl (qk [4] rfl (ls_ret ((by cases h; exact ⟨.inl rfl, rfl⟩)))))
  ·exact qF rfl g8 (ls_skip (hK7 _ (rn 1 rfl (ls_ret ((by cases h; exact ⟨.inl rfl, rfl⟩))))))
def laws_szCountedRelation (a0 : Y75) (a1 : Int) : Option (Int) := obind (laws_szIntSS a0.2.1 a1) fun v1 => cond (decide (v1 < 0)) (some (-1)) (obind (laws_szIntS a0.2.2 v1) fun v5 => cond (decide (v5 < 0)) (some (-1)) (some v5))
theorem laws_szCountedRelation_s {a0 : Y75} {a1 : Int} {r : Int} (h : laws_szCountedRelation a0 a1 = some r) : SoundAt Tryz.prog 88 [.agg (c115_ddd a0), nI a1] (nI r) := by
 unfold laws_szCountedRelation at h
 refine st lit88 rfl (rn 1 rfl (rs (sp 3 rfl (?_))))
 obtain ⟨v1, g2, h⟩ := ob_some h
 refine qC (qa rfl (erD ec53_d _) (qs rfl eran)) (laws_szIntSS_s g2) (sp 1 rfl (evn (ls_seq_k fun K3 hK3 => rn 1 rfl ?_)))
 rcases cond_some h with ⟨g4, h⟩ | ⟨g4, h⟩
 ·exact qT rfl g4 (rn 1 rfl (ls_ret ((by cases h; exact ⟨.inl rfl, rfl⟩))))
 ·refine qF rfl g4 (ls_skip (hK3 _ (rs (sp 3 rfl (?_)))))
  obtain ⟨v5, g6, h⟩ := ob_some h
  refine qC (qa rfl (erD eci64 _) (qs rfl eran)) (laws_szIntS_s g6) (sp 1 rfl (evn (ls_seq_k fun K7 hK7 => rn 1 rfl ?_)))
  rcases cond_some h with ⟨g8, h⟩ | ⟨g8, h⟩
  ·exact qT rfl g8 (rn 1 rfl (qk [4] rfl (ls_ret ((by cases h; exact ⟨.inl rfl, rfl⟩)))))
  ·exact qF rfl g8 (ls_skip (hK7 _ (rn 1 rfl (ls_ret ((by cases h; exact ⟨.inl rfl, rfl⟩))))))
def laws_szView (a0 : Y116) (a1 : Int) : Option (Int) := obind (laws_szQuery a0.1 a1) fun v1 => cond (decide (v1 < 0)) (some (-1)) (obind (laws_szCountedRelation a0.2 v1) fun v5 => cond (decide (v5 < 0)) (some (-1)) (some v5))
theorem laws_szView_s {a0 : Y116} {a1 : Int} {r : Int} (h : laws_szView a0 a1 = some r) : SoundAt Tryz.prog 87 [.agg (c117_dddddd a0), nI a1] (nI r) := by
 unfold laws_szView at h
 refine st lit87 rfl (rn 1 rfl (rs (sp 3 rfl (?_))))
 obtain ⟨v1, g2, h⟩ := ob_some h
 refine qC (qa rfl (erg (erc rfl (erc (erD ec161_d _) (erc (erD eci64 _) rfl)))) (qs rfl eran)) (laws_szQuery_s g2) (sp 1 rfl (evn (ls_seq_k fun K3 hK3 => rn 1 rfl ?_)))
 rcases cond_some h with ⟨g4, h⟩ | ⟨g4, h⟩
 ·exact qT rfl g4 (rn 1 rfl (ls_ret ((by cases h; exact ⟨.inl rfl, rfl⟩))))
 ·refine qF rfl g4 (ls_skip (hK3 _ (rs (sp 3 rfl (?_)))))
  obtain ⟨v5, g6, h⟩ := ob_some h
  refine qC (qa rfl (erg (erc rfl (erc (erD ec53_d _) (erc (erD eci64 _) rfl)))) (qs rfl eran)) (laws_szCountedRelation_s g6) (sp 1 rfl (evn (ls_seq_k fun K7 hK7 => rn 1 rfl ?_)))
  rcases cond_some h with ⟨g8, h⟩ | ⟨g8, h⟩
  ·exact qT rfl g8 (rn 1 rfl (qk [4] rfl (ls_ret ((by cases h; exact ⟨.inl rfl, rfl⟩)))))
  ·exact qF rfl g8 (ls_skip (hK7 _ (rn 1 rfl (ls_ret ((by cases h; exact ⟨.inl rfl, rfl⟩))))))
def laws_szViewS_B1 (a0 : List Y116) (rec : (Int × Int) → Option (Sum (Int) (Int))) (s : Int × Int) : Option (Sum (Int) (Int)) := match s with
  | (y1, y2) => cond (decide (y2 < (List.length a0 : Int))) (obind (geti a0 y2) fun e8 => obind (laws_szView e8 y1) fun v10 => cond (decide (v10 < 0)) (some (.inr (-1))) (rec (v10, (IntKind.i64.wrap (y2 + 1))))) (some (.inl y1))
def laws_szViewS (a0 : List Y116) (a1 : Int) : Option (Int) := cond (decide ((IntKind.i64.wrap (a1 - (List.length a0 : Int))) < 0)) (some (-1)) (obind (loopF (laws_szViewS_B1 a0) fz ((IntKind.i64.wrap (a1 - (List.length a0 : Int))), 0)) fun o1 => (match o1 with
  | .inl z4 => (some z4)
  | .inr r => some r))
theorem laws_szViewS_s {a0 : List Y116} {a1 : Int} {r : Int} (h : laws_szViewS a0 a1 = some r) : SoundAt Tryz.prog 33 [dL c117_dddddd a0, nI a1] (nI r) := by
 unfold laws_szViewS at h
 refine st lit33 rfl (rn 2 rfl (ls_seq_k fun K1 hK1 => rn 1 rfl ?_))
 rcases cond_some h with ⟨g2, h⟩ | ⟨g2, h⟩
 ·exact qT rfl g2 (rn 1 rfl (ls_ret ((by cases h; exact ⟨.inl rfl, rfl⟩))))
 ·refine qF rfl g2 (ls_skip (hK1 _ (ls_seq_k fun K3 hK3 => rn 1 rfl ?_)))
  obtain ⟨o1, hl, hr1⟩ := ob_some h
  have kXB1 : ∀ {z4 : Int}, (.inl z4) = o1 → Jn K3 [(1, nI z4)] := by
   intro z4 h σ' hk
   subst h
   replace h := hr1
   try dsimp only at h
   exact hK3 _ (lh hk rfl (rn 1 rfl (ls_ret ((by cases h; exact ⟨.inl rfl, rfl⟩)))))
  refine ls_rec (fun (s : Int × Int) => match s with | (y1, y2) => [(0, dL c117_dddddd a0), (1, nI y1), (5, nI y2)]) _ _ _ _ hl (okr rfl) (fun _ => rfl) ?_
  rintro m ⟨y1, y2⟩ N h hN
  unfold laws_szViewS_B1 at h
  dsimp only at h
  refine ls_seq_k fun K5 hK5 => rn 1 rfl ?_
  rcases cond_some h with ⟨g6, h⟩ | ⟨g6, h⟩
  ·refine qT rfl g6 (ls_skip (hK5 _ (ls_seq_k fun K7 hK7 => ls_blk (rs (sp 2 rfl (?_))))))
   obtain ⟨e8, g9, h⟩ := ob_some h
   refine qI rfl zc117_dddddd g9 (sp 2 rfl (?_))
   obtain ⟨v10, g11, h⟩ := ob_some h
   refine qC (qa rfl (erg (erc rfl (erc (erD ec161_d _) (erc (erD eci64 _) (erc rfl (erc (erD ec53_d _) (erc (erD eci64 _) rfl))))))) (qs rfl eran)) (laws_szView_s g11) (sp 1 rfl (evn (rn 1 rfl ?_)))
   rcases cond_some h with ⟨g12, h⟩ | ⟨g12, h⟩
   ·exact qT rfl g12 (rn 1 rfl (ls_ret ((by cases h; cases hr1; exact ⟨.inl rfl, rfl⟩))))
   ·exact qF rfl g12 (ls_skip (hK7 _ (rg (sp 3 rfl (evn (hN _ _ h (okr rfl)))))))
  ·exact qF rfl g6 (ls_exit (kXB1 (Option.some.inj h) _ (okr rfl)))
def laws_szCountedRelationS_B1 (a0 : List Y75) (rec : (Int × Int) → Option (Sum (Int) (Int))) (s : Int × Int) : Option (Sum (Int) (Int)) := match s with
  | (y1, y2) => cond (decide (y2 < (List.length a0 : Int))) (obind (geti a0 y2) fun e8 => obind (laws_szCountedRelation e8 y1) fun v10 => cond (decide (v10 < 0)) (some (.inr (-1))) (rec (v10, (IntKind.i64.wrap (y2 + 1))))) (some (.inl y1))
def laws_szCountedRelationS (a0 : List Y75) (a1 : Int) : Option (Int) := cond (decide ((IntKind.i64.wrap (a1 - (List.length a0 : Int))) < 0)) (some (-1)) (obind (loopF (laws_szCountedRelationS_B1 a0) fz ((IntKind.i64.wrap (a1 - (List.length a0 : Int))), 0)) fun o1 => (match o1 with
  | .inl z4 => (some z4)
  | .inr r => some r))
theorem laws_szCountedRelationS_s {a0 : List Y75} {a1 : Int} {r : Int} (h : laws_szCountedRelationS a0 a1 = some r) : SoundAt Tryz.prog 34 [dL c115_ddd a0, nI a1] (nI r) := by
 unfold laws_szCountedRelationS at h
 refine st lit34 rfl (rn 2 rfl (ls_seq_k fun K1 hK1 => rn 1 rfl ?_))
 rcases cond_some h with ⟨g2, h⟩ | ⟨g2, h⟩
 ·exact qT rfl g2 (rn 1 rfl (ls_ret ((by cases h; exact ⟨.inl rfl, rfl⟩))))
 ·refine qF rfl g2 (ls_skip (hK1 _ (ls_seq_k fun K3 hK3 => rn 1 rfl ?_)))
  obtain ⟨o1, hl, hr1⟩ := ob_some h
  have kXB1 : ∀ {z4 : Int}, (.inl z4) = o1 → Jn K3 [(1, nI z4)] := by
   intro z4 h σ' hk
   subst h
   replace h := hr1
   try dsimp only at h
   exact hK3 _ (lh hk rfl (rn 1 rfl (ls_ret ((by cases h; exact ⟨.inl rfl, rfl⟩)))))
  refine ls_rec (fun (s : Int × Int) => match s with | (y1, y2) => [(0, dL c115_ddd a0), (1, nI y1), (5, nI y2)]) _ _ _ _ hl (okr rfl) (fun _ => rfl) ?_
  rintro m ⟨y1, y2⟩ N h hN
  unfold laws_szCountedRelationS_B1 at h
  dsimp only at h
  refine ls_seq_k fun K5 hK5 => rn 1 rfl ?_
  rcases cond_some h with ⟨g6, h⟩ | ⟨g6, h⟩
  ·refine qT rfl g6 (ls_skip (hK5 _ (ls_seq_k fun K7 hK7 => ls_blk (rs (sp 2 rfl (?_))))))
   obtain ⟨e8, g9, h⟩ := ob_some h
   refine qI rfl zc115_ddd g9 (sp 2 rfl (?_))
   obtain ⟨v10, g11, h⟩ := ob_some h
   refine qC (qa rfl (erg (erc rfl (erc (erD ec53_d _) (erc (erD eci64 _) rfl)))) (qs rfl eran)) (laws_szCountedRelation_s g11) (sp 1 rfl (evn (rn 1 rfl ?_)))
   rcases cond_some h with ⟨g12, h⟩ | ⟨g12, h⟩
   ·exact qT rfl g12 (rn 1 rfl (ls_ret ((by cases h; cases hr1; exact ⟨.inl rfl, rfl⟩))))
   ·exact qF rfl g12 (ls_skip (hK7 _ (rg (sp 3 rfl (evn (hN _ _ h (okr rfl)))))))
  ·exact qF rfl g6 (ls_exit (kXB1 (Option.some.inj h) _ (okr rfl)))
def laws_szNotifier (a0 : Y27) (a1 : Int) : Option (Int) := obind (laws_szDatabase a0.1 a1) fun v1 => cond (decide (v1 < 0)) (some (-1)) (obind (laws_szViewS a0.2.1 v1) fun v5 => cond (decide (v5 < 0)) (some (-1)) (obind (laws_szCountedRelationS a0.2.2 v5) fun v9 => cond (decide (v9 < 0)) (some (-1)) (some v9)))
theorem laws_szNotifier_s {a0 : Y27} {a1 : Int} {r : Int} (h : laws_szNotifier a0 a1 = some r) : SoundAt Tryz.prog 7 [.agg (c28_dddddddddddddd a0), nI a1] (nI r) := by
 unfold laws_szNotifier at h
 refine st lit7 rfl (rn 1 rfl (rs (sp 3 rfl (?_))))
 obtain ⟨v1, g2, h⟩ := ob_some h
 refine qC (qa rfl (erg (erc (erD ec168_dd _) rfl)) (qs rfl eran)) (laws_szDatabase_s g2) (sp 1 rfl (evn (ls_seq_k fun K3 hK3 => rn 1 rfl ?_)))
 rcases cond_some h with ⟨g4, h⟩ | ⟨g4, h⟩
 ·exact qT rfl g4 (rn 1 rfl (ls_ret ((by cases h; exact ⟨.inl rfl, rfl⟩))))
 ·refine qF rfl g4 (ls_skip (hK3 _ (rs (sp 3 rfl (?_)))))
  obtain ⟨v5, g6, h⟩ := ob_some h
  refine qC (qa rfl (erD ec117_dddddd _) (qs rfl eran)) (laws_szViewS_s g6) (sp 1 rfl (evn (ls_seq_k fun K7 hK7 => rn 1 rfl ?_)))
  rcases cond_some h with ⟨g8, h⟩ | ⟨g8, h⟩
  ·exact qT rfl g8 (rn 1 rfl (qk [4] rfl (ls_ret ((by cases h; exact ⟨.inl rfl, rfl⟩)))))
  ·refine qF rfl g8 (ls_skip (hK7 _ (rs (sp 3 rfl (?_)))))
   obtain ⟨v9, g10, h⟩ := ob_some h
   refine qC (qa rfl (erD ec115_ddd _) (qs rfl eran)) (laws_szCountedRelationS_s g10) (sp 1 rfl (evn (ls_seq_k fun K11 hK11 => rn 1 rfl ?_)))
   rcases cond_some h with ⟨g12, h⟩ | ⟨g12, h⟩
   ·exact qT rfl g12 (rn 1 rfl (ls_ret ((by cases h; exact ⟨.inl rfl, rfl⟩))))
   ·exact qF rfl g12 (ls_skip (hK11 _ (rn 1 rfl (ls_ret ((by cases h; exact ⟨.inl rfl, rfl⟩))))))
def laws_toIntS_B1 (a0 : List Int) (rec : ((List Int) × Int) → Option ((List Int))) (s : (List Int) × Int) : Option ((List Int)) := match s with
  | (y1, y2) => cond (decide (y2 < (List.length a0 : Int))) (obind (geti a0 y2) fun e7 => obind (geti y1 y2) fun e9 => rec ((seti y1 y2 e7), (IntKind.i64.wrap (y2 + 1)))) (some y1)
def laws_toIntS (a0 : List Int) : Option ((List Int)) := chk ((0 : Int) ≤ (List.length a0 : Int) ∧ Int.toNat (List.length a0 : Int) ≤ lim) (obind (loopF (laws_toIntS_B1 a0) fz ((List.replicate (Int.toNat (List.length a0 : Int)) (0 : Int)), 0)) fun z3 => some z3)
theorem laws_toIntS_s {a0 : List Int} {r : (List Int)} (h : laws_toIntS a0 = some r) : SoundAt Tryz.prog 78 [dL ci64 a0] (oL 3 ci64 r) := by
 unfold laws_toIntS at h
 refine st lit78 rfl (rn 1 rfl (rs (sp 2 rfl (?_))))
 obtain ⟨g1, h⟩ := chk_some h
 refine qMu ci64 (0 : Int) rfl rfl rfl rfl g1 rfl (qAu rfl rfl rfl rfl (evn (ls_seq_k fun K2 hK2 => rn 1 rfl ?_)))
 obtain ⟨o1, hl, hr1⟩ := ob_some h
 have kXB1 : ∀ {z3 : List Int}, z3 = o1 → Jn K2 [(3, wL 3 ci64 z3)] := by
  intro z3 h σ' hk
  subst h
  replace h := hr1
  try dsimp only at h
  exact hK2 _ (lh hk rfl (rs (qTu rfl rfl rfl (sp 1 rfl (evn (ls_ret ((by cases h; exact ⟨.inl rfl, rfl⟩))))))))
 refine ls_rec (fun (s : (List Int) × Int) => match s with | (y1, y2) => [(0, dL ci64 a0), (3, wL 3 ci64 y1), (4, nI y2)]) _ _ _ _ hl (okr rfl) (fun _ => rfl) ?_
 rintro m ⟨y1, y2⟩ N h hN
 unfold laws_toIntS_B1 at h
 dsimp only at h
 refine ls_seq_k fun K4 hK4 => rn 1 rfl ?_
 rcases cond_some h with ⟨g5, h⟩ | ⟨g5, h⟩
 ·refine qT rfl g5 (ls_skip (hK4 _ (ls_seq_k fun K6 hK6 => ls_blk (rg (sp 4 rfl (?_))))))
  obtain ⟨e7, g8, h⟩ := ob_some h
  refine qI rfl zci64 g8 (sp 1 rfl (?_))
  obtain ⟨e9, g10, h⟩ := ob_some h
  exact qIu rfl ⟨(geti_some g10).1, (geti_some g10).2.1⟩ (qSu e7 rfl rfl zci64 ⟨(geti_some g10).1, (geti_some g10).2.1⟩ rfl rfl rfl rfl rfl rfl (evn (hK6 _ (rg (sp 3 rfl (evn (hN _ _ h (okr rfl))))))))
 ·exact qF rfl g5 (ls_exit (kXB1 (Option.some.inj h) _ (okr rfl)))
def laws_toIntSS_B1 (a0 : List (List Int)) (rec : ((List (List Int)) × Int) → Option ((List (List Int)))) (s : (List (List Int)) × Int) : Option ((List (List Int))) := match s with
  | (y1, y2) => cond (decide (y2 < (List.length a0 : Int))) (obind (geti a0 y2) fun e7 => obind (laws_toIntS e7) fun v9 => obind (geti y1 y2) fun e11 => rec ((seti y1 y2 v9), (IntKind.i64.wrap (y2 + 1)))) (some y1)
def laws_toIntSS (a0 : List (List Int)) : Option ((List (List Int))) := chk ((0 : Int) ≤ (List.length a0 : Int) ∧ Int.toNat (List.length a0 : Int) ≤ lim) (obind (loopF (laws_toIntSS_B1 a0) fz ((List.replicate (Int.toNat (List.length a0 : Int)) ([] : List Int)), 0)) fun z3 => some z3)
theorem laws_toIntSS_s {a0 : List (List Int)} {r : (List (List Int))} (h : laws_toIntSS a0 = some r) : SoundAt Tryz.prog 146 [dL c53_d a0] (oL 53 c53_o r) := by
 unfold laws_toIntSS at h
 refine st lit146 rfl (rn 1 rfl (rs (sp 2 rfl (?_))))
 obtain ⟨g1, h⟩ := chk_some h
 refine qMu c53_o ([] : List Int) rfl rfl rfl rfl g1 rfl (qAu rfl rfl rfl rfl (evn (ls_seq_k fun K2 hK2 => rn 1 rfl ?_)))
 obtain ⟨o1, hl, hr1⟩ := ob_some h
 have kXB1 : ∀ {z3 : List (List Int)}, z3 = o1 → Jn K2 [(3, wL 53 c53_o z3)] := by
  intro z3 h σ' hk
  subst h
  replace h := hr1
  try dsimp only at h
  exact hK2 _ (lh hk rfl (rs (qTu rfl rfl rfl (sp 1 rfl (evn (ls_ret ((by cases h; exact ⟨.inl rfl, rfl⟩))))))))
 refine ls_rec (fun (s : (List (List Int)) × Int) => match s with | (y1, y2) => [(0, dL c53_d a0), (3, wL 53 c53_o y1), (4, nI y2)]) _ _ _ _ hl (okr rfl) (fun _ => rfl) ?_
 rintro m ⟨y1, y2⟩ N h hN
 unfold laws_toIntSS_B1 at h
 dsimp only at h
 refine ls_seq_k fun K4 hK4 => rn 1 rfl ?_
 rcases cond_some h with ⟨g5, h⟩ | ⟨g5, h⟩
 ·refine qT rfl g5 (ls_skip (hK4 _ (ls_seq_k fun K6 hK6 => ls_blk (rg (sp 4 rfl (?_))))))
  obtain ⟨e7, g8, h⟩ := ob_some h
  refine qI rfl zc53_d g8 (sp 1 rfl (?_))
  obtain ⟨v9, g10, h⟩ := ob_some h
  refine qC (qa rfl (erD eci64 _) eran) (laws_toIntS_s g10) (?_)
  obtain ⟨e11, g12, h⟩ := ob_some h
  exact qIu rfl ⟨(geti_some g12).1, (geti_some g12).2.1⟩ (qSu v9 rfl rfl zc53_o ⟨(geti_some g12).1, (geti_some g12).2.1⟩ rfl rfl rfl rfl rfl rfl (evn (hK6 _ (rg (sp 3 rfl (evn (hN _ _ h (okr rfl))))))))
 ·exact qF rfl g5 (ls_exit (kXB1 (Option.some.inj h) _ (okr rfl)))
def laws_toRelation (a0 : Y42) : Option (Y42) := obind (laws_toIntSS a0.2) fun v1 => some (a0.1, v1)
theorem laws_toRelation_s {a0 : Y42} {r : Y42} (h : laws_toRelation a0 = some r) : SoundAt Tryz.prog 178 [.agg (c166_dd a0)] (.agg (c43_oo r)) := by
 unfold laws_toRelation at h
 refine st lit178 rfl (rn 3 rfl (rs (sp 2 rfl (?_))))
 obtain ⟨v1, g2, h⟩ := ob_some h
 exact qC (qa rfl (erD ec53_d _) eran) (laws_toIntSS_s g2) (sp 2 rfl (evn (rn 1 rfl (ls_ret ((by cases h; exact ⟨.inl rfl, rfl⟩))))))
def laws_toTable (a0 : Y167) : Option (Y119) := obind (laws_toRelation a0.2) fun v1 => some (a0.1, v1)
theorem laws_toTable_s {a0 : Y167} {r : Y119} (h : laws_toTable a0 = some r) : SoundAt Tryz.prog 145 [.agg (c168_dd a0)] (.agg (c120_oo r)) := by
 unfold laws_toTable at h
 refine st lit145 rfl (rn 3 rfl (rs (sp 2 rfl (?_))))
 obtain ⟨v1, g2, h⟩ := ob_some h
 exact qC (qa rfl (erg (erc rfl (erc (erD ec53_d _) rfl))) eran) (laws_toRelation_s g2) (sp 2 rfl (evn (rn 1 rfl (ls_ret ((by cases h; exact ⟨.inl rfl, rfl⟩))))))
def laws_toTableS_B1 (a0 : List Y167) (rec : ((List Y119) × Int) → Option ((List Y119))) (s : (List Y119) × Int) : Option ((List Y119)) := match s with
  | (y1, y2) => cond (decide (y2 < (List.length a0 : Int))) (obind (geti a0 y2) fun e7 => obind (laws_toTable e7) fun v9 => obind (geti y1 y2) fun e11 => rec ((seti y1 y2 v9), (IntKind.i64.wrap (y2 + 1)))) (some y1)
def laws_toTableS (a0 : List Y167) : Option ((List Y119)) := chk ((0 : Int) ≤ (List.length a0 : Int) ∧ Int.toNat (List.length a0 : Int) ≤ lim) (obind (loopF (laws_toTableS_B1 a0) fz ((List.replicate (Int.toNat (List.length a0 : Int)) (([], (0, [])) : Y119)), 0)) fun z3 => some z3)
theorem laws_toTableS_s {a0 : List Y167} {r : (List Y119)} (h : laws_toTableS a0 = some r) : SoundAt Tryz.prog 92 [dL c168_dd a0] (oL 120 c120_oo r) := by
 unfold laws_toTableS at h
 refine st lit92 rfl (rn 1 rfl (rs (sp 2 rfl (?_))))
 obtain ⟨g1, h⟩ := chk_some h
 refine qMu c120_oo (([], (0, [])) : Y119) rfl rfl rfl rfl g1 rfl (qAu rfl rfl rfl rfl (evn (ls_seq_k fun K2 hK2 => rn 1 rfl ?_)))
 obtain ⟨o1, hl, hr1⟩ := ob_some h
 have kXB1 : ∀ {z3 : List Y119}, z3 = o1 → Jn K2 [(3, wL 120 c120_oo z3)] := by
  intro z3 h σ' hk
  subst h
  replace h := hr1
  try dsimp only at h
  exact hK2 _ (lh hk rfl (rs (qTu rfl rfl rfl (sp 1 rfl (evn (ls_ret ((by cases h; exact ⟨.inl rfl, rfl⟩))))))))
 refine ls_rec (fun (s : (List Y119) × Int) => match s with | (y1, y2) => [(0, dL c168_dd a0), (3, wL 120 c120_oo y1), (4, nI y2)]) _ _ _ _ hl (okr rfl) (fun _ => rfl) ?_
 rintro m ⟨y1, y2⟩ N h hN
 unfold laws_toTableS_B1 at h
 dsimp only at h
 refine ls_seq_k fun K4 hK4 => rn 1 rfl ?_
 rcases cond_some h with ⟨g5, h⟩ | ⟨g5, h⟩
 ·refine qT rfl g5 (ls_skip (hK4 _ (ls_seq_k fun K6 hK6 => ls_blk (rg (sp 4 rfl (?_))))))
  obtain ⟨e7, g8, h⟩ := ob_some h
  refine qI rfl zc168_dd g8 (sp 1 rfl (?_))
  obtain ⟨v9, g10, h⟩ := ob_some h
  refine qC (qa rfl (erg (erc rfl (erc rfl (erc (erD ec53_d _) rfl)))) eran) (laws_toTable_s g10) (?_)
  obtain ⟨e11, g12, h⟩ := ob_some h
  exact qIu rfl ⟨(geti_some g12).1, (geti_some g12).2.1⟩ (qSu v9 rfl rfl zc120_oo ⟨(geti_some g12).1, (geti_some g12).2.1⟩ rfl rfl rfl rfl rfl rfl (evn (hK6 _ (rg (sp 3 rfl (evn (hN _ _ h (okr rfl))))))))
 ·exact qF rfl g5 (ls_exit (kXB1 (Option.some.inj h) _ (okr rfl)))
def laws_toDatabase (a0 : List Y167) : Option ((List Y119)) := obind (laws_toTableS a0) fun v1 => some v1
theorem laws_toDatabase_s {a0 : List Y167} {r : (List Y119)} (h : laws_toDatabase a0 = some r) : SoundAt Tryz.prog 38 [.agg [dL c168_dd a0]] (.agg [oL 120 c120_oo r]) := by
 unfold laws_toDatabase at h
 refine st lit38 rfl (rn 2 rfl (rs (sp 2 rfl (?_))))
 obtain ⟨v1, g2, h⟩ := ob_some h
 exact qC (qa rfl (erD ec168_dd _) eran) (laws_toTableS_s g2) (sp 2 rfl (evn (rn 1 rfl (ls_ret ((by cases h; exact ⟨.inl rfl, rfl⟩))))))
def laws_toAtom (a0 : Y147) : Option (Y147) := obind (laws_toIntS a0.2) fun v1 => some (a0.1, v1)
theorem laws_toAtom_s {a0 : Y147} {r : Y147} (h : laws_toAtom a0 = some r) : SoundAt Tryz.prog 135 [.agg (c161_d a0)] (.agg (c148_o r)) := by
 unfold laws_toAtom at h
 refine st lit135 rfl (rn 3 rfl (rs (sp 2 rfl (?_))))
 obtain ⟨v1, g2, h⟩ := ob_some h
 exact qC (qa rfl (erD eci64 _) eran) (laws_toIntS_s g2) (sp 2 rfl (evn (rn 1 rfl (ls_ret ((by cases h; exact ⟨.inl rfl, rfl⟩))))))
def laws_toAtomS_B1 (a0 : List Y147) (rec : ((List Y147) × Int) → Option ((List Y147))) (s : (List Y147) × Int) : Option ((List Y147)) := match s with
  | (y1, y2) => cond (decide (y2 < (List.length a0 : Int))) (obind (geti a0 y2) fun e7 => obind (laws_toAtom e7) fun v9 => obind (geti y1 y2) fun e11 => rec ((seti y1 y2 v9), (IntKind.i64.wrap (y2 + 1)))) (some y1)
def laws_toAtomS (a0 : List Y147) : Option ((List Y147)) := chk ((0 : Int) ≤ (List.length a0 : Int) ∧ Int.toNat (List.length a0 : Int) ≤ lim) (obind (loopF (laws_toAtomS_B1 a0) fz ((List.replicate (Int.toNat (List.length a0 : Int)) (([], []) : Y147)), 0)) fun z3 => some z3)
theorem laws_toAtomS_s {a0 : List Y147} {r : (List Y147)} (h : laws_toAtomS a0 = some r) : SoundAt Tryz.prog 77 [dL c161_d a0] (oL 148 c148_o r) := by
 unfold laws_toAtomS at h
 refine st lit77 rfl (rn 1 rfl (rs (sp 2 rfl (?_))))
 obtain ⟨g1, h⟩ := chk_some h
 refine qMu c148_o (([], []) : Y147) rfl rfl rfl rfl g1 rfl (qAu rfl rfl rfl rfl (evn (ls_seq_k fun K2 hK2 => rn 1 rfl ?_)))
 obtain ⟨o1, hl, hr1⟩ := ob_some h
 have kXB1 : ∀ {z3 : List Y147}, z3 = o1 → Jn K2 [(3, wL 148 c148_o z3)] := by
  intro z3 h σ' hk
  subst h
  replace h := hr1
  try dsimp only at h
  exact hK2 _ (lh hk rfl (rs (qTu rfl rfl rfl (sp 1 rfl (evn (ls_ret ((by cases h; exact ⟨.inl rfl, rfl⟩))))))))
 refine ls_rec (fun (s : (List Y147) × Int) => match s with | (y1, y2) => [(0, dL c161_d a0), (3, wL 148 c148_o y1), (4, nI y2)]) _ _ _ _ hl (okr rfl) (fun _ => rfl) ?_
 rintro m ⟨y1, y2⟩ N h hN
 unfold laws_toAtomS_B1 at h
 dsimp only at h
 refine ls_seq_k fun K4 hK4 => rn 1 rfl ?_
 rcases cond_some h with ⟨g5, h⟩ | ⟨g5, h⟩
 ·refine qT rfl g5 (ls_skip (hK4 _ (ls_seq_k fun K6 hK6 => ls_blk (rg (sp 4 rfl (?_))))))
  obtain ⟨e7, g8, h⟩ := ob_some h
  refine qI rfl zc161_d g8 (sp 1 rfl (?_))
  obtain ⟨v9, g10, h⟩ := ob_some h
  refine qC (qa rfl (erg (erc rfl (erc (erD eci64 _) rfl))) eran) (laws_toAtom_s g10) (?_)
  obtain ⟨e11, g12, h⟩ := ob_some h
  exact qIu rfl ⟨(geti_some g12).1, (geti_some g12).2.1⟩ (qSu v9 rfl rfl zc148_o ⟨(geti_some g12).1, (geti_some g12).2.1⟩ rfl rfl rfl rfl rfl rfl (evn (hK6 _ (rg (sp 3 rfl (evn (hN _ _ h (okr rfl))))))))
 ·exact qF rfl g5 (ls_exit (kXB1 (Option.some.inj h) _ (okr rfl)))
def laws_toQuery (a0 : Y63) : Option (Y54) := obind (laws_toAtomS a0.2.1) fun v1 => obind (laws_toIntS a0.2.2) fun v3 => some (a0.1, v1, v3)
theorem laws_toQuery_s {a0 : Y63} {r : Y54} (h : laws_toQuery a0 = some r) : SoundAt Tryz.prog 28 [.agg (c64_ddd a0)] (.agg (c55_ooo r)) := by
 unfold laws_toQuery at h
 refine st lit28 rfl (rn 3 rfl (rs (sp 2 rfl (?_))))
 obtain ⟨v1, g2, h⟩ := ob_some h
 refine qC (qa rfl (erD ec161_d _) eran) (laws_toAtomS_s g2) (sp 2 rfl (evn (rs (sp 2 rfl (?_)))))
 obtain ⟨v3, g4, h⟩ := ob_some h
 exact qC (qa rfl (erD eci64 _) eran) (laws_toIntS_s g4) (sp 2 rfl (evn (rn 1 rfl (ls_ret ((by cases h; exact ⟨.inl rfl, rfl⟩))))))
def laws_toCountedRelation (a0 : Y75) : Option (Y75) := obind (laws_toIntSS a0.2.1) fun v1 => obind (laws_toIntS a0.2.2) fun v3 => some (a0.1, v1, v3)
theorem laws_toCountedRelation_s {a0 : Y75} {r : Y75} (h : laws_toCountedRelation a0 = some r) : SoundAt Tryz.prog 94 [.agg (c115_ddd a0)] (.agg (c76_ooo r)) := by
 unfold laws_toCountedRelation at h
 refine st lit94 rfl (rn 3 rfl (rs (sp 2 rfl (?_))))
 obtain ⟨v1, g2, h⟩ := ob_some h
 refine qC (qa rfl (erD ec53_d _) eran) (laws_toIntSS_s g2) (sp 2 rfl (evn (rs (sp 2 rfl (?_)))))
 obtain ⟨v3, g4, h⟩ := ob_some h
 exact qC (qa rfl (erD eci64 _) eran) (laws_toIntS_s g4) (sp 2 rfl (evn (rn 1 rfl (ls_ret ((by cases h; exact ⟨.inl rfl, rfl⟩))))))
def laws_toView (a0 : Y116) : Option (Y77) := obind (laws_toQuery a0.1) fun v1 => obind (laws_toCountedRelation a0.2) fun v3 => some (v1, v3)
theorem laws_toView_s {a0 : Y116} {r : Y77} (h : laws_toView a0 = some r) : SoundAt Tryz.prog 93 [.agg (c117_dddddd a0)] (.agg (c78_oooooo r)) := by
 unfold laws_toView at h
 refine st lit93 rfl (rn 2 rfl (rs (sp 2 rfl (?_))))
 obtain ⟨v1, g2, h⟩ := ob_some h
 refine qC (qa rfl (erg (erc rfl (erc (erD ec161_d _) (erc (erD eci64 _) rfl)))) eran) (laws_toQuery_s g2) (sp 2 rfl (evn (rs (sp 2 rfl (?_)))))
 obtain ⟨v3, g4, h⟩ := ob_some h
 exact qC (qa rfl (erg (erc rfl (erc (erD ec53_d _) (erc (erD eci64 _) rfl)))) eran) (laws_toCountedRelation_s g4) (sp 2 rfl (evn (rn 1 rfl (ls_ret ((by cases h; exact ⟨.inl rfl, rfl⟩))))))
def laws_toViewS_B1 (a0 : List Y116) (rec : ((List Y77) × Int) → Option ((List Y77))) (s : (List Y77) × Int) : Option ((List Y77)) := match s with
  | (y1, y2) => cond (decide (y2 < (List.length a0 : Int))) (obind (geti a0 y2) fun e7 => obind (laws_toView e7) fun v9 => obind (geti y1 y2) fun e11 => rec ((seti y1 y2 v9), (IntKind.i64.wrap (y2 + 1)))) (some y1)
def laws_toViewS (a0 : List Y116) : Option ((List Y77)) := chk ((0 : Int) ≤ (List.length a0 : Int) ∧ Int.toNat (List.length a0 : Int) ≤ lim) (obind (loopF (laws_toViewS_B1 a0) fz ((List.replicate (Int.toNat (List.length a0 : Int)) (((0, [], []), (0, [], [])) : Y77)), 0)) fun z3 => some z3)
theorem laws_toViewS_s {a0 : List Y116} {r : (List Y77)} (h : laws_toViewS a0 = some r) : SoundAt Tryz.prog 39 [dL c117_dddddd a0] (oL 78 c78_oooooo r) := by
 unfold laws_toViewS at h
 refine st lit39 rfl (rn 1 rfl (rs (sp 2 rfl (?_))))
 obtain ⟨g1, h⟩ := chk_some h
 refine qMu c78_oooooo (((0, [], []), (0, [], [])) : Y77) rfl rfl rfl rfl g1 rfl (qAu rfl rfl rfl rfl (evn (ls_seq_k fun K2 hK2 => rn 1 rfl ?_)))
 obtain ⟨o1, hl, hr1⟩ := ob_some h
 have kXB1 : ∀ {z3 : List Y77}, z3 = o1 → Jn K2 [(3, wL 78 c78_oooooo z3)] := by
  intro z3 h σ' hk
  subst h
  replace h := hr1
  try dsimp only at h
  exact hK2 _ (lh hk rfl (rs (qTu rfl rfl rfl (sp 1 rfl (evn (ls_ret ((by cases h; exact ⟨.inl rfl, rfl⟩))))))))
 refine ls_rec (fun (s : (List Y77) × Int) => match s with | (y1, y2) => [(0, dL c117_dddddd a0), (3, wL 78 c78_oooooo y1), (4, nI y2)]) _ _ _ _ hl (okr rfl) (fun _ => rfl) ?_
 rintro m ⟨y1, y2⟩ N h hN
 unfold laws_toViewS_B1 at h
 dsimp only at h
 refine ls_seq_k fun K4 hK4 => rn 1 rfl ?_
 rcases cond_some h with ⟨g5, h⟩ | ⟨g5, h⟩
 ·refine qT rfl g5 (ls_skip (hK4 _ (ls_seq_k fun K6 hK6 => ls_blk (rg (sp 4 rfl (?_))))))
  obtain ⟨e7, g8, h⟩ := ob_some h
  refine qI rfl zc117_dddddd g8 (sp 1 rfl (?_))
  obtain ⟨v9, g10, h⟩ := ob_some h
  refine qC (qa rfl (erg (erc rfl (erc (erD ec161_d _) (erc (erD eci64 _) (erc rfl (erc (erD ec53_d _) (erc (erD eci64 _) rfl))))))) eran) (laws_toView_s g10) (?_)
  obtain ⟨e11, g12, h⟩ := ob_some h
  exact qIu rfl ⟨(geti_some g12).1, (geti_some g12).2.1⟩ (qSu v9 rfl rfl zc78_oooooo ⟨(geti_some g12).1, (geti_some g12).2.1⟩ rfl rfl rfl rfl rfl rfl (evn (hK6 _ (rg (sp 3 rfl (evn (hN _ _ h (okr rfl))))))))
 ·exact qF rfl g5 (ls_exit (kXB1 (Option.some.inj h) _ (okr rfl)))
def laws_toCountedRelationS_B1 (a0 : List Y75) (rec : ((List Y75) × Int) → Option ((List Y75))) (s : (List Y75) × Int) : Option ((List Y75)) := match s with
  | (y1, y2) => cond (decide (y2 < (List.length a0 : Int))) (obind (geti a0 y2) fun e7 => obind (laws_toCountedRelation e7) fun v9 => obind (geti y1 y2) fun e11 => rec ((seti y1 y2 v9), (IntKind.i64.wrap (y2 + 1)))) (some y1)
def laws_toCountedRelationS (a0 : List Y75) : Option ((List Y75)) := chk ((0 : Int) ≤ (List.length a0 : Int) ∧ Int.toNat (List.length a0 : Int) ≤ lim) (obind (loopF (laws_toCountedRelationS_B1 a0) fz ((List.replicate (Int.toNat (List.length a0 : Int)) ((0, [], []) : Y75)), 0)) fun z3 => some z3)
theorem laws_toCountedRelationS_s {a0 : List Y75} {r : (List Y75)} (h : laws_toCountedRelationS a0 = some r) : SoundAt Tryz.prog 40 [dL c115_ddd a0] (oL 76 c76_ooo r) := by
 unfold laws_toCountedRelationS at h
 refine st lit40 rfl (rn 1 rfl (rs (sp 2 rfl (?_))))
 obtain ⟨g1, h⟩ := chk_some h
 refine qMu c76_ooo ((0, [], []) : Y75) rfl rfl rfl rfl g1 rfl (qAu rfl rfl rfl rfl (evn (ls_seq_k fun K2 hK2 => rn 1 rfl ?_)))
 obtain ⟨o1, hl, hr1⟩ := ob_some h
 have kXB1 : ∀ {z3 : List Y75}, z3 = o1 → Jn K2 [(3, wL 76 c76_ooo z3)] := by
  intro z3 h σ' hk
  subst h
  replace h := hr1
  try dsimp only at h
  exact hK2 _ (lh hk rfl (rs (qTu rfl rfl rfl (sp 1 rfl (evn (ls_ret ((by cases h; exact ⟨.inl rfl, rfl⟩))))))))
 refine ls_rec (fun (s : (List Y75) × Int) => match s with | (y1, y2) => [(0, dL c115_ddd a0), (3, wL 76 c76_ooo y1), (4, nI y2)]) _ _ _ _ hl (okr rfl) (fun _ => rfl) ?_
 rintro m ⟨y1, y2⟩ N h hN
 unfold laws_toCountedRelationS_B1 at h
 dsimp only at h
 refine ls_seq_k fun K4 hK4 => rn 1 rfl ?_
 rcases cond_some h with ⟨g5, h⟩ | ⟨g5, h⟩
 ·refine qT rfl g5 (ls_skip (hK4 _ (ls_seq_k fun K6 hK6 => ls_blk (rg (sp 4 rfl (?_))))))
  obtain ⟨e7, g8, h⟩ := ob_some h
  refine qI rfl zc115_ddd g8 (sp 1 rfl (?_))
  obtain ⟨v9, g10, h⟩ := ob_some h
  refine qC (qa rfl (erg (erc rfl (erc (erD ec53_d _) (erc (erD eci64 _) rfl)))) eran) (laws_toCountedRelation_s g10) (?_)
  obtain ⟨e11, g12, h⟩ := ob_some h
  exact qIu rfl ⟨(geti_some g12).1, (geti_some g12).2.1⟩ (qSu v9 rfl rfl zc76_ooo ⟨(geti_some g12).1, (geti_some g12).2.1⟩ rfl rfl rfl rfl rfl rfl (evn (hK6 _ (rg (sp 3 rfl (evn (hN _ _ h (okr rfl))))))))
 ·exact qF rfl g5 (ls_exit (kXB1 (Option.some.inj h) _ (okr rfl)))
def laws_toNotifier (a0 : Y27) : Option (Y36) := obind (laws_toDatabase a0.1) fun v1 => obind (laws_toViewS a0.2.1) fun v3 => obind (laws_toCountedRelationS a0.2.2) fun v5 => some (v1, v3, v5)
theorem laws_toNotifier_s {a0 : Y27} {r : Y36} (h : laws_toNotifier a0 = some r) : SoundAt Tryz.prog 9 [.agg (c28_dddddddddddddd a0)] (.agg (c37_oooooooooooooo r)) := by
 unfold laws_toNotifier at h
 refine st lit9 rfl (rn 2 rfl (rs (sp 2 rfl (?_))))
 obtain ⟨v1, g2, h⟩ := ob_some h
 refine qC (qa rfl (erg (erc (erD ec168_dd _) rfl)) eran) (laws_toDatabase_s g2) (sp 2 rfl (evn (rs (sp 2 rfl (?_)))))
 obtain ⟨v3, g4, h⟩ := ob_some h
 refine qC (qa rfl (erD ec117_dddddd _) eran) (laws_toViewS_s g4) (sp 2 rfl (evn (rs (sp 2 rfl (?_)))))
 obtain ⟨v5, g6, h⟩ := ob_some h
 exact qC (qa rfl (erD ec115_ddd _) eran) (laws_toCountedRelationS_s g6) (sp 2 rfl (evn (rn 1 rfl (ls_ret ((by cases h; exact ⟨.inl rfl, rfl⟩))))))
def laws_eqIntS_B1 (a0 : List Int) (a1 : List Int) (rec : Int → Option (Sum (Unit) (Bool))) (y1 : Int) : Option (Sum (Unit) (Bool)) := cond (decide (y1 < (List.length a0 : Int))) (obind (geti a0 y1) fun e7 => obind (geti a1 y1) fun e9 => cond (e7 != e9) (some (.inr false)) (rec (IntKind.i64.wrap (y1 + 1)))) (some (.inl ()))
def laws_eqIntS (a0 : List Int) (a1 : List Int) : Option (Bool) := cond ((List.length a0 : Int) != (List.length a1 : Int)) (some false) (obind (loopF (laws_eqIntS_B1 a0 a1) fz 0) fun o1 => (match o1 with
  | .inl _ => (some true)
  | .inr r => some r))
theorem laws_eqIntS_s {a0 : List Int} {a1 : List Int} {r : Bool} (h : laws_eqIntS a0 a1 = some r) : SoundAt Tryz.prog 80 [dL ci64 a0, dL ci64 a1] (.bool r) := by
 unfold laws_eqIntS at h
 refine st lit80 rfl (rn 1 rfl (ls_seq_k fun K1 hK1 => rn 1 rfl ?_))
 rcases cond_some h with ⟨g2, h⟩ | ⟨g2, h⟩
 ·exact qT rfl g2 (rn 1 rfl (ls_ret ((by cases h; exact ⟨.inl rfl, rfl⟩))))
 ·refine qF rfl g2 (ls_skip (hK1 _ (ls_seq_k fun K3 hK3 => rn 1 rfl ?_)))
  obtain ⟨o1, hl, hr1⟩ := ob_some h
  have kXB1 : (.inl ()) = o1 → Jn K3 [] := by
   intro h σ' hk
   subst h
   replace h := hr1
   try dsimp only at h
   exact hK3 _ (lh hk rfl (rn 1 rfl (ls_ret ((by cases h; exact ⟨.inl rfl, rfl⟩)))))
  refine ls_rec (fun (y1 : Int) => [(0, dL ci64 a0), (1, dL ci64 a1), (5, nI y1)]) _ _ _ _ hl (okr rfl) (fun _ => rfl) ?_
  rintro m y1 N h hN
  unfold laws_eqIntS_B1 at h
  refine ls_seq_k fun K4 hK4 => rn 1 rfl ?_
  rcases cond_some h with ⟨g5, h⟩ | ⟨g5, h⟩
  ·refine qT rfl g5 (ls_skip (hK4 _ (ls_seq_k fun K6 hK6 => ls_blk (rd (by kernel_rfl) (sd 2 rfl (?_))))))
   obtain ⟨e7, g8, h⟩ := ob_some h
   refine ed rfl (qI rfl zci64 g8 (sd 3 rfl (?_)))
   obtain ⟨e9, g10, h⟩ := ob_some h
   refine ed rfl (qI rfl zci64 g10 (sd 2 rfl (evdn ?_)))
   rcases cond_some h with ⟨g11, h⟩ | ⟨g11, h⟩
   ·exact qT rfl g11 (rn 1 rfl (ls_ret ((by cases h; cases hr1; exact ⟨.inl rfl, rfl⟩))))
   ·exact qF rfl g11 (ls_skip (hK6 _ (rg (sp 3 rfl (evn (hN _ _ h (okr rfl)))))))
  ·exact qF rfl g5 (ls_exit (kXB1 (Option.some.inj h) _ trivial))
def laws_eqIntSS_B1 (a0 : List (List Int)) (a1 : List (List Int)) (rec : Int → Option (Sum (Unit) (Bool))) (y1 : Int) : Option (Sum (Unit) (Bool)) := cond (decide (y1 < (List.length a0 : Int))) (obind (geti a0 y1) fun e7 => obind (geti a1 y1) fun e9 => obind (laws_eqIntS e7 e9) fun v11 => cond (!v11) (some (.inr false)) (rec (IntKind.i64.wrap (y1 + 1)))) (some (.inl ()))
def laws_eqIntSS (a0 : List (List Int)) (a1 : List (List Int)) : Option (Bool) := cond ((List.length a0 : Int) != (List.length a1 : Int)) (some false) (obind (loopF (laws_eqIntSS_B1 a0 a1) fz 0) fun o1 => (match o1 with
  | .inl _ => (some true)
  | .inr r => some r))
theorem laws_eqIntSS_s {a0 : List (List Int)} {a1 : List (List Int)} {r : Bool} (h : laws_eqIntSS a0 a1 = some r) : SoundAt Tryz.prog 51 [dL c53_d a0, dL c53_d a1] (.bool r) := by
 unfold laws_eqIntSS at h
 refine st lit51 rfl (rn 1 rfl (ls_seq_k fun K1 hK1 => rn 1 rfl ?_))
 rcases cond_some h with ⟨g2, h⟩ | ⟨g2, h⟩
 ·exact qT rfl g2 (rn 1 rfl (ls_ret ((by cases h; exact ⟨.inl rfl, rfl⟩))))
 ·refine qF rfl g2 (ls_skip (hK1 _ (ls_seq_k fun K3 hK3 => rn 1 rfl ?_)))
  obtain ⟨o1, hl, hr1⟩ := ob_some h
  have kXB1 : (.inl ()) = o1 → Jn K3 [] := by
   intro h σ' hk
   subst h
   replace h := hr1
   try dsimp only at h
   exact hK3 _ (lh hk rfl (rn 1 rfl (ls_ret ((by cases h; exact ⟨.inl rfl, rfl⟩)))))
  refine ls_rec (fun (y1 : Int) => [(0, dL c53_d a0), (1, dL c53_d a1), (5, nI y1)]) _ _ _ _ hl (okr rfl) (fun _ => rfl) ?_
  rintro m y1 N h hN
  unfold laws_eqIntSS_B1 at h
  refine ls_seq_k fun K4 hK4 => rn 1 rfl ?_
  rcases cond_some h with ⟨g5, h⟩ | ⟨g5, h⟩
  ·refine qT rfl g5 (ls_skip (hK4 _ (ls_seq_k fun K6 hK6 => ls_blk (rd (by kernel_rfl) (sd 2 rfl (?_))))))
   obtain ⟨e7, g8, h⟩ := ob_some h
   refine ed rfl (qI rfl zc53_d g8 (sd 3 rfl (?_)))
   obtain ⟨e9, g10, h⟩ := ob_some h
   refine ed rfl (qI rfl zc53_d g10 (sd 1 rfl (?_)))
   obtain ⟨v11, g12, h⟩ := ob_some h
   refine ed rfl (qC (qa rfl (erD eci64 _) (qa rfl (erD eci64 _) eran)) (laws_eqIntS_s g12) (sd 1 rfl (evdn ?_)))
   rcases cond_some h with ⟨g13, h⟩ | ⟨g13, h⟩
   ·exact qT rfl g13 (rn 1 rfl (ls_ret ((by cases h; cases hr1; exact ⟨.inl rfl, rfl⟩))))
   ·exact qF rfl g13 (ls_skip (hK6 _ (rg (sp 3 rfl (evn (hN _ _ h (okr rfl)))))))
  ·exact qF rfl g5 (ls_exit (kXB1 (Option.some.inj h) _ trivial))
def laws_eqRelation (a0 : Y42) (a1 : Y42) : Option (Bool) := cond (a0.1 != a1.1) (some false) (obind (laws_eqIntSS a0.2 a1.2) fun v4 => cond (!v4) (some false) (some true))
theorem laws_eqRelation_s {a0 : Y42} {a1 : Y42} {r : Bool} (h : laws_eqRelation a0 a1 = some r) : SoundAt Tryz.prog 14 [.agg (c43_dd a0), .agg (c43_dd a1)] (.bool r) := by
 unfold laws_eqRelation at h
 refine st lit14 rfl (rn 1 rfl (ls_seq_k fun K1 hK1 => rn 1 rfl ?_))
 rcases cond_some h with ⟨g2, h⟩ | ⟨g2, h⟩
 ·exact qT rfl g2 (rn 1 rfl (ls_ret ((by cases h; exact ⟨.inl rfl, rfl⟩))))
 ·refine qF rfl g2 (ls_skip (hK1 _ (ls_seq_k fun K3 hK3 => rs (sp 4 rfl (?_)))))
  obtain ⟨v4, g5, h⟩ := ob_some h
  refine qC (qa rfl (erD ec53_d _) (qa rfl (erD ec53_d _) eran)) (laws_eqIntSS_s g5) (sp 1 rfl (evn ?_))
  rcases cond_some h with ⟨g6, h⟩ | ⟨g6, h⟩
  ·exact qT rfl g6 (rn 1 rfl (ls_ret ((by cases h; exact ⟨.inl rfl, rfl⟩))))
  ·exact qF rfl g6 (ls_skip (hK3 _ (rn 1 rfl (qk [4] rfl (ls_ret ((by cases h; exact ⟨.inl rfl, rfl⟩)))))))
def laws_eqTable (a0 : Y119) (a1 : Y119) : Option (Bool) := cond (!(a0.1 == a1.1)) (some false) (obind (laws_eqRelation a0.2 a1.2) fun v4 => cond (!v4) (some false) (some true))
theorem laws_eqTable_s {a0 : Y119} {a1 : Y119} {r : Bool} (h : laws_eqTable a0 a1 = some r) : SoundAt Tryz.prog 149 [.agg (c120_dd a0), .agg (c120_dd a1)] (.bool r) := by
 unfold laws_eqTable at h
 refine st lit149 rfl (rn 1 rfl (ls_seq_k fun K1 hK1 => rn 1 rfl ?_))
 rcases cond_some h with ⟨g2, h⟩ | ⟨g2, h⟩
 ·exact qT rfl g2 (rn 1 rfl (ls_ret ((by cases h; exact ⟨.inl rfl, rfl⟩))))
 ·refine qF rfl g2 (ls_skip (hK1 _ (ls_seq_k fun K3 hK3 => rs (sp 4 rfl (?_)))))
  obtain ⟨v4, g5, h⟩ := ob_some h
  refine qC (qa rfl (erg (erc rfl (erc (erD ec53_d _) rfl))) (qa rfl (erg (erc rfl (erc (erD ec53_d _) rfl))) eran)) (laws_eqRelation_s g5) (sp 1 rfl (evn ?_))
  rcases cond_some h with ⟨g6, h⟩ | ⟨g6, h⟩
  ·exact qT rfl g6 (rn 1 rfl (ls_ret ((by cases h; exact ⟨.inl rfl, rfl⟩))))
  ·exact qF rfl g6 (ls_skip (hK3 _ (rn 1 rfl (qk [4] rfl (ls_ret ((by cases h; exact ⟨.inl rfl, rfl⟩)))))))
def laws_eqTableS_B1 (a0 : List Y119) (a1 : List Y119) (rec : Int → Option (Sum (Unit) (Bool))) (y1 : Int) : Option (Sum (Unit) (Bool)) := cond (decide (y1 < (List.length a0 : Int))) (obind (geti a0 y1) fun e7 => obind (geti a1 y1) fun e9 => obind (laws_eqTable e7 e9) fun v11 => cond (!v11) (some (.inr false)) (rec (IntKind.i64.wrap (y1 + 1)))) (some (.inl ()))
def laws_eqTableS (a0 : List Y119) (a1 : List Y119) : Option (Bool) := cond ((List.length a0 : Int) != (List.length a1 : Int)) (some false) (obind (loopF (laws_eqTableS_B1 a0 a1) fz 0) fun o1 => (match o1 with
  | .inl _ => (some true)
  | .inr r => some r))
theorem laws_eqTableS_s {a0 : List Y119} {a1 : List Y119} {r : Bool} (h : laws_eqTableS a0 a1 = some r) : SoundAt Tryz.prog 99 [dL c120_dd a0, dL c120_dd a1] (.bool r) := by
 unfold laws_eqTableS at h
 refine st lit99 rfl (rn 1 rfl (ls_seq_k fun K1 hK1 => rn 1 rfl ?_))
 rcases cond_some h with ⟨g2, h⟩ | ⟨g2, h⟩
 ·exact qT rfl g2 (rn 1 rfl (ls_ret ((by cases h; exact ⟨.inl rfl, rfl⟩))))
 ·refine qF rfl g2 (ls_skip (hK1 _ (ls_seq_k fun K3 hK3 => rn 1 rfl ?_)))
  obtain ⟨o1, hl, hr1⟩ := ob_some h
  have kXB1 : (.inl ()) = o1 → Jn K3 [] := by
   intro h σ' hk
   subst h
   replace h := hr1
   try dsimp only at h
   exact hK3 _ (lh hk rfl (rn 1 rfl (ls_ret ((by cases h; exact ⟨.inl rfl, rfl⟩)))))
  refine ls_rec (fun (y1 : Int) => [(0, dL c120_dd a0), (1, dL c120_dd a1), (5, nI y1)]) _ _ _ _ hl (okr rfl) (fun _ => rfl) ?_
  rintro m y1 N h hN
  unfold laws_eqTableS_B1 at h
  refine ls_seq_k fun K4 hK4 => rn 1 rfl ?_
  rcases cond_some h with ⟨g5, h⟩ | ⟨g5, h⟩
  ·refine qT rfl g5 (ls_skip (hK4 _ (ls_seq_k fun K6 hK6 => ls_blk (rd (by kernel_rfl) (sd 2 rfl (?_))))))
   obtain ⟨e7, g8, h⟩ := ob_some h
   refine ed rfl (qI rfl zc120_dd g8 (sd 3 rfl (?_)))
   obtain ⟨e9, g10, h⟩ := ob_some h
   refine ed rfl (qI rfl zc120_dd g10 (sd 1 rfl (?_)))
   obtain ⟨v11, g12, h⟩ := ob_some h
   refine ed rfl (qC (qa rfl (erg (erc rfl (erc rfl (erc (erD ec53_d _) rfl)))) (qa rfl (erg (erc rfl (erc rfl (erc (erD ec53_d _) rfl)))) eran)) (laws_eqTable_s g12) (sd 1 rfl (evdn ?_)))
   rcases cond_some h with ⟨g13, h⟩ | ⟨g13, h⟩
   ·exact qT rfl g13 (rn 1 rfl (ls_ret ((by cases h; cases hr1; exact ⟨.inl rfl, rfl⟩))))
   ·exact qF rfl g13 (ls_skip (hK6 _ (rg (sp 3 rfl (evn (hN _ _ h (okr rfl)))))))
  ·exact qF rfl g5 (ls_exit (kXB1 (Option.some.inj h) _ trivial))
def laws_eqDatabase (a0 : List Y119) (a1 : List Y119) : Option (Bool) := obind (laws_eqTableS a0 a1) fun v2 => cond (!v2) (some false) (some true)
theorem laws_eqDatabase_s {a0 : List Y119} {a1 : List Y119} {r : Bool} (h : laws_eqDatabase a0 a1 = some r) : SoundAt Tryz.prog 44 [.agg [dL c120_dd a0], .agg [dL c120_dd a1]] (.bool r) := by
 unfold laws_eqDatabase at h
 refine st lit44 rfl (rn 1 rfl (ls_seq_k fun K1 hK1 => rs (sp 4 rfl (?_))))
 obtain ⟨v2, g3, h⟩ := ob_some h
 refine qC (qa rfl (erD ec120_dd _) (qa rfl (erD ec120_dd _) eran)) (laws_eqTableS_s g3) (sp 1 rfl (evn ?_))
 rcases cond_some h with ⟨g4, h⟩ | ⟨g4, h⟩
 ·exact qT rfl g4 (rn 1 rfl (ls_ret ((by cases h; exact ⟨.inl rfl, rfl⟩))))
 ·exact qF rfl g4 (ls_skip (hK1 _ (rn 1 rfl (ls_ret ((by cases h; exact ⟨.inl rfl, rfl⟩))))))
def laws_eqAtom (a0 : Y147) (a1 : Y147) : Option (Bool) := cond (!(a0.1 == a1.1)) (some false) (obind (laws_eqIntS a0.2 a1.2) fun v4 => cond (!v4) (some false) (some true))
theorem laws_eqAtom_s {a0 : Y147} {a1 : Y147} {r : Bool} (h : laws_eqAtom a0 a1 = some r) : SoundAt Tryz.prog 136 [.agg (c148_d a0), .agg (c148_d a1)] (.bool r) := by
 unfold laws_eqAtom at h
 refine st lit136 rfl (rn 1 rfl (ls_seq_k fun K1 hK1 => rn 1 rfl ?_))
 rcases cond_some h with ⟨g2, h⟩ | ⟨g2, h⟩
 ·exact qT rfl g2 (rn 1 rfl (ls_ret ((by cases h; exact ⟨.inl rfl, rfl⟩))))
 ·refine qF rfl g2 (ls_skip (hK1 _ (ls_seq_k fun K3 hK3 => rs (sp 4 rfl (?_)))))
  obtain ⟨v4, g5, h⟩ := ob_some h
  refine qC (qa rfl (erD eci64 _) (qa rfl (erD eci64 _) eran)) (laws_eqIntS_s g5) (sp 1 rfl (evn ?_))
  rcases cond_some h with ⟨g6, h⟩ | ⟨g6, h⟩
  ·exact qT rfl g6 (rn 1 rfl (ls_ret ((by cases h; exact ⟨.inl rfl, rfl⟩))))
  ·exact qF rfl g6 (ls_skip (hK3 _ (rn 1 rfl (qk [4] rfl (ls_ret ((by cases h; exact ⟨.inl rfl, rfl⟩)))))))
def laws_eqAtomS_B1 (a0 : List Y147) (a1 : List Y147) (rec : Int → Option (Sum (Unit) (Bool))) (y1 : Int) : Option (Sum (Unit) (Bool)) := cond (decide (y1 < (List.length a0 : Int))) (obind (geti a0 y1) fun e7 => obind (geti a1 y1) fun e9 => obind (laws_eqAtom e7 e9) fun v11 => cond (!v11) (some (.inr false)) (rec (IntKind.i64.wrap (y1 + 1)))) (some (.inl ()))
def laws_eqAtomS (a0 : List Y147) (a1 : List Y147) : Option (Bool) := cond ((List.length a0 : Int) != (List.length a1 : Int)) (some false) (obind (loopF (laws_eqAtomS_B1 a0 a1) fz 0) fun o1 => (match o1 with
  | .inl _ => (some true)
  | .inr r => some r))
theorem laws_eqAtomS_s {a0 : List Y147} {a1 : List Y147} {r : Bool} (h : laws_eqAtomS a0 a1 = some r) : SoundAt Tryz.prog 79 [dL c148_d a0, dL c148_d a1] (.bool r) := by
 unfold laws_eqAtomS at h
 refine st lit79 rfl (rn 1 rfl (ls_seq_k fun K1 hK1 => rn 1 rfl ?_))
 rcases cond_some h with ⟨g2, h⟩ | ⟨g2, h⟩
 ·exact qT rfl g2 (rn 1 rfl (ls_ret ((by cases h; exact ⟨.inl rfl, rfl⟩))))
 ·refine qF rfl g2 (ls_skip (hK1 _ (ls_seq_k fun K3 hK3 => rn 1 rfl ?_)))
  obtain ⟨o1, hl, hr1⟩ := ob_some h
  have kXB1 : (.inl ()) = o1 → Jn K3 [] := by
   intro h σ' hk
   subst h
   replace h := hr1
   try dsimp only at h
   exact hK3 _ (lh hk rfl (rn 1 rfl (ls_ret ((by cases h; exact ⟨.inl rfl, rfl⟩)))))
  refine ls_rec (fun (y1 : Int) => [(0, dL c148_d a0), (1, dL c148_d a1), (5, nI y1)]) _ _ _ _ hl (okr rfl) (fun _ => rfl) ?_
  rintro m y1 N h hN
  unfold laws_eqAtomS_B1 at h
  refine ls_seq_k fun K4 hK4 => rn 1 rfl ?_
  rcases cond_some h with ⟨g5, h⟩ | ⟨g5, h⟩
  ·refine qT rfl g5 (ls_skip (hK4 _ (ls_seq_k fun K6 hK6 => ls_blk (rd (by kernel_rfl) (sd 2 rfl (?_))))))
   obtain ⟨e7, g8, h⟩ := ob_some h
   refine ed rfl (qI rfl zc148_d g8 (sd 3 rfl (?_)))
   obtain ⟨e9, g10, h⟩ := ob_some h
   refine ed rfl (qI rfl zc148_d g10 (sd 1 rfl (?_)))
   obtain ⟨v11, g12, h⟩ := ob_some h
   refine ed rfl (qC (qa rfl (erg (erc rfl (erc (erD eci64 _) rfl))) (qa rfl (erg (erc rfl (erc (erD eci64 _) rfl))) eran)) (laws_eqAtom_s g12) (sd 1 rfl (evdn ?_)))
   rcases cond_some h with ⟨g13, h⟩ | ⟨g13, h⟩
   ·exact qT rfl g13 (rn 1 rfl (ls_ret ((by cases h; cases hr1; exact ⟨.inl rfl, rfl⟩))))
   ·exact qF rfl g13 (ls_skip (hK6 _ (rg (sp 3 rfl (evn (hN _ _ h (okr rfl)))))))
  ·exact qF rfl g5 (ls_exit (kXB1 (Option.some.inj h) _ trivial))
def laws_eqQuery (a0 : Y54) (a1 : Y54) : Option (Bool) := cond (a0.1 != a1.1) (some false) (obind (laws_eqAtomS a0.2.1 a1.2.1) fun v4 => cond (!v4) (some false) (obind (laws_eqIntS a0.2.2 a1.2.2) fun v8 => cond (!v8) (some false) (some true)))
theorem laws_eqQuery_s {a0 : Y54} {a1 : Y54} {r : Bool} (h : laws_eqQuery a0 a1 = some r) : SoundAt Tryz.prog 29 [.agg (c55_ddd a0), .agg (c55_ddd a1)] (.bool r) := by
 unfold laws_eqQuery at h
 refine st lit29 rfl (rn 1 rfl (ls_seq_k fun K1 hK1 => rn 1 rfl ?_))
 rcases cond_some h with ⟨g2, h⟩ | ⟨g2, h⟩
 ·exact qT rfl g2 (rn 1 rfl (ls_ret ((by cases h; exact ⟨.inl rfl, rfl⟩))))
 ·refine qF rfl g2 (ls_skip (hK1 _ (ls_seq_k fun K3 hK3 => rs (sp 4 rfl (?_)))))
  obtain ⟨v4, g5, h⟩ := ob_some h
  refine qC (qa rfl (erD ec148_d _) (qa rfl (erD ec148_d _) eran)) (laws_eqAtomS_s g5) (sp 1 rfl (evn ?_))
  rcases cond_some h with ⟨g6, h⟩ | ⟨g6, h⟩
  ·exact qT rfl g6 (rn 1 rfl (ls_ret ((by cases h; exact ⟨.inl rfl, rfl⟩))))
  ·refine qF rfl g6 (ls_skip (hK3 _ (ls_seq_k fun K7 hK7 => rs (sp 4 rfl (?_)))))
   obtain ⟨v8, g9, h⟩ := ob_some h
   refine qC (qa rfl (erD eci64 _) (qa rfl (erD eci64 _) eran)) (laws_eqIntS_s g9) (sp 1 rfl (evn (qk [21] rfl ?_)))
   rcases cond_some h with ⟨g10, h⟩ | ⟨g10, h⟩
   ·exact qT rfl g10 (rn 1 rfl (ls_ret ((by cases h; exact ⟨.inl rfl, rfl⟩))))
   ·exact qF rfl g10 (ls_skip (hK7 _ (rn 1 rfl (ls_ret ((by cases h; exact ⟨.inl rfl, rfl⟩))))))
def laws_eqCountedRelation (a0 : Y75) (a1 : Y75) : Option (Bool) := cond (a0.1 != a1.1) (some false) (obind (laws_eqIntSS a0.2.1 a1.2.1) fun v4 => cond (!v4) (some false) (obind (laws_eqIntS a0.2.2 a1.2.2) fun v8 => cond (!v8) (some false) (some true)))
theorem laws_eqCountedRelation_s {a0 : Y75} {a1 : Y75} {r : Bool} (h : laws_eqCountedRelation a0 a1 = some r) : SoundAt Tryz.prog 101 [.agg (c76_ddd a0), .agg (c76_ddd a1)] (.bool r) := by
 unfold laws_eqCountedRelation at h
 refine st lit101 rfl (rn 1 rfl (ls_seq_k fun K1 hK1 => rn 1 rfl ?_))
 rcases cond_some h with ⟨g2, h⟩ | ⟨g2, h⟩
 ·exact qT rfl g2 (rn 1 rfl (ls_ret ((by cases h; exact ⟨.inl rfl, rfl⟩))))
 ·refine qF rfl g2 (ls_skip (hK1 _ (ls_seq_k fun K3 hK3 => rs (sp 4 rfl (?_)))))
  obtain ⟨v4, g5, h⟩ := ob_some h
  refine qC (qa rfl (erD ec53_d _) (qa rfl (erD ec53_d _) eran)) (laws_eqIntSS_s g5) (sp 1 rfl (evn ?_))
  rcases cond_some h with ⟨g6, h⟩ | ⟨g6, h⟩
  ·exact qT rfl g6 (rn 1 rfl (ls_ret ((by cases h; exact ⟨.inl rfl, rfl⟩))))
  ·refine qF rfl g6 (ls_skip (hK3 _ (ls_seq_k fun K7 hK7 => rs (sp 4 rfl (?_)))))
   obtain ⟨v8, g9, h⟩ := ob_some h
   refine qC (qa rfl (erD eci64 _) (qa rfl (erD eci64 _) eran)) (laws_eqIntS_s g9) (sp 1 rfl (evn (qk [21] rfl ?_)))
   rcases cond_some h with ⟨g10, h⟩ | ⟨g10, h⟩
   ·exact qT rfl g10 (rn 1 rfl (ls_ret ((by cases h; exact ⟨.inl rfl, rfl⟩))))
   ·exact qF rfl g10 (ls_skip (hK7 _ (rn 1 rfl (ls_ret ((by cases h; exact ⟨.inl rfl, rfl⟩))))))
def laws_eqView (a0 : Y77) (a1 : Y77) : Option (Bool) := obind (laws_eqQuery a0.1 a1.1) fun v2 => cond (!v2) (some false) (obind (laws_eqCountedRelation a0.2 a1.2) fun v6 => cond (!v6) (some false) (some true))
theorem laws_eqView_s {a0 : Y77} {a1 : Y77} {r : Bool} (h : laws_eqView a0 a1 = some r) : SoundAt Tryz.prog 100 [.agg (c78_dddddd a0), .agg (c78_dddddd a1)] (.bool r) := by
 unfold laws_eqView at h
 refine st lit100 rfl (rn 1 rfl (ls_seq_k fun K1 hK1 => rs (sp 4 rfl (?_))))
 obtain ⟨v2, g3, h⟩ := ob_some h
 refine qC (qa rfl (erg (erc rfl (erc (erD ec148_d _) (erc (erD eci64 _) rfl)))) (qa rfl (erg (erc rfl (erc (erD ec148_d _) (erc (erD eci64 _) rfl)))) eran)) (laws_eqQuery_s g3) (sp 1 rfl (evn ?_))
 rcases cond_some h with ⟨g4, h⟩ | ⟨g4, h⟩
 ·exact qT rfl g4 (rn 1 rfl (ls_ret ((by cases h; exact ⟨.inl rfl, rfl⟩))))
 ·refine qF rfl g4 (ls_skip (hK1 _ (ls_seq_k fun K5 hK5 => rs (sp 4 rfl (?_)))))
  obtain ⟨v6, g7, h⟩ := ob_some h
  refine qC (qa rfl (erg (erc rfl (erc (erD ec53_d _) (erc (erD eci64 _) rfl)))) (qa rfl (erg (erc rfl (erc (erD ec53_d _) (erc (erD eci64 _) rfl)))) eran)) (laws_eqCountedRelation_s g7) (sp 1 rfl (evn ?_))
  rcases cond_some h with ⟨g8, h⟩ | ⟨g8, h⟩
  ·exact qT rfl g8 (rn 1 rfl (ls_ret ((by cases h; exact ⟨.inl rfl, rfl⟩))))
  ·exact qF rfl g8 (ls_skip (hK5 _ (qk [] rfl (rn 1 rfl (ls_ret ((by cases h; exact ⟨.inl rfl, rfl⟩)))))))
def laws_eqViewS_B1 (a0 : List Y77) (a1 : List Y77) (rec : Int → Option (Sum (Unit) (Bool))) (y1 : Int) : Option (Sum (Unit) (Bool)) := cond (decide (y1 < (List.length a0 : Int))) (obind (geti a0 y1) fun e7 => obind (geti a1 y1) fun e9 => obind (laws_eqView e7 e9) fun v11 => cond (!v11) (some (.inr false)) (rec (IntKind.i64.wrap (y1 + 1)))) (some (.inl ()))
def laws_eqViewS (a0 : List Y77) (a1 : List Y77) : Option (Bool) := cond ((List.length a0 : Int) != (List.length a1 : Int)) (some false) (obind (loopF (laws_eqViewS_B1 a0 a1) fz 0) fun o1 => (match o1 with
  | .inl _ => (some true)
  | .inr r => some r))
theorem laws_eqViewS_s {a0 : List Y77} {a1 : List Y77} {r : Bool} (h : laws_eqViewS a0 a1 = some r) : SoundAt Tryz.prog 45 [dL c78_dddddd a0, dL c78_dddddd a1] (.bool r) := by
 unfold laws_eqViewS at h
 refine st lit45 rfl (rn 1 rfl (ls_seq_k fun K1 hK1 => rn 1 rfl ?_))
 rcases cond_some h with ⟨g2, h⟩ | ⟨g2, h⟩
 ·exact qT rfl g2 (rn 1 rfl (ls_ret ((by cases h; exact ⟨.inl rfl, rfl⟩))))
 ·refine qF rfl g2 (ls_skip (hK1 _ (ls_seq_k fun K3 hK3 => rn 1 rfl ?_)))
  obtain ⟨o1, hl, hr1⟩ := ob_some h
  have kXB1 : (.inl ()) = o1 → Jn K3 [] := by
   intro h σ' hk
   subst h
   replace h := hr1
   try dsimp only at h
   exact hK3 _ (lh hk rfl (rn 1 rfl (ls_ret ((by cases h; exact ⟨.inl rfl, rfl⟩)))))
  refine ls_rec (fun (y1 : Int) => [(0, dL c78_dddddd a0), (1, dL c78_dddddd a1), (5, nI y1)]) _ _ _ _ hl (okr rfl) (fun _ => rfl) ?_
  rintro m y1 N h hN
  unfold laws_eqViewS_B1 at h
  refine ls_seq_k fun K4 hK4 => rn 1 rfl ?_
  rcases cond_some h with ⟨g5, h⟩ | ⟨g5, h⟩
  ·refine qT rfl g5 (ls_skip (hK4 _ (ls_seq_k fun K6 hK6 => ls_blk (rd (by kernel_rfl) (sd 2 rfl (?_))))))
   obtain ⟨e7, g8, h⟩ := ob_some h
   refine ed rfl (qI rfl zc78_dddddd g8 (sd 3 rfl (?_)))
   obtain ⟨e9, g10, h⟩ := ob_some h
   refine ed rfl (qI rfl zc78_dddddd g10 (sd 1 rfl (?_)))
   obtain ⟨v11, g12, h⟩ := ob_some h
   refine ed rfl (qC (qa rfl (erg (erc rfl (erc (erD ec148_d _) (erc (erD eci64 _) (erc rfl (erc (erD ec53_d _) (erc (erD eci64 _) rfl))))))) (qa rfl (erg (erc rfl (erc (erD ec148_d _) (erc (erD eci64 _) (erc rfl (erc (erD ec53_d _) (erc (erD eci64 _) rfl))))))) eran)) (laws_eqView_s g12) (sd 1 rfl (evdn ?_)))
   rcases cond_some h with ⟨g13, h⟩ | ⟨g13, h⟩
   ·exact qT rfl g13 (rn 1 rfl (ls_ret ((by cases h; cases hr1; exact ⟨.inl rfl, rfl⟩))))
   ·exact qF rfl g13 (ls_skip (hK6 _ (rg (sp 3 rfl (evn (hN _ _ h (okr rfl)))))))
  ·exact qF rfl g5 (ls_exit (kXB1 (Option.some.inj h) _ trivial))
def laws_eqCountedRelationS_B1 (a0 : List Y75) (a1 : List Y75) (rec : Int → Option (Sum (Unit) (Bool))) (y1 : Int) : Option (Sum (Unit) (Bool)) := cond (decide (y1 < (List.length a0 : Int))) (obind (geti a0 y1) fun e7 => obind (geti a1 y1) fun e9 => obind (laws_eqCountedRelation e7 e9) fun v11 => cond (!v11) (some (.inr false)) (rec (IntKind.i64.wrap (y1 + 1)))) (some (.inl ()))
def laws_eqCountedRelationS (a0 : List Y75) (a1 : List Y75) : Option (Bool) := cond ((List.length a0 : Int) != (List.length a1 : Int)) (some false) (obind (loopF (laws_eqCountedRelationS_B1 a0 a1) fz 0) fun o1 => (match o1 with
  | .inl _ => (some true)
  | .inr r => some r))
theorem laws_eqCountedRelationS_s {a0 : List Y75} {a1 : List Y75} {r : Bool} (h : laws_eqCountedRelationS a0 a1 = some r) : SoundAt Tryz.prog 46 [dL c76_ddd a0, dL c76_ddd a1] (.bool r) := by
 unfold laws_eqCountedRelationS at h
 refine st lit46 rfl (rn 1 rfl (ls_seq_k fun K1 hK1 => rn 1 rfl ?_))
 rcases cond_some h with ⟨g2, h⟩ | ⟨g2, h⟩
 ·exact qT rfl g2 (rn 1 rfl (ls_ret ((by cases h; exact ⟨.inl rfl, rfl⟩))))
 ·refine qF rfl g2 (ls_skip (hK1 _ (ls_seq_k fun K3 hK3 => rn 1 rfl ?_)))
  obtain ⟨o1, hl, hr1⟩ := ob_some h
  have kXB1 : (.inl ()) = o1 → Jn K3 [] := by
   intro h σ' hk
   subst h
   replace h := hr1
   try dsimp only at h
   exact hK3 _ (lh hk rfl (rn 1 rfl (ls_ret ((by cases h; exact ⟨.inl rfl, rfl⟩)))))
  refine ls_rec (fun (y1 : Int) => [(0, dL c76_ddd a0), (1, dL c76_ddd a1), (5, nI y1)]) _ _ _ _ hl (okr rfl) (fun _ => rfl) ?_
  rintro m y1 N h hN
  unfold laws_eqCountedRelationS_B1 at h
  refine ls_seq_k fun K4 hK4 => rn 1 rfl ?_
  rcases cond_some h with ⟨g5, h⟩ | ⟨g5, h⟩
  ·refine qT rfl g5 (ls_skip (hK4 _ (ls_seq_k fun K6 hK6 => ls_blk (rd (by kernel_rfl) (sd 2 rfl (?_))))))
   obtain ⟨e7, g8, h⟩ := ob_some h
   refine ed rfl (qI rfl zc76_ddd g8 (sd 3 rfl (?_)))
   obtain ⟨e9, g10, h⟩ := ob_some h
   refine ed rfl (qI rfl zc76_ddd g10 (sd 1 rfl (?_)))
   obtain ⟨v11, g12, h⟩ := ob_some h
   refine ed rfl (qC (qa rfl (erg (erc rfl (erc (erD ec53_d _) (erc (erD eci64 _) rfl)))) (qa rfl (erg (erc rfl (erc (erD ec53_d _) (erc (erD eci64 _) rfl)))) eran)) (laws_eqCountedRelation_s g12) (sd 1 rfl (evdn ?_)))
   rcases cond_some h with ⟨g13, h⟩ | ⟨g13, h⟩
   ·exact qT rfl g13 (rn 1 rfl (ls_ret ((by cases h; cases hr1; exact ⟨.inl rfl, rfl⟩))))
   ·exact qF rfl g13 (ls_skip (hK6 _ (rg (sp 3 rfl (evn (hN _ _ h (okr rfl)))))))
  ·exact qF rfl g5 (ls_exit (kXB1 (Option.some.inj h) _ trivial))
def laws_eqNotifier (a0 : Y36) (a1 : Y36) : Option (Bool) := obind (laws_eqDatabase a0.1 a1.1) fun v2 => cond (!v2) (some false) (obind (laws_eqViewS a0.2.1 a1.2.1) fun v6 => cond (!v6) (some false) (obind (laws_eqCountedRelationS a0.2.2 a1.2.2) fun v10 => cond (!v10) (some false) (some true)))
theorem laws_eqNotifier_s {a0 : Y36} {a1 : Y36} {r : Bool} (h : laws_eqNotifier a0 a1 = some r) : SoundAt Tryz.prog 11 [.agg (c37_dddddddddddddd a0), .agg (c37_dddddddddddddd a1)] (.bool r) := by
 unfold laws_eqNotifier at h
 refine st lit11 rfl (rn 1 rfl (ls_seq_k fun K1 hK1 => rs (sp 4 rfl (?_))))
 obtain ⟨v2, g3, h⟩ := ob_some h
 refine qC (qa rfl (erg (erc (erD ec120_dd _) rfl)) (qa rfl (erg (erc (erD ec120_dd _) rfl)) eran)) (laws_eqDatabase_s g3) (sp 1 rfl (evn ?_))
 rcases cond_some h with ⟨g4, h⟩ | ⟨g4, h⟩
 ·exact qT rfl g4 (rn 1 rfl (ls_ret ((by cases h; exact ⟨.inl rfl, rfl⟩))))
 ·refine qF rfl g4 (ls_skip (hK1 _ (ls_seq_k fun K5 hK5 => rs (sp 4 rfl (?_)))))
  obtain ⟨v6, g7, h⟩ := ob_some h
  refine qC (qa rfl (erD ec78_dddddd _) (qa rfl (erD ec78_dddddd _) eran)) (laws_eqViewS_s g7) (sp 1 rfl (evn ?_))
  rcases cond_some h with ⟨g8, h⟩ | ⟨g8, h⟩
  ·exact qT rfl g8 (rn 1 rfl (ls_ret ((by cases h; exact ⟨.inl rfl, rfl⟩))))
  ·refine qF rfl g8 (ls_skip (hK5 _ (qk [2, 3] rfl (ls_seq_k fun K9 hK9 => rs (sp 4 rfl (?_))))))
   obtain ⟨v10, g11, h⟩ := ob_some h
   refine qC (qa rfl (erD ec76_ddd _) (qa rfl (erD ec76_ddd _) eran)) (laws_eqCountedRelationS_s g11) (sp 1 rfl (evn ?_))
   rcases cond_some h with ⟨g12, h⟩ | ⟨g12, h⟩
   ·exact qT rfl g12 (rn 1 rfl (ls_ret ((by cases h; exact ⟨.inl rfl, rfl⟩))))
   ·exact qF rfl g12 (ls_skip (hK9 _ (rn 1 rfl (ls_ret ((by cases h; exact ⟨.inl rfl, rfl⟩))))))
def impl_isLetters_B1 (a0 : List UInt8) (rec : Int → Option (Sum (Unit) (Bool))) (y1 : Int) : Option (Sum (Unit) (Bool)) := cond (decide (y1 < (List.length a0 : Int))) (obind (geti a0 y1) fun b8 => cond (decide ((UInt8.toNat b8 : Int) < 97)) (some (.inr false)) (obind (geti a0 y1) fun b11 => cond (decide (122 < (UInt8.toNat b11 : Int))) (some (.inr false)) (rec (IntKind.i64.wrap (y1 + 1))))) (some (.inl ()))
def impl_isLetters (a0 : List UInt8) (a1 : Int) : Option (Bool) := cond (decide ((List.length a0 : Int) < 1)) (some false) (cond (decide (a1 < (List.length a0 : Int))) (some false) (obind (loopF (impl_isLetters_B1 a0) fz 0) fun o1 => (match o1 with
  | .inl _ => (some true)
  | .inr r => some r)))
theorem impl_isLetters_s {a0 : List UInt8} {a1 : Int} {r : Bool} (h : impl_isLetters a0 a1 = some r) : SoundAt Tryz.prog 147 [.str a0, nI a1] (.bool r) := by
 unfold impl_isLetters at h
 refine st lit147 rfl (rn 1 rfl (ls_seq_k fun K1 hK1 => rs (sp 4 rfl (?_))))
 rcases cond_some h with ⟨g2, h⟩ | ⟨g2, h⟩
 ·exact qg 9 g2 rfl (sp 5 rfl (evn (qT rfl rfl (rn 1 rfl (ls_ret ((by cases h; exact ⟨.inl rfl, rfl⟩)))))))
 ·refine qg 9 g2 rfl (sp 5 rfl (evn ?_))
  rcases cond_some h with ⟨g3, h⟩ | ⟨g3, h⟩
  ·exact qT rfl g3 (rn 1 rfl (ls_ret ((by cases h; exact ⟨.inl rfl, rfl⟩))))
  ·refine qF rfl g3 (ls_skip (hK1 _ (ls_seq_k fun K4 hK4 => rn 1 rfl (qk [0, 5] rfl ?_))))
   obtain ⟨o1, hl, hr1⟩ := ob_some h
   have kXB1 : (.inl ()) = o1 → Jn K4 [] := by
    intro h σ' hk
    subst h
    replace h := hr1
    try dsimp only at h
    exact hK4 _ (lh hk rfl (rn 1 rfl (ls_ret ((by cases h; exact ⟨.inl rfl, rfl⟩)))))
   refine ls_rec (fun (y1 : Int) => [(0, .str a0), (5, nI y1)]) _ _ _ _ hl (okr rfl) (fun _ => rfl) ?_
   rintro m y1 N h hN
   unfold impl_isLetters_B1 at h
   refine ls_seq_k fun K5 hK5 => rn 1 rfl ?_
   rcases cond_some h with ⟨g6, h⟩ | ⟨g6, h⟩
   ·refine qT rfl g6 (ls_skip (hK5 _ (ls_seq_k fun K7 hK7 => ls_blk (rs (sp 2 rfl (?_))))))
    obtain ⟨b8, g9, h⟩ := ob_some h
    refine qX rfl g9 (sp 2 rfl (?_))
    rcases cond_some h with ⟨g10, h⟩ | ⟨g10, h⟩
    ·exact qg 25 g10 rfl (sp 5 rfl (evn (qT rfl rfl (rn 1 rfl (ls_ret ((by cases h; cases hr1; exact ⟨.inl rfl, rfl⟩)))))))
    ·refine qg 25 g10 rfl (sp 2 rfl (?_))
     obtain ⟨b11, g12, h⟩ := ob_some h
     refine oGR rfl rfl (qX rfl g12 (sp 2 rfl (evn ?_)))
     rcases cond_some h with ⟨g13, h⟩ | ⟨g13, h⟩
     ·exact qT rfl g13 (rn 1 rfl (qk [4] rfl (ls_ret ((by cases h; cases hr1; exact ⟨.inl rfl, rfl⟩)))))
     ·exact qF rfl g13 (ls_skip (hK7 _ (rg (sp 3 rfl (evn (hN _ _ h (okr rfl)))))))
   ·exact qF rfl g6 (ls_exit (kXB1 (Option.some.inj h) _ trivial))
def impl_IsValidName (a0 : List UInt8) : Option (Bool) := obind (impl_isLetters a0 4) fun v1 => some v1
theorem impl_IsValidName_s {a0 : List UInt8} {r : Bool} (h : impl_IsValidName a0 = some r) : SoundAt Tryz.prog 95 [.str a0] (.bool r) := by
 unfold impl_IsValidName at h
 refine st lit95 rfl (rn 1 rfl (rs (sp 1 rfl (?_))))
 obtain ⟨v1, g2, h⟩ := ob_some h
 exact qC (qs rfl (qs rfl eran)) (impl_isLetters_s g2) (sp 1 rfl (evn (ls_ret ((by cases h; exact ⟨.inl rfl, rfl⟩)))))
def impl_within_J1 (x2 : Bool) : Option (Bool) := some x2
def impl_within (a0 : Int) (a1 : Int) (a2 : Int) : Option (Bool) := cond (decide (a1 ≤ a0)) (impl_within_J1 (decide (a0 ≤ a2))) (impl_within_J1 false)
theorem impl_within_s {a0 : Int} {a1 : Int} {a2 : Int} {r : Bool} (h : impl_within a0 a1 a2 = some r) : SoundAt Tryz.prog 49 [nI a0, nI a1, nI a2] (.bool r) := by
 unfold impl_within at h
 refine st lit49 rfl (rn 1 rfl (rk fun K1 hK1 => ?_))
 have kJ1 : ∀ {x2 : Bool}, impl_within_J1 x2 = some r → Jn K1 [(6, .bool x2)] := by
  intro x2 h σ' hk
  unfold impl_within_J1 at h
  exact hK1 _ (lh hk rfl (ls_ret ((by cases h; exact ⟨.inl rfl, rfl⟩))))
 refine sp 4 rfl (?_)
 rcases cond_some h with ⟨g3, h⟩ | ⟨g3, h⟩
 ·exact qg 10 g3 rfl (sp 5 rfl (evn (kJ1 h _ (okr rfl))))
 ·exact qg 10 g3 rfl (sp 5 rfl (evn (kJ1 h _ (okr rfl))))
def impl_AreValidValues_B1 (a0 : List Int) (rec : Int → Option (Sum (Unit) (Bool))) (y1 : Int) : Option (Sum (Unit) (Bool)) := cond (decide (y1 < (List.length a0 : Int))) (obind (geti a0 y1) fun e5 => obind (impl_within e5 0 99) fun v7 => cond (!v7) (some (.inr false)) (rec (IntKind.i64.wrap (y1 + 1)))) (some (.inl ()))
def impl_AreValidValues (a0 : List Int) : Option (Bool) := obind (loopF (impl_AreValidValues_B1 a0) fz 0) fun o1 => (match o1 with
  | .inl _ => (some true)
  | .inr r => some r)
theorem impl_AreValidValues_s {a0 : List Int} {r : Bool} (h : impl_AreValidValues a0 = some r) : SoundAt Tryz.prog 179 [dL ci64 a0] (.bool r) := by
 unfold impl_AreValidValues at h
 refine st lit179 rfl (rn 1 rfl (ls_seq_k fun K1 hK1 => rn 1 rfl ?_))
 obtain ⟨o1, hl, hr1⟩ := ob_some h
 have kXB1 : (.inl ()) = o1 → Jn K1 [] := by
  intro h σ' hk
  subst h
  replace h := hr1
  try dsimp only at h
  exact hK1 _ (lh hk rfl (rn 1 rfl (ls_ret ((by cases h; exact ⟨.inl rfl, rfl⟩)))))
 refine ls_rec (fun (y1 : Int) => [(5, dL ci64 a0), (6, nI (List.length a0 : Int)), (7, nI y1)]) _ _ _ _ hl (okr rfl) (fun _ => rfl) ?_
 rintro m y1 N h hN
 unfold impl_AreValidValues_B1 at h
 refine rn 1 rfl (ls_seq_k fun K2 hK2 => ?_)
 rcases cond_some h with ⟨g3, h⟩ | ⟨g3, h⟩
 ·refine qT rfl g3 (ls_skip (hK2 _ (ls_seq_k fun K4 hK4 => ls_blk (rs ?_))))
  obtain ⟨e5, g6, h⟩ := ob_some h
  refine qI rfl zci64 g6 (sp 2 rfl (evn (rs (sp 1 rfl (?_)))))
  obtain ⟨v7, g8, h⟩ := ob_some h
  refine qC (qs rfl (qs rfl (qs rfl eran))) (impl_within_s g8) (sp 1 rfl (evn ?_))
  rcases cond_some h with ⟨g9, h⟩ | ⟨g9, h⟩
  ·exact qT rfl g9 (rn 1 rfl (ls_ret ((by cases h; cases hr1; exact ⟨.inl rfl, rfl⟩))))
  ·exact qF rfl g9 (ls_skip (hK4 _ (rg (sp 2 rfl (evn (hN _ _ h (okr rfl)))))))
 ·exact qF rfl g3 (ls_exit (kXB1 (Option.some.inj h) _ trivial))
def impl_compareInts (a0 : Int) (a1 : Int) : Option (Int) := cond (decide (a0 < a1)) (some (-1)) (cond (decide (a1 < a0)) (some 1) (some 0))
theorem impl_compareInts_s {a0 : Int} {a1 : Int} {r : Int} (h : impl_compareInts a0 a1 = some r) : SoundAt Tryz.prog 194 [nI a0, nI a1] (nI r) := by
 unfold impl_compareInts at h
 refine st lit194 rfl (rn 1 rfl (ls_seq_k fun K1 hK1 => ls_blk (rn 1 rfl ?_)))
 rcases cond_some h with ⟨g2, h⟩ | ⟨g2, h⟩
 ·exact qT rfl g2 (rn 1 rfl (ls_ret ((by cases h; exact ⟨.inl rfl, rfl⟩))))
 ·refine qF rfl g2 (rn 1 rfl ?_)
  rcases cond_some h with ⟨g3, h⟩ | ⟨g3, h⟩
  ·exact qT rfl g3 (rn 1 rfl (ls_ret ((by cases h; exact ⟨.inl rfl, rfl⟩))))
  ·exact qF rfl g3 (ls_skip (hK1 _ (rn 1 rfl (qk [4] rfl (ls_ret ((by cases h; exact ⟨.inl rfl, rfl⟩)))))))
def impl_CompareRows_B1 (a0 : List Int) (a1 : List Int) (rec : Int → Option (Sum (Unit) (Int))) (y1 : Int) : Option (Sum (Unit) (Int)) := cond (decide (y1 < (List.length a0 : Int))) (cond (decide (y1 < (List.length a1 : Int))) (obind (geti a0 y1) fun e6 => obind (geti a1 y1) fun e8 => cond (e6 != e8) (obind (geti a0 y1) fun e11 => obind (geti a1 y1) fun e13 => obind (impl_compareInts e11 e13) fun v15 => some (.inr v15)) (rec (IntKind.i64.wrap (y1 + 1)))) (some (.inl ()))) (some (.inl ()))
def impl_CompareRows (a0 : List Int) (a1 : List Int) : Option (Int) := obind (loopF (impl_CompareRows_B1 a0 a1) fz 0) fun o1 => (match o1 with
  | .inl _ => (obind (impl_compareInts (List.length a0 : Int) (List.length a1 : Int)) fun v17 => some v17)
  | .inr r => some r)
theorem impl_CompareRows_s {a0 : List Int} {a1 : List Int} {r : Int} (h : impl_CompareRows a0 a1 = some r) : SoundAt Tryz.prog 180 [dL ci64 a0, dL ci64 a1] (nI r) := by
 unfold impl_CompareRows at h
 refine st lit180 rfl (rn 1 rfl (ls_seq_k fun K1 hK1 => rn 1 rfl ?_))
 obtain ⟨o1, hl, hr1⟩ := ob_some h
 have kXB1 : (.inl ()) = o1 → Jn K1 [(0, dL ci64 a0), (1, dL ci64 a1)] := by
  intro h σ' hk
  subst h
  replace h := hr1
  try dsimp only at h
  refine hK1 _ (lh hk rfl (rs (sp 4 rfl (?_))))
  obtain ⟨v17, g18, h⟩ := ob_some h
  exact qC (qs rfl (qs rfl eran)) (impl_compareInts_s g18) (sp 1 rfl (evn (ls_ret ((by cases h; exact ⟨.inl rfl, rfl⟩)))))
 refine ls_rec (fun (y1 : Int) => [(0, dL ci64 a0), (1, dL ci64 a1), (5, nI y1)]) _ _ _ _ hl (okr rfl) (fun _ => rfl) ?_
 rintro m y1 N h hN
 unfold impl_CompareRows_B1 at h
 refine ls_seq_k fun K2 hK2 => rs (sp 5 rfl (?_))
 rcases cond_some h with ⟨g3, h⟩ | ⟨g3, h⟩
 ·refine qg 10 g3 rfl (sp 5 rfl (evn ?_))
  rcases cond_some h with ⟨g4, h⟩ | ⟨g4, h⟩
  ·refine qT rfl g4 (ls_skip (hK2 _ (ls_seq_k fun K5 hK5 => ls_blk (rd (by kernel_rfl) (sd 2 rfl (?_))))))
   obtain ⟨e6, g7, h⟩ := ob_some h
   refine ed rfl (qI rfl zci64 g7 (sd 3 rfl (?_)))
   obtain ⟨e8, g9, h⟩ := ob_some h
   refine ed rfl (qI rfl zci64 g9 (sd 2 rfl (evdn ?_)))
   rcases cond_some h with ⟨g10, h⟩ | ⟨g10, h⟩
   ·refine qT rfl g10 (rd (by kernel_rfl) (sd 2 rfl (?_)))
    obtain ⟨e11, g12, h⟩ := ob_some h
    refine ed rfl (qI rfl zci64 g12 (sd 3 rfl (?_)))
    obtain ⟨e13, g14, h⟩ := ob_some h
    refine ed rfl (qI rfl zci64 g14 (sd 1 rfl (?_)))
    obtain ⟨v15, g16, h⟩ := ob_some h
    exact ed rfl (qC (qs rfl (qs rfl eran)) (impl_compareInts_s g16) (sd 1 rfl (evdn (qk [4] rfl (ls_ret ((by cases h; cases hr1; exact ⟨.inl rfl, rfl⟩)))))))
   ·exact qF rfl g10 (ls_skip (hK5 _ (rg (sp 3 rfl (evn (hN _ _ h (okr rfl)))))))
  ·exact qF rfl g4 (ls_exit (kXB1 (Option.some.inj h) _ (okr rfl)))
 ·exact qg 10 g3 rfl (sp 5 rfl (evn (qF rfl rfl (ls_exit (kXB1 (Option.some.inj h) _ (okr rfl))))))
def impl_rowsValid_J2 (rec : Int → Option (Sum (Unit) (Bool))) (y1 : Int) (x13 : Bool) : Option (Sum (Unit) (Bool)) := cond x13 (some (.inr false)) (rec (IntKind.i64.wrap (y1 + 1)))
def impl_rowsValid_B1 (a0 : Int) (a1 : List (List Int)) (rec : Int → Option (Sum (Unit) (Bool))) (y1 : Int) : Option (Sum (Unit) (Bool)) := cond (decide (y1 < (List.length a1 : Int))) (obind (geti a1 y1) fun e10 => cond ((List.length e10 : Int) != a0) (impl_rowsValid_J2 rec y1 true) (obind (impl_AreValidValues e10) fun v16 => cond (!v16) (impl_rowsValid_J2 rec y1 true) (cond (decide (0 < y1)) (obind (geti a1 (IntKind.i64.wrap (y1 - 1))) fun e20 => obind (impl_CompareRows e20 e10) fun v22 => impl_rowsValid_J2 rec y1 (decide (0 ≤ v22))) (impl_rowsValid_J2 rec y1 false)))) (some (.inl ()))
def impl_rowsValid (a0 : Int) (a1 : List (List Int)) : Option (Bool) := obind (impl_within a0 0 5) fun v2 => cond (!v2) (some false) (cond (decide (4000 < (List.length a1 : Int))) (some false) (obind (loopF (impl_rowsValid_B1 a0 a1) fz 0) fun o1 => (match o1 with
  | .inl _ => (some true)
  | .inr r => some r)))
theorem impl_rowsValid_s {a0 : Int} {a1 : List (List Int)} {r : Bool} (h : impl_rowsValid a0 a1 = some r) : SoundAt Tryz.prog 148 [nI a0, dL c53_d a1] (.bool r) := by
 unfold impl_rowsValid at h
 refine st lit148 rfl (rn 1 rfl (ls_seq_k fun K1 hK1 => rs (sp 1 rfl (?_))))
 obtain ⟨v2, g3, h⟩ := ob_some h
 refine qC (qs rfl (qs rfl (qs rfl eran))) (impl_within_s g3) (sp 2 rfl (?_))
 rcases cond_some h with ⟨g4, h⟩ | ⟨g4, h⟩
 ·exact qg 10 g4 rfl (sp 4 rfl (evn (qT rfl rfl (rn 1 rfl (ls_ret ((by cases h; exact ⟨.inl rfl, rfl⟩)))))))
 ·refine qg 10 g4 rfl (sp 4 rfl (evn ?_))
  rcases cond_some h with ⟨g5, h⟩ | ⟨g5, h⟩
  ·exact qT rfl g5 (rn 1 rfl (ls_ret ((by cases h; exact ⟨.inl rfl, rfl⟩))))
  ·refine qF rfl g5 (ls_skip (hK1 _ (ls_seq_k fun K6 hK6 => rn 1 rfl (qk [0, 1, 15, 16, 17] rfl ?_))))
   obtain ⟨o1, hl, hr1⟩ := ob_some h
   have kXB1 : (.inl ()) = o1 → Jn K6 [] := by
    intro h σ' hk
    subst h
    replace h := hr1
    try dsimp only at h
    exact hK6 _ (lh hk rfl (rn 1 rfl (ls_ret ((by cases h; exact ⟨.inl rfl, rfl⟩)))))
   refine ls_rec (fun (y1 : Int) => [(0, nI a0), (1, dL c53_d a1), (15, dL c53_d a1), (16, nI (List.length a1 : Int)), (17, nI y1)]) _ _ _ _ hl (okr rfl) (fun _ => rfl) ?_
   rintro m y1 N h hN
   unfold impl_rowsValid_B1 at h
   refine rn 1 rfl (ls_seq_k fun K7 hK7 => ?_)
   rcases cond_some h with ⟨g8, h⟩ | ⟨g8, h⟩
   ·refine qT rfl g8 (ls_skip (hK7 _ (ls_seq_k fun K9 hK9 => ls_blk (rs (sp 1 rfl (?_))))))
    obtain ⟨e10, g11, h⟩ := ob_some h
    refine qI rfl zc53_d g11 (sp 3 rfl (evn (rk fun K12 hK12 => ?_)))
    have kJ2 : ∀ {x13 : Bool}, impl_rowsValid_J2 (loopF (impl_rowsValid_B1 a0 a1) m) y1 x13 = some o1 → Jn K12 [(0, nI a0), (1, dL c53_d a1), (15, dL c53_d a1), (16, nI (List.length a1 : Int)), (17, nI y1), (44, .bool x13)] := by
     intro x13 h σ' hk
     unfold impl_rowsValid_J2 at h
     refine hK12 _ (lh hk rfl ?_)
     rcases cond_some h with ⟨g14, h⟩ | ⟨g14, h⟩
     ·exact qT rfl g14 (rn 1 rfl (ls_ret ((by cases h; cases hr1; exact ⟨.inl rfl, rfl⟩))))
     ·exact qF rfl g14 (ls_skip (hK9 _ (rg (sp 2 rfl (evn (hN _ _ h (okr rfl)))))))
    refine sp 5 rfl (?_)
    rcases cond_some h with ⟨g15, h⟩ | ⟨g15, h⟩
    ·exact qg 26 g15 rfl (sp 18 rfl (evn (kJ2 h _ (okr rfl))))
    ·refine qg 26 g15 rfl (sp 1 rfl (?_))
     obtain ⟨v16, g17, h⟩ := ob_some h
     refine oGR rfl rfl (qC (qa rfl (erD eci64 _) eran) (impl_AreValidValues_s g17) (sp 3 rfl (?_)))
     rcases cond_some h with ⟨g18, h⟩ | ⟨g18, h⟩
     ·exact qg 31 g18 rfl (sp 13 rfl (evn (kJ2 h _ (okr rfl))))
     ·refine qg 31 g18 rfl (sp 3 rfl (?_))
      rcases cond_some h with ⟨g19, h⟩ | ⟨g19, h⟩
      ·refine qg 34 g19 rfl (sp 3 rfl (?_))
       obtain ⟨e20, g21, h⟩ := ob_some h
       refine oGR rfl rfl (qI rfl zc53_d g21 (sp 2 rfl (?_)))
       obtain ⟨v22, g23, h⟩ := ob_some h
       exact oGR rfl rfl (qC (qa rfl (erD eci64 _) (qa rfl (erD eci64 _) eran)) (impl_CompareRows_s g23) (sp 3 rfl (evn (kJ2 h _ (okr rfl)))))
      ·exact qg 34 g19 rfl (sp 10 rfl (evn (kJ2 h _ (okr rfl))))
   ·exact qF rfl g8 (ls_exit (kXB1 (Option.some.inj h) _ trivial))
def impl_IsValidRelation (a0 : Y42) : Option (Bool) := obind (impl_rowsValid a0.1 a0.2) fun v1 => some v1
theorem impl_IsValidRelation_s {a0 : Y42} {r : Bool} (h : impl_IsValidRelation a0 = some r) : SoundAt Tryz.prog 96 [.agg (c43_dd a0)] (.bool r) := by
 unfold impl_IsValidRelation at h
 refine st lit96 rfl (rn 1 rfl (rs (sp 4 rfl (?_))))
 obtain ⟨v1, g2, h⟩ := ob_some h
 exact qC (qs rfl (qa rfl (erD ec53_d _) eran)) (impl_rowsValid_s g2) (sp 1 rfl (evn (ls_ret ((by cases h; exact ⟨.inl rfl, rfl⟩)))))
def impl_IsValidDatabase_J2 (rec : Int → Option (Sum (Unit) (Bool))) (y1 : Int) (x10 : Bool) : Option (Sum (Unit) (Bool)) := cond x10 (some (.inr false)) (rec (IntKind.i64.wrap (y1 + 1)))
def impl_IsValidDatabase_B1 (a0 : List Y119) (rec : Int → Option (Sum (Unit) (Bool))) (y1 : Int) : Option (Sum (Unit) (Bool)) := cond (decide (y1 < (List.length a0 : Int))) (obind (geti a0 y1) fun e7 => obind (impl_IsValidName e7.1) fun v12 => cond (!v12) (impl_IsValidDatabase_J2 rec y1 true) (cond (decide (0 < y1)) (obind (geti a0 (IntKind.i64.wrap (y1 - 1))) fun e16 => cond (!Op.bytesLess e16.1 e7.1) (impl_IsValidDatabase_J2 rec y1 true) (obind (impl_IsValidRelation e7.2) fun v19 => cond (!v19) (impl_IsValidDatabase_J2 rec y1 true) (cond (decide (e7.2.1 < 1)) (impl_IsValidDatabase_J2 rec y1 true) (impl_IsValidDatabase_J2 rec y1 (decide (16 < (List.length e7.2.2 : Int))))))) (obind (impl_IsValidRelation e7.2) fun v23 => cond (!v23) (impl_IsValidDatabase_J2 rec y1 true) (cond (decide (e7.2.1 < 1)) (impl_IsValidDatabase_J2 rec y1 true) (impl_IsValidDatabase_J2 rec y1 (decide (16 < (List.length e7.2.2 : Int)))))))) (some (.inl ()))
def impl_IsValidDatabase (a0 : List Y119) : Option (Bool) := cond (decide (6 < (List.length a0 : Int))) (some false) (obind (loopF (impl_IsValidDatabase_B1 a0) fz 0) fun o1 => (match o1 with
  | .inl _ => (some true)
  | .inr r => some r))
theorem impl_IsValidDatabase_s {a0 : List Y119} {r : Bool} (h : impl_IsValidDatabase a0 = some r) : SoundAt Tryz.prog 41 [.agg [dL c120_dd a0]] (.bool r) := by
 unfold impl_IsValidDatabase at h
 refine st lit41 rfl (rn 1 rfl (ls_seq_k fun K1 hK1 => rn 1 rfl ?_))
 rcases cond_some h with ⟨g2, h⟩ | ⟨g2, h⟩
 ·exact qT rfl g2 (rn 1 rfl (ls_ret ((by cases h; exact ⟨.inl rfl, rfl⟩))))
 ·refine qF rfl g2 (ls_skip (hK1 _ (ls_seq_k fun K3 hK3 => rn 1 rfl ?_)))
  obtain ⟨o1, hl, hr1⟩ := ob_some h
  have kXB1 : (.inl ()) = o1 → Jn K3 [] := by
   intro h σ' hk
   subst h
   replace h := hr1
   try dsimp only at h
   exact hK3 _ (lh hk rfl (rn 1 rfl (ls_ret ((by cases h; exact ⟨.inl rfl, rfl⟩)))))
  refine ls_rec (fun (y1 : Int) => [(1, .box [dL c120_dd a0]), (10, dL c120_dd a0), (11, nI (List.length a0 : Int)), (12, nI y1)]) _ _ _ _ hl (okr rfl) (fun _ => rfl) ?_
  rintro m y1 N h hN
  unfold impl_IsValidDatabase_B1 at h
  refine rn 1 rfl (ls_seq_k fun K4 hK4 => ?_)
  rcases cond_some h with ⟨g5, h⟩ | ⟨g5, h⟩
  ·refine qT rfl g5 (ls_skip (hK4 _ (ls_seq_k fun K6 hK6 => ls_blk (rs (sp 1 rfl (?_))))))
   obtain ⟨e7, g8, h⟩ := ob_some h
   refine qI rfl zc120_dd g8 (sp 4 rfl (evn (rdk (by kernel_rfl) fun K9 hK9 => ?_)))
   have kJ2 : ∀ {x10 : Bool}, impl_IsValidDatabase_J2 (loopF (impl_IsValidDatabase_B1 a0) m) y1 x10 = some o1 → Jn K9 [(1, .box [dL c120_dd a0]), (10, dL c120_dd a0), (11, nI (List.length a0 : Int)), (12, nI y1), (55, .bool x10)] := by
    intro x10 h σ' hk
    unfold impl_IsValidDatabase_J2 at h
    refine hK9 _ (lh hk rfl ?_)
    rcases cond_some h with ⟨g11, h⟩ | ⟨g11, h⟩
    ·exact qT rfl g11 (rn 1 rfl (ls_ret ((by cases h; cases hr1; exact ⟨.inl rfl, rfl⟩))))
    ·exact qF rfl g11 (ls_skip (hK6 _ (rg (sp 2 rfl (evn (hN _ _ h (okr rfl)))))))
   refine sd 2 rfl (?_)
   obtain ⟨v12, g13, h⟩ := ob_some h
   refine ed rfl (qC (qs rfl eran) (impl_IsValidName_s g13) (sd 2 rfl (?_)))
   rcases cond_some h with ⟨g14, h⟩ | ⟨g14, h⟩
   ·exact qgd 21 g14 rfl (sd 34 rfl (evdn (kJ2 h _ (okr rfl))))
   ·refine qgd 21 g14 rfl (sd 3 rfl (?_))
    rcases cond_some h with ⟨g15, h⟩ | ⟨g15, h⟩
    ·refine qgd 24 g15 rfl (sd 4 rfl (?_))
     obtain ⟨e16, g17, h⟩ := ob_some h
     refine ed rfl (oGR rfl rfl (qI rfl zc120_dd g17 (sd 8 rfl (?_))))
     rcases cond_some h with ⟨g18, h⟩ | ⟨g18, h⟩
     ·exact qgd 37 g18 rfl (sd 18 rfl (evdn (kJ2 h _ (okr rfl))))
     ·refine qgd 37 g18 rfl (sd 2 rfl (?_))
      obtain ⟨v19, g20, h⟩ := ob_some h
      refine ed rfl (oGR rfl rfl (qC (qa rfl (erg (erc rfl (erc (erD ec53_d _) rfl))) eran) (impl_IsValidRelation_s g20) (sd 3 rfl (?_))))
      rcases cond_some h with ⟨g21, h⟩ | ⟨g21, h⟩
      ·exact qgd 43 g21 rfl (sd 12 rfl (evdn (kJ2 h _ (okr rfl))))
      ·refine qgd 43 g21 rfl (sd 6 rfl (?_))
       rcases cond_some h with ⟨g22, h⟩ | ⟨g22, h⟩
       ·exact qgd 49 g22 rfl (sd 6 rfl (evdn (kJ2 h _ (okr rfl))))
       ·exact qgd 49 g22 rfl (sd 6 rfl (evdn (kJ2 h _ (okr rfl))))
    ·refine qgd 24 g15 rfl (sd 15 rfl (?_))
     obtain ⟨v23, g24, h⟩ := ob_some h
     refine ed rfl (oGR rfl rfl (qC (qa rfl (erg (erc rfl (erc (erD ec53_d _) rfl))) eran) (impl_IsValidRelation_s g24) (sd 3 rfl (?_))))
     rcases cond_some h with ⟨g25, h⟩ | ⟨g25, h⟩
     ·exact qgd 43 g25 rfl (sd 12 rfl (evdn (kJ2 h _ (okr rfl))))
     ·refine qgd 43 g25 rfl (sd 6 rfl (?_))
      rcases cond_some h with ⟨g26, h⟩ | ⟨g26, h⟩
      ·exact qgd 49 g26 rfl (sd 6 rfl (evdn (kJ2 h _ (okr rfl))))
      ·exact qgd 49 g26 rfl (sd 6 rfl (evdn (kJ2 h _ (okr rfl))))
  ·exact qF rfl g5 (ls_exit (kXB1 (Option.some.inj h) _ trivial))
def impl_sameInts_B1 (a0 : List Int) (a1 : List Int) (rec : Int → Option (Sum (Unit) (Bool))) (y1 : Int) : Option (Sum (Unit) (Bool)) := cond (decide (y1 < (List.length a0 : Int))) (obind (geti a0 y1) fun e7 => obind (geti a1 y1) fun e9 => cond (e7 != e9) (some (.inr false)) (rec (IntKind.i64.wrap (y1 + 1)))) (some (.inl ()))
def impl_sameInts (a0 : List Int) (a1 : List Int) : Option (Bool) := cond ((List.length a0 : Int) != (List.length a1 : Int)) (some false) (obind (loopF (impl_sameInts_B1 a0 a1) fz 0) fun o1 => (match o1 with
  | .inl _ => (some true)
  | .inr r => some r))
theorem impl_sameInts_s {a0 : List Int} {a1 : List Int} {r : Bool} (h : impl_sameInts a0 a1 = some r) : SoundAt Tryz.prog 98 [dL ci64 a0, dL ci64 a1] (.bool r) := by
 unfold impl_sameInts at h
 refine st lit98 rfl (rn 1 rfl (ls_seq_k fun K1 hK1 => rn 1 rfl ?_))
 rcases cond_some h with ⟨g2, h⟩ | ⟨g2, h⟩
 ·exact qT rfl g2 (rn 1 rfl (ls_ret ((by cases h; exact ⟨.inl rfl, rfl⟩))))
 ·refine qF rfl g2 (ls_skip (hK1 _ (ls_seq_k fun K3 hK3 => rn 1 rfl ?_)))
  obtain ⟨o1, hl, hr1⟩ := ob_some h
  have kXB1 : (.inl ()) = o1 → Jn K3 [] := by
   intro h σ' hk
   subst h
   replace h := hr1
   try dsimp only at h
   exact hK3 _ (lh hk rfl (rn 1 rfl (ls_ret ((by cases h; exact ⟨.inl rfl, rfl⟩)))))
  refine ls_rec (fun (y1 : Int) => [(0, dL ci64 a0), (1, dL ci64 a1), (12, nI (List.length a0 : Int)), (13, nI y1)]) _ _ _ _ hl (okr rfl) (fun _ => rfl) ?_
  rintro m y1 N h hN
  unfold impl_sameInts_B1 at h
  refine rn 1 rfl (ls_seq_k fun K4 hK4 => ?_)
  rcases cond_some h with ⟨g5, h⟩ | ⟨g5, h⟩
  ·refine qT rfl g5 (ls_skip (hK4 _ (ls_seq_k fun K6 hK6 => ls_blk (rn 1 rfl (rd (by kernel_rfl) (sd 2 rfl (?_)))))))
   obtain ⟨e7, g8, h⟩ := ob_some h
   refine ed rfl (qI rfl zci64 g8 (sd 3 rfl (?_)))
   obtain ⟨e9, g10, h⟩ := ob_some h
   refine ed rfl (qI rfl zci64 g10 (sd 2 rfl (evdn ?_)))
   rcases cond_some h with ⟨g11, h⟩ | ⟨g11, h⟩
   ·exact qT rfl g11 (rn 1 rfl (ls_ret ((by cases h; cases hr1; exact ⟨.inl rfl, rfl⟩))))
   ·exact qF rfl g11 (ls_skip (hK6 _ (rg (sp 2 rfl (evn (hN _ _ h (okr rfl)))))))
  ·exact qF rfl g5 (ls_exit (kXB1 (Option.some.inj h) _ trivial))
def impl_sameRows_B1 (a0 : List (List Int)) (a1 : List (List Int)) (rec : Int → Option (Sum (Unit) (Bool))) (y1 : Int) : Option (Sum (Unit) (Bool)) := cond (decide (y1 < (List.length a0 : Int))) (obind (geti a0 y1) fun e7 => obind (geti a1 y1) fun e9 => obind (impl_sameInts e7 e9) fun v11 => cond (!v11) (some (.inr false)) (rec (IntKind.i64.wrap (y1 + 1)))) (some (.inl ()))
def impl_sameRows (a0 : List (List Int)) (a1 : List (List Int)) : Option (Bool) := cond ((List.length a0 : Int) != (List.length a1 : Int)) (some false) (obind (loopF (impl_sameRows_B1 a0 a1) fz 0) fun o1 => (match o1 with
  | .inl _ => (some true)
  | .inr r => some r))
theorem impl_sameRows_s {a0 : List (List Int)} {a1 : List (List Int)} {r : Bool} (h : impl_sameRows a0 a1 = some r) : SoundAt Tryz.prog 97 [dL c53_d a0, dL c53_d a1] (.bool r) := by
 unfold impl_sameRows at h
 refine st lit97 rfl (rn 1 rfl (ls_seq_k fun K1 hK1 => rn 1 rfl ?_))
 rcases cond_some h with ⟨g2, h⟩ | ⟨g2, h⟩
 ·exact qT rfl g2 (rn 1 rfl (ls_ret ((by cases h; exact ⟨.inl rfl, rfl⟩))))
 ·refine qF rfl g2 (ls_skip (hK1 _ (ls_seq_k fun K3 hK3 => rn 1 rfl ?_)))
  obtain ⟨o1, hl, hr1⟩ := ob_some h
  have kXB1 : (.inl ()) = o1 → Jn K3 [] := by
   intro h σ' hk
   subst h
   replace h := hr1
   try dsimp only at h
   exact hK3 _ (lh hk rfl (rn 1 rfl (ls_ret ((by cases h; exact ⟨.inl rfl, rfl⟩)))))
  refine ls_rec (fun (y1 : Int) => [(0, dL c53_d a0), (1, dL c53_d a1), (12, nI (List.length a0 : Int)), (13, nI y1)]) _ _ _ _ hl (okr rfl) (fun _ => rfl) ?_
  rintro m y1 N h hN
  unfold impl_sameRows_B1 at h
  refine rn 1 rfl (ls_seq_k fun K4 hK4 => ?_)
  rcases cond_some h with ⟨g5, h⟩ | ⟨g5, h⟩
  ·refine qT rfl g5 (ls_skip (hK4 _ (ls_seq_k fun K6 hK6 => ls_blk (rn 1 rfl (rd (by kernel_rfl) (sd 2 rfl (?_)))))))
   obtain ⟨e7, g8, h⟩ := ob_some h
   refine ed rfl (qI rfl zc53_d g8 (sd 3 rfl (?_)))
   obtain ⟨e9, g10, h⟩ := ob_some h
   refine ed rfl (qI rfl zc53_d g10 (sd 1 rfl (?_)))
   obtain ⟨v11, g12, h⟩ := ob_some h
   refine ed rfl (qC (qa rfl (erD eci64 _) (qa rfl (erD eci64 _) eran)) (impl_sameInts_s g12) (sd 1 rfl (evdn ?_)))
   rcases cond_some h with ⟨g13, h⟩ | ⟨g13, h⟩
   ·exact qT rfl g13 (rn 1 rfl (ls_ret ((by cases h; cases hr1; exact ⟨.inl rfl, rfl⟩))))
   ·exact qF rfl g13 (ls_skip (hK6 _ (rg (sp 2 rfl (evn (hN _ _ h (okr rfl)))))))
  ·exact qF rfl g5 (ls_exit (kXB1 (Option.some.inj h) _ trivial))
def impl_EqualCounted_J1 (x2 : Bool) : Option (Bool) := some x2
def impl_EqualCounted (a0 : Y75) (a1 : Y75) : Option (Bool) := cond (a0.1 == a1.1) (obind (impl_sameRows a0.2.1 a1.2.1) fun v4 => cond v4 (obind (impl_sameInts a0.2.2 a1.2.2) fun v7 => impl_EqualCounted_J1 v7) (impl_EqualCounted_J1 false)) (impl_EqualCounted_J1 false)
theorem impl_EqualCounted_s {a0 : Y75} {a1 : Y75} {r : Bool} (h : impl_EqualCounted a0 a1 = some r) : SoundAt Tryz.prog 43 [.agg (c76_ddd a0), .agg (c76_ddd a1)] (.bool r) := by
 unfold impl_EqualCounted at h
 refine st lit43 rfl (rn 1 rfl (rk fun K1 hK1 => ?_))
 have kJ1 : ∀ {x2 : Bool}, impl_EqualCounted_J1 x2 = some r → Jn K1 [(4, .bool x2)] := by
  intro x2 h σ' hk
  unfold impl_EqualCounted_J1 at h
  exact hK1 _ (lh hk rfl (ls_ret ((by cases h; exact ⟨.inl rfl, rfl⟩))))
 refine sp 6 rfl (?_)
 rcases cond_some h with ⟨g3, h⟩ | ⟨g3, h⟩
 ·refine qg 10 g3 rfl (sp 4 rfl (?_))
  obtain ⟨v4, g5, h⟩ := ob_some h
  refine oGR rfl rfl (qC (qa rfl (erD ec53_d _) (qa rfl (erD ec53_d _) eran)) (impl_sameRows_s g5) (sp 2 rfl (?_)))
  rcases cond_some h with ⟨g6, h⟩ | ⟨g6, h⟩
  ·refine qg 17 g6 rfl (sp 4 rfl (?_))
   obtain ⟨v7, g8, h⟩ := ob_some h
   exact oGR rfl rfl (qC (qa rfl (erD eci64 _) (qa rfl (erD eci64 _) eran)) (impl_sameInts_s g8) (sp 2 rfl (evn (kJ1 h _ (okr rfl)))))
  ·exact qg 17 g6 rfl (sp 7 rfl (evn (kJ1 h _ (okr rfl))))
 ·exact qg 10 g3 rfl (sp 14 rfl (evn (kJ1 h _ (okr rfl))))
def impl_indexOf_B1 (a0 : List Int) (a1 : Int) (rec : Int → Option (Sum (Unit) (Int))) (y1 : Int) : Option (Sum (Unit) (Int)) := cond (decide (y1 < (List.length a0 : Int))) (obind (geti a0 y1) fun e5 => cond (e5 == a1) (some (.inr y1)) (rec (IntKind.i64.wrap (y1 + 1)))) (some (.inl ()))
def impl_indexOf (a0 : List Int) (a1 : Int) : Option (Int) := obind (loopF (impl_indexOf_B1 a0 a1) fz 0) fun o1 => (match o1 with
  | .inl _ => (some (-1))
  | .inr r => some r)
theorem impl_indexOf_s {a0 : List Int} {a1 : Int} {r : Int} (h : impl_indexOf a0 a1 = some r) : SoundAt Tryz.prog 192 [dL ci64 a0, nI a1] (nI r) := by
 unfold impl_indexOf at h
 refine st lit192 rfl (rn 1 rfl (ls_seq_k fun K1 hK1 => rn 1 rfl ?_))
 obtain ⟨o1, hl, hr1⟩ := ob_some h
 have kXB1 : (.inl ()) = o1 → Jn K1 [] := by
  intro h σ' hk
  subst h
  replace h := hr1
  try dsimp only at h
  exact hK1 _ (lh hk rfl (rn 1 rfl (ls_ret ((by cases h; exact ⟨.inl rfl, rfl⟩)))))
 refine ls_rec (fun (y1 : Int) => [(1, nI a1), (7, dL ci64 a0), (8, nI (List.length a0 : Int)), (9, nI y1)]) _ _ _ _ hl (okr rfl) (fun _ => rfl) ?_
 rintro m y1 N h hN
 unfold impl_indexOf_B1 at h
 refine rn 1 rfl (ls_seq_k fun K2 hK2 => ?_)
 rcases cond_some h with ⟨g3, h⟩ | ⟨g3, h⟩
 ·refine qT rfl g3 (ls_skip (hK2 _ (ls_seq_k fun K4 hK4 => ls_blk (rs (sp 1 rfl (?_))))))
  obtain ⟨e5, g6, h⟩ := ob_some h
  refine qI rfl zci64 g6 (sp 3 rfl (evn (rn 1 rfl ?_)))
  rcases cond_some h with ⟨g7, h⟩ | ⟨g7, h⟩
  ·exact qT rfl g7 (rn 1 rfl (ls_ret ((by cases h; cases hr1; exact ⟨.inl rfl, rfl⟩))))
  ·exact qF rfl g7 (ls_skip (hK4 _ (rg (sp 2 rfl (evn (hN _ _ h (okr rfl)))))))
 ·exact qF rfl g3 (ls_exit (kXB1 (Option.some.inj h) _ trivial))
def impl_hasInt (a0 : List Int) (a1 : Int) : Option (Bool) := obind (impl_indexOf a0 a1) fun v1 => some (decide (0 ≤ v1))
theorem impl_hasInt_s {a0 : List Int} {a1 : Int} {r : Bool} (h : impl_hasInt a0 a1 = some r) : SoundAt Tryz.prog 198 [dL ci64 a0, nI a1] (.bool r) := by
 unfold impl_hasInt at h
 refine st lit198 rfl (rn 1 rfl (rs (sp 2 rfl (?_))))
 obtain ⟨v1, g2, h⟩ := ob_some h
 exact qC (qa rfl (erD eci64 _) (qs rfl eran)) (impl_indexOf_s g2) (sp 2 rfl (evn (ls_ret ((by cases h; exact ⟨.inl rfl, rfl⟩)))))
def impl_isSetOf_B1 (a0 : List Int) (a1 : Int) (rec : Int → Option (Sum (Unit) (Bool))) (y1 : Int) : Option (Sum (Unit) (Bool)) := cond (decide (y1 < (List.length a0 : Int))) (obind (geti a0 y1) fun e5 => obind (impl_within e5 0 (IntKind.i64.wrap (a1 - 1))) fun v7 => cond (!v7) (some (.inr false)) (chk ((0 : Int) ≤ 0 ∧ 0 ≤ y1 ∧ y1 ≤ (List.length a0 : Int)) (obind (impl_hasInt (subl a0 0 y1) e5) fun v11 => cond v11 (some (.inr false)) (rec (IntKind.i64.wrap (y1 + 1)))))) (some (.inl ()))
def impl_isSetOf (a0 : List Int) (a1 : Int) : Option (Bool) := obind (loopF (impl_isSetOf_B1 a0 a1) fz 0) fun o1 => (match o1 with
  | .inl _ => (some true)
  | .inr r => some r)
theorem impl_isSetOf_s {a0 : List Int} {a1 : Int} {r : Bool} (h : impl_isSetOf a0 a1 = some r) : SoundAt Tryz.prog 196 [dL ci64 a0, nI a1] (.bool r) := by
 unfold impl_isSetOf at h
 refine st lit196 rfl (rn 1 rfl (ls_seq_k fun K1 hK1 => rn 1 rfl ?_))
 obtain ⟨o1, hl, hr1⟩ := ob_some h
 have kXB1 : (.inl ()) = o1 → Jn K1 [] := by
  intro h σ' hk
  subst h
  replace h := hr1
  try dsimp only at h
  exact hK1 _ (lh hk rfl (rn 1 rfl (ls_ret ((by cases h; exact ⟨.inl rfl, rfl⟩)))))
 refine ls_rec (fun (y1 : Int) => [(0, dL ci64 a0), (1, nI a1), (7, dL ci64 a0), (8, nI (List.length a0 : Int)), (9, nI y1)]) _ _ _ _ hl (okr rfl) (fun _ => rfl) ?_
 rintro m y1 N h hN
 unfold impl_isSetOf_B1 at h
 refine rn 1 rfl (ls_seq_k fun K2 hK2 => ?_)
 rcases cond_some h with ⟨g3, h⟩ | ⟨g3, h⟩
 ·refine qT rfl g3 (ls_skip (hK2 _ (ls_seq_k fun K4 hK4 => ls_blk (rs (sp 1 rfl (?_))))))
  obtain ⟨e5, g6, h⟩ := ob_some h
  refine qI rfl zci64 g6 (sp 3 rfl (evn (rs (sp 3 rfl (?_)))))
  obtain ⟨v7, g8, h⟩ := ob_some h
  refine qC (qs rfl (qs rfl (qs rfl eran))) (impl_within_s g8) (sp 2 rfl (?_))
  rcases cond_some h with ⟨g9, h⟩ | ⟨g9, h⟩
  ·exact qg 19 g9 rfl (sp 6 rfl (evn (qT rfl rfl (rn 1 rfl (ls_ret ((by cases h; cases hr1; exact ⟨.inl rfl, rfl⟩)))))))
  ·refine qg 19 g9 rfl (sp 2 rfl (?_))
   obtain ⟨g10, h⟩ := chk_some h
   refine oGR rfl rfl (qSl rfl zci64 g10 (sp 1 rfl (?_)))
   obtain ⟨v11, g12, h⟩ := ob_some h
   refine oGR rfl rfl (qC (qa rfl (erD eci64 _) (qs rfl eran)) (impl_hasInt_s g12) (sp 1 rfl (evn (qk [0, 1, 7, 8, 9, 25] rfl ?_))))
   rcases cond_some h with ⟨g13, h⟩ | ⟨g13, h⟩
   ·exact qT rfl g13 (rn 1 rfl (ls_ret ((by cases h; cases hr1; exact ⟨.inl rfl, rfl⟩))))
   ·exact qF rfl g13 (ls_skip (hK4 _ (rg (sp 2 rfl (evn (hN _ _ h (okr rfl)))))))
 ·exact qF rfl g3 (ls_exit (kXB1 (Option.some.inj h) _ trivial))
def impl_IsValidQuery_B2 (a0 : Y54) (e17 : Y147) (rec : ((List Bool) × Int) → Option (Sum ((List Bool)) (Bool))) (s : (List Bool) × Int) : Option (Sum ((List Bool)) (Bool)) := match s with
  | (y7, y8) => cond (decide (y8 < (List.length e17.2 : Int))) (obind (geti e17.2 y8) fun e30 => obind (impl_within e30 0 (IntKind.i64.wrap (a0.1 - 1))) fun v33 => cond (!v33) (some (.inr false)) (obind (geti y7 e30) fun e36 => rec ((seti y7 e30 true), (IntKind.i64.wrap (y8 + 1))))) (some (.inl y7))
def impl_IsValidQuery_B1 (a0 : Y54) (rec : ((List Bool) × Int) → Option (Sum ((List Bool)) (Bool))) (s : (List Bool) × Int) : Option (Sum ((List Bool)) (Bool)) := match s with
  | (y3, y4) => cond (decide (y4 < (List.length a0.2.1 : Int))) (obind (geti a0.2.1 y4) fun e17 => obind (impl_IsValidName e17.1) fun v20 => cond (!v20) (some (.inr false)) (obind (impl_within (List.length e17.2 : Int) 1 5) fun v23 => cond (!v23) (some (.inr false)) (obind (loopF (impl_IsValidQuery_B2 a0 e17) fz (y3, 0)) fun o2 => (match o2 with
  | .inl z26 => (rec (z26, (IntKind.i64.wrap (y4 + 1))))
  | .inr r => some (.inr r))))) (some (.inl y3))
def impl_IsValidQuery_B3 (z13 : List Bool) (rec : Int → Option (Sum (Unit) (Bool))) (y9 : Int) : Option (Sum (Unit) (Bool)) := cond (decide (y9 < (List.length z13 : Int))) (obind (geti z13 y9) fun e42 => cond (!e42) (some (.inr false)) (rec (IntKind.i64.wrap (y9 + 1)))) (some (.inl ()))
def impl_IsValidQuery (a0 : Y54) : Option (Bool) := obind (impl_within a0.1 1 5) fun v2 => cond (!v2) (some false) (obind (impl_within (List.length a0.2.1 : Int) 1 4) fun v5 => cond (!v5) (some false) (obind (impl_isSetOf a0.2.2 a0.1) fun v8 => cond (!v8) (some false) (chk ((0 : Int) ≤ a0.1 ∧ Int.toNat a0.1 ≤ lim) (obind (loopF (impl_IsValidQuery_B1 a0) fz ((List.replicate (Int.toNat a0.1) (false : Bool)), 0)) fun o1 => (match o1 with
  | .inl z13 => (obind (loopF (impl_IsValidQuery_B3 z13) fz 0) fun o3 => (match o3 with
  | .inl _ => (some true)
  | .inr r => some r))
  | .inr r => some r)))))
theorem impl_IsValidQuery_s {a0 : Y54} {r : Bool} (h : impl_IsValidQuery a0 = some r) : SoundAt Tryz.prog 188 [.agg (c55_ddd a0)] (.bool r) := by
 unfold impl_IsValidQuery at h
 refine st lit188 rfl (rn 2 rfl (ls_seq_k fun K1 hK1 => rs (sp 1 rfl (?_))))
 obtain ⟨v2, g3, h⟩ := ob_some h
 refine qC (qs rfl (qs rfl (qs rfl eran))) (impl_within_s g3) (sp 2 rfl (?_))
 rcases cond_some h with ⟨g4, h⟩ | ⟨g4, h⟩
 ·exact qg 16 g4 rfl (sp 13 rfl (evn (qT rfl rfl (rn 1 rfl (ls_ret ((by cases h; exact ⟨.inl rfl, rfl⟩)))))))
 ·refine qg 16 g4 rfl (sp 3 rfl (?_))
  obtain ⟨v5, g6, h⟩ := ob_some h
  refine oGR rfl rfl (qC (qs rfl (qs rfl (qs rfl eran))) (impl_within_s g6) (sp 3 rfl (?_)))
  rcases cond_some h with ⟨g7, h⟩ | ⟨g7, h⟩
  ·exact qg 23 g7 rfl (sp 6 rfl (evn (qk [1, 3, 29] rfl (qT rfl rfl (rn 1 rfl (ls_ret ((by cases h; exact ⟨.inl rfl, rfl⟩))))))))
  ·refine qg 23 g7 rfl (sp 3 rfl (?_))
   obtain ⟨v8, g9, h⟩ := ob_some h
   refine oGR rfl rfl (qC (qa rfl (erD eci64 _) (qs rfl eran)) (impl_isSetOf_s g9) (sp 2 rfl (evn ?_)))
   rcases cond_some h with ⟨g10, h⟩ | ⟨g10, h⟩
   ·exact qT rfl g10 (rn 1 rfl (ls_ret ((by cases h; exact ⟨.inl rfl, rfl⟩))))
   ·refine qF rfl g10 (ls_skip (hK1 _ (rs (sp 1 rfl (?_)))))
    obtain ⟨g11, h⟩ := chk_some h
    refine qMu cbl (false : Bool) rfl rfl rfl rfl g11 rfl (qAu rfl rfl rfl rfl (evn (ls_seq_k fun K12 hK12 => rn 1 rfl ?_)))
    obtain ⟨o1, hl, hr1⟩ := ob_some h
    have kXB1 : ∀ {z13 : List Bool}, (.inl z13) = o1 → Jn K12 [(4, wL 4 cbl z13)] := by
     intro z13 h σ' hk
     subst h
     replace h := hr1
     try dsimp only at h
     refine hK12 _ (lh hk rfl (ls_seq_k fun K38 hK38 => rn 1 rfl ?_))
     obtain ⟨o3, hl, hr3⟩ := ob_some h
     have kXB3 : (.inl ()) = o3 → Jn K38 [] := by
      intro h σ' hk
      subst h
      replace h := hr3
      try dsimp only at h
      exact hK38 _ (lh hk rfl (rn 1 rfl (ls_ret ((by cases h; exact ⟨.inl rfl, rfl⟩)))))
     refine ls_rec (fun (y9 : Int) => [(4, wL 4 cbl z13), (67, .same 4), (68, nI (List.length z13 : Int)), (69, nI y9)]) _ _ _ _ hl (okr rfl) (fun _ => rfl) ?_
     rintro m y9 N h hN
     unfold impl_IsValidQuery_B3 at h
     refine rn 1 rfl (ls_seq_k fun K39 hK39 => ?_)
     rcases cond_some h with ⟨g40, h⟩ | ⟨g40, h⟩
     ·refine qT rfl g40 (ls_skip (hK39 _ (ls_seq_k fun K41 hK41 => ls_blk (rs ?_))))
      obtain ⟨e42, g43, h⟩ := ob_some h
      refine qIu rfl ⟨(geti_some g43).1, (geti_some g43).2.1⟩ (qLu 0 rfl rfl rfl zcbl g43 rfl rfl rfl (sp 1 rfl (evn (rn 1 rfl ?_))))
      rcases cond_some h with ⟨g44, h⟩ | ⟨g44, h⟩
      ·exact qT rfl g44 (rn 1 rfl (ls_ret ((by cases h; cases hr3; exact ⟨.inl rfl, rfl⟩))))
      ·exact qF rfl g44 (ls_skip (hK41 _ (rg (sp 2 rfl (evn (hN _ _ h (okr rfl)))))))
     ·exact qF rfl g40 (ls_exit (kXB3 (Option.some.inj h) _ trivial))
    refine ls_rec (fun (s : (List Bool) × Int) => match s with | (y3, y4) => [(3, nI a0.1), (4, wL 4 cbl y3), (33, dL c148_d a0.2.1), (34, nI (List.length a0.2.1 : Int)), (35, nI y4)]) _ _ _ _ hl (okr rfl) (fun _ => rfl) ?_
    rintro m ⟨y3, y4⟩ N h hN
    unfold impl_IsValidQuery_B1 at h
    dsimp only at h
    refine rn 1 rfl (ls_seq_k fun K14 hK14 => ?_)
    rcases cond_some h with ⟨g15, h⟩ | ⟨g15, h⟩
    ·refine qT rfl g15 (ls_skip (hK14 _ (ls_seq_k fun K16 hK16 => ls_blk (rs ?_))))
     obtain ⟨e17, g18, h⟩ := ob_some h
     refine qI rfl zc148_d g18 (sp 3 rfl (evn (ls_seq_k fun K19 hK19 => rs (sp 2 rfl (?_)))))
     obtain ⟨v20, g21, h⟩ := ob_some h
     refine qC (qs rfl eran) (impl_IsValidName_s g21) (sp 2 rfl (?_))
     rcases cond_some h with ⟨g22, h⟩ | ⟨g22, h⟩
     ·exact qg 43 g22 rfl (sp 6 rfl (evn (qT rfl rfl (rn 1 rfl (ls_ret ((by cases h; cases hr1; exact ⟨.inl rfl, rfl⟩)))))))
     ·refine qg 43 g22 rfl (sp 3 rfl (?_))
      obtain ⟨v23, g24, h⟩ := ob_some h
      refine oGR rfl rfl (qC (qs rfl (qs rfl (qs rfl eran))) (impl_within_s g24) (sp 2 rfl (evn (qk [3, 4, 6, 33, 34, 35, 49] rfl ?_))))
      rcases cond_some h with ⟨g25, h⟩ | ⟨g25, h⟩
      ·exact qT rfl g25 (rn 1 rfl (ls_ret ((by cases h; cases hr1; exact ⟨.inl rfl, rfl⟩))))
      ·refine qF rfl g25 (ls_skip (hK19 _ (rn 1 rfl ?_)))
       obtain ⟨o2, hl, hr2⟩ := ob_some h
       have kXB2 : ∀ {z26 : List Bool}, (.inl z26) = o2 → Jn K16 [(3, nI a0.1), (4, wL 4 cbl z26), (33, dL c148_d a0.2.1), (34, nI (List.length a0.2.1 : Int)), (35, nI y4)] := by
        intro z26 h σ' hk
        subst h
        replace h := hr2
        try dsimp only at h
        exact hK16 _ (lh hk rfl (rg (sp 2 rfl (evn (hN _ _ h (okr rfl))))))
       refine ls_rec (fun (s : (List Bool) × Int) => match s with | (y7, y8) => [(3, nI a0.1), (4, wL 4 cbl y7), (33, dL c148_d a0.2.1), (34, nI (List.length a0.2.1 : Int)), (35, nI y4), (51, dL ci64 e17.2), (52, nI (List.length e17.2 : Int)), (53, nI y8)]) _ _ _ _ hl (okr rfl) (fun _ => rfl) ?_
       rintro m ⟨y7, y8⟩ N h hN
       unfold impl_IsValidQuery_B2 at h
       dsimp only at h
       refine rn 1 rfl (ls_seq_k fun K27 hK27 => ?_)
       rcases cond_some h with ⟨g28, h⟩ | ⟨g28, h⟩
       ·refine qT rfl g28 (ls_skip (hK27 _ (ls_seq_k fun K29 hK29 => ls_blk (rs ?_))))
        obtain ⟨e30, g31, h⟩ := ob_some h
        refine qI rfl zci64 g31 (sp 2 rfl (evn (ls_seq_k fun K32 hK32 => rs (sp 3 rfl (?_)))))
        obtain ⟨v33, g34, h⟩ := ob_some h
        refine qC (qs rfl (qs rfl (qs rfl eran))) (impl_within_s g34) (sp 1 rfl (evn ?_))
        rcases cond_some h with ⟨g35, h⟩ | ⟨g35, h⟩
        ·exact qT rfl g35 (rn 1 rfl (ls_ret ((by cases h; cases hr2; cases hr1; exact ⟨.inl rfl, rfl⟩))))
        ·refine qF rfl g35 (ls_skip (hK32 _ (rg (sp 2 rfl (?_)))))
         obtain ⟨e36, g37, h⟩ := ob_some h
         exact qIu rfl ⟨(geti_some g37).1, (geti_some g37).2.1⟩ (qSu true rfl rfl zcbl ⟨(geti_some g37).1, (geti_some g37).2.1⟩ rfl rfl rfl rfl rfl rfl (evn (hK29 _ (rg (sp 2 rfl (evn (hN _ _ h (okr rfl))))))))
       ·exact qF rfl g28 (ls_exit (kXB2 (Option.some.inj h) _ (okr rfl)))
    ·exact qF rfl g15 (ls_exit (kXB1 (Option.some.inj h) _ (okr rfl)))
def impl_copyInts (a0 : List Int) : Option ((List Int)) := chk (List.length ([] : List Int) + List.length a0 ≤ lim) (some (([] : List Int) ++ a0))
theorem impl_copyInts_s {a0 : List Int} {r : (List Int)} (h : impl_copyInts a0 = some r) : SoundAt Tryz.prog 122 [dL ci64 a0] (oL 3 ci64 r) := by
 unfold impl_copyInts at h
 refine st lit122 rfl (rn 1 rfl (rs (qBs ci64 [] rfl rfl rfl zci64 (sp 1 rfl (?_)))))
 obtain ⟨g1, h⟩ := chk_some h
 exact qA ci64 ([] : List Int) a0 rfl rfl (flat_len zci64 a0) (map_dg (fun _ => rfl) _) g1 (sp 1 rfl (evn (ls_ret ((by cases h; exact ⟨.inl rfl, rfl⟩)))))
def impl_copyRows_B1 (a0 : List (List Int)) (rec : ((List (List Int)) × Int) → Option ((List (List Int)))) (s : (List (List Int)) × Int) : Option ((List (List Int))) := match s with
  | (y1, y2) => cond (decide (y2 < (List.length a0 : Int))) (obind (geti a0 y2) fun e6 => obind (impl_copyInts e6) fun v8 => chk (List.length y1 + List.length [v8] ≤ lim) (rec ((y1 ++ [v8]), (IntKind.i64.wrap (y2 + 1))))) (some y1)
def impl_copyRows (a0 : List (List Int)) : Option ((List (List Int))) := obind (loopF (impl_copyRows_B1 a0) fz (([] : List (List Int)), 0)) fun z2 => some z2
theorem impl_copyRows_s {a0 : List (List Int)} {r : (List (List Int))} (h : impl_copyRows a0 = some r) : SoundAt Tryz.prog 121 [dL c53_d a0] (oL 53 c53_o r) := by
 unfold impl_copyRows at h
 refine st lit121 rfl (rn 2 rfl (ls_seq_k fun K1 hK1 => rn 1 rfl ?_))
 obtain ⟨o1, hl, hr1⟩ := ob_some h
 have kXB1 : ∀ {z2 : List (List Int)}, z2 = o1 → Jn K1 [(3, oL 53 c53_o z2)] := by
  intro z2 h σ' hk
  subst h
  replace h := hr1
  try dsimp only at h
  exact hK1 _ (lh hk rfl (rn 1 rfl (ls_ret ((by cases h; exact ⟨.inl rfl, rfl⟩)))))
 refine ls_rec (fun (s : (List (List Int)) × Int) => match s with | (y1, y2) => [(3, oL 53 c53_o y1), (6, dL c53_d a0), (7, nI (List.length a0 : Int)), (8, nI y2)]) _ _ _ _ hl (okr rfl) (fun _ => rfl) ?_
 rintro m ⟨y1, y2⟩ N h hN
 unfold impl_copyRows_B1 at h
 dsimp only at h
 refine rn 1 rfl (ls_seq_k fun K3 hK3 => ?_)
 rcases cond_some h with ⟨g4, h⟩ | ⟨g4, h⟩
 ·refine qT rfl g4 (ls_skip (hK3 _ (ls_seq_k fun K5 hK5 => ls_blk (rs ?_))))
  obtain ⟨e6, g7, h⟩ := ob_some h
  refine qI rfl zc53_d g7 (sp 2 rfl (evn (rg (sp 2 rfl (?_)))))
  obtain ⟨v8, g9, h⟩ := ob_some h
  refine qC (qa rfl (erD eci64 _) eran) (impl_copyInts_s g9) (qBs c53_o [v8] rfl rfl rfl zc53_o (?_))
  obtain ⟨g10, h⟩ := chk_some h
  exact qA c53_o y1 [v8] rfl rfl (flat_len zc53_o [v8]) rfl g10 (sp 1 rfl (evn (hK5 _ (rg (sp 2 rfl (evn (hN _ _ h (okr rfl))))))))
 ·exact qF rfl g4 (ls_exit (kXB1 (Option.some.inj h) _ (okr rfl)))
def impl_copyRelation (a0 : Y42) : Option (Y42) := obind (impl_copyRows a0.2) fun v1 => some (a0.1, v1)
theorem impl_copyRelation_s {a0 : Y42} {r : Y42} (h : impl_copyRelation a0 = some r) : SoundAt Tryz.prog 132 [.agg (c43_dd a0)] (.agg (c43_oo r)) := by
 unfold impl_copyRelation at h
 refine st lit132 rfl (rn 1 rfl (rd (by kernel_rfl) (sd 4 rfl (?_))))
 obtain ⟨v1, g2, h⟩ := ob_some h
 exact ed rfl (qC (qa rfl (erD ec53_d _) eran) (impl_copyRows_s g2) (sd 2 rfl (evdn (ls_ret ((by cases h; exact ⟨.inl rfl, rfl⟩))))))
def impl_LookupRelation_J1  : Option (Y42 × Bool) := some ((0, []), false)
def impl_LookupRelation_B2 (a0 : List Y119) (a1 : List UInt8) (rec : Int → Option (Sum (Unit) (Y42 × Bool))) (y2 : Int) : Option (Sum (Unit) (Y42 × Bool)) := cond (decide (y2 < (List.length a0 : Int))) (obind (geti a0 y2) fun e8 => cond (e8.1 == a1) (obind (impl_copyRelation e8.2) fun v11 => some (.inr (v11, true))) (rec (IntKind.i64.wrap (y2 + 1)))) (some (.inl ()))
def impl_LookupRelation (a0 : List Y119) (a1 : List UInt8) : Option (Y42 × Bool) := obind (impl_IsValidDatabase a0) fun v2 => cond v2 (obind (loopF (impl_LookupRelation_B2 a0 a1) fz 0) fun o2 => (match o2 with
  | .inl _ => (impl_LookupRelation_J1 )
  | .inr r => some r)) (impl_LookupRelation_J1 )
theorem impl_LookupRelation_s {a0 : List Y119} {a1 : List UInt8} {r : Y42 × Bool} (h : impl_LookupRelation a0 a1 = some r) : SoundAt Tryz.prog 189 [.agg [dL c120_dd a0], .str a1] (.tup [.agg (c43_oo r.1), .bool r.2]) := by
 unfold impl_LookupRelation at h
 refine st lit189 rfl (rn 1 rfl (ls_seq_k fun K1 hK1 => rs (sp 1 rfl (?_))))
 obtain ⟨v2, g3, h⟩ := ob_some h
 refine qC (qa rfl (erg (erc (erD ec120_dd _) rfl)) eran) (impl_IsValidDatabase_s g3) (evn ?_)
 have kJ1 : impl_LookupRelation_J1 = some r → Jn K1 [(4, .box [nI 0, oL 53 c53_o []])] := by
  intro h σ' hk
  unfold impl_LookupRelation_J1 at h
  exact hK1 _ (lh hk rfl (rn 1 rfl (ls_ret ((by cases h; exact ⟨.inl rfl, rfl⟩)))))
 rcases cond_some h with ⟨g4, h⟩ | ⟨g4, h⟩
 ·refine qT rfl g4 (rn 1 rfl ?_)
  obtain ⟨o2, hl, hr2⟩ := ob_some h
  have kXB2 : (.inl ()) = o2 → Jn K1 [(4, .box [nI 0, oL 53 c53_o []])] := by
   intro h σ' hk
   subst h
   replace h := hr2
   try dsimp only at h
   exact kJ1 h _ ⟨hk.1, trivial⟩
  refine ls_rec (fun (y2 : Int) => [(1, .str a1), (4, .box [nI 0, oL 53 c53_o []]), (11, dL c120_dd a0), (12, nI (List.length a0 : Int)), (13, nI y2)]) _ _ _ _ hl (okr rfl) (fun _ => rfl) ?_
  rintro m y2 N h hN
  unfold impl_LookupRelation_B2 at h
  refine rn 1 rfl (ls_seq_k fun K5 hK5 => ?_)
  rcases cond_some h with ⟨g6, h⟩ | ⟨g6, h⟩
  ·refine qT rfl g6 (ls_skip (hK5 _ (ls_seq_k fun K7 hK7 => ls_blk (rs ?_))))
   obtain ⟨e8, g9, h⟩ := ob_some h
   refine qI rfl zc120_dd g9 (sp 3 rfl (evn (rn 1 rfl ?_)))
   rcases cond_some h with ⟨g10, h⟩ | ⟨g10, h⟩
   ·refine qT rfl g10 (rs (sp 2 rfl (?_)))
    obtain ⟨v11, g12, h⟩ := ob_some h
    exact qC (qa rfl (erg (erc rfl (erc (erD ec53_d _) rfl))) eran) (impl_copyRelation_s g12) (sp 2 rfl (evn (ls_ret ((by cases h; cases hr2; exact ⟨.inl rfl, rfl⟩)))))
   ·exact qF rfl g10 (ls_skip (hK7 _ (rg (sp 2 rfl (evn (hN _ _ h (okr rfl)))))))
  ·exact qF rfl g6 (ls_exit (kXB2 (Option.some.inj h) _ (okr rfl)))
 ·exact qF rfl g4 (ls_skip (kJ1 h _ (okr rfl)))
def impl_IsQueryFor_B1 (a0 : List Y119) (a1 : Y54) (rec : Int → Option (Sum (Unit) (Bool))) (y1 : Int) : Option (Sum (Unit) (Bool)) := cond (decide (y1 < (List.length a1.2.1 : Int))) (obind (geti a1.2.1 y1) fun e12 => obind (impl_LookupRelation a0 e12.1) fun v14 => cond (!v14.2) (some (.inr false)) (cond (v14.1.1 != (List.length e12.2 : Int)) (some (.inr false)) (rec (IntKind.i64.wrap (y1 + 1))))) (some (.inl ()))
def impl_IsQueryFor (a0 : List Y119) (a1 : Y54) : Option (Bool) := obind (impl_IsValidQuery a1) fun v2 => cond (!v2) (some false) (obind (impl_IsValidDatabase a0) fun v5 => cond (!v5) (some false) (obind (loopF (impl_IsQueryFor_B1 a0 a1) fz 0) fun o1 => (match o1 with
  | .inl _ => (some true)
  | .inr r => some r)))
theorem impl_IsQueryFor_s {a0 : List Y119} {a1 : Y54} {r : Bool} (h : impl_IsQueryFor a0 a1 = some r) : SoundAt Tryz.prog 164 [.agg [dL c120_dd a0], .agg (c55_ddd a1)] (.bool r) := by
 unfold impl_IsQueryFor at h
 refine st lit164 rfl (rn 1 rfl (ls_seq_k fun K1 hK1 => rs (sp 1 rfl (?_))))
 obtain ⟨v2, g3, h⟩ := ob_some h
 refine qC (qa rfl (erg (erc rfl (erc (erD ec148_d _) (erc (erD eci64 _) rfl)))) eran) (impl_IsValidQuery_s g3) (sp 2 rfl (?_))
 rcases cond_some h with ⟨g4, h⟩ | ⟨g4, h⟩
 ·exact qg 12 g4 rfl (sp 4 rfl (evn (qT rfl rfl (rn 1 rfl (ls_ret ((by cases h; exact ⟨.inl rfl, rfl⟩)))))))
 ·refine qg 12 g4 rfl (sp 1 rfl (?_))
  obtain ⟨v5, g6, h⟩ := ob_some h
  refine oGR rfl rfl (qC (qa rfl (erg (erc (erD ec120_dd _) rfl)) eran) (impl_IsValidDatabase_s g6) (sp 2 rfl (evn ?_)))
  rcases cond_some h with ⟨g7, h⟩ | ⟨g7, h⟩
  ·exact qT rfl g7 (rn 1 rfl (ls_ret ((by cases h; exact ⟨.inl rfl, rfl⟩))))
  ·refine qF rfl g7 (ls_skip (hK1 _ (ls_seq_k fun K8 hK8 => rn 1 rfl (qk [2, 18, 19, 20] rfl ?_))))
   obtain ⟨o1, hl, hr1⟩ := ob_some h
   have kXB1 : (.inl ()) = o1 → Jn K8 [] := by
    intro h σ' hk
    subst h
    replace h := hr1
    try dsimp only at h
    exact hK8 _ (lh hk rfl (rn 1 rfl (ls_ret ((by cases h; exact ⟨.inl rfl, rfl⟩)))))
   refine ls_rec (fun (y1 : Int) => [(2, .box [dL c120_dd a0]), (18, dL c148_d a1.2.1), (19, nI (List.length a1.2.1 : Int)), (20, nI y1)]) _ _ _ _ hl (okr rfl) (fun _ => rfl) ?_
   rintro m y1 N h hN
   unfold impl_IsQueryFor_B1 at h
   refine rn 1 rfl (ls_seq_k fun K9 hK9 => ?_)
   rcases cond_some h with ⟨g10, h⟩ | ⟨g10, h⟩
   ·refine qT rfl g10 (ls_skip (hK9 _ (ls_seq_k fun K11 hK11 => ls_blk (rs ?_))))
    obtain ⟨e12, g13, h⟩ := ob_some h
    refine qI rfl zc148_d g13 (sp 3 rfl (evn (rs (sp 3 rfl (?_)))))
    obtain ⟨v14, g15, h⟩ := ob_some h
    refine qC (qa rfl (erg (erc (erD ec120_dd _) rfl)) (qs rfl eran)) (impl_LookupRelation_s g15) (sp 6 rfl (evn (rs (sp 3 rfl (?_)))))
    rcases cond_some h with ⟨g16, h⟩ | ⟨g16, h⟩
    ·exact qg 33 g16 rfl (sp 7 rfl (evn (qT rfl rfl (rn 1 rfl (qk [4] rfl (ls_ret ((by cases h; cases hr1; exact ⟨.inl rfl, rfl⟩))))))))
    ·refine qg 33 g16 rfl (sp 7 rfl (evn ?_))
     rcases cond_some h with ⟨g17, h⟩ | ⟨g17, h⟩
     ·exact qT rfl g17 (rn 1 rfl (ls_ret ((by cases h; cases hr1; exact ⟨.inl rfl, rfl⟩))))
     ·exact qF rfl g17 (ls_skip (hK11 _ (rg (sp 2 rfl (evn (hN _ _ h (okr rfl)))))))
   ·exact qF rfl g10 (ls_exit (kXB1 (Option.some.inj h) _ trivial))
def impl_ContainsVariable (a0 : Y147) (a1 : Int) : Option (Bool) := obind (impl_hasInt a0.2 a1) fun v1 => some v1
theorem impl_ContainsVariable_s {a0 : Y147} {a1 : Int} {r : Bool} (h : impl_ContainsVariable a0 a1 = some r) : SoundAt Tryz.prog 197 [.agg (c148_d a0), nI a1] (.bool r) := by
 unfold impl_ContainsVariable at h
 refine st lit197 rfl (rn 1 rfl (rs (sp 3 rfl (?_))))
 obtain ⟨v1, g2, h⟩ := ob_some h
 exact qC (qa rfl (erD eci64 _) (qs rfl eran)) (impl_hasInt_s g2) (sp 1 rfl (evn (ls_ret ((by cases h; exact ⟨.inl rfl, rfl⟩)))))
def impl_AtomVariables_J2 (rec : ((List Int) × Int) → Option ((List Int))) (y2 : Int) (x8 : List Int) : Option ((List Int)) := rec (x8, (IntKind.i64.wrap (y2 + 1)))
def impl_AtomVariables_B1 (a0 : Y147) (rec : ((List Int) × Int) → Option ((List Int))) (s : (List Int) × Int) : Option ((List Int)) := match s with
  | (y1, y2) => cond (decide (y2 < 5)) (obind (impl_ContainsVariable a0 y2) fun v6 => cond v6 (chk (List.length y1 + List.length [y2] ≤ lim) (impl_AtomVariables_J2 rec y2 (y1 ++ [y2]))) (impl_AtomVariables_J2 rec y2 y1)) (some y1)
def impl_AtomVariables (a0 : Y147) : Option ((List Int)) := obind (loopF (impl_AtomVariables_B1 a0) fz (([] : List Int), 0)) fun z2 => some z2
theorem impl_AtomVariables_s {a0 : Y147} {r : (List Int)} (h : impl_AtomVariables a0 = some r) : SoundAt Tryz.prog 190 [.agg (c148_d a0)] (oL 3 ci64 r) := by
 unfold impl_AtomVariables at h
 refine st lit190 rfl (rn 2 rfl (ls_seq_k fun K1 hK1 => rn 1 rfl ?_))
 obtain ⟨o1, hl, hr1⟩ := ob_some h
 have kXB1 : ∀ {z2 : List Int}, z2 = o1 → Jn K1 [(3, oL 3 ci64 z2)] := by
  intro z2 h σ' hk
  subst h
  replace h := hr1
  try dsimp only at h
  exact hK1 _ (lh hk rfl (rn 1 rfl (ls_ret ((by cases h; exact ⟨.inl rfl, rfl⟩)))))
 refine ls_rec (fun (s : (List Int) × Int) => match s with | (y1, y2) => [(1, .box [.str a0.1, dL ci64 a0.2]), (3, oL 3 ci64 y1), (4, nI y2)]) _ _ _ _ hl (okr rfl) (fun _ => rfl) ?_
 rintro m ⟨y1, y2⟩ N h hN
 unfold impl_AtomVariables_B1 at h
 dsimp only at h
 refine ls_seq_k fun K3 hK3 => rn 1 rfl ?_
 rcases cond_some h with ⟨g4, h⟩ | ⟨g4, h⟩
 ·refine qT rfl g4 (ls_skip (hK3 _ (ls_seq_k fun K5 hK5 => ls_blk (rs (sp 2 rfl (?_))))))
  obtain ⟨v6, g7, h⟩ := ob_some h
  refine qC (qa rfl (erg (erc rfl (erc (erD eci64 _) rfl))) (qs rfl eran)) (impl_ContainsVariable_s g7) (evn ?_)
  have kJ2 : ∀ {x8 : List Int}, impl_AtomVariables_J2 (loopF (impl_AtomVariables_B1 a0) m) y2 x8 = some o1 → Jn K5 [(1, .box [.str a0.1, dL ci64 a0.2]), (3, oL 3 ci64 x8), (4, nI y2)] := by
   intro x8 h σ' hk
   unfold impl_AtomVariables_J2 at h
   exact hK5 _ (lh hk rfl (rg (sp 3 rfl (evn (hN _ _ h (okr rfl))))))
  rcases cond_some h with ⟨g9, h⟩ | ⟨g9, h⟩
  ·refine qT rfl g9 (rg (sp 2 rfl (qBs ci64 [y2] rfl rfl rfl zci64 (?_))))
   obtain ⟨g10, h⟩ := chk_some h
   exact qA ci64 y1 [y2] rfl rfl (flat_len zci64 [y2]) rfl g10 (sp 1 rfl (evn (kJ2 h _ (okr rfl))))
  ·exact qF rfl g9 (ls_skip (kJ2 h _ (okr rfl)))
 ·exact qF rfl g4 (ls_exit (kXB1 (Option.some.inj h) _ (okr rfl)))
def impl_sorted_J5 (rec : ((List (Nat × (List Int))) × (List (Nat × (List Int))) × (List (Nat × (List Int)))) → Option ((List (Nat × (List Int))))) (y2 : List (Nat × (List Int))) (x20 : List (Nat × (List Int))) (x24 : List (Nat × (List Int))) : Option ((List (Nat × (List Int)))) := chk ((0 : Int) ≤ 1 ∧ 1 ≤ (List.length y2 : Int) ∧ (List.length y2 : Int) ≤ (List.length y2 : Int)) (rec (x20, (subl y2 1 (List.length y2 : Int)), x24))
def impl_sorted_J4 (rec : ((List (Nat × (List Int))) × (List (Nat × (List Int))) × (List (Nat × (List Int)))) → Option ((List (Nat × (List Int))))) (y2 : List (Nat × (List Int))) (x18 : Int) (x20 : List (Nat × (List Int))) (x21 : List (Nat × (List Int))) : Option ((List (Nat × (List Int)))) := cond (decide (0 ≤ x18)) (cond (decide (0 < x18)) (obind (geti y2 0) fun e27 => chk (List.length x21 + List.length [e27] ≤ lim) (impl_sorted_J5 rec y2 x20 (x21 ++ [e27]))) (impl_sorted_J5 rec y2 x20 x21)) (rec (x20, y2, x21))
def impl_sorted_J3 (rec : ((List (Nat × (List Int))) × (List (Nat × (List Int))) × (List (Nat × (List Int)))) → Option ((List (Nat × (List Int))))) (y1 : List (Nat × (List Int))) (y2 : List (Nat × (List Int))) (y3 : List (Nat × (List Int))) (x18 : Int) : Option ((List (Nat × (List Int)))) := cond (decide (x18 ≤ 0)) (obind (geti y1 0) fun e31 => chk (List.length y3 + List.length [e31] ≤ lim) (chk ((0 : Int) ≤ 1 ∧ 1 ≤ (List.length y1 : Int) ∧ (List.length y1 : Int) ≤ (List.length y1 : Int)) (impl_sorted_J4 rec y2 x18 (subl y1 1 (List.length y1 : Int)) (y3 ++ [e31])))) (impl_sorted_J4 rec y2 x18 y1 y3)
def impl_sorted_J2 (rec : ((List (Nat × (List Int))) × (List (Nat × (List Int))) × (List (Nat × (List Int)))) → Option ((List (Nat × (List Int))))) (y1 : List (Nat × (List Int))) (y2 : List (Nat × (List Int))) (y3 : List (Nat × (List Int))) (x15 : Bool) : Option ((List (Nat × (List Int)))) := cond x15 (cond ((List.length y1 : Int) == 0) (impl_sorted_J3 rec y1 y2 y3 1) (cond (decide (0 < (List.length y2 : Int))) (obind (geti y1 0) fun e37 => obind (geti y2 0) fun e39 => obind (impl_CompareRows e37.2 e39.2) fun v41 => impl_sorted_J3 rec y1 y2 y3 v41) (impl_sorted_J3 rec y1 y2 y3 (-1)))) (some y3)
def impl_sorted_B1  (rec : ((List (Nat × (List Int))) × (List (Nat × (List Int))) × (List (Nat × (List Int)))) → Option ((List (Nat × (List Int))))) (s : (List (Nat × (List Int))) × (List (Nat × (List Int))) × (List (Nat × (List Int)))) : Option ((List (Nat × (List Int)))) := match s with
  | (y1, y2, y3) => cond (decide (0 < (List.length y1 : Int))) (impl_sorted_J2 rec y1 y2 y3 true) (impl_sorted_J2 rec y1 y2 y3 (decide (0 < (List.length y2 : Int))))
def impl_sorted_R (rec : ((List (List Int))) → Option ((List (List Int)))) (a0 : (List (List Int))) : Option ((List (List Int))) := cond (decide ((List.length a0 : Int) < 2)) (obind (impl_copyRows a0) fun v3 => some v3) (chk ((0 : Int) ≤ 0 ∧ 0 ≤ IntKind.i64.wrap (Int.tdiv (List.length a0 : Int) 2) ∧ IntKind.i64.wrap (Int.tdiv (List.length a0 : Int) 2) ≤ (List.length a0 : Int)) (obind (rec (subl a0 0 (IntKind.i64.wrap (Int.tdiv (List.length a0 : Int) 2)))) fun v6 => chk ((0 : Int) ≤ IntKind.i64.wrap (Int.tdiv (List.length a0 : Int) 2) ∧ IntKind.i64.wrap (Int.tdiv (List.length a0 : Int) 2) ≤ (List.length a0 : Int) ∧ (List.length a0 : Int) ≤ (List.length a0 : Int)) (obind (rec (subl a0 (IntKind.i64.wrap (Int.tdiv (List.length a0 : Int) 2)) (List.length a0 : Int))) fun v9 => obind (loopF impl_sorted_B1 fz ((enumP 0 v6), (enumP (List.length v6) v9), ([] : List (Nat × (List Int))))) fun z12 => chk (okJ (v6 ++ v9) (List.map Sum.inl z12) [] = true) (some (List.map getM (List.map Sum.inl z12))))))
def impl_sorted (a0 : List (List Int)) : Option ((List (List Int))) := loopF impl_sorted_R fz a0
theorem impl_sorted_s {a0 : List (List Int)} {r : (List (List Int))} (h : impl_sorted a0 = some r) : SoundAt Tryz.prog 168 [dL c53_d a0] (oL 53 c53_o r) := by
 suffices key : ∀ mF (a0 : List (List Int)) (r : (List (List Int))), loopF impl_sorted_R mF a0 = some r → SoundAt Tryz.prog 168 [dL c53_d a0] (oL 53 c53_o r) from key fz a0 r h
 intro mF
 induction mF with
 | zero => intro a0 r h; cases h
 | succ mF ih0 =>
  intro a0 r h
  have ih : ∀ {a0 : List (List Int)} {r : (List (List Int))}, loopF impl_sorted_R mF a0 = some r → SoundAt Tryz.prog 168 [dL c53_d a0] (oL 53 c53_o r) := fun h => ih0 _ _ h
  change impl_sorted_R (loopF impl_sorted_R mF) a0 = some r at h
  unfold impl_sorted_R at h
  try dsimp only at h
  refine st lit168 rfl (rn 1 rfl (ls_seq_k fun K1 hK1 => rn 1 rfl ?_))
  rcases cond_some h with ⟨g2, h⟩ | ⟨g2, h⟩
  ·refine qT rfl g2 (rs (sp 1 rfl (?_)))
   obtain ⟨v3, g4, h⟩ := ob_some h
   exact qC (qa rfl (erD ec53_d _) eran) (impl_copyRows_s g4) (sp 1 rfl (evn (ls_ret ((by cases h; exact ⟨.inl rfl, rfl⟩)))))
  ·refine qF rfl g2 (ls_skip (hK1 _ (rn 1 rfl (rd (by kernel_rfl) (sd 2 rfl (?_))))))
   obtain ⟨g5, h⟩ := chk_some h
   refine ed rfl (qSl rfl zc53_d g5 (?_))
   obtain ⟨v6, g7, h⟩ := ob_some h
   refine ed rfl (qC (qa rfl (erD ec53_d _) eran) (ih g7) (sd 2 rfl (?_)))
   obtain ⟨g8, h⟩ := chk_some h
   refine ed rfl (qSl rfl zc53_d g8 (?_))
   obtain ⟨v9, g10, h⟩ := ob_some h
   refine ed rfl (qC (qa rfl (erD ec53_d _) eran) (ih g10) (sd 2 rfl (evdn (qk [4, 5] rfl (ls_split2 (f := c53_o) (s1 := 4) (s2 := 5) (g1 := 900001) (g2 := 900002) rfl rfl rfl rfl ⟨by decide, by decide, by decide, by decide, by decide, by decide⟩ (split_own (fun _ => rfl)) (split_own (fun _ => rfl)) (fun _ => rfl) (fun _ => rfl) (fun _ => rfl) (fun _ => rfl) ?_)))))
   intro U us1 us2 hu1 hu2 hU
   refine kp [(4, oL 53 (pE c53_o U) (enumP 0 v6)), (5, oL 53 (pE c53_o U) (enumP (List.length v6) v9)), (900001, .gh us1 (List.map (fun x => tokC (c53_o x)) v6)), (900002, .gh us2 (List.map (fun x => tokC (c53_o x)) v9))] rfl rfl (rn 1 rfl (ls_seq_k fun K11 hK11 => ?_))
   obtain ⟨o1, hl, hr1⟩ := ob_some h
   have kXB1 : ∀ {z12 : List (Nat × (List Int))}, z12 = o1 → Jn K11 [(6, oL 53 (pE c53_o U) z12), (900001, .gh us1 (List.map (fun x => tokC (c53_o x)) v6)), (900002, .gh us2 (List.map (fun x => tokC (c53_o x)) v9))] := by
    intro z12 h σ' hk
    subst h
    replace h := hr1
    try dsimp only at h
    refine hK11 _ (lh hk rfl (qk [6, 900001, 900002] rfl ?_))
    obtain ⟨g44, h⟩ := chk_some h
    exact ls_merge (g1 := 900001) (g2 := 900002) rfl rfl (by decide) (ls_join1 (f := c53_o) (s := 6) (q := 900001) (l := v6 ++ v9) (U := U) (L := List.map Sum.inl z12) own_inl rfl List.map_append.symm (by decide) (join_own (fun _ => rfl)) hU g44 rfl rfl (kp [(6, oL 53 c53_o (List.map getM (List.map Sum.inl z12)))] rfl rfl (rn 1 rfl (ls_ret ((by cases h; exact ⟨.inl rfl, rfl⟩))))))
   refine ls_rec (fun (s : (List (Nat × (List Int))) × (List (Nat × (List Int))) × (List (Nat × (List Int)))) => match s with | (y1, y2, y3) => [(4, dL (pE c53_o U) y1), (5, dL (pE c53_o U) y2), (6, oL 53 (pE c53_o U) y3), (900001, .gh us1 (List.map (fun x => tokC (c53_o x)) v6)), (900002, .gh us2 (List.map (fun x => tokC (c53_o x)) v9))]) _ _ _ _ hl ⟨(kd rfl rfl), (kd rfl rfl), kr, kr, kr, trivial⟩ (fun _ => rfl) ?_
   rintro m ⟨y1, y2, y3⟩ N h hN
   unfold impl_sorted_B1 at h
   dsimp only at h
   refine ls_seq_k fun K13 hK13 => rk fun K14 hK14 => ?_
   have kJ2 : ∀ {x15 : Bool}, impl_sorted_J2 (loopF impl_sorted_B1 m) y1 y2 y3 x15 = some o1 → Jn K14 [(4, dL (pE c53_o U) y1), (5, dL (pE c53_o U) y2), (6, oL 53 (pE c53_o U) y3), (31, .bool x15), (900001, .gh us1 (List.map (fun x => tokC (c53_o x)) v6)), (900002, .gh us2 (List.map (fun x => tokC (c53_o x)) v9))] := by
    intro x15 h σ' hk
    unfold impl_sorted_J2 at h
    refine hK14 _ (lh hk rfl ?_)
    rcases cond_some h with ⟨g16, h⟩ | ⟨g16, h⟩
    ·refine qT rfl g16 (ls_skip (hK13 _ (ls_blk (rn 1 rfl (ls_seq_k fun K17 hK17 => rn 1 rfl ?_)))))
     have kJ3 : ∀ {x18 : Int}, impl_sorted_J3 (loopF impl_sorted_B1 m) y1 y2 y3 x18 = some o1 → Jn K17 [(4, dL (pE c53_o U) y1), (5, dL (pE c53_o U) y2), (6, oL 53 (pE c53_o U) y3), (7, nI x18), (900001, .gh us1 (List.map (fun x => tokC (c53_o x)) v6)), (900002, .gh us2 (List.map (fun x => tokC (c53_o x)) v9))] := by
      intro x18 h σ' hk
      unfold impl_sorted_J3 at h
      refine hK17 _ (lh hk rfl (ls_seq_k fun K19 hK19 => rn 1 rfl ?_))
      have kJ4 : ∀ {x20 : List (Nat × (List Int))} {x21 : List (Nat × (List Int))}, impl_sorted_J4 (loopF impl_sorted_B1 m) y2 x18 x20 x21 = some o1 → Jn K19 [(4, dL (pE c53_o U) x20), (5, dL (pE c53_o U) y2), (6, oL 53 (pE c53_o U) x21), (7, nI x18), (900001, .gh us1 (List.map (fun x => tokC (c53_o x)) v6)), (900002, .gh us2 (List.map (fun x => tokC (c53_o x)) v9))] := by
       intro x20 x21 h σ' hk
       unfold impl_sorted_J4 at h
       refine hK19 _ (lh hk rfl (rn 1 rfl ?_))
       rcases cond_some h with ⟨g22, h⟩ | ⟨g22, h⟩
       ·refine qT rfl g22 (ls_seq_k fun K23 hK23 => rn 1 rfl ?_)
        have kJ5 : ∀ {x24 : List (Nat × (List Int))}, impl_sorted_J5 (loopF impl_sorted_B1 m) y2 x20 x24 = some o1 → Jn K23 [(4, dL (pE c53_o U) x20), (5, dL (pE c53_o U) y2), (6, oL 53 (pE c53_o U) x24), (900001, .gh us1 (List.map (fun x => tokC (c53_o x)) v6)), (900002, .gh us2 (List.map (fun x => tokC (c53_o x)) v9))] := by
         intro x24 h σ' hk
         unfold impl_sorted_J5 at h
         refine hK23 _ (lh hk rfl (rg (sp 1 rfl (?_))))
         obtain ⟨g25, h⟩ := chk_some h
         exact qSl rfl (zpE zc53_o) g25 (sp 1 rfl (evn (hN _ _ h (okr rfl))))
        rcases cond_some h with ⟨g26, h⟩ | ⟨g26, h⟩
        ·refine qT rfl g26 (rg (sp 2 rfl (?_)))
         obtain ⟨e27, g28, h⟩ := ob_some h
         refine qI rfl (zpE zc53_o) g28 (sp 1 rfl (qBs (pE c53_o U) [e27] rfl rfl rfl (zpE zc53_o) (?_)))
         obtain ⟨g29, h⟩ := chk_some h
         exact qA (pE c53_o U) x21 [e27] rfl rfl (flat_len (zpE zc53_o) [e27]) rfl g29 (sp 1 rfl (evn (kJ5 h _ (okr rfl))))
        ·exact qF rfl g26 (ls_skip (kJ5 h _ (okr rfl)))
       ·exact qF rfl g22 (ls_skip (hN _ _ h (okr rfl)))
      rcases cond_some h with ⟨g30, h⟩ | ⟨g30, h⟩
      ·refine qT rfl g30 (rs (sp 2 rfl (?_)))
       obtain ⟨e31, g32, h⟩ := ob_some h
       refine qI rfl (zpE zc53_o) g32 (sp 1 rfl (qBs (pE c53_o U) [e31] rfl rfl rfl (zpE zc53_o) (?_)))
       obtain ⟨g33, h⟩ := chk_some h
       refine qA (pE c53_o U) y3 [e31] rfl rfl (flat_len (zpE zc53_o) [e31]) rfl g33 (sp 1 rfl (evn (rg (sp 1 rfl (?_)))))
       obtain ⟨g34, h⟩ := chk_some h
       exact qSl rfl (zpE zc53_o) g34 (sp 1 rfl (evn (kJ4 h _ (okr rfl))))
      ·exact qF rfl g30 (ls_skip (kJ4 h _ (okr rfl)))
     rcases cond_some h with ⟨g35, h⟩ | ⟨g35, h⟩
     ·exact qT rfl g35 (rg (sp 1 rfl (evn (kJ3 h _ (okr rfl)))))
     ·refine qF rfl g35 (rn 1 rfl (qk [4, 5, 6, 7, 37, 900001, 900002] rfl ?_))
      rcases cond_some h with ⟨g36, h⟩ | ⟨g36, h⟩
      ·refine qT rfl g36 (rgd (by kernel_rfl) (sd 1 rfl (?_)))
       obtain ⟨e37, g38, h⟩ := ob_some h
       refine ed rfl (qI rfl (zpE zc53_o) g38 (sd 2 rfl (?_)))
       obtain ⟨e39, g40, h⟩ := ob_some h
       refine ed rfl (qI rfl (zpE zc53_o) g40 (sd 1 rfl (?_)))
       obtain ⟨v41, g42, h⟩ := ob_some h
       exact ed rfl (qC (qa rfl (erP eci64 eci64 _) (qa rfl (erP eci64 eci64 _) eran)) (impl_CompareRows_s g42) (sd 1 rfl (evdn (kJ3 h _ (okr rfl)))))
      ·exact qF rfl g36 (ls_skip (kJ3 h _ (okr rfl)))
    ·exact qF rfl g16 (ls_exit (kXB1 (Option.some.inj h) _ (okr rfl)))
   refine sp 4 rfl (?_)
   rcases cond_some h with ⟨g43, h⟩ | ⟨g43, h⟩
   ·exact qg 27 g43 rfl (sp 4 rfl (evn (kJ2 h _ (okr rfl))))
   ·exact qg 27 g43 rfl (sp 4 rfl (evn (kJ2 h _ (okr rfl))))
def impl_columnsFit_B1 (a0 : Int) (a1 : List Int) (rec : Int → Option (Sum (Unit) (Bool))) (y1 : Int) : Option (Sum (Unit) (Bool)) := cond (decide (y1 < (List.length a1 : Int))) (obind (geti a1 y1) fun e7 => obind (impl_within e7 0 (IntKind.i64.wrap (a0 - 1))) fun v9 => cond (!v9) (some (.inr false)) (rec (IntKind.i64.wrap (y1 + 1)))) (some (.inl ()))
def impl_columnsFit (a0 : Int) (a1 : List Int) : Option (Bool) := cond (decide (5 < (List.length a1 : Int))) (some false) (obind (loopF (impl_columnsFit_B1 a0 a1) fz 0) fun o1 => (match o1 with
  | .inl _ => (some true)
  | .inr r => some r))
theorem impl_columnsFit_s {a0 : Int} {a1 : List Int} {r : Bool} (h : impl_columnsFit a0 a1 = some r) : SoundAt Tryz.prog 169 [nI a0, dL ci64 a1] (.bool r) := by
 unfold impl_columnsFit at h
 refine st lit169 rfl (rn 1 rfl (ls_seq_k fun K1 hK1 => rn 1 rfl ?_))
 rcases cond_some h with ⟨g2, h⟩ | ⟨g2, h⟩
 ·exact qT rfl g2 (rn 1 rfl (ls_ret ((by cases h; exact ⟨.inl rfl, rfl⟩))))
 ·refine qF rfl g2 (ls_skip (hK1 _ (ls_seq_k fun K3 hK3 => rn 1 rfl ?_)))
  obtain ⟨o1, hl, hr1⟩ := ob_some h
  have kXB1 : (.inl ()) = o1 → Jn K3 [] := by
   intro h σ' hk
   subst h
   replace h := hr1
   try dsimp only at h
   exact hK3 _ (lh hk rfl (rn 1 rfl (ls_ret ((by cases h; exact ⟨.inl rfl, rfl⟩)))))
  refine ls_rec (fun (y1 : Int) => [(0, nI a0), (10, dL ci64 a1), (11, nI (List.length a1 : Int)), (12, nI y1)]) _ _ _ _ hl (okr rfl) (fun _ => rfl) ?_
  rintro m y1 N h hN
  unfold impl_columnsFit_B1 at h
  refine rn 1 rfl (ls_seq_k fun K4 hK4 => ?_)
  rcases cond_some h with ⟨g5, h⟩ | ⟨g5, h⟩
  ·refine qT rfl g5 (ls_skip (hK4 _ (ls_seq_k fun K6 hK6 => ls_blk (rs ?_))))
   obtain ⟨e7, g8, h⟩ := ob_some h
   refine qI rfl zci64 g8 (sp 2 rfl (evn (rs (sp 3 rfl (?_)))))
   obtain ⟨v9, g10, h⟩ := ob_some h
   refine qC (qs rfl (qs rfl (qs rfl eran))) (impl_within_s g10) (sp 1 rfl (evn ?_))
   rcases cond_some h with ⟨g11, h⟩ | ⟨g11, h⟩
   ·exact qT rfl g11 (rn 1 rfl (ls_ret ((by cases h; cases hr1; exact ⟨.inl rfl, rfl⟩))))
   ·exact qF rfl g11 (ls_skip (hK6 _ (rg (sp 2 rfl (evn (hN _ _ h (okr rfl)))))))
  ·exact qF rfl g5 (ls_exit (kXB1 (Option.some.inj h) _ trivial))
def impl_pick_B1 (a0 : List Int) (a1 : List Int) (rec : ((List Int) × Int) → Option ((List Int))) (s : (List Int) × Int) : Option ((List Int)) := match s with
  | (y1, y2) => cond (decide (y2 < (List.length a1 : Int))) (obind (geti a1 y2) fun e6 => obind (geti a0 e6) fun e8 => chk (List.length y1 + List.length [e8] ≤ lim) (rec ((y1 ++ [e8]), (IntKind.i64.wrap (y2 + 1))))) (some y1)
def impl_pick (a0 : List Int) (a1 : List Int) : Option ((List Int)) := obind (loopF (impl_pick_B1 a0 a1) fz (([] : List Int), 0)) fun z2 => some z2
theorem impl_pick_s {a0 : List Int} {a1 : List Int} {r : (List Int)} (h : impl_pick a0 a1 = some r) : SoundAt Tryz.prog 171 [dL ci64 a0, dL ci64 a1] (oL 3 ci64 r) := by
 unfold impl_pick at h
 refine st lit171 rfl (rn 1 rfl (rs (qBs ci64 [] rfl rfl rfl zci64 (sp 1 rfl (evn (ls_seq_k fun K1 hK1 => rn 1 rfl ?_))))))
 obtain ⟨o1, hl, hr1⟩ := ob_some h
 have kXB1 : ∀ {z2 : List Int}, z2 = o1 → Jn K1 [(5, oL 3 ci64 z2)] := by
  intro z2 h σ' hk
  subst h
  replace h := hr1
  try dsimp only at h
  exact hK1 _ (lh hk rfl (rn 1 rfl (ls_ret ((by cases h; exact ⟨.inl rfl, rfl⟩)))))
 refine ls_rec (fun (s : (List Int) × Int) => match s with | (y1, y2) => [(0, dL ci64 a0), (5, oL 3 ci64 y1), (9, dL ci64 a1), (10, nI (List.length a1 : Int)), (11, nI y2)]) _ _ _ _ hl (okr rfl) (fun _ => rfl) ?_
 rintro m ⟨y1, y2⟩ N h hN
 unfold impl_pick_B1 at h
 dsimp only at h
 refine rn 1 rfl (ls_seq_k fun K3 hK3 => ?_)
 rcases cond_some h with ⟨g4, h⟩ | ⟨g4, h⟩
 ·refine qT rfl g4 (ls_skip (hK3 _ (ls_seq_k fun K5 hK5 => ls_blk (rs ?_))))
  obtain ⟨e6, g7, h⟩ := ob_some h
  refine qI rfl zci64 g7 (sp 2 rfl (evn (rg (sp 3 rfl (?_)))))
  obtain ⟨e8, g9, h⟩ := ob_some h
  refine qI rfl zci64 g9 (sp 1 rfl (qBs ci64 [e8] rfl rfl rfl zci64 (?_)))
  obtain ⟨g10, h⟩ := chk_some h
  exact qA ci64 y1 [e8] rfl rfl (flat_len zci64 [e8]) rfl g10 (sp 1 rfl (evn (hK5 _ (rg (sp 2 rfl (evn (hN _ _ h (okr rfl))))))))
 ·exact qF rfl g4 (ls_exit (kXB1 (Option.some.inj h) _ (okr rfl)))
def impl_AtomBindings_J3 (rec : ((List Int) × Bool × Int) → Option ((List Int) × Bool)) (e16 : List Int) (y9 : List Int) (y11 : Int) (e25 : Int) (x30 : Bool) : Option ((List Int) × Bool) := obind (geti e16 y11) fun e31 => obind (geti y9 e25) fun e33 => rec ((seti y9 e25 e31), x30, (IntKind.i64.wrap (y11 + 1)))
def impl_AtomBindings_B2 (a1 : Y147) (e16 : List Int) (rec : ((List Int) × Bool × Int) → Option ((List Int) × Bool)) (s : (List Int) × Bool × Int) : Option ((List Int) × Bool) := match s with
  | (y9, y10, y11) => cond (decide (y11 < (List.length a1.2 : Int))) (obind (geti a1.2 y11) fun e25 => obind (impl_indexOf a1.2 e25) fun v27 => cond y10 (obind (geti e16 v27) fun e36 => obind (geti e16 y11) fun e38 => impl_AtomBindings_J3 rec e16 y9 y11 e25 (e36 == e38)) (impl_AtomBindings_J3 rec e16 y9 y11 e25 false)) (some (y9, y10))
def impl_AtomBindings_J4 (rec : ((List (List Int)) × Int) → Option ((List (List Int)))) (y5 : Int) (x40 : List (List Int)) : Option ((List (List Int))) := rec (x40, (IntKind.i64.wrap (y5 + 1)))
def impl_AtomBindings_B1 (a1 : Y147) (v1 : (List Int)) (v3 : Y42 × Bool) (rec : ((List (List Int)) × Int) → Option ((List (List Int)))) (s : (List (List Int)) × Int) : Option ((List (List Int))) := match s with
  | (y4, y5) => cond (decide (y5 < (List.length v3.1.2 : Int))) (obind (geti v3.1.2 y5) fun e16 => chk ((0 : Int) ≤ 5 ∧ Int.toNat 5 ≤ lim) (obind (loopF (impl_AtomBindings_B2 a1 e16) fz ((List.replicate (Int.toNat 5) (0 : Int)), true, 0)) fun o2 => (match o2 with
  | (z20, z21) => (cond z21 (obind (impl_pick z20 v1) fun v42 => chk (List.length y4 + List.length [v42] ≤ lim) (impl_AtomBindings_J4 rec y5 (y4 ++ [v42]))) (impl_AtomBindings_J4 rec y5 y4))))) (some y4)
def impl_AtomBindings (a0 : List Y119) (a1 : Y147) : Option (Y42) := obind (impl_AtomVariables a1) fun v1 => obind (impl_LookupRelation a0 a1.1) fun v3 => cond (!v3.2) (some ((List.length v1 : Int), [])) (cond (v3.1.1 != (List.length a1.2 : Int)) (some ((List.length v1 : Int), [])) (obind (impl_columnsFit 5 a1.2) fun v8 => cond (!v8) (some ((List.length v1 : Int), [])) (obind (loopF (impl_AtomBindings_B1 a1 v1 v3) fz (([] : List (List Int)), 0)) fun z12 => obind (impl_sorted z12) fun v45 => some ((List.length v1 : Int), v45))))
theorem impl_AtomBindings_s {a0 : List Y119} {a1 : Y147} {r : Y42} (h : impl_AtomBindings a0 a1 = some r) : SoundAt Tryz.prog 191 [.agg [dL c120_dd a0], .agg (c148_d a1)] (.agg (c43_oo r)) := by
 unfold impl_AtomBindings at h
 refine st lit191 rfl (rn 1 rfl (rs (sp 1 rfl (?_))))
 obtain ⟨v1, g2, h⟩ := ob_some h
 refine qC (qa rfl (erg (erc rfl (erc (erD eci64 _) rfl))) eran) (impl_AtomVariables_s g2) (sp 1 rfl (evn (rn 1 rfl (rs (sp 3 rfl (?_))))))
 obtain ⟨v3, g4, h⟩ := ob_some h
 refine qC (qa rfl (erg (erc (erD ec120_dd _) rfl)) (qs rfl eran)) (impl_LookupRelation_s g4) (sp 6 rfl (evn (ls_seq_k fun K5 hK5 => rs (sp 3 rfl (?_)))))
 rcases cond_some h with ⟨g6, h⟩ | ⟨g6, h⟩
 ·exact qg 31 g6 rfl (sp 13 rfl (evn (qk [3, 4, 5, 6, 7, 44] rfl (qT rfl rfl (rn 1 rfl (ls_ret ((by cases h; exact ⟨.inl rfl, rfl⟩))))))))
 ·refine qg 31 g6 rfl (sp 8 rfl (?_))
  rcases cond_some h with ⟨g7, h⟩ | ⟨g7, h⟩
  ·exact qg 39 g7 rfl (sp 5 rfl (evn (qT rfl rfl (rn 1 rfl (ls_ret ((by cases h; exact ⟨.inl rfl, rfl⟩)))))))
  ·refine qg 39 g7 rfl (sp 2 rfl (?_))
   obtain ⟨v8, g9, h⟩ := ob_some h
   refine oGR rfl rfl (qC (qs rfl (qa rfl (erD eci64 _) eran)) (impl_columnsFit_s g9) (sp 2 rfl (evn ?_)))
   rcases cond_some h with ⟨g10, h⟩ | ⟨g10, h⟩
   ·exact qT rfl g10 (rn 1 rfl (ls_ret ((by cases h; exact ⟨.inl rfl, rfl⟩))))
   ·refine qF rfl g10 (ls_skip (hK5 _ (qk [3, 4, 5, 6, 7] rfl (rn 1 rfl (ls_seq_k fun K11 hK11 => rn 1 rfl ?_)))))
    obtain ⟨o1, hl, hr1⟩ := ob_some h
    have kXB1 : ∀ {z12 : List (List Int)}, z12 = o1 → Jn K11 [(4, .box [nI 0, oL 53 c53_o []]), (6, .box [nI (List.length v1 : Int), oL 53 c53_o []]), (9, oL 53 c53_o z12)] := by
     intro z12 h σ' hk
     subst h
     replace h := hr1
     try dsimp only at h
     refine hK11 _ (lh hk rfl (rs (sp 1 rfl (?_))))
     obtain ⟨v45, g46, h⟩ := ob_some h
     exact qC (qa rfl (erD ec53_o _) eran) (impl_sorted_s g46) (sp 2 rfl (evn (rn 1 rfl (ls_ret ((by cases h; exact ⟨.inl rfl, rfl⟩))))))
    refine ls_rec (fun (s : (List (List Int)) × Int) => match s with | (y4, y5) => [(3, .box [.str a1.1, dL ci64 a1.2]), (4, .box [nI 0, oL 53 c53_o []]), (5, oL 3 ci64 v1), (6, .box [nI (List.length v1 : Int), oL 53 c53_o []]), (9, oL 53 c53_o y4), (47, dL c53_o v3.1.2), (48, nI (List.length v3.1.2 : Int)), (49, nI y5)]) _ _ _ _ hl (okr rfl) (fun _ => rfl) ?_
    rintro m ⟨y4, y5⟩ N h hN
    unfold impl_AtomBindings_B1 at h
    dsimp only at h
    refine rn 1 rfl (ls_seq_k fun K13 hK13 => ?_)
    rcases cond_some h with ⟨g14, h⟩ | ⟨g14, h⟩
    ·refine qT rfl g14 (ls_skip (hK13 _ (ls_seq_k fun K15 hK15 => ls_blk (rs ?_))))
     obtain ⟨e16, g17, h⟩ := ob_some h
     refine qI rfl zc53_o g17 (sp 2 rfl (evn (rs ?_)))
     obtain ⟨g18, h⟩ := chk_some h
     refine qMu ci64 (0 : Int) rfl rfl rfl rfl g18 rfl (qAu rfl rfl rfl rfl (evn (rn 1 rfl (ls_seq_k fun K19 hK19 => rn 1 rfl ?_))))
     obtain ⟨o2, hl, hr2⟩ := ob_some h
     have kXB2 : ∀ {z20 : List Int} {z21 : Bool}, (z20, z21) = o2 → Jn K19 [(3, .box [.str a1.1, dL ci64 a1.2]), (4, .box [nI 0, oL 53 c53_o []]), (5, oL 3 ci64 v1), (6, .box [nI (List.length v1 : Int), oL 53 c53_o []]), (9, oL 53 c53_o y4), (12, wL 3 ci64 z20), (13, .bool z21), (47, dL c53_o v3.1.2), (48, nI (List.length v3.1.2 : Int)), (49, nI y5)] := by
      intro z20 z21 h σ' hk
      subst h
      replace h := hr2
      try dsimp only at h
      refine hK19 _ (lh hk rfl (rn 1 rfl ?_))
      have kJ4 : ∀ {x40 : List (List Int)}, impl_AtomBindings_J4 (loopF (impl_AtomBindings_B1 a1 v1 v3) m) y5 x40 = some o1 → Jn K15 [(3, .box [.str a1.1, dL ci64 a1.2]), (4, .box [nI 0, oL 53 c53_o []]), (5, oL 3 ci64 v1), (6, .box [nI (List.length v1 : Int), oL 53 c53_o []]), (9, oL 53 c53_o x40), (47, dL c53_o v3.1.2), (48, nI (List.length v3.1.2 : Int)), (49, nI y5)] := by
       intro x40 h σ' hk
       unfold impl_AtomBindings_J4 at h
       exact hK15 _ (lh hk rfl (rg (sp 2 rfl (evn (hN _ _ h (okr rfl))))))
      rcases cond_some h with ⟨g41, h⟩ | ⟨g41, h⟩
      ·refine qT rfl g41 (rg (sp 1 rfl (qTu rfl rfl rfl (sp 1 rfl (?_)))))
       obtain ⟨v42, g43, h⟩ := ob_some h
       refine qC (qa rfl (erO eci64 _) (qa rfl (erD eci64 _) eran)) (impl_pick_s g43) (qBs c53_o [v42] rfl rfl rfl zc53_o (?_))
       obtain ⟨g44, h⟩ := chk_some h
       exact qA c53_o y4 [v42] rfl rfl (flat_len zc53_o [v42]) rfl g44 (sp 1 rfl (evn (kJ4 h _ (okr rfl))))
      ·exact qF rfl g41 (ls_skip (kJ4 h _ (okr rfl)))
     refine ls_rec (fun (s : (List Int) × Bool × Int) => match s with | (y9, y10, y11) => [(3, .box [.str a1.1, dL ci64 a1.2]), (4, .box [nI 0, oL 53 c53_o []]), (5, oL 3 ci64 v1), (6, .box [nI (List.length v1 : Int), oL 53 c53_o []]), (9, oL 53 c53_o y4), (11, dL ci64 e16), (12, wL 3 ci64 y9), (13, .bool y10), (47, dL c53_o v3.1.2), (48, nI (List.length v3.1.2 : Int)), (49, nI y5), (55, dL ci64 a1.2), (56, nI (List.length a1.2 : Int)), (57, nI y11)]) _ _ _ _ hl (okr rfl) (fun _ => rfl) ?_
     rintro m ⟨y9, y10, y11⟩ N h hN
     unfold impl_AtomBindings_B2 at h
     dsimp only at h
     refine rn 1 rfl (ls_seq_k fun K22 hK22 => ?_)
     rcases cond_some h with ⟨g23, h⟩ | ⟨g23, h⟩
     ·refine qT rfl g23 (ls_skip (hK22 _ (ls_seq_k fun K24 hK24 => ls_blk (rs (sp 1 rfl (?_))))))
      obtain ⟨e25, g26, h⟩ := ob_some h
      refine qI rfl zci64 g26 (sp 3 rfl (evn (rs (sp 3 rfl (?_)))))
      obtain ⟨v27, g28, h⟩ := ob_some h
      refine qC (qa rfl (erD eci64 _) (qs rfl eran)) (impl_indexOf_s g28) (sp 1 rfl (evn (rdk (by kernel_rfl) fun K29 hK29 => ?_)))
      have kJ3 : ∀ {x30 : Bool}, impl_AtomBindings_J3 (loopF (impl_AtomBindings_B2 a1 e16) m) e16 y9 y11 e25 x30 = some o2 → Jn K29 [(3, .box [.str a1.1, dL ci64 a1.2]), (4, .box [nI 0, oL 53 c53_o []]), (5, oL 3 ci64 v1), (6, .box [nI (List.length v1 : Int), oL 53 c53_o []]), (9, oL 53 c53_o y4), (11, dL ci64 e16), (12, wL 3 ci64 y9), (13, .bool x30), (14, nI y11), (15, nI e25), (47, dL c53_o v3.1.2), (48, nI (List.length v3.1.2 : Int)), (49, nI y5), (55, dL ci64 a1.2), (56, nI (List.length a1.2 : Int)), (57, nI y11)] := by
       intro x30 h σ' hk
       unfold impl_AtomBindings_J3 at h
       refine hK29 _ (lh hk rfl (rg (sp 4 rfl (?_))))
       obtain ⟨e31, g32, h⟩ := ob_some h
       refine qI rfl zci64 g32 (sp 1 rfl (?_))
       obtain ⟨e33, g34, h⟩ := ob_some h
       exact qIu rfl ⟨(geti_some g34).1, (geti_some g34).2.1⟩ (qSu e31 rfl rfl zci64 ⟨(geti_some g34).1, (geti_some g34).2.1⟩ rfl rfl rfl rfl rfl rfl (evn (hK24 _ (rg (sp 2 rfl (evn (hN _ _ h (okr rfl))))))))
      refine sd 2 rfl (?_)
      rcases cond_some h with ⟨g35, h⟩ | ⟨g35, h⟩
      ·refine qgd 67 g35 rfl (sd 2 rfl (?_))
       obtain ⟨e36, g37, h⟩ := ob_some h
       refine ed rfl (oGR rfl rfl (qI rfl zci64 g37 (sd 3 rfl (?_))))
       obtain ⟨e38, g39, h⟩ := ob_some h
       exact ed rfl (oGR rfl rfl (qI rfl zci64 g39 (sd 4 rfl (evdn (kJ3 h _ (okr rfl))))))
      ·exact qgd 67 g35 rfl (sd 11 rfl (evdn (kJ3 h _ (okr rfl))))
     ·exact qF rfl g23 (ls_exit (kXB2 (Option.some.inj h) _ (okr rfl)))
    ·exact qF rfl g14 (ls_exit (kXB1 (Option.some.inj h) _ (okr rfl)))
abbrev Y187 := (List Int) × Y42
def c188_ddd (x : Y187) : List V := [dL ci64 x.1, nI x.2.1, dL c53_d x.2.2]
theorem zc188_ddd (x : Y187) : (c188_ddd x).length = 3 := rfl
theorem ec188_ddd (x : Y187) : erL (c188_ddd x) = c188_ddd x := (erc (erD eci64 _) (erc rfl (erc (erD ec53_d _) rfl)))
def c188_ooo (x : Y187) : List V := [oL 3 ci64 x.1, nI x.2.1, oL 53 c53_o x.2.2]
theorem zc188_ooo (x : Y187) : (c188_ooo x).length = 3 := rfl
theorem ec188_ooo (x : Y187) : erL (c188_ooo x) = c188_ddd x := (erc (erO eci64 _) (erc rfl (erc (erO ec53_o _) rfl)))
def impl_AtomRelation (a0 : List Y119) (a1 : Y147) : Option (Y187) := obind (impl_AtomVariables a1) fun v1 => obind (impl_AtomBindings a0 a1) fun v3 => some (v1, v3)
theorem impl_AtomRelation_s {a0 : List Y119} {a1 : Y147} {r : Y187} (h : impl_AtomRelation a0 a1 = some r) : SoundAt Tryz.prog 165 [.agg [dL c120_dd a0], .agg (c148_d a1)] (.agg (c188_ooo r)) := by
 unfold impl_AtomRelation at h
 refine st lit165 rfl (rn 1 rfl (rd (by kernel_rfl) (sd 1 rfl (?_))))
 obtain ⟨v1, g2, h⟩ := ob_some h
 refine ed rfl (qC (qa rfl (erg (erc rfl (erc (erD eci64 _) rfl))) eran) (impl_AtomVariables_s g2) (sd 2 rfl (?_)))
 obtain ⟨v3, g4, h⟩ := ob_some h
 exact ed rfl (qC (qa rfl (erg (erc (erD ec120_dd _) rfl)) (qa rfl (erg (erc rfl (erc (erD eci64 _) rfl))) eran)) (impl_AtomBindings_s g4) (sd 2 rfl (evdn (ls_ret ((by cases h; exact ⟨.inl rfl, rfl⟩))))))
end Go.Proofs.YtceghmdneadhbaaGreat
