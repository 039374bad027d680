/-
  Functions of the program as typed functions, printed by gen.py, and that the program's functions do what they say. No conditions.
-/
import Derived.Test.YtkcfahfladikkaaKb
import Derived.Test.YtkcfahfladikkaaLit2D1
namespace Go.Proofs.Ytkcfahfladikkaa
open Go.RowKit
set_option linter.unusedVariables false
set_option maxRecDepth 100000
set_option maxHeartbeats 1000000
def laws_szIntS (a0 : List Int) (a1 : Int) : Option (Int) := cond (decide ((IntKind.i64.wrap (a1 - (List.length a0 : Int))) < 0)) (some (-1)) (some (IntKind.i64.wrap (a1 - (List.length a0 : Int))))
theorem laws_szIntS_s {a0 : List Int} {a1 : Int} {r : Int} (h : laws_szIntS a0 a1 = some r) : SoundAt Try.prog 72 [dL ci64 a0, nI a1] (nI r) := by
 unfold laws_szIntS at h
 refine sound_lit tbOk lit72 (nb rfl) rfl ?_
 unfold c72
 refine kp [(0, dL ci64 a0), (1, nI a1)] rfl rfl (ls_rs tbOk (oC nofun rfl (en [(0, dL ci64 a0), (1, nI a1)] rfl rfl (ls_rs tbOk (oM (nI a1) rfl (oM (dL ci64 a0) rfl (oN (dL ci64 a0) rfl (oB (nI a1) (nI (List.length a0 : Int)) rfl rfl (oA (nI (IntKind.i64.wrap (a1 - (List.length a0 : Int)))) rfl (en [(1, nI (IntKind.i64.wrap (a1 - (List.length a0 : Int))))] rfl rfl (ls_seq_k fun K1 hK1 => ls_rs tbOk (oM (nI (IntKind.i64.wrap (a1 - (List.length a0 : Int)))) rfl (oB (nI (IntKind.i64.wrap (a1 - (List.length a0 : Int)))) (nI 0) rfl rfl (en [(1, nI (IntKind.i64.wrap (a1 - (List.length a0 : Int)))), (10, .bool (decide ((IntKind.i64.wrap (a1 - (List.length a0 : Int))) < 0)))] rfl rfl ?_))))))))))))))
 rcases cond_some h with ⟨g2, h⟩ | ⟨g2, h⟩
 ·refine ls_cT rfl g2 (ls_rs tbOk (oC nofun rfl (en [(4, nI (-1))] rfl rfl (ls_ret ?_))))
  cases h
  exact ⟨.inl rfl, rfl⟩
 ·refine ls_cF rfl g2 (ls_skip (hK1 _ (kp [(1, nI (IntKind.i64.wrap (a1 - (List.length a0 : Int))))] rfl rfl (ls_rs tbOk (oM (nI (IntKind.i64.wrap (a1 - (List.length a0 : Int)))) rfl (oA (nI (IntKind.i64.wrap (a1 - (List.length a0 : Int)))) rfl (en [(4, nI (IntKind.i64.wrap (a1 - (List.length a0 : Int))))] rfl rfl (ls_ret ?_))))))))
  cases h
  exact ⟨.inl rfl, rfl⟩
def c25_d (x : List Int) : List V := [dL ci64 x]
theorem zc25_d (x : List Int) : (c25_d x).length = 1 := rfl
theorem ec25_d (x : List Int) : erL (c25_d x) = c25_d x := (erc (erD eci64 _) rfl)
def laws_szIntSS_B1 (a0 : List (List Int)) (rec : (Int × Int) → Option (Sum (Int) (Int))) (s : Int × Int) : Option (Sum (Int) (Int)) := match s with
  | (y1, y2) => cond (decide (y2 < (List.length a0 : Int))) (obind (geti a0 y2) fun e8 => obind (laws_szIntS e8 y1) fun v10 => cond (decide (v10 < 0)) (some (.inr (-1))) (rec (v10, (IntKind.i64.wrap (y2 + 1))))) (some (.inl y1))
def laws_szIntSS (a0 : List (List Int)) (a1 : Int) : Option (Int) := cond (decide ((IntKind.i64.wrap (a1 - (List.length a0 : Int))) < 0)) (some (-1)) (obind (loopF (laws_szIntSS_B1 a0) fz ((IntKind.i64.wrap (a1 - (List.length a0 : Int))), 0)) fun o1 => (match o1 with
  | .inl z4 => (some z4)
  | .inr r => some r))
theorem laws_szIntSS_s {a0 : List (List Int)} {a1 : Int} {r : Int} (h : laws_szIntSS a0 a1 = some r) : SoundAt Try.prog 199 [dL c25_d a0, nI a1] (nI r) := by
 unfold laws_szIntSS at h
 refine sound_lit tbOk lit199 (nb rfl) rfl ?_
 unfold c199
 refine kp [(0, dL c25_d a0), (1, nI a1)] rfl rfl (ls_rs tbOk (oC nofun rfl (en [(0, dL c25_d a0), (1, nI a1)] rfl rfl (ls_rs tbOk (oM (nI a1) rfl (oM (dL c25_d a0) rfl (oN (dL c25_d a0) rfl (oB (nI a1) (nI (List.length a0 : Int)) rfl rfl (oA (nI (IntKind.i64.wrap (a1 - (List.length a0 : Int)))) rfl (en [(0, dL c25_d a0), (1, nI (IntKind.i64.wrap (a1 - (List.length a0 : Int))))] rfl rfl (ls_seq_k fun K1 hK1 => ls_rs tbOk (oM (nI (IntKind.i64.wrap (a1 - (List.length a0 : Int)))) rfl (oB (nI (IntKind.i64.wrap (a1 - (List.length a0 : Int)))) (nI 0) rfl rfl (en [(0, dL c25_d a0), (1, nI (IntKind.i64.wrap (a1 - (List.length a0 : Int)))), (11, .bool (decide ((IntKind.i64.wrap (a1 - (List.length a0 : Int))) < 0)))] rfl rfl ?_))))))))))))))
 rcases cond_some h with ⟨g2, h⟩ | ⟨g2, h⟩
 ·refine ls_cT rfl g2 (ls_rs tbOk (oC nofun rfl (en [(4, nI (-1))] rfl rfl (ls_ret ?_))))
  cases h
  exact ⟨.inl rfl, rfl⟩
 ·refine ls_cF rfl g2 (ls_skip (hK1 _ (kp [(0, dL c25_d a0), (1, nI (IntKind.i64.wrap (a1 - (List.length a0 : Int))))] rfl rfl (ls_seq_k fun K3 hK3 => ls_rs tbOk (oC nofun rfl (en [(0, dL c25_d a0), (1, nI (IntKind.i64.wrap (a1 - (List.length a0 : Int)))), (5, nI 0)] rfl rfl ?_))))))
  obtain ⟨o1, hl, hr1⟩ := ob_some h
  clear h
  have kXlaws_szIntSS_B1 : ∀ (z4 : Int), (some z4) = some r → ∀ σ' : PS, okK σ' [(1, nI z4)] → K3 σ' := by
   intro z4 h σ' hk
   refine hK3 _ (ls_keep [(1, nI z4)] hk rfl (ls_rs tbOk (oM (nI z4) rfl (oA (nI z4) rfl (en [(4, nI z4)] rfl rfl (ls_ret ?_))))))
   cases h
   exact ⟨.inl rfl, rfl⟩
  refine ls_rec (fun (s : Int × Int) => match s with | (y1, y2) => [(0, dL c25_d a0), (1, nI y1), (5, nI y2)]) (laws_szIntSS_B1 a0) fz ((IntKind.i64.wrap (a1 - (List.length a0 : Int))), 0) o1 hl (okr rfl) (fun _ => rfl) ?_
  rintro m ⟨y1, y2⟩ N h hN
  unfold laws_szIntSS_B1 at h
  dsimp only at h
  refine ls_seq_k fun K5 hK5 => ls_rs tbOk (oM (nI y2) rfl (oM (dL c25_d a0) rfl (oN (dL c25_d a0) rfl (oB (nI y2) (nI (List.length a0 : Int)) rfl rfl (en [(0, dL c25_d a0), (1, nI y1), (5, nI y2), (15, .bool (decide (y2 < (List.length a0 : Int))))] rfl rfl ?_)))))
  rcases cond_some h with ⟨g6, h⟩ | ⟨g6, h⟩
  ·refine ls_cT rfl g6 (ls_skip (hK5 _ (kp [(0, dL c25_d a0), (1, nI y1), (5, nI y2)] rfl rfl (ls_seq_k fun K7 hK7 => ls_blk (ls_rs tbOk (oM (dL c25_d a0) rfl (oM (nI y2) rfl (?_))))))))
   obtain ⟨e8, g9, h⟩ := ob_some h
   refine ev_ia rfl rfl rfl ⟨(geti_some g9).1, (geti_some g9).2.1⟩ (oLE y2 1 0 (dL ci64 e8) zc25_d g9 rfl (oM (nI y1) rfl (?_)))
   obtain ⟨v10, g11, h⟩ := ob_some h
   refine ev_call (era rfl (erD eci64 _) (era rfl rfl eran)) (laws_szIntS_s g11) (oA (nI v10) rfl (en [(0, dL c25_d a0), (1, nI v10), (5, nI y2)] rfl rfl (ls_rs tbOk (oM (nI v10) rfl (oB (nI v10) (nI 0) rfl rfl (en [(0, dL c25_d a0), (1, nI v10), (5, nI y2), (25, .bool (decide (v10 < 0)))] rfl rfl ?_))))))
   rcases cond_some h with ⟨g12, h⟩ | ⟨g12, h⟩
   ·refine ls_cT rfl g12 (ls_rs tbOk (oC nofun rfl (en [(4, nI (-1))] rfl rfl (ls_ret ?_))))
    cases h
    cases hr1
    exact ⟨.inl rfl, rfl⟩
   ·exact ls_cF rfl g12 (ls_skip (hK7 _ (kp [(0, dL c25_d a0), (1, nI v10), (5, nI y2)] rfl rfl (ls_rgn tbOk (oM (nI y2) rfl (oB (nI y2) (nI 1) rfl rfl (oA (nI (IntKind.i64.wrap (y2 + 1))) rfl (evn (hN _ (v10, (IntKind.i64.wrap (y2 + 1))) h (okr rfl))))))))))
  ·exact ls_cF rfl g6 (ls_exit (kXlaws_szIntSS_B1 y1 (by cases h; exact hr1) _ (okr rfl)))
abbrev Y127 := Int × (List (List Int))
def c204_dd (x : Y127) : List V := [nI x.1, dL c25_d x.2]
theorem zc204_dd (x : Y127) : (c204_dd x).length = 2 := rfl
theorem ec204_dd (x : Y127) : erL (c204_dd x) = c204_dd x := (erc rfl (erc (erD ec25_d _) rfl))
def laws_szRelation (a0 : Y127) (a1 : Int) : Option (Int) := obind (laws_szIntSS a0.2 a1) fun v1 => cond (decide (v1 < 0)) (some (-1)) (some v1)
theorem laws_szRelation_s {a0 : Y127} {a1 : Int} {r : Int} (h : laws_szRelation a0 a1 = some r) : SoundAt Try.prog 235 [.agg (c204_dd a0), nI a1] (nI r) := by
 unfold laws_szRelation at h
 refine sound_lit tbOk lit235 (nb rfl) rfl ?_
 unfold c235
 refine kp [(0, .agg (c204_dd a0)), (1, nI a1)] rfl rfl (ls_rs tbOk (oX (.agg (c204_dd a0)) rfl (oC nofun rfl (en [(1, nI a1), (2, .box [nI a0.1, dL c25_d a0.2])] rfl rfl (ls_rs tbOk (oF 2 0 rfl ⟨_, rfl⟩ (oL1 1 (dL c25_d a0.2) rfl (oM (nI a1) rfl (?_)))))))))
 obtain ⟨v1, g2, h⟩ := ob_some h
 refine ev_call (era rfl (erD ec25_d _) (era rfl rfl eran)) (laws_szIntSS_s g2) (oA (nI v1) rfl (en [(1, nI v1)] rfl rfl (ls_seq_k fun K3 hK3 => ls_rs tbOk (oM (nI v1) rfl (oB (nI v1) (nI 0) rfl rfl (en [(1, nI v1), (10, .bool (decide (v1 < 0)))] rfl rfl ?_))))))
 rcases cond_some h with ⟨g4, h⟩ | ⟨g4, h⟩
 ·refine ls_cT rfl g4 (ls_rs tbOk (oC nofun rfl (en [(4, nI (-1))] rfl rfl (ls_ret ?_))))
  cases h
  exact ⟨.inl rfl, rfl⟩
 ·refine ls_cF rfl g4 (ls_skip (hK3 _ (kp [(1, nI v1)] rfl rfl (ls_rs tbOk (oM (nI v1) rfl (oA (nI v1) rfl (en [(4, nI v1)] rfl rfl (ls_ret ?_))))))))
  cases h
  exact ⟨.inl rfl, rfl⟩
abbrev Y205 := (List UInt8) × Y127
def c206_dd (x : Y205) : List V := [.str x.1, nI x.2.1, dL c25_d x.2.2]
theorem zc206_dd (x : Y205) : (c206_dd x).length = 3 := rfl
theorem ec206_dd (x : Y205) : erL (c206_dd x) = c206_dd x := (erc rfl (erc rfl (erc (erD ec25_d _) rfl)))
def laws_szTable (a0 : Y205) (a1 : Int) : Option (Int) := cond (decide ((IntKind.i64.wrap (a1 - (List.length a0.1 : Int))) < 0)) (some (-1)) (obind (laws_szRelation a0.2 (IntKind.i64.wrap (a1 - (List.length a0.1 : Int)))) fun v3 => cond (decide (v3 < 0)) (some (-1)) (some v3))
theorem laws_szTable_s {a0 : Y205} {a1 : Int} {r : Int} (h : laws_szTable a0 a1 = some r) : SoundAt Try.prog 171 [.agg (c206_dd a0), nI a1] (nI r) := by
 unfold laws_szTable at h
 refine sound_lit tbOk lit171 (nb rfl) rfl ?_
 unfold c171
 refine kp [(0, .agg (c206_dd a0)), (1, nI a1)] rfl rfl (ls_rs tbOk (oX (.agg (c206_dd a0)) rfl (oC nofun rfl (en [(1, nI a1), (2, .box [.str a0.1, nI a0.2.1, dL c25_d a0.2.2])] rfl rfl (ls_rs tbOk (oM (nI a1) rfl (oF 2 0 rfl ⟨_, rfl⟩ (oL1 0 (.str a0.1) rfl (ev_lens (z := []) rfl rfl (oB (nI a1) (nI (List.length a0.1 : Int)) rfl rfl (oA (nI (IntKind.i64.wrap (a1 - (List.length a0.1 : Int)))) rfl (en [(1, nI (IntKind.i64.wrap (a1 - (List.length a0.1 : Int)))), (2, .box [.str a0.1, nI a0.2.1, dL c25_d a0.2.2])] rfl rfl (ls_seq_k fun K1 hK1 => ls_rs tbOk (oM (nI (IntKind.i64.wrap (a1 - (List.length a0.1 : Int)))) rfl (oB (nI (IntKind.i64.wrap (a1 - (List.length a0.1 : Int)))) (nI 0) rfl rfl (en [(1, nI (IntKind.i64.wrap (a1 - (List.length a0.1 : Int)))), (2, .box [.str a0.1, nI a0.2.1, dL c25_d a0.2.2]), (11, .bool (decide ((IntKind.i64.wrap (a1 - (List.length a0.1 : Int))) < 0)))] rfl rfl ?_))))))))))))))))
 rcases cond_some h with ⟨g2, h⟩ | ⟨g2, h⟩
 ·refine ls_cT rfl g2 (ls_rs tbOk (oC nofun rfl (en [(4, nI (-1))] rfl rfl (ls_ret ?_))))
  cases h
  exact ⟨.inl rfl, rfl⟩
 ·refine ls_cF rfl g2 (ls_skip (hK1 _ (kp [(1, nI (IntKind.i64.wrap (a1 - (List.length a0.1 : Int)))), (2, .box [.str a0.1, nI a0.2.1, dL c25_d a0.2.2])] rfl rfl (ls_rs tbOk (oF 2 0 rfl ⟨_, rfl⟩ (oL1 1 (.agg (c204_dd a0.2)) rfl (oM (nI (IntKind.i64.wrap (a1 - (List.length a0.1 : Int)))) rfl (?_))))))))
  obtain ⟨v3, g4, h⟩ := ob_some h
  refine ev_call (era rfl (erg (erc rfl (erc (erD ec25_d _) rfl))) (era rfl rfl eran)) (laws_szRelation_s g4) (oA (nI v3) rfl (en [(1, nI v3)] rfl rfl (ls_seq_k fun K5 hK5 => ls_rs tbOk (oM (nI v3) rfl (oB (nI v3) (nI 0) rfl rfl (en [(1, nI v3), (17, .bool (decide (v3 < 0)))] rfl rfl ?_))))))
  rcases cond_some h with ⟨g6, h⟩ | ⟨g6, h⟩
  ·refine ls_cT rfl g6 (ls_rs tbOk (oC nofun rfl (en [(4, nI (-1))] rfl rfl (ls_ret ?_))))
   cases h
   exact ⟨.inl rfl, rfl⟩
  ·refine ls_cF rfl g6 (ls_skip (hK5 _ (kp [(1, nI v3)] rfl rfl (ls_rs tbOk (oM (nI v3) rfl (oA (nI v3) rfl (en [(4, nI v3)] rfl rfl (ls_ret ?_))))))))
   cases h
   exact ⟨.inl rfl, rfl⟩
def laws_szTableS_B1 (a0 : List Y205) (rec : (Int × Int) → Option (Sum (Int) (Int))) (s : Int × Int) : Option (Sum (Int) (Int)) := match s with
  | (y1, y2) => cond (decide (y2 < (List.length a0 : Int))) (obind (geti a0 y2) fun e8 => obind (laws_szTable e8 y1) fun v10 => cond (decide (v10 < 0)) (some (.inr (-1))) (rec (v10, (IntKind.i64.wrap (y2 + 1))))) (some (.inl y1))
def laws_szTableS (a0 : List Y205) (a1 : Int) : Option (Int) := cond (decide ((IntKind.i64.wrap (a1 - (List.length a0 : Int))) < 0)) (some (-1)) (obind (loopF (laws_szTableS_B1 a0) fz ((IntKind.i64.wrap (a1 - (List.length a0 : Int))), 0)) fun o1 => (match o1 with
  | .inl z4 => (some z4)
  | .inr r => some r))
theorem laws_szTableS_s {a0 : List Y205} {a1 : Int} {r : Int} (h : laws_szTableS a0 a1 = some r) : SoundAt Try.prog 71 [dL c206_dd a0, nI a1] (nI r) := by
 unfold laws_szTableS at h
 refine sound_lit tbOk lit71 (nb rfl) rfl ?_
 unfold c71
 refine kp [(0, dL c206_dd a0), (1, nI a1)] rfl rfl (ls_rs tbOk (oC nofun rfl (en [(0, dL c206_dd a0), (1, nI a1)] rfl rfl (ls_rs tbOk (oM (nI a1) rfl (oM (dL c206_dd a0) rfl (oN (dL c206_dd a0) rfl (oB (nI a1) (nI (List.length a0 : Int)) rfl rfl (oA (nI (IntKind.i64.wrap (a1 - (List.length a0 : Int)))) rfl (en [(0, dL c206_dd a0), (1, nI (IntKind.i64.wrap (a1 - (List.length a0 : Int))))] rfl rfl (ls_seq_k fun K1 hK1 => ls_rs tbOk (oM (nI (IntKind.i64.wrap (a1 - (List.length a0 : Int)))) rfl (oB (nI (IntKind.i64.wrap (a1 - (List.length a0 : Int)))) (nI 0) rfl rfl (en [(0, dL c206_dd a0), (1, nI (IntKind.i64.wrap (a1 - (List.length a0 : Int)))), (11, .bool (decide ((IntKind.i64.wrap (a1 - (List.length a0 : Int))) < 0)))] rfl rfl ?_))))))))))))))
 rcases cond_some h with ⟨g2, h⟩ | ⟨g2, h⟩
 ·refine ls_cT rfl g2 (ls_rs tbOk (oC nofun rfl (en [(4, nI (-1))] rfl rfl (ls_ret ?_))))
  cases h
  exact ⟨.inl rfl, rfl⟩
 ·refine ls_cF rfl g2 (ls_skip (hK1 _ (kp [(0, dL c206_dd a0), (1, nI (IntKind.i64.wrap (a1 - (List.length a0 : Int))))] rfl rfl (ls_seq_k fun K3 hK3 => ls_rs tbOk (oC nofun rfl (en [(0, dL c206_dd a0), (1, nI (IntKind.i64.wrap (a1 - (List.length a0 : Int)))), (5, nI 0)] rfl rfl ?_))))))
  obtain ⟨o1, hl, hr1⟩ := ob_some h
  clear h
  have kXlaws_szTableS_B1 : ∀ (z4 : Int), (some z4) = some r → ∀ σ' : PS, okK σ' [(1, nI z4)] → K3 σ' := by
   intro z4 h σ' hk
   refine hK3 _ (ls_keep [(1, nI z4)] hk rfl (ls_rs tbOk (oM (nI z4) rfl (oA (nI z4) rfl (en [(4, nI z4)] rfl rfl (ls_ret ?_))))))
   cases h
   exact ⟨.inl rfl, rfl⟩
  refine ls_rec (fun (s : Int × Int) => match s with | (y1, y2) => [(0, dL c206_dd a0), (1, nI y1), (5, nI y2)]) (laws_szTableS_B1 a0) fz ((IntKind.i64.wrap (a1 - (List.length a0 : Int))), 0) o1 hl (okr rfl) (fun _ => rfl) ?_
  rintro m ⟨y1, y2⟩ N h hN
  unfold laws_szTableS_B1 at h
  dsimp only at h
  refine ls_seq_k fun K5 hK5 => ls_rs tbOk (oM (nI y2) rfl (oM (dL c206_dd a0) rfl (oN (dL c206_dd a0) rfl (oB (nI y2) (nI (List.length a0 : Int)) rfl rfl (en [(0, dL c206_dd a0), (1, nI y1), (5, nI y2), (15, .bool (decide (y2 < (List.length a0 : Int))))] rfl rfl ?_)))))
  rcases cond_some h with ⟨g6, h⟩ | ⟨g6, h⟩
  ·refine ls_cT rfl g6 (ls_skip (hK5 _ (kp [(0, dL c206_dd a0), (1, nI y1), (5, nI y2)] rfl rfl (ls_seq_k fun K7 hK7 => ls_blk (ls_rs tbOk (oM (dL c206_dd a0) rfl (oM (nI y2) rfl (?_))))))))
   obtain ⟨e8, g9, h⟩ := ob_some h
   refine ev_ia rfl rfl rfl ⟨(geti_some g9).1, (geti_some g9).2.1⟩ (oLE y2 3 0 (.agg (c206_dd e8)) zc206_dd g9 rfl (oM (nI y1) rfl (?_)))
   obtain ⟨v10, g11, h⟩ := ob_some h
   refine ev_call (era rfl (erg (erc rfl (erc rfl (erc (erD ec25_d _) rfl)))) (era rfl rfl eran)) (laws_szTable_s g11) (oA (nI v10) rfl (en [(0, dL c206_dd a0), (1, nI v10), (5, nI y2)] rfl rfl (ls_rs tbOk (oM (nI v10) rfl (oB (nI v10) (nI 0) rfl rfl (en [(0, dL c206_dd a0), (1, nI v10), (5, nI y2), (25, .bool (decide (v10 < 0)))] rfl rfl ?_))))))
   rcases cond_some h with ⟨g12, h⟩ | ⟨g12, h⟩
   ·refine ls_cT rfl g12 (ls_rs tbOk (oC nofun rfl (en [(4, nI (-1))] rfl rfl (ls_ret ?_))))
    cases h
    cases hr1
    exact ⟨.inl rfl, rfl⟩
   ·exact ls_cF rfl g12 (ls_skip (hK7 _ (kp [(0, dL c206_dd a0), (1, nI v10), (5, nI y2)] rfl rfl (ls_rgn tbOk (oM (nI y2) rfl (oB (nI y2) (nI 1) rfl rfl (oA (nI (IntKind.i64.wrap (y2 + 1))) rfl (evn (hN _ (v10, (IntKind.i64.wrap (y2 + 1))) h (okr rfl))))))))))
  ·exact ls_cF rfl g6 (ls_exit (kXlaws_szTableS_B1 y1 (by cases h; exact hr1) _ (okr rfl)))
def laws_szDatabase (a0 : List Y205) (a1 : Int) : Option (Int) := obind (laws_szTableS a0 a1) fun v1 => cond (decide (v1 < 0)) (some (-1)) (some v1)
theorem laws_szDatabase_s {a0 : List Y205} {a1 : Int} {r : Int} (h : laws_szDatabase a0 a1 = some r) : SoundAt Try.prog 13 [.agg [dL c206_dd a0], nI a1] (nI r) := by
 unfold laws_szDatabase at h
 refine sound_lit tbOk lit13 (nb rfl) rfl ?_
 unfold c13
 refine kp [(0, .agg [dL c206_dd a0]), (1, nI a1)] rfl rfl (ls_rs tbOk (oX (.agg [dL c206_dd a0]) rfl (oC nofun rfl (en [(1, nI a1), (2, .box [dL c206_dd a0])] rfl rfl (ls_rs tbOk (oF 2 0 rfl ⟨_, rfl⟩ (oL1 0 (dL c206_dd a0) rfl (oM (nI a1) rfl (?_)))))))))
 obtain ⟨v1, g2, h⟩ := ob_some h
 refine ev_call (era rfl (erD ec206_dd _) (era rfl rfl eran)) (laws_szTableS_s g2) (oA (nI v1) rfl (en [(1, nI v1)] rfl rfl (ls_seq_k fun K3 hK3 => ls_rs tbOk (oM (nI v1) rfl (oB (nI v1) (nI 0) rfl rfl (en [(1, nI v1), (10, .bool (decide (v1 < 0)))] rfl rfl ?_))))))
 rcases cond_some h with ⟨g4, h⟩ | ⟨g4, h⟩
 ·refine ls_cT rfl g4 (ls_rs tbOk (oC nofun rfl (en [(4, nI (-1))] rfl rfl (ls_ret ?_))))
  cases h
  exact ⟨.inl rfl, rfl⟩
 ·refine ls_cF rfl g4 (ls_skip (hK3 _ (kp [(1, nI v1)] rfl rfl (ls_rs tbOk (oM (nI v1) rfl (oA (nI v1) rfl (en [(4, nI v1)] rfl rfl (ls_ret ?_))))))))
  cases h
  exact ⟨.inl rfl, rfl⟩
def laws_toIntS_B1 (a0 : List Int) (rec : ((List Int) × Int) → Option ((List Int))) (s : (List Int) × Int) : Option ((List Int)) := match s with
  | (y1, y2) => cond (decide (y2 < (List.length a0 : Int))) (obind (geti a0 y2) fun e7 => obind (geti y1 y2) fun e9 => rec ((seti y1 y2 e7), (IntKind.i64.wrap (y2 + 1)))) (some y1)
def laws_toIntS (a0 : List Int) : Option ((List Int)) := chk ((0 : Int) ≤ (List.length a0 : Int) ∧ Int.toNat (List.length a0 : Int) ≤ lim) (obind (loopF (laws_toIntS_B1 a0) fz ((List.replicate (Int.toNat (List.length a0 : Int)) (0 : Int)), 0)) fun z3 => some z3)
theorem laws_toIntS_s {a0 : List Int} {r : (List Int)} (h : laws_toIntS a0 = some r) : SoundAt Try.prog 58 [dL ci64 a0] (oL 3 ci64 r) := by
 unfold laws_toIntS at h
 refine sound_lit tbOk lit58 (nb rfl) rfl ?_
 unfold c58
 refine kp [(0, dL ci64 a0)] rfl rfl (ls_rs tbOk (ev_an rfl rfl (en [(0, dL ci64 a0)] rfl rfl (ls_rs tbOk (oM (dL ci64 a0) rfl (oN (dL ci64 a0) rfl (?_)))))))
 obtain ⟨g1, h⟩ := chk_some h
 refine ev_mku (f := ci64) (z := (0 : Int)) rfl rfl rfl rfl rfl rfl g1 rfl (ev_asu rfl rfl rfl (en [(0, dL ci64 a0), (3, wL 3 ci64 (List.replicate (Int.toNat (List.length a0 : Int)) (0 : Int)))] rfl rfl (ls_seq_k fun K2 hK2 => ls_rs tbOk (oC nofun rfl (en [(0, dL ci64 a0), (3, wL 3 ci64 (List.replicate (Int.toNat (List.length a0 : Int)) (0 : Int))), (4, nI 0)] rfl rfl ?_)))))
 obtain ⟨o1, hl, hr1⟩ := ob_some h
 clear h
 have kXlaws_toIntS_B1 : ∀ (z3 : List Int), (some z3) = some r → ∀ σ' : PS, okK σ' [(3, wL 3 ci64 z3)] → K2 σ' := by
  intro z3 h σ' hk
  refine hK2 _ (ls_keep [(3, wL 3 ci64 z3)] hk rfl (ls_rs tbOk (ev_mvtu rfl rfl (oA (oL 3 ci64 z3) rfl (en [(2, oL 3 ci64 z3)] rfl rfl (ls_ret ?_))))))
  cases h
  exact ⟨.inl rfl, rfl⟩
 refine ls_rec (fun (s : (List Int) × Int) => match s with | (y1, y2) => [(0, dL ci64 a0), (3, wL 3 ci64 y1), (4, nI y2)]) (laws_toIntS_B1 a0) fz ((List.replicate (Int.toNat (List.length a0 : Int)) (0 : Int)), 0) o1 hl (okr rfl) (fun _ => rfl) ?_
 rintro m ⟨y1, y2⟩ N h hN
 unfold laws_toIntS_B1 at h
 dsimp only at h
 refine ls_seq_k fun K4 hK4 => ls_rs tbOk (oM (nI y2) rfl (oM (dL ci64 a0) rfl (oN (dL ci64 a0) rfl (oB (nI y2) (nI (List.length a0 : Int)) rfl rfl (en [(0, dL ci64 a0), (3, wL 3 ci64 y1), (4, nI y2), (11, .bool (decide (y2 < (List.length a0 : Int))))] rfl rfl ?_)))))
 rcases cond_some h with ⟨g5, h⟩ | ⟨g5, h⟩
 ·refine ls_cT rfl g5 (ls_skip (hK4 _ (kp [(0, dL ci64 a0), (3, wL 3 ci64 y1), (4, nI y2)] rfl rfl (ls_seq_k fun K6 hK6 => ls_blk (ls_rgn tbOk (ev_mvu rfl rfl (oM (nI y2) rfl (oM (dL ci64 a0) rfl (oM (nI y2) rfl (?_))))))))))
  obtain ⟨e7, g8, h⟩ := ob_some h
  refine ev_ia rfl rfl rfl ⟨(geti_some g8).1, (geti_some g8).2.1⟩ (oLE y2 1 0 (nI e7) zci64 g8 rfl (?_))
  obtain ⟨e9, g10, h⟩ := ob_some h
  exact ev_iau rfl rfl rfl rfl ⟨(geti_some g10).1, (geti_some g10).2.1⟩ (ev_stu (e := e7) (c1 := nI e7) rfl rfl zci64 ⟨(geti_some g10).1, (geti_some g10).2.1⟩ rfl rfl rfl rfl rfl (evn (hK6 _ (kp [(0, dL ci64 a0), (3, wL 3 ci64 (seti y1 y2 e7)), (4, nI y2)] rfl rfl (ls_rgn tbOk (oM (nI y2) rfl (oB (nI y2) (nI 1) rfl rfl (oA (nI (IntKind.i64.wrap (y2 + 1))) rfl (evn (hN _ ((seti y1 y2 e7), (IntKind.i64.wrap (y2 + 1))) h (okr rfl)))))))))))
 ·exact ls_cF rfl g5 (ls_exit (kXlaws_toIntS_B1 y1 (by cases h; exact hr1) _ (okr rfl)))
def c25_o (x : List Int) : List V := [oL 3 ci64 x]
theorem zc25_o (x : List Int) : (c25_o x).length = 1 := rfl
theorem ec25_o (x : List Int) : erL (c25_o x) = c25_d x := (erc (erO eci64 _) rfl)
def laws_toIntSS_B1 (a0 : List (List Int)) (rec : ((List (List Int)) × Int) → Option ((List (List Int)))) (s : (List (List Int)) × Int) : Option ((List (List Int))) := match s with
  | (y1, y2) => cond (decide (y2 < (List.length a0 : Int))) (obind (geti a0 y2) fun e7 => obind (laws_toIntS e7) fun v9 => obind (geti y1 y2) fun e11 => rec ((seti y1 y2 v9), (IntKind.i64.wrap (y2 + 1)))) (some y1)
def laws_toIntSS (a0 : List (List Int)) : Option ((List (List Int))) := chk ((0 : Int) ≤ (List.length a0 : Int) ∧ Int.toNat (List.length a0 : Int) ≤ lim) (obind (loopF (laws_toIntSS_B1 a0) fz ((List.replicate (Int.toNat (List.length a0 : Int)) ([] : List Int)), 0)) fun z3 => some z3)
theorem laws_toIntSS_s {a0 : List (List Int)} {r : (List (List Int))} (h : laws_toIntSS a0 = some r) : SoundAt Try.prog 208 [dL c25_d a0] (oL 25 c25_o r) := by
 unfold laws_toIntSS at h
 refine sound_lit tbOk lit208 (nb rfl) rfl ?_
 unfold c208
 refine kp [(0, dL c25_d a0)] rfl rfl (ls_rs tbOk (ev_an rfl rfl (en [(0, dL c25_d a0)] rfl rfl (ls_rs tbOk (oM (dL c25_d a0) rfl (oN (dL c25_d a0) rfl (?_)))))))
 obtain ⟨g1, h⟩ := chk_some h
 refine ev_mku (f := c25_o) (z := ([] : List Int)) rfl rfl rfl rfl rfl rfl g1 rfl (ev_asu rfl rfl rfl (en [(0, dL c25_d a0), (3, wL 25 c25_o (List.replicate (Int.toNat (List.length a0 : Int)) ([] : List Int)))] rfl rfl (ls_seq_k fun K2 hK2 => ls_rs tbOk (oC nofun rfl (en [(0, dL c25_d a0), (3, wL 25 c25_o (List.replicate (Int.toNat (List.length a0 : Int)) ([] : List Int))), (4, nI 0)] rfl rfl ?_)))))
 obtain ⟨o1, hl, hr1⟩ := ob_some h
 clear h
 have kXlaws_toIntSS_B1 : ∀ (z3 : List (List Int)), (some z3) = some r → ∀ σ' : PS, okK σ' [(3, wL 25 c25_o z3)] → K2 σ' := by
  intro z3 h σ' hk
  refine hK2 _ (ls_keep [(3, wL 25 c25_o z3)] hk rfl (ls_rs tbOk (ev_mvtu rfl rfl (oA (oL 25 c25_o z3) rfl (en [(2, oL 25 c25_o z3)] rfl rfl (ls_ret ?_))))))
  cases h
  exact ⟨.inl rfl, rfl⟩
 refine ls_rec (fun (s : (List (List Int)) × Int) => match s with | (y1, y2) => [(0, dL c25_d a0), (3, wL 25 c25_o y1), (4, nI y2)]) (laws_toIntSS_B1 a0) fz ((List.replicate (Int.toNat (List.length a0 : Int)) ([] : List Int)), 0) o1 hl (okr rfl) (fun _ => rfl) ?_
 rintro m ⟨y1, y2⟩ N h hN
 unfold laws_toIntSS_B1 at h
 dsimp only at h
 refine ls_seq_k fun K4 hK4 => ls_rs tbOk (oM (nI y2) rfl (oM (dL c25_d a0) rfl (oN (dL c25_d a0) rfl (oB (nI y2) (nI (List.length a0 : Int)) rfl rfl (en [(0, dL c25_d a0), (3, wL 25 c25_o y1), (4, nI y2), (11, .bool (decide (y2 < (List.length a0 : Int))))] rfl rfl ?_)))))
 rcases cond_some h with ⟨g5, h⟩ | ⟨g5, h⟩
 ·refine ls_cT rfl g5 (ls_skip (hK4 _ (kp [(0, dL c25_d a0), (3, wL 25 c25_o y1), (4, nI y2)] rfl rfl (ls_seq_k fun K6 hK6 => ls_blk (ls_rgn tbOk (ev_mvu rfl rfl (oM (nI y2) rfl (oM (dL c25_d a0) rfl (oM (nI y2) rfl (?_))))))))))
  obtain ⟨e7, g8, h⟩ := ob_some h
  refine ev_ia rfl rfl rfl ⟨(geti_some g8).1, (geti_some g8).2.1⟩ (oLE y2 1 0 (dL ci64 e7) zc25_d g8 rfl (?_))
  obtain ⟨v9, g10, h⟩ := ob_some h
  refine ev_call (era rfl (erD eci64 _) eran) (laws_toIntS_s g10) (?_)
  obtain ⟨e11, g12, h⟩ := ob_some h
  exact ev_iau rfl rfl rfl rfl ⟨(geti_some g12).1, (geti_some g12).2.1⟩ (ev_stu (e := v9) (c1 := oL 3 ci64 v9) rfl rfl zc25_o ⟨(geti_some g12).1, (geti_some g12).2.1⟩ rfl rfl rfl rfl rfl (evn (hK6 _ (kp [(0, dL c25_d a0), (3, wL 25 c25_o (seti y1 y2 v9)), (4, nI y2)] rfl rfl (ls_rgn tbOk (oM (nI y2) rfl (oB (nI y2) (nI 1) rfl rfl (oA (nI (IntKind.i64.wrap (y2 + 1))) rfl (evn (hN _ ((seti y1 y2 v9), (IntKind.i64.wrap (y2 + 1))) h (okr rfl)))))))))))
 ·exact ls_cF rfl g5 (ls_exit (kXlaws_toIntSS_B1 y1 (by cases h; exact hr1) _ (okr rfl)))
def c128_dd (x : Y127) : List V := [nI x.1, dL c25_d x.2]
theorem zc128_dd (x : Y127) : (c128_dd x).length = 2 := rfl
theorem ec128_dd (x : Y127) : erL (c128_dd x) = c128_dd x := (erc rfl (erc (erD ec25_d _) rfl))
def c128_oo (x : Y127) : List V := [nI x.1, oL 25 c25_o x.2]
theorem zc128_oo (x : Y127) : (c128_oo x).length = 2 := rfl
theorem ec128_oo (x : Y127) : erL (c128_oo x) = c128_dd x := (erc rfl (erc (erO ec25_o _) rfl))
def laws_toRelation (a0 : Y127) : Option (Y127) := obind (laws_toIntSS a0.2) fun v1 => some (a0.1, v1)
theorem laws_toRelation_s {a0 : Y127} {r : Y127} (h : laws_toRelation a0 = some r) : SoundAt Try.prog 236 [.agg (c204_dd a0)] (.agg (c128_oo r)) := by
 unfold laws_toRelation at h
 refine sound_lit tbOk lit236 (nb rfl) rfl ?_
 unfold c236
 refine kp [(0, .agg (c204_dd a0))] rfl rfl (ls_rs tbOk (oX (.agg (c204_dd a0)) rfl (ev_al rfl rfl (en [(1, .box [nI a0.1, dL c25_d a0.2]), (2, .box [nI 0, oL 25 c25_o []])] rfl rfl (ls_rs tbOk (ev_al rfl rfl (en [(1, .box [nI a0.1, dL c25_d a0.2]), (2, .box [nI 0, oL 25 c25_o []]), (3, .box [nI 0, oL 25 c25_o []])] rfl rfl (ls_rs tbOk (oF 1 0 rfl ⟨_, rfl⟩ (oL1 0 (nI a0.1) rfl (oF 3 0 rfl ⟨_, rfl⟩ (oS 0 (nI a0.1) [nI a0.1, oL 25 c25_o []] rfl rfl (en [(1, .box [nI a0.1, dL c25_d a0.2]), (2, .box [nI 0, oL 25 c25_o []]), (3, .box [nI a0.1, oL 25 c25_o []])] rfl rfl (ls_rs tbOk (oF 1 0 rfl ⟨_, rfl⟩ (oL1 1 (dL c25_d a0.2) rfl (?_)))))))))))))))))
 obtain ⟨v1, g2, h⟩ := ob_some h
 refine ev_call (era rfl (erD ec25_d _) eran) (laws_toIntSS_s g2) (oF 3 0 rfl ⟨_, rfl⟩ (oS 1 (oL 25 c25_o v1) [nI a0.1, oL 25 c25_o v1] rfl rfl (en [(2, .box [nI 0, oL 25 c25_o []]), (3, .box [nI a0.1, oL 25 c25_o v1])] rfl rfl (ls_rs tbOk (ev_ldBt (off := 0) (v := .agg [nI a0.1, oL 25 c25_o v1]) (c' := .box [nI a0.1, dL c25_o v1]) rfl rfl rfl rfl (nb rfl) rfl rfl (oS 0 (.agg [nI a0.1, oL 25 c25_o v1]) [nI a0.1, oL 25 c25_o v1] rfl rfl (en [(2, .box [nI a0.1, oL 25 c25_o v1])] rfl rfl (ls_ret ?_))))))))
 cases h
 exact ⟨.inl rfl, rfl⟩
abbrev Y207 := (List UInt8) × Y127
def c208_dd (x : Y207) : List V := [.str x.1, nI x.2.1, dL c25_d x.2.2]
theorem zc208_dd (x : Y207) : (c208_dd x).length = 3 := rfl
theorem ec208_dd (x : Y207) : erL (c208_dd x) = c208_dd x := (erc rfl (erc rfl (erc (erD ec25_d _) rfl)))
def c208_oo (x : Y207) : List V := [.str x.1, nI x.2.1, oL 25 c25_o x.2.2]
theorem zc208_oo (x : Y207) : (c208_oo x).length = 3 := rfl
theorem ec208_oo (x : Y207) : erL (c208_oo x) = c208_dd x := (erc rfl (erc rfl (erc (erO ec25_o _) rfl)))
def laws_toTable (a0 : Y205) : Option (Y207) := obind (laws_toRelation a0.2) fun v1 => some (a0.1, v1)
theorem laws_toTable_s {a0 : Y205} {r : Y207} (h : laws_toTable a0 = some r) : SoundAt Try.prog 173 [.agg (c206_dd a0)] (.agg (c208_oo r)) := by
 unfold laws_toTable at h
 refine sound_lit tbOk lit173 (nb rfl) rfl ?_
 unfold c173
 refine kp [(0, .agg (c206_dd a0))] rfl rfl (ls_rs tbOk (oX (.agg (c206_dd a0)) rfl (ev_al rfl rfl (en [(1, .box [.str a0.1, nI a0.2.1, dL c25_d a0.2.2]), (2, .box [.str [], nI 0, oL 25 c25_o []])] rfl rfl (ls_rs tbOk (ev_al rfl rfl (en [(1, .box [.str a0.1, nI a0.2.1, dL c25_d a0.2.2]), (2, .box [.str [], nI 0, oL 25 c25_o []]), (3, .box [.str [], nI 0, oL 25 c25_o []])] rfl rfl (ls_rs tbOk (oF 1 0 rfl ⟨_, rfl⟩ (oL1 0 (.str a0.1) rfl (oF 3 0 rfl ⟨_, rfl⟩ (oS 0 (.str a0.1) [.str a0.1, nI 0, oL 25 c25_o []] rfl rfl (en [(1, .box [.str a0.1, nI a0.2.1, dL c25_d a0.2.2]), (2, .box [.str [], nI 0, oL 25 c25_o []]), (3, .box [.str a0.1, nI 0, oL 25 c25_o []])] rfl rfl (ls_rs tbOk (oF 1 0 rfl ⟨_, rfl⟩ (oL1 1 (.agg (c204_dd a0.2)) rfl (?_)))))))))))))))))
 obtain ⟨v1, g2, h⟩ := ob_some h
 refine ev_call (era rfl (erg (erc rfl (erc (erD ec25_d _) rfl))) eran) (laws_toRelation_s g2) (oF 3 0 rfl ⟨_, rfl⟩ (oS 1 (.agg (c128_oo v1)) [.str a0.1, nI v1.1, oL 25 c25_o v1.2] rfl rfl (en [(2, .box [.str [], nI 0, oL 25 c25_o []]), (3, .box [.str a0.1, nI v1.1, oL 25 c25_o v1.2])] rfl rfl (ls_rs tbOk (ev_ldBt (off := 0) (v := .agg [.str a0.1, nI v1.1, oL 25 c25_o v1.2]) (c' := .box [.str a0.1, nI v1.1, dL c25_o v1.2]) rfl rfl rfl rfl (nb rfl) rfl rfl (oS 0 (.agg [.str a0.1, nI v1.1, oL 25 c25_o v1.2]) [.str a0.1, nI v1.1, oL 25 c25_o v1.2] rfl rfl (en [(2, .box [.str a0.1, nI v1.1, oL 25 c25_o v1.2])] rfl rfl (ls_ret ?_))))))))
 cases h
 exact ⟨.inl rfl, rfl⟩
def laws_toTableS_B1 (a0 : List Y205) (rec : ((List Y207) × Int) → Option ((List Y207))) (s : (List Y207) × Int) : Option ((List Y207)) := match s with
  | (y1, y2) => cond (decide (y2 < (List.length a0 : Int))) (obind (geti a0 y2) fun e7 => obind (laws_toTable e7) fun v9 => obind (geti y1 y2) fun e11 => rec ((seti y1 y2 v9), (IntKind.i64.wrap (y2 + 1)))) (some y1)
def laws_toTableS (a0 : List Y205) : Option ((List Y207)) := chk ((0 : Int) ≤ (List.length a0 : Int) ∧ Int.toNat (List.length a0 : Int) ≤ lim) (obind (loopF (laws_toTableS_B1 a0) fz ((List.replicate (Int.toNat (List.length a0 : Int)) (([], (0, [])) : Y207)), 0)) fun z3 => some z3)
theorem laws_toTableS_s {a0 : List Y205} {r : (List Y207)} (h : laws_toTableS a0 = some r) : SoundAt Try.prog 77 [dL c206_dd a0] (oL 208 c208_oo r) := by
 unfold laws_toTableS at h
 refine sound_lit tbOk lit77 (nb rfl) rfl ?_
 unfold c77
 refine kp [(0, dL c206_dd a0)] rfl rfl (ls_rs tbOk (ev_an rfl rfl (en [(0, dL c206_dd a0)] rfl rfl (ls_rs tbOk (oM (dL c206_dd a0) rfl (oN (dL c206_dd a0) rfl (?_)))))))
 obtain ⟨g1, h⟩ := chk_some h
 refine ev_mku (f := c208_oo) (z := (([], (0, [])) : Y207)) rfl rfl rfl rfl rfl rfl g1 rfl (ev_asu rfl rfl rfl (en [(0, dL c206_dd a0), (3, wL 208 c208_oo (List.replicate (Int.toNat (List.length a0 : Int)) (([], (0, [])) : Y207)))] rfl rfl (ls_seq_k fun K2 hK2 => ls_rs tbOk (oC nofun rfl (en [(0, dL c206_dd a0), (3, wL 208 c208_oo (List.replicate (Int.toNat (List.length a0 : Int)) (([], (0, [])) : Y207))), (4, nI 0)] rfl rfl ?_)))))
 obtain ⟨o1, hl, hr1⟩ := ob_some h
 clear h
 have kXlaws_toTableS_B1 : ∀ (z3 : List Y207), (some z3) = some r → ∀ σ' : PS, okK σ' [(3, wL 208 c208_oo z3)] → K2 σ' := by
  intro z3 h σ' hk
  refine hK2 _ (ls_keep [(3, wL 208 c208_oo z3)] hk rfl (ls_rs tbOk (ev_mvtu rfl rfl (oA (oL 208 c208_oo z3) rfl (en [(2, oL 208 c208_oo z3)] rfl rfl (ls_ret ?_))))))
  cases h
  exact ⟨.inl rfl, rfl⟩
 refine ls_rec (fun (s : (List Y207) × Int) => match s with | (y1, y2) => [(0, dL c206_dd a0), (3, wL 208 c208_oo y1), (4, nI y2)]) (laws_toTableS_B1 a0) fz ((List.replicate (Int.toNat (List.length a0 : Int)) (([], (0, [])) : Y207)), 0) o1 hl (okr rfl) (fun _ => rfl) ?_
 rintro m ⟨y1, y2⟩ N h hN
 unfold laws_toTableS_B1 at h
 dsimp only at h
 refine ls_seq_k fun K4 hK4 => ls_rs tbOk (oM (nI y2) rfl (oM (dL c206_dd a0) rfl (oN (dL c206_dd a0) rfl (oB (nI y2) (nI (List.length a0 : Int)) rfl rfl (en [(0, dL c206_dd a0), (3, wL 208 c208_oo y1), (4, nI y2), (11, .bool (decide (y2 < (List.length a0 : Int))))] rfl rfl ?_)))))
 rcases cond_some h with ⟨g5, h⟩ | ⟨g5, h⟩
 ·refine ls_cT rfl g5 (ls_skip (hK4 _ (kp [(0, dL c206_dd a0), (3, wL 208 c208_oo y1), (4, nI y2)] rfl rfl (ls_seq_k fun K6 hK6 => ls_blk (ls_rgn tbOk (ev_mvu rfl rfl (oM (nI y2) rfl (oM (dL c206_dd a0) rfl (oM (nI y2) rfl (?_))))))))))
  obtain ⟨e7, g8, h⟩ := ob_some h
  refine ev_ia rfl rfl rfl ⟨(geti_some g8).1, (geti_some g8).2.1⟩ (oLE y2 3 0 (.agg (c206_dd e7)) zc206_dd g8 rfl (?_))
  obtain ⟨v9, g10, h⟩ := ob_some h
  refine ev_call (era rfl (erg (erc rfl (erc rfl (erc (erD ec25_d _) rfl)))) eran) (laws_toTable_s g10) (?_)
  obtain ⟨e11, g12, h⟩ := ob_some h
  exact ev_iau rfl rfl rfl rfl ⟨(geti_some g12).1, (geti_some g12).2.1⟩ (ev_stu (e := v9) (c1 := .agg (c208_oo v9)) rfl rfl zc208_oo ⟨(geti_some g12).1, (geti_some g12).2.1⟩ rfl rfl rfl rfl rfl (evn (hK6 _ (kp [(0, dL c206_dd a0), (3, wL 208 c208_oo (seti y1 y2 v9)), (4, nI y2)] rfl rfl (ls_rgn tbOk (oM (nI y2) rfl (oB (nI y2) (nI 1) rfl rfl (oA (nI (IntKind.i64.wrap (y2 + 1))) rfl (evn (hN _ ((seti y1 y2 v9), (IntKind.i64.wrap (y2 + 1))) h (okr rfl)))))))))))
 ·exact ls_cF rfl g5 (ls_exit (kXlaws_toTableS_B1 y1 (by cases h; exact hr1) _ (okr rfl)))
def laws_toDatabase (a0 : List Y205) : Option ((List Y207)) := obind (laws_toTableS a0) fun v1 => some v1
theorem laws_toDatabase_s {a0 : List Y205} {r : (List Y207)} (h : laws_toDatabase a0 = some r) : SoundAt Try.prog 16 [.agg [dL c206_dd a0]] (.agg [oL 208 c208_oo r]) := by
 unfold laws_toDatabase at h
 refine sound_lit tbOk lit16 (nb rfl) rfl ?_
 unfold c16
 refine kp [(0, .agg [dL c206_dd a0])] rfl rfl (ls_rs tbOk (oX (.agg [dL c206_dd a0]) rfl (ev_al rfl rfl (en [(1, .box [dL c206_dd a0]), (2, .box [oL 208 c208_oo []])] rfl rfl (ls_rs tbOk (ev_al rfl rfl (en [(1, .box [dL c206_dd a0]), (2, .box [oL 208 c208_oo []]), (3, .box [oL 208 c208_oo []])] rfl rfl (ls_rs tbOk (oF 1 0 rfl ⟨_, rfl⟩ (oL1 0 (dL c206_dd a0) rfl (?_)))))))))))
 obtain ⟨v1, g2, h⟩ := ob_some h
 refine ev_call (era rfl (erD ec206_dd _) eran) (laws_toTableS_s g2) (oF 3 0 rfl ⟨_, rfl⟩ (oS 0 (oL 208 c208_oo v1) [oL 208 c208_oo v1] rfl rfl (en [(2, .box [oL 208 c208_oo []]), (3, .box [oL 208 c208_oo v1])] rfl rfl (ls_rs tbOk (ev_ldBt (off := 0) (v := .agg [oL 208 c208_oo v1]) (c' := .box [dL c208_oo v1]) rfl rfl rfl rfl (nb rfl) rfl rfl (oS 0 (.agg [oL 208 c208_oo v1]) [oL 208 c208_oo v1] rfl rfl (en [(2, .box [oL 208 c208_oo v1])] rfl rfl (ls_ret ?_))))))))
 cases h
 exact ⟨.inl rfl, rfl⟩
def laws_eqIntS_B1 (a0 : List Int) (a1 : List Int) (rec : Int → Option (Sum (Unit) (Bool))) (y1 : Int) : Option (Sum (Unit) (Bool)) := cond (decide (y1 < (List.length a0 : Int))) (obind (geti a0 y1) fun e7 => obind (geti a1 y1) fun e9 => cond (e7 != e9) (some (.inr false)) (rec (IntKind.i64.wrap (y1 + 1)))) (some (.inl ()))
def laws_eqIntS (a0 : List Int) (a1 : List Int) : Option (Bool) := cond ((List.length a0 : Int) != (List.length a1 : Int)) (some false) (obind (loopF (laws_eqIntS_B1 a0 a1) fz 0) fun o1 => (match o1 with
  | .inl _ => (some true)
  | .inr r => some r))
theorem laws_eqIntS_s {a0 : List Int} {a1 : List Int} {r : Bool} (h : laws_eqIntS a0 a1 = some r) : SoundAt Try.prog 19 [dL ci64 a0, dL ci64 a1] (.bool r) := by
 unfold laws_eqIntS at h
 refine sound_lit tbOk lit19 (nb rfl) rfl ?_
 unfold c19
 refine kp [(0, dL ci64 a0), (1, dL ci64 a1)] rfl rfl (ls_rs tbOk (oC nofun rfl (en [(0, dL ci64 a0), (1, dL ci64 a1)] rfl rfl (ls_seq_k fun K1 hK1 => ls_rs tbOk (oM (dL ci64 a0) rfl (oN (dL ci64 a0) rfl (oM (dL ci64 a1) rfl (oN (dL ci64 a1) rfl (oB (nI (List.length a0 : Int)) (nI (List.length a1 : Int)) rfl rfl (en [(0, dL ci64 a0), (1, dL ci64 a1), (10, .bool ((List.length a0 : Int) != (List.length a1 : Int)))] rfl rfl ?_))))))))))
 rcases cond_some h with ⟨g2, h⟩ | ⟨g2, h⟩
 ·refine ls_cT rfl g2 (ls_rs tbOk (oC nofun rfl (en [(4, .bool false)] rfl rfl (ls_ret ?_))))
  cases h
  exact ⟨.inl rfl, rfl⟩
 ·refine ls_cF rfl g2 (ls_skip (hK1 _ (kp [(0, dL ci64 a0), (1, dL ci64 a1)] rfl rfl (ls_seq_k fun K3 hK3 => ls_rs tbOk (oC nofun rfl (en [(0, dL ci64 a0), (1, dL ci64 a1), (5, nI 0)] rfl rfl ?_))))))
  obtain ⟨o1, hl, hr1⟩ := ob_some h
  clear h
  have kXlaws_eqIntS_B1 : ∀ (_ : Unit), (some true) = some r → ∀ σ' : PS, okK σ' [] → K3 σ' := by
   intro _ h σ' hk
   refine hK3 _ (ls_keep [] hk rfl (ls_rs tbOk (oC nofun rfl (en [(4, .bool true)] rfl rfl (ls_ret ?_)))))
   cases h
   exact ⟨.inl rfl, rfl⟩
  refine ls_rec (fun (y1 : Int) => [(0, dL ci64 a0), (1, dL ci64 a1), (5, nI y1)]) (laws_eqIntS_B1 a0 a1) fz 0 o1 hl (okr rfl) (fun _ => rfl) ?_
  rintro m y1 N h hN
  unfold laws_eqIntS_B1 at h
  refine ls_seq_k fun K4 hK4 => ls_rs tbOk (oM (nI y1) rfl (oM (dL ci64 a0) rfl (oN (dL ci64 a0) rfl (oB (nI y1) (nI (List.length a0 : Int)) rfl rfl (en [(0, dL ci64 a0), (1, dL ci64 a1), (5, nI y1), (14, .bool (decide (y1 < (List.length a0 : Int))))] rfl rfl ?_)))))
  rcases cond_some h with ⟨g5, h⟩ | ⟨g5, h⟩
  ·refine ls_cT rfl g5 (ls_skip (hK4 _ (kp [(0, dL ci64 a0), (1, dL ci64 a1), (5, nI y1)] rfl rfl (ls_seq_k fun K6 hK6 => ls_blk (ls_rd tbOk mixed (by kernel_rfl) (ed rfl (oM (dL ci64 a0) rfl (ed rfl (oM (nI y1) rfl (?_))))))))))
   obtain ⟨e7, g8, h⟩ := ob_some h
   refine ed rfl (ev_ia rfl rfl rfl ⟨(geti_some g8).1, (geti_some g8).2.1⟩ (ed rfl (oLE y1 1 0 (nI e7) zci64 g8 rfl (ed rfl (oM (dL ci64 a1) rfl (ed rfl (oM (nI y1) rfl (?_))))))))
   obtain ⟨e9, g10, h⟩ := ob_some h
   refine ed rfl (ev_ia rfl rfl rfl ⟨(geti_some g10).1, (geti_some g10).2.1⟩ (ed rfl (oLE y1 1 0 (nI e9) zci64 g10 rfl (ed rfl (oB (nI e7) (nI e9) rfl rfl (evdn (kp [(0, dL ci64 a0), (1, dL ci64 a1), (5, nI y1), (25, .bool (e7 != e9))] rfl rfl ?_)))))))
   rcases cond_some h with ⟨g11, h⟩ | ⟨g11, h⟩
   ·refine ls_cT rfl g11 (ls_rs tbOk (oC nofun rfl (en [(4, .bool false)] rfl rfl (ls_ret ?_))))
    cases h
    cases hr1
    exact ⟨.inl rfl, rfl⟩
   ·exact ls_cF rfl g11 (ls_skip (hK6 _ (kp [(0, dL ci64 a0), (1, dL ci64 a1), (5, nI y1)] rfl rfl (ls_rgn tbOk (oM (nI y1) rfl (oB (nI y1) (nI 1) rfl rfl (oA (nI (IntKind.i64.wrap (y1 + 1))) rfl (evn (hN _ (IntKind.i64.wrap (y1 + 1)) h (okr rfl))))))))))
  ·exact ls_cF rfl g5 (ls_exit (kXlaws_eqIntS_B1 () (by cases h; exact hr1) _ trivial))
def laws_eqIntSS_B1 (a0 : List (List Int)) (a1 : List (List Int)) (rec : Int → Option (Sum (Unit) (Bool))) (y1 : Int) : Option (Sum (Unit) (Bool)) := cond (decide (y1 < (List.length a0 : Int))) (obind (geti a0 y1) fun e7 => obind (geti a1 y1) fun e9 => obind (laws_eqIntS e7 e9) fun v11 => cond (!v11) (some (.inr false)) (rec (IntKind.i64.wrap (y1 + 1)))) (some (.inl ()))
def laws_eqIntSS (a0 : List (List Int)) (a1 : List (List Int)) : Option (Bool) := cond ((List.length a0 : Int) != (List.length a1 : Int)) (some false) (obind (loopF (laws_eqIntSS_B1 a0 a1) fz 0) fun o1 => (match o1 with
  | .inl _ => (some true)
  | .inr r => some r))
theorem laws_eqIntSS_s {a0 : List (List Int)} {a1 : List (List Int)} {r : Bool} (h : laws_eqIntSS a0 a1 = some r) : SoundAt Try.prog 215 [dL c25_d a0, dL c25_d a1] (.bool r) := by
 unfold laws_eqIntSS at h
 refine sound_lit tbOk lit215 (nb rfl) rfl ?_
 unfold c215
 refine kp [(0, dL c25_d a0), (1, dL c25_d a1)] rfl rfl (ls_rs tbOk (oC nofun rfl (en [(0, dL c25_d a0), (1, dL c25_d a1)] rfl rfl (ls_seq_k fun K1 hK1 => ls_rs tbOk (oM (dL c25_d a0) rfl (oN (dL c25_d a0) rfl (oM (dL c25_d a1) rfl (oN (dL c25_d a1) rfl (oB (nI (List.length a0 : Int)) (nI (List.length a1 : Int)) rfl rfl (en [(0, dL c25_d a0), (1, dL c25_d a1), (10, .bool ((List.length a0 : Int) != (List.length a1 : Int)))] rfl rfl ?_))))))))))
 rcases cond_some h with ⟨g2, h⟩ | ⟨g2, h⟩
 ·refine ls_cT rfl g2 (ls_rs tbOk (oC nofun rfl (en [(4, .bool false)] rfl rfl (ls_ret ?_))))
  cases h
  exact ⟨.inl rfl, rfl⟩
 ·refine ls_cF rfl g2 (ls_skip (hK1 _ (kp [(0, dL c25_d a0), (1, dL c25_d a1)] rfl rfl (ls_seq_k fun K3 hK3 => ls_rs tbOk (oC nofun rfl (en [(0, dL c25_d a0), (1, dL c25_d a1), (5, nI 0)] rfl rfl ?_))))))
  obtain ⟨o1, hl, hr1⟩ := ob_some h
  clear h
  have kXlaws_eqIntSS_B1 : ∀ (_ : Unit), (some true) = some r → ∀ σ' : PS, okK σ' [] → K3 σ' := by
   intro _ h σ' hk
   refine hK3 _ (ls_keep [] hk rfl (ls_rs tbOk (oC nofun rfl (en [(4, .bool true)] rfl rfl (ls_ret ?_)))))
   cases h
   exact ⟨.inl rfl, rfl⟩
  refine ls_rec (fun (y1 : Int) => [(0, dL c25_d a0), (1, dL c25_d a1), (5, nI y1)]) (laws_eqIntSS_B1 a0 a1) fz 0 o1 hl (okr rfl) (fun _ => rfl) ?_
  rintro m y1 N h hN
  unfold laws_eqIntSS_B1 at h
  refine ls_seq_k fun K4 hK4 => ls_rs tbOk (oM (nI y1) rfl (oM (dL c25_d a0) rfl (oN (dL c25_d a0) rfl (oB (nI y1) (nI (List.length a0 : Int)) rfl rfl (en [(0, dL c25_d a0), (1, dL c25_d a1), (5, nI y1), (14, .bool (decide (y1 < (List.length a0 : Int))))] rfl rfl ?_)))))
  rcases cond_some h with ⟨g5, h⟩ | ⟨g5, h⟩
  ·refine ls_cT rfl g5 (ls_skip (hK4 _ (kp [(0, dL c25_d a0), (1, dL c25_d a1), (5, nI y1)] rfl rfl (ls_seq_k fun K6 hK6 => ls_blk (ls_rd tbOk mixed (by kernel_rfl) (ed rfl (oM (dL c25_d a0) rfl (ed rfl (oM (nI y1) rfl (?_))))))))))
   obtain ⟨e7, g8, h⟩ := ob_some h
   refine ed rfl (ev_ia rfl rfl rfl ⟨(geti_some g8).1, (geti_some g8).2.1⟩ (ed rfl (oLE y1 1 0 (dL ci64 e7) zc25_d g8 rfl (ed rfl (oM (dL c25_d a1) rfl (ed rfl (oM (nI y1) rfl (?_))))))))
   obtain ⟨e9, g10, h⟩ := ob_some h
   refine ed rfl (ev_ia rfl rfl rfl ⟨(geti_some g10).1, (geti_some g10).2.1⟩ (ed rfl (oLE y1 1 0 (dL ci64 e9) zc25_d g10 rfl (?_))))
   obtain ⟨v11, g12, h⟩ := ob_some h
   refine ed rfl (ev_call (era rfl (erD eci64 _) (era rfl (erD eci64 _) eran)) (laws_eqIntS_s g12) (ed rfl (ev_un (c1 := .bool v11) rfl trivial (evdn (kp [(0, dL c25_d a0), (1, dL c25_d a1), (5, nI y1), (26, .bool (!v11))] rfl rfl ?_)))))
   rcases cond_some h with ⟨g13, h⟩ | ⟨g13, h⟩
   ·refine ls_cT rfl g13 (ls_rs tbOk (oC nofun rfl (en [(4, .bool false)] rfl rfl (ls_ret ?_))))
    cases h
    cases hr1
    exact ⟨.inl rfl, rfl⟩
   ·exact ls_cF rfl g13 (ls_skip (hK6 _ (kp [(0, dL c25_d a0), (1, dL c25_d a1), (5, nI y1)] rfl rfl (ls_rgn tbOk (oM (nI y1) rfl (oB (nI y1) (nI 1) rfl rfl (oA (nI (IntKind.i64.wrap (y1 + 1))) rfl (evn (hN _ (IntKind.i64.wrap (y1 + 1)) h (okr rfl))))))))))
  ·exact ls_cF rfl g5 (ls_exit (kXlaws_eqIntSS_B1 () (by cases h; exact hr1) _ trivial))
def laws_eqRelation (a0 : Y127) (a1 : Y127) : Option (Bool) := cond (a0.1 != a1.1) (some false) (obind (laws_eqIntSS a0.2 a1.2) fun v4 => cond (!v4) (some false) (some true))
theorem laws_eqRelation_s {a0 : Y127} {a1 : Y127} {r : Bool} (h : laws_eqRelation a0 a1 = some r) : SoundAt Try.prog 238 [.agg (c128_dd a0), .agg (c128_dd a1)] (.bool r) := by
 unfold laws_eqRelation at h
 refine sound_lit tbOk lit238 (nb rfl) rfl ?_
 unfold c238
 refine kp [(0, .agg (c128_dd a0)), (1, .agg (c128_dd a1))] rfl rfl (ls_rs tbOk (oX (.agg (c128_dd a0)) rfl (oX (.agg (c128_dd a1)) rfl (oC nofun rfl (en [(2, .box [nI a0.1, dL c25_d a0.2]), (3, .box [nI a1.1, dL c25_d a1.2])] rfl rfl (ls_seq_k fun K1 hK1 => ls_rs tbOk (oF 2 0 rfl ⟨_, rfl⟩ (oL1 0 (nI a0.1) rfl (oF 3 0 rfl ⟨_, rfl⟩ (oL1 0 (nI a1.1) rfl (oB (nI a0.1) (nI a1.1) rfl rfl (en [(2, .box [nI a0.1, dL c25_d a0.2]), (3, .box [nI a1.1, dL c25_d a1.2]), (9, .bool (a0.1 != a1.1))] rfl rfl ?_))))))))))))
 rcases cond_some h with ⟨g2, h⟩ | ⟨g2, h⟩
 ·refine ls_cT rfl g2 (ls_rs tbOk (oC nofun rfl (en [(4, .bool false)] rfl rfl (ls_ret ?_))))
  cases h
  exact ⟨.inl rfl, rfl⟩
 ·refine ls_cF rfl g2 (ls_skip (hK1 _ (kp [(2, .box [nI a0.1, dL c25_d a0.2]), (3, .box [nI a1.1, dL c25_d a1.2])] rfl rfl (ls_seq_k fun K3 hK3 => ls_rs tbOk (oF 2 0 rfl ⟨_, rfl⟩ (oL1 1 (dL c25_d a0.2) rfl (oF 3 0 rfl ⟨_, rfl⟩ (oL1 1 (dL c25_d a1.2) rfl (?_)))))))))
  obtain ⟨v4, g5, h⟩ := ob_some h
  refine ev_call (era rfl (erD ec25_d _) (era rfl (erD ec25_d _) eran)) (laws_eqIntSS_s g5) (ev_un (c1 := .bool v4) rfl trivial (en [(15, .bool (!v4))] rfl rfl ?_))
  rcases cond_some h with ⟨g6, h⟩ | ⟨g6, h⟩
  ·refine ls_cT rfl g6 (ls_rs tbOk (oC nofun rfl (en [(4, .bool false)] rfl rfl (ls_ret ?_))))
   cases h
   exact ⟨.inl rfl, rfl⟩
  ·refine ls_cF rfl g6 (ls_skip (hK3 _ (kp [] rfl rfl (ls_rs tbOk (oC nofun rfl (en [(4, .bool true)] rfl rfl (ls_ret ?_)))))))
   cases h
   exact ⟨.inl rfl, rfl⟩
def laws_eqTable (a0 : Y207) (a1 : Y207) : Option (Bool) := cond (!(a0.1 == a1.1)) (some false) (obind (laws_eqRelation a0.2 a1.2) fun v4 => cond (!v4) (some false) (some true))
theorem laws_eqTable_s {a0 : Y207} {a1 : Y207} {r : Bool} (h : laws_eqTable a0 a1 = some r) : SoundAt Try.prog 176 [.agg (c208_dd a0), .agg (c208_dd a1)] (.bool r) := by
 unfold laws_eqTable at h
 refine sound_lit tbOk lit176 (nb rfl) rfl ?_
 unfold c176
 refine kp [(0, .agg (c208_dd a0)), (1, .agg (c208_dd a1))] rfl rfl (ls_rs tbOk (oX (.agg (c208_dd a0)) rfl (oX (.agg (c208_dd a1)) rfl (oC nofun rfl (en [(2, .box [.str a0.1, nI a0.2.1, dL c25_d a0.2.2]), (3, .box [.str a1.1, nI a1.2.1, dL c25_d a1.2.2])] rfl rfl (ls_seq_k fun K1 hK1 => ls_rs tbOk (oF 2 0 rfl ⟨_, rfl⟩ (oL1 0 (.str a0.1) rfl (oF 3 0 rfl ⟨_, rfl⟩ (oL1 0 (.str a1.1) rfl (oB (.str a0.1) (.str a1.1) rfl trivial (en [(2, .box [.str a0.1, nI a0.2.1, dL c25_d a0.2.2]), (3, .box [.str a1.1, nI a1.2.1, dL c25_d a1.2.2]), (9, .bool (!(a0.1 == a1.1)))] rfl rfl ?_))))))))))))
 rcases cond_some h with ⟨g2, h⟩ | ⟨g2, h⟩
 ·refine ls_cT rfl g2 (ls_rs tbOk (oC nofun rfl (en [(4, .bool false)] rfl rfl (ls_ret ?_))))
  cases h
  exact ⟨.inl rfl, rfl⟩
 ·refine ls_cF rfl g2 (ls_skip (hK1 _ (kp [(2, .box [.str a0.1, nI a0.2.1, dL c25_d a0.2.2]), (3, .box [.str a1.1, nI a1.2.1, dL c25_d a1.2.2])] rfl rfl (ls_seq_k fun K3 hK3 => ls_rs tbOk (oF 2 0 rfl ⟨_, rfl⟩ (oL1 1 (.agg (c128_dd a0.2)) rfl (oF 3 0 rfl ⟨_, rfl⟩ (oL1 1 (.agg (c128_dd a1.2)) rfl (?_)))))))))
  obtain ⟨v4, g5, h⟩ := ob_some h
  refine ev_call (era rfl (erg (erc rfl (erc (erD ec25_d _) rfl))) (era rfl (erg (erc rfl (erc (erD ec25_d _) rfl))) eran)) (laws_eqRelation_s g5) (ev_un (c1 := .bool v4) rfl trivial (en [(15, .bool (!v4))] rfl rfl ?_))
  rcases cond_some h with ⟨g6, h⟩ | ⟨g6, h⟩
  ·refine ls_cT rfl g6 (ls_rs tbOk (oC nofun rfl (en [(4, .bool false)] rfl rfl (ls_ret ?_))))
   cases h
   exact ⟨.inl rfl, rfl⟩
  ·refine ls_cF rfl g6 (ls_skip (hK3 _ (kp [] rfl rfl (ls_rs tbOk (oC nofun rfl (en [(4, .bool true)] rfl rfl (ls_ret ?_)))))))
   cases h
   exact ⟨.inl rfl, rfl⟩
def laws_eqTableS_B1 (a0 : List Y207) (a1 : List Y207) (rec : Int → Option (Sum (Unit) (Bool))) (y1 : Int) : Option (Sum (Unit) (Bool)) := cond (decide (y1 < (List.length a0 : Int))) (obind (geti a0 y1) fun e7 => obind (geti a1 y1) fun e9 => obind (laws_eqTable e7 e9) fun v11 => cond (!v11) (some (.inr false)) (rec (IntKind.i64.wrap (y1 + 1)))) (some (.inl ()))
def laws_eqTableS (a0 : List Y207) (a1 : List Y207) : Option (Bool) := cond ((List.length a0 : Int) != (List.length a1 : Int)) (some false) (obind (loopF (laws_eqTableS_B1 a0 a1) fz 0) fun o1 => (match o1 with
  | .inl _ => (some true)
  | .inr r => some r))
theorem laws_eqTableS_s {a0 : List Y207} {a1 : List Y207} {r : Bool} (h : laws_eqTableS a0 a1 = some r) : SoundAt Try.prog 82 [dL c208_dd a0, dL c208_dd a1] (.bool r) := by
 unfold laws_eqTableS at h
 refine sound_lit tbOk lit82 (nb rfl) rfl ?_
 unfold c82
 refine kp [(0, dL c208_dd a0), (1, dL c208_dd a1)] rfl rfl (ls_rs tbOk (oC nofun rfl (en [(0, dL c208_dd a0), (1, dL c208_dd a1)] rfl rfl (ls_seq_k fun K1 hK1 => ls_rs tbOk (oM (dL c208_dd a0) rfl (oN (dL c208_dd a0) rfl (oM (dL c208_dd a1) rfl (oN (dL c208_dd a1) rfl (oB (nI (List.length a0 : Int)) (nI (List.length a1 : Int)) rfl rfl (en [(0, dL c208_dd a0), (1, dL c208_dd a1), (10, .bool ((List.length a0 : Int) != (List.length a1 : Int)))] rfl rfl ?_))))))))))
 rcases cond_some h with ⟨g2, h⟩ | ⟨g2, h⟩
 ·refine ls_cT rfl g2 (ls_rs tbOk (oC nofun rfl (en [(4, .bool false)] rfl rfl (ls_ret ?_))))
  cases h
  exact ⟨.inl rfl, rfl⟩
 ·refine ls_cF rfl g2 (ls_skip (hK1 _ (kp [(0, dL c208_dd a0), (1, dL c208_dd a1)] rfl rfl (ls_seq_k fun K3 hK3 => ls_rs tbOk (oC nofun rfl (en [(0, dL c208_dd a0), (1, dL c208_dd a1), (5, nI 0)] rfl rfl ?_))))))
  obtain ⟨o1, hl, hr1⟩ := ob_some h
  clear h
  have kXlaws_eqTableS_B1 : ∀ (_ : Unit), (some true) = some r → ∀ σ' : PS, okK σ' [] → K3 σ' := by
   intro _ h σ' hk
   refine hK3 _ (ls_keep [] hk rfl (ls_rs tbOk (oC nofun rfl (en [(4, .bool true)] rfl rfl (ls_ret ?_)))))
   cases h
   exact ⟨.inl rfl, rfl⟩
  refine ls_rec (fun (y1 : Int) => [(0, dL c208_dd a0), (1, dL c208_dd a1), (5, nI y1)]) (laws_eqTableS_B1 a0 a1) fz 0 o1 hl (okr rfl) (fun _ => rfl) ?_
  rintro m y1 N h hN
  unfold laws_eqTableS_B1 at h
  refine ls_seq_k fun K4 hK4 => ls_rs tbOk (oM (nI y1) rfl (oM (dL c208_dd a0) rfl (oN (dL c208_dd a0) rfl (oB (nI y1) (nI (List.length a0 : Int)) rfl rfl (en [(0, dL c208_dd a0), (1, dL c208_dd a1), (5, nI y1), (14, .bool (decide (y1 < (List.length a0 : Int))))] rfl rfl ?_)))))
  rcases cond_some h with ⟨g5, h⟩ | ⟨g5, h⟩
  ·refine ls_cT rfl g5 (ls_skip (hK4 _ (kp [(0, dL c208_dd a0), (1, dL c208_dd a1), (5, nI y1)] rfl rfl (ls_seq_k fun K6 hK6 => ls_blk (ls_rd tbOk mixed (by kernel_rfl) (ed rfl (oM (dL c208_dd a0) rfl (ed rfl (oM (nI y1) rfl (?_))))))))))
   obtain ⟨e7, g8, h⟩ := ob_some h
   refine ed rfl (ev_ia rfl rfl rfl ⟨(geti_some g8).1, (geti_some g8).2.1⟩ (ed rfl (oLE y1 3 0 (.agg (c208_dd e7)) zc208_dd g8 rfl (ed rfl (oM (dL c208_dd a1) rfl (ed rfl (oM (nI y1) rfl (?_))))))))
   obtain ⟨e9, g10, h⟩ := ob_some h
   refine ed rfl (ev_ia rfl rfl rfl ⟨(geti_some g10).1, (geti_some g10).2.1⟩ (ed rfl (oLE y1 3 0 (.agg (c208_dd e9)) zc208_dd g10 rfl (?_))))
   obtain ⟨v11, g12, h⟩ := ob_some h
   refine ed rfl (ev_call (era rfl (erg (erc rfl (erc rfl (erc (erD ec25_d _) rfl)))) (era rfl (erg (erc rfl (erc rfl (erc (erD ec25_d _) rfl)))) eran)) (laws_eqTable_s g12) (ed rfl (ev_un (c1 := .bool v11) rfl trivial (evdn (kp [(0, dL c208_dd a0), (1, dL c208_dd a1), (5, nI y1), (26, .bool (!v11))] rfl rfl ?_)))))
   rcases cond_some h with ⟨g13, h⟩ | ⟨g13, h⟩
   ·refine ls_cT rfl g13 (ls_rs tbOk (oC nofun rfl (en [(4, .bool false)] rfl rfl (ls_ret ?_))))
    cases h
    cases hr1
    exact ⟨.inl rfl, rfl⟩
   ·exact ls_cF rfl g13 (ls_skip (hK6 _ (kp [(0, dL c208_dd a0), (1, dL c208_dd a1), (5, nI y1)] rfl rfl (ls_rgn tbOk (oM (nI y1) rfl (oB (nI y1) (nI 1) rfl rfl (oA (nI (IntKind.i64.wrap (y1 + 1))) rfl (evn (hN _ (IntKind.i64.wrap (y1 + 1)) h (okr rfl))))))))))
  ·exact ls_cF rfl g5 (ls_exit (kXlaws_eqTableS_B1 () (by cases h; exact hr1) _ trivial))
def laws_eqDatabase (a0 : List Y207) (a1 : List Y207) : Option (Bool) := obind (laws_eqTableS a0 a1) fun v2 => cond (!v2) (some false) (some true)
theorem laws_eqDatabase_s {a0 : List Y207} {a1 : List Y207} {r : Bool} (h : laws_eqDatabase a0 a1 = some r) : SoundAt Try.prog 20 [.agg [dL c208_dd a0], .agg [dL c208_dd a1]] (.bool r) := by
 unfold laws_eqDatabase at h
 refine sound_lit tbOk lit20 (nb rfl) rfl ?_
 unfold c20
 refine kp [(0, .agg [dL c208_dd a0]), (1, .agg [dL c208_dd a1])] rfl rfl (ls_rs tbOk (oX (.agg [dL c208_dd a0]) rfl (oX (.agg [dL c208_dd a1]) rfl (oC nofun rfl (en [(2, .box [dL c208_dd a0]), (3, .box [dL c208_dd a1])] rfl rfl (ls_seq_k fun K1 hK1 => ls_rs tbOk (oF 2 0 rfl ⟨_, rfl⟩ (oL1 0 (dL c208_dd a0) rfl (oF 3 0 rfl ⟨_, rfl⟩ (oL1 0 (dL c208_dd a1) rfl (?_)))))))))))
 obtain ⟨v2, g3, h⟩ := ob_some h
 refine ev_call (era rfl (erD ec208_dd _) (era rfl (erD ec208_dd _) eran)) (laws_eqTableS_s g3) (ev_un (c1 := .bool v2) rfl trivial (en [(10, .bool (!v2))] rfl rfl ?_))
 rcases cond_some h with ⟨g4, h⟩ | ⟨g4, h⟩
 ·refine ls_cT rfl g4 (ls_rs tbOk (oC nofun rfl (en [(4, .bool false)] rfl rfl (ls_ret ?_))))
  cases h
  exact ⟨.inl rfl, rfl⟩
 ·refine ls_cF rfl g4 (ls_skip (hK1 _ (kp [] rfl rfl (ls_rs tbOk (oC nofun rfl (en [(4, .bool true)] rfl rfl (ls_ret ?_)))))))
  cases h
  exact ⟨.inl rfl, rfl⟩
abbrev Y194 := (List UInt8) × (List Int)
def c231_d (x : Y194) : List V := [.str x.1, dL ci64 x.2]
theorem zc231_d (x : Y194) : (c231_d x).length = 2 := rfl
theorem ec231_d (x : Y194) : erL (c231_d x) = c231_d x := (erc rfl (erc (erD eci64 _) rfl))
def laws_szAtom (a0 : Y194) (a1 : Int) : Option (Int) := cond (decide ((IntKind.i64.wrap (a1 - (List.length a0.1 : Int))) < 0)) (some (-1)) (obind (laws_szIntS a0.2 (IntKind.i64.wrap (a1 - (List.length a0.1 : Int)))) fun v3 => cond (decide (v3 < 0)) (some (-1)) (some v3))
theorem laws_szAtom_s {a0 : Y194} {a1 : Int} {r : Int} (h : laws_szAtom a0 a1 = some r) : SoundAt Try.prog 198 [.agg (c231_d a0), nI a1] (nI r) := by
 unfold laws_szAtom at h
 refine sound_lit tbOk lit198 (nb rfl) rfl ?_
 unfold c198
 refine kp [(0, .agg (c231_d a0)), (1, nI a1)] rfl rfl (ls_rs tbOk (oX (.agg (c231_d a0)) rfl (oC nofun rfl (en [(1, nI a1), (2, .box [.str a0.1, dL ci64 a0.2])] rfl rfl (ls_rs tbOk (oM (nI a1) rfl (oF 2 0 rfl ⟨_, rfl⟩ (oL1 0 (.str a0.1) rfl (ev_lens (z := []) rfl rfl (oB (nI a1) (nI (List.length a0.1 : Int)) rfl rfl (oA (nI (IntKind.i64.wrap (a1 - (List.length a0.1 : Int)))) rfl (en [(1, nI (IntKind.i64.wrap (a1 - (List.length a0.1 : Int)))), (2, .box [.str a0.1, dL ci64 a0.2])] rfl rfl (ls_seq_k fun K1 hK1 => ls_rs tbOk (oM (nI (IntKind.i64.wrap (a1 - (List.length a0.1 : Int)))) rfl (oB (nI (IntKind.i64.wrap (a1 - (List.length a0.1 : Int)))) (nI 0) rfl rfl (en [(1, nI (IntKind.i64.wrap (a1 - (List.length a0.1 : Int)))), (2, .box [.str a0.1, dL ci64 a0.2]), (11, .bool (decide ((IntKind.i64.wrap (a1 - (List.length a0.1 : Int))) < 0)))] rfl rfl ?_))))))))))))))))
 rcases cond_some h with ⟨g2, h⟩ | ⟨g2, h⟩
 ·refine ls_cT rfl g2 (ls_rs tbOk (oC nofun rfl (en [(4, nI (-1))] rfl rfl (ls_ret ?_))))
  cases h
  exact ⟨.inl rfl, rfl⟩
 ·refine ls_cF rfl g2 (ls_skip (hK1 _ (kp [(1, nI (IntKind.i64.wrap (a1 - (List.length a0.1 : Int)))), (2, .box [.str a0.1, dL ci64 a0.2])] rfl rfl (ls_rs tbOk (oF 2 0 rfl ⟨_, rfl⟩ (oL1 1 (dL ci64 a0.2) rfl (oM (nI (IntKind.i64.wrap (a1 - (List.length a0.1 : Int)))) rfl (?_))))))))
  obtain ⟨v3, g4, h⟩ := ob_some h
  refine ev_call (era rfl (erD eci64 _) (era rfl rfl eran)) (laws_szIntS_s g4) (oA (nI v3) rfl (en [(1, nI v3)] rfl rfl (ls_seq_k fun K5 hK5 => ls_rs tbOk (oM (nI v3) rfl (oB (nI v3) (nI 0) rfl rfl (en [(1, nI v3), (17, .bool (decide (v3 < 0)))] rfl rfl ?_))))))
  rcases cond_some h with ⟨g6, h⟩ | ⟨g6, h⟩
  ·refine ls_cT rfl g6 (ls_rs tbOk (oC nofun rfl (en [(4, nI (-1))] rfl rfl (ls_ret ?_))))
   cases h
   exact ⟨.inl rfl, rfl⟩
  ·refine ls_cF rfl g6 (ls_skip (hK5 _ (kp [(1, nI v3)] rfl rfl (ls_rs tbOk (oM (nI v3) rfl (oA (nI v3) rfl (en [(4, nI v3)] rfl rfl (ls_ret ?_))))))))
   cases h
   exact ⟨.inl rfl, rfl⟩
def laws_szAtomS_B1 (a0 : List Y194) (rec : (Int × Int) → Option (Sum (Int) (Int))) (s : Int × Int) : Option (Sum (Int) (Int)) := match s with
  | (y1, y2) => cond (decide (y2 < (List.length a0 : Int))) (obind (geti a0 y2) fun e8 => obind (laws_szAtom e8 y1) fun v10 => cond (decide (v10 < 0)) (some (.inr (-1))) (rec (v10, (IntKind.i64.wrap (y2 + 1))))) (some (.inl y1))
def laws_szAtomS (a0 : List Y194) (a1 : Int) : Option (Int) := cond (decide ((IntKind.i64.wrap (a1 - (List.length a0 : Int))) < 0)) (some (-1)) (obind (loopF (laws_szAtomS_B1 a0) fz ((IntKind.i64.wrap (a1 - (List.length a0 : Int))), 0)) fun o1 => (match o1 with
  | .inl z4 => (some z4)
  | .inr r => some r))
theorem laws_szAtomS_s {a0 : List Y194} {a1 : Int} {r : Int} (h : laws_szAtomS a0 a1 = some r) : SoundAt Try.prog 120 [dL c231_d a0, nI a1] (nI r) := by
 unfold laws_szAtomS at h
 refine sound_lit tbOk lit120 (nb rfl) rfl ?_
 unfold c120
 refine kp [(0, dL c231_d a0), (1, nI a1)] rfl rfl (ls_rs tbOk (oC nofun rfl (en [(0, dL c231_d a0), (1, nI a1)] rfl rfl (ls_rs tbOk (oM (nI a1) rfl (oM (dL c231_d a0) rfl (oN (dL c231_d a0) rfl (oB (nI a1) (nI (List.length a0 : Int)) rfl rfl (oA (nI (IntKind.i64.wrap (a1 - (List.length a0 : Int)))) rfl (en [(0, dL c231_d a0), (1, nI (IntKind.i64.wrap (a1 - (List.length a0 : Int))))] rfl rfl (ls_seq_k fun K1 hK1 => ls_rs tbOk (oM (nI (IntKind.i64.wrap (a1 - (List.length a0 : Int)))) rfl (oB (nI (IntKind.i64.wrap (a1 - (List.length a0 : Int)))) (nI 0) rfl rfl (en [(0, dL c231_d a0), (1, nI (IntKind.i64.wrap (a1 - (List.length a0 : Int)))), (11, .bool (decide ((IntKind.i64.wrap (a1 - (List.length a0 : Int))) < 0)))] rfl rfl ?_))))))))))))))
 rcases cond_some h with ⟨g2, h⟩ | ⟨g2, h⟩
 ·refine ls_cT rfl g2 (ls_rs tbOk (oC nofun rfl (en [(4, nI (-1))] rfl rfl (ls_ret ?_))))
  cases h
  exact ⟨.inl rfl, rfl⟩
 ·refine ls_cF rfl g2 (ls_skip (hK1 _ (kp [(0, dL c231_d a0), (1, nI (IntKind.i64.wrap (a1 - (List.length a0 : Int))))] rfl rfl (ls_seq_k fun K3 hK3 => ls_rs tbOk (oC nofun rfl (en [(0, dL c231_d a0), (1, nI (IntKind.i64.wrap (a1 - (List.length a0 : Int)))), (5, nI 0)] rfl rfl ?_))))))
  obtain ⟨o1, hl, hr1⟩ := ob_some h
  clear h
  have kXlaws_szAtomS_B1 : ∀ (z4 : Int), (some z4) = some r → ∀ σ' : PS, okK σ' [(1, nI z4)] → K3 σ' := by
   intro z4 h σ' hk
   refine hK3 _ (ls_keep [(1, nI z4)] hk rfl (ls_rs tbOk (oM (nI z4) rfl (oA (nI z4) rfl (en [(4, nI z4)] rfl rfl (ls_ret ?_))))))
   cases h
   exact ⟨.inl rfl, rfl⟩
  refine ls_rec (fun (s : Int × Int) => match s with | (y1, y2) => [(0, dL c231_d a0), (1, nI y1), (5, nI y2)]) (laws_szAtomS_B1 a0) fz ((IntKind.i64.wrap (a1 - (List.length a0 : Int))), 0) o1 hl (okr rfl) (fun _ => rfl) ?_
  rintro m ⟨y1, y2⟩ N h hN
  unfold laws_szAtomS_B1 at h
  dsimp only at h
  refine ls_seq_k fun K5 hK5 => ls_rs tbOk (oM (nI y2) rfl (oM (dL c231_d a0) rfl (oN (dL c231_d a0) rfl (oB (nI y2) (nI (List.length a0 : Int)) rfl rfl (en [(0, dL c231_d a0), (1, nI y1), (5, nI y2), (15, .bool (decide (y2 < (List.length a0 : Int))))] rfl rfl ?_)))))
  rcases cond_some h with ⟨g6, h⟩ | ⟨g6, h⟩
  ·refine ls_cT rfl g6 (ls_skip (hK5 _ (kp [(0, dL c231_d a0), (1, nI y1), (5, nI y2)] rfl rfl (ls_seq_k fun K7 hK7 => ls_blk (ls_rs tbOk (oM (dL c231_d a0) rfl (oM (nI y2) rfl (?_))))))))
   obtain ⟨e8, g9, h⟩ := ob_some h
   refine ev_ia rfl rfl rfl ⟨(geti_some g9).1, (geti_some g9).2.1⟩ (oLE y2 2 0 (.agg (c231_d e8)) zc231_d g9 rfl (oM (nI y1) rfl (?_)))
   obtain ⟨v10, g11, h⟩ := ob_some h
   refine ev_call (era rfl (erg (erc rfl (erc (erD eci64 _) rfl))) (era rfl rfl eran)) (laws_szAtom_s g11) (oA (nI v10) rfl (en [(0, dL c231_d a0), (1, nI v10), (5, nI y2)] rfl rfl (ls_rs tbOk (oM (nI v10) rfl (oB (nI v10) (nI 0) rfl rfl (en [(0, dL c231_d a0), (1, nI v10), (5, nI y2), (25, .bool (decide (v10 < 0)))] rfl rfl ?_))))))
   rcases cond_some h with ⟨g12, h⟩ | ⟨g12, h⟩
   ·refine ls_cT rfl g12 (ls_rs tbOk (oC nofun rfl (en [(4, nI (-1))] rfl rfl (ls_ret ?_))))
    cases h
    cases hr1
    exact ⟨.inl rfl, rfl⟩
   ·exact ls_cF rfl g12 (ls_skip (hK7 _ (kp [(0, dL c231_d a0), (1, nI v10), (5, nI y2)] rfl rfl (ls_rgn tbOk (oM (nI y2) rfl (oB (nI y2) (nI 1) rfl rfl (oA (nI (IntKind.i64.wrap (y2 + 1))) rfl (evn (hN _ (v10, (IntKind.i64.wrap (y2 + 1))) h (okr rfl))))))))))
  ·exact ls_cF rfl g6 (ls_exit (kXlaws_szAtomS_B1 y1 (by cases h; exact hr1) _ (okr rfl)))
abbrev Y78 := Int × (List Y194) × (List Int)
def c79_ddd (x : Y78) : List V := [nI x.1, dL c231_d x.2.1, dL ci64 x.2.2]
theorem zc79_ddd (x : Y78) : (c79_ddd x).length = 3 := rfl
theorem ec79_ddd (x : Y78) : erL (c79_ddd x) = c79_ddd x := (erc rfl (erc (erD ec231_d _) (erc (erD eci64 _) rfl)))
def laws_szQuery (a0 : Y78) (a1 : Int) : Option (Int) := obind (laws_szAtomS a0.2.1 a1) fun v1 => cond (decide (v1 < 0)) (some (-1)) (obind (laws_szIntS a0.2.2 v1) fun v5 => cond (decide (v5 < 0)) (some (-1)) (some v5))
theorem laws_szQuery_s {a0 : Y78} {a1 : Int} {r : Int} (h : laws_szQuery a0 a1 = some r) : SoundAt Try.prog 43 [.agg (c79_ddd a0), nI a1] (nI r) := by
 unfold laws_szQuery at h
 refine sound_lit tbOk lit43 (nb rfl) rfl ?_
 unfold c43
 refine kp [(0, .agg (c79_ddd a0)), (1, nI a1)] rfl rfl (ls_rs tbOk (oX (.agg (c79_ddd a0)) rfl (oC nofun rfl (en [(1, nI a1), (2, .box [nI a0.1, dL c231_d a0.2.1, dL ci64 a0.2.2])] rfl rfl (ls_rs tbOk (oF 2 0 rfl ⟨_, rfl⟩ (oL1 1 (dL c231_d a0.2.1) rfl (oM (nI a1) rfl (?_)))))))))
 obtain ⟨v1, g2, h⟩ := ob_some h
 refine ev_call (era rfl (erD ec231_d _) (era rfl rfl eran)) (laws_szAtomS_s g2) (oA (nI v1) rfl (en [(1, nI v1), (2, .box [nI a0.1, dL c231_d a0.2.1, dL ci64 a0.2.2])] rfl rfl (ls_seq_k fun K3 hK3 => ls_rs tbOk (oM (nI v1) rfl (oB (nI v1) (nI 0) rfl rfl (en [(1, nI v1), (2, .box [nI a0.1, dL c231_d a0.2.1, dL ci64 a0.2.2]), (10, .bool (decide (v1 < 0)))] rfl rfl ?_))))))
 rcases cond_some h with ⟨g4, h⟩ | ⟨g4, h⟩
 ·refine ls_cT rfl g4 (ls_rs tbOk (oC nofun rfl (en [(4, nI (-1))] rfl rfl (ls_ret ?_))))
  cases h
  exact ⟨.inl rfl, rfl⟩
 ·refine ls_cF rfl g4 (ls_skip (hK3 _ (kp [(1, nI v1), (2, .box [nI a0.1, dL c231_d a0.2.1, dL ci64 a0.2.2])] rfl rfl (ls_rs tbOk (oF 2 0 rfl ⟨_, rfl⟩ (oL1 2 (dL ci64 a0.2.2) rfl (oM (nI v1) rfl (?_))))))))
  obtain ⟨v5, g6, h⟩ := ob_some h
  refine ev_call (era rfl (erD eci64 _) (era rfl rfl eran)) (laws_szIntS_s g6) (oA (nI v5) rfl (en [(1, nI v5)] rfl rfl (ls_seq_k fun K7 hK7 => ls_rs tbOk (oM (nI v5) rfl (oB (nI v5) (nI 0) rfl rfl (en [(1, nI v5), (16, .bool (decide (v5 < 0)))] rfl rfl ?_))))))
  rcases cond_some h with ⟨g8, h⟩ | ⟨g8, h⟩
  ·refine ls_cT rfl g8 (ls_rs tbOk (oC nofun rfl (en [(4, nI (-1))] rfl rfl (ls_ret ?_))))
   cases h
   exact ⟨.inl rfl, rfl⟩
  ·refine ls_cF rfl g8 (ls_skip (hK7 _ (kp [(1, nI v5)] rfl rfl (ls_rs tbOk (oM (nI v5) rfl (oA (nI v5) rfl (en [(4, nI v5)] rfl rfl (ls_ret ?_))))))))
   cases h
   exact ⟨.inl rfl, rfl⟩
def c195_d (x : Y194) : List V := [.str x.1, dL ci64 x.2]
theorem zc195_d (x : Y194) : (c195_d x).length = 2 := rfl
theorem ec195_d (x : Y194) : erL (c195_d x) = c195_d x := (erc rfl (erc (erD eci64 _) rfl))
def c195_o (x : Y194) : List V := [.str x.1, oL 3 ci64 x.2]
theorem zc195_o (x : Y194) : (c195_o x).length = 2 := rfl
theorem ec195_o (x : Y194) : erL (c195_o x) = c195_d x := (erc rfl (erc (erO eci64 _) rfl))
def laws_toAtom (a0 : Y194) : Option (Y194) := obind (laws_toIntS a0.2) fun v1 => some (a0.1, v1)
theorem laws_toAtom_s {a0 : Y194} {r : Y194} (h : laws_toAtom a0 = some r) : SoundAt Try.prog 207 [.agg (c231_d a0)] (.agg (c195_o r)) := by
 unfold laws_toAtom at h
 refine sound_lit tbOk lit207 (nb rfl) rfl ?_
 unfold c207
 refine kp [(0, .agg (c231_d a0))] rfl rfl (ls_rs tbOk (oX (.agg (c231_d a0)) rfl (ev_al rfl rfl (en [(1, .box [.str a0.1, dL ci64 a0.2]), (2, .box [.str [], oL 3 ci64 []])] rfl rfl (ls_rs tbOk (ev_al rfl rfl (en [(1, .box [.str a0.1, dL ci64 a0.2]), (2, .box [.str [], oL 3 ci64 []]), (3, .box [.str [], oL 3 ci64 []])] rfl rfl (ls_rs tbOk (oF 1 0 rfl ⟨_, rfl⟩ (oL1 0 (.str a0.1) rfl (oF 3 0 rfl ⟨_, rfl⟩ (oS 0 (.str a0.1) [.str a0.1, oL 3 ci64 []] rfl rfl (en [(1, .box [.str a0.1, dL ci64 a0.2]), (2, .box [.str [], oL 3 ci64 []]), (3, .box [.str a0.1, oL 3 ci64 []])] rfl rfl (ls_rs tbOk (oF 1 0 rfl ⟨_, rfl⟩ (oL1 1 (dL ci64 a0.2) rfl (?_)))))))))))))))))
 obtain ⟨v1, g2, h⟩ := ob_some h
 refine ev_call (era rfl (erD eci64 _) eran) (laws_toIntS_s g2) (oF 3 0 rfl ⟨_, rfl⟩ (oS 1 (oL 3 ci64 v1) [.str a0.1, oL 3 ci64 v1] rfl rfl (en [(2, .box [.str [], oL 3 ci64 []]), (3, .box [.str a0.1, oL 3 ci64 v1])] rfl rfl (ls_rs tbOk (ev_ldBt (off := 0) (v := .agg [.str a0.1, oL 3 ci64 v1]) (c' := .box [.str a0.1, dL ci64 v1]) rfl rfl rfl rfl (nb rfl) rfl rfl (oS 0 (.agg [.str a0.1, oL 3 ci64 v1]) [.str a0.1, oL 3 ci64 v1] rfl rfl (en [(2, .box [.str a0.1, oL 3 ci64 v1])] rfl rfl (ls_ret ?_))))))))
 cases h
 exact ⟨.inl rfl, rfl⟩
def laws_toAtomS_B1 (a0 : List Y194) (rec : ((List Y194) × Int) → Option ((List Y194))) (s : (List Y194) × Int) : Option ((List Y194)) := match s with
  | (y1, y2) => cond (decide (y2 < (List.length a0 : Int))) (obind (geti a0 y2) fun e7 => obind (laws_toAtom e7) fun v9 => obind (geti y1 y2) fun e11 => rec ((seti y1 y2 v9), (IntKind.i64.wrap (y2 + 1)))) (some y1)
def laws_toAtomS (a0 : List Y194) : Option ((List Y194)) := chk ((0 : Int) ≤ (List.length a0 : Int) ∧ Int.toNat (List.length a0 : Int) ≤ lim) (obind (loopF (laws_toAtomS_B1 a0) fz ((List.replicate (Int.toNat (List.length a0 : Int)) (([], []) : Y194)), 0)) fun z3 => some z3)
theorem laws_toAtomS_s {a0 : List Y194} {r : (List Y194)} (h : laws_toAtomS a0 = some r) : SoundAt Try.prog 126 [dL c231_d a0] (oL 195 c195_o r) := by
 unfold laws_toAtomS at h
 refine sound_lit tbOk lit126 (nb rfl) rfl ?_
 unfold c126
 refine kp [(0, dL c231_d a0)] rfl rfl (ls_rs tbOk (ev_an rfl rfl (en [(0, dL c231_d a0)] rfl rfl (ls_rs tbOk (oM (dL c231_d a0) rfl (oN (dL c231_d a0) rfl (?_)))))))
 obtain ⟨g1, h⟩ := chk_some h
 refine ev_mku (f := c195_o) (z := (([], []) : Y194)) rfl rfl rfl rfl rfl rfl g1 rfl (ev_asu rfl rfl rfl (en [(0, dL c231_d a0), (3, wL 195 c195_o (List.replicate (Int.toNat (List.length a0 : Int)) (([], []) : Y194)))] rfl rfl (ls_seq_k fun K2 hK2 => ls_rs tbOk (oC nofun rfl (en [(0, dL c231_d a0), (3, wL 195 c195_o (List.replicate (Int.toNat (List.length a0 : Int)) (([], []) : Y194))), (4, nI 0)] rfl rfl ?_)))))
 obtain ⟨o1, hl, hr1⟩ := ob_some h
 clear h
 have kXlaws_toAtomS_B1 : ∀ (z3 : List Y194), (some z3) = some r → ∀ σ' : PS, okK σ' [(3, wL 195 c195_o z3)] → K2 σ' := by
  intro z3 h σ' hk
  refine hK2 _ (ls_keep [(3, wL 195 c195_o z3)] hk rfl (ls_rs tbOk (ev_mvtu rfl rfl (oA (oL 195 c195_o z3) rfl (en [(2, oL 195 c195_o z3)] rfl rfl (ls_ret ?_))))))
  cases h
  exact ⟨.inl rfl, rfl⟩
 refine ls_rec (fun (s : (List Y194) × Int) => match s with | (y1, y2) => [(0, dL c231_d a0), (3, wL 195 c195_o y1), (4, nI y2)]) (laws_toAtomS_B1 a0) fz ((List.replicate (Int.toNat (List.length a0 : Int)) (([], []) : Y194)), 0) o1 hl (okr rfl) (fun _ => rfl) ?_
 rintro m ⟨y1, y2⟩ N h hN
 unfold laws_toAtomS_B1 at h
 dsimp only at h
 refine ls_seq_k fun K4 hK4 => ls_rs tbOk (oM (nI y2) rfl (oM (dL c231_d a0) rfl (oN (dL c231_d a0) rfl (oB (nI y2) (nI (List.length a0 : Int)) rfl rfl (en [(0, dL c231_d a0), (3, wL 195 c195_o y1), (4, nI y2), (11, .bool (decide (y2 < (List.length a0 : Int))))] rfl rfl ?_)))))
 rcases cond_some h with ⟨g5, h⟩ | ⟨g5, h⟩
 ·refine ls_cT rfl g5 (ls_skip (hK4 _ (kp [(0, dL c231_d a0), (3, wL 195 c195_o y1), (4, nI y2)] rfl rfl (ls_seq_k fun K6 hK6 => ls_blk (ls_rgn tbOk (ev_mvu rfl rfl (oM (nI y2) rfl (oM (dL c231_d a0) rfl (oM (nI y2) rfl (?_))))))))))
  obtain ⟨e7, g8, h⟩ := ob_some h
  refine ev_ia rfl rfl rfl ⟨(geti_some g8).1, (geti_some g8).2.1⟩ (oLE y2 2 0 (.agg (c231_d e7)) zc231_d g8 rfl (?_))
  obtain ⟨v9, g10, h⟩ := ob_some h
  refine ev_call (era rfl (erg (erc rfl (erc (erD eci64 _) rfl))) eran) (laws_toAtom_s g10) (?_)
  obtain ⟨e11, g12, h⟩ := ob_some h
  exact ev_iau rfl rfl rfl rfl ⟨(geti_some g12).1, (geti_some g12).2.1⟩ (ev_stu (e := v9) (c1 := .agg (c195_o v9)) rfl rfl zc195_o ⟨(geti_some g12).1, (geti_some g12).2.1⟩ rfl rfl rfl rfl rfl (evn (hK6 _ (kp [(0, dL c231_d a0), (3, wL 195 c195_o (seti y1 y2 v9)), (4, nI y2)] rfl rfl (ls_rgn tbOk (oM (nI y2) rfl (oB (nI y2) (nI 1) rfl rfl (oA (nI (IntKind.i64.wrap (y2 + 1))) rfl (evn (hN _ ((seti y1 y2 v9), (IntKind.i64.wrap (y2 + 1))) h (okr rfl)))))))))))
 ·exact ls_cF rfl g5 (ls_exit (kXlaws_toAtomS_B1 y1 (by cases h; exact hr1) _ (okr rfl)))
abbrev Y91 := Int × (List Y194) × (List Int)
def c92_ddd (x : Y91) : List V := [nI x.1, dL c195_d x.2.1, dL ci64 x.2.2]
theorem zc92_ddd (x : Y91) : (c92_ddd x).length = 3 := rfl
theorem ec92_ddd (x : Y91) : erL (c92_ddd x) = c92_ddd x := (erc rfl (erc (erD ec195_d _) (erc (erD eci64 _) rfl)))
def c92_ooo (x : Y91) : List V := [nI x.1, oL 195 c195_o x.2.1, oL 3 ci64 x.2.2]
theorem zc92_ooo (x : Y91) : (c92_ooo x).length = 3 := rfl
theorem ec92_ooo (x : Y91) : erL (c92_ooo x) = c92_ddd x := (erc rfl (erc (erO ec195_o _) (erc (erO eci64 _) rfl)))
def laws_toQuery (a0 : Y78) : Option (Y91) := obind (laws_toAtomS a0.2.1) fun v1 => obind (laws_toIntS a0.2.2) fun v3 => some (a0.1, v1, v3)
theorem laws_toQuery_s {a0 : Y78} {r : Y91} (h : laws_toQuery a0 = some r) : SoundAt Try.prog 46 [.agg (c79_ddd a0)] (.agg (c92_ooo r)) := by
 unfold laws_toQuery at h
 refine sound_lit tbOk lit46 (nb rfl) rfl ?_
 unfold c46
 refine kp [(0, .agg (c79_ddd a0))] rfl rfl (ls_rs tbOk (oX (.agg (c79_ddd a0)) rfl (ev_al rfl rfl (en [(1, .box [nI a0.1, dL c231_d a0.2.1, dL ci64 a0.2.2]), (2, .box [nI 0, oL 195 c195_o [], oL 3 ci64 []])] rfl rfl (ls_rs tbOk (ev_al rfl rfl (en [(1, .box [nI a0.1, dL c231_d a0.2.1, dL ci64 a0.2.2]), (2, .box [nI 0, oL 195 c195_o [], oL 3 ci64 []]), (3, .box [nI 0, oL 195 c195_o [], oL 3 ci64 []])] rfl rfl (ls_rs tbOk (oF 1 0 rfl ⟨_, rfl⟩ (oL1 0 (nI a0.1) rfl (oF 3 0 rfl ⟨_, rfl⟩ (oS 0 (nI a0.1) [nI a0.1, oL 195 c195_o [], oL 3 ci64 []] rfl rfl (en [(1, .box [nI a0.1, dL c231_d a0.2.1, dL ci64 a0.2.2]), (2, .box [nI 0, oL 195 c195_o [], oL 3 ci64 []]), (3, .box [nI a0.1, oL 195 c195_o [], oL 3 ci64 []])] rfl rfl (ls_rs tbOk (oF 1 0 rfl ⟨_, rfl⟩ (oL1 1 (dL c231_d a0.2.1) rfl (?_)))))))))))))))))
 obtain ⟨v1, g2, h⟩ := ob_some h
 refine ev_call (era rfl (erD ec231_d _) eran) (laws_toAtomS_s g2) (oF 3 0 rfl ⟨_, rfl⟩ (oS 1 (oL 195 c195_o v1) [nI a0.1, oL 195 c195_o v1, oL 3 ci64 []] rfl rfl (en [(1, .box [nI a0.1, dL c231_d a0.2.1, dL ci64 a0.2.2]), (2, .box [nI 0, oL 195 c195_o [], oL 3 ci64 []]), (3, .box [nI a0.1, oL 195 c195_o v1, oL 3 ci64 []])] rfl rfl (ls_rs tbOk (oF 1 0 rfl ⟨_, rfl⟩ (oL1 2 (dL ci64 a0.2.2) rfl (?_)))))))
 obtain ⟨v3, g4, h⟩ := ob_some h
 refine ev_call (era rfl (erD eci64 _) eran) (laws_toIntS_s g4) (oF 3 0 rfl ⟨_, rfl⟩ (oS 2 (oL 3 ci64 v3) [nI a0.1, oL 195 c195_o v1, oL 3 ci64 v3] rfl rfl (en [(2, .box [nI 0, oL 195 c195_o [], oL 3 ci64 []]), (3, .box [nI a0.1, oL 195 c195_o v1, oL 3 ci64 v3])] rfl rfl (ls_rs tbOk (ev_ldBt (off := 0) (v := .agg [nI a0.1, oL 195 c195_o v1, oL 3 ci64 v3]) (c' := .box [nI a0.1, dL c195_o v1, dL ci64 v3]) rfl rfl rfl rfl (nb rfl) rfl rfl (oS 0 (.agg [nI a0.1, oL 195 c195_o v1, oL 3 ci64 v3]) [nI a0.1, oL 195 c195_o v1, oL 3 ci64 v3] rfl rfl (en [(2, .box [nI a0.1, oL 195 c195_o v1, oL 3 ci64 v3])] rfl rfl (ls_ret ?_))))))))
 cases h
 exact ⟨.inl rfl, rfl⟩
def laws_eqAtom (a0 : Y194) (a1 : Y194) : Option (Bool) := cond (!(a0.1 == a1.1)) (some false) (obind (laws_eqIntS a0.2 a1.2) fun v4 => cond (!v4) (some false) (some true))
theorem laws_eqAtom_s {a0 : Y194} {a1 : Y194} {r : Bool} (h : laws_eqAtom a0 a1 = some r) : SoundAt Try.prog 214 [.agg (c195_d a0), .agg (c195_d a1)] (.bool r) := by
 unfold laws_eqAtom at h
 refine sound_lit tbOk lit214 (nb rfl) rfl ?_
 unfold c214
 refine kp [(0, .agg (c195_d a0)), (1, .agg (c195_d a1))] rfl rfl (ls_rs tbOk (oX (.agg (c195_d a0)) rfl (oX (.agg (c195_d a1)) rfl (oC nofun rfl (en [(2, .box [.str a0.1, dL ci64 a0.2]), (3, .box [.str a1.1, dL ci64 a1.2])] rfl rfl (ls_seq_k fun K1 hK1 => ls_rs tbOk (oF 2 0 rfl ⟨_, rfl⟩ (oL1 0 (.str a0.1) rfl (oF 3 0 rfl ⟨_, rfl⟩ (oL1 0 (.str a1.1) rfl (oB (.str a0.1) (.str a1.1) rfl trivial (en [(2, .box [.str a0.1, dL ci64 a0.2]), (3, .box [.str a1.1, dL ci64 a1.2]), (9, .bool (!(a0.1 == a1.1)))] rfl rfl ?_))))))))))))
 rcases cond_some h with ⟨g2, h⟩ | ⟨g2, h⟩
 ·refine ls_cT rfl g2 (ls_rs tbOk (oC nofun rfl (en [(4, .bool false)] rfl rfl (ls_ret ?_))))
  cases h
  exact ⟨.inl rfl, rfl⟩
 ·refine ls_cF rfl g2 (ls_skip (hK1 _ (kp [(2, .box [.str a0.1, dL ci64 a0.2]), (3, .box [.str a1.1, dL ci64 a1.2])] rfl rfl (ls_seq_k fun K3 hK3 => ls_rs tbOk (oF 2 0 rfl ⟨_, rfl⟩ (oL1 1 (dL ci64 a0.2) rfl (oF 3 0 rfl ⟨_, rfl⟩ (oL1 1 (dL ci64 a1.2) rfl (?_)))))))))
  obtain ⟨v4, g5, h⟩ := ob_some h
  refine ev_call (era rfl (erD eci64 _) (era rfl (erD eci64 _) eran)) (laws_eqIntS_s g5) (ev_un (c1 := .bool v4) rfl trivial (en [(15, .bool (!v4))] rfl rfl ?_))
  rcases cond_some h with ⟨g6, h⟩ | ⟨g6, h⟩
  ·refine ls_cT rfl g6 (ls_rs tbOk (oC nofun rfl (en [(4, .bool false)] rfl rfl (ls_ret ?_))))
   cases h
   exact ⟨.inl rfl, rfl⟩
  ·refine ls_cF rfl g6 (ls_skip (hK3 _ (kp [] rfl rfl (ls_rs tbOk (oC nofun rfl (en [(4, .bool true)] rfl rfl (ls_ret ?_)))))))
   cases h
   exact ⟨.inl rfl, rfl⟩
def laws_eqAtomS_B1 (a0 : List Y194) (a1 : List Y194) (rec : Int → Option (Sum (Unit) (Bool))) (y1 : Int) : Option (Sum (Unit) (Bool)) := cond (decide (y1 < (List.length a0 : Int))) (obind (geti a0 y1) fun e7 => obind (geti a1 y1) fun e9 => obind (laws_eqAtom e7 e9) fun v11 => cond (!v11) (some (.inr false)) (rec (IntKind.i64.wrap (y1 + 1)))) (some (.inl ()))
def laws_eqAtomS (a0 : List Y194) (a1 : List Y194) : Option (Bool) := cond ((List.length a0 : Int) != (List.length a1 : Int)) (some false) (obind (loopF (laws_eqAtomS_B1 a0 a1) fz 0) fun o1 => (match o1 with
  | .inl _ => (some true)
  | .inr r => some r))
theorem laws_eqAtomS_s {a0 : List Y194} {a1 : List Y194} {r : Bool} (h : laws_eqAtomS a0 a1 = some r) : SoundAt Try.prog 132 [dL c195_d a0, dL c195_d a1] (.bool r) := by
 unfold laws_eqAtomS at h
 refine sound_lit tbOk lit132 (nb rfl) rfl ?_
 unfold c132
 refine kp [(0, dL c195_d a0), (1, dL c195_d a1)] rfl rfl (ls_rs tbOk (oC nofun rfl (en [(0, dL c195_d a0), (1, dL c195_d a1)] rfl rfl (ls_seq_k fun K1 hK1 => ls_rs tbOk (oM (dL c195_d a0) rfl (oN (dL c195_d a0) rfl (oM (dL c195_d a1) rfl (oN (dL c195_d a1) rfl (oB (nI (List.length a0 : Int)) (nI (List.length a1 : Int)) rfl rfl (en [(0, dL c195_d a0), (1, dL c195_d a1), (10, .bool ((List.length a0 : Int) != (List.length a1 : Int)))] rfl rfl ?_))))))))))
 rcases cond_some h with ⟨g2, h⟩ | ⟨g2, h⟩
 ·refine ls_cT rfl g2 (ls_rs tbOk (oC nofun rfl (en [(4, .bool false)] rfl rfl (ls_ret ?_))))
  cases h
  exact ⟨.inl rfl, rfl⟩
 ·refine ls_cF rfl g2 (ls_skip (hK1 _ (kp [(0, dL c195_d a0), (1, dL c195_d a1)] rfl rfl (ls_seq_k fun K3 hK3 => ls_rs tbOk (oC nofun rfl (en [(0, dL c195_d a0), (1, dL c195_d a1), (5, nI 0)] rfl rfl ?_))))))
  obtain ⟨o1, hl, hr1⟩ := ob_some h
  clear h
  have kXlaws_eqAtomS_B1 : ∀ (_ : Unit), (some true) = some r → ∀ σ' : PS, okK σ' [] → K3 σ' := by
   intro _ h σ' hk
   refine hK3 _ (ls_keep [] hk rfl (ls_rs tbOk (oC nofun rfl (en [(4, .bool true)] rfl rfl (ls_ret ?_)))))
   cases h
   exact ⟨.inl rfl, rfl⟩
  refine ls_rec (fun (y1 : Int) => [(0, dL c195_d a0), (1, dL c195_d a1), (5, nI y1)]) (laws_eqAtomS_B1 a0 a1) fz 0 o1 hl (okr rfl) (fun _ => rfl) ?_
  rintro m y1 N h hN
  unfold laws_eqAtomS_B1 at h
  refine ls_seq_k fun K4 hK4 => ls_rs tbOk (oM (nI y1) rfl (oM (dL c195_d a0) rfl (oN (dL c195_d a0) rfl (oB (nI y1) (nI (List.length a0 : Int)) rfl rfl (en [(0, dL c195_d a0), (1, dL c195_d a1), (5, nI y1), (14, .bool (decide (y1 < (List.length a0 : Int))))] rfl rfl ?_)))))
  rcases cond_some h with ⟨g5, h⟩ | ⟨g5, h⟩
  ·refine ls_cT rfl g5 (ls_skip (hK4 _ (kp [(0, dL c195_d a0), (1, dL c195_d a1), (5, nI y1)] rfl rfl (ls_seq_k fun K6 hK6 => ls_blk (ls_rd tbOk mixed (by kernel_rfl) (ed rfl (oM (dL c195_d a0) rfl (ed rfl (oM (nI y1) rfl (?_))))))))))
   obtain ⟨e7, g8, h⟩ := ob_some h
   refine ed rfl (ev_ia rfl rfl rfl ⟨(geti_some g8).1, (geti_some g8).2.1⟩ (ed rfl (oLE y1 2 0 (.agg (c195_d e7)) zc195_d g8 rfl (ed rfl (oM (dL c195_d a1) rfl (ed rfl (oM (nI y1) rfl (?_))))))))
   obtain ⟨e9, g10, h⟩ := ob_some h
   refine ed rfl (ev_ia rfl rfl rfl ⟨(geti_some g10).1, (geti_some g10).2.1⟩ (ed rfl (oLE y1 2 0 (.agg (c195_d e9)) zc195_d g10 rfl (?_))))
   obtain ⟨v11, g12, h⟩ := ob_some h
   refine ed rfl (ev_call (era rfl (erg (erc rfl (erc (erD eci64 _) rfl))) (era rfl (erg (erc rfl (erc (erD eci64 _) rfl))) eran)) (laws_eqAtom_s g12) (ed rfl (ev_un (c1 := .bool v11) rfl trivial (evdn (kp [(0, dL c195_d a0), (1, dL c195_d a1), (5, nI y1), (26, .bool (!v11))] rfl rfl ?_)))))
   rcases cond_some h with ⟨g13, h⟩ | ⟨g13, h⟩
   ·refine ls_cT rfl g13 (ls_rs tbOk (oC nofun rfl (en [(4, .bool false)] rfl rfl (ls_ret ?_))))
    cases h
    cases hr1
    exact ⟨.inl rfl, rfl⟩
   ·exact ls_cF rfl g13 (ls_skip (hK6 _ (kp [(0, dL c195_d a0), (1, dL c195_d a1), (5, nI y1)] rfl rfl (ls_rgn tbOk (oM (nI y1) rfl (oB (nI y1) (nI 1) rfl rfl (oA (nI (IntKind.i64.wrap (y1 + 1))) rfl (evn (hN _ (IntKind.i64.wrap (y1 + 1)) h (okr rfl))))))))))
  ·exact ls_cF rfl g5 (ls_exit (kXlaws_eqAtomS_B1 () (by cases h; exact hr1) _ trivial))
def laws_eqQuery (a0 : Y91) (a1 : Y91) : Option (Bool) := cond (a0.1 != a1.1) (some false) (obind (laws_eqAtomS a0.2.1 a1.2.1) fun v4 => cond (!v4) (some false) (obind (laws_eqIntS a0.2.2 a1.2.2) fun v8 => cond (!v8) (some false) (some true)))
theorem laws_eqQuery_s {a0 : Y91} {a1 : Y91} {r : Bool} (h : laws_eqQuery a0 a1 = some r) : SoundAt Try.prog 49 [.agg (c92_ddd a0), .agg (c92_ddd a1)] (.bool r) := by
 unfold laws_eqQuery at h
 refine sound_lit tbOk lit49 (nb rfl) rfl ?_
 unfold c49
 refine kp [(0, .agg (c92_ddd a0)), (1, .agg (c92_ddd a1))] rfl rfl (ls_rs tbOk (oX (.agg (c92_ddd a0)) rfl (oX (.agg (c92_ddd a1)) rfl (oC nofun rfl (en [(2, .box [nI a0.1, dL c195_d a0.2.1, dL ci64 a0.2.2]), (3, .box [nI a1.1, dL c195_d a1.2.1, dL ci64 a1.2.2])] rfl rfl (ls_seq_k fun K1 hK1 => ls_rs tbOk (oF 2 0 rfl ⟨_, rfl⟩ (oL1 0 (nI a0.1) rfl (oF 3 0 rfl ⟨_, rfl⟩ (oL1 0 (nI a1.1) rfl (oB (nI a0.1) (nI a1.1) rfl rfl (en [(2, .box [nI a0.1, dL c195_d a0.2.1, dL ci64 a0.2.2]), (3, .box [nI a1.1, dL c195_d a1.2.1, dL ci64 a1.2.2]), (9, .bool (a0.1 != a1.1))] rfl rfl ?_))))))))))))
 rcases cond_some h with ⟨g2, h⟩ | ⟨g2, h⟩
 ·refine ls_cT rfl g2 (ls_rs tbOk (oC nofun rfl (en [(4, .bool false)] rfl rfl (ls_ret ?_))))
  cases h
  exact ⟨.inl rfl, rfl⟩
 ·refine ls_cF rfl g2 (ls_skip (hK1 _ (kp [(2, .box [nI a0.1, dL c195_d a0.2.1, dL ci64 a0.2.2]), (3, .box [nI a1.1, dL c195_d a1.2.1, dL ci64 a1.2.2])] rfl rfl (ls_seq_k fun K3 hK3 => ls_rs tbOk (oF 2 0 rfl ⟨_, rfl⟩ (oL1 1 (dL c195_d a0.2.1) rfl (oF 3 0 rfl ⟨_, rfl⟩ (oL1 1 (dL c195_d a1.2.1) rfl (?_)))))))))
  obtain ⟨v4, g5, h⟩ := ob_some h
  refine ev_call (era rfl (erD ec195_d _) (era rfl (erD ec195_d _) eran)) (laws_eqAtomS_s g5) (ev_un (c1 := .bool v4) rfl trivial (en [(2, .box [nI a0.1, dL c195_d a0.2.1, dL ci64 a0.2.2]), (3, .box [nI a1.1, dL c195_d a1.2.1, dL ci64 a1.2.2]), (15, .bool (!v4))] rfl rfl ?_))
  rcases cond_some h with ⟨g6, h⟩ | ⟨g6, h⟩
  ·refine ls_cT rfl g6 (ls_rs tbOk (oC nofun rfl (en [(4, .bool false)] rfl rfl (ls_ret ?_))))
   cases h
   exact ⟨.inl rfl, rfl⟩
  ·refine ls_cF rfl g6 (ls_skip (hK3 _ (kp [(2, .box [nI a0.1, dL c195_d a0.2.1, dL ci64 a0.2.2]), (3, .box [nI a1.1, dL c195_d a1.2.1, dL ci64 a1.2.2])] rfl rfl (ls_seq_k fun K7 hK7 => ls_rs tbOk (oF 2 0 rfl ⟨_, rfl⟩ (oL1 2 (dL ci64 a0.2.2) rfl (oF 3 0 rfl ⟨_, rfl⟩ (oL1 2 (dL ci64 a1.2.2) rfl (?_)))))))))
   obtain ⟨v8, g9, h⟩ := ob_some h
   refine ev_call (era rfl (erD eci64 _) (era rfl (erD eci64 _) eran)) (laws_eqIntS_s g9) (ev_un (c1 := .bool v8) rfl trivial (en [(21, .bool (!v8))] rfl rfl ?_))
   rcases cond_some h with ⟨g10, h⟩ | ⟨g10, h⟩
   ·refine ls_cT rfl g10 (ls_rs tbOk (oC nofun rfl (en [(4, .bool false)] rfl rfl (ls_ret ?_))))
    cases h
    exact ⟨.inl rfl, rfl⟩
   ·refine ls_cF rfl g10 (ls_skip (hK7 _ (kp [] rfl rfl (ls_rs tbOk (oC nofun rfl (en [(4, .bool true)] rfl rfl (ls_ret ?_)))))))
    cases h
    exact ⟨.inl rfl, rfl⟩
def spec_l1In_J1 (x2 : Bool) : Option (Bool) := some x2
def spec_l1In (a0 : Int) (a1 : Int) (a2 : Int) : Option (Bool) := cond (decide (a1 ≤ a0)) (spec_l1In_J1 (decide (a0 ≤ a2))) (spec_l1In_J1 false)
theorem spec_l1In_s {a0 : Int} {a1 : Int} {a2 : Int} {r : Bool} (h : spec_l1In a0 a1 a2 = some r) : SoundAt Try.prog 86 [nI a0, nI a1, nI a2] (.bool r) := by
 unfold spec_l1In at h
 refine sound_lit tbOk lit86 (nb rfl) rfl ?_
 unfold c86
 refine kp [(0, nI a0), (1, nI a1), (2, nI a2)] rfl rfl (ls_rs tbOk (oC nofun rfl (en [(0, nI a0), (1, nI a1), (2, nI a2)] rfl rfl (ls_rs_k tbOk fun K1 hK1 => ?_))))
 have kspec_l1In_J1 : ∀ (x2 : Bool), spec_l1In_J1 x2 = some r → ∀ σ' : PS, okK σ' [(6, .bool x2)] → K1 σ' := by
  intro x2 h σ' hk
  unfold spec_l1In_J1 at h
  refine hK1 _ (ls_keep [(6, .bool x2)] hk rfl (ls_ret ?_))
  cases h
  exact ⟨.inl rfl, rfl⟩
 refine oM (nI a0) rfl (oM (nI a1) rfl (oB (nI a0) (nI a1) rfl rfl (oM (.bool (decide (a1 ≤ a0))) rfl (?_))))
 rcases cond_some h with ⟨g3, h⟩ | ⟨g3, h⟩
 ·exact oGR g3 rfl (oM (nI a0) rfl (oGR g3 rfl (oM (nI a2) rfl (oGR g3 rfl (oB (nI a0) (nI a2) rfl rfl (oPT (.bool (decide (a0 ≤ a2))) g3 rfl (oA (.bool (decide (a0 ≤ a2))) rfl (evn (kspec_l1In_J1 (decide (a0 ≤ a2)) h _ (okr rfl))))))))))
 ·exact oGF g3 rfl (oGF g3 rfl (oGF g3 rfl (oPF (.bool false) g3 rfl (oA (.bool false) rfl (evn (kspec_l1In_J1 false h _ (okr rfl)))))))
def spec_ContainsVariable_B1 (a0 : Y194) (a1 : Int) (rec : Int → Option (Sum (Unit) (Bool))) (y1 : Int) : Option (Sum (Unit) (Bool)) := cond (decide (y1 < (List.length a0.2 : Int))) (obind (geti a0.2 y1) fun e5 => cond (e5 == a1) (some (.inr true)) (rec (IntKind.i64.wrap (y1 + 1)))) (some (.inl ()))
def spec_ContainsVariable (a0 : Y194) (a1 : Int) : Option (Bool) := obind (loopF (spec_ContainsVariable_B1 a0 a1) fz 0) fun o1 => (match o1 with
  | .inl _ => (some false)
  | .inr r => some r)
theorem spec_ContainsVariable_s {a0 : Y194} {a1 : Int} {r : Bool} (h : spec_ContainsVariable a0 a1 = some r) : SoundAt Try.prog 157 [.agg (c195_d a0), nI a1] (.bool r) := by
 unfold spec_ContainsVariable at h
 refine sound_lit tbOk lit157 (nb rfl) rfl ?_
 unfold c157
 refine kp [(0, .agg (c195_d a0)), (1, nI a1)] rfl rfl (ls_rs tbOk (oX (.agg (c195_d a0)) rfl (oC nofun rfl (en [(1, nI a1), (2, .box [.str a0.1, dL ci64 a0.2])] rfl rfl (ls_seq_k fun K1 hK1 => ls_rs tbOk (oC nofun rfl (en [(1, nI a1), (2, .box [.str a0.1, dL ci64 a0.2]), (5, nI 0)] rfl rfl ?_)))))))
 obtain ⟨o1, hl, hr1⟩ := ob_some h
 clear h
 have kXspec_ContainsVariable_B1 : ∀ (_ : Unit), (some false) = some r → ∀ σ' : PS, okK σ' [] → K1 σ' := by
  intro _ h σ' hk
  refine hK1 _ (ls_keep [] hk rfl (ls_rs tbOk (oC nofun rfl (en [(4, .bool false)] rfl rfl (ls_ret ?_)))))
  cases h
  exact ⟨.inl rfl, rfl⟩
 refine ls_rec (fun (y1 : Int) => [(1, nI a1), (2, .box [.str a0.1, dL ci64 a0.2]), (5, nI y1)]) (spec_ContainsVariable_B1 a0 a1) fz 0 o1 hl (okr rfl) (fun _ => rfl) ?_
 rintro m y1 N h hN
 unfold spec_ContainsVariable_B1 at h
 refine ls_seq_k fun K2 hK2 => ls_rs tbOk (oM (nI y1) rfl (oF 2 0 rfl ⟨_, rfl⟩ (oL1 1 (dL ci64 a0.2) rfl (oN (dL ci64 a0.2) rfl (oB (nI y1) (nI (List.length a0.2 : Int)) rfl rfl (en [(1, nI a1), (2, .box [.str a0.1, dL ci64 a0.2]), (5, nI y1), (10, .bool (decide (y1 < (List.length a0.2 : Int))))] rfl rfl ?_))))))
 rcases cond_some h with ⟨g3, h⟩ | ⟨g3, h⟩
 ·refine ls_cT rfl g3 (ls_skip (hK2 _ (kp [(1, nI a1), (2, .box [.str a0.1, dL ci64 a0.2]), (5, nI y1)] rfl rfl (ls_seq_k fun K4 hK4 => ls_blk (ls_rs tbOk (oF 2 0 rfl ⟨_, rfl⟩ (oL1 1 (dL ci64 a0.2) rfl (oM (nI y1) rfl (?_)))))))))
  obtain ⟨e5, g6, h⟩ := ob_some h
  refine ev_ia rfl rfl rfl ⟨(geti_some g6).1, (geti_some g6).2.1⟩ (oLE y1 1 0 (nI e5) zci64 g6 rfl (oM (nI a1) rfl (oB (nI e5) (nI a1) rfl rfl (en [(1, nI a1), (2, .box [.str a0.1, dL ci64 a0.2]), (5, nI y1), (19, .bool (e5 == a1))] rfl rfl ?_))))
  rcases cond_some h with ⟨g7, h⟩ | ⟨g7, h⟩
  ·refine ls_cT rfl g7 (ls_rs tbOk (oC nofun rfl (en [(4, .bool true)] rfl rfl (ls_ret ?_))))
   cases h
   cases hr1
   exact ⟨.inl rfl, rfl⟩
  ·exact ls_cF rfl g7 (ls_skip (hK4 _ (kp [(1, nI a1), (2, .box [.str a0.1, dL ci64 a0.2]), (5, nI y1)] rfl rfl (ls_rgn tbOk (oM (nI y1) rfl (oB (nI y1) (nI 1) rfl rfl (oA (nI (IntKind.i64.wrap (y1 + 1))) rfl (evn (hN _ (IntKind.i64.wrap (y1 + 1)) h (okr rfl))))))))))
 ·exact ls_cF rfl g3 (ls_exit (kXspec_ContainsVariable_B1 () (by cases h; exact hr1) _ trivial))
def spec_l7Find_B1 (a0 : List Int) (a1 : Int) (rec : Int → Option (Sum (Unit) (Int))) (y1 : Int) : Option (Sum (Unit) (Int)) := cond (decide (y1 < (List.length a0 : Int))) (obind (geti a0 y1) fun e5 => cond (e5 == a1) (some (.inr y1)) (rec (IntKind.i64.wrap (y1 + 1)))) (some (.inl ()))
def spec_l7Find (a0 : List Int) (a1 : Int) : Option (Int) := obind (loopF (spec_l7Find_B1 a0 a1) fz 0) fun o1 => (match o1 with
  | .inl _ => (some (-1))
  | .inr r => some r)
theorem spec_l7Find_s {a0 : List Int} {a1 : Int} {r : Int} (h : spec_l7Find a0 a1 = some r) : SoundAt Try.prog 205 [dL ci64 a0, nI a1] (nI r) := by
 unfold spec_l7Find at h
 refine sound_lit tbOk lit205 (nb rfl) rfl ?_
 unfold c205
 refine kp [(0, dL ci64 a0), (1, nI a1)] rfl rfl (ls_rs tbOk (oC nofun rfl (en [(0, dL ci64 a0), (1, nI a1)] rfl rfl (ls_seq_k fun K1 hK1 => ls_rs tbOk (oC nofun rfl (en [(0, dL ci64 a0), (1, nI a1), (5, nI 0)] rfl rfl ?_))))))
 obtain ⟨o1, hl, hr1⟩ := ob_some h
 clear h
 have kXspec_l7Find_B1 : ∀ (_ : Unit), (some (-1)) = some r → ∀ σ' : PS, okK σ' [] → K1 σ' := by
  intro _ h σ' hk
  refine hK1 _ (ls_keep [] hk rfl (ls_rs tbOk (oC nofun rfl (en [(4, nI (-1))] rfl rfl (ls_ret ?_)))))
  cases h
  exact ⟨.inl rfl, rfl⟩
 refine ls_rec (fun (y1 : Int) => [(0, dL ci64 a0), (1, nI a1), (5, nI y1)]) (spec_l7Find_B1 a0 a1) fz 0 o1 hl (okr rfl) (fun _ => rfl) ?_
 rintro m y1 N h hN
 unfold spec_l7Find_B1 at h
 refine ls_seq_k fun K2 hK2 => ls_rs tbOk (oM (nI y1) rfl (oM (dL ci64 a0) rfl (oN (dL ci64 a0) rfl (oB (nI y1) (nI (List.length a0 : Int)) rfl rfl (en [(0, dL ci64 a0), (1, nI a1), (5, nI y1), (9, .bool (decide (y1 < (List.length a0 : Int))))] rfl rfl ?_)))))
 rcases cond_some h with ⟨g3, h⟩ | ⟨g3, h⟩
 ·refine ls_cT rfl g3 (ls_skip (hK2 _ (kp [(0, dL ci64 a0), (1, nI a1), (5, nI y1)] rfl rfl (ls_seq_k fun K4 hK4 => ls_blk (ls_rs tbOk (oM (dL ci64 a0) rfl (oM (nI y1) rfl (?_))))))))
  obtain ⟨e5, g6, h⟩ := ob_some h
  refine ev_ia rfl rfl rfl ⟨(geti_some g6).1, (geti_some g6).2.1⟩ (oLE y1 1 0 (nI e5) zci64 g6 rfl (oM (nI a1) rfl (oB (nI e5) (nI a1) rfl rfl (en [(0, dL ci64 a0), (1, nI a1), (5, nI y1), (17, .bool (e5 == a1))] rfl rfl ?_))))
  rcases cond_some h with ⟨g7, h⟩ | ⟨g7, h⟩
  ·refine ls_cT rfl g7 (ls_rs tbOk (oM (nI y1) rfl (oA (nI y1) rfl (en [(4, nI y1)] rfl rfl (ls_ret ?_)))))
   cases h
   cases hr1
   exact ⟨.inl rfl, rfl⟩
  ·exact ls_cF rfl g7 (ls_skip (hK4 _ (kp [(0, dL ci64 a0), (1, nI a1), (5, nI y1)] rfl rfl (ls_rgn tbOk (oM (nI y1) rfl (oB (nI y1) (nI 1) rfl rfl (oA (nI (IntKind.i64.wrap (y1 + 1))) rfl (evn (hN _ (IntKind.i64.wrap (y1 + 1)) h (okr rfl))))))))))
 ·exact ls_cF rfl g3 (ls_exit (kXspec_l7Find_B1 () (by cases h; exact hr1) _ trivial))
def spec_IsValidName_B1 (a0 : List UInt8) (rec : Int → Option (Sum (Unit) (Bool))) (y1 : Int) : Option (Sum (Unit) (Bool)) := cond (decide (y1 < (List.length a0 : Int))) (obind (geti a0 y1) fun b5 => cond (decide ((UInt8.toNat b5 : Int) < 97)) (some (.inr false)) (obind (geti a0 y1) fun b8 => cond (decide (122 < (UInt8.toNat b8 : Int))) (some (.inr false)) (rec (IntKind.i64.wrap (y1 + 1))))) (some (.inl ()))
def spec_IsValidName (a0 : List UInt8) : Option (Bool) := obind (loopF (spec_IsValidName_B1 a0) fz 0) fun o1 => (match o1 with
  | .inl _ => (obind (spec_l1In (List.length a0 : Int) 1 4) fun v11 => some v11)
  | .inr r => some r)
theorem spec_IsValidName_s {a0 : List UInt8} {r : Bool} (h : spec_IsValidName a0 = some r) : SoundAt Try.prog 216 [.str a0] (.bool r) := by
 unfold spec_IsValidName at h
 refine sound_lit tbOk lit216 (nb rfl) rfl ?_
 unfold c216
 refine kp [(0, .str a0)] rfl rfl (ls_rs tbOk (oC nofun rfl (en [(0, .str a0)] rfl rfl (ls_seq_k fun K1 hK1 => ls_rs tbOk (oC nofun rfl (en [(0, .str a0), (3, nI 0)] rfl rfl ?_))))))
 obtain ⟨o1, hl, hr1⟩ := ob_some h
 clear h
 have kXspec_IsValidName_B1 : ∀ (_ : Unit), (obind (spec_l1In (List.length a0 : Int) 1 4) fun v11 => some v11) = some r → ∀ σ' : PS, okK σ' [(0, .str a0)] → K1 σ' := by
  intro _ h σ' hk
  refine hK1 _ (ls_keep [(0, .str a0)] hk rfl (ls_rs tbOk (oM (.str a0) rfl (ev_lens (z := []) rfl rfl (?_)))))
  obtain ⟨v11, g12, h⟩ := ob_some h
  refine ev_call (era rfl rfl (era rfl rfl (era rfl rfl eran))) (spec_l1In_s g12) (oA (.bool v11) rfl (en [(2, .bool v11)] rfl rfl (ls_ret ?_)))
  cases h
  exact ⟨.inl rfl, rfl⟩
 refine ls_rec (fun (y1 : Int) => [(0, .str a0), (3, nI y1)]) (spec_IsValidName_B1 a0) fz 0 o1 hl (okr rfl) (fun _ => rfl) ?_
 rintro m y1 N h hN
 unfold spec_IsValidName_B1 at h
 refine ls_seq_k fun K2 hK2 => ls_rs tbOk (oM (nI y1) rfl (oM (.str a0) rfl (ev_lens (z := []) rfl rfl (oB (nI y1) (nI (List.length a0 : Int)) rfl rfl (en [(0, .str a0), (3, nI y1), (7, .bool (decide (y1 < (List.length a0 : Int))))] rfl rfl ?_)))))
 rcases cond_some h with ⟨g3, h⟩ | ⟨g3, h⟩
 ·refine ls_cT rfl g3 (ls_skip (hK2 _ (kp [(0, .str a0), (3, nI y1)] rfl rfl (ls_seq_k fun K4 hK4 => ls_blk (ls_rs tbOk (oM (.str a0) rfl (oM (nI y1) rfl (?_))))))))
  obtain ⟨b5, g6, h⟩ := ob_some h
  refine ev_six rfl rfl rfl g6 (oB (.int .u8 (UInt8.toNat b5 : Int)) (.int .u8 97) rfl rfl (oM (.bool (decide ((UInt8.toNat b5 : Int) < 97))) rfl (?_)))
  rcases cond_some h with ⟨g7, h⟩ | ⟨g7, h⟩
  ·refine oGT g7 rfl (oGT g7 rfl (oGT g7 rfl (oGT g7 rfl (oPT (.bool true) g7 rfl (en [(0, .str a0), (3, nI y1), (19, .bool true)] rfl rfl (ls_cT rfl rfl (ls_rs tbOk (oC nofun rfl (en [(2, .bool false)] rfl rfl (ls_ret ?_))))))))))
   cases h
   cases hr1
   exact ⟨.inl rfl, rfl⟩
  ·refine oGR g7 rfl (oM (.str a0) rfl (oGR g7 rfl (oM (nI y1) rfl (?_))))
   obtain ⟨b8, g9, h⟩ := ob_some h
   refine oGR g7 rfl (ev_six rfl rfl rfl g9 (oGR g7 rfl (oB (.int .u8 (UInt8.toNat b8 : Int)) (.int .u8 122) rfl rfl (oPF (.bool (decide (122 < (UInt8.toNat b8 : Int)))) g7 rfl (en [(0, .str a0), (3, nI y1), (19, .bool (decide (122 < (UInt8.toNat b8 : Int))))] rfl rfl ?_)))))
   rcases cond_some h with ⟨g10, h⟩ | ⟨g10, h⟩
   ·refine ls_cT rfl g10 (ls_rs tbOk (oC nofun rfl (en [(2, .bool false)] rfl rfl (ls_ret ?_))))
    cases h
    cases hr1
    exact ⟨.inl rfl, rfl⟩
   ·exact ls_cF rfl g10 (ls_skip (hK4 _ (kp [(0, .str a0), (3, nI y1)] rfl rfl (ls_rgn tbOk (oM (nI y1) rfl (oB (nI y1) (nI 1) rfl rfl (oA (nI (IntKind.i64.wrap (y1 + 1))) rfl (evn (hN _ (IntKind.i64.wrap (y1 + 1)) h (okr rfl))))))))))
 ·exact ls_cF rfl g3 (ls_exit (kXspec_IsValidName_B1 () (by cases h; exact hr1) _ (okr rfl)))
def spec_IsValidQuery_B2 (a0 : Y91) (y2 : Int) (rec : Int → Option (Sum (Unit) (Bool))) (y4 : Int) : Option (Sum (Unit) (Bool)) := obind (geti a0.2.1 y2) fun e25 => cond (decide (y4 < (List.length e25.2 : Int))) (obind (geti a0.2.1 y2) fun e29 => obind (geti e29.2 y4) fun e31 => obind (spec_l1In e31 0 (IntKind.i64.wrap (a0.1 - 1))) fun v33 => cond (!v33) (some (.inr false)) (rec (IntKind.i64.wrap (y4 + 1)))) (some (.inl ()))
def spec_IsValidQuery_B1 (a0 : Y91) (rec : Int → Option (Sum (Unit) (Bool))) (y2 : Int) : Option (Sum (Unit) (Bool)) := cond (decide (y2 < (List.length a0.2.1 : Int))) (obind (geti a0.2.1 y2) fun e14 => obind (spec_IsValidName e14.1) fun v16 => cond (!v16) (some (.inr false)) (obind (geti a0.2.1 y2) fun e19 => obind (spec_l1In (List.length e19.2 : Int) 1 5) fun v21 => cond (!v21) (some (.inr false)) (obind (loopF (spec_IsValidQuery_B2 a0 y2) fz 0) fun o2 => (match o2 with
  | .inl _ => (rec (IntKind.i64.wrap (y2 + 1)))
  | .inr r => some (.inr r))))) (some (.inl ()))
def spec_IsValidQuery_J5 (rec : (Bool × Int) → Option (Bool)) (y11 : Int) (x45 : Bool) : Option (Bool) := rec (x45, (IntKind.i64.wrap (y11 + 1)))
def spec_IsValidQuery_B4 (a0 : Y91) (y7 : Int) (rec : (Bool × Int) → Option (Bool)) (s : Bool × Int) : Option (Bool) := match s with
  | (y10, y11) => cond (decide (y11 < (List.length a0.2.1 : Int))) (cond y10 (spec_IsValidQuery_J5 rec y11 true) (obind (geti a0.2.1 y11) fun e47 => obind (spec_ContainsVariable e47 y7) fun v49 => spec_IsValidQuery_J5 rec y11 v49)) (some y10)
def spec_IsValidQuery_B3 (a0 : Y91) (rec : Int → Option (Sum (Unit) (Bool))) (y7 : Int) : Option (Sum (Unit) (Bool)) := cond (decide (y7 < a0.1)) (obind (loopF (spec_IsValidQuery_B4 a0 y7) fz (false, 0)) fun z41 => cond (!z41) (some (.inr false)) (rec (IntKind.i64.wrap (y7 + 1)))) (some (.inl ()))
def spec_IsValidQuery_B6 (a0 : Y91) (rec : Int → Option (Sum (Unit) (Bool))) (y12 : Int) : Option (Sum (Unit) (Bool)) := cond (decide (y12 < (List.length a0.2.2 : Int))) (obind (geti a0.2.2 y12) fun e56 => obind (spec_l1In e56 0 (IntKind.i64.wrap (a0.1 - 1))) fun v58 => cond (!v58) (some (.inr false)) (chk ((0 : Int) ≤ 0 ∧ 0 ≤ y12 ∧ y12 ≤ (List.length a0.2.2 : Int)) (obind (geti a0.2.2 y12) fun e62 => obind (spec_l7Find (subl a0.2.2 0 y12) e62) fun v64 => cond (decide (0 ≤ v64)) (some (.inr false)) (rec (IntKind.i64.wrap (y12 + 1)))))) (some (.inl ()))
def spec_IsValidQuery (a0 : Y91) : Option (Bool) := obind (spec_l1In a0.1 1 5) fun v2 => cond (!v2) (some false) (obind (spec_l1In (List.length a0.2.1 : Int) 1 4) fun v5 => cond (!v5) (some false) (cond (decide (a0.1 < (List.length a0.2.2 : Int))) (some false) (obind (loopF (spec_IsValidQuery_B1 a0) fz 0) fun o1 => (match o1 with
  | .inl _ => (obind (loopF (spec_IsValidQuery_B3 a0) fz 0) fun o3 => (match o3 with
  | .inl _ => (obind (loopF (spec_IsValidQuery_B6 a0) fz 0) fun o6 => (match o6 with
  | .inl _ => (some true)
  | .inr r => some r))
  | .inr r => some r))
  | .inr r => some r))))
theorem spec_IsValidQuery_s {a0 : Y91} {r : Bool} (h : spec_IsValidQuery a0 = some r) : SoundAt Try.prog 200 [.agg (c92_ddd a0)] (.bool r) := by
 unfold spec_IsValidQuery at h
 refine sound_lit tbOk lit200 (nb rfl) rfl ?_
 unfold c200
 refine kp [(0, .agg (c92_ddd a0))] rfl rfl (ls_rs tbOk (oX (.agg (c92_ddd a0)) rfl (oC nofun rfl (en [(1, .box [nI a0.1, dL c195_d a0.2.1, dL ci64 a0.2.2])] rfl rfl (ls_seq_k fun K1 hK1 => ls_rs tbOk (oF 1 0 rfl ⟨_, rfl⟩ (oL1 0 (nI a0.1) rfl (?_))))))))
 obtain ⟨v2, g3, h⟩ := ob_some h
 refine ev_call (era rfl rfl (era rfl rfl (era rfl rfl eran))) (spec_l1In_s g3) (ev_un (c1 := .bool v2) rfl trivial (oM (.bool (!v2)) rfl (?_)))
 rcases cond_some h with ⟨g4, h⟩ | ⟨g4, h⟩
 ·refine oGT g4 rfl (oGT g4 rfl (oGT g4 rfl (oGT g4 rfl (oGT g4 rfl (oPT (.bool true) g4 rfl (oM (.bool true) rfl (oGT rfl rfl (oGT rfl rfl (oGT rfl rfl (oGT rfl rfl (oGT rfl rfl (oGT rfl rfl (oPT (.bool true) rfl rfl (en [(1, .box [nI a0.1, dL c195_d a0.2.1, dL ci64 a0.2.2]), (27, .bool true)] rfl rfl (ls_cT rfl rfl (ls_rs tbOk (oC nofun rfl (en [(2, .bool false)] rfl rfl (ls_ret ?_)))))))))))))))))))
  cases h
  exact ⟨.inl rfl, rfl⟩
 ·refine oGR g4 rfl (oF 1 0 rfl ⟨_, rfl⟩ (oGR g4 rfl (oL1 1 (dL c195_d a0.2.1) rfl (oGR g4 rfl (oN (dL c195_d a0.2.1) rfl (?_))))))
  obtain ⟨v5, g6, h⟩ := ob_some h
  refine oGR g4 rfl (ev_call (era rfl rfl (era rfl rfl (era rfl rfl eran))) (spec_l1In_s g6) (oGR g4 rfl (ev_un (c1 := .bool v5) rfl trivial (oPF (.bool (!v5)) g4 rfl (oM (.bool (!v5)) rfl (?_))))))
  rcases cond_some h with ⟨g7, h⟩ | ⟨g7, h⟩
  ·refine oGT g7 rfl (oGT g7 rfl (oGT g7 rfl (oGT g7 rfl (oGT g7 rfl (oGT g7 rfl (oPT (.bool true) g7 rfl (en [(1, .box [nI a0.1, dL c195_d a0.2.1, dL ci64 a0.2.2]), (27, .bool true)] rfl rfl (ls_cT rfl rfl (ls_rs tbOk (oC nofun rfl (en [(2, .bool false)] rfl rfl (ls_ret ?_))))))))))))
   cases h
   exact ⟨.inl rfl, rfl⟩
  ·refine oGR g7 rfl (oF 1 0 rfl ⟨_, rfl⟩ (oGR g7 rfl (oL1 2 (dL ci64 a0.2.2) rfl (oGR g7 rfl (oN (dL ci64 a0.2.2) rfl (oGR g7 rfl (oF 1 0 rfl ⟨_, rfl⟩ (oGR g7 rfl (oL1 0 (nI a0.1) rfl (oGR g7 rfl (oB (nI (List.length a0.2.2 : Int)) (nI a0.1) rfl rfl (oPF (.bool (decide (a0.1 < (List.length a0.2.2 : Int)))) g7 rfl (en [(1, .box [nI a0.1, dL c195_d a0.2.1, dL ci64 a0.2.2]), (27, .bool (decide (a0.1 < (List.length a0.2.2 : Int))))] rfl rfl ?_)))))))))))))
   rcases cond_some h with ⟨g8, h⟩ | ⟨g8, h⟩
   ·refine ls_cT rfl g8 (ls_rs tbOk (oC nofun rfl (en [(2, .bool false)] rfl rfl (ls_ret ?_))))
    cases h
    exact ⟨.inl rfl, rfl⟩
   ·refine ls_cF rfl g8 (ls_skip (hK1 _ (kp [(1, .box [nI a0.1, dL c195_d a0.2.1, dL ci64 a0.2.2])] rfl rfl (ls_seq_k fun K9 hK9 => ls_rs tbOk (oC nofun rfl (en [(1, .box [nI a0.1, dL c195_d a0.2.1, dL ci64 a0.2.2]), (3, nI 0)] rfl rfl ?_))))))
    obtain ⟨o1, hl, hr1⟩ := ob_some h
    clear h
    have kXspec_IsValidQuery_B1 : ∀ (_ : Unit), (obind (loopF (spec_IsValidQuery_B3 a0) fz 0) fun o3 => (match o3 with
  | .inl _ => (obind (loopF (spec_IsValidQuery_B6 a0) fz 0) fun o6 => (match o6 with
  | .inl _ => (some true)
  | .inr r => some r))
  | .inr r => some r)) = some r → ∀ σ' : PS, okK σ' [(1, .box [nI a0.1, dL c195_d a0.2.1, dL ci64 a0.2.2])] → K9 σ' := by
     intro _ h σ' hk
     refine hK9 _ (ls_keep [(1, .box [nI a0.1, dL c195_d a0.2.1, dL ci64 a0.2.2])] hk rfl (ls_seq_k fun K36 hK36 => ls_rs tbOk (oC nofun rfl (en [(1, .box [nI a0.1, dL c195_d a0.2.1, dL ci64 a0.2.2]), (5, nI 0)] rfl rfl ?_))))
     obtain ⟨o3, hl, hr3⟩ := ob_some h
     clear h
     have kXspec_IsValidQuery_B3 : ∀ (_ : Unit), (obind (loopF (spec_IsValidQuery_B6 a0) fz 0) fun o6 => (match o6 with
  | .inl _ => (some true)
  | .inr r => some r)) = some r → ∀ σ' : PS, okK σ' [(1, .box [nI a0.1, dL c195_d a0.2.1, dL ci64 a0.2.2])] → K36 σ' := by
      intro _ h σ' hk
      refine hK36 _ (ls_keep [(1, .box [nI a0.1, dL c195_d a0.2.1, dL ci64 a0.2.2])] hk rfl (ls_seq_k fun K52 hK52 => ls_rs tbOk (oC nofun rfl (en [(1, .box [nI a0.1, dL c195_d a0.2.1, dL ci64 a0.2.2]), (8, nI 0)] rfl rfl ?_))))
      obtain ⟨o6, hl, hr6⟩ := ob_some h
      clear h
      have kXspec_IsValidQuery_B6 : ∀ (_ : Unit), (some true) = some r → ∀ σ' : PS, okK σ' [] → K52 σ' := by
       intro _ h σ' hk
       refine hK52 _ (ls_keep [] hk rfl (ls_rs tbOk (oC nofun rfl (en [(2, .bool true)] rfl rfl (ls_ret ?_)))))
       cases h
       exact ⟨.inl rfl, rfl⟩
      refine ls_rec (fun (y12 : Int) => [(1, .box [nI a0.1, dL c195_d a0.2.1, dL ci64 a0.2.2]), (8, nI y12)]) (spec_IsValidQuery_B6 a0) fz 0 o6 hl (okr rfl) (fun _ => rfl) ?_
      rintro m y12 N h hN
      unfold spec_IsValidQuery_B6 at h
      refine ls_seq_k fun K53 hK53 => ls_rs tbOk (oM (nI y12) rfl (oF 1 0 rfl ⟨_, rfl⟩ (oL1 2 (dL ci64 a0.2.2) rfl (oN (dL ci64 a0.2.2) rfl (oB (nI y12) (nI (List.length a0.2.2 : Int)) rfl rfl (en [(1, .box [nI a0.1, dL c195_d a0.2.1, dL ci64 a0.2.2]), (8, nI y12), (108, .bool (decide (y12 < (List.length a0.2.2 : Int))))] rfl rfl ?_))))))
      rcases cond_some h with ⟨g54, h⟩ | ⟨g54, h⟩
      ·refine ls_cT rfl g54 (ls_skip (hK53 _ (kp [(1, .box [nI a0.1, dL c195_d a0.2.1, dL ci64 a0.2.2]), (8, nI y12)] rfl rfl (ls_seq_k fun K55 hK55 => ls_blk (ls_rd tbOk mixed (by kernel_rfl) (ed rfl (oF 1 0 rfl ⟨_, rfl⟩ (ed rfl (oL1 2 (dL ci64 a0.2.2) rfl (ed rfl (oM (nI y12) rfl (?_))))))))))))
       obtain ⟨e56, g57, h⟩ := ob_some h
       refine ed rfl (ev_ia rfl rfl rfl ⟨(geti_some g57).1, (geti_some g57).2.1⟩ (ed rfl (oLE y12 1 0 (nI e56) zci64 g57 rfl (ed rfl (oF 1 0 rfl ⟨_, rfl⟩ (ed rfl (oL1 0 (nI a0.1) rfl (ed rfl (oB (nI a0.1) (nI 1) rfl rfl (?_))))))))))
       obtain ⟨v58, g59, h⟩ := ob_some h
       refine ed rfl (ev_call (era rfl rfl (era rfl rfl (era rfl rfl eran))) (spec_l1In_s g59) (ed rfl (ev_un (c1 := .bool v58) rfl trivial (ed rfl (oM (.bool (!v58)) rfl (?_))))))
       rcases cond_some h with ⟨g60, h⟩ | ⟨g60, h⟩
       ·refine ed rfl (oGT g60 rfl (ed rfl (oGT g60 rfl (ed rfl (oGT g60 rfl (ed rfl (oGT g60 rfl (ed rfl (oGT g60 rfl (ed rfl (oGT g60 rfl (ed rfl (oGT g60 rfl (ed rfl (oGT g60 rfl (ed rfl (oGT g60 rfl (ed rfl (oGT g60 rfl (ed rfl (oGT g60 rfl (ed rfl (oPT (.bool true) g60 rfl (evdn (kp [(1, .box [nI a0.1, dL c195_d a0.2.1, dL ci64 a0.2.2]), (8, nI y12), (133, .bool true)] rfl rfl (ls_cT rfl rfl (ls_rs tbOk (oC nofun rfl (en [(2, .bool false)] rfl rfl (ls_ret ?_))))))))))))))))))))))))))))))
        cases h
        cases hr6
        exact ⟨.inl rfl, rfl⟩
       ·refine ed rfl (oGR g60 rfl (oF 1 0 rfl ⟨_, rfl⟩ (ed rfl (oGR g60 rfl (oL1 2 (dL ci64 a0.2.2) rfl (ed rfl (oGR g60 rfl (oM (nI y12) rfl (?_)))))))))
        obtain ⟨g61, h⟩ := chk_some h
        refine ed rfl (oGR g60 rfl (ev_sle (lst := a0.2.2) rfl rfl zci64 rfl rfl g61 (ed rfl (oGR g60 rfl (oF 1 0 rfl ⟨_, rfl⟩ (ed rfl (oGR g60 rfl (oL1 2 (dL ci64 a0.2.2) rfl (ed rfl (oGR g60 rfl (oM (nI y12) rfl (?_))))))))))))
        obtain ⟨e62, g63, h⟩ := ob_some h
        refine ed rfl (oGR g60 rfl (ev_ia rfl rfl rfl ⟨(geti_some g63).1, (geti_some g63).2.1⟩ (ed rfl (oGR g60 rfl (oLE y12 1 0 (nI e62) zci64 g63 rfl (?_))))))
        obtain ⟨v64, g65, h⟩ := ob_some h
        refine ed rfl (oGR g60 rfl (ev_call (era rfl (erD eci64 _) (era rfl rfl eran)) (spec_l7Find_s g65) (ed rfl (oGR g60 rfl (oB (nI v64) (nI 0) rfl rfl (ed rfl (oPF (.bool (decide (0 ≤ v64))) g60 rfl (evdn (kp [(1, .box [nI a0.1, dL c195_d a0.2.1, dL ci64 a0.2.2]), (8, nI y12), (133, .bool (decide (0 ≤ v64)))] rfl rfl ?_)))))))))
        rcases cond_some h with ⟨g66, h⟩ | ⟨g66, h⟩
        ·refine ls_cT rfl g66 (ls_rs tbOk (oC nofun rfl (en [(2, .bool false)] rfl rfl (ls_ret ?_))))
         cases h
         cases hr6
         exact ⟨.inl rfl, rfl⟩
        ·exact ls_cF rfl g66 (ls_skip (hK55 _ (kp [(1, .box [nI a0.1, dL c195_d a0.2.1, dL ci64 a0.2.2]), (8, nI y12)] rfl rfl (ls_rgn tbOk (oM (nI y12) rfl (oB (nI y12) (nI 1) rfl rfl (oA (nI (IntKind.i64.wrap (y12 + 1))) rfl (evn (hN _ (IntKind.i64.wrap (y12 + 1)) h (okr rfl))))))))))
      ·exact ls_cF rfl g54 (ls_exit (kXspec_IsValidQuery_B6 () (by cases h; exact hr6) _ trivial))
     refine ls_rec (fun (y7 : Int) => [(1, .box [nI a0.1, dL c195_d a0.2.1, dL ci64 a0.2.2]), (5, nI y7)]) (spec_IsValidQuery_B3 a0) fz 0 o3 hl (okr rfl) (fun _ => rfl) ?_
     rintro m y7 N h hN
     unfold spec_IsValidQuery_B3 at h
     refine ls_seq_k fun K37 hK37 => ls_rs tbOk (oM (nI y7) rfl (oF 1 0 rfl ⟨_, rfl⟩ (oL1 0 (nI a0.1) rfl (oB (nI y7) (nI a0.1) rfl rfl (en [(1, .box [nI a0.1, dL c195_d a0.2.1, dL ci64 a0.2.2]), (5, nI y7), (82, .bool (decide (y7 < a0.1)))] rfl rfl ?_)))))
     rcases cond_some h with ⟨g38, h⟩ | ⟨g38, h⟩
     ·refine ls_cT rfl g38 (ls_skip (hK37 _ (kp [(1, .box [nI a0.1, dL c195_d a0.2.1, dL ci64 a0.2.2]), (5, nI y7)] rfl rfl (ls_seq_k fun K39 hK39 => ls_blk (ls_rs tbOk (oC nofun rfl (en [(1, .box [nI a0.1, dL c195_d a0.2.1, dL ci64 a0.2.2]), (5, nI y7), (6, .bool false)] rfl rfl (ls_seq_k fun K40 hK40 => ls_rs tbOk (oC nofun rfl (en [(1, .box [nI a0.1, dL c195_d a0.2.1, dL ci64 a0.2.2]), (5, nI y7), (6, .bool false), (7, nI 0)] rfl rfl ?_))))))))))
      obtain ⟨o4, hl, hr4⟩ := ob_some h
      clear h
      have kXspec_IsValidQuery_B4 : ∀ (z41 : Bool), (cond (!z41) (some (.inr false)) ((loopF (spec_IsValidQuery_B3 a0) m) (IntKind.i64.wrap (y7 + 1)))) = some o3 → ∀ σ' : PS, okK σ' [(1, .box [nI a0.1, dL c195_d a0.2.1, dL ci64 a0.2.2]), (5, nI y7), (6, .bool z41)] → K40 σ' := by
       intro z41 h σ' hk
       refine hK40 _ (ls_keep [(1, .box [nI a0.1, dL c195_d a0.2.1, dL ci64 a0.2.2]), (5, nI y7), (6, .bool z41)] hk rfl (ls_rs tbOk (oM (.bool z41) rfl (ev_un (c1 := .bool z41) rfl trivial (en [(1, .box [nI a0.1, dL c195_d a0.2.1, dL ci64 a0.2.2]), (5, nI y7), (103, .bool (!z41))] rfl rfl ?_)))))
       rcases cond_some h with ⟨g51, h⟩ | ⟨g51, h⟩
       ·refine ls_cT rfl g51 (ls_rs tbOk (oC nofun rfl (en [(2, .bool false)] rfl rfl (ls_ret ?_))))
        cases h
        cases hr3
        exact ⟨.inl rfl, rfl⟩
       ·exact ls_cF rfl g51 (ls_skip (hK39 _ (kp [(1, .box [nI a0.1, dL c195_d a0.2.1, dL ci64 a0.2.2]), (5, nI y7)] rfl rfl (ls_rgn tbOk (oM (nI y7) rfl (oB (nI y7) (nI 1) rfl rfl (oA (nI (IntKind.i64.wrap (y7 + 1))) rfl (evn (hN _ (IntKind.i64.wrap (y7 + 1)) h (okr rfl))))))))))
      refine ls_rec (fun (s : Bool × Int) => match s with | (y10, y11) => [(1, .box [nI a0.1, dL c195_d a0.2.1, dL ci64 a0.2.2]), (5, nI y7), (6, .bool y10), (7, nI y11)]) (spec_IsValidQuery_B4 a0 y7) fz (false, 0) o4 hl (okr rfl) (fun _ => rfl) ?_
      rintro m ⟨y10, y11⟩ N h hN
      unfold spec_IsValidQuery_B4 at h
      dsimp only at h
      refine ls_seq_k fun K42 hK42 => ls_rs tbOk (oM (nI y11) rfl (oF 1 0 rfl ⟨_, rfl⟩ (oL1 1 (dL c195_d a0.2.1) rfl (oN (dL c195_d a0.2.1) rfl (oB (nI y11) (nI (List.length a0.2.1 : Int)) rfl rfl (en [(1, .box [nI a0.1, dL c195_d a0.2.1, dL ci64 a0.2.2]), (5, nI y7), (6, .bool y10), (7, nI y11), (89, .bool (decide (y11 < (List.length a0.2.1 : Int))))] rfl rfl ?_))))))
      rcases cond_some h with ⟨g43, h⟩ | ⟨g43, h⟩
      ·refine ls_cT rfl g43 (ls_skip (hK42 _ (kp [(1, .box [nI a0.1, dL c195_d a0.2.1, dL ci64 a0.2.2]), (5, nI y7), (6, .bool y10), (7, nI y11)] rfl rfl (ls_seq_k fun K44 hK44 => ls_blk ?_))))
       have kspec_IsValidQuery_J5 : ∀ (x45 : Bool), spec_IsValidQuery_J5 (loopF (spec_IsValidQuery_B4 a0 y7) m) y11 x45 = some o4 → ∀ σ' : PS, okK σ' [(1, .box [nI a0.1, dL c195_d a0.2.1, dL ci64 a0.2.2]), (5, nI y7), (6, .bool x45), (7, nI y11)] → K44 σ' := by
        intro x45 h σ' hk
        unfold spec_IsValidQuery_J5 at h
        exact hK44 _ (ls_keep [(1, .box [nI a0.1, dL c195_d a0.2.1, dL ci64 a0.2.2]), (5, nI y7), (6, .bool x45), (7, nI y11)] hk rfl (ls_rgn tbOk (oM (nI y11) rfl (oB (nI y11) (nI 1) rfl rfl (oA (nI (IntKind.i64.wrap (y11 + 1))) rfl (evn (hN _ (x45, (IntKind.i64.wrap (y11 + 1))) h (okr rfl))))))))
       refine ls_rgn tbOk (oM (.bool y10) rfl (oM (.bool y10) rfl (?_)))
       rcases cond_some h with ⟨g46, h⟩ | ⟨g46, h⟩
       ·exact oGT g46 rfl (oGT g46 rfl (oGT g46 rfl (oGT g46 rfl (oGT g46 rfl (oGT g46 rfl (oGT g46 rfl (oPT (.bool true) g46 rfl (oA (.bool true) rfl (evn (kspec_IsValidQuery_J5 true h _ (okr rfl)))))))))))
       ·refine oGR g46 rfl (oF 1 0 rfl ⟨_, rfl⟩ (oGR g46 rfl (oL1 1 (dL c195_d a0.2.1) rfl (oGR g46 rfl (oM (nI y11) rfl (?_))))))
        obtain ⟨e47, g48, h⟩ := ob_some h
        refine oGR g46 rfl (ev_ia rfl rfl rfl ⟨(geti_some g48).1, (geti_some g48).2.1⟩ (oGR g46 rfl (oLE y11 2 0 (.agg (c195_d e47)) zc195_d g48 rfl (oGR g46 rfl (oM (nI y7) rfl (?_))))))
        obtain ⟨v49, g50, h⟩ := ob_some h
        exact oGR g46 rfl (ev_call (era rfl (erg (erc rfl (erc (erD eci64 _) rfl))) (era rfl rfl eran)) (spec_ContainsVariable_s g50) (oPF (.bool v49) g46 rfl (oA (.bool v49) rfl (evn (kspec_IsValidQuery_J5 v49 h _ (okr rfl))))))
      ·exact ls_cF rfl g43 (ls_exit (kXspec_IsValidQuery_B4 y10 (by cases h; exact hr4) _ (okr rfl)))
     ·exact ls_cF rfl g38 (ls_exit (kXspec_IsValidQuery_B3 () (by cases h; exact hr3) _ (okr rfl)))
    refine ls_rec (fun (y2 : Int) => [(1, .box [nI a0.1, dL c195_d a0.2.1, dL ci64 a0.2.2]), (3, nI y2)]) (spec_IsValidQuery_B1 a0) fz 0 o1 hl (okr rfl) (fun _ => rfl) ?_
    rintro m y2 N h hN
    unfold spec_IsValidQuery_B1 at h
    refine ls_seq_k fun K10 hK10 => ls_rs tbOk (oM (nI y2) rfl (oF 1 0 rfl ⟨_, rfl⟩ (oL1 1 (dL c195_d a0.2.1) rfl (oN (dL c195_d a0.2.1) rfl (oB (nI y2) (nI (List.length a0.2.1 : Int)) rfl rfl (en [(1, .box [nI a0.1, dL c195_d a0.2.1, dL ci64 a0.2.2]), (3, nI y2), (32, .bool (decide (y2 < (List.length a0.2.1 : Int))))] rfl rfl ?_))))))
    rcases cond_some h with ⟨g11, h⟩ | ⟨g11, h⟩
    ·refine ls_cT rfl g11 (ls_skip (hK10 _ (kp [(1, .box [nI a0.1, dL c195_d a0.2.1, dL ci64 a0.2.2]), (3, nI y2)] rfl rfl (ls_seq_k fun K12 hK12 => ls_blk (ls_seq_k fun K13 hK13 => ls_rs tbOk (oF 1 0 rfl ⟨_, rfl⟩ (oL1 1 (dL c195_d a0.2.1) rfl (oM (nI y2) rfl (?_)))))))))
     obtain ⟨e14, g15, h⟩ := ob_some h
     refine ev_ia rfl rfl rfl ⟨(geti_some g15).1, (geti_some g15).2.1⟩ (ev_fa (c1 := .adr (a0.2.1.flatMap c195_d) (Int.toNat y2 * 2)) (v := .adr (a0.2.1.flatMap c195_d) (Int.toNat y2 * 2)) rfl rfl rfl trivial rfl (oLE y2 2 0 (.str e14.1) zc195_d g15 rfl (?_)))
     obtain ⟨v16, g17, h⟩ := ob_some h
     refine ev_call (era rfl rfl eran) (spec_IsValidName_s g17) (ev_un (c1 := .bool v16) rfl trivial (oM (.bool (!v16)) rfl (?_)))
     rcases cond_some h with ⟨g18, h⟩ | ⟨g18, h⟩
     ·refine oGT g18 rfl (oGT g18 rfl (oGT g18 rfl (oGT g18 rfl (oGT g18 rfl (oGT g18 rfl (oGT g18 rfl (oGT g18 rfl (oGT g18 rfl (oPT (.bool true) g18 rfl (en [(1, .box [nI a0.1, dL c195_d a0.2.1, dL ci64 a0.2.2]), (3, nI y2), (53, .bool true)] rfl rfl (ls_cT rfl rfl (ls_rs tbOk (oC nofun rfl (en [(2, .bool false)] rfl rfl (ls_ret ?_)))))))))))))))
      cases h
      cases hr1
      exact ⟨.inl rfl, rfl⟩
     ·refine oGR g18 rfl (oF 1 0 rfl ⟨_, rfl⟩ (oGR g18 rfl (oL1 1 (dL c195_d a0.2.1) rfl (oGR g18 rfl (oM (nI y2) rfl (?_))))))
      obtain ⟨e19, g20, h⟩ := ob_some h
      refine oGR g18 rfl (ev_ia rfl rfl rfl ⟨(geti_some g20).1, (geti_some g20).2.1⟩ (oGR g18 rfl (ev_fa (c1 := .adr (a0.2.1.flatMap c195_d) (Int.toNat y2 * 2)) (v := .adr (a0.2.1.flatMap c195_d) (Int.toNat y2 * 2 + 1)) rfl rfl rfl trivial rfl (oGR g18 rfl (oLE y2 2 1 (dL ci64 e19.2) zc195_d g20 rfl (oGR g18 rfl (oN (dL ci64 e19.2) rfl (?_))))))))
      obtain ⟨v21, g22, h⟩ := ob_some h
      refine oGR g18 rfl (ev_call (era rfl rfl (era rfl rfl (era rfl rfl eran))) (spec_l1In_s g22) (oGR g18 rfl (ev_un (c1 := .bool v21) rfl trivial (oPF (.bool (!v21)) g18 rfl (en [(1, .box [nI a0.1, dL c195_d a0.2.1, dL ci64 a0.2.2]), (3, nI y2), (53, .bool (!v21))] rfl rfl ?_)))))
      rcases cond_some h with ⟨g23, h⟩ | ⟨g23, h⟩
      ·refine ls_cT rfl g23 (ls_rs tbOk (oC nofun rfl (en [(2, .bool false)] rfl rfl (ls_ret ?_))))
       cases h
       cases hr1
       exact ⟨.inl rfl, rfl⟩
      ·refine ls_cF rfl g23 (ls_skip (hK13 _ (kp [(1, .box [nI a0.1, dL c195_d a0.2.1, dL ci64 a0.2.2]), (3, nI y2)] rfl rfl (ls_rs tbOk (oC nofun rfl (en [(1, .box [nI a0.1, dL c195_d a0.2.1, dL ci64 a0.2.2]), (3, nI y2), (4, nI 0)] rfl rfl ?_))))))
       obtain ⟨o2, hl, hr2⟩ := ob_some h
       clear h
       have kXspec_IsValidQuery_B2 : ∀ (_ : Unit), ((loopF (spec_IsValidQuery_B1 a0) m) (IntKind.i64.wrap (y2 + 1))) = some o1 → ∀ σ' : PS, okK σ' [(1, .box [nI a0.1, dL c195_d a0.2.1, dL ci64 a0.2.2]), (3, nI y2)] → K12 σ' := by
        intro _ h σ' hk
        exact hK12 _ (ls_keep [(1, .box [nI a0.1, dL c195_d a0.2.1, dL ci64 a0.2.2]), (3, nI y2)] hk rfl (ls_rgn tbOk (oM (nI y2) rfl (oB (nI y2) (nI 1) rfl rfl (oA (nI (IntKind.i64.wrap (y2 + 1))) rfl (evn (hN _ (IntKind.i64.wrap (y2 + 1)) h (okr rfl))))))))
       refine ls_rec (fun (y4 : Int) => [(1, .box [nI a0.1, dL c195_d a0.2.1, dL ci64 a0.2.2]), (3, nI y2), (4, nI y4)]) (spec_IsValidQuery_B2 a0 y2) fz 0 o2 hl (okr rfl) (fun _ => rfl) ?_
       rintro m y4 N h hN
       unfold spec_IsValidQuery_B2 at h
       refine ls_seq_k fun K24 hK24 => ls_rs tbOk (oM (nI y4) rfl (oF 1 0 rfl ⟨_, rfl⟩ (oL1 1 (dL c195_d a0.2.1) rfl (oM (nI y2) rfl (?_)))))
       obtain ⟨e25, g26, h⟩ := ob_some h
       refine ev_ia rfl rfl rfl ⟨(geti_some g26).1, (geti_some g26).2.1⟩ (ev_fa (c1 := .adr (a0.2.1.flatMap c195_d) (Int.toNat y2 * 2)) (v := .adr (a0.2.1.flatMap c195_d) (Int.toNat y2 * 2 + 1)) rfl rfl rfl trivial rfl (oLE y2 2 1 (dL ci64 e25.2) zc195_d g26 rfl (oN (dL ci64 e25.2) rfl (oB (nI y4) (nI (List.length e25.2 : Int)) rfl rfl (en [(1, .box [nI a0.1, dL c195_d a0.2.1, dL ci64 a0.2.2]), (3, nI y2), (4, nI y4), (62, .bool (decide (y4 < (List.length e25.2 : Int))))] rfl rfl ?_)))))
       rcases cond_some h with ⟨g27, h⟩ | ⟨g27, h⟩
       ·refine ls_cT rfl g27 (ls_skip (hK24 _ (kp [(1, .box [nI a0.1, dL c195_d a0.2.1, dL ci64 a0.2.2]), (3, nI y2), (4, nI y4)] rfl rfl (ls_seq_k fun K28 hK28 => ls_blk (ls_rd tbOk mixed (by kernel_rfl) (ed rfl (oF 1 0 rfl ⟨_, rfl⟩ (ed rfl (oL1 1 (dL c195_d a0.2.1) rfl (ed rfl (oM (nI y2) rfl (?_))))))))))))
        obtain ⟨e29, g30, h⟩ := ob_some h
        refine ed rfl (ev_ia rfl rfl rfl ⟨(geti_some g30).1, (geti_some g30).2.1⟩ (ed rfl (ev_fa (c1 := .adr (a0.2.1.flatMap c195_d) (Int.toNat y2 * 2)) (v := .adr (a0.2.1.flatMap c195_d) (Int.toNat y2 * 2 + 1)) rfl rfl rfl trivial rfl (ed rfl (oLE y2 2 1 (dL ci64 e29.2) zc195_d g30 rfl (ed rfl (oM (nI y4) rfl (?_))))))))
        obtain ⟨e31, g32, h⟩ := ob_some h
        refine ed rfl (ev_ia rfl rfl rfl ⟨(geti_some g32).1, (geti_some g32).2.1⟩ (ed rfl (oLE y4 1 0 (nI e31) zci64 g32 rfl (ed rfl (oF 1 0 rfl ⟨_, rfl⟩ (ed rfl (oL1 0 (nI a0.1) rfl (ed rfl (oB (nI a0.1) (nI 1) rfl rfl (?_))))))))))
        obtain ⟨v33, g34, h⟩ := ob_some h
        refine ed rfl (ev_call (era rfl rfl (era rfl rfl (era rfl rfl eran))) (spec_l1In_s g34) (ed rfl (ev_un (c1 := .bool v33) rfl trivial (evdn (kp [(1, .box [nI a0.1, dL c195_d a0.2.1, dL ci64 a0.2.2]), (3, nI y2), (4, nI y4), (78, .bool (!v33))] rfl rfl ?_)))))
        rcases cond_some h with ⟨g35, h⟩ | ⟨g35, h⟩
        ·refine ls_cT rfl g35 (ls_rs tbOk (oC nofun rfl (en [(2, .bool false)] rfl rfl (ls_ret ?_))))
         cases h
         cases hr2
         cases hr1
         exact ⟨.inl rfl, rfl⟩
        ·exact ls_cF rfl g35 (ls_skip (hK28 _ (kp [(1, .box [nI a0.1, dL c195_d a0.2.1, dL ci64 a0.2.2]), (3, nI y2), (4, nI y4)] rfl rfl (ls_rgn tbOk (oM (nI y4) rfl (oB (nI y4) (nI 1) rfl rfl (oA (nI (IntKind.i64.wrap (y4 + 1))) rfl (evn (hN _ (IntKind.i64.wrap (y4 + 1)) h (okr rfl))))))))))
       ·exact ls_cF rfl g27 (ls_exit (kXspec_IsValidQuery_B2 () (by cases h; exact hr2) _ (okr rfl)))
    ·exact ls_cF rfl g11 (ls_exit (kXspec_IsValidQuery_B1 () (by cases h; exact hr1) _ (okr rfl)))
def spec_IsPermutation_B1 (a0 : List Int) (rec : Int → Option (Sum (Unit) (Bool))) (y1 : Int) : Option (Sum (Unit) (Bool)) := cond (decide (y1 < (List.length a0 : Int))) (obind (geti a0 y1) fun e5 => obind (spec_l1In e5 0 (IntKind.i64.wrap ((List.length a0 : Int) - 1))) fun v7 => cond (!v7) (some (.inr false)) (chk ((0 : Int) ≤ 0 ∧ 0 ≤ y1 ∧ y1 ≤ (List.length a0 : Int)) (obind (geti a0 y1) fun e11 => obind (spec_l7Find (subl a0 0 y1) e11) fun v13 => cond (decide (0 ≤ v13)) (some (.inr false)) (rec (IntKind.i64.wrap (y1 + 1)))))) (some (.inl ()))
def spec_IsPermutation (a0 : List Int) : Option (Bool) := obind (loopF (spec_IsPermutation_B1 a0) fz 0) fun o1 => (match o1 with
  | .inl _ => (some (decide ((List.length a0 : Int) ≤ 5)))
  | .inr r => some r)
theorem spec_IsPermutation_s {a0 : List Int} {r : Bool} (h : spec_IsPermutation a0 = some r) : SoundAt Try.prog 206 [dL ci64 a0] (.bool r) := by
 unfold spec_IsPermutation at h
 refine sound_lit tbOk lit206 (nb rfl) rfl ?_
 unfold c206
 refine kp [(0, dL ci64 a0)] rfl rfl (ls_rs tbOk (oC nofun rfl (en [(0, dL ci64 a0)] rfl rfl (ls_seq_k fun K1 hK1 => ls_rs tbOk (oC nofun rfl (en [(0, dL ci64 a0), (3, nI 0)] rfl rfl ?_))))))
 obtain ⟨o1, hl, hr1⟩ := ob_some h
 clear h
 have kXspec_IsPermutation_B1 : ∀ (_ : Unit), (some (decide ((List.length a0 : Int) ≤ 5))) = some r → ∀ σ' : PS, okK σ' [(0, dL ci64 a0)] → K1 σ' := by
  intro _ h σ' hk
  refine hK1 _ (ls_keep [(0, dL ci64 a0)] hk rfl (ls_rs tbOk (oM (dL ci64 a0) rfl (oN (dL ci64 a0) rfl (oB (nI (List.length a0 : Int)) (nI 5) rfl rfl (oA (.bool (decide ((List.length a0 : Int) ≤ 5))) rfl (en [(2, .bool (decide ((List.length a0 : Int) ≤ 5)))] rfl rfl (ls_ret ?_))))))))
  cases h
  exact ⟨.inl rfl, rfl⟩
 refine ls_rec (fun (y1 : Int) => [(0, dL ci64 a0), (3, nI y1)]) (spec_IsPermutation_B1 a0) fz 0 o1 hl (okr rfl) (fun _ => rfl) ?_
 rintro m y1 N h hN
 unfold spec_IsPermutation_B1 at h
 refine ls_seq_k fun K2 hK2 => ls_rs tbOk (oM (nI y1) rfl (oM (dL ci64 a0) rfl (oN (dL ci64 a0) rfl (oB (nI y1) (nI (List.length a0 : Int)) rfl rfl (en [(0, dL ci64 a0), (3, nI y1), (7, .bool (decide (y1 < (List.length a0 : Int))))] rfl rfl ?_)))))
 rcases cond_some h with ⟨g3, h⟩ | ⟨g3, h⟩
 ·refine ls_cT rfl g3 (ls_skip (hK2 _ (kp [(0, dL ci64 a0), (3, nI y1)] rfl rfl (ls_seq_k fun K4 hK4 => ls_blk (ls_rd tbOk mixed (by kernel_rfl) (ed rfl (oM (dL ci64 a0) rfl (ed rfl (oM (nI y1) rfl (?_))))))))))
  obtain ⟨e5, g6, h⟩ := ob_some h
  refine ed rfl (ev_ia rfl rfl rfl ⟨(geti_some g6).1, (geti_some g6).2.1⟩ (ed rfl (oLE y1 1 0 (nI e5) zci64 g6 rfl (ed rfl (oM (dL ci64 a0) rfl (ed rfl (oN (dL ci64 a0) rfl (ed rfl (oB (nI (List.length a0 : Int)) (nI 1) rfl rfl (?_))))))))))
  obtain ⟨v7, g8, h⟩ := ob_some h
  refine ed rfl (ev_call (era rfl rfl (era rfl rfl (era rfl rfl eran))) (spec_l1In_s g8) (ed rfl (ev_un (c1 := .bool v7) rfl trivial (ed rfl (oM (.bool (!v7)) rfl (?_))))))
  rcases cond_some h with ⟨g9, h⟩ | ⟨g9, h⟩
  ·refine ed rfl (oGT g9 rfl (ed rfl (oGT g9 rfl (ed rfl (oGT g9 rfl (ed rfl (oGT g9 rfl (ed rfl (oGT g9 rfl (ed rfl (oGT g9 rfl (ed rfl (oGT g9 rfl (ed rfl (oGT g9 rfl (ed rfl (oGT g9 rfl (ed rfl (oPT (.bool true) g9 rfl (evdn (kp [(0, dL ci64 a0), (3, nI y1), (29, .bool true)] rfl rfl (ls_cT rfl rfl (ls_rs tbOk (oC nofun rfl (en [(2, .bool false)] rfl rfl (ls_ret ?_))))))))))))))))))))))))))
   cases h
   cases hr1
   exact ⟨.inl rfl, rfl⟩
  ·refine ed rfl (oGR g9 rfl (oM (dL ci64 a0) rfl (ed rfl (oGR g9 rfl (oM (nI y1) rfl (?_))))))
   obtain ⟨g10, h⟩ := chk_some h
   refine ed rfl (oGR g9 rfl (ev_sle (lst := a0) rfl rfl zci64 rfl rfl g10 (ed rfl (oGR g9 rfl (oM (dL ci64 a0) rfl (ed rfl (oGR g9 rfl (oM (nI y1) rfl (?_)))))))))
   obtain ⟨e11, g12, h⟩ := ob_some h
   refine ed rfl (oGR g9 rfl (ev_ia rfl rfl rfl ⟨(geti_some g12).1, (geti_some g12).2.1⟩ (ed rfl (oGR g9 rfl (oLE y1 1 0 (nI e11) zci64 g12 rfl (?_))))))
   obtain ⟨v13, g14, h⟩ := ob_some h
   refine ed rfl (oGR g9 rfl (ev_call (era rfl (erD eci64 _) (era rfl rfl eran)) (spec_l7Find_s g14) (ed rfl (oGR g9 rfl (oB (nI v13) (nI 0) rfl rfl (ed rfl (oPF (.bool (decide (0 ≤ v13))) g9 rfl (evdn (kp [(0, dL ci64 a0), (3, nI y1), (29, .bool (decide (0 ≤ v13)))] rfl rfl ?_)))))))))
   rcases cond_some h with ⟨g15, h⟩ | ⟨g15, h⟩
   ·refine ls_cT rfl g15 (ls_rs tbOk (oC nofun rfl (en [(2, .bool false)] rfl rfl (ls_ret ?_))))
    cases h
    cases hr1
    exact ⟨.inl rfl, rfl⟩
   ·exact ls_cF rfl g15 (ls_skip (hK4 _ (kp [(0, dL ci64 a0), (3, nI y1)] rfl rfl (ls_rgn tbOk (oM (nI y1) rfl (oB (nI y1) (nI 1) rfl rfl (oA (nI (IntKind.i64.wrap (y1 + 1))) rfl (evn (hN _ (IntKind.i64.wrap (y1 + 1)) h (okr rfl))))))))))
 ·exact ls_cF rfl g3 (ls_exit (kXspec_IsPermutation_B1 () (by cases h; exact hr1) _ (okr rfl)))
def spec_IsValidOrder_J1 (x2 : Bool) : Option (Bool) := some x2
def spec_IsValidOrder (a0 : Y91) (a1 : List Int) : Option (Bool) := obind (spec_IsValidQuery a0) fun v3 => cond v3 (cond ((List.length a1 : Int) == a0.1) (obind (spec_IsPermutation a1) fun v7 => spec_IsValidOrder_J1 v7) (spec_IsValidOrder_J1 false)) (spec_IsValidOrder_J1 false)
theorem spec_IsValidOrder_s {a0 : Y91} {a1 : List Int} {r : Bool} (h : spec_IsValidOrder a0 a1 = some r) : SoundAt Try.prog 125 [.agg (c92_ddd a0), dL ci64 a1] (.bool r) := by
 unfold spec_IsValidOrder at h
 refine sound_lit tbOk lit125 (nb rfl) rfl ?_
 unfold c125
 refine kp [(0, .agg (c92_ddd a0)), (1, dL ci64 a1)] rfl rfl (ls_rs tbOk (oX (.agg (c92_ddd a0)) rfl (oC nofun rfl (en [(1, dL ci64 a1), (2, .box [nI a0.1, dL c195_d a0.2.1, dL ci64 a0.2.2])] rfl rfl (ls_rs_k tbOk fun K1 hK1 => ?_)))))
 have kspec_IsValidOrder_J1 : ∀ (x2 : Bool), spec_IsValidOrder_J1 x2 = some r → ∀ σ' : PS, okK σ' [(4, .bool x2)] → K1 σ' := by
  intro x2 h σ' hk
  unfold spec_IsValidOrder_J1 at h
  refine hK1 _ (ls_keep [(4, .bool x2)] hk rfl (ls_ret ?_))
  cases h
  exact ⟨.inl rfl, rfl⟩
 refine oL1 0 (.agg (c92_ddd a0)) rfl (?_)
 obtain ⟨v3, g4, h⟩ := ob_some h
 refine ev_call (era rfl (erg (erc rfl (erc (erD ec195_d _) (erc (erD eci64 _) rfl)))) eran) (spec_IsValidQuery_s g4) (oM (.bool v3) rfl (?_))
 rcases cond_some h with ⟨g5, h⟩ | ⟨g5, h⟩
 ·refine oGR g5 rfl (oM (dL ci64 a1) rfl (oGR g5 rfl (oN (dL ci64 a1) rfl (oGR g5 rfl (oF 2 0 rfl ⟨_, rfl⟩ (oGR g5 rfl (oL1 0 (nI a0.1) rfl (oGR g5 rfl (oB (nI (List.length a1 : Int)) (nI a0.1) rfl rfl (oPT (.bool ((List.length a1 : Int) == a0.1)) g5 rfl (oM (.bool ((List.length a1 : Int) == a0.1)) rfl (?_))))))))))))
  rcases cond_some h with ⟨g6, h⟩ | ⟨g6, h⟩
  ·refine oGR g6 rfl (oM (dL ci64 a1) rfl (?_))
   obtain ⟨v7, g8, h⟩ := ob_some h
   exact oGR g6 rfl (ev_call (era rfl (erD eci64 _) eran) (spec_IsPermutation_s g8) (oPT (.bool v7) g6 rfl (oA (.bool v7) rfl (evn (kspec_IsValidOrder_J1 v7 h _ (okr rfl))))))
  ·exact oGF g6 rfl (oGF g6 rfl (oPF (.bool false) g6 rfl (oA (.bool false) rfl (evn (kspec_IsValidOrder_J1 false h _ (okr rfl))))))
 ·exact oGF g5 rfl (oGF g5 rfl (oGF g5 rfl (oGF g5 rfl (oGF g5 rfl (oPF (.bool false) g5 rfl (oM (.bool false) rfl (oGF rfl rfl (oGF rfl rfl (oPF (.bool false) rfl rfl (oA (.bool false) rfl (evn (kspec_IsValidOrder_J1 false h _ (okr rfl)))))))))))))
def spec_CompareRows_B1 (a0 : List Int) (a1 : List Int) (rec : Int → Option (Sum (Unit) (Int))) (y1 : Int) : Option (Sum (Unit) (Int)) := cond (decide (y1 < (List.length a0 : Int))) (cond (decide (y1 < (List.length a1 : Int))) (obind (geti a0 y1) fun e7 => obind (geti a1 y1) fun e9 => cond (decide (e7 < e9)) (some (.inr (-1))) (obind (geti a0 y1) fun e12 => obind (geti a1 y1) fun e14 => cond (decide (e14 < e12)) (some (.inr 1)) (rec (IntKind.i64.wrap (y1 + 1))))) (some (.inl ()))) (some (.inl ()))
def spec_CompareRows (a0 : List Int) (a1 : List Int) : Option (Int) := obind (loopF (spec_CompareRows_B1 a0 a1) fz 0) fun o1 => (match o1 with
  | .inl _ => (cond (decide ((List.length a0 : Int) < (List.length a1 : Int))) (some (-1)) (cond (decide ((List.length a1 : Int) < (List.length a0 : Int))) (some 1) (some 0)))
  | .inr r => some r)
theorem spec_CompareRows_s {a0 : List Int} {a1 : List Int} {r : Int} (h : spec_CompareRows a0 a1 = some r) : SoundAt Try.prog 75 [dL ci64 a0, dL ci64 a1] (nI r) := by
 unfold spec_CompareRows at h
 refine sound_lit tbOk lit75 (nb rfl) rfl ?_
 unfold c75
 refine kp [(0, dL ci64 a0), (1, dL ci64 a1)] rfl rfl (ls_rs tbOk (oC nofun rfl (en [(0, dL ci64 a0), (1, dL ci64 a1)] rfl rfl (ls_seq_k fun K1 hK1 => ls_rs tbOk (oC nofun rfl (en [(0, dL ci64 a0), (1, dL ci64 a1), (5, nI 0)] rfl rfl ?_))))))
 obtain ⟨o1, hl, hr1⟩ := ob_some h
 clear h
 have kXspec_CompareRows_B1 : ∀ (_ : Unit), (cond (decide ((List.length a0 : Int) < (List.length a1 : Int))) (some (-1)) (cond (decide ((List.length a1 : Int) < (List.length a0 : Int))) (some 1) (some 0))) = some r → ∀ σ' : PS, okK σ' [(0, dL ci64 a0), (1, dL ci64 a1)] → K1 σ' := by
  intro _ h σ' hk
  refine hK1 _ (ls_keep [(0, dL ci64 a0), (1, dL ci64 a1)] hk rfl (ls_seq_k fun K17 hK17 => ls_rs tbOk (oM (dL ci64 a0) rfl (oN (dL ci64 a0) rfl (oM (dL ci64 a1) rfl (oN (dL ci64 a1) rfl (oB (nI (List.length a0 : Int)) (nI (List.length a1 : Int)) rfl rfl (en [(0, dL ci64 a0), (1, dL ci64 a1), (40, .bool (decide ((List.length a0 : Int) < (List.length a1 : Int))))] rfl rfl ?_))))))))
  rcases cond_some h with ⟨g18, h⟩ | ⟨g18, h⟩
  ·refine ls_cT rfl g18 (ls_rs tbOk (oC nofun rfl (en [(4, nI (-1))] rfl rfl (ls_ret ?_))))
   cases h
   exact ⟨.inl rfl, rfl⟩
  ·refine ls_cF rfl g18 (ls_skip (hK17 _ (kp [(0, dL ci64 a0), (1, dL ci64 a1)] rfl rfl (ls_seq_k fun K19 hK19 => ls_rs tbOk (oM (dL ci64 a0) rfl (oN (dL ci64 a0) rfl (oM (dL ci64 a1) rfl (oN (dL ci64 a1) rfl (oB (nI (List.length a0 : Int)) (nI (List.length a1 : Int)) rfl rfl (en [(45, .bool (decide ((List.length a1 : Int) < (List.length a0 : Int))))] rfl rfl ?_))))))))))
   rcases cond_some h with ⟨g20, h⟩ | ⟨g20, h⟩
   ·refine ls_cT rfl g20 (ls_rs tbOk (oC nofun rfl (en [(4, nI 1)] rfl rfl (ls_ret ?_))))
    cases h
    exact ⟨.inl rfl, rfl⟩
   ·refine ls_cF rfl g20 (ls_skip (hK19 _ (kp [] rfl rfl (ls_rs tbOk (oC nofun rfl (en [(4, nI 0)] rfl rfl (ls_ret ?_)))))))
    cases h
    exact ⟨.inl rfl, rfl⟩
 refine ls_rec (fun (y1 : Int) => [(0, dL ci64 a0), (1, dL ci64 a1), (5, nI y1)]) (spec_CompareRows_B1 a0 a1) fz 0 o1 hl (okr rfl) (fun _ => rfl) ?_
 rintro m y1 N h hN
 unfold spec_CompareRows_B1 at h
 refine ls_seq_k fun K2 hK2 => ls_rs tbOk (oM (nI y1) rfl (oM (dL ci64 a0) rfl (oN (dL ci64 a0) rfl (oB (nI y1) (nI (List.length a0 : Int)) rfl rfl (oM (.bool (decide (y1 < (List.length a0 : Int)))) rfl (?_))))))
 rcases cond_some h with ⟨g3, h⟩ | ⟨g3, h⟩
 ·refine oGR g3 rfl (oM (nI y1) rfl (oGR g3 rfl (oM (dL ci64 a1) rfl (oGR g3 rfl (oN (dL ci64 a1) rfl (oGR g3 rfl (oB (nI y1) (nI (List.length a1 : Int)) rfl rfl (oPT (.bool (decide (y1 < (List.length a1 : Int)))) g3 rfl (en [(0, dL ci64 a0), (1, dL ci64 a1), (5, nI y1), (15, .bool (decide (y1 < (List.length a1 : Int))))] rfl rfl ?_)))))))))
  rcases cond_some h with ⟨g4, h⟩ | ⟨g4, h⟩
  ·refine ls_cT rfl g4 (ls_skip (hK2 _ (kp [(0, dL ci64 a0), (1, dL ci64 a1), (5, nI y1)] rfl rfl (ls_seq_k fun K5 hK5 => ls_blk (ls_seq_k fun K6 hK6 => ls_rd tbOk mixed (by kernel_rfl) (ed rfl (oM (dL ci64 a0) rfl (ed rfl (oM (nI y1) rfl (?_))))))))))
   obtain ⟨e7, g8, h⟩ := ob_some h
   refine ed rfl (ev_ia rfl rfl rfl ⟨(geti_some g8).1, (geti_some g8).2.1⟩ (ed rfl (oLE y1 1 0 (nI e7) zci64 g8 rfl (ed rfl (oM (dL ci64 a1) rfl (ed rfl (oM (nI y1) rfl (?_))))))))
   obtain ⟨e9, g10, h⟩ := ob_some h
   refine ed rfl (ev_ia rfl rfl rfl ⟨(geti_some g10).1, (geti_some g10).2.1⟩ (ed rfl (oLE y1 1 0 (nI e9) zci64 g10 rfl (ed rfl (oB (nI e7) (nI e9) rfl rfl (evdn (kp [(0, dL ci64 a0), (1, dL ci64 a1), (5, nI y1), (26, .bool (decide (e7 < e9)))] rfl rfl ?_)))))))
   rcases cond_some h with ⟨g11, h⟩ | ⟨g11, h⟩
   ·refine ls_cT rfl g11 (ls_rs tbOk (oC nofun rfl (en [(4, nI (-1))] rfl rfl (ls_ret ?_))))
    cases h
    cases hr1
    exact ⟨.inl rfl, rfl⟩
   ·refine ls_cF rfl g11 (ls_skip (hK6 _ (kp [(0, dL ci64 a0), (1, dL ci64 a1), (5, nI y1)] rfl rfl (ls_rd tbOk mixed (by kernel_rfl) (ed rfl (oM (dL ci64 a0) rfl (ed rfl (oM (nI y1) rfl (?_)))))))))
    obtain ⟨e12, g13, h⟩ := ob_some h
    refine ed rfl (ev_ia rfl rfl rfl ⟨(geti_some g13).1, (geti_some g13).2.1⟩ (ed rfl (oLE y1 1 0 (nI e12) zci64 g13 rfl (ed rfl (oM (dL ci64 a1) rfl (ed rfl (oM (nI y1) rfl (?_))))))))
    obtain ⟨e14, g15, h⟩ := ob_some h
    refine ed rfl (ev_ia rfl rfl rfl ⟨(geti_some g15).1, (geti_some g15).2.1⟩ (ed rfl (oLE y1 1 0 (nI e14) zci64 g15 rfl (ed rfl (oB (nI e12) (nI e14) rfl rfl (evdn (kp [(0, dL ci64 a0), (1, dL ci64 a1), (5, nI y1), (35, .bool (decide (e14 < e12)))] rfl rfl ?_)))))))
    rcases cond_some h with ⟨g16, h⟩ | ⟨g16, h⟩
    ·refine ls_cT rfl g16 (ls_rs tbOk (oC nofun rfl (en [(4, nI 1)] rfl rfl (ls_ret ?_))))
     cases h
     cases hr1
     exact ⟨.inl rfl, rfl⟩
    ·exact ls_cF rfl g16 (ls_skip (hK5 _ (kp [(0, dL ci64 a0), (1, dL ci64 a1), (5, nI y1)] rfl rfl (ls_rgn tbOk (oM (nI y1) rfl (oB (nI y1) (nI 1) rfl rfl (oA (nI (IntKind.i64.wrap (y1 + 1))) rfl (evn (hN _ (IntKind.i64.wrap (y1 + 1)) h (okr rfl))))))))))
  ·exact ls_cF rfl g4 (ls_exit (kXspec_CompareRows_B1 () (by cases h; exact hr1) _ (okr rfl)))
 ·exact oGF g3 rfl (oGF g3 rfl (oGF g3 rfl (oGF g3 rfl (oPF (.bool false) g3 rfl (en [(0, dL ci64 a0), (1, dL ci64 a1), (5, nI y1), (15, .bool false)] rfl rfl (ls_cF rfl rfl (ls_exit (kXspec_CompareRows_B1 () (by cases h; exact hr1) _ (okr rfl)))))))))
def spec_AreValidValues_B1 (a0 : List Int) (rec : Int → Option (Sum (Unit) (Bool))) (y1 : Int) : Option (Sum (Unit) (Bool)) := cond (decide (y1 < (List.length a0 : Int))) (obind (geti a0 y1) fun e5 => obind (spec_l1In e5 0 99) fun v7 => cond (!v7) (some (.inr false)) (rec (IntKind.i64.wrap (y1 + 1)))) (some (.inl ()))
def spec_AreValidValues (a0 : List Int) : Option (Bool) := obind (loopF (spec_AreValidValues_B1 a0) fz 0) fun o1 => (match o1 with
  | .inl _ => (some true)
  | .inr r => some r)
theorem spec_AreValidValues_s {a0 : List Int} {r : Bool} (h : spec_AreValidValues a0 = some r) : SoundAt Try.prog 242 [dL ci64 a0] (.bool r) := by
 unfold spec_AreValidValues at h
 refine sound_lit tbOk lit242 (nb rfl) rfl ?_
 unfold c242
 refine kp [(0, dL ci64 a0)] rfl rfl (ls_rs tbOk (oC nofun rfl (en [(0, dL ci64 a0)] rfl rfl (ls_seq_k fun K1 hK1 => ls_rs tbOk (oC nofun rfl (en [(0, dL ci64 a0), (3, nI 0)] rfl rfl ?_))))))
 obtain ⟨o1, hl, hr1⟩ := ob_some h
 clear h
 have kXspec_AreValidValues_B1 : ∀ (_ : Unit), (some true) = some r → ∀ σ' : PS, okK σ' [] → K1 σ' := by
  intro _ h σ' hk
  refine hK1 _ (ls_keep [] hk rfl (ls_rs tbOk (oC nofun rfl (en [(2, .bool true)] rfl rfl (ls_ret ?_)))))
  cases h
  exact ⟨.inl rfl, rfl⟩
 refine ls_rec (fun (y1 : Int) => [(0, dL ci64 a0), (3, nI y1)]) (spec_AreValidValues_B1 a0) fz 0 o1 hl (okr rfl) (fun _ => rfl) ?_
 rintro m y1 N h hN
 unfold spec_AreValidValues_B1 at h
 refine ls_seq_k fun K2 hK2 => ls_rs tbOk (oM (nI y1) rfl (oM (dL ci64 a0) rfl (oN (dL ci64 a0) rfl (oB (nI y1) (nI (List.length a0 : Int)) rfl rfl (en [(0, dL ci64 a0), (3, nI y1), (7, .bool (decide (y1 < (List.length a0 : Int))))] rfl rfl ?_)))))
 rcases cond_some h with ⟨g3, h⟩ | ⟨g3, h⟩
 ·refine ls_cT rfl g3 (ls_skip (hK2 _ (kp [(0, dL ci64 a0), (3, nI y1)] rfl rfl (ls_seq_k fun K4 hK4 => ls_blk (ls_rs tbOk (oM (dL ci64 a0) rfl (oM (nI y1) rfl (?_))))))))
  obtain ⟨e5, g6, h⟩ := ob_some h
  refine ev_ia rfl rfl rfl ⟨(geti_some g6).1, (geti_some g6).2.1⟩ (oLE y1 1 0 (nI e5) zci64 g6 rfl (?_))
  obtain ⟨v7, g8, h⟩ := ob_some h
  refine ev_call (era rfl rfl (era rfl rfl (era rfl rfl eran))) (spec_l1In_s g8) (ev_un (c1 := .bool v7) rfl trivial (en [(0, dL ci64 a0), (3, nI y1), (15, .bool (!v7))] rfl rfl ?_))
  rcases cond_some h with ⟨g9, h⟩ | ⟨g9, h⟩
  ·refine ls_cT rfl g9 (ls_rs tbOk (oC nofun rfl (en [(2, .bool false)] rfl rfl (ls_ret ?_))))
   cases h
   cases hr1
   exact ⟨.inl rfl, rfl⟩
  ·exact ls_cF rfl g9 (ls_skip (hK4 _ (kp [(0, dL ci64 a0), (3, nI y1)] rfl rfl (ls_rgn tbOk (oM (nI y1) rfl (oB (nI y1) (nI 1) rfl rfl (oA (nI (IntKind.i64.wrap (y1 + 1))) rfl (evn (hN _ (IntKind.i64.wrap (y1 + 1)) h (okr rfl))))))))))
 ·exact ls_cF rfl g3 (ls_exit (kXspec_AreValidValues_B1 () (by cases h; exact hr1) _ trivial))
def spec_IsValidRelation_J2 (rec : Int → Option (Sum (Unit) (Bool))) (y1 : Int) (x11 : Bool) : Option (Sum (Unit) (Bool)) := cond x11 (some (.inr false)) (rec (IntKind.i64.wrap (y1 + 1)))
def spec_IsValidRelation_B1 (a0 : Y127) (rec : Int → Option (Sum (Unit) (Bool))) (y1 : Int) : Option (Sum (Unit) (Bool)) := cond (decide (y1 < (List.length a0.2 : Int))) (obind (geti a0.2 y1) fun e13 => cond ((List.length e13 : Int) != a0.1) (spec_IsValidRelation_J2 rec y1 true) (obind (geti a0.2 y1) fun e16 => obind (spec_AreValidValues e16) fun v18 => cond (!v18) (spec_IsValidRelation_J2 rec y1 true) (cond (decide (0 < y1)) (obind (geti a0.2 (IntKind.i64.wrap (y1 - 1))) fun e22 => obind (geti a0.2 y1) fun e24 => obind (spec_CompareRows e22 e24) fun v26 => spec_IsValidRelation_J2 rec y1 (decide (0 ≤ v26))) (spec_IsValidRelation_J2 rec y1 false)))) (some (.inl ()))
def spec_IsValidRelation (a0 : Y127) : Option (Bool) := obind (spec_l1In a0.1 0 5) fun v2 => cond (!v2) (some false) (cond (decide (4000 < (List.length a0.2 : Int))) (some false) (obind (loopF (spec_IsValidRelation_B1 a0) fz 0) fun o1 => (match o1 with
  | .inl _ => (some true)
  | .inr r => some r)))
theorem spec_IsValidRelation_s {a0 : Y127} {r : Bool} (h : spec_IsValidRelation a0 = some r) : SoundAt Try.prog 217 [.agg (c128_dd a0)] (.bool r) := by
 unfold spec_IsValidRelation at h
 refine sound_lit tbOk lit217 (nb rfl) rfl ?_
 unfold c217
 refine kp [(0, .agg (c128_dd a0))] rfl rfl (ls_rs tbOk (oX (.agg (c128_dd a0)) rfl (oC nofun rfl (en [(1, .box [nI a0.1, dL c25_d a0.2])] rfl rfl (ls_seq_k fun K1 hK1 => ls_rs tbOk (oF 1 0 rfl ⟨_, rfl⟩ (oL1 0 (nI a0.1) rfl (?_))))))))
 obtain ⟨v2, g3, h⟩ := ob_some h
 refine ev_call (era rfl rfl (era rfl rfl (era rfl rfl eran))) (spec_l1In_s g3) (ev_un (c1 := .bool v2) rfl trivial (oM (.bool (!v2)) rfl (?_)))
 rcases cond_some h with ⟨g4, h⟩ | ⟨g4, h⟩
 ·refine oGT g4 rfl (oGT g4 rfl (oGT g4 rfl (oGT g4 rfl (oPT (.bool true) g4 rfl (en [(1, .box [nI a0.1, dL c25_d a0.2]), (13, .bool true)] rfl rfl (ls_cT rfl rfl (ls_rs tbOk (oC nofun rfl (en [(2, .bool false)] rfl rfl (ls_ret ?_))))))))))
  cases h
  exact ⟨.inl rfl, rfl⟩
 ·refine oGR g4 rfl (oF 1 0 rfl ⟨_, rfl⟩ (oGR g4 rfl (oL1 1 (dL c25_d a0.2) rfl (oGR g4 rfl (oN (dL c25_d a0.2) rfl (oGR g4 rfl (oB (nI (List.length a0.2 : Int)) (nI 4000) rfl rfl (oPF (.bool (decide (4000 < (List.length a0.2 : Int)))) g4 rfl (en [(1, .box [nI a0.1, dL c25_d a0.2]), (13, .bool (decide (4000 < (List.length a0.2 : Int))))] rfl rfl ?_)))))))))
  rcases cond_some h with ⟨g5, h⟩ | ⟨g5, h⟩
  ·refine ls_cT rfl g5 (ls_rs tbOk (oC nofun rfl (en [(2, .bool false)] rfl rfl (ls_ret ?_))))
   cases h
   exact ⟨.inl rfl, rfl⟩
  ·refine ls_cF rfl g5 (ls_skip (hK1 _ (kp [(1, .box [nI a0.1, dL c25_d a0.2])] rfl rfl (ls_seq_k fun K6 hK6 => ls_rs tbOk (oC nofun rfl (en [(1, .box [nI a0.1, dL c25_d a0.2]), (3, nI 0)] rfl rfl ?_))))))
   obtain ⟨o1, hl, hr1⟩ := ob_some h
   clear h
   have kXspec_IsValidRelation_B1 : ∀ (_ : Unit), (some true) = some r → ∀ σ' : PS, okK σ' [] → K6 σ' := by
    intro _ h σ' hk
    refine hK6 _ (ls_keep [] hk rfl (ls_rs tbOk (oC nofun rfl (en [(2, .bool true)] rfl rfl (ls_ret ?_)))))
    cases h
    exact ⟨.inl rfl, rfl⟩
   refine ls_rec (fun (y1 : Int) => [(1, .box [nI a0.1, dL c25_d a0.2]), (3, nI y1)]) (spec_IsValidRelation_B1 a0) fz 0 o1 hl (okr rfl) (fun _ => rfl) ?_
   rintro m y1 N h hN
   unfold spec_IsValidRelation_B1 at h
   refine ls_seq_k fun K7 hK7 => ls_rs tbOk (oM (nI y1) rfl (oF 1 0 rfl ⟨_, rfl⟩ (oL1 1 (dL c25_d a0.2) rfl (oN (dL c25_d a0.2) rfl (oB (nI y1) (nI (List.length a0.2 : Int)) rfl rfl (en [(1, .box [nI a0.1, dL c25_d a0.2]), (3, nI y1), (18, .bool (decide (y1 < (List.length a0.2 : Int))))] rfl rfl ?_))))))
   rcases cond_some h with ⟨g8, h⟩ | ⟨g8, h⟩
   ·refine ls_cT rfl g8 (ls_skip (hK7 _ (kp [(1, .box [nI a0.1, dL c25_d a0.2]), (3, nI y1)] rfl rfl (ls_seq_k fun K9 hK9 => ls_blk (ls_rd_k tbOk mixed (by kernel_rfl) fun K10 hK10 => ?_)))))
    have kspec_IsValidRelation_J2 : ∀ (x11 : Bool), spec_IsValidRelation_J2 (loopF (spec_IsValidRelation_B1 a0) m) y1 x11 = some o1 → ∀ σ' : PS, okK σ' [(1, .box [nI a0.1, dL c25_d a0.2]), (3, nI y1), (57, .bool x11)] → K10 σ' := by
     intro x11 h σ' hk
     unfold spec_IsValidRelation_J2 at h
     refine hK10 _ (ls_keep [(1, .box [nI a0.1, dL c25_d a0.2]), (3, nI y1), (57, .bool x11)] hk rfl ?_)
     rcases cond_some h with ⟨g12, h⟩ | ⟨g12, h⟩
     ·refine ls_cT rfl g12 (ls_rs tbOk (oC nofun rfl (en [(2, .bool false)] rfl rfl (ls_ret ?_))))
      cases h
      cases hr1
      exact ⟨.inl rfl, rfl⟩
     ·exact ls_cF rfl g12 (ls_skip (hK9 _ (kp [(1, .box [nI a0.1, dL c25_d a0.2]), (3, nI y1)] rfl rfl (ls_rgn tbOk (oM (nI y1) rfl (oB (nI y1) (nI 1) rfl rfl (oA (nI (IntKind.i64.wrap (y1 + 1))) rfl (evn (hN _ (IntKind.i64.wrap (y1 + 1)) h (okr rfl))))))))))
    refine ed rfl (oF 1 0 rfl ⟨_, rfl⟩ (ed rfl (oL1 1 (dL c25_d a0.2) rfl (ed rfl (oM (nI y1) rfl (?_))))))
    obtain ⟨e13, g14, h⟩ := ob_some h
    refine ed rfl (ev_ia rfl rfl rfl ⟨(geti_some g14).1, (geti_some g14).2.1⟩ (ed rfl (oLE y1 1 0 (dL ci64 e13) zc25_d g14 rfl (ed rfl (oN (dL ci64 e13) rfl (ed rfl (oF 1 0 rfl ⟨_, rfl⟩ (ed rfl (oL1 0 (nI a0.1) rfl (ed rfl (oB (nI (List.length e13 : Int)) (nI a0.1) rfl rfl (ed rfl (oM (.bool ((List.length e13 : Int) != a0.1)) rfl (?_))))))))))))))
    rcases cond_some h with ⟨g15, h⟩ | ⟨g15, h⟩
    ·exact ed rfl (oGT g15 rfl (ed rfl (oGT g15 rfl (ed rfl (oGT g15 rfl (ed rfl (oGT g15 rfl (ed rfl (oGT g15 rfl (ed rfl (oGT g15 rfl (ed rfl (oGT g15 rfl (ed rfl (oPT (.bool true) g15 rfl (ed rfl (oM (.bool true) rfl (ed rfl (oGT rfl rfl (ed rfl (oGT rfl rfl (ed rfl (oGT rfl rfl (ed rfl (ev_gs rfl rfl rfl (ed rfl (ev_gs rfl rfl rfl (ed rfl (ev_gs rfl rfl rfl (ed rfl (ev_gs rfl rfl rfl (ed rfl (ev_gs rfl rfl rfl (ed rfl (ev_gs rfl rfl rfl (ed rfl (ev_gs rfl rfl rfl (ed rfl (ev_gs rfl rfl rfl (ed rfl (ev_gs rfl rfl rfl (ed rfl (ev_gs rfl rfl rfl (ed rfl (ev_gs rfl rfl rfl (ed rfl (ev_gs rfl rfl rfl (ed rfl (ev_gs rfl rfl rfl (ed rfl (oGT rfl rfl (ed rfl (oPT (.bool true) rfl rfl (evdn (kspec_IsValidRelation_J2 true h _ (okr rfl))))))))))))))))))))))))))))))))))))))))))))))))))))))))
    ·refine ed rfl (oGR g15 rfl (oF 1 0 rfl ⟨_, rfl⟩ (ed rfl (oGR g15 rfl (oL1 1 (dL c25_d a0.2) rfl (ed rfl (oGR g15 rfl (oM (nI y1) rfl (?_)))))))))
     obtain ⟨e16, g17, h⟩ := ob_some h
     refine ed rfl (oGR g15 rfl (ev_ia rfl rfl rfl ⟨(geti_some g17).1, (geti_some g17).2.1⟩ (ed rfl (oGR g15 rfl (oLE y1 1 0 (dL ci64 e16) zc25_d g17 rfl (?_))))))
     obtain ⟨v18, g19, h⟩ := ob_some h
     refine ed rfl (oGR g15 rfl (ev_call (era rfl (erD eci64 _) eran) (spec_AreValidValues_s g19) (ed rfl (oGR g15 rfl (ev_un (c1 := .bool v18) rfl trivial (ed rfl (oPF (.bool (!v18)) g15 rfl (ed rfl (oM (.bool (!v18)) rfl (?_))))))))))
     rcases cond_some h with ⟨g20, h⟩ | ⟨g20, h⟩
     ·exact ed rfl (oGT g20 rfl (ed rfl (oGT g20 rfl (ed rfl (oGT g20 rfl (ed rfl (ev_gs rfl rfl rfl (ed rfl (ev_gs rfl rfl rfl (ed rfl (ev_gs rfl rfl rfl (ed rfl (ev_gs rfl rfl rfl (ed rfl (ev_gs rfl rfl rfl (ed rfl (ev_gs rfl rfl rfl (ed rfl (ev_gs rfl rfl rfl (ed rfl (ev_gs rfl rfl rfl (ed rfl (ev_gs rfl rfl rfl (ed rfl (ev_gs rfl rfl rfl (ed rfl (ev_gs rfl rfl rfl (ed rfl (ev_gs rfl rfl rfl (ed rfl (ev_gs rfl rfl rfl (ed rfl (oGT g20 rfl (ed rfl (oPT (.bool true) g20 rfl (evdn (kspec_IsValidRelation_J2 true h _ (okr rfl))))))))))))))))))))))))))))))))))))))
     ·refine ed rfl (oGR g20 rfl (oM (nI y1) rfl (ed rfl (oGR g20 rfl (oB (nI y1) (nI 0) rfl rfl (ed rfl (oGR g20 rfl (oM (.bool (decide (0 < y1))) rfl (?_)))))))))
      rcases cond_some h with ⟨g21, h⟩ | ⟨g21, h⟩
      ·refine ed rfl (oGR g21 rfl (oF 1 0 rfl ⟨_, rfl⟩ (ed rfl (oGR g21 rfl (oL1 1 (dL c25_d a0.2) rfl (ed rfl (oGR g21 rfl (oM (nI y1) rfl (ed rfl (oGR g21 rfl (oB (nI y1) (nI 1) rfl rfl (?_))))))))))))
       obtain ⟨e22, g23, h⟩ := ob_some h
       refine ed rfl (oGR g21 rfl (ev_ia rfl rfl rfl ⟨(geti_some g23).1, (geti_some g23).2.1⟩ (ed rfl (oGR g21 rfl (oLE (IntKind.i64.wrap (y1 - 1)) 1 0 (dL ci64 e22) zc25_d g23 rfl (ed rfl (oGR g21 rfl (oF 1 0 rfl ⟨_, rfl⟩ (ed rfl (oGR g21 rfl (oL1 1 (dL c25_d a0.2) rfl (ed rfl (oGR g21 rfl (oM (nI y1) rfl (?_)))))))))))))))
       obtain ⟨e24, g25, h⟩ := ob_some h
       refine ed rfl (oGR g21 rfl (ev_ia rfl rfl rfl ⟨(geti_some g25).1, (geti_some g25).2.1⟩ (ed rfl (oGR g21 rfl (oLE y1 1 0 (dL ci64 e24) zc25_d g25 rfl (?_))))))
       obtain ⟨v26, g27, h⟩ := ob_some h
       exact ed rfl (oGR g21 rfl (ev_call (era rfl (erD eci64 _) (era rfl (erD eci64 _) eran)) (spec_CompareRows_s g27) (ed rfl (oGR g21 rfl (oB (nI v26) (nI 0) rfl rfl (ed rfl (oGR g20 rfl (oPT (.bool (decide (0 ≤ v26))) g21 rfl (ed rfl (oPF (.bool (decide (0 ≤ v26))) g20 rfl (evdn (kspec_IsValidRelation_J2 (decide (0 ≤ v26)) h _ (okr rfl)))))))))))))
      ·exact ed rfl (oGF g21 rfl (ed rfl (oGF g21 rfl (ed rfl (oGF g21 rfl (ed rfl (oGF g21 rfl (ed rfl (oGF g21 rfl (ed rfl (oGF g21 rfl (ed rfl (oGF g21 rfl (ed rfl (oGF g21 rfl (ed rfl (oGF g21 rfl (ed rfl (oGF g21 rfl (ed rfl (oGF g21 rfl (ed rfl (oGF g21 rfl (ed rfl (oGF g21 rfl (ed rfl (oGR g20 rfl (oPF (.bool false) g21 rfl (ed rfl (oPF (.bool false) g20 rfl (evdn (kspec_IsValidRelation_J2 false h _ (okr rfl)))))))))))))))))))))))))))))))))
   ·exact ls_cF rfl g8 (ls_exit (kXspec_IsValidRelation_B1 () (by cases h; exact hr1) _ trivial))
def spec_IsValidDatabase_J2 (rec : Int → Option (Sum (Unit) (Bool))) (y1 : Int) (x8 : Bool) : Option (Sum (Unit) (Bool)) := cond x8 (some (.inr false)) (rec (IntKind.i64.wrap (y1 + 1)))
def spec_IsValidDatabase_B1 (a0 : List Y207) (rec : Int → Option (Sum (Unit) (Bool))) (y1 : Int) : Option (Sum (Unit) (Bool)) := cond (decide (y1 < (List.length a0 : Int))) (obind (geti a0 y1) fun e5 => obind (spec_IsValidName e5.1) fun v10 => cond (!v10) (spec_IsValidDatabase_J2 rec y1 true) (cond (decide (0 < y1)) (obind (geti a0 (IntKind.i64.wrap (y1 - 1))) fun e14 => cond (!Op.bytesLess e14.1 e5.1) (spec_IsValidDatabase_J2 rec y1 true) (obind (spec_IsValidRelation e5.2) fun v17 => cond (!v17) (spec_IsValidDatabase_J2 rec y1 true) (cond (decide (16 < (List.length e5.2.2 : Int))) (spec_IsValidDatabase_J2 rec y1 true) (spec_IsValidDatabase_J2 rec y1 (decide (e5.2.1 < 1)))))) (obind (spec_IsValidRelation e5.2) fun v21 => cond (!v21) (spec_IsValidDatabase_J2 rec y1 true) (cond (decide (16 < (List.length e5.2.2 : Int))) (spec_IsValidDatabase_J2 rec y1 true) (spec_IsValidDatabase_J2 rec y1 (decide (e5.2.1 < 1))))))) (some (.inl ()))
def spec_IsValidDatabase (a0 : List Y207) : Option (Bool) := obind (loopF (spec_IsValidDatabase_B1 a0) fz 0) fun o1 => (match o1 with
  | .inl _ => (some (decide ((List.length a0 : Int) ≤ 6)))
  | .inr r => some r)
theorem spec_IsValidDatabase_s {a0 : List Y207} {r : Bool} (h : spec_IsValidDatabase a0 = some r) : SoundAt Try.prog 135 [.agg [dL c208_dd a0]] (.bool r) := by
 unfold spec_IsValidDatabase at h
 refine sound_lit tbOk lit135 (nb rfl) rfl ?_
 unfold c135
 refine kp [(0, .agg [dL c208_dd a0])] rfl rfl (ls_rs tbOk (oX (.agg [dL c208_dd a0]) rfl (oC nofun rfl (en [(1, .box [dL c208_dd a0])] rfl rfl (ls_seq_k fun K1 hK1 => ls_rs tbOk (oC nofun rfl (en [(1, .box [dL c208_dd a0]), (3, nI 0)] rfl rfl ?_)))))))
 obtain ⟨o1, hl, hr1⟩ := ob_some h
 clear h
 have kXspec_IsValidDatabase_B1 : ∀ (_ : Unit), (some (decide ((List.length a0 : Int) ≤ 6))) = some r → ∀ σ' : PS, okK σ' [(1, .box [dL c208_dd a0])] → K1 σ' := by
  intro _ h σ' hk
  refine hK1 _ (ls_keep [(1, .box [dL c208_dd a0])] hk rfl (ls_rs tbOk (oF 1 0 rfl ⟨_, rfl⟩ (oL1 0 (dL c208_dd a0) rfl (oN (dL c208_dd a0) rfl (oB (nI (List.length a0 : Int)) (nI 6) rfl rfl (oA (.bool (decide ((List.length a0 : Int) ≤ 6))) rfl (en [(2, .bool (decide ((List.length a0 : Int) ≤ 6)))] rfl rfl (ls_ret ?_)))))))))
  cases h
  exact ⟨.inl rfl, rfl⟩
 refine ls_rec (fun (y1 : Int) => [(1, .box [dL c208_dd a0]), (3, nI y1)]) (spec_IsValidDatabase_B1 a0) fz 0 o1 hl (okr rfl) (fun _ => rfl) ?_
 rintro m y1 N h hN
 unfold spec_IsValidDatabase_B1 at h
 refine ls_seq_k fun K2 hK2 => ls_rs tbOk (oM (nI y1) rfl (oF 1 0 rfl ⟨_, rfl⟩ (oL1 0 (dL c208_dd a0) rfl (oN (dL c208_dd a0) rfl (oB (nI y1) (nI (List.length a0 : Int)) rfl rfl (en [(1, .box [dL c208_dd a0]), (3, nI y1), (9, .bool (decide (y1 < (List.length a0 : Int))))] rfl rfl ?_))))))
 rcases cond_some h with ⟨g3, h⟩ | ⟨g3, h⟩
 ·refine ls_cT rfl g3 (ls_skip (hK2 _ (kp [(1, .box [dL c208_dd a0]), (3, nI y1)] rfl rfl (ls_seq_k fun K4 hK4 => ls_blk (ls_rs tbOk (oF 1 0 rfl ⟨_, rfl⟩ (oL1 0 (dL c208_dd a0) rfl (oM (nI y1) rfl (?_)))))))))
  obtain ⟨e5, g6, h⟩ := ob_some h
  refine ev_ia rfl rfl rfl ⟨(geti_some g6).1, (geti_some g6).2.1⟩ (ev_ldEt (i := y1) (n := 3) (off := 0) (v := .agg (c208_dd e5)) rfl rfl zc208_dd g6 rfl (nb rfl) rfl (ev_al rfl rfl (oS 0 (.agg (c208_dd e5)) [.str e5.1, nI e5.2.1, dL c25_d e5.2.2] rfl rfl (en [(1, .box [dL c208_dd a0]), (3, nI y1), (4, .box [.str e5.1, nI e5.2.1, dL c25_d e5.2.2])] rfl rfl (ls_rd_k tbOk mixed (by kernel_rfl) fun K7 hK7 => ?_)))))
  have kspec_IsValidDatabase_J2 : ∀ (x8 : Bool), spec_IsValidDatabase_J2 (loopF (spec_IsValidDatabase_B1 a0) m) y1 x8 = some o1 → ∀ σ' : PS, okK σ' [(1, .box [dL c208_dd a0]), (3, nI y1), (55, .bool x8)] → K7 σ' := by
   intro x8 h σ' hk
   unfold spec_IsValidDatabase_J2 at h
   refine hK7 _ (ls_keep [(1, .box [dL c208_dd a0]), (3, nI y1), (55, .bool x8)] hk rfl ?_)
   rcases cond_some h with ⟨g9, h⟩ | ⟨g9, h⟩
   ·refine ls_cT rfl g9 (ls_rs tbOk (oC nofun rfl (en [(2, .bool false)] rfl rfl (ls_ret ?_))))
    cases h
    cases hr1
    exact ⟨.inl rfl, rfl⟩
   ·exact ls_cF rfl g9 (ls_skip (hK4 _ (kp [(1, .box [dL c208_dd a0]), (3, nI y1)] rfl rfl (ls_rgn tbOk (oM (nI y1) rfl (oB (nI y1) (nI 1) rfl rfl (oA (nI (IntKind.i64.wrap (y1 + 1))) rfl (evn (hN _ (IntKind.i64.wrap (y1 + 1)) h (okr rfl))))))))))
  refine ed rfl (oF 4 0 rfl ⟨_, rfl⟩ (ed rfl (oL1 0 (.str e5.1) rfl (?_))))
  obtain ⟨v10, g11, h⟩ := ob_some h
  refine ed rfl (ev_call (era rfl rfl eran) (spec_IsValidName_s g11) (ed rfl (ev_un (c1 := .bool v10) rfl trivial (ed rfl (oM (.bool (!v10)) rfl (?_))))))
  rcases cond_some h with ⟨g12, h⟩ | ⟨g12, h⟩
  ·exact ed rfl (oGT g12 rfl (ed rfl (oGT g12 rfl (ed rfl (oGT g12 rfl (ed rfl (ev_gs rfl rfl rfl (ed rfl (ev_gs rfl rfl rfl (ed rfl (ev_gs rfl rfl rfl (ed rfl (ev_gs rfl rfl rfl (ed rfl (ev_gs rfl rfl rfl (ed rfl (ev_gs rfl rfl rfl (ed rfl (ev_gs rfl rfl rfl (ed rfl (ev_gs rfl rfl rfl (ed rfl (ev_gs rfl rfl rfl (ed rfl (ev_gs rfl rfl rfl (ed rfl (oGT g12 rfl (ed rfl (oPT (.bool true) g12 rfl (ed rfl (oM (.bool true) rfl (ed rfl (oGT rfl rfl (ed rfl (oGT rfl rfl (ed rfl (oGT rfl rfl (ed rfl (oGT rfl rfl (ed rfl (oPT (.bool true) rfl rfl (ed rfl (oM (.bool true) rfl (ed rfl (oGT rfl rfl (ed rfl (oGT rfl rfl (ed rfl (oGT rfl rfl (ed rfl (oGT rfl rfl (ed rfl (oGT rfl rfl (ed rfl (oPT (.bool true) rfl rfl (ed rfl (oM (.bool true) rfl (ed rfl (oGT rfl rfl (ed rfl (oGT rfl rfl (ed rfl (oGT rfl rfl (ed rfl (oGT rfl rfl (ed rfl (oPT (.bool true) rfl rfl (evdn (kspec_IsValidDatabase_J2 true h _ (okr rfl))))))))))))))))))))))))))))))))))))))))))))))))))))))))))))))))))))))
  ·refine ed rfl (oGR g12 rfl (oM (nI y1) rfl (ed rfl (oGR g12 rfl (oB (nI y1) (nI 0) rfl rfl (ed rfl (oGR g12 rfl (oM (.bool (decide (0 < y1))) rfl (?_)))))))))
   rcases cond_some h with ⟨g13, h⟩ | ⟨g13, h⟩
   ·refine ed rfl (oGR g13 rfl (oF 1 0 rfl ⟨_, rfl⟩ (ed rfl (oGR g13 rfl (oL1 0 (dL c208_dd a0) rfl (ed rfl (oGR g13 rfl (oM (nI y1) rfl (ed rfl (oGR g13 rfl (oB (nI y1) (nI 1) rfl rfl (?_))))))))))))
    obtain ⟨e14, g15, h⟩ := ob_some h
    refine ed rfl (oGR g13 rfl (ev_ia rfl rfl rfl ⟨(geti_some g15).1, (geti_some g15).2.1⟩ (ed rfl (oGR g13 rfl (ev_fa (c1 := .adr (a0.flatMap c208_dd) (Int.toNat (IntKind.i64.wrap (y1 - 1)) * 3)) (v := .adr (a0.flatMap c208_dd) (Int.toNat (IntKind.i64.wrap (y1 - 1)) * 3)) rfl rfl rfl trivial rfl (ed rfl (oGR g13 rfl (oLE (IntKind.i64.wrap (y1 - 1)) 3 0 (.str e14.1) zc208_dd g15 rfl (ed rfl (oGR g13 rfl (oF 4 0 rfl ⟨_, rfl⟩ (ed rfl (oGR g13 rfl (oL1 0 (.str e5.1) rfl (ed rfl (oGR g13 rfl (oB (.str e14.1) (.str e5.1) rfl trivial (ed rfl (oGR g12 rfl (oPT (.bool (!Op.bytesLess e14.1 e5.1)) g13 rfl (ed rfl (oPF (.bool (!Op.bytesLess e14.1 e5.1)) g12 rfl (ed rfl (oM (.bool (!Op.bytesLess e14.1 e5.1)) rfl (?_)))))))))))))))))))))))))
    rcases cond_some h with ⟨g16, h⟩ | ⟨g16, h⟩
    ·exact ed rfl (oGT g16 rfl (ed rfl (oGT g16 rfl (ed rfl (oGT g16 rfl (ed rfl (oGT g16 rfl (ed rfl (oPT (.bool true) g16 rfl (ed rfl (oM (.bool true) rfl (ed rfl (oGT rfl rfl (ed rfl (oGT rfl rfl (ed rfl (oGT rfl rfl (ed rfl (oGT rfl rfl (ed rfl (oGT rfl rfl (ed rfl (oPT (.bool true) rfl rfl (ed rfl (oM (.bool true) rfl (ed rfl (oGT rfl rfl (ed rfl (oGT rfl rfl (ed rfl (oGT rfl rfl (ed rfl (oGT rfl rfl (ed rfl (oPT (.bool true) rfl rfl (evdn (kspec_IsValidDatabase_J2 true h _ (okr rfl))))))))))))))))))))))))))))))))))))))
    ·refine ed rfl (oGR g16 rfl (oF 4 0 rfl ⟨_, rfl⟩ (ed rfl (oGR g16 rfl (oL1 1 (.agg (c128_dd e5.2)) rfl (?_))))))
     obtain ⟨v17, g18, h⟩ := ob_some h
     refine ed rfl (oGR g16 rfl (ev_call (era rfl (erg (erc rfl (erc (erD ec25_d _) rfl))) eran) (spec_IsValidRelation_s g18) (ed rfl (oGR g16 rfl (ev_un (c1 := .bool v17) rfl trivial (ed rfl (oPF (.bool (!v17)) g16 rfl (ed rfl (oM (.bool (!v17)) rfl (?_))))))))))
     rcases cond_some h with ⟨g19, h⟩ | ⟨g19, h⟩
     ·exact ed rfl (oGT g19 rfl (ed rfl (oGT g19 rfl (ed rfl (oGT g19 rfl (ed rfl (oGT g19 rfl (ed rfl (oGT g19 rfl (ed rfl (oPT (.bool true) g19 rfl (ed rfl (oM (.bool true) rfl (ed rfl (oGT rfl rfl (ed rfl (oGT rfl rfl (ed rfl (oGT rfl rfl (ed rfl (oGT rfl rfl (ed rfl (oPT (.bool true) rfl rfl (evdn (kspec_IsValidDatabase_J2 true h _ (okr rfl))))))))))))))))))))))))))
     ·refine ed rfl (oGR g19 rfl (oF 4 0 rfl ⟨_, rfl⟩ (ed rfl (oGR g19 rfl (oF 4 1 rfl ⟨_, rfl⟩ (ed rfl (oGR g19 rfl (oL1 2 (dL c25_d e5.2.2) rfl (ed rfl (oGR g19 rfl (oN (dL c25_d e5.2.2) rfl (ed rfl (oGR g19 rfl (oB (nI (List.length e5.2.2 : Int)) (nI 16) rfl rfl (ed rfl (oPF (.bool (decide (16 < (List.length e5.2.2 : Int)))) g19 rfl (ed rfl (oM (.bool (decide (16 < (List.length e5.2.2 : Int)))) rfl (?_)))))))))))))))))))
      rcases cond_some h with ⟨g20, h⟩ | ⟨g20, h⟩
      ·exact ed rfl (oGT g20 rfl (ed rfl (oGT g20 rfl (ed rfl (oGT g20 rfl (ed rfl (oGT g20 rfl (ed rfl (oPT (.bool true) g20 rfl (evdn (kspec_IsValidDatabase_J2 true h _ (okr rfl))))))))))))
      ·exact ed rfl (oGR g20 rfl (oF 4 0 rfl ⟨_, rfl⟩ (ed rfl (oGR g20 rfl (oF 4 1 rfl ⟨_, rfl⟩ (ed rfl (oGR g20 rfl (oL1 1 (nI e5.2.1) rfl (ed rfl (oGR g20 rfl (oB (nI e5.2.1) (nI 1) rfl rfl (ed rfl (oPF (.bool (decide (e5.2.1 < 1))) g20 rfl (evdn (kspec_IsValidDatabase_J2 (decide (e5.2.1 < 1)) h _ (okr rfl))))))))))))))))
   ·refine ed rfl (oGF g13 rfl (ed rfl (oGF g13 rfl (ed rfl (oGF g13 rfl (ed rfl (oGF g13 rfl (ed rfl (oGF g13 rfl (ed rfl (oGF g13 rfl (ed rfl (oGF g13 rfl (ed rfl (oGF g13 rfl (ed rfl (oGF g13 rfl (ed rfl (oGF g13 rfl (ed rfl (oGR g12 rfl (oPF (.bool false) g13 rfl (ed rfl (oPF (.bool false) g12 rfl (ed rfl (oM (.bool false) rfl (ed rfl (oGR rfl rfl (oF 4 0 rfl ⟨_, rfl⟩ (ed rfl (oGR rfl rfl (oL1 1 (.agg (c128_dd e5.2)) rfl (?_)))))))))))))))))))))))))))))))))
    obtain ⟨v21, g22, h⟩ := ob_some h
    refine ed rfl (oGR rfl rfl (ev_call (era rfl (erg (erc rfl (erc (erD ec25_d _) rfl))) eran) (spec_IsValidRelation_s g22) (ed rfl (oGR rfl rfl (ev_un (c1 := .bool v21) rfl trivial (ed rfl (oPF (.bool (!v21)) rfl rfl (ed rfl (oM (.bool (!v21)) rfl (?_))))))))))
    rcases cond_some h with ⟨g23, h⟩ | ⟨g23, h⟩
    ·exact ed rfl (oGT g23 rfl (ed rfl (oGT g23 rfl (ed rfl (oGT g23 rfl (ed rfl (oGT g23 rfl (ed rfl (oGT g23 rfl (ed rfl (oPT (.bool true) g23 rfl (ed rfl (oM (.bool true) rfl (ed rfl (oGT rfl rfl (ed rfl (oGT rfl rfl (ed rfl (oGT rfl rfl (ed rfl (oGT rfl rfl (ed rfl (oPT (.bool true) rfl rfl (evdn (kspec_IsValidDatabase_J2 true h _ (okr rfl))))))))))))))))))))))))))
    ·refine ed rfl (oGR g23 rfl (oF 4 0 rfl ⟨_, rfl⟩ (ed rfl (oGR g23 rfl (oF 4 1 rfl ⟨_, rfl⟩ (ed rfl (oGR g23 rfl (oL1 2 (dL c25_d e5.2.2) rfl (ed rfl (oGR g23 rfl (oN (dL c25_d e5.2.2) rfl (ed rfl (oGR g23 rfl (oB (nI (List.length e5.2.2 : Int)) (nI 16) rfl rfl (ed rfl (oPF (.bool (decide (16 < (List.length e5.2.2 : Int)))) g23 rfl (ed rfl (oM (.bool (decide (16 < (List.length e5.2.2 : Int)))) rfl (?_)))))))))))))))))))
     rcases cond_some h with ⟨g24, h⟩ | ⟨g24, h⟩
     ·exact ed rfl (oGT g24 rfl (ed rfl (oGT g24 rfl (ed rfl (oGT g24 rfl (ed rfl (oGT g24 rfl (ed rfl (oPT (.bool true) g24 rfl (evdn (kspec_IsValidDatabase_J2 true h _ (okr rfl))))))))))))
     ·exact ed rfl (oGR g24 rfl (oF 4 0 rfl ⟨_, rfl⟩ (ed rfl (oGR g24 rfl (oF 4 1 rfl ⟨_, rfl⟩ (ed rfl (oGR g24 rfl (oL1 1 (nI e5.2.1) rfl (ed rfl (oGR g24 rfl (oB (nI e5.2.1) (nI 1) rfl rfl (ed rfl (oPF (.bool (decide (e5.2.1 < 1))) g24 rfl (evdn (kspec_IsValidDatabase_J2 (decide (e5.2.1 < 1)) h _ (okr rfl))))))))))))))))
 ·exact ls_cF rfl g3 (ls_exit (kXspec_IsValidDatabase_B1 () (by cases h; exact hr1) _ (okr rfl)))
def spec_l5Copy_B1 (a0 : Y127) (rec : ((List (List Int)) × Int) → Option ((List (List Int)))) (s : (List (List Int)) × Int) : Option ((List (List Int))) := match s with
  | (y1, y2) => cond (decide (y2 < (List.length a0.2 : Int))) (obind (geti a0.2 y2) fun e6 => chk (List.length ([] : List Int) + List.length e6 ≤ lim) (chk (List.length y1 + List.length ([([] : List Int) ++ e6]) ≤ lim) (rec ((y1 ++ ([([] : List Int) ++ e6])), (IntKind.i64.wrap (y2 + 1)))))) (some y1)
def spec_l5Copy (a0 : Y127) : Option (Y127) := obind (loopF (spec_l5Copy_B1 a0) fz (([] : List (List Int)), 0)) fun z2 => some (a0.1, z2)
theorem spec_l5Copy_s {a0 : Y127} {r : Y127} (h : spec_l5Copy a0 = some r) : SoundAt Try.prog 172 [.agg (c128_dd a0)] (.agg (c128_oo r)) := by
 unfold spec_l5Copy at h
 refine sound_lit tbOk lit172 (nb rfl) rfl ?_
 unfold c172
 refine kp [(0, .agg (c128_dd a0))] rfl rfl (ls_rs tbOk (oX (.agg (c128_dd a0)) rfl (ev_al rfl rfl (en [(1, .box [nI a0.1, dL c25_d a0.2]), (2, .box [nI 0, oL 25 c25_o []])] rfl rfl (ls_rs tbOk (oF 1 0 rfl ⟨_, rfl⟩ (oL1 0 (nI a0.1) rfl (ev_bd [nI a0.1] (cs := [nI a0.1, oL 25 c25_o []]) rfl ⟨rfl, trivial⟩ rfl (ev_al rfl rfl (oS 0 (.agg [nI a0.1, oL 25 c25_o []]) [nI a0.1, oL 25 c25_o []] rfl rfl (en [(1, .box [nI a0.1, dL c25_d a0.2]), (2, .box [nI 0, oL 25 c25_o []]), (3, .box [nI a0.1, oL 25 c25_o []])] rfl rfl (ls_seq_k fun K1 hK1 => ls_rs tbOk (oC nofun rfl (en [(1, .box [nI a0.1, dL c25_d a0.2]), (2, .box [nI 0, oL 25 c25_o []]), (3, .box [nI a0.1, oL 25 c25_o []]), (4, nI 0)] rfl rfl ?_))))))))))))))
 obtain ⟨o1, hl, hr1⟩ := ob_some h
 clear h
 have kXspec_l5Copy_B1 : ∀ (z2 : List (List Int)), (some (a0.1, z2)) = some r → ∀ σ' : PS, okK σ' [(2, .box [nI 0, oL 25 c25_o []]), (3, .box [nI a0.1, oL 25 c25_o z2])] → K1 σ' := by
  intro z2 h σ' hk
  refine hK1 _ (ls_keep [(2, .box [nI 0, oL 25 c25_o []]), (3, .box [nI a0.1, oL 25 c25_o z2])] hk rfl (ls_rs tbOk (ev_ldBt (off := 0) (v := .agg [nI a0.1, oL 25 c25_o z2]) (c' := .box [nI a0.1, dL c25_o z2]) rfl rfl rfl rfl (nb rfl) rfl rfl (oS 0 (.agg [nI a0.1, oL 25 c25_o z2]) [nI a0.1, oL 25 c25_o z2] rfl rfl (en [(2, .box [nI a0.1, oL 25 c25_o z2])] rfl rfl (ls_ret ?_))))))
  cases h
  exact ⟨.inl rfl, rfl⟩
 refine ls_rec (fun (s : (List (List Int)) × Int) => match s with | (y1, y2) => [(1, .box [nI a0.1, dL c25_d a0.2]), (2, .box [nI 0, oL 25 c25_o []]), (3, .box [nI a0.1, oL 25 c25_o y1]), (4, nI y2)]) (spec_l5Copy_B1 a0) fz (([] : List (List Int)), 0) o1 hl (okr rfl) (fun _ => rfl) ?_
 rintro m ⟨y1, y2⟩ N h hN
 unfold spec_l5Copy_B1 at h
 dsimp only at h
 refine ls_seq_k fun K3 hK3 => ls_rs tbOk (oM (nI y2) rfl (oF 1 0 rfl ⟨_, rfl⟩ (oL1 1 (dL c25_d a0.2) rfl (oN (dL c25_d a0.2) rfl (oB (nI y2) (nI (List.length a0.2 : Int)) rfl rfl (en [(1, .box [nI a0.1, dL c25_d a0.2]), (2, .box [nI 0, oL 25 c25_o []]), (3, .box [nI a0.1, oL 25 c25_o y1]), (4, nI y2), (12, .bool (decide (y2 < (List.length a0.2 : Int))))] rfl rfl ?_))))))
 rcases cond_some h with ⟨g4, h⟩ | ⟨g4, h⟩
 ·refine ls_cT rfl g4 (ls_skip (hK3 _ (kp [(1, .box [nI a0.1, dL c25_d a0.2]), (2, .box [nI 0, oL 25 c25_o []]), (3, .box [nI a0.1, oL 25 c25_o y1]), (4, nI y2)] rfl rfl (ls_seq_k fun K5 hK5 => ls_blk (ls_drw tbOk mixed (by kernel_rfl) (ed rfl (oF 3 0 rfl ⟨_, rfl⟩ (ed rfl (ev_ldBt (off := 1) (v := oL 25 c25_o y1) (c' := .box [nI a0.1, dL c25_o y1]) rfl rfl rfl rfl (nb rfl) rfl rfl (ed rfl (ev_bs [] (cs := []) rfl trivial rfl (nb rfl) rfl (ed rfl (oF 1 0 rfl ⟨_, rfl⟩ (ed rfl (oL1 1 (dL c25_d a0.2) rfl (ed rfl (oM (nI y2) rfl (?_))))))))))))))))))
  obtain ⟨e6, g7, h⟩ := ob_some h
  refine ed rfl (ev_ia rfl rfl rfl ⟨(geti_some g7).1, (geti_some g7).2.1⟩ (ed rfl (ev_ldEt (i := y2) (n := 1) (off := 0) (v := dL ci64 e6) rfl rfl zc25_d g7 rfl (nb rfl) rfl (?_))))
  obtain ⟨g8, h⟩ := chk_some h
  refine ed rfl (ev_app (f := ci64) (l := ([] : List Int)) (m := e6) (c2 := dL ci64 e6) rfl rfl rfl (flat_len zci64 e6) rfl (map_dg (fun _ => rfl) _) g8 rfl (ed rfl (ev_bs [oL 3 ci64 (([] : List Int) ++ e6)] (cs := [oL 3 ci64 (([] : List Int) ++ e6)]) rfl ⟨rfl, trivial⟩ rfl (nb rfl) rfl (?_))))
  obtain ⟨g9, h⟩ := chk_some h
  exact ed rfl (ev_app (f := c25_o) (l := y1) (m := ([([] : List Int) ++ e6])) (c2 := oL 25 c25_o ([([] : List Int) ++ e6])) rfl rfl rfl (flat_len zc25_o ([([] : List Int) ++ e6])) rfl rfl g9 rfl (ed rfl (oF 3 0 rfl ⟨_, rfl⟩ (ed rfl (oS 1 (oL 25 c25_o (y1 ++ ([([] : List Int) ++ e6]))) [nI a0.1, oL 25 c25_o (y1 ++ ([([] : List Int) ++ e6]))] rfl rfl (evdn (hK5 _ (kp [(1, .box [nI a0.1, dL c25_d a0.2]), (2, .box [nI 0, oL 25 c25_o []]), (3, .box [nI a0.1, oL 25 c25_o (y1 ++ ([([] : List Int) ++ e6]))]), (4, nI y2)] rfl rfl (ls_rgn tbOk (oM (nI y2) rfl (oB (nI y2) (nI 1) rfl rfl (oA (nI (IntKind.i64.wrap (y2 + 1))) rfl (evn (hN _ ((y1 ++ ([([] : List Int) ++ e6])), (IntKind.i64.wrap (y2 + 1))) h (okr rfl)))))))))))))))
 ·exact ls_cF rfl g4 (ls_exit (kXspec_l5Copy_B1 y1 (by cases h; exact hr1) _ (okr rfl)))
def spec_LookupRelation_B1 (a0 : List Y207) (a1 : List UInt8) (rec : Int → Option (Sum (Unit) (Y127 × Bool))) (y1 : Int) : Option (Sum (Unit) (Y127 × Bool)) := cond (decide (y1 < (List.length a0 : Int))) (obind (spec_IsValidDatabase a0) fun v4 => cond v4 (obind (geti a0 y1) fun e8 => cond (e8.1 == a1) (obind (geti a0 y1) fun e11 => obind (spec_l5Copy e11.2) fun v13 => some (.inr (v13, true))) (rec (IntKind.i64.wrap (y1 + 1)))) (some (.inl ()))) (some (.inl ()))
def spec_LookupRelation (a0 : List Y207) (a1 : List UInt8) : Option (Y127 × Bool) := obind (loopF (spec_LookupRelation_B1 a0 a1) fz 0) fun o1 => (match o1 with
  | .inl _ => (some ((0, []), false))
  | .inr r => some r)
theorem spec_LookupRelation_s {a0 : List Y207} {a1 : List UInt8} {r : Y127 × Bool} (h : spec_LookupRelation a0 a1 = some r) : SoundAt Try.prog 73 [.agg [dL c208_dd a0], .str a1] (.tup [.agg (c128_oo r.1), .bool r.2]) := by
 unfold spec_LookupRelation at h
 refine sound_lit tbOk lit73 (nb rfl) rfl ?_
 unfold c73
 refine kp [(0, .agg [dL c208_dd a0]), (1, .str a1)] rfl rfl (ls_rs tbOk (oX (.agg [dL c208_dd a0]) rfl (ev_al rfl rfl (oC nofun rfl (en [(1, .str a1), (2, .box [dL c208_dd a0]), (4, .box [nI 0, oL 25 c25_o []])] rfl rfl (ls_seq_k fun K1 hK1 => ls_rs tbOk (oC nofun rfl (en [(1, .str a1), (2, .box [dL c208_dd a0]), (4, .box [nI 0, oL 25 c25_o []]), (6, nI 0)] rfl rfl ?_))))))))
 obtain ⟨o1, hl, hr1⟩ := ob_some h
 clear h
 have kXspec_LookupRelation_B1 : ∀ (_ : Unit), (some ((0, []), false)) = some r → ∀ σ' : PS, okK σ' [(4, .box [nI 0, oL 25 c25_o []])] → K1 σ' := by
  intro _ h σ' hk
  refine hK1 _ (ls_keep [(4, .box [nI 0, oL 25 c25_o []])] hk rfl (ls_rs tbOk (ev_bd [] (cs := [nI 0, oL 25 c25_o []]) rfl trivial rfl (oS 0 (.agg [nI 0, oL 25 c25_o []]) [nI 0, oL 25 c25_o []] rfl rfl (oC nofun rfl (en [(4, .box [nI 0, oL 25 c25_o []]), (5, .bool false)] rfl rfl (ls_ret ?_)))))))
  cases h
  exact ⟨.inl rfl, rfl⟩
 refine ls_rec (fun (y1 : Int) => [(1, .str a1), (2, .box [dL c208_dd a0]), (4, .box [nI 0, oL 25 c25_o []]), (6, nI y1)]) (spec_LookupRelation_B1 a0 a1) fz 0 o1 hl (okr rfl) (fun _ => rfl) ?_
 rintro m y1 N h hN
 unfold spec_LookupRelation_B1 at h
 refine ls_seq_k fun K2 hK2 => ls_rs tbOk (oM (nI y1) rfl (oF 2 0 rfl ⟨_, rfl⟩ (oL1 0 (dL c208_dd a0) rfl (oN (dL c208_dd a0) rfl (oB (nI y1) (nI (List.length a0 : Int)) rfl rfl (oM (.bool (decide (y1 < (List.length a0 : Int)))) rfl (?_)))))))
 rcases cond_some h with ⟨g3, h⟩ | ⟨g3, h⟩
 ·refine oGR g3 rfl (oL1 0 (.agg [dL c208_dd a0]) rfl (?_))
  obtain ⟨v4, g5, h⟩ := ob_some h
  refine oGR g3 rfl (ev_call (era rfl (erg (erc (erD ec208_dd _) rfl)) eran) (spec_IsValidDatabase_s g5) (oPT (.bool v4) g3 rfl (en [(1, .str a1), (2, .box [dL c208_dd a0]), (4, .box [nI 0, oL 25 c25_o []]), (6, nI y1), (15, .bool v4)] rfl rfl ?_)))
  rcases cond_some h with ⟨g6, h⟩ | ⟨g6, h⟩
  ·refine ls_cT rfl g6 (ls_skip (hK2 _ (kp [(1, .str a1), (2, .box [dL c208_dd a0]), (4, .box [nI 0, oL 25 c25_o []]), (6, nI y1)] rfl rfl (ls_seq_k fun K7 hK7 => ls_blk (ls_rs tbOk (oF 2 0 rfl ⟨_, rfl⟩ (oL1 0 (dL c208_dd a0) rfl (oM (nI y1) rfl (?_)))))))))
   obtain ⟨e8, g9, h⟩ := ob_some h
   refine ev_ia rfl rfl rfl ⟨(geti_some g9).1, (geti_some g9).2.1⟩ (ev_fa (c1 := .adr (a0.flatMap c208_dd) (Int.toNat y1 * 3)) (v := .adr (a0.flatMap c208_dd) (Int.toNat y1 * 3)) rfl rfl rfl trivial rfl (oLE y1 3 0 (.str e8.1) zc208_dd g9 rfl (oM (.str a1) rfl (oB (.str e8.1) (.str a1) rfl trivial (en [(1, .str a1), (2, .box [dL c208_dd a0]), (4, .box [nI 0, oL 25 c25_o []]), (6, nI y1), (25, .bool (e8.1 == a1))] rfl rfl ?_)))))
   rcases cond_some h with ⟨g10, h⟩ | ⟨g10, h⟩
   ·refine ls_cT rfl g10 (ls_rs tbOk (oF 2 0 rfl ⟨_, rfl⟩ (oL1 0 (dL c208_dd a0) rfl (oM (nI y1) rfl (?_)))))
    obtain ⟨e11, g12, h⟩ := ob_some h
    refine ev_ia rfl rfl rfl ⟨(geti_some g12).1, (geti_some g12).2.1⟩ (ev_fa (c1 := .adr (a0.flatMap c208_dd) (Int.toNat y1 * 3)) (v := .adr (a0.flatMap c208_dd) (Int.toNat y1 * 3 + 1)) rfl rfl rfl trivial rfl (oLE y1 3 1 (.agg (c128_dd e11.2)) zc208_dd g12 rfl (?_)))
    obtain ⟨v13, g14, h⟩ := ob_some h
    refine ev_call (era rfl (erg (erc rfl (erc (erD ec25_d _) rfl))) eran) (spec_l5Copy_s g14) (oS 0 (.agg (c128_oo v13)) [nI v13.1, oL 25 c25_o v13.2] rfl rfl (oC nofun rfl (en [(4, .box [nI v13.1, oL 25 c25_o v13.2]), (5, .bool true)] rfl rfl (ls_ret ?_))))
    cases h
    cases hr1
    exact ⟨.inl rfl, rfl⟩
   ·exact ls_cF rfl g10 (ls_skip (hK7 _ (kp [(1, .str a1), (2, .box [dL c208_dd a0]), (4, .box [nI 0, oL 25 c25_o []]), (6, nI y1)] rfl rfl (ls_rgn tbOk (oM (nI y1) rfl (oB (nI y1) (nI 1) rfl rfl (oA (nI (IntKind.i64.wrap (y1 + 1))) rfl (evn (hN _ (IntKind.i64.wrap (y1 + 1)) h (okr rfl))))))))))
  ·exact ls_cF rfl g6 (ls_exit (kXspec_LookupRelation_B1 () (by cases h; exact hr1) _ (okr rfl)))
 ·exact oGF g3 rfl (oGF g3 rfl (oPF (.bool false) g3 rfl (en [(1, .str a1), (2, .box [dL c208_dd a0]), (4, .box [nI 0, oL 25 c25_o []]), (6, nI y1), (15, .bool false)] rfl rfl (ls_cF rfl rfl (ls_exit (kXspec_LookupRelation_B1 () (by cases h; exact hr1) _ (okr rfl)))))))
def spec_IsQueryFor_B1 (a0 : List Y207) (a1 : Y91) (rec : Int → Option (Sum (Unit) (Bool))) (y1 : Int) : Option (Sum (Unit) (Bool)) := cond (decide (y1 < (List.length a1.2.1 : Int))) (obind (geti a1.2.1 y1) fun e5 => obind (spec_LookupRelation a0 e5.1) fun v7 => cond (!v7.2) (some (.inr false)) (obind (geti a1.2.1 y1) fun e10 => cond (v7.1.1 != (List.length e10.2 : Int)) (some (.inr false)) (rec (IntKind.i64.wrap (y1 + 1))))) (some (.inl ()))
def spec_IsQueryFor_J2 (x14 : Bool) : Option (Bool) := some x14
def spec_IsQueryFor (a0 : List Y207) (a1 : Y91) : Option (Bool) := obind (loopF (spec_IsQueryFor_B1 a0 a1) fz 0) fun o1 => (match o1 with
  | .inl _ => (obind (spec_IsValidQuery a1) fun v15 => cond v15 (obind (spec_IsValidDatabase a0) fun v18 => spec_IsQueryFor_J2 v18) (spec_IsQueryFor_J2 false))
  | .inr r => some r)
theorem spec_IsQueryFor_s {a0 : List Y207} {a1 : Y91} {r : Bool} (h : spec_IsQueryFor a0 a1 = some r) : SoundAt Try.prog 148 [.agg [dL c208_dd a0], .agg (c92_ddd a1)] (.bool r) := by
 unfold spec_IsQueryFor at h
 refine sound_lit tbOk lit148 (nb rfl) rfl ?_
 unfold c148
 refine kp [(0, .agg [dL c208_dd a0]), (1, .agg (c92_ddd a1))] rfl rfl (ls_rs tbOk (oX (.agg [dL c208_dd a0]) rfl (oX (.agg (c92_ddd a1)) rfl (oC nofun rfl (en [(2, .box [dL c208_dd a0]), (3, .box [nI a1.1, dL c195_d a1.2.1, dL ci64 a1.2.2])] rfl rfl (ls_seq_k fun K1 hK1 => ls_rs tbOk (oC nofun rfl (en [(2, .box [dL c208_dd a0]), (3, .box [nI a1.1, dL c195_d a1.2.1, dL ci64 a1.2.2]), (5, nI 0)] rfl rfl ?_))))))))
 obtain ⟨o1, hl, hr1⟩ := ob_some h
 clear h
 have kXspec_IsQueryFor_B1 : ∀ (_ : Unit), (obind (spec_IsValidQuery a1) fun v15 => cond v15 (obind (spec_IsValidDatabase a0) fun v18 => spec_IsQueryFor_J2 v18) (spec_IsQueryFor_J2 false)) = some r → ∀ σ' : PS, okK σ' [(2, .box [dL c208_dd a0]), (3, .box [nI a1.1, dL c195_d a1.2.1, dL ci64 a1.2.2])] → K1 σ' := by
  intro _ h σ' hk
  refine hK1 _ (ls_keep [(2, .box [dL c208_dd a0]), (3, .box [nI a1.1, dL c195_d a1.2.1, dL ci64 a1.2.2])] hk rfl (ls_rs_k tbOk fun K13 hK13 => ?_))
  have kspec_IsQueryFor_J2 : ∀ (x14 : Bool), spec_IsQueryFor_J2 x14 = some r → ∀ σ' : PS, okK σ' [(4, .bool x14)] → K13 σ' := by
   intro x14 h σ' hk
   unfold spec_IsQueryFor_J2 at h
   refine hK13 _ (ls_keep [(4, .bool x14)] hk rfl (ls_ret ?_))
   cases h
   exact ⟨.inl rfl, rfl⟩
  refine oL1 0 (.agg (c92_ddd a1)) rfl (?_)
  obtain ⟨v15, g16, h⟩ := ob_some h
  refine ev_call (era rfl (erg (erc rfl (erc (erD ec195_d _) (erc (erD eci64 _) rfl)))) eran) (spec_IsValidQuery_s g16) (oM (.bool v15) rfl (?_))
  rcases cond_some h with ⟨g17, h⟩ | ⟨g17, h⟩
  ·refine oGR g17 rfl (oL1 0 (.agg [dL c208_dd a0]) rfl (?_))
   obtain ⟨v18, g19, h⟩ := ob_some h
   exact oGR g17 rfl (ev_call (era rfl (erg (erc (erD ec208_dd _) rfl)) eran) (spec_IsValidDatabase_s g19) (oPT (.bool v18) g17 rfl (oA (.bool v18) rfl (evn (kspec_IsQueryFor_J2 v18 h _ (okr rfl))))))
  ·exact oGF g17 rfl (oGF g17 rfl (oPF (.bool false) g17 rfl (oA (.bool false) rfl (evn (kspec_IsQueryFor_J2 false h _ (okr rfl))))))
 refine ls_rec (fun (y1 : Int) => [(2, .box [dL c208_dd a0]), (3, .box [nI a1.1, dL c195_d a1.2.1, dL ci64 a1.2.2]), (5, nI y1)]) (spec_IsQueryFor_B1 a0 a1) fz 0 o1 hl (okr rfl) (fun _ => rfl) ?_
 rintro m y1 N h hN
 unfold spec_IsQueryFor_B1 at h
 refine ls_seq_k fun K2 hK2 => ls_rs tbOk (oM (nI y1) rfl (oF 3 0 rfl ⟨_, rfl⟩ (oL1 1 (dL c195_d a1.2.1) rfl (oN (dL c195_d a1.2.1) rfl (oB (nI y1) (nI (List.length a1.2.1 : Int)) rfl rfl (en [(2, .box [dL c208_dd a0]), (3, .box [nI a1.1, dL c195_d a1.2.1, dL ci64 a1.2.2]), (5, nI y1), (12, .bool (decide (y1 < (List.length a1.2.1 : Int))))] rfl rfl ?_))))))
 rcases cond_some h with ⟨g3, h⟩ | ⟨g3, h⟩
 ·refine ls_cT rfl g3 (ls_skip (hK2 _ (kp [(2, .box [dL c208_dd a0]), (3, .box [nI a1.1, dL c195_d a1.2.1, dL ci64 a1.2.2]), (5, nI y1)] rfl rfl (ls_seq_k fun K4 hK4 => ls_blk (ls_rd tbOk mixed (by kernel_rfl) (ed rfl (oL1 0 (.agg [dL c208_dd a0]) rfl (ed rfl (oF 3 0 rfl ⟨_, rfl⟩ (ed rfl (oL1 1 (dL c195_d a1.2.1) rfl (ed rfl (oM (nI y1) rfl (?_))))))))))))))
  obtain ⟨e5, g6, h⟩ := ob_some h
  refine ed rfl (ev_ia rfl rfl rfl ⟨(geti_some g6).1, (geti_some g6).2.1⟩ (ed rfl (ev_fa (c1 := .adr (a1.2.1.flatMap c195_d) (Int.toNat y1 * 2)) (v := .adr (a1.2.1.flatMap c195_d) (Int.toNat y1 * 2)) rfl rfl rfl trivial rfl (ed rfl (oLE y1 2 0 (.str e5.1) zc195_d g6 rfl (?_))))))
  obtain ⟨v7, g8, h⟩ := ob_some h
  refine ed rfl (ev_call (era rfl (erg (erc (erD ec208_dd _) rfl)) (era rfl rfl eran)) (spec_LookupRelation_s g8) (ed rfl (oT (.tup [.agg (c128_oo v7.1), .bool v7.2]) rfl (ed rfl (ev_ext rfl rfl rfl rfl (ed rfl (ev_ext rfl rfl rfl rfl (ed rfl (ev_al rfl rfl (ed rfl (oS 0 (.agg (c128_oo v7.1)) [nI v7.1.1, oL 25 c25_o v7.1.2] rfl rfl (ed rfl (oA (.bool v7.2) rfl (evdn (kp [(2, .box [dL c208_dd a0]), (3, .box [nI a1.1, dL c195_d a1.2.1, dL ci64 a1.2.2]), (5, nI y1), (6, .box [nI v7.1.1, oL 25 c25_o v7.1.2]), (7, .bool v7.2)] rfl rfl (ls_rd tbOk mixed (by kernel_rfl) (ed rfl (oM (.bool v7.2) rfl (ed rfl (ev_un (c1 := .bool v7.2) rfl trivial (ed rfl (oM (.bool (!v7.2)) rfl (?_)))))))))))))))))))))))
  rcases cond_some h with ⟨g9, h⟩ | ⟨g9, h⟩
  ·refine ed rfl (oGT g9 rfl (ed rfl (oGT g9 rfl (ed rfl (oGT g9 rfl (ed rfl (oGT g9 rfl (ed rfl (oGT g9 rfl (ed rfl (oGT g9 rfl (ed rfl (oGT g9 rfl (ed rfl (oGT g9 rfl (ed rfl (oGT g9 rfl (ed rfl (oGT g9 rfl (ed rfl (oPT (.bool true) g9 rfl (evdn (kp [(2, .box [dL c208_dd a0]), (3, .box [nI a1.1, dL c195_d a1.2.1, dL ci64 a1.2.2]), (5, nI y1), (39, .bool true)] rfl rfl (ls_cT rfl rfl (ls_rs tbOk (oC nofun rfl (en [(4, .bool false)] rfl rfl (ls_ret ?_))))))))))))))))))))))))))))
   cases h
   cases hr1
   exact ⟨.inl rfl, rfl⟩
  ·refine ed rfl (oGR g9 rfl (oF 6 0 rfl ⟨_, rfl⟩ (ed rfl (oGR g9 rfl (oL1 0 (nI v7.1.1) rfl (ed rfl (oGR g9 rfl (oF 3 0 rfl ⟨_, rfl⟩ (ed rfl (oGR g9 rfl (oL1 1 (dL c195_d a1.2.1) rfl (ed rfl (oGR g9 rfl (oM (nI y1) rfl (?_)))))))))))))))
   obtain ⟨e10, g11, h⟩ := ob_some h
   refine ed rfl (oGR g9 rfl (ev_ia rfl rfl rfl ⟨(geti_some g11).1, (geti_some g11).2.1⟩ (ed rfl (oGR g9 rfl (ev_fa (c1 := .adr (a1.2.1.flatMap c195_d) (Int.toNat y1 * 2)) (v := .adr (a1.2.1.flatMap c195_d) (Int.toNat y1 * 2 + 1)) rfl rfl rfl trivial rfl (ed rfl (oGR g9 rfl (oLE y1 2 1 (dL ci64 e10.2) zc195_d g11 rfl (ed rfl (oGR g9 rfl (oN (dL ci64 e10.2) rfl (ed rfl (oGR g9 rfl (oB (nI v7.1.1) (nI (List.length e10.2 : Int)) rfl rfl (ed rfl (oPF (.bool (v7.1.1 != (List.length e10.2 : Int))) g9 rfl (evdn (kp [(2, .box [dL c208_dd a0]), (3, .box [nI a1.1, dL c195_d a1.2.1, dL ci64 a1.2.2]), (5, nI y1), (39, .bool (v7.1.1 != (List.length e10.2 : Int)))] rfl rfl ?_))))))))))))))))))
   rcases cond_some h with ⟨g12, h⟩ | ⟨g12, h⟩
   ·refine ls_cT rfl g12 (ls_rs tbOk (oC nofun rfl (en [(4, .bool false)] rfl rfl (ls_ret ?_))))
    cases h
    cases hr1
    exact ⟨.inl rfl, rfl⟩
   ·exact ls_cF rfl g12 (ls_skip (hK4 _ (kp [(2, .box [dL c208_dd a0]), (3, .box [nI a1.1, dL c195_d a1.2.1, dL ci64 a1.2.2]), (5, nI y1)] rfl rfl (ls_rgn tbOk (oM (nI y1) rfl (oB (nI y1) (nI 1) rfl rfl (oA (nI (IntKind.i64.wrap (y1 + 1))) rfl (evn (hN _ (IntKind.i64.wrap (y1 + 1)) h (okr rfl))))))))))
 ·exact ls_cF rfl g3 (ls_exit (kXspec_IsQueryFor_B1 () (by cases h; exact hr1) _ (okr rfl)))
def spec_l5Cols_B1 (a0 : List Int) (a1 : List Int) (rec : ((List Int) × Int) → Option ((List Int))) (s : (List Int) × Int) : Option ((List Int)) := match s with
  | (y1, y2) => cond (decide (y2 < (List.length a1 : Int))) (obind (geti a1 y2) fun e6 => obind (geti a0 e6) fun e8 => chk (List.length y1 + List.length [e8] ≤ lim) (rec ((y1 ++ [e8]), (IntKind.i64.wrap (y2 + 1))))) (some y1)
def spec_l5Cols (a0 : List Int) (a1 : List Int) : Option ((List Int)) := obind (loopF (spec_l5Cols_B1 a0 a1) fz (([] : List Int), 0)) fun z2 => some z2
theorem spec_l5Cols_s {a0 : List Int} {a1 : List Int} {r : (List Int)} (h : spec_l5Cols a0 a1 = some r) : SoundAt Try.prog 76 [dL ci64 a0, dL ci64 a1] (oL 3 ci64 r) := by
 unfold spec_l5Cols at h
 refine sound_lit tbOk lit76 (nb rfl) rfl ?_
 unfold c76
 refine kp [(0, dL ci64 a0), (1, dL ci64 a1)] rfl rfl (ls_rs tbOk (ev_an rfl rfl (en [(0, dL ci64 a0), (1, dL ci64 a1)] rfl rfl (ls_rs tbOk (ev_bs [] (cs := []) rfl trivial rfl (nb rfl) rfl (oA (oL 3 ci64 []) rfl (en [(0, dL ci64 a0), (1, dL ci64 a1), (5, oL 3 ci64 [])] rfl rfl (ls_seq_k fun K1 hK1 => ls_rs tbOk (oC nofun rfl (en [(0, dL ci64 a0), (1, dL ci64 a1), (5, oL 3 ci64 []), (6, nI 0)] rfl rfl ?_))))))))))
 obtain ⟨o1, hl, hr1⟩ := ob_some h
 clear h
 have kXspec_l5Cols_B1 : ∀ (z2 : List Int), (some z2) = some r → ∀ σ' : PS, okK σ' [(5, oL 3 ci64 z2)] → K1 σ' := by
  intro z2 h σ' hk
  refine hK1 _ (ls_keep [(5, oL 3 ci64 z2)] hk rfl (ls_rs tbOk (oT (oL 3 ci64 z2) rfl (oA (oL 3 ci64 z2) rfl (en [(4, oL 3 ci64 z2)] rfl rfl (ls_ret ?_))))))
  cases h
  exact ⟨.inl rfl, rfl⟩
 refine ls_rec (fun (s : (List Int) × Int) => match s with | (y1, y2) => [(0, dL ci64 a0), (1, dL ci64 a1), (5, oL 3 ci64 y1), (6, nI y2)]) (spec_l5Cols_B1 a0 a1) fz (([] : List Int), 0) o1 hl (okr rfl) (fun _ => rfl) ?_
 rintro m ⟨y1, y2⟩ N h hN
 unfold spec_l5Cols_B1 at h
 dsimp only at h
 refine ls_seq_k fun K3 hK3 => ls_rs tbOk (oM (nI y2) rfl (oM (dL ci64 a1) rfl (oN (dL ci64 a1) rfl (oB (nI y2) (nI (List.length a1 : Int)) rfl rfl (en [(0, dL ci64 a0), (1, dL ci64 a1), (5, oL 3 ci64 y1), (6, nI y2), (11, .bool (decide (y2 < (List.length a1 : Int))))] rfl rfl ?_)))))
 rcases cond_some h with ⟨g4, h⟩ | ⟨g4, h⟩
 ·refine ls_cT rfl g4 (ls_skip (hK3 _ (kp [(0, dL ci64 a0), (1, dL ci64 a1), (5, oL 3 ci64 y1), (6, nI y2)] rfl rfl (ls_seq_k fun K5 hK5 => ls_blk (ls_rgn tbOk (oT (oL 3 ci64 y1) rfl (oM (dL ci64 a0) rfl (oM (dL ci64 a1) rfl (oM (nI y2) rfl (?_))))))))))
  obtain ⟨e6, g7, h⟩ := ob_some h
  refine ev_ia rfl rfl rfl ⟨(geti_some g7).1, (geti_some g7).2.1⟩ (oLE y2 1 0 (nI e6) zci64 g7 rfl (?_))
  obtain ⟨e8, g9, h⟩ := ob_some h
  refine ev_ia rfl rfl rfl ⟨(geti_some g9).1, (geti_some g9).2.1⟩ (oLE e6 1 0 (nI e8) zci64 g9 rfl (ev_bs [nI e8] (cs := [nI e8]) rfl ⟨rfl, trivial⟩ rfl (nb rfl) rfl (?_)))
  obtain ⟨g10, h⟩ := chk_some h
  exact ev_app (f := ci64) (l := y1) (m := [e8]) (c2 := oL 3 ci64 [e8]) rfl rfl rfl (flat_len zci64 [e8]) rfl rfl g10 rfl (oA (oL 3 ci64 (y1 ++ [e8])) rfl (evn (hK5 _ (kp [(0, dL ci64 a0), (1, dL ci64 a1), (5, oL 3 ci64 (y1 ++ [e8])), (6, nI y2)] rfl rfl (ls_rgn tbOk (oM (nI y2) rfl (oB (nI y2) (nI 1) rfl rfl (oA (nI (IntKind.i64.wrap (y2 + 1))) rfl (evn (hN _ ((y1 ++ [e8]), (IntKind.i64.wrap (y2 + 1))) h (okr rfl)))))))))))
 ·exact ls_cF rfl g4 (ls_exit (kXspec_l5Cols_B1 y1 (by cases h; exact hr1) _ (okr rfl)))
def spec_l5Sort_J5 (rec : ((List (List Int)) × (List (List Int)) × (List (List Int))) → Option ((List (List Int)))) (y3 : List (List Int)) (x18 : List (List Int)) (x19 : List (List Int)) (x20 : List Int) (x22 : Bool) : Option ((List (List Int))) := cond x22 (chk (List.length y3 + List.length [x20] ≤ lim) (rec (x18, x19, (y3 ++ [x20])))) (rec (x18, x19, y3))
def spec_l5Sort_J4 (rec : ((List (List Int)) × (List (List Int)) × (List (List Int))) → Option ((List (List Int)))) (y3 : List (List Int)) (x18 : List (List Int)) (x19 : List (List Int)) (x20 : List Int) : Option ((List (List Int))) := cond ((List.length y3 : Int) == 0) (spec_l5Sort_J5 rec y3 x18 x19 x20 true) (obind (geti y3 (IntKind.i64.wrap ((List.length y3 : Int) - 1))) fun e26 => obind (spec_CompareRows e26 x20) fun v28 => spec_l5Sort_J5 rec y3 x18 x19 x20 (v28 != 0))
def spec_l5Sort_J3 (rec : ((List (List Int)) × (List (List Int)) × (List (List Int))) → Option ((List (List Int)))) (y1 : List (List Int)) (y2 : List (List Int)) (y3 : List (List Int)) (x16 : Int) : Option ((List (List Int))) := cond (decide (0 < x16)) (obind (geti y2 0) fun e31 => chk ((0 : Int) ≤ 1 ∧ 1 ≤ (List.length y2 : Int) ∧ (List.length y2 : Int) ≤ (List.length y2 : Int)) (spec_l5Sort_J4 rec y3 y1 (subl y2 1 (List.length y2 : Int)) e31)) (obind (geti y1 0) fun e34 => chk ((0 : Int) ≤ 1 ∧ 1 ≤ (List.length y1 : Int) ∧ (List.length y1 : Int) ≤ (List.length y1 : Int)) (spec_l5Sort_J4 rec y3 (subl y1 1 (List.length y1 : Int)) y2 e34))
def spec_l5Sort_J2 (rec : ((List (List Int)) × (List (List Int)) × (List (List Int))) → Option ((List (List Int)))) (y1 : List (List Int)) (y2 : List (List Int)) (y3 : List (List Int)) (x13 : Bool) : Option ((List (List Int))) := cond x13 (cond ((List.length y1 : Int) == 0) (spec_l5Sort_J3 rec y1 y2 y3 1) (cond (decide (0 < (List.length y2 : Int))) (obind (geti y1 0) fun e39 => obind (geti y2 0) fun e41 => obind (spec_CompareRows e39 e41) fun v43 => spec_l5Sort_J3 rec y1 y2 y3 v43) (spec_l5Sort_J3 rec y1 y2 y3 (-1)))) (some y3)
def spec_l5Sort_B1  (rec : ((List (List Int)) × (List (List Int)) × (List (List Int))) → Option ((List (List Int)))) (s : (List (List Int)) × (List (List Int)) × (List (List Int))) : Option ((List (List Int))) := match s with
  | (y1, y2, y3) => cond (decide (0 < (List.length y1 : Int))) (spec_l5Sort_J2 rec y1 y2 y3 true) (spec_l5Sort_J2 rec y1 y2 y3 (decide (0 < (List.length y2 : Int))))
def spec_l5Sort_R (rec : ((List (List Int))) → Option ((List (List Int)))) (a0 : (List (List Int))) : Option ((List (List Int))) := cond (decide ((List.length a0 : Int) < 2)) (some a0) (chk ((0 : Int) ≤ 0 ∧ 0 ≤ IntKind.i64.wrap (Int.tdiv (List.length a0 : Int) 2) ∧ IntKind.i64.wrap (Int.tdiv (List.length a0 : Int) 2) ≤ (List.length a0 : Int)) (obind (rec (subl a0 0 (IntKind.i64.wrap (Int.tdiv (List.length a0 : Int) 2)))) fun v4 => chk ((0 : Int) ≤ IntKind.i64.wrap (Int.tdiv (List.length a0 : Int) 2) ∧ IntKind.i64.wrap (Int.tdiv (List.length a0 : Int) 2) ≤ (List.length a0 : Int) ∧ (List.length a0 : Int) ≤ (List.length a0 : Int)) (obind (rec (subl a0 (IntKind.i64.wrap (Int.tdiv (List.length a0 : Int) 2)) (List.length a0 : Int))) fun v7 => obind (loopF spec_l5Sort_B1 fz (v4, v7, ([] : List (List Int)))) fun z10 => some z10)))
def spec_l5Sort (a0 : List (List Int)) : Option ((List (List Int))) := loopF spec_l5Sort_R fz a0
theorem spec_l5Sort_s {a0 : List (List Int)} {r : (List (List Int))} (h : spec_l5Sort a0 = some r) : SoundAt Try.prog 259 [dL c25_d a0] (dL c25_d r) := by
 suffices key : ∀ m (a0 : List (List Int)) (r : (List (List Int))), loopF spec_l5Sort_R m a0 = some r → SoundAt Try.prog 259 [dL c25_d a0] (dL c25_d r) from key fz a0 r h
 intro m
 induction m with
 | zero => intro a0 r h; cases h
 | succ m ih0 =>
  intro a0 r h
  have ih : ∀ {a0 : List (List Int)} {r : (List (List Int))}, loopF spec_l5Sort_R m a0 = some r → SoundAt Try.prog 259 [dL c25_d a0] (dL c25_d r) := fun h => ih0 _ _ h
  change spec_l5Sort_R (loopF spec_l5Sort_R m) a0 = some r at h
  unfold spec_l5Sort_R at h
  try dsimp only at h
  refine sound_lit tbOk lit259 (nb rfl) rfl ?_
  unfold c259
  refine kp [(0, dL c25_d a0)] rfl rfl (ls_rs tbOk (ev_an rfl rfl (en [(0, dL c25_d a0)] rfl rfl (ls_seq_k fun K1 hK1 => ls_rs tbOk (oM (dL c25_d a0) rfl (oN (dL c25_d a0) rfl (oB (nI (List.length a0 : Int)) (nI 2) rfl rfl (en [(0, dL c25_d a0), (11, .bool (decide ((List.length a0 : Int) < 2)))] rfl rfl ?_))))))))
  rcases cond_some h with ⟨g2, h⟩ | ⟨g2, h⟩
  ·refine ls_cT rfl g2 (ls_rs tbOk (oT (dL c25_d a0) rfl (oA (dL c25_d a0) rfl (en [(2, dL c25_d a0)] rfl rfl (ls_ret ?_)))))
   cases h
   exact ⟨.inl rfl, rfl⟩
  ·refine ls_cF rfl g2 (ls_skip (hK1 _ (kp [(0, dL c25_d a0)] rfl rfl (ls_rs tbOk (oM (dL c25_d a0) rfl (oN (dL c25_d a0) rfl (oB (nI (List.length a0 : Int)) (nI 2) rfl ⟨rfl, by decide⟩ (oA (nI (IntKind.i64.wrap (Int.tdiv (List.length a0 : Int) 2))) rfl (en [(0, dL c25_d a0), (3, nI (IntKind.i64.wrap (Int.tdiv (List.length a0 : Int) 2)))] rfl rfl (ls_rs tbOk (oM (dL c25_d a0) rfl (oM (nI (IntKind.i64.wrap (Int.tdiv (List.length a0 : Int) 2))) rfl (?_)))))))))))))
   obtain ⟨g3, h⟩ := chk_some h
   refine ev_sle (lst := a0) rfl rfl zc25_d rfl rfl g3 (?_)
   obtain ⟨v4, g5, h⟩ := ob_some h
   refine ev_call (era rfl (erD ec25_d _) eran) (ih g5) (oA (dL c25_d v4) rfl (en [(0, dL c25_d a0), (3, nI (IntKind.i64.wrap (Int.tdiv (List.length a0 : Int) 2))), (4, dL c25_d v4)] rfl rfl (ls_rs tbOk (oM (dL c25_d a0) rfl (oM (nI (IntKind.i64.wrap (Int.tdiv (List.length a0 : Int) 2))) rfl (?_))))))
   obtain ⟨g6, h⟩ := chk_some h
   refine ev_sle (lst := a0) rfl rfl zc25_d rfl rfl g6 (?_)
   obtain ⟨v7, g8, h⟩ := ob_some h
   refine ev_call (era rfl (erD ec25_d _) eran) (ih g8) (oA (dL c25_d v7) rfl (en [(4, dL c25_d v4), (5, dL c25_d v7)] rfl rfl (ls_rs tbOk (ev_bs [] (cs := []) rfl trivial rfl (nb rfl) rfl (oA (oL 25 c25_o []) rfl (en [(4, dL c25_d v4), (5, dL c25_d v7), (6, oL 25 c25_o [])] rfl rfl (ls_seq_k fun K9 hK9 => ?_)))))))
   obtain ⟨o1, hl, hr1⟩ := ob_some h
   clear h
   have kXspec_l5Sort_B1 : ∀ (z10 : List (List Int)), (some z10) = some r → ∀ σ' : PS, okK σ' [(6, oL 25 c25_d z10)] → K9 σ' := by
    intro z10 h σ' hk
    refine hK9 _ (ls_keep [(6, oL 25 c25_d z10)] hk rfl (ls_rs tbOk (oT (oL 25 c25_d z10) rfl (oA (oL 25 c25_d z10) rfl (en [(2, oL 25 c25_d z10)] rfl rfl (ls_keep [(2, dL c25_d z10)] ⟨(ke rfl (erO ec25_d _)), trivial⟩ rfl (ls_ret ?_)))))))
    cases h
    exact ⟨.inl rfl, rfl⟩
   refine ls_rec (fun (s : (List (List Int)) × (List (List Int)) × (List (List Int))) => match s with | (y1, y2, y3) => [(4, dL c25_d y1), (5, dL c25_d y2), (6, oL 25 c25_d y3)]) spec_l5Sort_B1 fz (v4, v7, ([] : List (List Int))) o1 hl (okr rfl) (fun _ => rfl) ?_
   rintro m ⟨y1, y2, y3⟩ N h hN
   unfold spec_l5Sort_B1 at h
   dsimp only at h
   refine ls_seq_k fun K11 hK11 => ls_rs_k tbOk fun K12 hK12 => ?_
   have kspec_l5Sort_J2 : ∀ (x13 : Bool), spec_l5Sort_J2 (loopF spec_l5Sort_B1 m) y1 y2 y3 x13 = some o1 → ∀ σ' : PS, okK σ' [(4, dL c25_d y1), (5, dL c25_d y2), (6, oL 25 c25_d y3), (32, .bool x13)] → K12 σ' := by
    intro x13 h σ' hk
    unfold spec_l5Sort_J2 at h
    refine hK12 _ (ls_keep [(4, dL c25_d y1), (5, dL c25_d y2), (6, oL 25 c25_d y3), (32, .bool x13)] hk rfl ?_)
    rcases cond_some h with ⟨g14, h⟩ | ⟨g14, h⟩
    ·refine ls_cT rfl g14 (ls_skip (hK11 _ (kp [(4, dL c25_d y1), (5, dL c25_d y2), (6, oL 25 c25_d y3)] rfl rfl (ls_blk (ls_rs tbOk (oC nofun rfl (en [(4, dL c25_d y1), (5, dL c25_d y2), (6, oL 25 c25_d y3)] rfl rfl (ls_seq_k fun K15 hK15 => ls_blk (ls_rs tbOk (oM (dL c25_d y1) rfl (oN (dL c25_d y1) rfl (oB (nI (List.length y1 : Int)) (nI 0) rfl rfl (oA (.bool ((List.length y1 : Int) == 0)) rfl (en [(4, dL c25_d y1), (5, dL c25_d y2), (6, oL 25 c25_d y3), (33, .bool ((List.length y1 : Int) == 0))] rfl rfl ?_))))))))))))))
     have kspec_l5Sort_J3 : ∀ (x16 : Int), spec_l5Sort_J3 (loopF spec_l5Sort_B1 m) y1 y2 y3 x16 = some o1 → ∀ σ' : PS, okK σ' [(4, dL c25_d y1), (5, dL c25_d y2), (6, oL 25 c25_d y3), (7, nI x16)] → K15 σ' := by
      intro x16 h σ' hk
      unfold spec_l5Sort_J3 at h
      refine hK15 _ (ls_keep [(4, dL c25_d y1), (5, dL c25_d y2), (6, oL 25 c25_d y3), (7, nI x16)] hk rfl (ls_rs tbOk (ev_bs [] (cs := []) rfl trivial rfl (nb rfl) rfl (oA (oL 3 ci64 []) rfl (en [(4, dL c25_d y1), (5, dL c25_d y2), (6, oL 25 c25_d y3), (7, nI x16)] rfl rfl (ls_seq_k fun K17 hK17 => ls_rs tbOk (oM (nI x16) rfl (oB (nI x16) (nI 0) rfl rfl (en [(4, dL c25_d y1), (5, dL c25_d y2), (6, oL 25 c25_d y3), (50, .bool (decide (0 < x16)))] rfl rfl ?_)))))))))
      have kspec_l5Sort_J4 : ∀ (x18 : List (List Int)) (x19 : List (List Int)) (x20 : List Int), spec_l5Sort_J4 (loopF spec_l5Sort_B1 m) y3 x18 x19 x20 = some o1 → ∀ σ' : PS, okK σ' [(4, dL c25_d x18), (5, dL c25_d x19), (6, oL 25 c25_d y3), (8, dL ci64 x20)] → K17 σ' := by
       intro x18 x19 x20 h σ' hk
       unfold spec_l5Sort_J4 at h
       refine hK17 _ (ls_keep [(4, dL c25_d x18), (5, dL c25_d x19), (6, oL 25 c25_d y3), (8, dL ci64 x20)] hk rfl (ls_rs_k tbOk fun K21 hK21 => ?_))
       have kspec_l5Sort_J5 : ∀ (x22 : Bool), spec_l5Sort_J5 (loopF spec_l5Sort_B1 m) y3 x18 x19 x20 x22 = some o1 → ∀ σ' : PS, okK σ' [(4, dL c25_d x18), (5, dL c25_d x19), (6, oL 25 c25_d y3), (8, dL ci64 x20), (74, .bool x22)] → K21 σ' := by
        intro x22 h σ' hk
        unfold spec_l5Sort_J5 at h
        refine hK21 _ (ls_keep [(4, dL c25_d x18), (5, dL c25_d x19), (6, oL 25 c25_d y3), (8, dL ci64 x20), (74, .bool x22)] hk rfl ?_)
        rcases cond_some h with ⟨g23, h⟩ | ⟨g23, h⟩
        ·refine ls_cT rfl g23 (ls_rgn tbOk (oT (oL 25 c25_d y3) rfl (oT (dL ci64 x20) rfl (ev_bs [dL ci64 x20] (cs := [dL ci64 x20]) rfl ⟨rfl, trivial⟩ rfl (nb rfl) rfl (?_)))))
         obtain ⟨g24, h⟩ := chk_some h
         exact ev_app (f := c25_d) (l := y3) (m := [x20]) (c2 := oL 25 c25_d [x20]) rfl rfl rfl (flat_len zc25_d [x20]) rfl rfl g24 rfl (oA (oL 25 c25_d (y3 ++ [x20])) rfl (evn (hN _ (x18, x19, (y3 ++ [x20])) h (okr rfl))))
        ·exact ls_cF rfl g23 (ls_skip (hN _ (x18, x19, y3) h (okr rfl)))
       refine oM (oL 25 c25_d y3) rfl (oN (dL c25_d y3) rfl (oB (nI (List.length y3 : Int)) (nI 0) rfl rfl (oM (.bool ((List.length y3 : Int) == 0)) rfl (?_))))
       rcases cond_some h with ⟨g25, h⟩ | ⟨g25, h⟩
       ·exact oGT g25 rfl (oGT g25 rfl (oGT g25 rfl (oGT g25 rfl (oGT g25 rfl (oGT g25 rfl (oGT g25 rfl (oGT g25 rfl (oGT g25 rfl (oPT (.bool true) g25 rfl (evn (kspec_l5Sort_J5 true h _ (okr rfl))))))))))))
       ·refine oGR g25 rfl (oM (oL 25 c25_d y3) rfl (oGR g25 rfl (oM (oL 25 c25_d y3) rfl (oGR g25 rfl (oN (dL c25_d y3) rfl (oGR g25 rfl (oB (nI (List.length y3 : Int)) (nI 1) rfl rfl (?_))))))))
        obtain ⟨e26, g27, h⟩ := ob_some h
        refine oGR g25 rfl (ev_ia rfl rfl rfl ⟨(geti_some g27).1, (geti_some g27).2.1⟩ (oGR g25 rfl (oLE (IntKind.i64.wrap ((List.length y3 : Int) - 1)) 1 0 (dL ci64 e26) zc25_d g27 rfl (oGR g25 rfl (oM (dL ci64 x20) rfl (?_))))))
        obtain ⟨v28, g29, h⟩ := ob_some h
        exact oGR g25 rfl (ev_call (era rfl (erD eci64 _) (era rfl (erD eci64 _) eran)) (spec_CompareRows_s g29) (oGR g25 rfl (oB (nI v28) (nI 0) rfl rfl (oPF (.bool (v28 != 0)) g25 rfl (evn (kspec_l5Sort_J5 (v28 != 0) h _ (okr rfl)))))))
      rcases cond_some h with ⟨g30, h⟩ | ⟨g30, h⟩
      ·refine ls_cT rfl g30 (ls_rs tbOk (oM (dL c25_d y2) rfl (?_)))
       obtain ⟨e31, g32, h⟩ := ob_some h
       refine ev_ia rfl rfl rfl ⟨(geti_some g32).1, (geti_some g32).2.1⟩ (ev_ldEt (i := 0) (n := 1) (off := 0) (v := dL ci64 e31) rfl rfl zc25_d g32 rfl (nb rfl) rfl (oA (dL ci64 e31) rfl (en [(4, dL c25_d y1), (5, dL c25_d y2), (6, oL 25 c25_d y3), (8, dL ci64 e31)] rfl rfl (ls_rgn tbOk (oM (dL c25_d y2) rfl (?_))))))
       obtain ⟨g33, h⟩ := chk_some h
       exact ev_sle (lst := y2) rfl rfl zc25_d rfl rfl g33 (oA (dL c25_d (subl y2 1 (List.length y2 : Int))) rfl (evn (kspec_l5Sort_J4 y1 (subl y2 1 (List.length y2 : Int)) e31 h _ (okr rfl))))
      ·refine ls_cF rfl g30 (ls_rs tbOk (oM (dL c25_d y1) rfl (?_)))
       obtain ⟨e34, g35, h⟩ := ob_some h
       refine ev_ia rfl rfl rfl ⟨(geti_some g35).1, (geti_some g35).2.1⟩ (ev_ldEt (i := 0) (n := 1) (off := 0) (v := dL ci64 e34) rfl rfl zc25_d g35 rfl (nb rfl) rfl (oA (dL ci64 e34) rfl (en [(4, dL c25_d y1), (5, dL c25_d y2), (6, oL 25 c25_d y3), (8, dL ci64 e34)] rfl rfl (ls_rgn tbOk (oM (dL c25_d y1) rfl (?_))))))
       obtain ⟨g36, h⟩ := chk_some h
       exact ev_sle (lst := y1) rfl rfl zc25_d rfl rfl g36 (oA (dL c25_d (subl y1 1 (List.length y1 : Int))) rfl (evn (kspec_l5Sort_J4 (subl y1 1 (List.length y1 : Int)) y2 e34 h _ (okr rfl))))
     rcases cond_some h with ⟨g37, h⟩ | ⟨g37, h⟩
     ·exact ls_cT rfl g37 (ls_rgn tbOk (oC nofun rfl (evn (kspec_l5Sort_J3 1 h _ (okr rfl)))))
     ·refine ls_cF rfl g37 (ls_rs tbOk (oM (dL c25_d y2) rfl (oN (dL c25_d y2) rfl (oB (nI (List.length y2 : Int)) (nI 0) rfl rfl (oA (.bool (decide (0 < (List.length y2 : Int)))) rfl (en [(4, dL c25_d y1), (5, dL c25_d y2), (6, oL 25 c25_d y3), (37, .bool (decide (0 < (List.length y2 : Int))))] rfl rfl ?_))))))
      rcases cond_some h with ⟨g38, h⟩ | ⟨g38, h⟩
      ·refine ls_cT rfl g38 (ls_drw tbOk mixed (by kernel_rfl) (ed rfl (oM (dL c25_d y1) rfl (?_))))
       obtain ⟨e39, g40, h⟩ := ob_some h
       refine ed rfl (ev_ia rfl rfl rfl ⟨(geti_some g40).1, (geti_some g40).2.1⟩ (ed rfl (oLE 0 1 0 (dL ci64 e39) zc25_d g40 rfl (ed rfl (oM (dL c25_d y2) rfl (?_))))))
       obtain ⟨e41, g42, h⟩ := ob_some h
       refine ed rfl (ev_ia rfl rfl rfl ⟨(geti_some g42).1, (geti_some g42).2.1⟩ (ed rfl (oLE 0 1 0 (dL ci64 e41) zc25_d g42 rfl (?_))))
       obtain ⟨v43, g44, h⟩ := ob_some h
       exact ed rfl (ev_call (era rfl (erD eci64 _) (era rfl (erD eci64 _) eran)) (spec_CompareRows_s g44) (ed rfl (oA (nI v43) rfl (evdn (kspec_l5Sort_J3 v43 h _ (okr rfl))))))
      ·exact ls_cF rfl g38 (ls_rgn tbOk (oC nofun rfl (evn (kspec_l5Sort_J3 (-1) h _ (okr rfl)))))
    ·exact ls_cF rfl g14 (ls_exit (kXspec_l5Sort_B1 y3 (by cases h; exact hr1) _ (okr rfl)))
   refine oM (dL c25_d y1) rfl (oN (dL c25_d y1) rfl (oB (nI (List.length y1 : Int)) (nI 0) rfl rfl (oM (.bool (decide (0 < (List.length y1 : Int)))) rfl (?_))))
   rcases cond_some h with ⟨g45, h⟩ | ⟨g45, h⟩
   ·exact oGT g45 rfl (oGT g45 rfl (oGT g45 rfl (oPT (.bool true) g45 rfl (evn (kspec_l5Sort_J2 true h _ (okr rfl))))))
   ·exact oGR g45 rfl (oM (dL c25_d y2) rfl (oGR g45 rfl (oN (dL c25_d y2) rfl (oGR g45 rfl (oB (nI (List.length y2 : Int)) (nI 0) rfl rfl (oPF (.bool (decide (0 < (List.length y2 : Int)))) g45 rfl (evn (kspec_l5Sort_J2 (decide (0 < (List.length y2 : Int))) h _ (okr rfl)))))))))
def c128_do (x : Y127) : List V := [nI x.1, dL c25_o x.2]
theorem zc128_do (x : Y127) : (c128_do x).length = 2 := rfl
theorem ec128_do (x : Y127) : erL (c128_do x) = c128_dd x := (erc rfl (erc (erD ec25_o _) rfl))
def spec_NewRelation_B1 (a0 : Int) (a1 : List (List Int)) (rec : Int → Option (Sum (Unit) (Y127 × Bool))) (y1 : Int) : Option (Sum (Unit) (Y127 × Bool)) := cond (decide (y1 < (List.length a1 : Int))) (obind (geti a1 y1) fun e5 => cond ((List.length e5 : Int) != a0) (some (.inr ((0, []), false))) (obind (geti a1 y1) fun e8 => obind (spec_AreValidValues e8) fun v10 => cond (!v10) (some (.inr ((0, []), false))) (rec (IntKind.i64.wrap (y1 + 1))))) (some (.inl ()))
def spec_NewRelation (a0 : Int) (a1 : List (List Int)) : Option (Y127 × Bool) := obind (loopF (spec_NewRelation_B1 a0 a1) fz 0) fun o1 => (match o1 with
  | .inl _ => (obind (spec_l5Sort a1) fun v13 => obind (spec_l5Copy (a0, v13)) fun v15 => obind (spec_IsValidRelation v15) fun v18 => cond (!v18) (some ((0, []), false)) (some (v15, true)))
  | .inr r => some r)
theorem spec_NewRelation_s {a0 : Int} {a1 : List (List Int)} {r : Y127 × Bool} (h : spec_NewRelation a0 a1 = some r) : SoundAt Try.prog 247 [nI a0, dL c25_d a1] (.tup [.agg (c128_oo r.1), .bool r.2]) := by
 unfold spec_NewRelation at h
 refine sound_lit tbOk lit247 (nb rfl) rfl ?_
 unfold c247
 refine kp [(0, nI a0), (1, dL c25_d a1)] rfl rfl (ls_rs tbOk (ev_al rfl rfl (oC nofun rfl (en [(0, nI a0), (1, dL c25_d a1), (4, .box [nI 0, oL 25 c25_o []])] rfl rfl (ls_seq_k fun K1 hK1 => ls_rs tbOk (oC nofun rfl (en [(0, nI a0), (1, dL c25_d a1), (4, .box [nI 0, oL 25 c25_o []]), (6, nI 0)] rfl rfl ?_)))))))
 obtain ⟨o1, hl, hr1⟩ := ob_some h
 clear h
 have kXspec_NewRelation_B1 : ∀ (_ : Unit), (obind (spec_l5Sort a1) fun v13 => obind (spec_l5Copy (a0, v13)) fun v15 => obind (spec_IsValidRelation v15) fun v18 => cond (!v18) (some ((0, []), false)) (some (v15, true))) = some r → ∀ σ' : PS, okK σ' [(0, nI a0), (1, dL c25_d a1), (4, .box [nI 0, oL 25 c25_o []])] → K1 σ' := by
  intro _ h σ' hk
  refine hK1 _ (ls_keep [(0, nI a0), (1, dL c25_d a1), (4, .box [nI 0, oL 25 c25_o []])] hk rfl (ls_rs tbOk (oM (nI a0) rfl (oM (dL c25_d a1) rfl (?_)))))
  obtain ⟨v13, g14, h⟩ := ob_some h
  refine ev_call (era rfl (erD ec25_d _) eran) (spec_l5Sort_s g14) (ev_bd [nI a0, dL c25_d v13] (cs := [nI a0, dL c25_d v13]) rfl ⟨rfl, rfl, trivial⟩ rfl (?_))
  obtain ⟨v15, g16, h⟩ := ob_some h
  refine ev_call (era rfl (erg (erc rfl (erc (erD ec25_d _) rfl))) eran) (spec_l5Copy_s g16) (ev_al rfl rfl (oS 0 (.agg (c128_oo v15)) [nI v15.1, oL 25 c25_o v15.2] rfl rfl (en [(4, .box [nI 0, oL 25 c25_o []]), (7, .box [nI v15.1, oL 25 c25_o v15.2])] rfl rfl (ls_seq_k fun K17 hK17 => ls_rs tbOk (oL1 0 (.agg (c128_do v15)) rfl (?_))))))
  obtain ⟨v18, g19, h⟩ := ob_some h
  refine ev_call (era rfl (erg (erc rfl (erc (erD ec25_o _) rfl))) eran) (spec_IsValidRelation_s g19) (ev_un (c1 := .bool v18) rfl trivial (en [(4, .box [nI 0, oL 25 c25_o []]), (7, .box [nI v15.1, oL 25 c25_o v15.2]), (37, .bool (!v18))] rfl rfl ?_))
  rcases cond_some h with ⟨g20, h⟩ | ⟨g20, h⟩
  ·refine ls_cT rfl g20 (ls_rs tbOk (ev_bd [] (cs := [nI 0, oL 25 c25_o []]) rfl trivial rfl (oS 0 (.agg [nI 0, oL 25 c25_o []]) [nI 0, oL 25 c25_o []] rfl rfl (oC nofun rfl (en [(4, .box [nI 0, oL 25 c25_o []]), (5, .bool false)] rfl rfl (ls_ret ?_))))))
   cases h
   exact ⟨.inl rfl, rfl⟩
  ·refine ls_cF rfl g20 (ls_skip (hK17 _ (kp [(4, .box [nI 0, oL 25 c25_o []]), (7, .box [nI v15.1, oL 25 c25_o v15.2])] rfl rfl (ls_rs tbOk (ev_ldBt (off := 0) (v := .agg (c128_oo v15)) (c' := .box [nI v15.1, dL c25_o v15.2]) rfl rfl rfl rfl (nb rfl) rfl rfl (oS 0 (.agg (c128_oo v15)) [nI v15.1, oL 25 c25_o v15.2] rfl rfl (oC nofun rfl (en [(4, .box [nI v15.1, oL 25 c25_o v15.2]), (5, .bool true)] rfl rfl (ls_ret ?_)))))))))
   cases h
   exact ⟨.inl rfl, rfl⟩
 refine ls_rec (fun (y1 : Int) => [(0, nI a0), (1, dL c25_d a1), (4, .box [nI 0, oL 25 c25_o []]), (6, nI y1)]) (spec_NewRelation_B1 a0 a1) fz 0 o1 hl (okr rfl) (fun _ => rfl) ?_
 rintro m y1 N h hN
 unfold spec_NewRelation_B1 at h
 refine ls_seq_k fun K2 hK2 => ls_rs tbOk (oM (nI y1) rfl (oM (dL c25_d a1) rfl (oN (dL c25_d a1) rfl (oB (nI y1) (nI (List.length a1 : Int)) rfl rfl (en [(0, nI a0), (1, dL c25_d a1), (4, .box [nI 0, oL 25 c25_o []]), (6, nI y1), (11, .bool (decide (y1 < (List.length a1 : Int))))] rfl rfl ?_)))))
 rcases cond_some h with ⟨g3, h⟩ | ⟨g3, h⟩
 ·refine ls_cT rfl g3 (ls_skip (hK2 _ (kp [(0, nI a0), (1, dL c25_d a1), (4, .box [nI 0, oL 25 c25_o []]), (6, nI y1)] rfl rfl (ls_seq_k fun K4 hK4 => ls_blk (ls_rs tbOk (oM (dL c25_d a1) rfl (oM (nI y1) rfl (?_))))))))
  obtain ⟨e5, g6, h⟩ := ob_some h
  refine ev_ia rfl rfl rfl ⟨(geti_some g6).1, (geti_some g6).2.1⟩ (oLE y1 1 0 (dL ci64 e5) zc25_d g6 rfl (oN (dL ci64 e5) rfl (oM (nI a0) rfl (oB (nI (List.length e5 : Int)) (nI a0) rfl rfl (oM (.bool ((List.length e5 : Int) != a0)) rfl (?_))))))
  rcases cond_some h with ⟨g7, h⟩ | ⟨g7, h⟩
  ·refine oGT g7 rfl (oGT g7 rfl (oGT g7 rfl (oGT g7 rfl (oGT g7 rfl (oGT g7 rfl (oPT (.bool true) g7 rfl (en [(0, nI a0), (1, dL c25_d a1), (4, .box [nI 0, oL 25 c25_o []]), (6, nI y1), (28, .bool true)] rfl rfl (ls_cT rfl rfl (ls_rs tbOk (ev_bd [] (cs := [nI 0, oL 25 c25_o []]) rfl trivial rfl (oS 0 (.agg [nI 0, oL 25 c25_o []]) [nI 0, oL 25 c25_o []] rfl rfl (oC nofun rfl (en [(4, .box [nI 0, oL 25 c25_o []]), (5, .bool false)] rfl rfl (ls_ret ?_))))))))))))))
   cases h
   cases hr1
   exact ⟨.inl rfl, rfl⟩
  ·refine oGR g7 rfl (oM (dL c25_d a1) rfl (oGR g7 rfl (oM (nI y1) rfl (?_))))
   obtain ⟨e8, g9, h⟩ := ob_some h
   refine oGR g7 rfl (ev_ia rfl rfl rfl ⟨(geti_some g9).1, (geti_some g9).2.1⟩ (oGR g7 rfl (oLE y1 1 0 (dL ci64 e8) zc25_d g9 rfl (?_))))
   obtain ⟨v10, g11, h⟩ := ob_some h
   refine oGR g7 rfl (ev_call (era rfl (erD eci64 _) eran) (spec_AreValidValues_s g11) (oGR g7 rfl (ev_un (c1 := .bool v10) rfl trivial (oPF (.bool (!v10)) g7 rfl (en [(0, nI a0), (1, dL c25_d a1), (4, .box [nI 0, oL 25 c25_o []]), (6, nI y1), (28, .bool (!v10))] rfl rfl ?_)))))
   rcases cond_some h with ⟨g12, h⟩ | ⟨g12, h⟩
   ·refine ls_cT rfl g12 (ls_rs tbOk (ev_bd [] (cs := [nI 0, oL 25 c25_o []]) rfl trivial rfl (oS 0 (.agg [nI 0, oL 25 c25_o []]) [nI 0, oL 25 c25_o []] rfl rfl (oC nofun rfl (en [(4, .box [nI 0, oL 25 c25_o []]), (5, .bool false)] rfl rfl (ls_ret ?_))))))
    cases h
    cases hr1
    exact ⟨.inl rfl, rfl⟩
   ·exact ls_cF rfl g12 (ls_skip (hK4 _ (kp [(0, nI a0), (1, dL c25_d a1), (4, .box [nI 0, oL 25 c25_o []]), (6, nI y1)] rfl rfl (ls_rgn tbOk (oM (nI y1) rfl (oB (nI y1) (nI 1) rfl rfl (oA (nI (IntKind.i64.wrap (y1 + 1))) rfl (evn (hN _ (IntKind.i64.wrap (y1 + 1)) h (okr rfl))))))))))
 ·exact ls_cF rfl g3 (ls_exit (kXspec_NewRelation_B1 () (by cases h; exact hr1) _ (okr rfl)))
def spec_Project_B1 (a0 : Y127) (a1 : List Int) (rec : Int → Option (Sum (Unit) (Y127 × Bool))) (y1 : Int) : Option (Sum (Unit) (Y127 × Bool)) := cond (decide (y1 < (List.length a1 : Int))) (obind (geti a1 y1) fun e5 => obind (spec_l1In e5 0 (IntKind.i64.wrap (a0.1 - 1))) fun v7 => cond (!v7) (some (.inr ((0, []), false))) (rec (IntKind.i64.wrap (y1 + 1)))) (some (.inl ()))
def spec_Project_B2 (a0 : Y127) (a1 : List Int) (rec : ((List (List Int)) × Int) → Option ((List (List Int)))) (s : (List (List Int)) × Int) : Option ((List (List Int))) := match s with
  | (y2, y3) => cond (decide (y3 < (List.length a0.2 : Int))) (obind (geti a0.2 y3) fun e20 => obind (spec_l5Cols e20 a1) fun v22 => chk (List.length y2 + List.length [v22] ≤ lim) (rec ((y2 ++ [v22]), (IntKind.i64.wrap (y3 + 1))))) (some y2)
def spec_Project (a0 : Y127) (a1 : List Int) : Option (Y127 × Bool) := obind (loopF (spec_Project_B1 a0 a1) fz 0) fun o1 => (match o1 with
  | .inl _ => (obind (spec_IsValidRelation a0) fun v11 => cond (!v11) (some ((0, []), false)) (cond (decide (5 < (List.length a1 : Int))) (some ((0, []), false)) (obind (loopF (spec_Project_B2 a0 a1) fz (([] : List (List Int)), 0)) fun z16 => obind (spec_NewRelation (List.length a1 : Int) z16) fun v25 => some (v25.1, v25.2))))
  | .inr r => some r)
theorem spec_Project_s {a0 : Y127} {a1 : List Int} {r : Y127 × Bool} (h : spec_Project a0 a1 = some r) : SoundAt Try.prog 245 [.agg (c128_dd a0), dL ci64 a1] (.tup [.agg (c128_oo r.1), .bool r.2]) := by
 unfold spec_Project at h
 refine sound_lit tbOk lit245 (nb rfl) rfl ?_
 unfold c245
 refine kp [(0, .agg (c128_dd a0)), (1, dL ci64 a1)] rfl rfl (ls_rs tbOk (oX (.agg (c128_dd a0)) rfl (ev_al rfl rfl (oC nofun rfl (en [(1, dL ci64 a1), (2, .box [nI a0.1, dL c25_d a0.2]), (4, .box [nI 0, oL 25 c25_o []])] rfl rfl (ls_seq_k fun K1 hK1 => ls_rs tbOk (oC nofun rfl (en [(1, dL ci64 a1), (2, .box [nI a0.1, dL c25_d a0.2]), (4, .box [nI 0, oL 25 c25_o []]), (6, nI 0)] rfl rfl ?_))))))))
 obtain ⟨o1, hl, hr1⟩ := ob_some h
 clear h
 have kXspec_Project_B1 : ∀ (_ : Unit), (obind (spec_IsValidRelation a0) fun v11 => cond (!v11) (some ((0, []), false)) (cond (decide (5 < (List.length a1 : Int))) (some ((0, []), false)) (obind (loopF (spec_Project_B2 a0 a1) fz (([] : List (List Int)), 0)) fun z16 => obind (spec_NewRelation (List.length a1 : Int) z16) fun v25 => some (v25.1, v25.2)))) = some r → ∀ σ' : PS, okK σ' [(1, dL ci64 a1), (2, .box [nI a0.1, dL c25_d a0.2]), (4, .box [nI 0, oL 25 c25_o []])] → K1 σ' := by
  intro _ h σ' hk
  refine hK1 _ (ls_keep [(1, dL ci64 a1), (2, .box [nI a0.1, dL c25_d a0.2]), (4, .box [nI 0, oL 25 c25_o []])] hk rfl (ls_seq_k fun K10 hK10 => ls_rs tbOk (oL1 0 (.agg (c128_dd a0)) rfl (?_))))
  obtain ⟨v11, g12, h⟩ := ob_some h
  refine ev_call (era rfl (erg (erc rfl (erc (erD ec25_d _) rfl))) eran) (spec_IsValidRelation_s g12) (ev_un (c1 := .bool v11) rfl trivial (oM (.bool (!v11)) rfl (?_)))
  rcases cond_some h with ⟨g13, h⟩ | ⟨g13, h⟩
  ·refine oGT g13 rfl (oGT g13 rfl (oGT g13 rfl (oPT (.bool true) g13 rfl (en [(1, dL ci64 a1), (2, .box [nI a0.1, dL c25_d a0.2]), (4, .box [nI 0, oL 25 c25_o []]), (34, .bool true)] rfl rfl (ls_cT rfl rfl (ls_rs tbOk (ev_bd [] (cs := [nI 0, oL 25 c25_o []]) rfl trivial rfl (oS 0 (.agg [nI 0, oL 25 c25_o []]) [nI 0, oL 25 c25_o []] rfl rfl (oC nofun rfl (en [(4, .box [nI 0, oL 25 c25_o []]), (5, .bool false)] rfl rfl (ls_ret ?_)))))))))))
   cases h
   exact ⟨.inl rfl, rfl⟩
  ·refine oGR g13 rfl (oM (dL ci64 a1) rfl (oGR g13 rfl (oN (dL ci64 a1) rfl (oGR g13 rfl (oB (nI (List.length a1 : Int)) (nI 5) rfl rfl (oPF (.bool (decide (5 < (List.length a1 : Int)))) g13 rfl (en [(1, dL ci64 a1), (2, .box [nI a0.1, dL c25_d a0.2]), (4, .box [nI 0, oL 25 c25_o []]), (34, .bool (decide (5 < (List.length a1 : Int))))] rfl rfl ?_)))))))
   rcases cond_some h with ⟨g14, h⟩ | ⟨g14, h⟩
   ·refine ls_cT rfl g14 (ls_rs tbOk (ev_bd [] (cs := [nI 0, oL 25 c25_o []]) rfl trivial rfl (oS 0 (.agg [nI 0, oL 25 c25_o []]) [nI 0, oL 25 c25_o []] rfl rfl (oC nofun rfl (en [(4, .box [nI 0, oL 25 c25_o []]), (5, .bool false)] rfl rfl (ls_ret ?_))))))
    cases h
    exact ⟨.inl rfl, rfl⟩
   ·refine ls_cF rfl g14 (ls_skip (hK10 _ (kp [(1, dL ci64 a1), (2, .box [nI a0.1, dL c25_d a0.2]), (4, .box [nI 0, oL 25 c25_o []])] rfl rfl (ls_rs tbOk (ev_bs [] (cs := []) rfl trivial rfl (nb rfl) rfl (oA (oL 25 c25_o []) rfl (en [(1, dL ci64 a1), (2, .box [nI a0.1, dL c25_d a0.2]), (4, .box [nI 0, oL 25 c25_o []]), (7, oL 25 c25_o [])] rfl rfl (ls_seq_k fun K15 hK15 => ls_rs tbOk (oC nofun rfl (en [(1, dL ci64 a1), (2, .box [nI a0.1, dL c25_d a0.2]), (4, .box [nI 0, oL 25 c25_o []]), (7, oL 25 c25_o []), (8, nI 0)] rfl rfl ?_))))))))))
    obtain ⟨o2, hl, hr2⟩ := ob_some h
    clear h
    have kXspec_Project_B2 : ∀ (z16 : List (List Int)), (obind (spec_NewRelation (List.length a1 : Int) z16) fun v25 => some (v25.1, v25.2)) = some r → ∀ σ' : PS, okK σ' [(1, dL ci64 a1), (4, .box [nI 0, oL 25 c25_o []]), (7, oL 25 c25_o z16)] → K15 σ' := by
     intro z16 h σ' hk
     refine hK15 _ (ls_keep [(1, dL ci64 a1), (4, .box [nI 0, oL 25 c25_o []]), (7, oL 25 c25_o z16)] hk rfl (ls_rs tbOk (oM (dL ci64 a1) rfl (oN (dL ci64 a1) rfl (oM (oL 25 c25_o z16) rfl (?_))))))
     obtain ⟨v25, g26, h⟩ := ob_some h
     refine ev_call (era rfl rfl (era rfl (erD ec25_o _) eran)) (spec_NewRelation_s g26) (oT (.tup [.agg (c128_oo v25.1), .bool v25.2]) rfl (ev_ext rfl rfl rfl rfl (ev_ext rfl rfl rfl rfl (ev_al rfl rfl (oS 0 (.agg (c128_oo v25.1)) [nI v25.1.1, oL 25 c25_o v25.1.2] rfl rfl (oA (.bool v25.2) rfl (en [(4, .box [nI 0, oL 25 c25_o []]), (9, .box [nI v25.1.1, oL 25 c25_o v25.1.2]), (10, .bool v25.2)] rfl rfl (ls_rs tbOk (ev_ldBt (off := 0) (v := .agg (c128_oo v25.1)) (c' := .box [nI v25.1.1, dL c25_o v25.1.2]) rfl rfl rfl rfl (nb rfl) rfl rfl (oM (.bool v25.2) rfl (oS 0 (.agg (c128_oo v25.1)) [nI v25.1.1, oL 25 c25_o v25.1.2] rfl rfl (oA (.bool v25.2) rfl (en [(4, .box [nI v25.1.1, oL 25 c25_o v25.1.2]), (5, .bool v25.2)] rfl rfl (ls_ret ?_))))))))))))))
     cases h
     exact ⟨.inl rfl, rfl⟩
    refine ls_rec (fun (s : (List (List Int)) × Int) => match s with | (y2, y3) => [(1, dL ci64 a1), (2, .box [nI a0.1, dL c25_d a0.2]), (4, .box [nI 0, oL 25 c25_o []]), (7, oL 25 c25_o y2), (8, nI y3)]) (spec_Project_B2 a0 a1) fz (([] : List (List Int)), 0) o2 hl (okr rfl) (fun _ => rfl) ?_
    rintro m ⟨y2, y3⟩ N h hN
    unfold spec_Project_B2 at h
    dsimp only at h
    refine ls_seq_k fun K17 hK17 => ls_rs tbOk (oM (nI y3) rfl (oF 2 0 rfl ⟨_, rfl⟩ (oL1 1 (dL c25_d a0.2) rfl (oN (dL c25_d a0.2) rfl (oB (nI y3) (nI (List.length a0.2 : Int)) rfl rfl (en [(1, dL ci64 a1), (2, .box [nI a0.1, dL c25_d a0.2]), (4, .box [nI 0, oL 25 c25_o []]), (7, oL 25 c25_o y2), (8, nI y3), (41, .bool (decide (y3 < (List.length a0.2 : Int))))] rfl rfl ?_))))))
    rcases cond_some h with ⟨g18, h⟩ | ⟨g18, h⟩
    ·refine ls_cT rfl g18 (ls_skip (hK17 _ (kp [(1, dL ci64 a1), (2, .box [nI a0.1, dL c25_d a0.2]), (4, .box [nI 0, oL 25 c25_o []]), (7, oL 25 c25_o y2), (8, nI y3)] rfl rfl (ls_seq_k fun K19 hK19 => ls_blk (ls_rgn tbOk (oT (oL 25 c25_o y2) rfl (oF 2 0 rfl ⟨_, rfl⟩ (oL1 1 (dL c25_d a0.2) rfl (oM (nI y3) rfl (?_))))))))))
     obtain ⟨e20, g21, h⟩ := ob_some h
     refine ev_ia rfl rfl rfl ⟨(geti_some g21).1, (geti_some g21).2.1⟩ (oLE y3 1 0 (dL ci64 e20) zc25_d g21 rfl (oM (dL ci64 a1) rfl (?_)))
     obtain ⟨v22, g23, h⟩ := ob_some h
     refine ev_call (era rfl (erD eci64 _) (era rfl (erD eci64 _) eran)) (spec_l5Cols_s g23) (ev_bs [oL 3 ci64 v22] (cs := [oL 3 ci64 v22]) rfl ⟨rfl, trivial⟩ rfl (nb rfl) rfl (?_))
     obtain ⟨g24, h⟩ := chk_some h
     exact ev_app (f := c25_o) (l := y2) (m := [v22]) (c2 := oL 25 c25_o [v22]) rfl rfl rfl (flat_len zc25_o [v22]) rfl rfl g24 rfl (oA (oL 25 c25_o (y2 ++ [v22])) rfl (evn (hK19 _ (kp [(1, dL ci64 a1), (2, .box [nI a0.1, dL c25_d a0.2]), (4, .box [nI 0, oL 25 c25_o []]), (7, oL 25 c25_o (y2 ++ [v22])), (8, nI y3)] rfl rfl (ls_rgn tbOk (oM (nI y3) rfl (oB (nI y3) (nI 1) rfl rfl (oA (nI (IntKind.i64.wrap (y3 + 1))) rfl (evn (hN _ ((y2 ++ [v22]), (IntKind.i64.wrap (y3 + 1))) h (okr rfl)))))))))))
    ·exact ls_cF rfl g18 (ls_exit (kXspec_Project_B2 y2 (by cases h; exact hr2) _ (okr rfl)))
 refine ls_rec (fun (y1 : Int) => [(1, dL ci64 a1), (2, .box [nI a0.1, dL c25_d a0.2]), (4, .box [nI 0, oL 25 c25_o []]), (6, nI y1)]) (spec_Project_B1 a0 a1) fz 0 o1 hl (okr rfl) (fun _ => rfl) ?_
 rintro m y1 N h hN
 unfold spec_Project_B1 at h
 refine ls_seq_k fun K2 hK2 => ls_rs tbOk (oM (nI y1) rfl (oM (dL ci64 a1) rfl (oN (dL ci64 a1) rfl (oB (nI y1) (nI (List.length a1 : Int)) rfl rfl (en [(1, dL ci64 a1), (2, .box [nI a0.1, dL c25_d a0.2]), (4, .box [nI 0, oL 25 c25_o []]), (6, nI y1), (14, .bool (decide (y1 < (List.length a1 : Int))))] rfl rfl ?_)))))
 rcases cond_some h with ⟨g3, h⟩ | ⟨g3, h⟩
 ·refine ls_cT rfl g3 (ls_skip (hK2 _ (kp [(1, dL ci64 a1), (2, .box [nI a0.1, dL c25_d a0.2]), (4, .box [nI 0, oL 25 c25_o []]), (6, nI y1)] rfl rfl (ls_seq_k fun K4 hK4 => ls_blk (ls_rd tbOk mixed (by kernel_rfl) (ed rfl (oM (dL ci64 a1) rfl (ed rfl (oM (nI y1) rfl (?_))))))))))
  obtain ⟨e5, g6, h⟩ := ob_some h
  refine ed rfl (ev_ia rfl rfl rfl ⟨(geti_some g6).1, (geti_some g6).2.1⟩ (ed rfl (oLE y1 1 0 (nI e5) zci64 g6 rfl (ed rfl (oF 2 0 rfl ⟨_, rfl⟩ (ed rfl (oL1 0 (nI a0.1) rfl (ed rfl (oB (nI a0.1) (nI 1) rfl rfl (?_))))))))))
  obtain ⟨v7, g8, h⟩ := ob_some h
  refine ed rfl (ev_call (era rfl rfl (era rfl rfl (era rfl rfl eran))) (spec_l1In_s g8) (ed rfl (ev_un (c1 := .bool v7) rfl trivial (evdn (kp [(1, dL ci64 a1), (2, .box [nI a0.1, dL c25_d a0.2]), (4, .box [nI 0, oL 25 c25_o []]), (6, nI y1), (25, .bool (!v7))] rfl rfl ?_)))))
  rcases cond_some h with ⟨g9, h⟩ | ⟨g9, h⟩
  ·refine ls_cT rfl g9 (ls_rs tbOk (ev_bd [] (cs := [nI 0, oL 25 c25_o []]) rfl trivial rfl (oS 0 (.agg [nI 0, oL 25 c25_o []]) [nI 0, oL 25 c25_o []] rfl rfl (oC nofun rfl (en [(4, .box [nI 0, oL 25 c25_o []]), (5, .bool false)] rfl rfl (ls_ret ?_))))))
   cases h
   cases hr1
   exact ⟨.inl rfl, rfl⟩
  ·exact ls_cF rfl g9 (ls_skip (hK4 _ (kp [(1, dL ci64 a1), (2, .box [nI a0.1, dL c25_d a0.2]), (4, .box [nI 0, oL 25 c25_o []]), (6, nI y1)] rfl rfl (ls_rgn tbOk (oM (nI y1) rfl (oB (nI y1) (nI 1) rfl rfl (oA (nI (IntKind.i64.wrap (y1 + 1))) rfl (evn (hN _ (IntKind.i64.wrap (y1 + 1)) h (okr rfl))))))))))
 ·exact ls_cF rfl g3 (ls_exit (kXspec_Project_B1 () (by cases h; exact hr1) _ (okr rfl)))
def c197_dd (x : Y127) : List V := [nI x.1, dL c25_d x.2]
theorem zc197_dd (x : Y127) : (c197_dd x).length = 2 := rfl
theorem ec197_dd (x : Y127) : erL (c197_dd x) = c197_dd x := (erc rfl (erc (erD ec25_d _) rfl))
def c197_oo (x : Y127) : List V := [nI x.1, oL 25 c25_o x.2]
theorem zc197_oo (x : Y127) : (c197_oo x).length = 2 := rfl
theorem ec197_oo (x : Y127) : erL (c197_oo x) = c197_dd x := (erc rfl (erc (erO ec25_o _) rfl))
def spec_BuildTrie (a0 : Y127) (a1 : List Int) : Option (Y127 × Bool) := obind (spec_IsPermutation a1) fun v2 => cond (!v2) (some ((0, []), false)) (cond ((List.length a1 : Int) != a0.1) (some ((0, []), false)) (obind (spec_Project a0 a1) fun v6 => cond (!v6.2) (some ((0, []), false)) (some (v6.1, true))))
theorem spec_BuildTrie_s {a0 : Y127} {a1 : List Int} {r : Y127 × Bool} (h : spec_BuildTrie a0 a1 = some r) : SoundAt Try.prog 222 [.agg (c128_dd a0), dL ci64 a1] (.tup [.agg (c197_oo r.1), .bool r.2]) := by
 unfold spec_BuildTrie at h
 refine sound_lit tbOk lit222 (nb rfl) rfl ?_
 unfold c222
 refine kp [(0, .agg (c128_dd a0)), (1, dL ci64 a1)] rfl rfl (ls_rs tbOk (oX (.agg (c128_dd a0)) rfl (ev_al rfl rfl (oC nofun rfl (en [(1, dL ci64 a1), (2, .box [nI a0.1, dL c25_d a0.2]), (4, .box [nI 0, oL 25 c25_o []])] rfl rfl (ls_seq_k fun K1 hK1 => ls_rs tbOk (oM (dL ci64 a1) rfl (?_))))))))
 obtain ⟨v2, g3, h⟩ := ob_some h
 refine ev_call (era rfl (erD eci64 _) eran) (spec_IsPermutation_s g3) (ev_un (c1 := .bool v2) rfl trivial (oM (.bool (!v2)) rfl (?_)))
 rcases cond_some h with ⟨g4, h⟩ | ⟨g4, h⟩
 ·refine oGT g4 rfl (oGT g4 rfl (oGT g4 rfl (oGT g4 rfl (oGT g4 rfl (oPT (.bool true) g4 rfl (en [(1, dL ci64 a1), (2, .box [nI a0.1, dL c25_d a0.2]), (4, .box [nI 0, oL 25 c25_o []]), (17, .bool true)] rfl rfl (ls_cT rfl rfl (ls_rs tbOk (ev_bd [] (cs := [nI 0, oL 25 c25_o []]) rfl trivial rfl (oS 0 (.agg [nI 0, oL 25 c25_o []]) [nI 0, oL 25 c25_o []] rfl rfl (oC nofun rfl (en [(4, .box [nI 0, oL 25 c25_o []]), (5, .bool false)] rfl rfl (ls_ret ?_)))))))))))))
  cases h
  exact ⟨.inl rfl, rfl⟩
 ·refine oGR g4 rfl (oM (dL ci64 a1) rfl (oGR g4 rfl (oN (dL ci64 a1) rfl (oGR g4 rfl (oF 2 0 rfl ⟨_, rfl⟩ (oGR g4 rfl (oL1 0 (nI a0.1) rfl (oGR g4 rfl (oB (nI (List.length a1 : Int)) (nI a0.1) rfl rfl (oPF (.bool ((List.length a1 : Int) != a0.1)) g4 rfl (en [(1, dL ci64 a1), (2, .box [nI a0.1, dL c25_d a0.2]), (4, .box [nI 0, oL 25 c25_o []]), (17, .bool ((List.length a1 : Int) != a0.1))] rfl rfl ?_)))))))))))
  rcases cond_some h with ⟨g5, h⟩ | ⟨g5, h⟩
  ·refine ls_cT rfl g5 (ls_rs tbOk (ev_bd [] (cs := [nI 0, oL 25 c25_o []]) rfl trivial rfl (oS 0 (.agg [nI 0, oL 25 c25_o []]) [nI 0, oL 25 c25_o []] rfl rfl (oC nofun rfl (en [(4, .box [nI 0, oL 25 c25_o []]), (5, .bool false)] rfl rfl (ls_ret ?_))))))
   cases h
   exact ⟨.inl rfl, rfl⟩
  ·refine ls_cF rfl g5 (ls_skip (hK1 _ (kp [(1, dL ci64 a1), (2, .box [nI a0.1, dL c25_d a0.2]), (4, .box [nI 0, oL 25 c25_o []])] rfl rfl (ls_rs tbOk (oL1 0 (.agg (c128_dd a0)) rfl (oM (dL ci64 a1) rfl (?_)))))))
   obtain ⟨v6, g7, h⟩ := ob_some h
   refine ev_call (era rfl (erg (erc rfl (erc (erD ec25_d _) rfl))) (era rfl (erD eci64 _) eran)) (spec_Project_s g7) (oT (.tup [.agg (c128_oo v6.1), .bool v6.2]) rfl (ev_ext rfl rfl rfl rfl (ev_ext rfl rfl rfl rfl (ev_al rfl rfl (oS 0 (.agg (c128_oo v6.1)) [nI v6.1.1, oL 25 c25_o v6.1.2] rfl rfl (oA (.bool v6.2) rfl (en [(4, .box [nI 0, oL 25 c25_o []]), (6, .box [nI v6.1.1, oL 25 c25_o v6.1.2]), (7, .bool v6.2)] rfl rfl (ls_seq_k fun K8 hK8 => ls_rs tbOk (oM (.bool v6.2) rfl (ev_un (c1 := .bool v6.2) rfl trivial (en [(4, .box [nI 0, oL 25 c25_o []]), (6, .box [nI v6.1.1, oL 25 c25_o v6.1.2]), (26, .bool (!v6.2))] rfl rfl ?_)))))))))))
   rcases cond_some h with ⟨g9, h⟩ | ⟨g9, h⟩
   ·refine ls_cT rfl g9 (ls_rs tbOk (ev_bd [] (cs := [nI 0, oL 25 c25_o []]) rfl trivial rfl (oS 0 (.agg [nI 0, oL 25 c25_o []]) [nI 0, oL 25 c25_o []] rfl rfl (oC nofun rfl (en [(4, .box [nI 0, oL 25 c25_o []]), (5, .bool false)] rfl rfl (ls_ret ?_))))))
    cases h
    exact ⟨.inl rfl, rfl⟩
   ·refine ls_cF rfl g9 (ls_skip (hK8 _ (kp [(4, .box [nI 0, oL 25 c25_o []]), (6, .box [nI v6.1.1, oL 25 c25_o v6.1.2])] rfl rfl (ls_rs tbOk (oF 6 0 rfl ⟨_, rfl⟩ (oL1 0 (nI v6.1.1) rfl (oF 6 0 rfl ⟨_, rfl⟩ (ev_ldBt (off := 1) (v := oL 25 c25_o v6.1.2) (c' := .box [nI v6.1.1, dL c25_o v6.1.2]) rfl rfl rfl rfl (nb rfl) rfl rfl (ev_bd [nI v6.1.1, oL 25 c25_o v6.1.2] (cs := [nI v6.1.1, oL 25 c25_o v6.1.2]) rfl ⟨rfl, rfl, trivial⟩ rfl (oS 0 (.agg (c197_oo v6.1)) [nI v6.1.1, oL 25 c25_o v6.1.2] rfl rfl (oC nofun rfl (en [(4, .box [nI v6.1.1, oL 25 c25_o v6.1.2]), (5, .bool true)] rfl rfl (ls_ret ?_)))))))))))))
    cases h
    exact ⟨.inl rfl, rfl⟩
def spec_AtomVariables_J2 (rec : ((List Int) × Int) → Option ((List Int))) (y2 : Int) (x8 : List Int) : Option ((List Int)) := rec (x8, (IntKind.i64.wrap (y2 + 1)))
def spec_AtomVariables_B1 (a0 : Y194) (rec : ((List Int) × Int) → Option ((List Int))) (s : (List Int) × Int) : Option ((List Int)) := match s with
  | (y1, y2) => cond (decide (y2 < 5)) (obind (spec_ContainsVariable a0 y2) fun v6 => cond v6 (chk (List.length y1 + List.length [y2] ≤ lim) (spec_AtomVariables_J2 rec y2 (y1 ++ [y2]))) (spec_AtomVariables_J2 rec y2 y1)) (some y1)
def spec_AtomVariables (a0 : Y194) : Option ((List Int)) := obind (loopF (spec_AtomVariables_B1 a0) fz (([] : List Int), 0)) fun z2 => some z2
theorem spec_AtomVariables_s {a0 : Y194} {r : (List Int)} (h : spec_AtomVariables a0 = some r) : SoundAt Try.prog 246 [.agg (c195_d a0)] (oL 3 ci64 r) := by
 unfold spec_AtomVariables at h
 refine sound_lit tbOk lit246 (nb rfl) rfl ?_
 unfold c246
 refine kp [(0, .agg (c195_d a0))] rfl rfl (ls_rs tbOk (oX (.agg (c195_d a0)) rfl (ev_an rfl rfl (en [(1, .box [.str a0.1, dL ci64 a0.2])] rfl rfl (ls_rs tbOk (ev_bs [] (cs := []) rfl trivial rfl (nb rfl) rfl (oA (oL 3 ci64 []) rfl (en [(1, .box [.str a0.1, dL ci64 a0.2]), (3, oL 3 ci64 [])] rfl rfl (ls_seq_k fun K1 hK1 => ls_rs tbOk (oC nofun rfl (en [(1, .box [.str a0.1, dL ci64 a0.2]), (3, oL 3 ci64 []), (4, nI 0)] rfl rfl ?_)))))))))))
 obtain ⟨o1, hl, hr1⟩ := ob_some h
 clear h
 have kXspec_AtomVariables_B1 : ∀ (z2 : List Int), (some z2) = some r → ∀ σ' : PS, okK σ' [(3, oL 3 ci64 z2)] → K1 σ' := by
  intro z2 h σ' hk
  refine hK1 _ (ls_keep [(3, oL 3 ci64 z2)] hk rfl (ls_rs tbOk (oT (oL 3 ci64 z2) rfl (oA (oL 3 ci64 z2) rfl (en [(2, oL 3 ci64 z2)] rfl rfl (ls_ret ?_))))))
  cases h
  exact ⟨.inl rfl, rfl⟩
 refine ls_rec (fun (s : (List Int) × Int) => match s with | (y1, y2) => [(1, .box [.str a0.1, dL ci64 a0.2]), (3, oL 3 ci64 y1), (4, nI y2)]) (spec_AtomVariables_B1 a0) fz (([] : List Int), 0) o1 hl (okr rfl) (fun _ => rfl) ?_
 rintro m ⟨y1, y2⟩ N h hN
 unfold spec_AtomVariables_B1 at h
 dsimp only at h
 refine ls_seq_k fun K3 hK3 => ls_rs tbOk (oM (nI y2) rfl (oB (nI y2) (nI 5) rfl rfl (en [(1, .box [.str a0.1, dL ci64 a0.2]), (3, oL 3 ci64 y1), (4, nI y2), (7, .bool (decide (y2 < 5)))] rfl rfl ?_)))
 rcases cond_some h with ⟨g4, h⟩ | ⟨g4, h⟩
 ·refine ls_cT rfl g4 (ls_skip (hK3 _ (kp [(1, .box [.str a0.1, dL ci64 a0.2]), (3, oL 3 ci64 y1), (4, nI y2)] rfl rfl (ls_seq_k fun K5 hK5 => ls_blk (ls_rs tbOk (oL1 0 (.agg (c195_d a0)) rfl (oM (nI y2) rfl (?_))))))))
  obtain ⟨v6, g7, h⟩ := ob_some h
  refine ev_call (era rfl (erg (erc rfl (erc (erD eci64 _) rfl))) (era rfl rfl eran)) (spec_ContainsVariable_s g7) (en [(1, .box [.str a0.1, dL ci64 a0.2]), (3, oL 3 ci64 y1), (4, nI y2), (12, .bool v6)] rfl rfl ?_)
  have kspec_AtomVariables_J2 : ∀ (x8 : List Int), spec_AtomVariables_J2 (loopF (spec_AtomVariables_B1 a0) m) y2 x8 = some o1 → ∀ σ' : PS, okK σ' [(1, .box [.str a0.1, dL ci64 a0.2]), (3, oL 3 ci64 x8), (4, nI y2)] → K5 σ' := by
   intro x8 h σ' hk
   unfold spec_AtomVariables_J2 at h
   exact hK5 _ (ls_keep [(1, .box [.str a0.1, dL ci64 a0.2]), (3, oL 3 ci64 x8), (4, nI y2)] hk rfl (ls_rgn tbOk (oM (nI y2) rfl (oB (nI y2) (nI 1) rfl rfl (oA (nI (IntKind.i64.wrap (y2 + 1))) rfl (evn (hN _ (x8, (IntKind.i64.wrap (y2 + 1))) h (okr rfl))))))))
  rcases cond_some h with ⟨g9, h⟩ | ⟨g9, h⟩
  ·refine ls_cT rfl g9 (ls_rgn tbOk (oT (oL 3 ci64 y1) rfl (oM (nI y2) rfl (ev_bs [nI y2] (cs := [nI y2]) rfl ⟨rfl, trivial⟩ rfl (nb rfl) rfl (?_)))))
   obtain ⟨g10, h⟩ := chk_some h
   exact ev_app (f := ci64) (l := y1) (m := [y2]) (c2 := oL 3 ci64 [y2]) rfl rfl rfl (flat_len zci64 [y2]) rfl rfl g10 rfl (oA (oL 3 ci64 (y1 ++ [y2])) rfl (evn (kspec_AtomVariables_J2 (y1 ++ [y2]) h _ (okr rfl))))
  ·exact ls_cF rfl g9 (ls_skip (kspec_AtomVariables_J2 y1 h _ (okr rfl)))
 ·exact ls_cF rfl g4 (ls_exit (kXspec_AtomVariables_B1 y1 (by cases h; exact hr1) _ (okr rfl)))
def spec_AtomBindings_B2 (a1 : Y194) (v1 : (List Int)) (v3 : Y127 × Bool) (y6 : Int) (rec : ((List Int) × Int) → Option ((List Int))) (s : (List Int) × Int) : Option ((List Int)) := match s with
  | (y11, y12) => cond (decide (y12 < (List.length v1 : Int))) (obind (geti v3.1.2 y6) fun e18 => obind (geti v1 y12) fun e20 => obind (spec_l7Find a1.2 e20) fun v22 => obind (geti e18 v22) fun e24 => chk (List.length y11 + List.length [e24] ≤ lim) (rec ((y11 ++ [e24]), (IntKind.i64.wrap (y12 + 1))))) (some y11)
def spec_AtomBindings_J4 (rec : (Bool × Int) → Option (Bool)) (y14 : Int) (x36 : Bool) : Option (Bool) := rec (x36, (IntKind.i64.wrap (y14 + 1)))
def spec_AtomBindings_B3 (a1 : Y194) (v1 : (List Int)) (v3 : Y127 × Bool) (y6 : Int) (z14 : List Int) (rec : (Bool × Int) → Option (Bool)) (s : Bool × Int) : Option (Bool) := match s with
  | (y13, y14) => cond (decide (y14 < (List.length a1.2 : Int))) (obind (geti a1.2 y14) fun e32 => obind (spec_l7Find v1 e32) fun v34 => cond y13 (cond (decide (0 ≤ v34)) (obind (geti z14 v34) fun e39 => obind (geti v3.1.2 y6) fun e41 => obind (geti e41 y14) fun e43 => spec_AtomBindings_J4 rec y14 (e39 == e43)) (spec_AtomBindings_J4 rec y14 false)) (spec_AtomBindings_J4 rec y14 false)) (some y13)
def spec_AtomBindings_J5 (rec : ((List (List Int)) × Int) → Option ((List (List Int)))) (y6 : Int) (x45 : List (List Int)) : Option ((List (List Int))) := rec (x45, (IntKind.i64.wrap (y6 + 1)))
def spec_AtomBindings_B1 (a1 : Y194) (v1 : (List Int)) (v3 : Y127 × Bool) (rec : ((List (List Int)) × Int) → Option ((List (List Int)))) (s : (List (List Int)) × Int) : Option ((List (List Int))) := match s with
  | (y5, y6) => cond (decide (y6 < (List.length v3.1.2 : Int))) (obind (loopF (spec_AtomBindings_B2 a1 v1 v3 y6) fz (([] : List Int), 0)) fun z14 => obind (loopF (spec_AtomBindings_B3 a1 v1 v3 y6 z14) fz (true, 0)) fun z28 => cond z28 (chk (List.length y5 + List.length [z14] ≤ lim) (spec_AtomBindings_J5 rec y6 (y5 ++ [z14]))) (spec_AtomBindings_J5 rec y6 y5)) (some y5)
def spec_AtomBindings (a0 : List Y207) (a1 : Y194) : Option (Y127) := obind (spec_AtomVariables a1) fun v1 => obind (spec_LookupRelation a0 a1.1) fun v3 => cond (!v3.2) (some ((List.length v1 : Int), [])) (cond (v3.1.1 != (List.length a1.2 : Int)) (some ((List.length v1 : Int), [])) (obind (loopF (spec_AtomBindings_B1 a1 v1 v3) fz (([] : List (List Int)), 0)) fun z9 => obind (spec_NewRelation (List.length v1 : Int) z9) fun v48 => cond (!v48.2) (some ((List.length v1 : Int), [])) (some v48.1)))
theorem spec_AtomBindings_s {a0 : List Y207} {a1 : Y194} {r : Y127} (h : spec_AtomBindings a0 a1 = some r) : SoundAt Try.prog 223 [.agg [dL c208_dd a0], .agg (c195_d a1)] (.agg (c128_oo r)) := by
 unfold spec_AtomBindings at h
 refine sound_lit tbOk lit223 (nb rfl) rfl ?_
 unfold c223
 refine kp [(0, .agg [dL c208_dd a0]), (1, .agg (c195_d a1))] rfl rfl (ls_rs tbOk (oX (.agg [dL c208_dd a0]) rfl (oX (.agg (c195_d a1)) rfl (ev_al rfl rfl (en [(2, .box [dL c208_dd a0]), (3, .box [.str a1.1, dL ci64 a1.2]), (4, .box [nI 0, oL 25 c25_o []])] rfl rfl (ls_rs tbOk (oL1 0 (.agg (c195_d a1)) rfl (?_))))))))
 obtain ⟨v1, g2, h⟩ := ob_some h
 refine ev_call (era rfl (erg (erc rfl (erc (erD eci64 _) rfl))) eran) (spec_AtomVariables_s g2) (oA (oL 3 ci64 v1) rfl (en [(2, .box [dL c208_dd a0]), (3, .box [.str a1.1, dL ci64 a1.2]), (4, .box [nI 0, oL 25 c25_o []]), (5, oL 3 ci64 v1)] rfl rfl (ls_rs tbOk (oL1 0 (.agg [dL c208_dd a0]) rfl (oF 3 0 rfl ⟨_, rfl⟩ (oL1 0 (.str a1.1) rfl (?_)))))))
 obtain ⟨v3, g4, h⟩ := ob_some h
 refine ev_call (era rfl (erg (erc (erD ec208_dd _) rfl)) (era rfl rfl eran)) (spec_LookupRelation_s g4) (oT (.tup [.agg (c128_oo v3.1), .bool v3.2]) rfl (ev_ext rfl rfl rfl rfl (ev_ext rfl rfl rfl rfl (ev_al rfl rfl (oS 0 (.agg (c128_oo v3.1)) [nI v3.1.1, oL 25 c25_o v3.1.2] rfl rfl (oA (.bool v3.2) rfl (en [(3, .box [.str a1.1, dL ci64 a1.2]), (4, .box [nI 0, oL 25 c25_o []]), (5, oL 3 ci64 v1), (6, .box [nI v3.1.1, oL 25 c25_o v3.1.2]), (7, .bool v3.2)] rfl rfl (ls_rs tbOk (oM (oL 3 ci64 v1) rfl (oN (dL ci64 v1) rfl (ev_bd [nI (List.length v1 : Int)] (cs := [nI (List.length v1 : Int), oL 25 c25_o []]) rfl ⟨rfl, trivial⟩ rfl (ev_al rfl rfl (oS 0 (.agg [nI (List.length v1 : Int), oL 25 c25_o []]) [nI (List.length v1 : Int), oL 25 c25_o []] rfl rfl (en [(3, .box [.str a1.1, dL ci64 a1.2]), (4, .box [nI 0, oL 25 c25_o []]), (5, oL 3 ci64 v1), (6, .box [nI v3.1.1, oL 25 c25_o v3.1.2]), (7, .bool v3.2), (8, .box [nI (List.length v1 : Int), oL 25 c25_o []])] rfl rfl (ls_seq_k fun K5 hK5 => ls_rs tbOk (oM (.bool v3.2) rfl (ev_un (c1 := .bool v3.2) rfl trivial (oM (.bool (!v3.2)) rfl (?_)))))))))))))))))))
 rcases cond_some h with ⟨g6, h⟩ | ⟨g6, h⟩
 ·refine oGT g6 rfl (oGT g6 rfl (oGT g6 rfl (oGT g6 rfl (oGT g6 rfl (oGT g6 rfl (oPT (.bool true) g6 rfl (en [(3, .box [.str a1.1, dL ci64 a1.2]), (4, .box [nI 0, oL 25 c25_o []]), (5, oL 3 ci64 v1), (6, .box [nI v3.1.1, oL 25 c25_o v3.1.2]), (8, .box [nI (List.length v1 : Int), oL 25 c25_o []]), (39, .bool true)] rfl rfl (ls_cT rfl rfl (ls_rs tbOk (ev_ldBt (off := 0) (v := .agg [nI (List.length v1 : Int), oL 25 c25_o []]) (c' := .box [nI (List.length v1 : Int), dL c25_o []]) rfl rfl rfl rfl (nb rfl) rfl rfl (oS 0 (.agg [nI (List.length v1 : Int), oL 25 c25_o []]) [nI (List.length v1 : Int), oL 25 c25_o []] rfl rfl (en [(4, .box [nI (List.length v1 : Int), oL 25 c25_o []])] rfl rfl (ls_ret ?_)))))))))))))
  cases h
  exact ⟨.inl rfl, rfl⟩
 ·refine oGR g6 rfl (oF 6 0 rfl ⟨_, rfl⟩ (oGR g6 rfl (oL1 0 (nI v3.1.1) rfl (oGR g6 rfl (oF 3 0 rfl ⟨_, rfl⟩ (oGR g6 rfl (oL1 1 (dL ci64 a1.2) rfl (oGR g6 rfl (oN (dL ci64 a1.2) rfl (oGR g6 rfl (oB (nI v3.1.1) (nI (List.length a1.2 : Int)) rfl rfl (oPF (.bool (v3.1.1 != (List.length a1.2 : Int))) g6 rfl (en [(3, .box [.str a1.1, dL ci64 a1.2]), (4, .box [nI 0, oL 25 c25_o []]), (5, oL 3 ci64 v1), (6, .box [nI v3.1.1, oL 25 c25_o v3.1.2]), (8, .box [nI (List.length v1 : Int), oL 25 c25_o []]), (39, .bool (v3.1.1 != (List.length a1.2 : Int)))] rfl rfl ?_)))))))))))))
  rcases cond_some h with ⟨g7, h⟩ | ⟨g7, h⟩
  ·refine ls_cT rfl g7 (ls_rs tbOk (ev_ldBt (off := 0) (v := .agg [nI (List.length v1 : Int), oL 25 c25_o []]) (c' := .box [nI (List.length v1 : Int), dL c25_o []]) rfl rfl rfl rfl (nb rfl) rfl rfl (oS 0 (.agg [nI (List.length v1 : Int), oL 25 c25_o []]) [nI (List.length v1 : Int), oL 25 c25_o []] rfl rfl (en [(4, .box [nI (List.length v1 : Int), oL 25 c25_o []])] rfl rfl (ls_ret ?_)))))
   cases h
   exact ⟨.inl rfl, rfl⟩
  ·refine ls_cF rfl g7 (ls_skip (hK5 _ (kp [(3, .box [.str a1.1, dL ci64 a1.2]), (4, .box [nI 0, oL 25 c25_o []]), (5, oL 3 ci64 v1), (6, .box [nI v3.1.1, oL 25 c25_o v3.1.2]), (8, .box [nI (List.length v1 : Int), oL 25 c25_o []])] rfl rfl (ls_rs tbOk (ev_bs [] (cs := []) rfl trivial rfl (nb rfl) rfl (oA (oL 25 c25_o []) rfl (en [(3, .box [.str a1.1, dL ci64 a1.2]), (4, .box [nI 0, oL 25 c25_o []]), (5, oL 3 ci64 v1), (6, .box [nI v3.1.1, oL 25 c25_o v3.1.2]), (8, .box [nI (List.length v1 : Int), oL 25 c25_o []]), (9, oL 25 c25_o [])] rfl rfl (ls_seq_k fun K8 hK8 => ls_rs tbOk (oC nofun rfl (en [(3, .box [.str a1.1, dL ci64 a1.2]), (4, .box [nI 0, oL 25 c25_o []]), (5, oL 3 ci64 v1), (6, .box [nI v3.1.1, oL 25 c25_o v3.1.2]), (8, .box [nI (List.length v1 : Int), oL 25 c25_o []]), (9, oL 25 c25_o []), (10, nI 0)] rfl rfl ?_))))))))))
   obtain ⟨o1, hl, hr1⟩ := ob_some h
   clear h
   have kXspec_AtomBindings_B1 : ∀ (z9 : List (List Int)), (obind (spec_NewRelation (List.length v1 : Int) z9) fun v48 => cond (!v48.2) (some ((List.length v1 : Int), [])) (some v48.1)) = some r → ∀ σ' : PS, okK σ' [(4, .box [nI 0, oL 25 c25_o []]), (5, oL 3 ci64 v1), (8, .box [nI (List.length v1 : Int), oL 25 c25_o []]), (9, oL 25 c25_o z9)] → K8 σ' := by
    intro z9 h σ' hk
    refine hK8 _ (ls_keep [(4, .box [nI 0, oL 25 c25_o []]), (5, oL 3 ci64 v1), (8, .box [nI (List.length v1 : Int), oL 25 c25_o []]), (9, oL 25 c25_o z9)] hk rfl (ls_rs tbOk (oM (oL 3 ci64 v1) rfl (oN (dL ci64 v1) rfl (oM (oL 25 c25_o z9) rfl (?_))))))
    obtain ⟨v48, g49, h⟩ := ob_some h
    refine ev_call (era rfl rfl (era rfl (erD ec25_o _) eran)) (spec_NewRelation_s g49) (oT (.tup [.agg (c128_oo v48.1), .bool v48.2]) rfl (ev_ext rfl rfl rfl rfl (ev_ext rfl rfl rfl rfl (ev_al rfl rfl (oS 0 (.agg (c128_oo v48.1)) [nI v48.1.1, oL 25 c25_o v48.1.2] rfl rfl (oA (.bool v48.2) rfl (en [(4, .box [nI 0, oL 25 c25_o []]), (8, .box [nI (List.length v1 : Int), oL 25 c25_o []]), (16, .box [nI v48.1.1, oL 25 c25_o v48.1.2]), (17, .bool v48.2)] rfl rfl (ls_seq_k fun K50 hK50 => ls_rs tbOk (oM (.bool v48.2) rfl (ev_un (c1 := .bool v48.2) rfl trivial (en [(4, .box [nI 0, oL 25 c25_o []]), (8, .box [nI (List.length v1 : Int), oL 25 c25_o []]), (16, .box [nI v48.1.1, oL 25 c25_o v48.1.2]), (120, .bool (!v48.2))] rfl rfl ?_)))))))))))
    rcases cond_some h with ⟨g51, h⟩ | ⟨g51, h⟩
    ·refine ls_cT rfl g51 (ls_rs tbOk (ev_ldBt (off := 0) (v := .agg [nI (List.length v1 : Int), oL 25 c25_o []]) (c' := .box [nI (List.length v1 : Int), dL c25_o []]) rfl rfl rfl rfl (nb rfl) rfl rfl (oS 0 (.agg [nI (List.length v1 : Int), oL 25 c25_o []]) [nI (List.length v1 : Int), oL 25 c25_o []] rfl rfl (en [(4, .box [nI (List.length v1 : Int), oL 25 c25_o []])] rfl rfl (ls_ret ?_)))))
     cases h
     exact ⟨.inl rfl, rfl⟩
    ·refine ls_cF rfl g51 (ls_skip (hK50 _ (kp [(4, .box [nI 0, oL 25 c25_o []]), (16, .box [nI v48.1.1, oL 25 c25_o v48.1.2])] rfl rfl (ls_rs tbOk (ev_ldBt (off := 0) (v := .agg (c128_oo v48.1)) (c' := .box [nI v48.1.1, dL c25_o v48.1.2]) rfl rfl rfl rfl (nb rfl) rfl rfl (oS 0 (.agg (c128_oo v48.1)) [nI v48.1.1, oL 25 c25_o v48.1.2] rfl rfl (en [(4, .box [nI v48.1.1, oL 25 c25_o v48.1.2])] rfl rfl (ls_ret ?_))))))))
     cases h
     exact ⟨.inl rfl, rfl⟩
   refine ls_rec (fun (s : (List (List Int)) × Int) => match s with | (y5, y6) => [(3, .box [.str a1.1, dL ci64 a1.2]), (4, .box [nI 0, oL 25 c25_o []]), (5, oL 3 ci64 v1), (6, .box [nI v3.1.1, oL 25 c25_o v3.1.2]), (8, .box [nI (List.length v1 : Int), oL 25 c25_o []]), (9, oL 25 c25_o y5), (10, nI y6)]) (spec_AtomBindings_B1 a1 v1 v3) fz (([] : List (List Int)), 0) o1 hl (okr rfl) (fun _ => rfl) ?_
   rintro m ⟨y5, y6⟩ N h hN
   unfold spec_AtomBindings_B1 at h
   dsimp only at h
   refine ls_seq_k fun K10 hK10 => ls_rs tbOk (oM (nI y6) rfl (oF 6 0 rfl ⟨_, rfl⟩ (oL1 1 (dL c25_o v3.1.2) rfl (oN (dL c25_o v3.1.2) rfl (oB (nI y6) (nI (List.length v3.1.2 : Int)) rfl rfl (en [(3, .box [.str a1.1, dL ci64 a1.2]), (4, .box [nI 0, oL 25 c25_o []]), (5, oL 3 ci64 v1), (6, .box [nI v3.1.1, oL 25 c25_o v3.1.2]), (8, .box [nI (List.length v1 : Int), oL 25 c25_o []]), (9, oL 25 c25_o y5), (10, nI y6), (46, .bool (decide (y6 < (List.length v3.1.2 : Int))))] rfl rfl ?_))))))
   rcases cond_some h with ⟨g11, h⟩ | ⟨g11, h⟩
   ·refine ls_cT rfl g11 (ls_skip (hK10 _ (kp [(3, .box [.str a1.1, dL ci64 a1.2]), (4, .box [nI 0, oL 25 c25_o []]), (5, oL 3 ci64 v1), (6, .box [nI v3.1.1, oL 25 c25_o v3.1.2]), (8, .box [nI (List.length v1 : Int), oL 25 c25_o []]), (9, oL 25 c25_o y5), (10, nI y6)] rfl rfl (ls_seq_k fun K12 hK12 => ls_blk (ls_rs tbOk (ev_bs [] (cs := []) rfl trivial rfl (nb rfl) rfl (oA (oL 3 ci64 []) rfl (en [(3, .box [.str a1.1, dL ci64 a1.2]), (4, .box [nI 0, oL 25 c25_o []]), (5, oL 3 ci64 v1), (6, .box [nI v3.1.1, oL 25 c25_o v3.1.2]), (8, .box [nI (List.length v1 : Int), oL 25 c25_o []]), (9, oL 25 c25_o y5), (10, nI y6), (11, oL 3 ci64 [])] rfl rfl (ls_seq_k fun K13 hK13 => ls_rs tbOk (oC nofun rfl (en [(3, .box [.str a1.1, dL ci64 a1.2]), (4, .box [nI 0, oL 25 c25_o []]), (5, oL 3 ci64 v1), (6, .box [nI v3.1.1, oL 25 c25_o v3.1.2]), (8, .box [nI (List.length v1 : Int), oL 25 c25_o []]), (9, oL 25 c25_o y5), (10, nI y6), (11, oL 3 ci64 []), (12, nI 0)] rfl rfl ?_)))))))))))
    obtain ⟨o2, hl, hr2⟩ := ob_some h
    clear h
    have kXspec_AtomBindings_B2 : ∀ (z14 : List Int), (obind (loopF (spec_AtomBindings_B3 a1 v1 v3 y6 z14) fz (true, 0)) fun z28 => cond z28 (chk (List.length y5 + List.length [z14] ≤ lim) (spec_AtomBindings_J5 (loopF (spec_AtomBindings_B1 a1 v1 v3) m) y6 (y5 ++ [z14]))) (spec_AtomBindings_J5 (loopF (spec_AtomBindings_B1 a1 v1 v3) m) y6 y5)) = some o1 → ∀ σ' : PS, okK σ' [(3, .box [.str a1.1, dL ci64 a1.2]), (4, .box [nI 0, oL 25 c25_o []]), (5, oL 3 ci64 v1), (6, .box [nI v3.1.1, oL 25 c25_o v3.1.2]), (8, .box [nI (List.length v1 : Int), oL 25 c25_o []]), (9, oL 25 c25_o y5), (10, nI y6), (11, oL 3 ci64 z14)] → K13 σ' := by
     intro z14 h σ' hk
     refine hK13 _ (ls_keep [(3, .box [.str a1.1, dL ci64 a1.2]), (4, .box [nI 0, oL 25 c25_o []]), (5, oL 3 ci64 v1), (6, .box [nI v3.1.1, oL 25 c25_o v3.1.2]), (8, .box [nI (List.length v1 : Int), oL 25 c25_o []]), (9, oL 25 c25_o y5), (10, nI y6), (11, oL 3 ci64 z14)] hk rfl (ls_rs tbOk (oC nofun rfl (en [(3, .box [.str a1.1, dL ci64 a1.2]), (4, .box [nI 0, oL 25 c25_o []]), (5, oL 3 ci64 v1), (6, .box [nI v3.1.1, oL 25 c25_o v3.1.2]), (8, .box [nI (List.length v1 : Int), oL 25 c25_o []]), (9, oL 25 c25_o y5), (10, nI y6), (11, oL 3 ci64 z14), (13, .bool true)] rfl rfl (ls_seq_k fun K27 hK27 => ls_rs tbOk (oC nofun rfl (en [(3, .box [.str a1.1, dL ci64 a1.2]), (4, .box [nI 0, oL 25 c25_o []]), (5, oL 3 ci64 v1), (6, .box [nI v3.1.1, oL 25 c25_o v3.1.2]), (8, .box [nI (List.length v1 : Int), oL 25 c25_o []]), (9, oL 25 c25_o y5), (10, nI y6), (11, oL 3 ci64 z14), (13, .bool true), (14, nI 0)] rfl rfl ?_)))))))
     obtain ⟨o3, hl, hr3⟩ := ob_some h
     clear h
     have kXspec_AtomBindings_B3 : ∀ (z28 : Bool), (cond z28 (chk (List.length y5 + List.length [z14] ≤ lim) (spec_AtomBindings_J5 (loopF (spec_AtomBindings_B1 a1 v1 v3) m) y6 (y5 ++ [z14]))) (spec_AtomBindings_J5 (loopF (spec_AtomBindings_B1 a1 v1 v3) m) y6 y5)) = some o1 → ∀ σ' : PS, okK σ' [(3, .box [.str a1.1, dL ci64 a1.2]), (4, .box [nI 0, oL 25 c25_o []]), (5, oL 3 ci64 v1), (6, .box [nI v3.1.1, oL 25 c25_o v3.1.2]), (8, .box [nI (List.length v1 : Int), oL 25 c25_o []]), (9, oL 25 c25_o y5), (10, nI y6), (11, oL 3 ci64 z14), (13, .bool z28)] → K27 σ' := by
      intro z28 h σ' hk
      refine hK27 _ (ls_keep [(3, .box [.str a1.1, dL ci64 a1.2]), (4, .box [nI 0, oL 25 c25_o []]), (5, oL 3 ci64 v1), (6, .box [nI v3.1.1, oL 25 c25_o v3.1.2]), (8, .box [nI (List.length v1 : Int), oL 25 c25_o []]), (9, oL 25 c25_o y5), (10, nI y6), (11, oL 3 ci64 z14), (13, .bool z28)] hk rfl (ls_rs tbOk (oM (.bool z28) rfl (en [(3, .box [.str a1.1, dL ci64 a1.2]), (4, .box [nI 0, oL 25 c25_o []]), (5, oL 3 ci64 v1), (6, .box [nI v3.1.1, oL 25 c25_o v3.1.2]), (8, .box [nI (List.length v1 : Int), oL 25 c25_o []]), (9, oL 25 c25_o y5), (10, nI y6), (11, oL 3 ci64 z14), (107, .bool z28)] rfl rfl ?_))))
      have kspec_AtomBindings_J5 : ∀ (x45 : List (List Int)), spec_AtomBindings_J5 (loopF (spec_AtomBindings_B1 a1 v1 v3) m) y6 x45 = some o1 → ∀ σ' : PS, okK σ' [(3, .box [.str a1.1, dL ci64 a1.2]), (4, .box [nI 0, oL 25 c25_o []]), (5, oL 3 ci64 v1), (6, .box [nI v3.1.1, oL 25 c25_o v3.1.2]), (8, .box [nI (List.length v1 : Int), oL 25 c25_o []]), (9, oL 25 c25_o x45), (10, nI y6)] → K12 σ' := by
       intro x45 h σ' hk
       unfold spec_AtomBindings_J5 at h
       exact hK12 _ (ls_keep [(3, .box [.str a1.1, dL ci64 a1.2]), (4, .box [nI 0, oL 25 c25_o []]), (5, oL 3 ci64 v1), (6, .box [nI v3.1.1, oL 25 c25_o v3.1.2]), (8, .box [nI (List.length v1 : Int), oL 25 c25_o []]), (9, oL 25 c25_o x45), (10, nI y6)] hk rfl (ls_rgn tbOk (oM (nI y6) rfl (oB (nI y6) (nI 1) rfl rfl (oA (nI (IntKind.i64.wrap (y6 + 1))) rfl (evn (hN _ (x45, (IntKind.i64.wrap (y6 + 1))) h (okr rfl))))))))
      rcases cond_some h with ⟨g46, h⟩ | ⟨g46, h⟩
      ·refine ls_cT rfl g46 (ls_rgn tbOk (oT (oL 25 c25_o y5) rfl (oT (oL 3 ci64 z14) rfl (ev_bs [oL 3 ci64 z14] (cs := [oL 3 ci64 z14]) rfl ⟨rfl, trivial⟩ rfl (nb rfl) rfl (?_)))))
       obtain ⟨g47, h⟩ := chk_some h
       exact ev_app (f := c25_o) (l := y5) (m := [z14]) (c2 := oL 25 c25_o [z14]) rfl rfl rfl (flat_len zc25_o [z14]) rfl rfl g47 rfl (oA (oL 25 c25_o (y5 ++ [z14])) rfl (evn (kspec_AtomBindings_J5 (y5 ++ [z14]) h _ (okr rfl))))
      ·exact ls_cF rfl g46 (ls_skip (kspec_AtomBindings_J5 y5 h _ (okr rfl)))
     refine ls_rec (fun (s : Bool × Int) => match s with | (y13, y14) => [(3, .box [.str a1.1, dL ci64 a1.2]), (4, .box [nI 0, oL 25 c25_o []]), (5, oL 3 ci64 v1), (6, .box [nI v3.1.1, oL 25 c25_o v3.1.2]), (8, .box [nI (List.length v1 : Int), oL 25 c25_o []]), (9, oL 25 c25_o y5), (10, nI y6), (11, oL 3 ci64 z14), (13, .bool y13), (14, nI y14)]) (spec_AtomBindings_B3 a1 v1 v3 y6 z14) fz (true, 0) o3 hl (okr rfl) (fun _ => rfl) ?_
     rintro m ⟨y13, y14⟩ N h hN
     unfold spec_AtomBindings_B3 at h
     dsimp only at h
     refine ls_seq_k fun K29 hK29 => ls_rs tbOk (oM (nI y14) rfl (oF 3 0 rfl ⟨_, rfl⟩ (oL1 1 (dL ci64 a1.2) rfl (oN (dL ci64 a1.2) rfl (oB (nI y14) (nI (List.length a1.2 : Int)) rfl rfl (en [(3, .box [.str a1.1, dL ci64 a1.2]), (4, .box [nI 0, oL 25 c25_o []]), (5, oL 3 ci64 v1), (6, .box [nI v3.1.1, oL 25 c25_o v3.1.2]), (8, .box [nI (List.length v1 : Int), oL 25 c25_o []]), (9, oL 25 c25_o y5), (10, nI y6), (11, oL 3 ci64 z14), (13, .bool y13), (14, nI y14), (77, .bool (decide (y14 < (List.length a1.2 : Int))))] rfl rfl ?_))))))
     rcases cond_some h with ⟨g30, h⟩ | ⟨g30, h⟩
     ·refine ls_cT rfl g30 (ls_skip (hK29 _ (kp [(3, .box [.str a1.1, dL ci64 a1.2]), (4, .box [nI 0, oL 25 c25_o []]), (5, oL 3 ci64 v1), (6, .box [nI v3.1.1, oL 25 c25_o v3.1.2]), (8, .box [nI (List.length v1 : Int), oL 25 c25_o []]), (9, oL 25 c25_o y5), (10, nI y6), (11, oL 3 ci64 z14), (13, .bool y13), (14, nI y14)] rfl rfl (ls_seq_k fun K31 hK31 => ls_blk (ls_rs tbOk (oM (oL 3 ci64 v1) rfl (oF 3 0 rfl ⟨_, rfl⟩ (oL1 1 (dL ci64 a1.2) rfl (oM (nI y14) rfl (?_))))))))))
      obtain ⟨e32, g33, h⟩ := ob_some h
      refine ev_ia rfl rfl rfl ⟨(geti_some g33).1, (geti_some g33).2.1⟩ (oLE y14 1 0 (nI e32) zci64 g33 rfl (?_))
      obtain ⟨v34, g35, h⟩ := ob_some h
      refine ev_call (era rfl (erD eci64 _) (era rfl rfl eran)) (spec_l7Find_s g35) (oA (nI v34) rfl (en [(3, .box [.str a1.1, dL ci64 a1.2]), (4, .box [nI 0, oL 25 c25_o []]), (5, oL 3 ci64 v1), (6, .box [nI v3.1.1, oL 25 c25_o v3.1.2]), (8, .box [nI (List.length v1 : Int), oL 25 c25_o []]), (9, oL 25 c25_o y5), (10, nI y6), (11, oL 3 ci64 z14), (13, .bool y13), (14, nI y14), (15, nI v34)] rfl rfl ?_))
      have kspec_AtomBindings_J4 : ∀ (x36 : Bool), spec_AtomBindings_J4 (loopF (spec_AtomBindings_B3 a1 v1 v3 y6 z14) m) y14 x36 = some o3 → ∀ σ' : PS, okK σ' [(3, .box [.str a1.1, dL ci64 a1.2]), (4, .box [nI 0, oL 25 c25_o []]), (5, oL 3 ci64 v1), (6, .box [nI v3.1.1, oL 25 c25_o v3.1.2]), (8, .box [nI (List.length v1 : Int), oL 25 c25_o []]), (9, oL 25 c25_o y5), (10, nI y6), (11, oL 3 ci64 z14), (13, .bool x36), (14, nI y14)] → K31 σ' := by
       intro x36 h σ' hk
       unfold spec_AtomBindings_J4 at h
       exact hK31 _ (ls_keep [(3, .box [.str a1.1, dL ci64 a1.2]), (4, .box [nI 0, oL 25 c25_o []]), (5, oL 3 ci64 v1), (6, .box [nI v3.1.1, oL 25 c25_o v3.1.2]), (8, .box [nI (List.length v1 : Int), oL 25 c25_o []]), (9, oL 25 c25_o y5), (10, nI y6), (11, oL 3 ci64 z14), (13, .bool x36), (14, nI y14)] hk rfl (ls_rgn tbOk (oM (nI y14) rfl (oB (nI y14) (nI 1) rfl rfl (oA (nI (IntKind.i64.wrap (y14 + 1))) rfl (evn (hN _ (x36, (IntKind.i64.wrap (y14 + 1))) h (okr rfl))))))))
      refine ls_drw tbOk mixed (by kernel_rfl) (ed rfl (oM (.bool y13) rfl (ed rfl (oM (.bool y13) rfl (?_)))))
      rcases cond_some h with ⟨g37, h⟩ | ⟨g37, h⟩
      ·refine ed rfl (oGR g37 rfl (oM (nI v34) rfl (ed rfl (oGR g37 rfl (oB (nI v34) (nI 0) rfl rfl (ed rfl (oPT (.bool (decide (0 ≤ v34))) g37 rfl (ed rfl (oM (.bool (decide (0 ≤ v34))) rfl (?_))))))))))
       rcases cond_some h with ⟨g38, h⟩ | ⟨g38, h⟩
       ·refine ed rfl (oGR g38 rfl (oM (oL 3 ci64 z14) rfl (ed rfl (oGR g38 rfl (oM (nI v34) rfl (?_))))))
        obtain ⟨e39, g40, h⟩ := ob_some h
        refine ed rfl (oGR g38 rfl (ev_ia rfl rfl rfl ⟨(geti_some g40).1, (geti_some g40).2.1⟩ (ed rfl (oGR g38 rfl (oLE v34 1 0 (nI e39) zci64 g40 rfl (ed rfl (oGR g38 rfl (oF 6 0 rfl ⟨_, rfl⟩ (ed rfl (oGR g38 rfl (oL1 1 (dL c25_o v3.1.2) rfl (ed rfl (oGR g38 rfl (oM (nI y6) rfl (?_)))))))))))))))
        obtain ⟨e41, g42, h⟩ := ob_some h
        refine ed rfl (oGR g38 rfl (ev_ia rfl rfl rfl ⟨(geti_some g42).1, (geti_some g42).2.1⟩ (ed rfl (oGR g38 rfl (oLE y6 1 0 (dL ci64 e41) zc25_o g42 rfl (ed rfl (oGR g38 rfl (oM (nI y14) rfl (?_)))))))))
        obtain ⟨e43, g44, h⟩ := ob_some h
        exact ed rfl (oGR g38 rfl (ev_ia rfl rfl rfl ⟨(geti_some g44).1, (geti_some g44).2.1⟩ (ed rfl (oGR g38 rfl (oLE y14 1 0 (nI e43) zci64 g44 rfl (ed rfl (oGR g38 rfl (oB (nI e39) (nI e43) rfl rfl (ed rfl (oPT (.bool (e39 == e43)) g38 rfl (ed rfl (oA (.bool (e39 == e43)) rfl (evdn (kspec_AtomBindings_J4 (e39 == e43) h _ (okr rfl)))))))))))))))
       ·exact ed rfl (oGF g38 rfl (ed rfl (oGF g38 rfl (ed rfl (oGF g38 rfl (ed rfl (oGF g38 rfl (ed rfl (oGF g38 rfl (ed rfl (oGF g38 rfl (ed rfl (oGF g38 rfl (ed rfl (oGF g38 rfl (ed rfl (oGF g38 rfl (ed rfl (oGF g38 rfl (ed rfl (oGF g38 rfl (ed rfl (oGF g38 rfl (ed rfl (oGF g38 rfl (ed rfl (oPF (.bool false) g38 rfl (ed rfl (oA (.bool false) rfl (evdn (kspec_AtomBindings_J4 false h _ (okr rfl))))))))))))))))))))))))))))))))
      ·exact ed rfl (oGF g37 rfl (ed rfl (oGF g37 rfl (ed rfl (oPF (.bool false) g37 rfl (ed rfl (oM (.bool false) rfl (ed rfl (oGF rfl rfl (ed rfl (oGF rfl rfl (ed rfl (oGF rfl rfl (ed rfl (oGF rfl rfl (ed rfl (oGF rfl rfl (ed rfl (oGF rfl rfl (ed rfl (oGF rfl rfl (ed rfl (oGF rfl rfl (ed rfl (oGF rfl rfl (ed rfl (oGF rfl rfl (ed rfl (oGF rfl rfl (ed rfl (oGF rfl rfl (ed rfl (oGF rfl rfl (ed rfl (oPF (.bool false) rfl rfl (ed rfl (oA (.bool false) rfl (evdn (kspec_AtomBindings_J4 false h _ (okr rfl))))))))))))))))))))))))))))))))))))))))
     ·exact ls_cF rfl g30 (ls_exit (kXspec_AtomBindings_B3 y13 (by cases h; exact hr3) _ (okr rfl)))
    refine ls_rec (fun (s : (List Int) × Int) => match s with | (y11, y12) => [(3, .box [.str a1.1, dL ci64 a1.2]), (4, .box [nI 0, oL 25 c25_o []]), (5, oL 3 ci64 v1), (6, .box [nI v3.1.1, oL 25 c25_o v3.1.2]), (8, .box [nI (List.length v1 : Int), oL 25 c25_o []]), (9, oL 25 c25_o y5), (10, nI y6), (11, oL 3 ci64 y11), (12, nI y12)]) (spec_AtomBindings_B2 a1 v1 v3 y6) fz (([] : List Int), 0) o2 hl (okr rfl) (fun _ => rfl) ?_
    rintro m ⟨y11, y12⟩ N h hN
    unfold spec_AtomBindings_B2 at h
    dsimp only at h
    refine ls_seq_k fun K15 hK15 => ls_rs tbOk (oM (nI y12) rfl (oM (oL 3 ci64 v1) rfl (oN (dL ci64 v1) rfl (oB (nI y12) (nI (List.length v1 : Int)) rfl rfl (en [(3, .box [.str a1.1, dL ci64 a1.2]), (4, .box [nI 0, oL 25 c25_o []]), (5, oL 3 ci64 v1), (6, .box [nI v3.1.1, oL 25 c25_o v3.1.2]), (8, .box [nI (List.length v1 : Int), oL 25 c25_o []]), (9, oL 25 c25_o y5), (10, nI y6), (11, oL 3 ci64 y11), (12, nI y12), (53, .bool (decide (y12 < (List.length v1 : Int))))] rfl rfl ?_)))))
    rcases cond_some h with ⟨g16, h⟩ | ⟨g16, h⟩
    ·refine ls_cT rfl g16 (ls_skip (hK15 _ (kp [(3, .box [.str a1.1, dL ci64 a1.2]), (4, .box [nI 0, oL 25 c25_o []]), (5, oL 3 ci64 v1), (6, .box [nI v3.1.1, oL 25 c25_o v3.1.2]), (8, .box [nI (List.length v1 : Int), oL 25 c25_o []]), (9, oL 25 c25_o y5), (10, nI y6), (11, oL 3 ci64 y11), (12, nI y12)] rfl rfl (ls_seq_k fun K17 hK17 => ls_blk (ls_drw tbOk mixed (by kernel_rfl) (ed rfl (oT (oL 3 ci64 y11) rfl (ed rfl (oF 6 0 rfl ⟨_, rfl⟩ (ed rfl (oL1 1 (dL c25_o v3.1.2) rfl (ed rfl (oM (nI y6) rfl (?_))))))))))))))
     obtain ⟨e18, g19, h⟩ := ob_some h
     refine ed rfl (ev_ia rfl rfl rfl ⟨(geti_some g19).1, (geti_some g19).2.1⟩ (ed rfl (oLE y6 1 0 (dL ci64 e18) zc25_o g19 rfl (ed rfl (oF 3 0 rfl ⟨_, rfl⟩ (ed rfl (oL1 1 (dL ci64 a1.2) rfl (ed rfl (oM (oL 3 ci64 v1) rfl (ed rfl (oM (nI y12) rfl (?_))))))))))))
     obtain ⟨e20, g21, h⟩ := ob_some h
     refine ed rfl (ev_ia rfl rfl rfl ⟨(geti_some g21).1, (geti_some g21).2.1⟩ (ed rfl (oLE y12 1 0 (nI e20) zci64 g21 rfl (?_))))
     obtain ⟨v22, g23, h⟩ := ob_some h
     refine ed rfl (ev_call (era rfl (erD eci64 _) (era rfl rfl eran)) (spec_l7Find_s g23) (?_))
     obtain ⟨e24, g25, h⟩ := ob_some h
     refine ed rfl (ev_ia rfl rfl rfl ⟨(geti_some g25).1, (geti_some g25).2.1⟩ (ed rfl (oLE v22 1 0 (nI e24) zci64 g25 rfl (ed rfl (ev_bs [nI e24] (cs := [nI e24]) rfl ⟨rfl, trivial⟩ rfl (nb rfl) rfl (?_))))))
     obtain ⟨g26, h⟩ := chk_some h
     exact ed rfl (ev_app (f := ci64) (l := y11) (m := [e24]) (c2 := oL 3 ci64 [e24]) rfl rfl rfl (flat_len zci64 [e24]) rfl rfl g26 rfl (ed rfl (oA (oL 3 ci64 (y11 ++ [e24])) rfl (evdn (hK17 _ (kp [(3, .box [.str a1.1, dL ci64 a1.2]), (4, .box [nI 0, oL 25 c25_o []]), (5, oL 3 ci64 v1), (6, .box [nI v3.1.1, oL 25 c25_o v3.1.2]), (8, .box [nI (List.length v1 : Int), oL 25 c25_o []]), (9, oL 25 c25_o y5), (10, nI y6), (11, oL 3 ci64 (y11 ++ [e24])), (12, nI y12)] rfl rfl (ls_rgn tbOk (oM (nI y12) rfl (oB (nI y12) (nI 1) rfl rfl (oA (nI (IntKind.i64.wrap (y12 + 1))) rfl (evn (hN _ ((y11 ++ [e24]), (IntKind.i64.wrap (y12 + 1))) h (okr rfl)))))))))))))
    ·exact ls_cF rfl g16 (ls_exit (kXspec_AtomBindings_B2 y11 (by cases h; exact hr2) _ (okr rfl)))
   ·exact ls_cF rfl g11 (ls_exit (kXspec_AtomBindings_B1 y5 (by cases h; exact hr1) _ (okr rfl)))
def spec_ColumnsForOrder_J3 (rec : ((List Int) × Int) → Option ((List Int))) (y2 : Int) (x14 : List Int) : Option ((List Int)) := rec (x14, (IntKind.i64.wrap (y2 + 1)))
def spec_ColumnsForOrder_J2 (rec : ((List Int) × Int) → Option ((List Int))) (y1 : List Int) (y2 : Int) (v10 : Int) (x13 : Bool) : Option ((List Int)) := cond x13 (chk (List.length y1 + List.length [v10] ≤ lim) (spec_ColumnsForOrder_J3 rec y2 (y1 ++ [v10]))) (spec_ColumnsForOrder_J3 rec y2 y1)
def spec_ColumnsForOrder_B1 (a1 : List Int) (v1 : (List Int)) (rec : ((List Int) × Int) → Option ((List Int))) (s : (List Int) × Int) : Option ((List Int)) := match s with
  | (y1, y2) => cond (decide (y2 < (List.length a1 : Int))) (obind (geti a1 y2) fun e8 => obind (spec_l7Find v1 e8) fun v10 => cond (decide (0 ≤ v10)) (obind (spec_l7Find y1 v10) fun v18 => spec_ColumnsForOrder_J2 rec y1 y2 v10 (decide (v18 < 0))) (spec_ColumnsForOrder_J2 rec y1 y2 v10 false)) (some y1)
def spec_ColumnsForOrder (a0 : Y194) (a1 : List Int) : Option ((List Int)) := obind (spec_AtomVariables a0) fun v1 => obind (loopF (spec_ColumnsForOrder_B1 a1 v1) fz (([] : List Int), 0)) fun z4 => some z4
theorem spec_ColumnsForOrder_s {a0 : Y194} {a1 : List Int} {r : (List Int)} (h : spec_ColumnsForOrder a0 a1 = some r) : SoundAt Try.prog 224 [.agg (c195_d a0), dL ci64 a1] (oL 3 ci64 r) := by
 unfold spec_ColumnsForOrder at h
 refine sound_lit tbOk lit224 (nb rfl) rfl ?_
 unfold c224
 refine kp [(0, .agg (c195_d a0)), (1, dL ci64 a1)] rfl rfl (ls_rs tbOk (oX (.agg (c195_d a0)) rfl (ev_an rfl rfl (en [(1, dL ci64 a1), (2, .box [.str a0.1, dL ci64 a0.2])] rfl rfl (ls_rs tbOk (oL1 0 (.agg (c195_d a0)) rfl (?_)))))))
 obtain ⟨v1, g2, h⟩ := ob_some h
 refine ev_call (era rfl (erg (erc rfl (erc (erD eci64 _) rfl))) eran) (spec_AtomVariables_s g2) (oA (oL 3 ci64 v1) rfl (en [(1, dL ci64 a1), (5, oL 3 ci64 v1)] rfl rfl (ls_rs tbOk (ev_bs [] (cs := []) rfl trivial rfl (nb rfl) rfl (oA (oL 3 ci64 []) rfl (en [(1, dL ci64 a1), (5, oL 3 ci64 v1), (6, oL 3 ci64 [])] rfl rfl (ls_seq_k fun K3 hK3 => ls_rs tbOk (oC nofun rfl (en [(1, dL ci64 a1), (5, oL 3 ci64 v1), (6, oL 3 ci64 []), (7, nI 0)] rfl rfl ?_)))))))))
 obtain ⟨o1, hl, hr1⟩ := ob_some h
 clear h
 have kXspec_ColumnsForOrder_B1 : ∀ (z4 : List Int), (some z4) = some r → ∀ σ' : PS, okK σ' [(6, oL 3 ci64 z4)] → K3 σ' := by
  intro z4 h σ' hk
  refine hK3 _ (ls_keep [(6, oL 3 ci64 z4)] hk rfl (ls_rs tbOk (oT (oL 3 ci64 z4) rfl (oA (oL 3 ci64 z4) rfl (en [(4, oL 3 ci64 z4)] rfl rfl (ls_ret ?_))))))
  cases h
  exact ⟨.inl rfl, rfl⟩
 refine ls_rec (fun (s : (List Int) × Int) => match s with | (y1, y2) => [(1, dL ci64 a1), (5, oL 3 ci64 v1), (6, oL 3 ci64 y1), (7, nI y2)]) (spec_ColumnsForOrder_B1 a1 v1) fz (([] : List Int), 0) o1 hl (okr rfl) (fun _ => rfl) ?_
 rintro m ⟨y1, y2⟩ N h hN
 unfold spec_ColumnsForOrder_B1 at h
 dsimp only at h
 refine ls_seq_k fun K5 hK5 => ls_rs tbOk (oM (nI y2) rfl (oM (dL ci64 a1) rfl (oN (dL ci64 a1) rfl (oB (nI y2) (nI (List.length a1 : Int)) rfl rfl (en [(1, dL ci64 a1), (5, oL 3 ci64 v1), (6, oL 3 ci64 y1), (7, nI y2), (15, .bool (decide (y2 < (List.length a1 : Int))))] rfl rfl ?_)))))
 rcases cond_some h with ⟨g6, h⟩ | ⟨g6, h⟩
 ·refine ls_cT rfl g6 (ls_skip (hK5 _ (kp [(1, dL ci64 a1), (5, oL 3 ci64 v1), (6, oL 3 ci64 y1), (7, nI y2)] rfl rfl (ls_seq_k fun K7 hK7 => ls_blk (ls_rs tbOk (oM (oL 3 ci64 v1) rfl (oM (dL ci64 a1) rfl (oM (nI y2) rfl (?_)))))))))
  obtain ⟨e8, g9, h⟩ := ob_some h
  refine ev_ia rfl rfl rfl ⟨(geti_some g9).1, (geti_some g9).2.1⟩ (oLE y2 1 0 (nI e8) zci64 g9 rfl (?_))
  obtain ⟨v10, g11, h⟩ := ob_some h
  refine ev_call (era rfl (erD eci64 _) (era rfl rfl eran)) (spec_l7Find_s g11) (oA (nI v10) rfl (en [(1, dL ci64 a1), (5, oL 3 ci64 v1), (6, oL 3 ci64 y1), (7, nI y2), (8, nI v10)] rfl rfl (ls_rs_k tbOk fun K12 hK12 => ?_)))
  have kspec_ColumnsForOrder_J2 : ∀ (x13 : Bool), spec_ColumnsForOrder_J2 (loopF (spec_ColumnsForOrder_B1 a1 v1) m) y1 y2 v10 x13 = some o1 → ∀ σ' : PS, okK σ' [(1, dL ci64 a1), (5, oL 3 ci64 v1), (6, oL 3 ci64 y1), (7, nI y2), (8, nI v10), (31, .bool x13)] → K12 σ' := by
   intro x13 h σ' hk
   unfold spec_ColumnsForOrder_J2 at h
   refine hK12 _ (ls_keep [(1, dL ci64 a1), (5, oL 3 ci64 v1), (6, oL 3 ci64 y1), (7, nI y2), (8, nI v10), (31, .bool x13)] hk rfl ?_)
   have kspec_ColumnsForOrder_J3 : ∀ (x14 : List Int), spec_ColumnsForOrder_J3 (loopF (spec_ColumnsForOrder_B1 a1 v1) m) y2 x14 = some o1 → ∀ σ' : PS, okK σ' [(1, dL ci64 a1), (5, oL 3 ci64 v1), (6, oL 3 ci64 x14), (7, nI y2)] → K7 σ' := by
    intro x14 h σ' hk
    unfold spec_ColumnsForOrder_J3 at h
    exact hK7 _ (ls_keep [(1, dL ci64 a1), (5, oL 3 ci64 v1), (6, oL 3 ci64 x14), (7, nI y2)] hk rfl (ls_rgn tbOk (oM (nI y2) rfl (oB (nI y2) (nI 1) rfl rfl (oA (nI (IntKind.i64.wrap (y2 + 1))) rfl (evn (hN _ (x14, (IntKind.i64.wrap (y2 + 1))) h (okr rfl))))))))
   rcases cond_some h with ⟨g15, h⟩ | ⟨g15, h⟩
   ·refine ls_cT rfl g15 (ls_rgn tbOk (oT (oL 3 ci64 y1) rfl (oM (nI v10) rfl (ev_bs [nI v10] (cs := [nI v10]) rfl ⟨rfl, trivial⟩ rfl (nb rfl) rfl (?_)))))
    obtain ⟨g16, h⟩ := chk_some h
    exact ev_app (f := ci64) (l := y1) (m := [v10]) (c2 := oL 3 ci64 [v10]) rfl rfl rfl (flat_len zci64 [v10]) rfl rfl g16 rfl (oA (oL 3 ci64 (y1 ++ [v10])) rfl (evn (kspec_ColumnsForOrder_J3 (y1 ++ [v10]) h _ (okr rfl))))
   ·exact ls_cF rfl g15 (ls_skip (kspec_ColumnsForOrder_J3 y1 h _ (okr rfl)))
  refine oM (nI v10) rfl (oB (nI v10) (nI 0) rfl rfl (oM (.bool (decide (0 ≤ v10))) rfl (?_)))
  rcases cond_some h with ⟨g17, h⟩ | ⟨g17, h⟩
  ·refine oGR g17 rfl (oM (oL 3 ci64 y1) rfl (oGR g17 rfl (oM (nI v10) rfl (?_))))
   obtain ⟨v18, g19, h⟩ := ob_some h
   exact oGR g17 rfl (ev_call (era rfl (erD eci64 _) (era rfl rfl eran)) (spec_l7Find_s g19) (oGR g17 rfl (oB (nI v18) (nI 0) rfl rfl (oPT (.bool (decide (v18 < 0))) g17 rfl (evn (kspec_ColumnsForOrder_J2 (decide (v18 < 0)) h _ (okr rfl)))))))
  ·exact oGF g17 rfl (oGF g17 rfl (oGF g17 rfl (oGF g17 rfl (oPF (.bool false) g17 rfl (evn (kspec_ColumnsForOrder_J2 false h _ (okr rfl)))))))
 ·exact ls_cF rfl g6 (ls_exit (kXspec_ColumnsForOrder_B1 y1 (by cases h; exact hr1) _ (okr rfl)))
def spec_BuildTries_B1 (a0 : List Y207) (a1 : Y91) (a2 : List Int) (rec : ((List Y127) × Int) → Option (Sum ((List Y127)) ((List Y127) × Bool))) (s : (List Y127) × Int) : Option (Sum ((List Y127)) ((List Y127) × Bool)) := match s with
  | (y1, y2) => cond (decide (y2 < (List.length a1.2.1 : Int))) (obind (geti a1.2.1 y2) fun e13 => obind (spec_AtomBindings a0 e13) fun v15 => obind (geti a1.2.1 y2) fun e17 => obind (spec_ColumnsForOrder e17 a2) fun v19 => obind (spec_BuildTrie v15 v19) fun v21 => cond (!v21.2) (some (.inr (([] : List Y127), false))) (chk (List.length y1 + List.length [v21.1] ≤ lim) (rec ((y1 ++ [v21.1]), (IntKind.i64.wrap (y2 + 1)))))) (some (.inl y1))
def spec_BuildTries (a0 : List Y207) (a1 : Y91) (a2 : List Int) : Option ((List Y127) × Bool) := obind (spec_IsQueryFor a0 a1) fun v2 => cond (!v2) (some (([] : List Y127), false)) (obind (spec_IsValidOrder a1 a2) fun v5 => cond (!v5) (some (([] : List Y127), false)) (obind (loopF (spec_BuildTries_B1 a0 a1 a2) fz (([] : List Y127), 0)) fun o1 => (match o1 with
  | .inl z9 => (some (z9, true))
  | .inr r => some r)))
theorem spec_BuildTries_s {a0 : List Y207} {a1 : Y91} {a2 : List Int} {r : (List Y127) × Bool} (h : spec_BuildTries a0 a1 a2 = some r) : SoundAt Try.prog 155 [.agg [dL c208_dd a0], .agg (c92_ddd a1), dL ci64 a2] (.tup [oL 197 c197_oo r.1, .bool r.2]) := by
 unfold spec_BuildTries at h
 refine sound_lit tbOk lit155 (nb rfl) rfl ?_
 unfold c155
 refine kp [(0, .agg [dL c208_dd a0]), (1, .agg (c92_ddd a1)), (2, dL ci64 a2)] rfl rfl (ls_rs tbOk (oX (.agg [dL c208_dd a0]) rfl (oX (.agg (c92_ddd a1)) rfl (ev_an rfl rfl (oC nofun rfl (en [(2, dL ci64 a2), (3, .box [dL c208_dd a0]), (4, .box [nI a1.1, dL c195_d a1.2.1, dL ci64 a1.2.2])] rfl rfl (ls_rs tbOk (ev_bs [] (cs := []) rfl trivial rfl (nb rfl) rfl (oA (oL 197 c197_oo []) rfl (en [(2, dL ci64 a2), (3, .box [dL c208_dd a0]), (4, .box [nI a1.1, dL c195_d a1.2.1, dL ci64 a1.2.2]), (8, oL 197 c197_oo [])] rfl rfl (ls_seq_k fun K1 hK1 => ls_rs tbOk (oL1 0 (.agg [dL c208_dd a0]) rfl (oL1 0 (.agg (c92_ddd a1)) rfl (?_))))))))))))))
 obtain ⟨v2, g3, h⟩ := ob_some h
 refine ev_call (era rfl (erg (erc (erD ec208_dd _) rfl)) (era rfl (erg (erc rfl (erc (erD ec195_d _) (erc (erD eci64 _) rfl)))) eran)) (spec_IsQueryFor_s g3) (ev_un (c1 := .bool v2) rfl trivial (oM (.bool (!v2)) rfl (?_)))
 rcases cond_some h with ⟨g4, h⟩ | ⟨g4, h⟩
 ·refine oGT g4 rfl (oGT g4 rfl (oGT g4 rfl (oGT g4 rfl (oPT (.bool true) g4 rfl (en [(2, dL ci64 a2), (3, .box [dL c208_dd a0]), (4, .box [nI a1.1, dL c195_d a1.2.1, dL ci64 a1.2.2]), (8, oL 197 c197_oo []), (22, .bool true)] rfl rfl (ls_cT rfl rfl (ls_rs tbOk (oT (oL 197 c197_oo []) rfl (oA (oL 197 c197_oo []) rfl (oC nofun rfl (en [(6, oL 197 c197_oo []), (7, .bool false)] rfl rfl (ls_ret ?_))))))))))))
  cases h
  exact ⟨.inl rfl, rfl⟩
 ·refine oGR g4 rfl (oL1 0 (.agg (c92_ddd a1)) rfl (oGR g4 rfl (oM (dL ci64 a2) rfl (?_))))
  obtain ⟨v5, g6, h⟩ := ob_some h
  refine oGR g4 rfl (ev_call (era rfl (erg (erc rfl (erc (erD ec195_d _) (erc (erD eci64 _) rfl)))) (era rfl (erD eci64 _) eran)) (spec_IsValidOrder_s g6) (oGR g4 rfl (ev_un (c1 := .bool v5) rfl trivial (oPF (.bool (!v5)) g4 rfl (en [(2, dL ci64 a2), (3, .box [dL c208_dd a0]), (4, .box [nI a1.1, dL c195_d a1.2.1, dL ci64 a1.2.2]), (8, oL 197 c197_oo []), (22, .bool (!v5))] rfl rfl ?_)))))
  rcases cond_some h with ⟨g7, h⟩ | ⟨g7, h⟩
  ·refine ls_cT rfl g7 (ls_rs tbOk (oT (oL 197 c197_oo []) rfl (oA (oL 197 c197_oo []) rfl (oC nofun rfl (en [(6, oL 197 c197_oo []), (7, .bool false)] rfl rfl (ls_ret ?_))))))
   cases h
   exact ⟨.inl rfl, rfl⟩
  ·refine ls_cF rfl g7 (ls_skip (hK1 _ (kp [(2, dL ci64 a2), (3, .box [dL c208_dd a0]), (4, .box [nI a1.1, dL c195_d a1.2.1, dL ci64 a1.2.2]), (8, oL 197 c197_oo [])] rfl rfl (ls_seq_k fun K8 hK8 => ls_rs tbOk (oC nofun rfl (en [(2, dL ci64 a2), (3, .box [dL c208_dd a0]), (4, .box [nI a1.1, dL c195_d a1.2.1, dL ci64 a1.2.2]), (8, oL 197 c197_oo []), (9, nI 0)] rfl rfl ?_))))))
   obtain ⟨o1, hl, hr1⟩ := ob_some h
   clear h
   have kXspec_BuildTries_B1 : ∀ (z9 : List Y127), (some (z9, true)) = some r → ∀ σ' : PS, okK σ' [(8, oL 197 c197_oo z9)] → K8 σ' := by
    intro z9 h σ' hk
    refine hK8 _ (ls_keep [(8, oL 197 c197_oo z9)] hk rfl (ls_rs tbOk (oT (oL 197 c197_oo z9) rfl (oA (oL 197 c197_oo z9) rfl (oC nofun rfl (en [(6, oL 197 c197_oo z9), (7, .bool true)] rfl rfl (ls_ret ?_)))))))
    cases h
    exact ⟨.inl rfl, rfl⟩
   refine ls_rec (fun (s : (List Y127) × Int) => match s with | (y1, y2) => [(2, dL ci64 a2), (3, .box [dL c208_dd a0]), (4, .box [nI a1.1, dL c195_d a1.2.1, dL ci64 a1.2.2]), (8, oL 197 c197_oo y1), (9, nI y2)]) (spec_BuildTries_B1 a0 a1 a2) fz (([] : List Y127), 0) o1 hl (okr rfl) (fun _ => rfl) ?_
   rintro m ⟨y1, y2⟩ N h hN
   unfold spec_BuildTries_B1 at h
   dsimp only at h
   refine ls_seq_k fun K10 hK10 => ls_rs tbOk (oM (nI y2) rfl (oF 4 0 rfl ⟨_, rfl⟩ (oL1 1 (dL c195_d a1.2.1) rfl (oN (dL c195_d a1.2.1) rfl (oB (nI y2) (nI (List.length a1.2.1 : Int)) rfl rfl (en [(2, dL ci64 a2), (3, .box [dL c208_dd a0]), (4, .box [nI a1.1, dL c195_d a1.2.1, dL ci64 a1.2.2]), (8, oL 197 c197_oo y1), (9, nI y2), (28, .bool (decide (y2 < (List.length a1.2.1 : Int))))] rfl rfl ?_))))))
   rcases cond_some h with ⟨g11, h⟩ | ⟨g11, h⟩
   ·refine ls_cT rfl g11 (ls_skip (hK10 _ (kp [(2, dL ci64 a2), (3, .box [dL c208_dd a0]), (4, .box [nI a1.1, dL c195_d a1.2.1, dL ci64 a1.2.2]), (8, oL 197 c197_oo y1), (9, nI y2)] rfl rfl (ls_seq_k fun K12 hK12 => ls_blk (ls_rd tbOk mixed (by kernel_rfl) (ed rfl (oL1 0 (.agg [dL c208_dd a0]) rfl (ed rfl (oF 4 0 rfl ⟨_, rfl⟩ (ed rfl (oL1 1 (dL c195_d a1.2.1) rfl (ed rfl (oM (nI y2) rfl (?_))))))))))))))
    obtain ⟨e13, g14, h⟩ := ob_some h
    refine ed rfl (ev_ia rfl rfl rfl ⟨(geti_some g14).1, (geti_some g14).2.1⟩ (ed rfl (oLE y2 2 0 (.agg (c195_d e13)) zc195_d g14 rfl (?_))))
    obtain ⟨v15, g16, h⟩ := ob_some h
    refine ed rfl (ev_call (era rfl (erg (erc (erD ec208_dd _) rfl)) (era rfl (erg (erc rfl (erc (erD eci64 _) rfl))) eran)) (spec_AtomBindings_s g16) (ed rfl (oF 4 0 rfl ⟨_, rfl⟩ (ed rfl (oL1 1 (dL c195_d a1.2.1) rfl (ed rfl (oM (nI y2) rfl (?_))))))))
    obtain ⟨e17, g18, h⟩ := ob_some h
    refine ed rfl (ev_ia rfl rfl rfl ⟨(geti_some g18).1, (geti_some g18).2.1⟩ (ed rfl (oLE y2 2 0 (.agg (c195_d e17)) zc195_d g18 rfl (ed rfl (oM (dL ci64 a2) rfl (?_))))))
    obtain ⟨v19, g20, h⟩ := ob_some h
    refine ed rfl (ev_call (era rfl (erg (erc rfl (erc (erD eci64 _) rfl))) (era rfl (erD eci64 _) eran)) (spec_ColumnsForOrder_s g20) (?_))
    obtain ⟨v21, g22, h⟩ := ob_some h
    refine ed rfl (ev_call (era rfl (erg (erc rfl (erc (erO ec25_o _) rfl))) (era rfl (erO eci64 _) eran)) (spec_BuildTrie_s g22) (ed rfl (oT (.tup [.agg (c197_oo v21.1), .bool v21.2]) rfl (ed rfl (ev_ext rfl rfl rfl rfl (ed rfl (ev_ext rfl rfl rfl rfl (ed rfl (ev_al rfl rfl (ed rfl (oS 0 (.agg (c197_oo v21.1)) [nI v21.1.1, oL 25 c25_o v21.1.2] rfl rfl (ed rfl (oA (.bool v21.2) rfl (evdn (kp [(2, dL ci64 a2), (3, .box [dL c208_dd a0]), (4, .box [nI a1.1, dL c195_d a1.2.1, dL ci64 a1.2.2]), (8, oL 197 c197_oo y1), (9, nI y2), (10, .box [nI v21.1.1, oL 25 c25_o v21.1.2]), (11, .bool v21.2)] rfl rfl (ls_seq_k fun K23 hK23 => ls_rs tbOk (oM (.bool v21.2) rfl (ev_un (c1 := .bool v21.2) rfl trivial (en [(2, dL ci64 a2), (3, .box [dL c208_dd a0]), (4, .box [nI a1.1, dL c195_d a1.2.1, dL ci64 a1.2.2]), (8, oL 197 c197_oo y1), (9, nI y2), (10, .box [nI v21.1.1, oL 25 c25_o v21.1.2]), (50, .bool (!v21.2))] rfl rfl ?_)))))))))))))))))))
    rcases cond_some h with ⟨g24, h⟩ | ⟨g24, h⟩
    ·refine ls_cT rfl g24 (ls_rs tbOk (ev_bs [] (cs := []) rfl trivial rfl (nb rfl) rfl (oA (oL 197 c197_oo []) rfl (oC nofun rfl (en [(6, oL 197 c197_oo []), (7, .bool false)] rfl rfl (ls_ret ?_))))))
     cases h
     cases hr1
     exact ⟨.inl rfl, rfl⟩
    ·refine ls_cF rfl g24 (ls_skip (hK23 _ (kp [(2, dL ci64 a2), (3, .box [dL c208_dd a0]), (4, .box [nI a1.1, dL c195_d a1.2.1, dL ci64 a1.2.2]), (8, oL 197 c197_oo y1), (9, nI y2), (10, .box [nI v21.1.1, oL 25 c25_o v21.1.2])] rfl rfl (ls_rgn tbOk (oT (oL 197 c197_oo y1) rfl (ev_ldBt (off := 0) (v := .agg (c197_oo v21.1)) (c' := .box [nI v21.1.1, dL c25_o v21.1.2]) rfl rfl rfl rfl (nb rfl) rfl rfl (ev_bs [.agg (c197_oo v21.1)] (cs := [nI v21.1.1, oL 25 c25_o v21.1.2]) rfl ⟨rfl, trivial⟩ rfl (nb rfl) rfl (?_))))))))
     obtain ⟨g25, h⟩ := chk_some h
     exact ev_app (f := c197_oo) (l := y1) (m := [v21.1]) (c2 := oL 197 c197_oo [v21.1]) rfl rfl rfl (flat_len zc197_oo [v21.1]) rfl rfl g25 rfl (oA (oL 197 c197_oo (y1 ++ [v21.1])) rfl (evn (hK12 _ (kp [(2, dL ci64 a2), (3, .box [dL c208_dd a0]), (4, .box [nI a1.1, dL c195_d a1.2.1, dL ci64 a1.2.2]), (8, oL 197 c197_oo (y1 ++ [v21.1])), (9, nI y2)] rfl rfl (ls_rgn tbOk (oM (nI y2) rfl (oB (nI y2) (nI 1) rfl rfl (oA (nI (IntKind.i64.wrap (y2 + 1))) rfl (evn (hN _ ((y1 ++ [v21.1]), (IntKind.i64.wrap (y2 + 1))) h (okr rfl)))))))))))
   ·exact ls_cF rfl g11 (ls_exit (kXspec_BuildTries_B1 y1 (by cases h; exact hr1) _ (okr rfl)))
def spec_AtomsWithVariable_J2 (rec : ((List Int) × Int) → Option ((List Int))) (y2 : Int) (x13 : List Int) : Option ((List Int)) := rec (x13, (IntKind.i64.wrap (y2 + 1)))
def spec_AtomsWithVariable_B1 (a0 : Y91) (a1 : Int) (rec : ((List Int) × Int) → Option ((List Int))) (s : (List Int) × Int) : Option ((List Int)) := match s with
  | (y1, y2) => cond (decide (y2 < (List.length a0.2.1 : Int))) (obind (spec_IsValidQuery a0) fun v5 => cond v5 (obind (geti a0.2.1 y2) fun e9 => obind (spec_ContainsVariable e9 a1) fun v11 => cond v11 (chk (List.length y1 + List.length [y2] ≤ lim) (spec_AtomsWithVariable_J2 rec y2 (y1 ++ [y2]))) (spec_AtomsWithVariable_J2 rec y2 y1)) (some y1)) (some y1)
def spec_AtomsWithVariable (a0 : Y91) (a1 : Int) : Option ((List Int)) := obind (loopF (spec_AtomsWithVariable_B1 a0 a1) fz (([] : List Int), 0)) fun z2 => some z2
theorem spec_AtomsWithVariable_s {a0 : Y91} {a1 : Int} {r : (List Int)} (h : spec_AtomsWithVariable a0 a1 = some r) : SoundAt Try.prog 156 [.agg (c92_ddd a0), nI a1] (oL 3 ci64 r) := by
 unfold spec_AtomsWithVariable at h
 refine sound_lit tbOk lit156 (nb rfl) rfl ?_
 unfold c156
 refine kp [(0, .agg (c92_ddd a0)), (1, nI a1)] rfl rfl (ls_rs tbOk (oX (.agg (c92_ddd a0)) rfl (ev_an rfl rfl (en [(1, nI a1), (2, .box [nI a0.1, dL c195_d a0.2.1, dL ci64 a0.2.2])] rfl rfl (ls_rs tbOk (ev_bs [] (cs := []) rfl trivial rfl (nb rfl) rfl (oA (oL 3 ci64 []) rfl (en [(1, nI a1), (2, .box [nI a0.1, dL c195_d a0.2.1, dL ci64 a0.2.2]), (5, oL 3 ci64 [])] rfl rfl (ls_seq_k fun K1 hK1 => ls_rs tbOk (oC nofun rfl (en [(1, nI a1), (2, .box [nI a0.1, dL c195_d a0.2.1, dL ci64 a0.2.2]), (5, oL 3 ci64 []), (6, nI 0)] rfl rfl ?_)))))))))))
 obtain ⟨o1, hl, hr1⟩ := ob_some h
 clear h
 have kXspec_AtomsWithVariable_B1 : ∀ (z2 : List Int), (some z2) = some r → ∀ σ' : PS, okK σ' [(5, oL 3 ci64 z2)] → K1 σ' := by
  intro z2 h σ' hk
  refine hK1 _ (ls_keep [(5, oL 3 ci64 z2)] hk rfl (ls_rs tbOk (oT (oL 3 ci64 z2) rfl (oA (oL 3 ci64 z2) rfl (en [(4, oL 3 ci64 z2)] rfl rfl (ls_ret ?_))))))
  cases h
  exact ⟨.inl rfl, rfl⟩
 refine ls_rec (fun (s : (List Int) × Int) => match s with | (y1, y2) => [(1, nI a1), (2, .box [nI a0.1, dL c195_d a0.2.1, dL ci64 a0.2.2]), (5, oL 3 ci64 y1), (6, nI y2)]) (spec_AtomsWithVariable_B1 a0 a1) fz (([] : List Int), 0) o1 hl (okr rfl) (fun _ => rfl) ?_
 rintro m ⟨y1, y2⟩ N h hN
 unfold spec_AtomsWithVariable_B1 at h
 dsimp only at h
 refine ls_seq_k fun K3 hK3 => ls_rs tbOk (oM (nI y2) rfl (oF 2 0 rfl ⟨_, rfl⟩ (oL1 1 (dL c195_d a0.2.1) rfl (oN (dL c195_d a0.2.1) rfl (oB (nI y2) (nI (List.length a0.2.1 : Int)) rfl rfl (oM (.bool (decide (y2 < (List.length a0.2.1 : Int)))) rfl (?_)))))))
 rcases cond_some h with ⟨g4, h⟩ | ⟨g4, h⟩
 ·refine oGR g4 rfl (oL1 0 (.agg (c92_ddd a0)) rfl (?_))
  obtain ⟨v5, g6, h⟩ := ob_some h
  refine oGR g4 rfl (ev_call (era rfl (erg (erc rfl (erc (erD ec195_d _) (erc (erD eci64 _) rfl)))) eran) (spec_IsValidQuery_s g6) (oPT (.bool v5) g4 rfl (en [(1, nI a1), (2, .box [nI a0.1, dL c195_d a0.2.1, dL ci64 a0.2.2]), (5, oL 3 ci64 y1), (6, nI y2), (16, .bool v5)] rfl rfl ?_)))
  rcases cond_some h with ⟨g7, h⟩ | ⟨g7, h⟩
  ·refine ls_cT rfl g7 (ls_skip (hK3 _ (kp [(1, nI a1), (2, .box [nI a0.1, dL c195_d a0.2.1, dL ci64 a0.2.2]), (5, oL 3 ci64 y1), (6, nI y2)] rfl rfl (ls_seq_k fun K8 hK8 => ls_blk (ls_rs tbOk (oF 2 0 rfl ⟨_, rfl⟩ (oL1 1 (dL c195_d a0.2.1) rfl (oM (nI y2) rfl (?_)))))))))
   obtain ⟨e9, g10, h⟩ := ob_some h
   refine ev_ia rfl rfl rfl ⟨(geti_some g10).1, (geti_some g10).2.1⟩ (oLE y2 2 0 (.agg (c195_d e9)) zc195_d g10 rfl (oM (nI a1) rfl (?_)))
   obtain ⟨v11, g12, h⟩ := ob_some h
   refine ev_call (era rfl (erg (erc rfl (erc (erD eci64 _) rfl))) (era rfl rfl eran)) (spec_ContainsVariable_s g12) (en [(1, nI a1), (2, .box [nI a0.1, dL c195_d a0.2.1, dL ci64 a0.2.2]), (5, oL 3 ci64 y1), (6, nI y2), (25, .bool v11)] rfl rfl ?_)
   have kspec_AtomsWithVariable_J2 : ∀ (x13 : List Int), spec_AtomsWithVariable_J2 (loopF (spec_AtomsWithVariable_B1 a0 a1) m) y2 x13 = some o1 → ∀ σ' : PS, okK σ' [(1, nI a1), (2, .box [nI a0.1, dL c195_d a0.2.1, dL ci64 a0.2.2]), (5, oL 3 ci64 x13), (6, nI y2)] → K8 σ' := by
    intro x13 h σ' hk
    unfold spec_AtomsWithVariable_J2 at h
    exact hK8 _ (ls_keep [(1, nI a1), (2, .box [nI a0.1, dL c195_d a0.2.1, dL ci64 a0.2.2]), (5, oL 3 ci64 x13), (6, nI y2)] hk rfl (ls_rgn tbOk (oM (nI y2) rfl (oB (nI y2) (nI 1) rfl rfl (oA (nI (IntKind.i64.wrap (y2 + 1))) rfl (evn (hN _ (x13, (IntKind.i64.wrap (y2 + 1))) h (okr rfl))))))))
   rcases cond_some h with ⟨g14, h⟩ | ⟨g14, h⟩
   ·refine ls_cT rfl g14 (ls_rgn tbOk (oT (oL 3 ci64 y1) rfl (oM (nI y2) rfl (ev_bs [nI y2] (cs := [nI y2]) rfl ⟨rfl, trivial⟩ rfl (nb rfl) rfl (?_)))))
    obtain ⟨g15, h⟩ := chk_some h
    exact ev_app (f := ci64) (l := y1) (m := [y2]) (c2 := oL 3 ci64 [y2]) rfl rfl rfl (flat_len zci64 [y2]) rfl rfl g15 rfl (oA (oL 3 ci64 (y1 ++ [y2])) rfl (evn (kspec_AtomsWithVariable_J2 (y1 ++ [y2]) h _ (okr rfl))))
   ·exact ls_cF rfl g14 (ls_skip (kspec_AtomsWithVariable_J2 y1 h _ (okr rfl)))
  ·exact ls_cF rfl g7 (ls_exit (kXspec_AtomsWithVariable_B1 y1 (by cases h; exact hr1) _ (okr rfl)))
 ·exact oGF g4 rfl (oGF g4 rfl (oPF (.bool false) g4 rfl (en [(1, nI a1), (2, .box [nI a0.1, dL c195_d a0.2.1, dL ci64 a0.2.2]), (5, oL 3 ci64 y1), (6, nI y2), (16, .bool false)] rfl rfl (ls_cF rfl rfl (ls_exit (kXspec_AtomsWithVariable_B1 y1 (by cases h; exact hr1) _ (okr rfl)))))))
def spec_l16Rel (a0 : Y127) : Option (Y127) := some a0
theorem spec_l16Rel_s {a0 : Y127} {r : Y127} (h : spec_l16Rel a0 = some r) : SoundAt Try.prog 266 [.agg (c197_dd a0)] (.agg (c128_dd r)) := by
 unfold spec_l16Rel at h
 refine sound_lit tbOk lit266 (nb rfl) rfl ?_
 unfold c266
 refine kp [(0, .agg (c197_dd a0))] rfl rfl (ls_rs tbOk (oX (.agg (c197_dd a0)) rfl (ev_al rfl rfl (en [(1, .box [nI a0.1, dL c25_d a0.2]), (2, .box [nI 0, oL 25 c25_o []])] rfl rfl (ls_rs tbOk (oF 1 0 rfl ⟨_, rfl⟩ (oL1 0 (nI a0.1) rfl (oF 1 0 rfl ⟨_, rfl⟩ (oL1 1 (dL c25_d a0.2) rfl (ev_bd [nI a0.1, dL c25_d a0.2] (cs := [nI a0.1, dL c25_d a0.2]) rfl ⟨rfl, rfl, trivial⟩ rfl (oS 0 (.agg (c128_dd a0)) [nI a0.1, dL c25_d a0.2] rfl rfl (en [(2, .box [nI a0.1, dL c25_d a0.2])] rfl rfl (ls_ret ?_)))))))))))))
 cases h
 exact ⟨.inl rfl, rfl⟩
def spec_IsValidTrie (a0 : Y127) : Option (Bool) := obind (spec_l16Rel a0) fun v1 => obind (spec_IsValidRelation v1) fun v3 => some v3
theorem spec_IsValidTrie_s {a0 : Y127} {r : Bool} (h : spec_IsValidTrie a0 = some r) : SoundAt Try.prog 260 [.agg (c197_dd a0)] (.bool r) := by
 unfold spec_IsValidTrie at h
 refine sound_lit tbOk lit260 (nb rfl) rfl ?_
 unfold c260
 refine kp [(0, .agg (c197_dd a0))] rfl rfl (ls_rs tbOk (oX (.agg (c197_dd a0)) rfl (oC nofun rfl (en [(1, .box [nI a0.1, dL c25_d a0.2])] rfl rfl (ls_rs tbOk (oL1 0 (.agg (c197_dd a0)) rfl (?_)))))))
 obtain ⟨v1, g2, h⟩ := ob_some h
 refine ev_call (era rfl (erg (erc rfl (erc (erD ec25_d _) rfl))) eran) (spec_l16Rel_s g2) (?_)
 obtain ⟨v3, g4, h⟩ := ob_some h
 refine ev_call (era rfl (erg (erc rfl (erc (erD ec25_d _) rfl))) eran) (spec_IsValidRelation_s g4) (oA (.bool v3) rfl (en [(2, .bool v3)] rfl rfl (ls_ret ?_)))
 cases h
 exact ⟨.inl rfl, rfl⟩
def spec_TriePrefixRange_B1 (a0 : Y127) (a1 : List Int) (rec : Int → Option (Int)) (y1 : Int) : Option (Int) := cond (decide (y1 < (List.length a0.2 : Int))) (obind (geti a0.2 y1) fun e10 => chk ((0 : Int) ≤ 0 ∧ 0 ≤ (List.length a1 : Int) ∧ (List.length a1 : Int) ≤ (List.length e10 : Int)) (obind (spec_CompareRows (subl e10 0 (List.length a1 : Int)) a1) fun v13 => cond (decide (v13 < 0)) (rec (IntKind.i64.wrap (y1 + 1))) (some y1))) (some y1)
def spec_TriePrefixRange_B2 (a0 : Y127) (a1 : List Int) (rec : Int → Option (Int)) (y2 : Int) : Option (Int) := cond (decide (y2 < (List.length a0.2 : Int))) (obind (geti a0.2 y2) fun e20 => chk ((0 : Int) ≤ 0 ∧ 0 ≤ (List.length a1 : Int) ∧ (List.length a1 : Int) ≤ (List.length e20 : Int)) (obind (spec_CompareRows (subl e20 0 (List.length a1 : Int)) a1) fun v23 => cond (v23 == 0) (rec (IntKind.i64.wrap (y2 + 1))) (some y2))) (some y2)
def spec_TriePrefixRange (a0 : Y127) (a1 : List Int) : Option (Int × Int) := obind (spec_IsValidTrie a0) fun v2 => cond (!v2) (some (0, 0)) (cond (decide (a0.1 < (List.length a1 : Int))) (some (0, 0)) (obind (loopF (spec_TriePrefixRange_B1 a0 a1) fz 0) fun z7 => obind (loopF (spec_TriePrefixRange_B2 a0 a1) fz z7) fun z17 => some (z7, z17)))
theorem spec_TriePrefixRange_s {a0 : Y127} {a1 : List Int} {r : Int × Int} (h : spec_TriePrefixRange a0 a1 = some r) : SoundAt Try.prog 248 [.agg (c197_dd a0), dL ci64 a1] (.tup [nI r.1, nI r.2]) := by
 unfold spec_TriePrefixRange at h
 refine sound_lit tbOk lit248 (nb rfl) rfl ?_
 unfold c248
 refine kp [(0, .agg (c197_dd a0)), (1, dL ci64 a1)] rfl rfl (ls_rs tbOk (oX (.agg (c197_dd a0)) rfl (oC nofun rfl (oC nofun rfl (en [(1, dL ci64 a1), (2, .box [nI a0.1, dL c25_d a0.2])] rfl rfl (ls_seq_k fun K1 hK1 => ls_rs tbOk (oL1 0 (.agg (c197_dd a0)) rfl (?_))))))))
 obtain ⟨v2, g3, h⟩ := ob_some h
 refine ev_call (era rfl (erg (erc rfl (erc (erD ec25_d _) rfl))) eran) (spec_IsValidTrie_s g3) (ev_un (c1 := .bool v2) rfl trivial (oM (.bool (!v2)) rfl (?_)))
 rcases cond_some h with ⟨g4, h⟩ | ⟨g4, h⟩
 ·refine oGT g4 rfl (oGT g4 rfl (oGT g4 rfl (oGT g4 rfl (oGT g4 rfl (oPT (.bool true) g4 rfl (en [(1, dL ci64 a1), (2, .box [nI a0.1, dL c25_d a0.2]), (17, .bool true)] rfl rfl (ls_cT rfl rfl (ls_rs tbOk (oC nofun rfl (oC nofun rfl (en [(4, nI 0), (5, nI 0)] rfl rfl (ls_ret ?_))))))))))))
  cases h
  exact ⟨.inl rfl, rfl⟩
 ·refine oGR g4 rfl (oM (dL ci64 a1) rfl (oGR g4 rfl (oN (dL ci64 a1) rfl (oGR g4 rfl (oF 2 0 rfl ⟨_, rfl⟩ (oGR g4 rfl (oL1 0 (nI a0.1) rfl (oGR g4 rfl (oB (nI (List.length a1 : Int)) (nI a0.1) rfl rfl (oPF (.bool (decide (a0.1 < (List.length a1 : Int)))) g4 rfl (en [(1, dL ci64 a1), (2, .box [nI a0.1, dL c25_d a0.2]), (17, .bool (decide (a0.1 < (List.length a1 : Int))))] rfl rfl ?_)))))))))))
  rcases cond_some h with ⟨g5, h⟩ | ⟨g5, h⟩
  ·refine ls_cT rfl g5 (ls_rs tbOk (oC nofun rfl (oC nofun rfl (en [(4, nI 0), (5, nI 0)] rfl rfl (ls_ret ?_)))))
   cases h
   exact ⟨.inl rfl, rfl⟩
  ·refine ls_cF rfl g5 (ls_skip (hK1 _ (kp [(1, dL ci64 a1), (2, .box [nI a0.1, dL c25_d a0.2])] rfl rfl (ls_rs tbOk (oC nofun rfl (en [(1, dL ci64 a1), (2, .box [nI a0.1, dL c25_d a0.2]), (6, nI 0)] rfl rfl (ls_seq_k fun K6 hK6 => ?_)))))))
   obtain ⟨o1, hl, hr1⟩ := ob_some h
   clear h
   have kXspec_TriePrefixRange_B1 : ∀ (z7 : Int), (obind (loopF (spec_TriePrefixRange_B2 a0 a1) fz z7) fun z17 => some (z7, z17)) = some r → ∀ σ' : PS, okK σ' [(1, dL ci64 a1), (2, .box [nI a0.1, dL c25_d a0.2]), (6, nI z7)] → K6 σ' := by
    intro z7 h σ' hk
    refine hK6 _ (ls_keep [(1, dL ci64 a1), (2, .box [nI a0.1, dL c25_d a0.2]), (6, nI z7)] hk rfl (ls_rs tbOk (oM (nI z7) rfl (oA (nI z7) rfl (en [(1, dL ci64 a1), (2, .box [nI a0.1, dL c25_d a0.2]), (6, nI z7), (7, nI z7)] rfl rfl (ls_seq_k fun K16 hK16 => ?_))))))
    obtain ⟨o2, hl, hr2⟩ := ob_some h
    clear h
    have kXspec_TriePrefixRange_B2 : ∀ (z17 : Int), (some (z7, z17)) = some r → ∀ σ' : PS, okK σ' [(6, nI z7), (7, nI z17)] → K16 σ' := by
     intro z17 h σ' hk
     refine hK16 _ (ls_keep [(6, nI z7), (7, nI z17)] hk rfl (ls_rs tbOk (oM (nI z7) rfl (oM (nI z17) rfl (oA (nI z7) rfl (oA (nI z17) rfl (en [(4, nI z7), (5, nI z17)] rfl rfl (ls_ret ?_))))))))
     cases h
     exact ⟨.inl rfl, rfl⟩
    refine ls_rec (fun (y2 : Int) => [(1, dL ci64 a1), (2, .box [nI a0.1, dL c25_d a0.2]), (6, nI z7), (7, nI y2)]) (spec_TriePrefixRange_B2 a0 a1) fz z7 o2 hl (okr rfl) (fun _ => rfl) ?_
    rintro m y2 N h hN
    unfold spec_TriePrefixRange_B2 at h
    refine ls_seq_k fun K18 hK18 => ls_rs tbOk (oM (nI y2) rfl (oF 2 0 rfl ⟨_, rfl⟩ (oL1 1 (dL c25_d a0.2) rfl (oN (dL c25_d a0.2) rfl (oB (nI y2) (nI (List.length a0.2 : Int)) rfl rfl (oM (.bool (decide (y2 < (List.length a0.2 : Int)))) rfl (?_)))))))
    rcases cond_some h with ⟨g19, h⟩ | ⟨g19, h⟩
    ·refine oGR g19 rfl (oF 2 0 rfl ⟨_, rfl⟩ (oGR g19 rfl (oL1 1 (dL c25_d a0.2) rfl (oGR g19 rfl (oM (nI y2) rfl (?_))))))
     obtain ⟨e20, g21, h⟩ := ob_some h
     refine oGR g19 rfl (ev_ia rfl rfl rfl ⟨(geti_some g21).1, (geti_some g21).2.1⟩ (oGR g19 rfl (oLE y2 1 0 (dL ci64 e20) zc25_d g21 rfl (oGR g19 rfl (oM (dL ci64 a1) rfl (oGR g19 rfl (oN (dL ci64 a1) rfl (?_))))))))
     obtain ⟨g22, h⟩ := chk_some h
     refine oGR g19 rfl (ev_sle (lst := e20) rfl rfl zci64 rfl rfl g22 (oGR g19 rfl (oM (dL ci64 a1) rfl (?_))))
     obtain ⟨v23, g24, h⟩ := ob_some h
     refine oGR g19 rfl (ev_call (era rfl (erD eci64 _) (era rfl (erD eci64 _) eran)) (spec_CompareRows_s g24) (oGR g19 rfl (oB (nI v23) (nI 0) rfl rfl (oPT (.bool (v23 == 0)) g19 rfl (en [(1, dL ci64 a1), (2, .box [nI a0.1, dL c25_d a0.2]), (6, nI z7), (7, nI y2), (56, .bool (v23 == 0))] rfl rfl ?_)))))
     rcases cond_some h with ⟨g25, h⟩ | ⟨g25, h⟩
     ·exact ls_cT rfl g25 (ls_skip (hK18 _ (kp [(1, dL ci64 a1), (2, .box [nI a0.1, dL c25_d a0.2]), (6, nI z7), (7, nI y2)] rfl rfl (ls_blk (ls_rgn tbOk (oM (nI y2) rfl (oB (nI y2) (nI 1) rfl rfl (oA (nI (IntKind.i64.wrap (y2 + 1))) rfl (evn (hN _ (IntKind.i64.wrap (y2 + 1)) h (okr rfl)))))))))))
     ·exact ls_cF rfl g25 (ls_exit (kXspec_TriePrefixRange_B2 y2 (by cases h; exact hr2) _ (okr rfl)))
    ·exact oGF g19 rfl (oGF g19 rfl (oGF g19 rfl (oGF g19 rfl (oGF g19 rfl (oGF g19 rfl (oGF g19 rfl (oGF g19 rfl (oGF g19 rfl (oGF g19 rfl (oGF g19 rfl (oPF (.bool false) g19 rfl (en [(1, dL ci64 a1), (2, .box [nI a0.1, dL c25_d a0.2]), (6, nI z7), (7, nI y2), (56, .bool false)] rfl rfl (ls_cF rfl rfl (ls_exit (kXspec_TriePrefixRange_B2 y2 (by cases h; exact hr2) _ (okr rfl))))))))))))))))
   refine ls_rec (fun (y1 : Int) => [(1, dL ci64 a1), (2, .box [nI a0.1, dL c25_d a0.2]), (6, nI y1)]) (spec_TriePrefixRange_B1 a0 a1) fz 0 o1 hl (okr rfl) (fun _ => rfl) ?_
   rintro m y1 N h hN
   unfold spec_TriePrefixRange_B1 at h
   refine ls_seq_k fun K8 hK8 => ls_rs tbOk (oM (nI y1) rfl (oF 2 0 rfl ⟨_, rfl⟩ (oL1 1 (dL c25_d a0.2) rfl (oN (dL c25_d a0.2) rfl (oB (nI y1) (nI (List.length a0.2 : Int)) rfl rfl (oM (.bool (decide (y1 < (List.length a0.2 : Int)))) rfl (?_)))))))
   rcases cond_some h with ⟨g9, h⟩ | ⟨g9, h⟩
   ·refine oGR g9 rfl (oF 2 0 rfl ⟨_, rfl⟩ (oGR g9 rfl (oL1 1 (dL c25_d a0.2) rfl (oGR g9 rfl (oM (nI y1) rfl (?_))))))
    obtain ⟨e10, g11, h⟩ := ob_some h
    refine oGR g9 rfl (ev_ia rfl rfl rfl ⟨(geti_some g11).1, (geti_some g11).2.1⟩ (oGR g9 rfl (oLE y1 1 0 (dL ci64 e10) zc25_d g11 rfl (oGR g9 rfl (oM (dL ci64 a1) rfl (oGR g9 rfl (oN (dL ci64 a1) rfl (?_))))))))
    obtain ⟨g12, h⟩ := chk_some h
    refine oGR g9 rfl (ev_sle (lst := e10) rfl rfl zci64 rfl rfl g12 (oGR g9 rfl (oM (dL ci64 a1) rfl (?_))))
    obtain ⟨v13, g14, h⟩ := ob_some h
    refine oGR g9 rfl (ev_call (era rfl (erD eci64 _) (era rfl (erD eci64 _) eran)) (spec_CompareRows_s g14) (oGR g9 rfl (oB (nI v13) (nI 0) rfl rfl (oPT (.bool (decide (v13 < 0))) g9 rfl (en [(1, dL ci64 a1), (2, .box [nI a0.1, dL c25_d a0.2]), (6, nI y1), (35, .bool (decide (v13 < 0)))] rfl rfl ?_)))))
    rcases cond_some h with ⟨g15, h⟩ | ⟨g15, h⟩
    ·exact ls_cT rfl g15 (ls_skip (hK8 _ (kp [(1, dL ci64 a1), (2, .box [nI a0.1, dL c25_d a0.2]), (6, nI y1)] rfl rfl (ls_blk (ls_rgn tbOk (oM (nI y1) rfl (oB (nI y1) (nI 1) rfl rfl (oA (nI (IntKind.i64.wrap (y1 + 1))) rfl (evn (hN _ (IntKind.i64.wrap (y1 + 1)) h (okr rfl)))))))))))
    ·exact ls_cF rfl g15 (ls_exit (kXspec_TriePrefixRange_B1 y1 (by cases h; exact hr1) _ (okr rfl)))
   ·exact oGF g9 rfl (oGF g9 rfl (oGF g9 rfl (oGF g9 rfl (oGF g9 rfl (oGF g9 rfl (oGF g9 rfl (oGF g9 rfl (oGF g9 rfl (oGF g9 rfl (oGF g9 rfl (oPF (.bool false) g9 rfl (en [(1, dL ci64 a1), (2, .box [nI a0.1, dL c25_d a0.2]), (6, nI y1), (35, .bool false)] rfl rfl (ls_cF rfl rfl (ls_exit (kXspec_TriePrefixRange_B1 y1 (by cases h; exact hr1) _ (okr rfl))))))))))))))))
end Go.Proofs.Ytkcfahfladikkaa
