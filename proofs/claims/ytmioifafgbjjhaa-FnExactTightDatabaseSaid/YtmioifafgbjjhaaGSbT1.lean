/-
  Functions of the program as typed functions, printed by gen.py, and that the program's functions do what they say. No conditions.
-/
import Derived.Test.YtmioifafgbjjhaaGST1
namespace Go.Proofs.Ytmioifafgbjjhaa
open Go.RowKit
set_option linter.unusedVariables false
set_option maxRecDepth 100000
set_option maxHeartbeats 1000000
def laws_eqIntS_B1 (a0 : List Int) (a1 : List Int) (rec : Int → Option (Sum (Unit) (Bool))) (y1 : Int) : Option (Sum (Unit) (Bool)) := cond (decide (y1 < (List.length a0 : Int))) (obind (geti a0 y1) fun e7 => obind (geti a1 y1) fun e9 => cond (e7 != e9) (some (.inr false)) (rec (IntKind.i64.wrap (y1 + 1)))) (some (.inl ()))
def laws_eqIntS (a0 : List Int) (a1 : List Int) : Option (Bool) := cond ((List.length a0 : Int) != (List.length a1 : Int)) (some false) (obind (loopF (laws_eqIntS_B1 a0 a1) fz 0) fun o1 => (match o1 with
  | .inl _ => (some true)
  | .inr r => some r))
theorem laws_eqIntS_s {a0 : List Int} {a1 : List Int} {r : Bool} (h : laws_eqIntS a0 a1 = some r) : SoundAt Try.prog 37 [dL ci64 a0, dL ci64 a1] (.bool r) := by
 unfold laws_eqIntS at h
 refine st lit37 rfl (rn 1 rfl (ls_seq_k fun K1 hK1 => rn 1 rfl ?_))
 rcases cond_some h with ⟨g2, h⟩ | ⟨g2, h⟩
 ·exact qT rfl g2 (rn 1 rfl (ls_ret ((by cases h; exact ⟨.inl rfl, rfl⟩))))
 ·refine qF rfl g2 (ls_skip (hK1 _ (ls_seq_k fun K3 hK3 => rn 1 rfl ?_)))
  obtain ⟨o1, hl, hr1⟩ := ob_some h
  have kXB1 : (.inl ()) = o1 → Jn K3 [] := by
   intro h σ' hk
   subst h
   replace h := hr1
   try dsimp only at h
   exact hK3 _ (lh hk rfl (rn 1 rfl (ls_ret ((by cases h; exact ⟨.inl rfl, rfl⟩)))))
  refine ls_rec (fun (y1 : Int) => [(0, dL ci64 a0), (1, dL ci64 a1), (5, nI y1)]) _ _ _ _ hl (okr rfl) (fun _ => rfl) ?_
  rintro m y1 N h hN
  unfold laws_eqIntS_B1 at h
  refine ls_seq_k fun K4 hK4 => rn 1 rfl ?_
  rcases cond_some h with ⟨g5, h⟩ | ⟨g5, h⟩
  ·refine qT rfl g5 (ls_skip (hK4 _ (ls_seq_k fun K6 hK6 => ls_blk (rd (by kernel_rfl) (sd 2 rfl (?_))))))
   obtain ⟨e7, g8, h⟩ := ob_some h
   refine ed rfl (qI rfl zci64 g8 (sd 3 rfl (?_)))
   obtain ⟨e9, g10, h⟩ := ob_some h
   refine ed rfl (qI rfl zci64 g10 (sd 2 rfl (evdn ?_)))
   rcases cond_some h with ⟨g11, h⟩ | ⟨g11, h⟩
   ·exact qT rfl g11 (rn 1 rfl (ls_ret ((by cases h; cases hr1; exact ⟨.inl rfl, rfl⟩))))
   ·exact qF rfl g11 (ls_skip (hK6 _ (rg (sp 3 rfl (evn (hN _ _ h (okr rfl)))))))
  ·exact qF rfl g5 (ls_exit (kXB1 (Option.some.inj h) _ trivial))
def laws_eqIntSS_B1 (a0 : List (List Int)) (a1 : List (List Int)) (rec : Int → Option (Sum (Unit) (Bool))) (y1 : Int) : Option (Sum (Unit) (Bool)) := cond (decide (y1 < (List.length a0 : Int))) (obind (geti a0 y1) fun e7 => obind (geti a1 y1) fun e9 => obind (laws_eqIntS e7 e9) fun v11 => cond (!v11) (some (.inr false)) (rec (IntKind.i64.wrap (y1 + 1)))) (some (.inl ()))
def laws_eqIntSS (a0 : List (List Int)) (a1 : List (List Int)) : Option (Bool) := cond ((List.length a0 : Int) != (List.length a1 : Int)) (some false) (obind (loopF (laws_eqIntSS_B1 a0 a1) fz 0) fun o1 => (match o1 with
  | .inl _ => (some true)
  | .inr r => some r))
theorem laws_eqIntSS_s {a0 : List (List Int)} {a1 : List (List Int)} {r : Bool} (h : laws_eqIntSS a0 a1 = some r) : SoundAt Try.prog 198 [dL c31_d a0, dL c31_d a1] (.bool r) := by
 unfold laws_eqIntSS at h
 refine st lit198 rfl (rn 1 rfl (ls_seq_k fun K1 hK1 => rn 1 rfl ?_))
 rcases cond_some h with ⟨g2, h⟩ | ⟨g2, h⟩
 ·exact qT rfl g2 (rn 1 rfl (ls_ret ((by cases h; exact ⟨.inl rfl, rfl⟩))))
 ·refine qF rfl g2 (ls_skip (hK1 _ (ls_seq_k fun K3 hK3 => rn 1 rfl ?_)))
  obtain ⟨o1, hl, hr1⟩ := ob_some h
  have kXB1 : (.inl ()) = o1 → Jn K3 [] := by
   intro h σ' hk
   subst h
   replace h := hr1
   try dsimp only at h
   exact hK3 _ (lh hk rfl (rn 1 rfl (ls_ret ((by cases h; exact ⟨.inl rfl, rfl⟩)))))
  refine ls_rec (fun (y1 : Int) => [(0, dL c31_d a0), (1, dL c31_d a1), (5, nI y1)]) _ _ _ _ hl (okr rfl) (fun _ => rfl) ?_
  rintro m y1 N h hN
  unfold laws_eqIntSS_B1 at h
  refine ls_seq_k fun K4 hK4 => rn 1 rfl ?_
  rcases cond_some h with ⟨g5, h⟩ | ⟨g5, h⟩
  ·refine qT rfl g5 (ls_skip (hK4 _ (ls_seq_k fun K6 hK6 => ls_blk (rd (by kernel_rfl) (sd 2 rfl (?_))))))
   obtain ⟨e7, g8, h⟩ := ob_some h
   refine ed rfl (qI rfl zc31_d g8 (sd 3 rfl (?_)))
   obtain ⟨e9, g10, h⟩ := ob_some h
   refine ed rfl (qI rfl zc31_d g10 (sd 1 rfl (?_)))
   obtain ⟨v11, g12, h⟩ := ob_some h
   refine ed rfl (qC (qa rfl (erD eci64 _) (qa rfl (erD eci64 _) eran)) (laws_eqIntS_s g12) (sd 1 rfl (evdn ?_)))
   rcases cond_some h with ⟨g13, h⟩ | ⟨g13, h⟩
   ·exact qT rfl g13 (rn 1 rfl (ls_ret ((by cases h; cases hr1; exact ⟨.inl rfl, rfl⟩))))
   ·exact qF rfl g13 (ls_skip (hK6 _ (rg (sp 3 rfl (evn (hN _ _ h (okr rfl)))))))
  ·exact qF rfl g5 (ls_exit (kXB1 (Option.some.inj h) _ trivial))
def laws_eqRelation (a0 : Y25) (a1 : Y25) : Option (Bool) := cond (a0.1 != a1.1) (some false) (obind (laws_eqIntSS a0.2 a1.2) fun v4 => cond (!v4) (some false) (some true))
theorem laws_eqRelation_s {a0 : Y25} {a1 : Y25} {r : Bool} (h : laws_eqRelation a0 a1 = some r) : SoundAt Try.prog 136 [.agg (c26_dd a0), .agg (c26_dd a1)] (.bool r) := by
 unfold laws_eqRelation at h
 refine st lit136 rfl (rn 1 rfl (ls_seq_k fun K1 hK1 => rn 1 rfl ?_))
 rcases cond_some h with ⟨g2, h⟩ | ⟨g2, h⟩
 ·exact qT rfl g2 (rn 1 rfl (ls_ret ((by cases h; exact ⟨.inl rfl, rfl⟩))))
 ·refine qF rfl g2 (ls_skip (hK1 _ (ls_seq_k fun K3 hK3 => rs (sp 4 rfl (?_)))))
  obtain ⟨v4, g5, h⟩ := ob_some h
  refine qC (qa rfl (erD ec31_d _) (qa rfl (erD ec31_d _) eran)) (laws_eqIntSS_s g5) (sp 1 rfl (evn ?_))
  rcases cond_some h with ⟨g6, h⟩ | ⟨g6, h⟩
  ·exact qT rfl g6 (rn 1 rfl (ls_ret ((by cases h; exact ⟨.inl rfl, rfl⟩))))
  ·exact qF rfl g6 (ls_skip (hK3 _ (rn 1 rfl (qk [4] rfl (ls_ret ((by cases h; exact ⟨.inl rfl, rfl⟩)))))))
def laws_eqTable (a0 : Y106) (a1 : Y106) : Option (Bool) := cond (!(a0.1 == a1.1)) (some false) (obind (laws_eqRelation a0.2 a1.2) fun v4 => cond (!v4) (some false) (some true))
theorem laws_eqTable_s {a0 : Y106} {a1 : Y106} {r : Bool} (h : laws_eqTable a0 a1 = some r) : SoundAt Try.prog 181 [.agg (c107_dd a0), .agg (c107_dd a1)] (.bool r) := by
 unfold laws_eqTable at h
 refine st lit181 rfl (rn 1 rfl (ls_seq_k fun K1 hK1 => rn 1 rfl ?_))
 rcases cond_some h with ⟨g2, h⟩ | ⟨g2, h⟩
 ·exact qT rfl g2 (rn 1 rfl (ls_ret ((by cases h; exact ⟨.inl rfl, rfl⟩))))
 ·refine qF rfl g2 (ls_skip (hK1 _ (ls_seq_k fun K3 hK3 => rs (sp 4 rfl (?_)))))
  obtain ⟨v4, g5, h⟩ := ob_some h
  refine qC (qa rfl (erg (erc rfl (erc (erD ec31_d _) rfl))) (qa rfl (erg (erc rfl (erc (erD ec31_d _) rfl))) eran)) (laws_eqRelation_s g5) (sp 1 rfl (evn ?_))
  rcases cond_some h with ⟨g6, h⟩ | ⟨g6, h⟩
  ·exact qT rfl g6 (rn 1 rfl (ls_ret ((by cases h; exact ⟨.inl rfl, rfl⟩))))
  ·exact qF rfl g6 (ls_skip (hK3 _ (rn 1 rfl (qk [4] rfl (ls_ret ((by cases h; exact ⟨.inl rfl, rfl⟩)))))))
def laws_eqTableS_B1 (a0 : List Y106) (a1 : List Y106) (rec : Int → Option (Sum (Unit) (Bool))) (y1 : Int) : Option (Sum (Unit) (Bool)) := cond (decide (y1 < (List.length a0 : Int))) (obind (geti a0 y1) fun e7 => obind (geti a1 y1) fun e9 => obind (laws_eqTable e7 e9) fun v11 => cond (!v11) (some (.inr false)) (rec (IntKind.i64.wrap (y1 + 1)))) (some (.inl ()))
def laws_eqTableS (a0 : List Y106) (a1 : List Y106) : Option (Bool) := cond ((List.length a0 : Int) != (List.length a1 : Int)) (some false) (obind (loopF (laws_eqTableS_B1 a0 a1) fz 0) fun o1 => (match o1 with
  | .inl _ => (some true)
  | .inr r => some r))
theorem laws_eqTableS_s {a0 : List Y106} {a1 : List Y106} {r : Bool} (h : laws_eqTableS a0 a1 = some r) : SoundAt Try.prog 110 [dL c107_dd a0, dL c107_dd a1] (.bool r) := by
 unfold laws_eqTableS at h
 refine st lit110 rfl (rn 1 rfl (ls_seq_k fun K1 hK1 => rn 1 rfl ?_))
 rcases cond_some h with ⟨g2, h⟩ | ⟨g2, h⟩
 ·exact qT rfl g2 (rn 1 rfl (ls_ret ((by cases h; exact ⟨.inl rfl, rfl⟩))))
 ·refine qF rfl g2 (ls_skip (hK1 _ (ls_seq_k fun K3 hK3 => rn 1 rfl ?_)))
  obtain ⟨o1, hl, hr1⟩ := ob_some h
  have kXB1 : (.inl ()) = o1 → Jn K3 [] := by
   intro h σ' hk
   subst h
   replace h := hr1
   try dsimp only at h
   exact hK3 _ (lh hk rfl (rn 1 rfl (ls_ret ((by cases h; exact ⟨.inl rfl, rfl⟩)))))
  refine ls_rec (fun (y1 : Int) => [(0, dL c107_dd a0), (1, dL c107_dd a1), (5, nI y1)]) _ _ _ _ hl (okr rfl) (fun _ => rfl) ?_
  rintro m y1 N h hN
  unfold laws_eqTableS_B1 at h
  refine ls_seq_k fun K4 hK4 => rn 1 rfl ?_
  rcases cond_some h with ⟨g5, h⟩ | ⟨g5, h⟩
  ·refine qT rfl g5 (ls_skip (hK4 _ (ls_seq_k fun K6 hK6 => ls_blk (rd (by kernel_rfl) (sd 2 rfl (?_))))))
   obtain ⟨e7, g8, h⟩ := ob_some h
   refine ed rfl (qI rfl zc107_dd g8 (sd 3 rfl (?_)))
   obtain ⟨e9, g10, h⟩ := ob_some h
   refine ed rfl (qI rfl zc107_dd g10 (sd 1 rfl (?_)))
   obtain ⟨v11, g12, h⟩ := ob_some h
   refine ed rfl (qC (qa rfl (erg (erc rfl (erc rfl (erc (erD ec31_d _) rfl)))) (qa rfl (erg (erc rfl (erc rfl (erc (erD ec31_d _) rfl)))) eran)) (laws_eqTable_s g12) (sd 1 rfl (evdn ?_)))
   rcases cond_some h with ⟨g13, h⟩ | ⟨g13, h⟩
   ·exact qT rfl g13 (rn 1 rfl (ls_ret ((by cases h; cases hr1; exact ⟨.inl rfl, rfl⟩))))
   ·exact qF rfl g13 (ls_skip (hK6 _ (rg (sp 3 rfl (evn (hN _ _ h (okr rfl)))))))
  ·exact qF rfl g5 (ls_exit (kXB1 (Option.some.inj h) _ trivial))
def laws_eqDatabase (a0 : List Y106) (a1 : List Y106) : Option (Bool) := obind (laws_eqTableS a0 a1) fun v2 => cond (!v2) (some false) (some true)
theorem laws_eqDatabase_s {a0 : List Y106} {a1 : List Y106} {r : Bool} (h : laws_eqDatabase a0 a1 = some r) : SoundAt Try.prog 35 [.agg [dL c107_dd a0], .agg [dL c107_dd a1]] (.bool r) := by
 unfold laws_eqDatabase at h
 refine st lit35 rfl (rn 1 rfl (ls_seq_k fun K1 hK1 => rs (sp 4 rfl (?_))))
 obtain ⟨v2, g3, h⟩ := ob_some h
 refine qC (qa rfl (erD ec107_dd _) (qa rfl (erD ec107_dd _) eran)) (laws_eqTableS_s g3) (sp 1 rfl (evn ?_))
 rcases cond_some h with ⟨g4, h⟩ | ⟨g4, h⟩
 ·exact qT rfl g4 (rn 1 rfl (ls_ret ((by cases h; exact ⟨.inl rfl, rfl⟩))))
 ·exact qF rfl g4 (ls_skip (hK1 _ (rn 1 rfl (ls_ret ((by cases h; exact ⟨.inl rfl, rfl⟩))))))
def laws_eqAtom (a0 : Y141) (a1 : Y141) : Option (Bool) := cond (!(a0.1 == a1.1)) (some false) (obind (laws_eqIntS a0.2 a1.2) fun v4 => cond (!v4) (some false) (some true))
theorem laws_eqAtom_s {a0 : Y141} {a1 : Y141} {r : Bool} (h : laws_eqAtom a0 a1 = some r) : SoundAt Try.prog 182 [.agg (c142_d a0), .agg (c142_d a1)] (.bool r) := by
 unfold laws_eqAtom at h
 refine st lit182 rfl (rn 1 rfl (ls_seq_k fun K1 hK1 => rn 1 rfl ?_))
 rcases cond_some h with ⟨g2, h⟩ | ⟨g2, h⟩
 ·exact qT rfl g2 (rn 1 rfl (ls_ret ((by cases h; exact ⟨.inl rfl, rfl⟩))))
 ·refine qF rfl g2 (ls_skip (hK1 _ (ls_seq_k fun K3 hK3 => rs (sp 4 rfl (?_)))))
  obtain ⟨v4, g5, h⟩ := ob_some h
  refine qC (qa rfl (erD eci64 _) (qa rfl (erD eci64 _) eran)) (laws_eqIntS_s g5) (sp 1 rfl (evn ?_))
  rcases cond_some h with ⟨g6, h⟩ | ⟨g6, h⟩
  ·exact qT rfl g6 (rn 1 rfl (ls_ret ((by cases h; exact ⟨.inl rfl, rfl⟩))))
  ·exact qF rfl g6 (ls_skip (hK3 _ (rn 1 rfl (qk [4] rfl (ls_ret ((by cases h; exact ⟨.inl rfl, rfl⟩)))))))
def laws_eqAtomS_B1 (a0 : List Y141) (a1 : List Y141) (rec : Int → Option (Sum (Unit) (Bool))) (y1 : Int) : Option (Sum (Unit) (Bool)) := cond (decide (y1 < (List.length a0 : Int))) (obind (geti a0 y1) fun e7 => obind (geti a1 y1) fun e9 => obind (laws_eqAtom e7 e9) fun v11 => cond (!v11) (some (.inr false)) (rec (IntKind.i64.wrap (y1 + 1)))) (some (.inl ()))
def laws_eqAtomS (a0 : List Y141) (a1 : List Y141) : Option (Bool) := cond ((List.length a0 : Int) != (List.length a1 : Int)) (some false) (obind (loopF (laws_eqAtomS_B1 a0 a1) fz 0) fun o1 => (match o1 with
  | .inl _ => (some true)
  | .inr r => some r))
theorem laws_eqAtomS_s {a0 : List Y141} {a1 : List Y141} {r : Bool} (h : laws_eqAtomS a0 a1 = some r) : SoundAt Try.prog 111 [dL c142_d a0, dL c142_d a1] (.bool r) := by
 unfold laws_eqAtomS at h
 refine st lit111 rfl (rn 1 rfl (ls_seq_k fun K1 hK1 => rn 1 rfl ?_))
 rcases cond_some h with ⟨g2, h⟩ | ⟨g2, h⟩
 ·exact qT rfl g2 (rn 1 rfl (ls_ret ((by cases h; exact ⟨.inl rfl, rfl⟩))))
 ·refine qF rfl g2 (ls_skip (hK1 _ (ls_seq_k fun K3 hK3 => rn 1 rfl ?_)))
  obtain ⟨o1, hl, hr1⟩ := ob_some h
  have kXB1 : (.inl ()) = o1 → Jn K3 [] := by
   intro h σ' hk
   subst h
   replace h := hr1
   try dsimp only at h
   exact hK3 _ (lh hk rfl (rn 1 rfl (ls_ret ((by cases h; exact ⟨.inl rfl, rfl⟩)))))
  refine ls_rec (fun (y1 : Int) => [(0, dL c142_d a0), (1, dL c142_d a1), (5, nI y1)]) _ _ _ _ hl (okr rfl) (fun _ => rfl) ?_
  rintro m y1 N h hN
  unfold laws_eqAtomS_B1 at h
  refine ls_seq_k fun K4 hK4 => rn 1 rfl ?_
  rcases cond_some h with ⟨g5, h⟩ | ⟨g5, h⟩
  ·refine qT rfl g5 (ls_skip (hK4 _ (ls_seq_k fun K6 hK6 => ls_blk (rd (by kernel_rfl) (sd 2 rfl (?_))))))
   obtain ⟨e7, g8, h⟩ := ob_some h
   refine ed rfl (qI rfl zc142_d g8 (sd 3 rfl (?_)))
   obtain ⟨e9, g10, h⟩ := ob_some h
   refine ed rfl (qI rfl zc142_d g10 (sd 1 rfl (?_)))
   obtain ⟨v11, g12, h⟩ := ob_some h
   refine ed rfl (qC (qa rfl (erg (erc rfl (erc (erD eci64 _) rfl))) (qa rfl (erg (erc rfl (erc (erD eci64 _) rfl))) eran)) (laws_eqAtom_s g12) (sd 1 rfl (evdn ?_)))
   rcases cond_some h with ⟨g13, h⟩ | ⟨g13, h⟩
   ·exact qT rfl g13 (rn 1 rfl (ls_ret ((by cases h; cases hr1; exact ⟨.inl rfl, rfl⟩))))
   ·exact qF rfl g13 (ls_skip (hK6 _ (rg (sp 3 rfl (evn (hN _ _ h (okr rfl)))))))
  ·exact qF rfl g5 (ls_exit (kXB1 (Option.some.inj h) _ trivial))
def laws_eqQuery (a0 : Y58) (a1 : Y58) : Option (Bool) := cond (a0.1 != a1.1) (some false) (obind (laws_eqAtomS a0.2.1 a1.2.1) fun v4 => cond (!v4) (some false) (obind (laws_eqIntS a0.2.2 a1.2.2) fun v8 => cond (!v8) (some false) (some true)))
theorem laws_eqQuery_s {a0 : Y58} {a1 : Y58} {r : Bool} (h : laws_eqQuery a0 a1 = some r) : SoundAt Try.prog 36 [.agg (c59_ddd a0), .agg (c59_ddd a1)] (.bool r) := by
 unfold laws_eqQuery at h
 refine st lit36 rfl (rn 1 rfl (ls_seq_k fun K1 hK1 => rn 1 rfl ?_))
 rcases cond_some h with ⟨g2, h⟩ | ⟨g2, h⟩
 ·exact qT rfl g2 (rn 1 rfl (ls_ret ((by cases h; exact ⟨.inl rfl, rfl⟩))))
 ·refine qF rfl g2 (ls_skip (hK1 _ (ls_seq_k fun K3 hK3 => rs (sp 4 rfl (?_)))))
  obtain ⟨v4, g5, h⟩ := ob_some h
  refine qC (qa rfl (erD ec142_d _) (qa rfl (erD ec142_d _) eran)) (laws_eqAtomS_s g5) (sp 1 rfl (evn ?_))
  rcases cond_some h with ⟨g6, h⟩ | ⟨g6, h⟩
  ·exact qT rfl g6 (rn 1 rfl (ls_ret ((by cases h; exact ⟨.inl rfl, rfl⟩))))
  ·refine qF rfl g6 (ls_skip (hK3 _ (ls_seq_k fun K7 hK7 => rs (sp 4 rfl (?_)))))
   obtain ⟨v8, g9, h⟩ := ob_some h
   refine qC (qa rfl (erD eci64 _) (qa rfl (erD eci64 _) eran)) (laws_eqIntS_s g9) (sp 1 rfl (evn (qk [21] rfl ?_)))
   rcases cond_some h with ⟨g10, h⟩ | ⟨g10, h⟩
   ·exact qT rfl g10 (rn 1 rfl (ls_ret ((by cases h; exact ⟨.inl rfl, rfl⟩))))
   ·exact qF rfl g10 (ls_skip (hK7 _ (rn 1 rfl (ls_ret ((by cases h; exact ⟨.inl rfl, rfl⟩))))))
def laws_heldIntS_B1 (a0 : List Int) (rec : (Int × Int) → Option (Sum (Int) (Int))) (s : Int × Int) : Option (Sum (Int) (Int)) := match s with
  | (y1, y2) => cond (decide (y2 < (List.length a0 : Int))) (obind (geti a0 y2) fun e7 => cond (e7 != y1) (some (.inr (-1))) (rec ((IntKind.i64.wrap (y1 + 1)), (IntKind.i64.wrap (y2 + 1))))) (some (.inl y1))
def laws_heldIntS (a0 : List Int) (a1 : Int) : Option (Int) := obind (loopF (laws_heldIntS_B1 a0) fz (a1, 0)) fun o1 => (match o1 with
  | .inl z2 => (some z2)
  | .inr r => some r)
theorem laws_heldIntS_s {a0 : List Int} {a1 : Int} {r : Int} (h : laws_heldIntS a0 a1 = some r) : SoundAt Try.prog 224 [dL ci64 a0, nI a1] (nI r) := by
 unfold laws_heldIntS at h
 refine st lit224 rfl (rn 1 rfl (ls_seq_k fun K1 hK1 => rn 1 rfl ?_))
 obtain ⟨o1, hl, hr1⟩ := ob_some h
 have kXB1 : ∀ {z2 : Int}, (.inl z2) = o1 → Jn K1 [(1, nI z2)] := by
  intro z2 h σ' hk
  subst h
  replace h := hr1
  try dsimp only at h
  exact hK1 _ (lh hk rfl (rn 1 rfl (ls_ret ((by cases h; exact ⟨.inl rfl, rfl⟩)))))
 refine ls_rec (fun (s : Int × Int) => match s with | (y1, y2) => [(0, dL ci64 a0), (1, nI y1), (5, nI y2)]) _ _ _ _ hl (okr rfl) (fun _ => rfl) ?_
 rintro m ⟨y1, y2⟩ N h hN
 unfold laws_heldIntS_B1 at h
 dsimp only at h
 refine ls_seq_k fun K3 hK3 => rn 1 rfl ?_
 rcases cond_some h with ⟨g4, h⟩ | ⟨g4, h⟩
 ·refine qT rfl g4 (ls_skip (hK3 _ (ls_seq_k fun K5 hK5 => ls_blk (ls_seq_k fun K6 hK6 => rs (sp 2 rfl (?_))))))
  obtain ⟨e7, g8, h⟩ := ob_some h
  refine qI rfl zci64 g8 (sp 3 rfl (evn ?_))
  rcases cond_some h with ⟨g9, h⟩ | ⟨g9, h⟩
  ·exact qT rfl g9 (rn 1 rfl (ls_ret ((by cases h; cases hr1; exact ⟨.inl rfl, rfl⟩))))
  ·exact qF rfl g9 (ls_skip (hK6 _ (rg (sp 3 rfl (evn (hK5 _ (rg (sp 3 rfl (evn (hN _ _ h (okr rfl)))))))))))
 ·exact qF rfl g4 (ls_exit (kXB1 (Option.some.inj h) _ (okr rfl)))
def laws_heldIntSS_B1 (a0 : List (List Int)) (rec : (Int × Int) → Option (Sum (Int) (Int))) (s : Int × Int) : Option (Sum (Int) (Int)) := match s with
  | (y1, y2) => cond (decide (y2 < (List.length a0 : Int))) (obind (geti a0 y2) fun e6 => obind (laws_heldIntS e6 y1) fun v8 => cond (decide (v8 < 0)) (some (.inr (-1))) (rec (v8, (IntKind.i64.wrap (y2 + 1))))) (some (.inl y1))
def laws_heldIntSS (a0 : List (List Int)) (a1 : Int) : Option (Int) := obind (loopF (laws_heldIntSS_B1 a0) fz (a1, 0)) fun o1 => (match o1 with
  | .inl z2 => (some z2)
  | .inr r => some r)
theorem laws_heldIntSS_s {a0 : List (List Int)} {a1 : Int} {r : Int} (h : laws_heldIntSS a0 a1 = some r) : SoundAt Try.prog 185 [dL c31_d a0, nI a1] (nI r) := by
 unfold laws_heldIntSS at h
 refine st lit185 rfl (rn 1 rfl (ls_seq_k fun K1 hK1 => rn 1 rfl ?_))
 obtain ⟨o1, hl, hr1⟩ := ob_some h
 have kXB1 : ∀ {z2 : Int}, (.inl z2) = o1 → Jn K1 [(1, nI z2)] := by
  intro z2 h σ' hk
  subst h
  replace h := hr1
  try dsimp only at h
  exact hK1 _ (lh hk rfl (rn 1 rfl (ls_ret ((by cases h; exact ⟨.inl rfl, rfl⟩)))))
 refine ls_rec (fun (s : Int × Int) => match s with | (y1, y2) => [(0, dL c31_d a0), (1, nI y1), (5, nI y2)]) _ _ _ _ hl (okr rfl) (fun _ => rfl) ?_
 rintro m ⟨y1, y2⟩ N h hN
 unfold laws_heldIntSS_B1 at h
 dsimp only at h
 refine ls_seq_k fun K3 hK3 => rn 1 rfl ?_
 rcases cond_some h with ⟨g4, h⟩ | ⟨g4, h⟩
 ·refine qT rfl g4 (ls_skip (hK3 _ (ls_seq_k fun K5 hK5 => ls_blk (rs (sp 2 rfl (?_))))))
  obtain ⟨e6, g7, h⟩ := ob_some h
  refine qI rfl zc31_d g7 (sp 2 rfl (?_))
  obtain ⟨v8, g9, h⟩ := ob_some h
  refine qC (qa rfl (erD eci64 _) (qs rfl eran)) (laws_heldIntS_s g9) (sp 1 rfl (evn (rn 1 rfl ?_)))
  rcases cond_some h with ⟨g10, h⟩ | ⟨g10, h⟩
  ·exact qT rfl g10 (rn 1 rfl (ls_ret ((by cases h; cases hr1; exact ⟨.inl rfl, rfl⟩))))
  ·exact qF rfl g10 (ls_skip (hK5 _ (rg (sp 3 rfl (evn (hN _ _ h (okr rfl)))))))
 ·exact qF rfl g4 (ls_exit (kXB1 (Option.some.inj h) _ (okr rfl)))
def laws_heldTableS_B1 (a0 : List Y106) (rec : (Int × Int) → Option (Sum (Int) (Int))) (s : Int × Int) : Option (Sum (Int) (Int)) := match s with
  | (y1, y2) => cond (decide (y2 < (List.length a0 : Int))) (obind (geti a0 y2) fun e7 => obind (laws_markText y1) fun v9 => cond (!(e7.1 == v9)) (some (.inr (-1))) (obind (geti a0 y2) fun e13 => cond (e13.2.1 != (IntKind.i64.wrap (y1 + 1))) (some (.inr (-1))) (obind (geti a0 y2) fun e16 => obind (laws_heldIntSS e16.2.2 (IntKind.i64.wrap ((IntKind.i64.wrap (y1 + 1)) + 1))) fun v18 => cond (decide (v18 < 0)) (some (.inr (-1))) (rec (v18, (IntKind.i64.wrap (y2 + 1))))))) (some (.inl y1))
def laws_heldTableS (a0 : List Y106) (a1 : Int) : Option (Int) := obind (loopF (laws_heldTableS_B1 a0) fz (a1, 0)) fun o1 => (match o1 with
  | .inl z2 => (some z2)
  | .inr r => some r)
theorem laws_heldTableS_s {a0 : List Y106} {a1 : Int} {r : Int} (h : laws_heldTableS a0 a1 = some r) : SoundAt Try.prog 114 [dL c107_dd a0, nI a1] (nI r) := by
 unfold laws_heldTableS at h
 refine st lit114 rfl (rn 1 rfl (ls_seq_k fun K1 hK1 => rn 1 rfl ?_))
 obtain ⟨o1, hl, hr1⟩ := ob_some h
 have kXB1 : ∀ {z2 : Int}, (.inl z2) = o1 → Jn K1 [(1, nI z2)] := by
  intro z2 h σ' hk
  subst h
  replace h := hr1
  try dsimp only at h
  exact hK1 _ (lh hk rfl (rn 1 rfl (ls_ret ((by cases h; exact ⟨.inl rfl, rfl⟩)))))
 refine ls_rec (fun (s : Int × Int) => match s with | (y1, y2) => [(0, dL c107_dd a0), (1, nI y1), (5, nI y2)]) _ _ _ _ hl (okr rfl) (fun _ => rfl) ?_
 rintro m ⟨y1, y2⟩ N h hN
 unfold laws_heldTableS_B1 at h
 dsimp only at h
 refine ls_seq_k fun K3 hK3 => rn 1 rfl ?_
 rcases cond_some h with ⟨g4, h⟩ | ⟨g4, h⟩
 ·refine qT rfl g4 (ls_skip (hK3 _ (ls_seq_k fun K5 hK5 => ls_blk (ls_seq_k fun K6 hK6 => rd (by kernel_rfl) (sd 2 rfl (?_))))))
  obtain ⟨e7, g8, h⟩ := ob_some h
  refine ed rfl (qI rfl zc107_dd g8 (sd 3 rfl (?_)))
  obtain ⟨v9, g10, h⟩ := ob_some h
  refine ed rfl (qC (qs rfl eran) (laws_markText_s g10) (sd 1 rfl (evdn ?_)))
  rcases cond_some h with ⟨g11, h⟩ | ⟨g11, h⟩
  ·exact qT rfl g11 (rn 1 rfl (ls_ret ((by cases h; cases hr1; exact ⟨.inl rfl, rfl⟩))))
  ·refine qF rfl g11 (ls_skip (hK6 _ (rn 1 rfl (ls_seq_k fun K12 hK12 => rs (sp 2 rfl (?_))))))
   obtain ⟨e13, g14, h⟩ := ob_some h
   refine qI rfl zc107_dd g14 (sp 5 rfl (evn (qk [0, 1, 5, 29] rfl ?_)))
   rcases cond_some h with ⟨g15, h⟩ | ⟨g15, h⟩
   ·exact qT rfl g15 (rn 1 rfl (ls_ret ((by cases h; cases hr1; exact ⟨.inl rfl, rfl⟩))))
   ·refine qF rfl g15 (ls_skip (hK12 _ (rn 1 rfl (rs (sp 2 rfl (?_))))))
    obtain ⟨e16, g17, h⟩ := ob_some h
    refine qI rfl zc107_dd g17 (sp 4 rfl (?_))
    obtain ⟨v18, g19, h⟩ := ob_some h
    refine qC (qa rfl (erD ec31_d _) (qs rfl eran)) (laws_heldIntSS_s g19) (sp 1 rfl (evn (rn 1 rfl ?_)))
    rcases cond_some h with ⟨g20, h⟩ | ⟨g20, h⟩
    ·exact qT rfl g20 (rn 1 rfl (ls_ret ((by cases h; cases hr1; exact ⟨.inl rfl, rfl⟩))))
    ·exact qF rfl g20 (ls_skip (hK5 _ (qk [0, 1, 5] rfl (rg (sp 3 rfl (evn (hN _ _ h (okr rfl))))))))
 ·exact qF rfl g4 (ls_exit (kXB1 (Option.some.inj h) _ (okr rfl)))
def laws_heldDatabase (a0 : List Y106) (a1 : Int) : Option (Int) := obind (laws_heldTableS a0 a1) fun v1 => cond (decide (v1 < 0)) (some (-1)) (some v1)
theorem laws_heldDatabase_s {a0 : List Y106} {a1 : Int} {r : Int} (h : laws_heldDatabase a0 a1 = some r) : SoundAt Try.prog 41 [.agg [dL c107_dd a0], nI a1] (nI r) := by
 unfold laws_heldDatabase at h
 refine st lit41 rfl (rn 1 rfl (rs (sp 3 rfl (?_))))
 obtain ⟨v1, g2, h⟩ := ob_some h
 refine qC (qa rfl (erD ec107_dd _) (qs rfl eran)) (laws_heldTableS_s g2) (sp 1 rfl (evn (ls_seq_k fun K3 hK3 => rn 1 rfl ?_)))
 rcases cond_some h with ⟨g4, h⟩ | ⟨g4, h⟩
 ·exact qT rfl g4 (rn 1 rfl (ls_ret ((by cases h; exact ⟨.inl rfl, rfl⟩))))
 ·exact qF rfl g4 (ls_skip (hK3 _ (rn 1 rfl (ls_ret ((by cases h; exact ⟨.inl rfl, rfl⟩))))))
def laws_FnExactTightDatabase (a0 : Y52) (a1 : List Int) (a2 : Int) : Option (Bool) := cond (decide (1048576 < (List.length a1 : Int))) (some true) (obind (laws_szQuery a0 1048576) fun v3 => cond (decide (v3 < 0)) (some true) (obind (laws_toQuery a0) fun v7 => obind (laws_toIntS a1) fun v9 => obind (spec_TightDatabase v7 v9 a2) fun v11 => obind (laws_toQuery a0) fun v13 => obind (laws_toIntS a1) fun v15 => obind (impl_TightDatabase v13 v15 a2) fun v17 => obind (laws_eqDatabase v17.1 v11.1) fun v20 => cond (!v20) (some false) (cond (!(v17.2 == v11.2)) (some false) (obind (laws_toQuery a0) fun v25 => obind (laws_eqQuery v13 v25) fun v27 => cond (!v27) (some false) (obind (laws_toIntS a1) fun v31 => obind (laws_eqIntS v15 v31) fun v33 => cond (!v33) (some false) (obind (laws_markQuery v13 1) fun v36 => obind (laws_markIntS v15 v36.2) fun v38 => cond (decide (v38.2 < 0)) (some false) (obind (laws_eqDatabase v17.1 v11.1) fun v42 => cond (!v42) (some false) (cond (!(v17.2 == v11.2)) (some false) (obind (laws_markDatabase v17.1 1) fun v46 => obind (laws_heldDatabase v46.1 1) fun v48 => cond (decide (v48 < 0)) (some false) (cond (v48 != v46.2) (some false) (obind (laws_toQuery a0) fun v54 => obind (laws_toIntS a1) fun v56 => obind (impl_TightDatabase v54 v56 a2) fun v58 => obind (laws_eqDatabase v58.1 v11.1) fun v61 => cond (!v61) (some false) (cond (!(v58.2 == v11.2)) (some false) (obind (laws_heldDatabase v46.1 1) fun v65 => cond (decide (v65 < 0)) (some false) (cond (v65 != v46.2) (some false) (some true)))))))))))))))
theorem laws_FnExactTightDatabase_s {a0 : Y52} {a1 : List Int} {a2 : Int} {r : Bool} (h : laws_FnExactTightDatabase a0 a1 a2 = some r) : SoundAt Try.prog 5 [.agg (c53_aaa a0), aL ci64 a1, nI a2] (.bool r) := by
 unfold laws_FnExactTightDatabase at h
 refine st lit5 rfl (rn 1 rfl (ls_seq_k fun K1 hK1 => rn 1 rfl ?_))
 rcases cond_some h with ⟨g2, h⟩ | ⟨g2, h⟩
 ·exact qT rfl g2 (rn 1 rfl (ls_ret ((by cases h; exact ⟨.inl rfl, rfl⟩))))
 ·refine qF rfl g2 (ls_skip (hK1 _ (rn 1 rfl (rs (sp 2 rfl (?_))))))
  obtain ⟨v3, g4, h⟩ := ob_some h
  refine qC (qa rfl (erg (erc rfl (erc (erG ec211_a _) (erc (erG eci64 _) rfl)))) (qs rfl eran)) (laws_szQuery_s g4) (sp 1 rfl (evn (ls_seq_k fun K5 hK5 => rn 1 rfl ?_)))
  rcases cond_some h with ⟨g6, h⟩ | ⟨g6, h⟩
  ·exact qT rfl g6 (rn 1 rfl (qk [6] rfl (ls_ret ((by cases h; exact ⟨.inl rfl, rfl⟩)))))
  ·refine qF rfl g6 (ls_skip (hK5 _ (rs (sp 1 rfl (?_)))))
   obtain ⟨v7, g8, h⟩ := ob_some h
   refine qC (qa rfl (erg (erc rfl (erc (erG ec211_a _) (erc (erG eci64 _) rfl)))) eran) (laws_toQuery_s g8) (sp 1 rfl (?_))
   obtain ⟨v9, g10, h⟩ := ob_some h
   refine qC (qa rfl (erG eci64 _) eran) (laws_toIntS_s g10) (sp 1 rfl (?_))
   obtain ⟨v11, g12, h⟩ := ob_some h
   refine qC (qa rfl (erg (erc rfl (erc (erO ec142_o _) (erc (erO eci64 _) rfl)))) (qa rfl (erO eci64 _) (qs rfl eran))) (spec_TightDatabase_s g12) (sp 6 rfl (evn (rs (sp 1 rfl (?_)))))
   obtain ⟨v13, g14, h⟩ := ob_some h
   refine qC (qa rfl (erg (erc rfl (erc (erG ec211_a _) (erc (erG eci64 _) rfl)))) eran) (laws_toQuery_s g14) (sp 2 rfl (evn (rs (sp 1 rfl (?_)))))
   obtain ⟨v15, g16, h⟩ := ob_some h
   refine qC (qa rfl (erG eci64 _) eran) (laws_toIntS_s g16) (sp 1 rfl (evn (rs (sp 3 rfl (?_)))))
   obtain ⟨v17, g18, h⟩ := ob_some h
   refine qC (qa rfl (erg (erc rfl (erc (erD ec142_o _) (erc (erD eci64 _) rfl)))) (qa rfl (erD eci64 _) (qs rfl eran))) (impl_TightDatabase_s g18) (sp 6 rfl (evn (ls_seq_k fun K19 hK19 => rs (sp 2 rfl (?_)))))
   obtain ⟨v20, g21, h⟩ := ob_some h
   refine qC (qa rfl (erg (erc (erD ec107_oo _) rfl)) (qa rfl (erg (erc (erD ec107_oo _) rfl)) eran)) (laws_eqDatabase_s g21) (sp 2 rfl (?_))
   rcases cond_some h with ⟨g22, h⟩ | ⟨g22, h⟩
   ·exact qg 51 g22 rfl (sp 4 rfl (evn (qk [1, 2, 3, 8, 9, 10, 11, 12, 13, 55] rfl (qT rfl rfl (rn 1 rfl (ls_ret ((by cases h; exact ⟨.inl rfl, rfl⟩))))))))
   ·refine qg 51 g22 rfl (sp 4 rfl (evn ?_))
    rcases cond_some h with ⟨g23, h⟩ | ⟨g23, h⟩
    ·exact qT rfl g23 (rn 1 rfl (ls_ret ((by cases h; exact ⟨.inl rfl, rfl⟩))))
    ·refine qF rfl g23 (ls_skip (hK19 _ (ls_seq_k fun K24 hK24 => rd (by kernel_rfl) (sd 2 rfl (?_)))))
     obtain ⟨v25, g26, h⟩ := ob_some h
     refine ed rfl (qC (qa rfl (erg (erc rfl (erc (erG ec211_a _) (erc (erG eci64 _) rfl)))) eran) (laws_toQuery_s g26) (?_))
     obtain ⟨v27, g28, h⟩ := ob_some h
     refine ed rfl (qC (qa rfl (erg (erc rfl (erc (erD ec142_o _) (erc (erD eci64 _) rfl)))) (qa rfl (erg (erc rfl (erc (erO ec142_o _) (erc (erO eci64 _) rfl)))) eran)) (laws_eqQuery_s g28) (sd 1 rfl (evdn ?_)))
     rcases cond_some h with ⟨g29, h⟩ | ⟨g29, h⟩
     ·exact qT rfl g29 (rn 1 rfl (ls_ret ((by cases h; exact ⟨.inl rfl, rfl⟩))))
     ·refine qF rfl g29 (ls_skip (hK24 _ (ls_seq_k fun K30 hK30 => rs (sp 2 rfl (?_)))))
      obtain ⟨v31, g32, h⟩ := ob_some h
      refine qC (qa rfl (erG eci64 _) eran) (laws_toIntS_s g32) (?_)
      obtain ⟨v33, g34, h⟩ := ob_some h
      refine qC (qa rfl (erD eci64 _) (qa rfl (erO eci64 _) eran)) (laws_eqIntS_s g34) (sp 1 rfl (evn (qk [1, 2, 3, 8, 9, 10, 11, 12, 13, 65] rfl ?_)))
      rcases cond_some h with ⟨g35, h⟩ | ⟨g35, h⟩
      ·exact qT rfl g35 (rn 1 rfl (ls_ret ((by cases h; exact ⟨.inl rfl, rfl⟩))))
      ·refine qF rfl g35 (ls_skip (hK30 _ (rn 1 rfl (qk [1, 2, 3, 8, 9, 10, 11, 12, 13, 14] rfl ?_))))
       obtain ⟨v36, g37, h⟩ := ob_some h
       refine ls_mark (src_box tbOk rfl rfl rfl) rfl rfl (laws_markQuery_m g37) (dp59 _) (sf_of (sfc (argd_flat (fun _ => rfl) _) (sfc rfl (sfc (scc rfl (scc (sca ad211 _) (scc (sca (fun _ => rfl) _) scn))) (sfc (scc (sco dp107 _) scn) (sfc rfl (sfs (sfc (deep_flat (fun _ => rfl) _) (sfc (scc (sco dp107 _) scn) (sfc rfl (sfc rfl sfn))))))))))) rfl rfl ⟨by decide, by decide⟩ rfl rfl (kp [(1, aL ci64 a1), (2, nI a2), (3, .box [nI a0.1, aL c211_a a0.2.1, aL ci64 a0.2.2]), (8, .box [oL 107 c107_oo v11.1]), (9, .bool v11.2), (11, oL 3 ci64 v15), (12, .box [oL 107 c107_oo v17.1]), (13, .bool v17.2), (14, nI v36.2)] rfl rfl (qk [1, 2, 3, 8, 9, 11, 12, 13, 14] rfl ?_))
       obtain ⟨v38, g39, h⟩ := ob_some h
       refine ls_mark (src_own rfl) rfl rfl (laws_markIntS_m g39) (deep_flat (fun _ => rfl) _) (sf_of (sfc (argd_flat (fun _ => rfl) _) (sfc rfl (sfc (scc rfl (scc (sca ad211 _) (scc (sca (fun _ => rfl) _) scn))) (sfc (scc (sco dp107 _) scn) (sfc rfl (sfs (sfc (scc (sco dp107 _) scn) (sfc rfl (sfc rfl sfn)))))))))) rfl rfl ⟨by decide, by decide⟩ rfl rfl (kp [(1, aL ci64 a1), (2, nI a2), (3, .box [nI a0.1, aL c211_a a0.2.1, aL ci64 a0.2.2]), (8, .box [oL 107 c107_oo v11.1]), (9, .bool v11.2), (12, .box [oL 107 c107_oo v17.1]), (13, .bool v17.2), (14, nI v38.2)] rfl rfl (ls_seq_k fun K40 hK40 => rs (sp 3 rfl (?_))))
       rcases cond_some h with ⟨g41, h⟩ | ⟨g41, h⟩
       ·exact qg 74 g41 rfl (sp 10 rfl (evn (qT rfl rfl (rn 1 rfl (ls_ret ((by cases h; exact ⟨.inl rfl, rfl⟩)))))))
       ·refine qg 74 g41 rfl (sp 2 rfl (?_))
        obtain ⟨v42, g43, h⟩ := ob_some h
        refine oGR rfl rfl (qC (qa rfl (erg (erc (erD ec107_oo _) rfl)) (qa rfl (erg (erc (erD ec107_oo _) rfl)) eran)) (laws_eqDatabase_s g43) (sp 3 rfl (?_)))
        rcases cond_some h with ⟨g44, h⟩ | ⟨g44, h⟩
        ·exact qg 80 g44 rfl (sp 4 rfl (evn (qT rfl rfl (rn 1 rfl (qk [6] rfl (ls_ret ((by cases h; exact ⟨.inl rfl, rfl⟩))))))))
        ·refine qg 80 g44 rfl (sp 4 rfl (evn ?_))
         rcases cond_some h with ⟨g45, h⟩ | ⟨g45, h⟩
         ·exact qT rfl g45 (rn 1 rfl (ls_ret ((by cases h; exact ⟨.inl rfl, rfl⟩))))
         ·refine qF rfl g45 (ls_skip (hK40 _ (rn 1 rfl (qk [1, 2, 3, 8, 9, 12, 15] rfl ?_))))
          obtain ⟨v46, g47, h⟩ := ob_some h
          refine ls_mark (src_box tbOk rfl rfl rfl) rfl rfl (laws_markDatabase_m g47) (dp42 _) (sf_of (sfc (argd_flat (fun _ => rfl) _) (sfc rfl (sfc (scc rfl (scc (sca ad211 _) (scc (sca (fun _ => rfl) _) scn))) (sfc (scc (sco dp107 _) scn) (sfc rfl (sfs (sfc rfl sfn)))))))) rfl rfl ⟨by decide, by decide⟩ rfl rfl (kp [(1, aL ci64 a1), (2, nI a2), (3, .box [nI a0.1, aL c211_a a0.2.1, aL ci64 a0.2.2]), (8, .box [oL 107 c107_oo v11.1]), (9, .bool v11.2), (12, .box [oL 107 c107_oo v46.1]), (15, nI v46.2)] rfl rfl (rn 1 rfl (rs (sp 2 rfl (?_)))))
          obtain ⟨v48, g49, h⟩ := ob_some h
          refine qC (qa rfl (erg (erc (erD ec107_oo _) rfl)) (qs rfl eran)) (laws_heldDatabase_s g49) (sp 1 rfl (evn (ls_seq_k fun K50 hK50 => rn 1 rfl ?_)))
          rcases cond_some h with ⟨g51, h⟩ | ⟨g51, h⟩
          ·exact qT rfl g51 (rn 1 rfl (ls_ret ((by cases h; exact ⟨.inl rfl, rfl⟩))))
          ·refine qF rfl g51 (ls_skip (hK50 _ (ls_seq_k fun K52 hK52 => rn 1 rfl ?_)))
           rcases cond_some h with ⟨g53, h⟩ | ⟨g53, h⟩
           ·exact qT rfl g53 (rn 1 rfl (qk [6] rfl (ls_ret ((by cases h; exact ⟨.inl rfl, rfl⟩)))))
           ·refine qF rfl g53 (ls_skip (hK52 _ (rs (sp 1 rfl (?_)))))
            obtain ⟨v54, g55, h⟩ := ob_some h
            refine qC (qa rfl (erg (erc rfl (erc (erG ec211_a _) (erc (erG eci64 _) rfl)))) eran) (laws_toQuery_s g55) (sp 1 rfl (?_))
            obtain ⟨v56, g57, h⟩ := ob_some h
            refine qC (qa rfl (erG eci64 _) eran) (laws_toIntS_s g57) (sp 1 rfl (?_))
            obtain ⟨v58, g59, h⟩ := ob_some h
            refine qC (qa rfl (erg (erc rfl (erc (erO ec142_o _) (erc (erO eci64 _) rfl)))) (qa rfl (erO eci64 _) (qs rfl eran))) (impl_TightDatabase_s g59) (sp 6 rfl (evn (ls_seq_k fun K60 hK60 => rs (sp 2 rfl (?_)))))
            obtain ⟨v61, g62, h⟩ := ob_some h
            refine qC (qa rfl (erg (erc (erD ec107_oo _) rfl)) (qa rfl (erg (erc (erD ec107_oo _) rfl)) eran)) (laws_eqDatabase_s g62) (sp 2 rfl (?_))
            rcases cond_some h with ⟨g63, h⟩ | ⟨g63, h⟩
            ·exact qg 109 g63 rfl (sp 4 rfl (evn (qT rfl rfl (rn 1 rfl (ls_ret ((by cases h; exact ⟨.inl rfl, rfl⟩)))))))
            ·refine qg 109 g63 rfl (sp 4 rfl (evn (qk [12, 15, 113] rfl ?_)))
             rcases cond_some h with ⟨g64, h⟩ | ⟨g64, h⟩
             ·exact qT rfl g64 (rn 1 rfl (ls_ret ((by cases h; exact ⟨.inl rfl, rfl⟩))))
             ·refine qF rfl g64 (ls_skip (hK60 _ (rn 1 rfl (rs (sp 2 rfl (?_))))))
              obtain ⟨v65, g66, h⟩ := ob_some h
              refine qC (qa rfl (erg (erc (erD ec107_oo _) rfl)) (qs rfl eran)) (laws_heldDatabase_s g66) (sp 1 rfl (evn (ls_seq_k fun K67 hK67 => rn 1 rfl ?_)))
              rcases cond_some h with ⟨g68, h⟩ | ⟨g68, h⟩
              ·exact qT rfl g68 (rn 1 rfl (ls_ret ((by cases h; exact ⟨.inl rfl, rfl⟩))))
              ·refine qF rfl g68 (ls_skip (hK67 _ (ls_seq_k fun K69 hK69 => rn 1 rfl (qk [121] rfl ?_))))
               rcases cond_some h with ⟨g70, h⟩ | ⟨g70, h⟩
               ·exact qT rfl g70 (rn 1 rfl (ls_ret ((by cases h; exact ⟨.inl rfl, rfl⟩))))
               ·exact qF rfl g70 (ls_skip (hK69 _ (rn 1 rfl (ls_ret ((by cases h; exact ⟨.inl rfl, rfl⟩))))))
end Go.Proofs.Ytmioifafgbjjhaa
