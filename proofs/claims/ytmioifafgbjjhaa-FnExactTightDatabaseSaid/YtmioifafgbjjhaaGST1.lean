/-
  Functions of the program as typed functions, printed by gen.py, and that the program's functions do what they say. No conditions.
-/
import Derived.Test.YtmioifafgbjjhaaUpT1
import Derived.Test.YtmioifafgbjjhaaLit2T1
namespace Go.Proofs.Ytmioifafgbjjhaa
open Go.RowKit
set_option linter.unusedVariables false
set_option maxRecDepth 100000
set_option maxHeartbeats 1000000
def laws_szIntS (a0 : List Int) (a1 : Int) : Option (Int) := cond (decide ((IntKind.i64.wrap (a1 - (List.length a0 : Int))) < 0)) (some (-1)) (some (IntKind.i64.wrap (a1 - (List.length a0 : Int))))
theorem laws_szIntS_s {a0 : List Int} {a1 : Int} {r : Int} (h : laws_szIntS a0 a1 = some r) : SoundAt Try.prog 102 [dL ci64 a0, nI a1] (nI r) := by
 unfold laws_szIntS at h
 refine st lit102 rfl (rn 2 rfl (ls_seq_k fun K1 hK1 => rn 1 rfl ?_))
 rcases cond_some h with ⟨g2, h⟩ | ⟨g2, h⟩
 ·exact qT rfl g2 (rn 1 rfl (ls_ret ((by cases h; exact ⟨.inl rfl, rfl⟩))))
 ·exact qF rfl g2 (ls_skip (hK1 _ (rn 1 rfl (ls_ret ((by cases h; exact ⟨.inl rfl, rfl⟩))))))
def laws_szAtom (a0 : Y141) (a1 : Int) : Option (Int) := cond (decide ((IntKind.i64.wrap (a1 - (List.length a0.1 : Int))) < 0)) (some (-1)) (obind (laws_szIntS a0.2 (IntKind.i64.wrap (a1 - (List.length a0.1 : Int)))) fun v3 => cond (decide (v3 < 0)) (some (-1)) (some v3))
theorem laws_szAtom_s {a0 : Y141} {a1 : Int} {r : Int} (h : laws_szAtom a0 a1 = some r) : SoundAt Try.prog 179 [.agg (c211_d a0), nI a1] (nI r) := by
 unfold laws_szAtom at h
 refine st lit179 rfl (rn 2 rfl (ls_seq_k fun K1 hK1 => rn 1 rfl ?_))
 rcases cond_some h with ⟨g2, h⟩ | ⟨g2, h⟩
 ·exact qT rfl g2 (rn 1 rfl (ls_ret ((by cases h; exact ⟨.inl rfl, rfl⟩))))
 ·refine qF rfl g2 (ls_skip (hK1 _ (rs (sp 3 rfl (?_)))))
  obtain ⟨v3, g4, h⟩ := ob_some h
  refine qC (qa rfl (erD eci64 _) (qs rfl eran)) (laws_szIntS_s g4) (sp 1 rfl (evn (ls_seq_k fun K5 hK5 => rn 1 rfl ?_)))
  rcases cond_some h with ⟨g6, h⟩ | ⟨g6, h⟩
  ·exact qT rfl g6 (rn 1 rfl (qk [4] rfl (ls_ret ((by cases h; exact ⟨.inl rfl, rfl⟩)))))
  ·exact qF rfl g6 (ls_skip (hK5 _ (rn 1 rfl (ls_ret ((by cases h; exact ⟨.inl rfl, rfl⟩))))))
def laws_szAtomS_B1 (a0 : List Y141) (rec : (Int × Int) → Option (Sum (Int) (Int))) (s : Int × Int) : Option (Sum (Int) (Int)) := match s with
  | (y1, y2) => cond (decide (y2 < (List.length a0 : Int))) (obind (geti a0 y2) fun e8 => obind (laws_szAtom e8 y1) fun v10 => cond (decide (v10 < 0)) (some (.inr (-1))) (rec (v10, (IntKind.i64.wrap (y2 + 1))))) (some (.inl y1))
def laws_szAtomS (a0 : List Y141) (a1 : Int) : Option (Int) := cond (decide ((IntKind.i64.wrap (a1 - (List.length a0 : Int))) < 0)) (some (-1)) (obind (loopF (laws_szAtomS_B1 a0) fz ((IntKind.i64.wrap (a1 - (List.length a0 : Int))), 0)) fun o1 => (match o1 with
  | .inl z4 => (some z4)
  | .inr r => some r))
theorem laws_szAtomS_s {a0 : List Y141} {a1 : Int} {r : Int} (h : laws_szAtomS a0 a1 = some r) : SoundAt Try.prog 101 [dL c211_d a0, nI a1] (nI r) := by
 unfold laws_szAtomS at h
 refine st lit101 rfl (rn 2 rfl (ls_seq_k fun K1 hK1 => rn 1 rfl ?_))
 rcases cond_some h with ⟨g2, h⟩ | ⟨g2, h⟩
 ·exact qT rfl g2 (rn 1 rfl (ls_ret ((by cases h; exact ⟨.inl rfl, rfl⟩))))
 ·refine qF rfl g2 (ls_skip (hK1 _ (ls_seq_k fun K3 hK3 => rn 1 rfl ?_)))
  obtain ⟨o1, hl, hr1⟩ := ob_some h
  have kXB1 : ∀ {z4 : Int}, (.inl z4) = o1 → Jn K3 [(1, nI z4)] := by
   intro z4 h σ' hk
   subst h
   replace h := hr1
   try dsimp only at h
   exact hK3 _ (lh hk rfl (rn 1 rfl (ls_ret ((by cases h; exact ⟨.inl rfl, rfl⟩)))))
  refine ls_rec (fun (s : Int × Int) => match s with | (y1, y2) => [(0, dL c211_d a0), (1, nI y1), (5, nI y2)]) _ _ _ _ hl (okr rfl) (fun _ => rfl) ?_
  rintro m ⟨y1, y2⟩ N h hN
  unfold laws_szAtomS_B1 at h
  dsimp only at h
  refine ls_seq_k fun K5 hK5 => rn 1 rfl ?_
  rcases cond_some h with ⟨g6, h⟩ | ⟨g6, h⟩
  ·refine qT rfl g6 (ls_skip (hK5 _ (ls_seq_k fun K7 hK7 => ls_blk (rs (sp 2 rfl (?_))))))
   obtain ⟨e8, g9, h⟩ := ob_some h
   refine qI rfl zc211_d g9 (sp 2 rfl (?_))
   obtain ⟨v10, g11, h⟩ := ob_some h
   refine qC (qa rfl (erg (erc rfl (erc (erD eci64 _) rfl))) (qs rfl eran)) (laws_szAtom_s g11) (sp 1 rfl (evn (rn 1 rfl ?_)))
   rcases cond_some h with ⟨g12, h⟩ | ⟨g12, h⟩
   ·exact qT rfl g12 (rn 1 rfl (ls_ret ((by cases h; cases hr1; exact ⟨.inl rfl, rfl⟩))))
   ·exact qF rfl g12 (ls_skip (hK7 _ (rg (sp 3 rfl (evn (hN _ _ h (okr rfl)))))))
  ·exact qF rfl g6 (ls_exit (kXB1 (Option.some.inj h) _ (okr rfl)))
def laws_szQuery (a0 : Y52) (a1 : Int) : Option (Int) := obind (laws_szAtomS a0.2.1 a1) fun v1 => cond (decide (v1 < 0)) (some (-1)) (obind (laws_szIntS a0.2.2 v1) fun v5 => cond (decide (v5 < 0)) (some (-1)) (some v5))
theorem laws_szQuery_s {a0 : Y52} {a1 : Int} {r : Int} (h : laws_szQuery a0 a1 = some r) : SoundAt Try.prog 30 [.agg (c53_ddd a0), nI a1] (nI r) := by
 unfold laws_szQuery at h
 refine st lit30 rfl (rn 1 rfl (rs (sp 3 rfl (?_))))
 obtain ⟨v1, g2, h⟩ := ob_some h
 refine qC (qa rfl (erD ec211_d _) (qs rfl eran)) (laws_szAtomS_s g2) (sp 1 rfl (evn (ls_seq_k fun K3 hK3 => rn 1 rfl ?_)))
 rcases cond_some h with ⟨g4, h⟩ | ⟨g4, h⟩
 ·exact qT rfl g4 (rn 1 rfl (ls_ret ((by cases h; exact ⟨.inl rfl, rfl⟩))))
 ·refine qF rfl g4 (ls_skip (hK3 _ (rs (sp 3 rfl (?_)))))
  obtain ⟨v5, g6, h⟩ := ob_some h
  refine qC (qa rfl (erD eci64 _) (qs rfl eran)) (laws_szIntS_s g6) (sp 1 rfl (evn (ls_seq_k fun K7 hK7 => rn 1 rfl ?_)))
  rcases cond_some h with ⟨g8, h⟩ | ⟨g8, h⟩
  ·exact qT rfl g8 (rn 1 rfl (qk [4] rfl (ls_ret ((by cases h; exact ⟨.inl rfl, rfl⟩)))))
  ·exact qF rfl g8 (ls_skip (hK7 _ (rn 1 rfl (ls_ret ((by cases h; exact ⟨.inl rfl, rfl⟩))))))
def spec_l1In_J1 (x2 : Bool) : Option (Bool) := some x2
def spec_l1In (a0 : Int) (a1 : Int) (a2 : Int) : Option (Bool) := cond (decide (a1 ≤ a0)) (spec_l1In_J1 (decide (a0 ≤ a2))) (spec_l1In_J1 false)
theorem spec_l1In_s {a0 : Int} {a1 : Int} {a2 : Int} {r : Bool} (h : spec_l1In a0 a1 a2 = some r) : SoundAt Try.prog 89 [nI a0, nI a1, nI a2] (.bool r) := by
 unfold spec_l1In at h
 refine st lit89 rfl (rn 1 rfl (rk fun K1 hK1 => ?_))
 have kJ1 : ∀ {x2 : Bool}, spec_l1In_J1 x2 = some r → Jn K1 [(6, .bool x2)] := by
  intro x2 h σ' hk
  unfold spec_l1In_J1 at h
  exact hK1 _ (lh hk rfl (ls_ret ((by cases h; exact ⟨.inl rfl, rfl⟩))))
 refine sp 4 rfl (?_)
 rcases cond_some h with ⟨g3, h⟩ | ⟨g3, h⟩
 ·exact qg 10 g3 rfl (sp 5 rfl (evn (kJ1 h _ (okr rfl))))
 ·exact qg 10 g3 rfl (sp 5 rfl (evn (kJ1 h _ (okr rfl))))
def spec_AreValidValues_B1 (a0 : List Int) (rec : Int → Option (Sum (Unit) (Bool))) (y1 : Int) : Option (Sum (Unit) (Bool)) := cond (decide (y1 < (List.length a0 : Int))) (obind (geti a0 y1) fun e5 => obind (spec_l1In e5 0 99) fun v7 => cond (!v7) (some (.inr false)) (rec (IntKind.i64.wrap (y1 + 1)))) (some (.inl ()))
def spec_AreValidValues (a0 : List Int) : Option (Bool) := obind (loopF (spec_AreValidValues_B1 a0) fz 0) fun o1 => (match o1 with
  | .inl _ => (some true)
  | .inr r => some r)
theorem spec_AreValidValues_s {a0 : List Int} {r : Bool} (h : spec_AreValidValues a0 = some r) : SoundAt Try.prog 90 [dL ci64 a0] (.bool r) := by
 unfold spec_AreValidValues at h
 refine st lit90 rfl (rn 1 rfl (ls_seq_k fun K1 hK1 => rn 1 rfl ?_))
 obtain ⟨o1, hl, hr1⟩ := ob_some h
 have kXB1 : (.inl ()) = o1 → Jn K1 [] := by
  intro h σ' hk
  subst h
  replace h := hr1
  try dsimp only at h
  exact hK1 _ (lh hk rfl (rn 1 rfl (ls_ret ((by cases h; exact ⟨.inl rfl, rfl⟩)))))
 refine ls_rec (fun (y1 : Int) => [(0, dL ci64 a0), (3, nI y1)]) _ _ _ _ hl (okr rfl) (fun _ => rfl) ?_
 rintro m y1 N h hN
 unfold spec_AreValidValues_B1 at h
 refine ls_seq_k fun K2 hK2 => rn 1 rfl ?_
 rcases cond_some h with ⟨g3, h⟩ | ⟨g3, h⟩
 ·refine qT rfl g3 (ls_skip (hK2 _ (ls_seq_k fun K4 hK4 => ls_blk (rs (sp 2 rfl (?_))))))
  obtain ⟨e5, g6, h⟩ := ob_some h
  refine qI rfl zci64 g6 (sp 1 rfl (?_))
  obtain ⟨v7, g8, h⟩ := ob_some h
  refine qC (qs rfl (qs rfl (qs rfl eran))) (spec_l1In_s g8) (sp 1 rfl (evn ?_))
  rcases cond_some h with ⟨g9, h⟩ | ⟨g9, h⟩
  ·exact qT rfl g9 (rn 1 rfl (ls_ret ((by cases h; cases hr1; exact ⟨.inl rfl, rfl⟩))))
  ·exact qF rfl g9 (ls_skip (hK4 _ (rg (sp 3 rfl (evn (hN _ _ h (okr rfl)))))))
 ·exact qF rfl g3 (ls_exit (kXB1 (Option.some.inj h) _ trivial))
def spec_CompareRows_B1 (a0 : List Int) (a1 : List Int) (rec : Int → Option (Sum (Unit) (Int))) (y1 : Int) : Option (Sum (Unit) (Int)) := cond (decide (y1 < (List.length a0 : Int))) (cond (decide (y1 < (List.length a1 : Int))) (obind (geti a0 y1) fun e7 => obind (geti a1 y1) fun e9 => cond (decide (e7 < e9)) (some (.inr (-1))) (obind (geti a0 y1) fun e12 => obind (geti a1 y1) fun e14 => cond (decide (e14 < e12)) (some (.inr 1)) (rec (IntKind.i64.wrap (y1 + 1))))) (some (.inl ()))) (some (.inl ()))
def spec_CompareRows (a0 : List Int) (a1 : List Int) : Option (Int) := obind (loopF (spec_CompareRows_B1 a0 a1) fz 0) fun o1 => (match o1 with
  | .inl _ => (cond (decide ((List.length a0 : Int) < (List.length a1 : Int))) (some (-1)) (cond (decide ((List.length a1 : Int) < (List.length a0 : Int))) (some 1) (some 0)))
  | .inr r => some r)
theorem spec_CompareRows_s {a0 : List Int} {a1 : List Int} {r : Int} (h : spec_CompareRows a0 a1 = some r) : SoundAt Try.prog 91 [dL ci64 a0, dL ci64 a1] (nI r) := by
 unfold spec_CompareRows at h
 refine st lit91 rfl (rn 1 rfl (ls_seq_k fun K1 hK1 => rn 1 rfl ?_))
 obtain ⟨o1, hl, hr1⟩ := ob_some h
 have kXB1 : (.inl ()) = o1 → Jn K1 [(0, dL ci64 a0), (1, dL ci64 a1)] := by
  intro h σ' hk
  subst h
  replace h := hr1
  try dsimp only at h
  refine hK1 _ (lh hk rfl (ls_seq_k fun K17 hK17 => rn 1 rfl ?_))
  rcases cond_some h with ⟨g18, h⟩ | ⟨g18, h⟩
  ·exact qT rfl g18 (rn 1 rfl (ls_ret ((by cases h; exact ⟨.inl rfl, rfl⟩))))
  ·refine qF rfl g18 (ls_skip (hK17 _ (ls_seq_k fun K19 hK19 => rn 1 rfl ?_)))
   rcases cond_some h with ⟨g20, h⟩ | ⟨g20, h⟩
   ·exact qT rfl g20 (rn 1 rfl (ls_ret ((by cases h; exact ⟨.inl rfl, rfl⟩))))
   ·exact qF rfl g20 (ls_skip (hK19 _ (rn 1 rfl (ls_ret ((by cases h; exact ⟨.inl rfl, rfl⟩))))))
 refine ls_rec (fun (y1 : Int) => [(0, dL ci64 a0), (1, dL ci64 a1), (5, nI y1)]) _ _ _ _ hl (okr rfl) (fun _ => rfl) ?_
 rintro m y1 N h hN
 unfold spec_CompareRows_B1 at h
 refine ls_seq_k fun K2 hK2 => rs (sp 5 rfl (?_))
 rcases cond_some h with ⟨g3, h⟩ | ⟨g3, h⟩
 ·refine qg 10 g3 rfl (sp 5 rfl (evn ?_))
  rcases cond_some h with ⟨g4, h⟩ | ⟨g4, h⟩
  ·refine qT rfl g4 (ls_skip (hK2 _ (ls_seq_k fun K5 hK5 => ls_blk (ls_seq_k fun K6 hK6 => rd (by kernel_rfl) (sd 2 rfl (?_))))))
   obtain ⟨e7, g8, h⟩ := ob_some h
   refine ed rfl (qI rfl zci64 g8 (sd 3 rfl (?_)))
   obtain ⟨e9, g10, h⟩ := ob_some h
   refine ed rfl (qI rfl zci64 g10 (sd 2 rfl (evdn ?_)))
   rcases cond_some h with ⟨g11, h⟩ | ⟨g11, h⟩
   ·exact qT rfl g11 (rn 1 rfl (ls_ret ((by cases h; cases hr1; exact ⟨.inl rfl, rfl⟩))))
   ·refine qF rfl g11 (ls_skip (hK6 _ (rd (by kernel_rfl) (sd 2 rfl (?_)))))
    obtain ⟨e12, g13, h⟩ := ob_some h
    refine ed rfl (qI rfl zci64 g13 (sd 3 rfl (?_)))
    obtain ⟨e14, g15, h⟩ := ob_some h
    refine ed rfl (qI rfl zci64 g15 (sd 2 rfl (evdn (qk [0, 1, 5, 35] rfl ?_))))
    rcases cond_some h with ⟨g16, h⟩ | ⟨g16, h⟩
    ·exact qT rfl g16 (rn 1 rfl (ls_ret ((by cases h; cases hr1; exact ⟨.inl rfl, rfl⟩))))
    ·exact qF rfl g16 (ls_skip (hK5 _ (rg (sp 3 rfl (evn (hN _ _ h (okr rfl)))))))
  ·exact qF rfl g4 (ls_exit (kXB1 (Option.some.inj h) _ (okr rfl)))
 ·exact qg 10 g3 rfl (sp 5 rfl (evn (qF rfl rfl (ls_exit (kXB1 (Option.some.inj h) _ (okr rfl))))))
def spec_IsValidRelation_J2 (rec : Int → Option (Sum (Unit) (Bool))) (y1 : Int) (x11 : Bool) : Option (Sum (Unit) (Bool)) := cond x11 (some (.inr false)) (rec (IntKind.i64.wrap (y1 + 1)))
def spec_IsValidRelation_B1 (a0 : Y25) (rec : Int → Option (Sum (Unit) (Bool))) (y1 : Int) : Option (Sum (Unit) (Bool)) := cond (decide (y1 < (List.length a0.2 : Int))) (obind (geti a0.2 y1) fun e13 => cond ((List.length e13 : Int) != a0.1) (spec_IsValidRelation_J2 rec y1 true) (obind (geti a0.2 y1) fun e16 => obind (spec_AreValidValues e16) fun v18 => cond (!v18) (spec_IsValidRelation_J2 rec y1 true) (cond (decide (0 < y1)) (obind (geti a0.2 (IntKind.i64.wrap (y1 - 1))) fun e22 => obind (geti a0.2 y1) fun e24 => obind (spec_CompareRows e22 e24) fun v26 => spec_IsValidRelation_J2 rec y1 (decide (0 ≤ v26))) (spec_IsValidRelation_J2 rec y1 false)))) (some (.inl ()))
def spec_IsValidRelation (a0 : Y25) : Option (Bool) := obind (spec_l1In a0.1 0 5) fun v2 => cond (!v2) (some false) (cond (decide (4000 < (List.length a0.2 : Int))) (some false) (obind (loopF (spec_IsValidRelation_B1 a0) fz 0) fun o1 => (match o1 with
  | .inl _ => (some true)
  | .inr r => some r)))
theorem spec_IsValidRelation_s {a0 : Y25} {r : Bool} (h : spec_IsValidRelation a0 = some r) : SoundAt Try.prog 15 [.agg (c26_dd a0)] (.bool r) := by
 unfold spec_IsValidRelation at h
 refine st lit15 rfl (rn 1 rfl (ls_seq_k fun K1 hK1 => rs (sp 2 rfl (?_))))
 obtain ⟨v2, g3, h⟩ := ob_some h
 refine qC (qs rfl (qs rfl (qs rfl eran))) (spec_l1In_s g3) (sp 2 rfl (?_))
 rcases cond_some h with ⟨g4, h⟩ | ⟨g4, h⟩
 ·exact qg 8 g4 rfl (sp 5 rfl (evn (qT rfl rfl (rn 1 rfl (ls_ret ((by cases h; exact ⟨.inl rfl, rfl⟩)))))))
 ·refine qg 8 g4 rfl (sp 5 rfl (evn ?_))
  rcases cond_some h with ⟨g5, h⟩ | ⟨g5, h⟩
  ·exact qT rfl g5 (rn 1 rfl (ls_ret ((by cases h; exact ⟨.inl rfl, rfl⟩))))
  ·refine qF rfl g5 (ls_skip (hK1 _ (qk [1] rfl (ls_seq_k fun K6 hK6 => rn 1 rfl ?_))))
   obtain ⟨o1, hl, hr1⟩ := ob_some h
   have kXB1 : (.inl ()) = o1 → Jn K6 [] := by
    intro h σ' hk
    subst h
    replace h := hr1
    try dsimp only at h
    exact hK6 _ (lh hk rfl (rn 1 rfl (ls_ret ((by cases h; exact ⟨.inl rfl, rfl⟩)))))
   refine ls_rec (fun (y1 : Int) => [(1, .box [nI a0.1, dL c31_d a0.2]), (3, nI y1)]) _ _ _ _ hl (okr rfl) (fun _ => rfl) ?_
   rintro m y1 N h hN
   unfold spec_IsValidRelation_B1 at h
   refine ls_seq_k fun K7 hK7 => rn 1 rfl ?_
   rcases cond_some h with ⟨g8, h⟩ | ⟨g8, h⟩
   ·refine qT rfl g8 (ls_skip (hK7 _ (ls_seq_k fun K9 hK9 => ls_blk (rdk (by kernel_rfl) fun K10 hK10 => ?_))))
    have kJ2 : ∀ {x11 : Bool}, spec_IsValidRelation_J2 (loopF (spec_IsValidRelation_B1 a0) m) y1 x11 = some o1 → Jn K10 [(1, .box [nI a0.1, dL c31_d a0.2]), (3, nI y1), (57, .bool x11)] := by
     intro x11 h σ' hk
     unfold spec_IsValidRelation_J2 at h
     refine hK10 _ (lh hk rfl ?_)
     rcases cond_some h with ⟨g12, h⟩ | ⟨g12, h⟩
     ·exact qT rfl g12 (rn 1 rfl (ls_ret ((by cases h; cases hr1; exact ⟨.inl rfl, rfl⟩))))
     ·exact qF rfl g12 (ls_skip (hK9 _ (rg (sp 3 rfl (evn (hN _ _ h (okr rfl)))))))
    refine sd 3 rfl (?_)
    obtain ⟨e13, g14, h⟩ := ob_some h
    refine ed rfl (qI rfl zc31_d g14 (sd 6 rfl (?_)))
    rcases cond_some h with ⟨g15, h⟩ | ⟨g15, h⟩
    ·exact qgd 30 g15 rfl (sd 27 rfl (evdn (kJ2 h _ (okr rfl))))
    ·refine qgd 30 g15 rfl (sd 3 rfl (?_))
     obtain ⟨e16, g17, h⟩ := ob_some h
     refine ed rfl (oGR rfl rfl (qI rfl zc31_d g17 (sd 1 rfl (?_))))
     obtain ⟨v18, g19, h⟩ := ob_some h
     refine ed rfl (oGR rfl rfl (qC (qa rfl (erD eci64 _) eran) (spec_AreValidValues_s g19) (sd 3 rfl (?_))))
     rcases cond_some h with ⟨g20, h⟩ | ⟨g20, h⟩
     ·exact qgd 39 g20 rfl (sd 18 rfl (evdn (kJ2 h _ (okr rfl))))
     ·refine qgd 39 g20 rfl (sd 3 rfl (?_))
      rcases cond_some h with ⟨g21, h⟩ | ⟨g21, h⟩
      ·refine qgd 42 g21 rfl (sd 4 rfl (?_))
       obtain ⟨e22, g23, h⟩ := ob_some h
       refine ed rfl (oGR rfl rfl (qI rfl zc31_d g23 (sd 4 rfl (?_))))
       obtain ⟨e24, g25, h⟩ := ob_some h
       refine ed rfl (oGR rfl rfl (qI rfl zc31_d g25 (sd 1 rfl (?_))))
       obtain ⟨v26, g27, h⟩ := ob_some h
       exact ed rfl (oGR rfl rfl (qC (qa rfl (erD eci64 _) (qa rfl (erD eci64 _) eran)) (spec_CompareRows_s g27) (sd 3 rfl (evdn (kJ2 h _ (okr rfl))))))
      ·exact qgd 42 g21 rfl (sd 15 rfl (evdn (kJ2 h _ (okr rfl))))
   ·exact qF rfl g8 (ls_exit (kXB1 (Option.some.inj h) _ trivial))
def spec_IsValidName_B1 (a0 : List UInt8) (rec : Int → Option (Sum (Unit) (Bool))) (y1 : Int) : Option (Sum (Unit) (Bool)) := cond (decide (y1 < (List.length a0 : Int))) (obind (geti a0 y1) fun b5 => cond (decide ((UInt8.toNat b5 : Int) < 97)) (some (.inr false)) (obind (geti a0 y1) fun b8 => cond (decide (122 < (UInt8.toNat b8 : Int))) (some (.inr false)) (rec (IntKind.i64.wrap (y1 + 1))))) (some (.inl ()))
def spec_IsValidName (a0 : List UInt8) : Option (Bool) := obind (loopF (spec_IsValidName_B1 a0) fz 0) fun o1 => (match o1 with
  | .inl _ => (obind (spec_l1In (List.length a0 : Int) 1 4) fun v11 => some v11)
  | .inr r => some r)
theorem spec_IsValidName_s {a0 : List UInt8} {r : Bool} (h : spec_IsValidName a0 = some r) : SoundAt Try.prog 178 [.str a0] (.bool r) := by
 unfold spec_IsValidName at h
 refine st lit178 rfl (rn 1 rfl (ls_seq_k fun K1 hK1 => rn 1 rfl ?_))
 obtain ⟨o1, hl, hr1⟩ := ob_some h
 have kXB1 : (.inl ()) = o1 → Jn K1 [(0, .str a0)] := by
  intro h σ' hk
  subst h
  replace h := hr1
  try dsimp only at h
  refine hK1 _ (lh hk rfl (rs (sp 2 rfl (?_))))
  obtain ⟨v11, g12, h⟩ := ob_some h
  exact qC (qs rfl (qs rfl (qs rfl eran))) (spec_l1In_s g12) (sp 1 rfl (evn (ls_ret ((by cases h; exact ⟨.inl rfl, rfl⟩)))))
 refine ls_rec (fun (y1 : Int) => [(0, .str a0), (3, nI y1)]) _ _ _ _ hl (okr rfl) (fun _ => rfl) ?_
 rintro m y1 N h hN
 unfold spec_IsValidName_B1 at h
 refine ls_seq_k fun K2 hK2 => rn 1 rfl ?_
 rcases cond_some h with ⟨g3, h⟩ | ⟨g3, h⟩
 ·refine qT rfl g3 (ls_skip (hK2 _ (ls_seq_k fun K4 hK4 => ls_blk (rs (sp 2 rfl (?_))))))
  obtain ⟨b5, g6, h⟩ := ob_some h
  refine qX rfl g6 (sp 2 rfl (?_))
  rcases cond_some h with ⟨g7, h⟩ | ⟨g7, h⟩
  ·exact qg 14 g7 rfl (sp 5 rfl (evn (qT rfl rfl (rn 1 rfl (ls_ret ((by cases h; cases hr1; exact ⟨.inl rfl, rfl⟩)))))))
  ·refine qg 14 g7 rfl (sp 2 rfl (?_))
   obtain ⟨b8, g9, h⟩ := ob_some h
   refine oGR rfl rfl (qX rfl g9 (sp 2 rfl (evn ?_)))
   rcases cond_some h with ⟨g10, h⟩ | ⟨g10, h⟩
   ·exact qT rfl g10 (rn 1 rfl (qk [2] rfl (ls_ret ((by cases h; cases hr1; exact ⟨.inl rfl, rfl⟩)))))
   ·exact qF rfl g10 (ls_skip (hK4 _ (rg (sp 3 rfl (evn (hN _ _ h (okr rfl)))))))
 ·exact qF rfl g3 (ls_exit (kXB1 (Option.some.inj h) _ (okr rfl)))
def spec_IsValidDatabase_J2 (rec : Int → Option (Sum (Unit) (Bool))) (y1 : Int) (x8 : Bool) : Option (Sum (Unit) (Bool)) := cond x8 (some (.inr false)) (rec (IntKind.i64.wrap (y1 + 1)))
def spec_IsValidDatabase_B1 (a0 : List Y106) (rec : Int → Option (Sum (Unit) (Bool))) (y1 : Int) : Option (Sum (Unit) (Bool)) := cond (decide (y1 < (List.length a0 : Int))) (obind (geti a0 y1) fun e5 => obind (spec_IsValidName e5.1) fun v10 => cond (!v10) (spec_IsValidDatabase_J2 rec y1 true) (cond (decide (0 < y1)) (obind (geti a0 (IntKind.i64.wrap (y1 - 1))) fun e14 => cond (!Op.bytesLess e14.1 e5.1) (spec_IsValidDatabase_J2 rec y1 true) (obind (spec_IsValidRelation e5.2) fun v17 => cond (!v17) (spec_IsValidDatabase_J2 rec y1 true) (cond (decide (16 < (List.length e5.2.2 : Int))) (spec_IsValidDatabase_J2 rec y1 true) (spec_IsValidDatabase_J2 rec y1 (decide (e5.2.1 < 1)))))) (obind (spec_IsValidRelation e5.2) fun v21 => cond (!v21) (spec_IsValidDatabase_J2 rec y1 true) (cond (decide (16 < (List.length e5.2.2 : Int))) (spec_IsValidDatabase_J2 rec y1 true) (spec_IsValidDatabase_J2 rec y1 (decide (e5.2.1 < 1))))))) (some (.inl ()))
def spec_IsValidDatabase (a0 : List Y106) : Option (Bool) := obind (loopF (spec_IsValidDatabase_B1 a0) fz 0) fun o1 => (match o1 with
  | .inl _ => (some (decide ((List.length a0 : Int) ≤ 6)))
  | .inr r => some r)
theorem spec_IsValidDatabase_s {a0 : List Y106} {r : Bool} (h : spec_IsValidDatabase a0 = some r) : SoundAt Try.prog 99 [.agg [dL c107_dd a0]] (.bool r) := by
 unfold spec_IsValidDatabase at h
 refine st lit99 rfl (rn 1 rfl (ls_seq_k fun K1 hK1 => rn 1 rfl ?_))
 obtain ⟨o1, hl, hr1⟩ := ob_some h
 have kXB1 : (.inl ()) = o1 → Jn K1 [(1, .box [dL c107_dd a0])] := by
  intro h σ' hk
  subst h
  replace h := hr1
  try dsimp only at h
  exact hK1 _ (lh hk rfl (rn 1 rfl (ls_ret ((by cases h; exact ⟨.inl rfl, rfl⟩)))))
 refine ls_rec (fun (y1 : Int) => [(1, .box [dL c107_dd a0]), (3, nI y1)]) _ _ _ _ hl (okr rfl) (fun _ => rfl) ?_
 rintro m y1 N h hN
 unfold spec_IsValidDatabase_B1 at h
 refine ls_seq_k fun K2 hK2 => rn 1 rfl ?_
 rcases cond_some h with ⟨g3, h⟩ | ⟨g3, h⟩
 ·refine qT rfl g3 (ls_skip (hK2 _ (ls_seq_k fun K4 hK4 => ls_blk (rs (sp 3 rfl (?_))))))
  obtain ⟨e5, g6, h⟩ := ob_some h
  refine qI rfl zc107_dd g6 (sp 3 rfl (evn (rdk (by kernel_rfl) fun K7 hK7 => ?_)))
  have kJ2 : ∀ {x8 : Bool}, spec_IsValidDatabase_J2 (loopF (spec_IsValidDatabase_B1 a0) m) y1 x8 = some o1 → Jn K7 [(1, .box [dL c107_dd a0]), (3, nI y1), (55, .bool x8)] := by
   intro x8 h σ' hk
   unfold spec_IsValidDatabase_J2 at h
   refine hK7 _ (lh hk rfl ?_)
   rcases cond_some h with ⟨g9, h⟩ | ⟨g9, h⟩
   ·exact qT rfl g9 (rn 1 rfl (ls_ret ((by cases h; cases hr1; exact ⟨.inl rfl, rfl⟩))))
   ·exact qF rfl g9 (ls_skip (hK4 _ (rg (sp 3 rfl (evn (hN _ _ h (okr rfl)))))))
  refine sd 2 rfl (?_)
  obtain ⟨v10, g11, h⟩ := ob_some h
  refine ed rfl (qC (qs rfl eran) (spec_IsValidName_s g11) (sd 2 rfl (?_)))
  rcases cond_some h with ⟨g12, h⟩ | ⟨g12, h⟩
  ·exact qgd 21 g12 rfl (sd 34 rfl (evdn (kJ2 h _ (okr rfl))))
  ·refine qgd 21 g12 rfl (sd 3 rfl (?_))
   rcases cond_some h with ⟨g13, h⟩ | ⟨g13, h⟩
   ·refine qgd 24 g13 rfl (sd 4 rfl (?_))
    obtain ⟨e14, g15, h⟩ := ob_some h
    refine ed rfl (oGR rfl rfl (qI rfl zc107_dd g15 (sd 8 rfl (?_))))
    rcases cond_some h with ⟨g16, h⟩ | ⟨g16, h⟩
    ·exact qgd 37 g16 rfl (sd 18 rfl (evdn (kJ2 h _ (okr rfl))))
    ·refine qgd 37 g16 rfl (sd 2 rfl (?_))
     obtain ⟨v17, g18, h⟩ := ob_some h
     refine ed rfl (oGR rfl rfl (qC (qa rfl (erg (erc rfl (erc (erD ec31_d _) rfl))) eran) (spec_IsValidRelation_s g18) (sd 3 rfl (?_))))
     rcases cond_some h with ⟨g19, h⟩ | ⟨g19, h⟩
     ·exact qgd 43 g19 rfl (sd 12 rfl (evdn (kJ2 h _ (okr rfl))))
     ·refine qgd 43 g19 rfl (sd 7 rfl (?_))
      rcases cond_some h with ⟨g20, h⟩ | ⟨g20, h⟩
      ·exact qgd 50 g20 rfl (sd 5 rfl (evdn (kJ2 h _ (okr rfl))))
      ·exact qgd 50 g20 rfl (sd 5 rfl (evdn (kJ2 h _ (okr rfl))))
   ·refine qgd 24 g13 rfl (sd 15 rfl (?_))
    obtain ⟨v21, g22, h⟩ := ob_some h
    refine ed rfl (oGR rfl rfl (qC (qa rfl (erg (erc rfl (erc (erD ec31_d _) rfl))) eran) (spec_IsValidRelation_s g22) (sd 3 rfl (?_))))
    rcases cond_some h with ⟨g23, h⟩ | ⟨g23, h⟩
    ·exact qgd 43 g23 rfl (sd 12 rfl (evdn (kJ2 h _ (okr rfl))))
    ·refine qgd 43 g23 rfl (sd 7 rfl (?_))
     rcases cond_some h with ⟨g24, h⟩ | ⟨g24, h⟩
     ·exact qgd 50 g24 rfl (sd 5 rfl (evdn (kJ2 h _ (okr rfl))))
     ·exact qgd 50 g24 rfl (sd 5 rfl (evdn (kJ2 h _ (okr rfl))))
 ·exact qF rfl g3 (ls_exit (kXB1 (Option.some.inj h) _ (okr rfl)))
def spec_l5Copy_B1 (a0 : Y25) (rec : ((List (List Int)) × Int) → Option ((List (List Int)))) (s : (List (List Int)) × Int) : Option ((List (List Int))) := match s with
  | (y1, y2) => cond (decide (y2 < (List.length a0.2 : Int))) (obind (geti a0.2 y2) fun e6 => chk (List.length ([] : List Int) + List.length e6 ≤ lim) (chk (List.length y1 + List.length ([([] : List Int) ++ e6]) ≤ lim) (rec ((y1 ++ ([([] : List Int) ++ e6])), (IntKind.i64.wrap (y2 + 1)))))) (some y1)
def spec_l5Copy (a0 : Y25) : Option (Y25) := obind (loopF (spec_l5Copy_B1 a0) fz (([] : List (List Int)), 0)) fun z2 => some (a0.1, z2)
theorem spec_l5Copy_s {a0 : Y25} {r : Y25} (h : spec_l5Copy a0 = some r) : SoundAt Try.prog 100 [.agg (c26_dd a0)] (.agg (c26_oo r)) := by
 unfold spec_l5Copy at h
 refine st lit100 rfl (rn 2 rfl (ls_seq_k fun K1 hK1 => rn 1 rfl ?_))
 obtain ⟨o1, hl, hr1⟩ := ob_some h
 have kXB1 : ∀ {z2 : List (List Int)}, z2 = o1 → Jn K1 [(2, .box [nI 0, oL 31 c31_o []]), (3, .box [nI a0.1, oL 31 c31_o z2])] := by
  intro z2 h σ' hk
  subst h
  replace h := hr1
  try dsimp only at h
  exact hK1 _ (lh hk rfl (rn 1 rfl (ls_ret ((by cases h; exact ⟨.inl rfl, rfl⟩)))))
 refine ls_rec (fun (s : (List (List Int)) × Int) => match s with | (y1, y2) => [(1, .box [nI a0.1, dL c31_d a0.2]), (2, .box [nI 0, oL 31 c31_o []]), (3, .box [nI a0.1, oL 31 c31_o y1]), (4, nI y2)]) _ _ _ _ hl (okr rfl) (fun _ => rfl) ?_
 rintro m ⟨y1, y2⟩ N h hN
 unfold spec_l5Copy_B1 at h
 dsimp only at h
 refine ls_seq_k fun K3 hK3 => rn 1 rfl ?_
 rcases cond_some h with ⟨g4, h⟩ | ⟨g4, h⟩
 ·refine qT rfl g4 (ls_skip (hK3 _ (ls_seq_k fun K5 hK5 => ls_blk (rgd (by kernel_rfl) (sd 2 rfl (ed rfl (qBs ci64 [] rfl rfl rfl zci64 (sd 3 rfl (?_)))))))))
  obtain ⟨e6, g7, h⟩ := ob_some h
  refine ed rfl (qI rfl zc31_d g7 (sd 1 rfl (?_)))
  obtain ⟨g8, h⟩ := chk_some h
  refine ed rfl (qA ci64 ([] : List Int) e6 rfl rfl (flat_len zci64 e6) (map_dg (fun _ => rfl) _) g8 (ed rfl (qBs c31_o [([] : List Int) ++ e6] rfl rfl rfl zc31_o (?_))))
  obtain ⟨g9, h⟩ := chk_some h
  exact ed rfl (qA c31_o y1 ([([] : List Int) ++ e6]) rfl rfl (flat_len zc31_o ([([] : List Int) ++ e6])) rfl g9 (sd 2 rfl (evdn (hK5 _ (rg (sp 3 rfl (evn (hN _ _ h (okr rfl)))))))))
 ·exact qF rfl g4 (ls_exit (kXB1 (Option.some.inj h) _ (okr rfl)))
def spec_LookupRelation_B1 (a0 : List Y106) (a1 : List UInt8) (rec : Int → Option (Sum (Unit) (Y25 × Bool))) (y1 : Int) : Option (Sum (Unit) (Y25 × Bool)) := cond (decide (y1 < (List.length a0 : Int))) (obind (spec_IsValidDatabase a0) fun v4 => cond v4 (obind (geti a0 y1) fun e8 => cond (e8.1 == a1) (obind (geti a0 y1) fun e11 => obind (spec_l5Copy e11.2) fun v13 => some (.inr (v13, true))) (rec (IntKind.i64.wrap (y1 + 1)))) (some (.inl ()))) (some (.inl ()))
def spec_LookupRelation (a0 : List Y106) (a1 : List UInt8) : Option (Y25 × Bool) := obind (loopF (spec_LookupRelation_B1 a0 a1) fz 0) fun o1 => (match o1 with
  | .inl _ => (some ((0, []), false))
  | .inr r => some r)
theorem spec_LookupRelation_s {a0 : List Y106} {a1 : List UInt8} {r : Y25 × Bool} (h : spec_LookupRelation a0 a1 = some r) : SoundAt Try.prog 29 [.agg [dL c107_dd a0], .str a1] (.tup [.agg (c26_oo r.1), .bool r.2]) := by
 unfold spec_LookupRelation at h
 refine st lit29 rfl (rn 1 rfl (ls_seq_k fun K1 hK1 => rn 1 rfl ?_))
 obtain ⟨o1, hl, hr1⟩ := ob_some h
 have kXB1 : (.inl ()) = o1 → Jn K1 [(4, .box [nI 0, oL 31 c31_o []])] := by
  intro h σ' hk
  subst h
  replace h := hr1
  try dsimp only at h
  exact hK1 _ (lh hk rfl (rn 1 rfl (ls_ret ((by cases h; exact ⟨.inl rfl, rfl⟩)))))
 refine ls_rec (fun (y1 : Int) => [(1, .str a1), (2, .box [dL c107_dd a0]), (4, .box [nI 0, oL 31 c31_o []]), (6, nI y1)]) _ _ _ _ hl (okr rfl) (fun _ => rfl) ?_
 rintro m y1 N h hN
 unfold spec_LookupRelation_B1 at h
 refine ls_seq_k fun K2 hK2 => rs (sp 6 rfl (?_))
 rcases cond_some h with ⟨g3, h⟩ | ⟨g3, h⟩
 ·refine qg 12 g3 rfl (sp 1 rfl (?_))
  obtain ⟨v4, g5, h⟩ := ob_some h
  refine oGR rfl rfl (qC (qa rfl (erg (erc (erD ec107_dd _) rfl)) eran) (spec_IsValidDatabase_s g5) (sp 1 rfl (evn ?_)))
  rcases cond_some h with ⟨g6, h⟩ | ⟨g6, h⟩
  ·refine qT rfl g6 (ls_skip (hK2 _ (ls_seq_k fun K7 hK7 => ls_blk (rs (sp 3 rfl (?_))))))
   obtain ⟨e8, g9, h⟩ := ob_some h
   refine qI rfl zc107_dd g9 (sp 4 rfl (evn ?_))
   rcases cond_some h with ⟨g10, h⟩ | ⟨g10, h⟩
   ·refine qT rfl g10 (rs (sp 3 rfl (?_)))
    obtain ⟨e11, g12, h⟩ := ob_some h
    refine qI rfl zc107_dd g12 (sp 2 rfl (?_))
    obtain ⟨v13, g14, h⟩ := ob_some h
    exact qC (qa rfl (erg (erc rfl (erc (erD ec31_d _) rfl))) eran) (spec_l5Copy_s g14) (sp 2 rfl (evn (ls_ret ((by cases h; cases hr1; exact ⟨.inl rfl, rfl⟩)))))
   ·exact qF rfl g10 (ls_skip (hK7 _ (qk [1, 2, 4, 6] rfl (rg (sp 3 rfl (evn (hN _ _ h (okr rfl))))))))
  ·exact qF rfl g6 (ls_exit (kXB1 (Option.some.inj h) _ (okr rfl)))
 ·exact qg 12 g3 rfl (sp 3 rfl (evn (qF rfl rfl (ls_exit (kXB1 (Option.some.inj h) _ (okr rfl))))))
def spec_ContainsVariable_B1 (a0 : Y141) (a1 : Int) (rec : Int → Option (Sum (Unit) (Bool))) (y1 : Int) : Option (Sum (Unit) (Bool)) := cond (decide (y1 < (List.length a0.2 : Int))) (obind (geti a0.2 y1) fun e5 => cond (e5 == a1) (some (.inr true)) (rec (IntKind.i64.wrap (y1 + 1)))) (some (.inl ()))
def spec_ContainsVariable (a0 : Y141) (a1 : Int) : Option (Bool) := obind (loopF (spec_ContainsVariable_B1 a0 a1) fz 0) fun o1 => (match o1 with
  | .inl _ => (some false)
  | .inr r => some r)
theorem spec_ContainsVariable_s {a0 : Y141} {a1 : Int} {r : Bool} (h : spec_ContainsVariable a0 a1 = some r) : SoundAt Try.prog 218 [.agg (c142_d a0), nI a1] (.bool r) := by
 unfold spec_ContainsVariable at h
 refine st lit218 rfl (rn 1 rfl (ls_seq_k fun K1 hK1 => rn 1 rfl ?_))
 obtain ⟨o1, hl, hr1⟩ := ob_some h
 have kXB1 : (.inl ()) = o1 → Jn K1 [] := by
  intro h σ' hk
  subst h
  replace h := hr1
  try dsimp only at h
  exact hK1 _ (lh hk rfl (rn 1 rfl (ls_ret ((by cases h; exact ⟨.inl rfl, rfl⟩)))))
 refine ls_rec (fun (y1 : Int) => [(1, nI a1), (2, .box [.str a0.1, dL ci64 a0.2]), (5, nI y1)]) _ _ _ _ hl (okr rfl) (fun _ => rfl) ?_
 rintro m y1 N h hN
 unfold spec_ContainsVariable_B1 at h
 refine ls_seq_k fun K2 hK2 => rn 1 rfl ?_
 rcases cond_some h with ⟨g3, h⟩ | ⟨g3, h⟩
 ·refine qT rfl g3 (ls_skip (hK2 _ (ls_seq_k fun K4 hK4 => ls_blk (rs (sp 3 rfl (?_))))))
  obtain ⟨e5, g6, h⟩ := ob_some h
  refine qI rfl zci64 g6 (sp 3 rfl (evn ?_))
  rcases cond_some h with ⟨g7, h⟩ | ⟨g7, h⟩
  ·exact qT rfl g7 (rn 1 rfl (ls_ret ((by cases h; cases hr1; exact ⟨.inl rfl, rfl⟩))))
  ·exact qF rfl g7 (ls_skip (hK4 _ (rg (sp 3 rfl (evn (hN _ _ h (okr rfl)))))))
 ·exact qF rfl g3 (ls_exit (kXB1 (Option.some.inj h) _ trivial))
def spec_l7Find_B1 (a0 : List Int) (a1 : Int) (rec : Int → Option (Sum (Unit) (Int))) (y1 : Int) : Option (Sum (Unit) (Int)) := cond (decide (y1 < (List.length a0 : Int))) (obind (geti a0 y1) fun e5 => cond (e5 == a1) (some (.inr y1)) (rec (IntKind.i64.wrap (y1 + 1)))) (some (.inl ()))
def spec_l7Find (a0 : List Int) (a1 : Int) : Option (Int) := obind (loopF (spec_l7Find_B1 a0 a1) fz 0) fun o1 => (match o1 with
  | .inl _ => (some (-1))
  | .inr r => some r)
theorem spec_l7Find_s {a0 : List Int} {a1 : Int} {r : Int} (h : spec_l7Find a0 a1 = some r) : SoundAt Try.prog 219 [dL ci64 a0, nI a1] (nI r) := by
 unfold spec_l7Find at h
 refine st lit219 rfl (rn 1 rfl (ls_seq_k fun K1 hK1 => rn 1 rfl ?_))
 obtain ⟨o1, hl, hr1⟩ := ob_some h
 have kXB1 : (.inl ()) = o1 → Jn K1 [] := by
  intro h σ' hk
  subst h
  replace h := hr1
  try dsimp only at h
  exact hK1 _ (lh hk rfl (rn 1 rfl (ls_ret ((by cases h; exact ⟨.inl rfl, rfl⟩)))))
 refine ls_rec (fun (y1 : Int) => [(0, dL ci64 a0), (1, nI a1), (5, nI y1)]) _ _ _ _ hl (okr rfl) (fun _ => rfl) ?_
 rintro m y1 N h hN
 unfold spec_l7Find_B1 at h
 refine ls_seq_k fun K2 hK2 => rn 1 rfl ?_
 rcases cond_some h with ⟨g3, h⟩ | ⟨g3, h⟩
 ·refine qT rfl g3 (ls_skip (hK2 _ (ls_seq_k fun K4 hK4 => ls_blk (rs (sp 2 rfl (?_))))))
  obtain ⟨e5, g6, h⟩ := ob_some h
  refine qI rfl zci64 g6 (sp 3 rfl (evn ?_))
  rcases cond_some h with ⟨g7, h⟩ | ⟨g7, h⟩
  ·exact qT rfl g7 (rn 1 rfl (ls_ret ((by cases h; cases hr1; exact ⟨.inl rfl, rfl⟩))))
  ·exact qF rfl g7 (ls_skip (hK4 _ (rg (sp 3 rfl (evn (hN _ _ h (okr rfl)))))))
 ·exact qF rfl g3 (ls_exit (kXB1 (Option.some.inj h) _ trivial))
def spec_IsValidQuery_B2 (a0 : Y58) (y2 : Int) (rec : Int → Option (Sum (Unit) (Bool))) (y4 : Int) : Option (Sum (Unit) (Bool)) := obind (geti a0.2.1 y2) fun e25 => cond (decide (y4 < (List.length e25.2 : Int))) (obind (geti a0.2.1 y2) fun e29 => obind (geti e29.2 y4) fun e31 => obind (spec_l1In e31 0 (IntKind.i64.wrap (a0.1 - 1))) fun v33 => cond (!v33) (some (.inr false)) (rec (IntKind.i64.wrap (y4 + 1)))) (some (.inl ()))
def spec_IsValidQuery_B1 (a0 : Y58) (rec : Int → Option (Sum (Unit) (Bool))) (y2 : Int) : Option (Sum (Unit) (Bool)) := cond (decide (y2 < (List.length a0.2.1 : Int))) (obind (geti a0.2.1 y2) fun e14 => obind (spec_IsValidName e14.1) fun v16 => cond (!v16) (some (.inr false)) (obind (geti a0.2.1 y2) fun e19 => obind (spec_l1In (List.length e19.2 : Int) 1 5) fun v21 => cond (!v21) (some (.inr false)) (obind (loopF (spec_IsValidQuery_B2 a0 y2) fz 0) fun o2 => (match o2 with
  | .inl _ => (rec (IntKind.i64.wrap (y2 + 1)))
  | .inr r => some (.inr r))))) (some (.inl ()))
def spec_IsValidQuery_J5 (rec : (Bool × Int) → Option (Bool)) (y11 : Int) (x45 : Bool) : Option (Bool) := rec (x45, (IntKind.i64.wrap (y11 + 1)))
def spec_IsValidQuery_B4 (a0 : Y58) (y7 : Int) (rec : (Bool × Int) → Option (Bool)) (s : Bool × Int) : Option (Bool) := match s with
  | (y10, y11) => cond (decide (y11 < (List.length a0.2.1 : Int))) (cond y10 (spec_IsValidQuery_J5 rec y11 true) (obind (geti a0.2.1 y11) fun e47 => obind (spec_ContainsVariable e47 y7) fun v49 => spec_IsValidQuery_J5 rec y11 v49)) (some y10)
def spec_IsValidQuery_B3 (a0 : Y58) (rec : Int → Option (Sum (Unit) (Bool))) (y7 : Int) : Option (Sum (Unit) (Bool)) := cond (decide (y7 < a0.1)) (obind (loopF (spec_IsValidQuery_B4 a0 y7) fz (false, 0)) fun z41 => cond (!z41) (some (.inr false)) (rec (IntKind.i64.wrap (y7 + 1)))) (some (.inl ()))
def spec_IsValidQuery_B6 (a0 : Y58) (rec : Int → Option (Sum (Unit) (Bool))) (y12 : Int) : Option (Sum (Unit) (Bool)) := cond (decide (y12 < (List.length a0.2.2 : Int))) (obind (geti a0.2.2 y12) fun e56 => obind (spec_l1In e56 0 (IntKind.i64.wrap (a0.1 - 1))) fun v58 => cond (!v58) (some (.inr false)) (chk ((0 : Int) ≤ 0 ∧ 0 ≤ y12 ∧ y12 ≤ (List.length a0.2.2 : Int)) (obind (geti a0.2.2 y12) fun e62 => obind (spec_l7Find (subl a0.2.2 0 y12) e62) fun v64 => cond (decide (0 ≤ v64)) (some (.inr false)) (rec (IntKind.i64.wrap (y12 + 1)))))) (some (.inl ()))
def spec_IsValidQuery (a0 : Y58) : Option (Bool) := obind (spec_l1In a0.1 1 5) fun v2 => cond (!v2) (some false) (obind (spec_l1In (List.length a0.2.1 : Int) 1 4) fun v5 => cond (!v5) (some false) (cond (decide (a0.1 < (List.length a0.2.2 : Int))) (some false) (obind (loopF (spec_IsValidQuery_B1 a0) fz 0) fun o1 => (match o1 with
  | .inl _ => (obind (loopF (spec_IsValidQuery_B3 a0) fz 0) fun o3 => (match o3 with
  | .inl _ => (obind (loopF (spec_IsValidQuery_B6 a0) fz 0) fun o6 => (match o6 with
  | .inl _ => (some true)
  | .inr r => some r))
  | .inr r => some r))
  | .inr r => some r))))
theorem spec_IsValidQuery_s {a0 : Y58} {r : Bool} (h : spec_IsValidQuery a0 = some r) : SoundAt Try.prog 157 [.agg (c59_ddd a0)] (.bool r) := by
 unfold spec_IsValidQuery at h
 refine st lit157 rfl (rn 1 rfl (ls_seq_k fun K1 hK1 => rs (sp 2 rfl (?_))))
 obtain ⟨v2, g3, h⟩ := ob_some h
 refine qC (qs rfl (qs rfl (qs rfl eran))) (spec_l1In_s g3) (sp 2 rfl (?_))
 rcases cond_some h with ⟨g4, h⟩ | ⟨g4, h⟩
 ·exact qg 13 g4 rfl (sp 14 rfl (evn (qT rfl rfl (rn 1 rfl (ls_ret ((by cases h; exact ⟨.inl rfl, rfl⟩)))))))
 ·refine qg 13 g4 rfl (sp 3 rfl (?_))
  obtain ⟨v5, g6, h⟩ := ob_some h
  refine oGR rfl rfl (qC (qs rfl (qs rfl (qs rfl eran))) (spec_l1In_s g6) (sp 3 rfl (?_)))
  rcases cond_some h with ⟨g7, h⟩ | ⟨g7, h⟩
  ·exact qg 20 g7 rfl (sp 7 rfl (evn (qk [1, 27] rfl (qT rfl rfl (rn 1 rfl (ls_ret ((by cases h; exact ⟨.inl rfl, rfl⟩))))))))
  ·refine qg 20 g7 rfl (sp 7 rfl (evn ?_))
   rcases cond_some h with ⟨g8, h⟩ | ⟨g8, h⟩
   ·exact qT rfl g8 (rn 1 rfl (ls_ret ((by cases h; exact ⟨.inl rfl, rfl⟩))))
   ·refine qF rfl g8 (ls_skip (hK1 _ (ls_seq_k fun K9 hK9 => rn 1 rfl ?_)))
    obtain ⟨o1, hl, hr1⟩ := ob_some h
    have kXB1 : (.inl ()) = o1 → Jn K9 [(1, .box [nI a0.1, dL c142_d a0.2.1, dL ci64 a0.2.2])] := by
     intro h σ' hk
     subst h
     replace h := hr1
     try dsimp only at h
     refine hK9 _ (lh hk rfl (ls_seq_k fun K36 hK36 => rn 1 rfl ?_))
     obtain ⟨o3, hl, hr3⟩ := ob_some h
     have kXB3 : (.inl ()) = o3 → Jn K36 [(1, .box [nI a0.1, dL c142_d a0.2.1, dL ci64 a0.2.2])] := by
      intro h σ' hk
      subst h
      replace h := hr3
      try dsimp only at h
      refine hK36 _ (lh hk rfl (ls_seq_k fun K52 hK52 => rn 1 rfl ?_))
      obtain ⟨o6, hl, hr6⟩ := ob_some h
      have kXB6 : (.inl ()) = o6 → Jn K52 [] := by
       intro h σ' hk
       subst h
       replace h := hr6
       try dsimp only at h
       exact hK52 _ (lh hk rfl (rn 1 rfl (ls_ret ((by cases h; exact ⟨.inl rfl, rfl⟩)))))
      refine ls_rec (fun (y12 : Int) => [(1, .box [nI a0.1, dL c142_d a0.2.1, dL ci64 a0.2.2]), (8, nI y12)]) _ _ _ _ hl (okr rfl) (fun _ => rfl) ?_
      rintro m y12 N h hN
      unfold spec_IsValidQuery_B6 at h
      refine ls_seq_k fun K53 hK53 => rn 1 rfl ?_
      rcases cond_some h with ⟨g54, h⟩ | ⟨g54, h⟩
      ·refine qT rfl g54 (ls_skip (hK53 _ (ls_seq_k fun K55 hK55 => ls_blk (rd (by kernel_rfl) (sd 3 rfl (?_))))))
       obtain ⟨e56, g57, h⟩ := ob_some h
       refine ed rfl (qI rfl zci64 g57 (sd 4 rfl (?_)))
       obtain ⟨v58, g59, h⟩ := ob_some h
       refine ed rfl (qC (qs rfl (qs rfl (qs rfl eran))) (spec_l1In_s g59) (sd 2 rfl (?_)))
       rcases cond_some h with ⟨g60, h⟩ | ⟨g60, h⟩
       ·exact qgd 121 g60 rfl (sd 12 rfl (evdn (qT rfl rfl (rn 1 rfl (qk [2] rfl (ls_ret ((by cases h; cases hr6; exact ⟨.inl rfl, rfl⟩))))))))
       ·refine qgd 121 g60 rfl (sd 3 rfl (?_))
        obtain ⟨g61, h⟩ := chk_some h
        refine ed rfl (oGR rfl rfl (qSl rfl zci64 g61 (sd 3 rfl (?_))))
        obtain ⟨e62, g63, h⟩ := ob_some h
        refine ed rfl (oGR rfl rfl (qI rfl zci64 g63 (sd 1 rfl (?_))))
        obtain ⟨v64, g65, h⟩ := ob_some h
        refine ed rfl (oGR rfl rfl (qC (qa rfl (erD eci64 _) (qs rfl eran)) (spec_l7Find_s g65) (sd 2 rfl (evdn ?_))))
        rcases cond_some h with ⟨g66, h⟩ | ⟨g66, h⟩
        ·exact qT rfl g66 (rn 1 rfl (ls_ret ((by cases h; cases hr6; exact ⟨.inl rfl, rfl⟩))))
        ·exact qF rfl g66 (ls_skip (hK55 _ (rg (sp 3 rfl (evn (hN _ _ h (okr rfl)))))))
      ·exact qF rfl g54 (ls_exit (kXB6 (Option.some.inj h) _ trivial))
     refine ls_rec (fun (y7 : Int) => [(1, .box [nI a0.1, dL c142_d a0.2.1, dL ci64 a0.2.2]), (5, nI y7)]) _ _ _ _ hl (okr rfl) (fun _ => rfl) ?_
     rintro m y7 N h hN
     unfold spec_IsValidQuery_B3 at h
     refine ls_seq_k fun K37 hK37 => rn 1 rfl ?_
     rcases cond_some h with ⟨g38, h⟩ | ⟨g38, h⟩
     ·refine qT rfl g38 (ls_skip (hK37 _ (ls_seq_k fun K39 hK39 => ls_blk (rn 1 rfl (ls_seq_k fun K40 hK40 => rn 1 rfl ?_)))))
      obtain ⟨o4, hl, hr4⟩ := ob_some h
      have kXB4 : ∀ {z41 : Bool}, z41 = o4 → Jn K40 [(1, .box [nI a0.1, dL c142_d a0.2.1, dL ci64 a0.2.2]), (5, nI y7), (6, .bool z41)] := by
       intro z41 h σ' hk
       subst h
       replace h := hr4
       try dsimp only at h
       refine hK40 _ (lh hk rfl (rn 1 rfl ?_))
       rcases cond_some h with ⟨g51, h⟩ | ⟨g51, h⟩
       ·exact qT rfl g51 (rn 1 rfl (ls_ret ((by cases h; cases hr3; exact ⟨.inl rfl, rfl⟩))))
       ·exact qF rfl g51 (ls_skip (hK39 _ (rg (sp 3 rfl (evn (hN _ _ h (okr rfl)))))))
      refine ls_rec (fun (s : Bool × Int) => match s with | (y10, y11) => [(1, .box [nI a0.1, dL c142_d a0.2.1, dL ci64 a0.2.2]), (5, nI y7), (6, .bool y10), (7, nI y11)]) _ _ _ _ hl (okr rfl) (fun _ => rfl) ?_
      rintro m ⟨y10, y11⟩ N h hN
      unfold spec_IsValidQuery_B4 at h
      dsimp only at h
      refine ls_seq_k fun K42 hK42 => rn 1 rfl ?_
      rcases cond_some h with ⟨g43, h⟩ | ⟨g43, h⟩
      ·refine qT rfl g43 (ls_skip (hK42 _ (ls_seq_k fun K44 hK44 => ls_blk ?_)))
       have kJ5 : ∀ {x45 : Bool}, spec_IsValidQuery_J5 (loopF (spec_IsValidQuery_B4 a0 y7) m) y11 x45 = some o4 → Jn K44 [(1, .box [nI a0.1, dL c142_d a0.2.1, dL ci64 a0.2.2]), (5, nI y7), (6, .bool x45), (7, nI y11)] := by
        intro x45 h σ' hk
        unfold spec_IsValidQuery_J5 at h
        exact hK44 _ (lh hk rfl (rg (sp 3 rfl (evn (hN _ _ h (okr rfl))))))
       refine rg (sp 2 rfl (?_))
       rcases cond_some h with ⟨g46, h⟩ | ⟨g46, h⟩
       ·exact qg 93 g46 rfl (sp 9 rfl (evn (kJ5 h _ (okr rfl))))
       ·refine qg 93 g46 rfl (sp 3 rfl (?_))
        obtain ⟨e47, g48, h⟩ := ob_some h
        refine oGR rfl rfl (qI rfl zc142_d g48 (sp 2 rfl (?_)))
        obtain ⟨v49, g50, h⟩ := ob_some h
        exact oGR rfl rfl (qC (qa rfl (erg (erc rfl (erc (erD eci64 _) rfl))) (qs rfl eran)) (spec_ContainsVariable_s g50) (sp 2 rfl (evn (kJ5 h _ (okr rfl)))))
      ·exact qF rfl g43 (ls_exit (kXB4 (Option.some.inj h) _ (okr rfl)))
     ·exact qF rfl g38 (ls_exit (kXB3 (Option.some.inj h) _ (okr rfl)))
    refine ls_rec (fun (y2 : Int) => [(1, .box [nI a0.1, dL c142_d a0.2.1, dL ci64 a0.2.2]), (3, nI y2)]) _ _ _ _ hl (okr rfl) (fun _ => rfl) ?_
    rintro m y2 N h hN
    unfold spec_IsValidQuery_B1 at h
    refine ls_seq_k fun K10 hK10 => rn 1 rfl ?_
    rcases cond_some h with ⟨g11, h⟩ | ⟨g11, h⟩
    ·refine qT rfl g11 (ls_skip (hK10 _ (ls_seq_k fun K12 hK12 => ls_blk (ls_seq_k fun K13 hK13 => rs (sp 3 rfl (?_))))))
     obtain ⟨e14, g15, h⟩ := ob_some h
     refine qI rfl zc142_d g15 (sp 2 rfl (?_))
     obtain ⟨v16, g17, h⟩ := ob_some h
     refine qC (qs rfl eran) (spec_IsValidName_s g17) (sp 2 rfl (?_))
     rcases cond_some h with ⟨g18, h⟩ | ⟨g18, h⟩
     ·exact qg 43 g18 rfl (sp 10 rfl (evn (qT rfl rfl (rn 1 rfl (ls_ret ((by cases h; cases hr1; exact ⟨.inl rfl, rfl⟩)))))))
     ·refine qg 43 g18 rfl (sp 3 rfl (?_))
      obtain ⟨e19, g20, h⟩ := ob_some h
      refine oGR rfl rfl (qI rfl zc142_d g20 (sp 3 rfl (?_)))
      obtain ⟨v21, g22, h⟩ := ob_some h
      refine oGR rfl rfl (qC (qs rfl (qs rfl (qs rfl eran))) (spec_l1In_s g22) (sp 2 rfl (evn (qk [1, 3, 53] rfl ?_))))
      rcases cond_some h with ⟨g23, h⟩ | ⟨g23, h⟩
      ·exact qT rfl g23 (rn 1 rfl (ls_ret ((by cases h; cases hr1; exact ⟨.inl rfl, rfl⟩))))
      ·refine qF rfl g23 (ls_skip (hK13 _ (rn 1 rfl ?_)))
       obtain ⟨o2, hl, hr2⟩ := ob_some h
       have kXB2 : (.inl ()) = o2 → Jn K12 [(1, .box [nI a0.1, dL c142_d a0.2.1, dL ci64 a0.2.2]), (3, nI y2)] := by
        intro h σ' hk
        subst h
        replace h := hr2
        try dsimp only at h
        exact hK12 _ (lh hk rfl (rg (sp 3 rfl (evn (hN _ _ h (okr rfl))))))
       refine ls_rec (fun (y4 : Int) => [(1, .box [nI a0.1, dL c142_d a0.2.1, dL ci64 a0.2.2]), (3, nI y2), (4, nI y4)]) _ _ _ _ hl (okr rfl) (fun _ => rfl) ?_
       rintro m y4 N h hN
       unfold spec_IsValidQuery_B2 at h
       refine ls_seq_k fun K24 hK24 => rs (sp 4 rfl (?_))
       obtain ⟨e25, g26, h⟩ := ob_some h
       refine qI rfl zc142_d g26 (sp 4 rfl (evn ?_))
       rcases cond_some h with ⟨g27, h⟩ | ⟨g27, h⟩
       ·refine qT rfl g27 (ls_skip (hK24 _ (ls_seq_k fun K28 hK28 => ls_blk (rd (by kernel_rfl) (sd 3 rfl (?_))))))
        obtain ⟨e29, g30, h⟩ := ob_some h
        refine ed rfl (qI rfl zc142_d g30 (sd 3 rfl (?_)))
        obtain ⟨e31, g32, h⟩ := ob_some h
        refine ed rfl (qI rfl zci64 g32 (sd 4 rfl (?_)))
        obtain ⟨v33, g34, h⟩ := ob_some h
        refine ed rfl (qC (qs rfl (qs rfl (qs rfl eran))) (spec_l1In_s g34) (sd 1 rfl (evdn ?_)))
        rcases cond_some h with ⟨g35, h⟩ | ⟨g35, h⟩
        ·exact qT rfl g35 (rn 1 rfl (ls_ret ((by cases h; cases hr2; cases hr1; exact ⟨.inl rfl, rfl⟩))))
        ·exact qF rfl g35 (ls_skip (hK28 _ (qk [1, 3, 4] rfl (rg (sp 3 rfl (evn (hN _ _ h (okr rfl))))))))
       ·exact qF rfl g27 (ls_exit (kXB2 (Option.some.inj h) _ (okr rfl)))
    ·exact qF rfl g11 (ls_exit (kXB1 (Option.some.inj h) _ (okr rfl)))
def spec_l38Ok_B1 (a1 : List Int) (rec : Int → Option (Sum (Unit) (Bool))) (y1 : Int) : Option (Sum (Unit) (Bool)) := cond (decide (y1 < (List.length a1 : Int))) (obind (geti a1 y1) fun e5 => obind (spec_l1In e5 0 6) fun v7 => cond (!v7) (some (.inr false)) (rec (IntKind.i64.wrap (y1 + 1)))) (some (.inl ()))
def spec_l38Ok_J2 (x11 : Bool) : Option (Bool) := some x11
def spec_l38Ok (a0 : Y58) (a1 : List Int) (a2 : Int) : Option (Bool) := obind (loopF (spec_l38Ok_B1 a1) fz 0) fun o1 => (match o1 with
  | .inl _ => (obind (spec_IsValidQuery a0) fun v12 => cond v12 (cond ((List.length a1 : Int) == a0.1) (obind (spec_l1In a2 1 10) fun v16 => spec_l38Ok_J2 v16) (spec_l38Ok_J2 false)) (spec_l38Ok_J2 false))
  | .inr r => some r)
theorem spec_l38Ok_s {a0 : Y58} {a1 : List Int} {a2 : Int} {r : Bool} (h : spec_l38Ok a0 a1 a2 = some r) : SoundAt Try.prog 103 [.agg (c59_ddd a0), dL ci64 a1, nI a2] (.bool r) := by
 unfold spec_l38Ok at h
 refine st lit103 rfl (rn 1 rfl (ls_seq_k fun K1 hK1 => rn 1 rfl ?_))
 obtain ⟨o1, hl, hr1⟩ := ob_some h
 have kXB1 : (.inl ()) = o1 → Jn K1 [(1, dL ci64 a1), (2, nI a2), (3, .box [nI a0.1, dL c142_d a0.2.1, dL ci64 a0.2.2])] := by
  intro h σ' hk
  subst h
  replace h := hr1
  try dsimp only at h
  refine hK1 _ (lh hk rfl (rk fun K10 hK10 => ?_))
  have kJ2 : ∀ {x11 : Bool}, spec_l38Ok_J2 x11 = some r → Jn K10 [(6, .bool x11)] := by
   intro x11 h σ' hk
   unfold spec_l38Ok_J2 at h
   exact hK10 _ (lh hk rfl (ls_ret ((by cases h; exact ⟨.inl rfl, rfl⟩))))
  refine sp 1 rfl (?_)
  obtain ⟨v12, g13, h⟩ := ob_some h
  refine qC (qa rfl (erg (erc rfl (erc (erD ec142_d _) (erc (erD eci64 _) rfl)))) eran) (spec_IsValidQuery_s g13) (sp 1 rfl (?_))
  rcases cond_some h with ⟨g14, h⟩ | ⟨g14, h⟩
  ·refine qg 22 g14 rfl (sp 7 rfl (?_))
   rcases cond_some h with ⟨g15, h⟩ | ⟨g15, h⟩
   ·refine qg 29 g15 rfl (sp 1 rfl (?_))
    obtain ⟨v16, g17, h⟩ := ob_some h
    exact oGR rfl rfl (qC (qs rfl (qs rfl (qs rfl eran))) (spec_l1In_s g17) (sp 2 rfl (evn (kJ2 h _ (okr rfl)))))
   ·exact qg 29 g15 rfl (sp 4 rfl (evn (kJ2 h _ (okr rfl))))
  ·exact qg 22 g14 rfl (sp 11 rfl (evn (kJ2 h _ (okr rfl))))
 refine ls_rec (fun (y1 : Int) => [(1, dL ci64 a1), (2, nI a2), (3, .box [nI a0.1, dL c142_d a0.2.1, dL ci64 a0.2.2]), (7, nI y1)]) _ _ _ _ hl (okr rfl) (fun _ => rfl) ?_
 rintro m y1 N h hN
 unfold spec_l38Ok_B1 at h
 refine ls_seq_k fun K2 hK2 => rn 1 rfl ?_
 rcases cond_some h with ⟨g3, h⟩ | ⟨g3, h⟩
 ·refine qT rfl g3 (ls_skip (hK2 _ (ls_seq_k fun K4 hK4 => ls_blk (rs (sp 2 rfl (?_))))))
  obtain ⟨e5, g6, h⟩ := ob_some h
  refine qI rfl zci64 g6 (sp 1 rfl (?_))
  obtain ⟨v7, g8, h⟩ := ob_some h
  refine qC (qs rfl (qs rfl (qs rfl eran))) (spec_l1In_s g8) (sp 1 rfl (evn ?_))
  rcases cond_some h with ⟨g9, h⟩ | ⟨g9, h⟩
  ·exact qT rfl g9 (rn 1 rfl (ls_ret ((by cases h; cases hr1; exact ⟨.inl rfl, rfl⟩))))
  ·exact qF rfl g9 (ls_skip (hK4 _ (rg (sp 3 rfl (evn (hN _ _ h (okr rfl)))))))
 ·exact qF rfl g3 (ls_exit (kXB1 (Option.some.inj h) _ (okr rfl)))
def spec_l38Pow_B1 (a0 : Int) (a1 : Int) (rec : (Int × Int) → Option (Sum (Int) (Int))) (s : Int × Int) : Option (Sum (Int) (Int)) := match s with
  | (y1, y2) => cond (decide (y2 < a1)) (cond (decide (100 < (IntKind.i64.wrap (y1 * a0)))) (some (.inr (-1))) (rec ((IntKind.i64.wrap (y1 * a0)), (IntKind.i64.wrap (y2 + 1))))) (some (.inl y1))
def spec_l38Pow (a0 : Int) (a1 : Int) : Option (Int) := obind (loopF (spec_l38Pow_B1 a0 a1) fz (1, 0)) fun o1 => (match o1 with
  | .inl z2 => (some z2)
  | .inr r => some r)
theorem spec_l38Pow_s {a0 : Int} {a1 : Int} {r : Int} (h : spec_l38Pow a0 a1 = some r) : SoundAt Try.prog 104 [nI a0, nI a1] (nI r) := by
 unfold spec_l38Pow at h
 refine st lit104 rfl (rn 2 rfl (ls_seq_k fun K1 hK1 => rn 1 rfl ?_))
 obtain ⟨o1, hl, hr1⟩ := ob_some h
 have kXB1 : ∀ {z2 : Int}, (.inl z2) = o1 → Jn K1 [(5, nI z2)] := by
  intro z2 h σ' hk
  subst h
  replace h := hr1
  try dsimp only at h
  exact hK1 _ (lh hk rfl (rn 1 rfl (ls_ret ((by cases h; exact ⟨.inl rfl, rfl⟩)))))
 refine ls_rec (fun (s : Int × Int) => match s with | (y1, y2) => [(0, nI a0), (1, nI a1), (5, nI y1), (6, nI y2)]) _ _ _ _ hl (okr rfl) (fun _ => rfl) ?_
 rintro m ⟨y1, y2⟩ N h hN
 unfold spec_l38Pow_B1 at h
 dsimp only at h
 refine ls_seq_k fun K3 hK3 => rn 1 rfl ?_
 rcases cond_some h with ⟨g4, h⟩ | ⟨g4, h⟩
 ·refine qT rfl g4 (ls_skip (hK3 _ (ls_seq_k fun K5 hK5 => ls_blk (rn 2 rfl ?_))))
  rcases cond_some h with ⟨g6, h⟩ | ⟨g6, h⟩
  ·exact qT rfl g6 (rn 1 rfl (ls_ret ((by cases h; cases hr1; exact ⟨.inl rfl, rfl⟩))))
  ·exact qF rfl g6 (ls_skip (hK5 _ (rg (sp 3 rfl (evn (hN _ _ h (okr rfl)))))))
 ·exact qF rfl g4 (ls_exit (kXB1 (Option.some.inj h) _ (okr rfl)))
def spec_FullRelation_B3 (a0 : List Int) (y9 : List (List Int)) (y10 : Int) (y22 : Int) (rec : ((List (List Int)) × Int) → Option ((List (List Int)))) (s : (List (List Int)) × Int) : Option ((List (List Int))) := match s with
  | (y25, y26) => obind (geti a0 y10) fun e23 => cond (decide (y26 < e23)) (obind (geti y9 y22) fun e27 => chk (List.length ([] : List Int) + List.length e27 ≤ lim) (chk (List.length (([] : List Int) ++ e27) + List.length [y26] ≤ lim) (chk (List.length y25 + List.length ([(([] : List Int) ++ e27) ++ [y26]]) ≤ lim) (rec ((y25 ++ ([(([] : List Int) ++ e27) ++ [y26]])), (IntKind.i64.wrap (y26 + 1))))))) (some y25)
def spec_FullRelation_B2 (a0 : List Int) (y9 : List (List Int)) (y10 : Int) (rec : ((List (List Int)) × Int) → Option ((List (List Int)))) (s : (List (List Int)) × Int) : Option ((List (List Int))) := match s with
  | (y21, y22) => cond (decide (y22 < (List.length y9 : Int))) (obind (loopF (spec_FullRelation_B3 a0 y9 y10 y22) fz (y21, 0)) fun z21 => rec (z21, (IntKind.i64.wrap (y22 + 1)))) (some y21)
def spec_FullRelation_B1 (a0 : List Int) (rec : ((List (List Int)) × Int) → Option (Sum ((List (List Int))) (Y25 × Bool))) (s : (List (List Int)) × Int) : Option (Sum ((List (List Int))) (Y25 × Bool)) := match s with
  | (y9, y10) => cond (decide (y10 < (List.length a0 : Int))) (obind (geti a0 y10) fun e7 => obind (spec_l1In e7 0 100) fun v9 => cond (!v9) (some (.inr ((0, []), false))) (cond (decide (5 < (List.length a0 : Int))) (some (.inr ((0, []), false))) (obind (geti a0 y10) fun e13 => cond (decide (4000 < (IntKind.i64.wrap ((List.length y9 : Int) * e13)))) (some (.inr ((0, []), false))) (obind (loopF (spec_FullRelation_B2 a0 y9 y10) fz (([] : List (List Int)), 0)) fun z17 => rec (z17, (IntKind.i64.wrap (y10 + 1))))))) (some (.inl y9))
def spec_FullRelation (a0 : List Int) : Option (Y25 × Bool) := obind (loopF (spec_FullRelation_B1 a0) fz (([[]]), 0)) fun o1 => (match o1 with
  | .inl z2 => (some (((List.length a0 : Int), z2), true))
  | .inr r => some r)
theorem spec_FullRelation_s {a0 : List Int} {r : Y25 × Bool} (h : spec_FullRelation a0 = some r) : SoundAt Try.prog 105 [dL ci64 a0] (.tup [.agg (c26_oo r.1), .bool r.2]) := by
 unfold spec_FullRelation at h
 refine st lit105 rfl (rn 1 rfl (rs (qBs ci64 [] rfl rfl rfl zci64 (qBs c31_o [[]] rfl rfl rfl zc31_o (sp 1 rfl (evn (ls_seq_k fun K1 hK1 => rn 1 rfl ?_)))))))
 obtain ⟨o1, hl, hr1⟩ := ob_some h
 have kXB1 : ∀ {z2 : List (List Int)}, (.inl z2) = o1 → Jn K1 [(0, dL ci64 a0), (2, .box [nI 0, oL 31 c31_o []]), (4, oL 31 c31_o z2)] := by
  intro z2 h σ' hk
  subst h
  replace h := hr1
  try dsimp only at h
  exact hK1 _ (lh hk rfl (rn 1 rfl (ls_ret ((by cases h; exact ⟨.inl rfl, rfl⟩)))))
 refine ls_rec (fun (s : (List (List Int)) × Int) => match s with | (y9, y10) => [(0, dL ci64 a0), (2, .box [nI 0, oL 31 c31_o []]), (4, oL 31 c31_o y9), (5, nI y10)]) _ _ _ _ hl (okr rfl) (fun _ => rfl) ?_
 rintro m ⟨y9, y10⟩ N h hN
 unfold spec_FullRelation_B1 at h
 dsimp only at h
 refine ls_seq_k fun K3 hK3 => rn 1 rfl ?_
 rcases cond_some h with ⟨g4, h⟩ | ⟨g4, h⟩
 ·refine qT rfl g4 (ls_skip (hK3 _ (ls_seq_k fun K5 hK5 => ls_blk (ls_seq_k fun K6 hK6 => rs (sp 2 rfl (?_))))))
  obtain ⟨e7, g8, h⟩ := ob_some h
  refine qI rfl zci64 g8 (sp 1 rfl (?_))
  obtain ⟨v9, g10, h⟩ := ob_some h
  refine qC (qs rfl (qs rfl (qs rfl eran))) (spec_l1In_s g10) (sp 2 rfl (?_))
  rcases cond_some h with ⟨g11, h⟩ | ⟨g11, h⟩
  ·exact qg 23 g11 rfl (sp 14 rfl (evn (qT rfl rfl (rn 1 rfl (qk [2, 3] rfl (ls_ret ((by cases h; cases hr1; exact ⟨.inl rfl, rfl⟩))))))))
  ·refine qg 23 g11 rfl (sp 5 rfl (?_))
   rcases cond_some h with ⟨g12, h⟩ | ⟨g12, h⟩
   ·exact qg 28 g12 rfl (sp 9 rfl (evn (qT rfl rfl (rn 1 rfl (ls_ret ((by cases h; cases hr1; exact ⟨.inl rfl, rfl⟩)))))))
   ·refine qg 28 g12 rfl (sp 4 rfl (?_))
    obtain ⟨e13, g14, h⟩ := ob_some h
    refine oGR rfl rfl (qI rfl zci64 g14 (sp 4 rfl (evn ?_)))
    rcases cond_some h with ⟨g15, h⟩ | ⟨g15, h⟩
    ·exact qT rfl g15 (rn 1 rfl (ls_ret ((by cases h; cases hr1; exact ⟨.inl rfl, rfl⟩))))
    ·refine qF rfl g15 (ls_skip (hK6 _ (qk [0, 2, 4, 5] rfl (rs (qBs c31_o [] rfl rfl rfl zc31_o (sp 1 rfl (evn (ls_seq_k fun K16 hK16 => rn 1 rfl ?_))))))))
     obtain ⟨o2, hl, hr2⟩ := ob_some h
     have kXB2 : ∀ {z17 : List (List Int)}, z17 = o2 → Jn K16 [(0, dL ci64 a0), (2, .box [nI 0, oL 31 c31_o []]), (5, nI y10), (6, oL 31 c31_o z17)] := by
      intro z17 h σ' hk
      subst h
      replace h := hr2
      try dsimp only at h
      exact hK16 _ (lh hk rfl (rg (sp 2 rfl (evn (hK5 _ (rg (sp 3 rfl (evn (hN _ _ h (okr rfl))))))))))
     refine ls_rec (fun (s : (List (List Int)) × Int) => match s with | (y21, y22) => [(0, dL ci64 a0), (2, .box [nI 0, oL 31 c31_o []]), (4, oL 31 c31_o y9), (5, nI y10), (6, oL 31 c31_o y21), (7, nI y22)]) _ _ _ _ hl (okr rfl) (fun _ => rfl) ?_
     rintro m ⟨y21, y22⟩ N h hN
     unfold spec_FullRelation_B2 at h
     dsimp only at h
     refine ls_seq_k fun K18 hK18 => rn 1 rfl ?_
     rcases cond_some h with ⟨g19, h⟩ | ⟨g19, h⟩
     ·refine qT rfl g19 (ls_skip (hK18 _ (ls_seq_k fun K20 hK20 => ls_blk (rn 1 rfl ?_))))
      obtain ⟨o3, hl, hr3⟩ := ob_some h
      have kXB3 : ∀ {z21 : List (List Int)}, z21 = o3 → Jn K20 [(0, dL ci64 a0), (2, .box [nI 0, oL 31 c31_o []]), (4, oL 31 c31_o y9), (5, nI y10), (6, oL 31 c31_o z21), (7, nI y22)] := by
       intro z21 h σ' hk
       subst h
       replace h := hr3
       try dsimp only at h
       exact hK20 _ (lh hk rfl (rg (sp 3 rfl (evn (hN _ _ h (okr rfl))))))
      refine ls_rec (fun (s : (List (List Int)) × Int) => match s with | (y25, y26) => [(0, dL ci64 a0), (2, .box [nI 0, oL 31 c31_o []]), (4, oL 31 c31_o y9), (5, nI y10), (6, oL 31 c31_o y25), (7, nI y22), (8, nI y26)]) _ _ _ _ hl (okr rfl) (fun _ => rfl) ?_
      rintro m ⟨y25, y26⟩ N h hN
      unfold spec_FullRelation_B3 at h
      dsimp only at h
      refine ls_seq_k fun K22 hK22 => rs (sp 3 rfl (?_))
      obtain ⟨e23, g24, h⟩ := ob_some h
      refine qI rfl zci64 g24 (sp 2 rfl (evn ?_))
      rcases cond_some h with ⟨g25, h⟩ | ⟨g25, h⟩
      ·refine qT rfl g25 (ls_skip (hK22 _ (ls_seq_k fun K26 hK26 => ls_blk (rg (sp 1 rfl (qBs ci64 [] rfl rfl rfl zci64 (sp 2 rfl (?_))))))))
       obtain ⟨e27, g28, h⟩ := ob_some h
       refine qI rfl zc31_o g28 (sp 1 rfl (?_))
       obtain ⟨g29, h⟩ := chk_some h
       refine qA ci64 ([] : List Int) e27 rfl rfl (flat_len zci64 e27) (map_dg (fun _ => rfl) _) g29 (sp 1 rfl (qBs ci64 [y26] rfl rfl rfl zci64 (?_)))
       obtain ⟨g30, h⟩ := chk_some h
       refine qA ci64 (([] : List Int) ++ e27) [y26] rfl rfl (flat_len zci64 [y26]) rfl g30 (qBs c31_o [(([] : List Int) ++ e27) ++ [y26]] rfl rfl rfl zc31_o (?_))
       obtain ⟨g31, h⟩ := chk_some h
       exact qA c31_o y25 ([(([] : List Int) ++ e27) ++ [y26]]) rfl rfl (flat_len zc31_o ([(([] : List Int) ++ e27) ++ [y26]])) rfl g31 (sp 1 rfl (evn (hK26 _ (rg (sp 3 rfl (evn (hN _ _ h (okr rfl))))))))
      ·exact qF rfl g25 (ls_exit (kXB3 (Option.some.inj h) _ (okr rfl)))
     ·exact qF rfl g19 (ls_exit (kXB2 (Option.some.inj h) _ (okr rfl)))
 ·exact qF rfl g4 (ls_exit (kXB1 (Option.some.inj h) _ (okr rfl)))
def spec_l6Copy_B1 (a0 : List Y106) (rec : ((List Y106) × Int) → Option ((List Y106))) (s : (List Y106) × Int) : Option ((List Y106)) := match s with
  | (y1, y2) => cond (decide (y2 < (List.length a0 : Int))) (obind (geti a0 y2) fun e6 => obind (spec_l5Copy e6.2) fun v8 => obind (geti a0 y2) fun e10 => chk (List.length y1 + List.length [(e10.1, v8)] ≤ lim) (rec ((y1 ++ [(e10.1, v8)]), (IntKind.i64.wrap (y2 + 1))))) (some y1)
def spec_l6Copy (a0 : List Y106) : Option ((List Y106)) := obind (loopF (spec_l6Copy_B1 a0) fz (([] : List Y106), 0)) fun z2 => some z2
theorem spec_l6Copy_s {a0 : List Y106} {r : (List Y106)} (h : spec_l6Copy a0 = some r) : SoundAt Try.prog 122 [.agg [dL c107_dd a0]] (.agg [oL 107 c107_oo r]) := by
 unfold spec_l6Copy at h
 refine st lit122 rfl (rn 2 rfl (ls_seq_k fun K1 hK1 => rn 1 rfl ?_))
 obtain ⟨o1, hl, hr1⟩ := ob_some h
 have kXB1 : ∀ {z2 : List Y106}, z2 = o1 → Jn K1 [(2, .box [oL 107 c107_oo []]), (3, .box [oL 107 c107_oo z2])] := by
  intro z2 h σ' hk
  subst h
  replace h := hr1
  try dsimp only at h
  exact hK1 _ (lh hk rfl (rn 1 rfl (ls_ret ((by cases h; exact ⟨.inl rfl, rfl⟩)))))
 refine ls_rec (fun (s : (List Y106) × Int) => match s with | (y1, y2) => [(1, .box [dL c107_dd a0]), (2, .box [oL 107 c107_oo []]), (3, .box [oL 107 c107_oo y1]), (4, nI y2)]) _ _ _ _ hl (okr rfl) (fun _ => rfl) ?_
 rintro m ⟨y1, y2⟩ N h hN
 unfold spec_l6Copy_B1 at h
 dsimp only at h
 refine ls_seq_k fun K3 hK3 => rn 1 rfl ?_
 rcases cond_some h with ⟨g4, h⟩ | ⟨g4, h⟩
 ·refine qT rfl g4 (ls_skip (hK3 _ (ls_seq_k fun K5 hK5 => ls_blk (rs (sp 3 rfl (?_))))))
  obtain ⟨e6, g7, h⟩ := ob_some h
  refine qI rfl zc107_dd g7 (sp 2 rfl (?_))
  obtain ⟨v8, g9, h⟩ := ob_some h
  refine qC (qa rfl (erg (erc rfl (erc (erD ec31_d _) rfl))) eran) (spec_l5Copy_s g9) (sp 2 rfl (evn (rgd (by kernel_rfl) (sd 5 rfl (?_)))))
  obtain ⟨e10, g11, h⟩ := ob_some h
  refine ed rfl (qI rfl zc107_dd g11 (sd 4 rfl (ed rfl (qBs c107_oo [(e10.1, v8)] rfl rfl rfl zc107_oo (?_)))))
  obtain ⟨g12, h⟩ := chk_some h
  exact ed rfl (qA c107_oo y1 [(e10.1, v8)] rfl rfl (flat_len zc107_oo [(e10.1, v8)]) rfl g12 (sd 2 rfl (evdn (hK5 _ (rg (sp 3 rfl (evn (hN _ _ h (okr rfl)))))))))
 ·exact qF rfl g4 (ls_exit (kXB1 (Option.some.inj h) _ (okr rfl)))
def spec_SetRelation_J4 (rec : ((List Y106) × Bool × Int) → Option ((List Y106) × Bool)) (y3 : Int) (x13 : Bool) (x14 : List Y106) : Option ((List Y106) × Bool) := rec (x14, x13, (IntKind.i64.wrap (y3 + 1)))
def spec_SetRelation_J3 (rec : ((List Y106) × Bool × Int) → Option ((List Y106) × Bool)) (a1 : List UInt8) (y3 : Int) (e7 : Y106) (x12 : List Y106) (x13 : Bool) : Option ((List Y106) × Bool) := cond (!(e7.1 == a1)) (chk (List.length x12 + List.length [e7] ≤ lim) (spec_SetRelation_J4 rec y3 x13 (x12 ++ [e7]))) (spec_SetRelation_J4 rec y3 x13 x12)
def spec_SetRelation_J2 (rec : ((List Y106) × Bool × Int) → Option ((List Y106) × Bool)) (a1 : List UInt8) (a2 : Y25) (y1 : List Y106) (y2 : Bool) (y3 : Int) (e7 : Y106) (x11 : Bool) : Option ((List Y106) × Bool) := cond x11 (chk (List.length y1 + List.length [(a1, a2)] ≤ lim) (spec_SetRelation_J3 rec a1 y3 e7 (y1 ++ [(a1, a2)]) true)) (spec_SetRelation_J3 rec a1 y3 e7 y1 y2)
def spec_SetRelation_B1 (a0 : List Y106) (a1 : List UInt8) (a2 : Y25) (rec : ((List Y106) × Bool × Int) → Option ((List Y106) × Bool)) (s : (List Y106) × Bool × Int) : Option ((List Y106) × Bool) := match s with
  | (y1, y2, y3) => cond (decide (y3 < (List.length a0 : Int))) (obind (geti a0 y3) fun e7 => cond (!y2) (spec_SetRelation_J2 rec a1 a2 y1 y2 y3 e7 (!Op.bytesLess e7.1 a1)) (spec_SetRelation_J2 rec a1 a2 y1 y2 y3 e7 false)) (some (y1, y2))
def spec_SetRelation_J6 (a0 : List Y106) (x21 : List Y106) (x24 : Bool) : Option ((List Y106) × Bool) := cond x24 (obind (spec_l6Copy a0) fun v26 => some (v26, false)) (obind (spec_l6Copy x21) fun v28 => some (v28, true))
def spec_SetRelation_J5 (a0 : List Y106) (x21 : List Y106) : Option ((List Y106) × Bool) := obind (spec_IsValidDatabase a0) fun v30 => cond (!v30) (spec_SetRelation_J6 a0 x21 true) (obind (spec_IsValidDatabase x21) fun v33 => spec_SetRelation_J6 a0 x21 (!v33))
def spec_SetRelation (a0 : List Y106) (a1 : List UInt8) (a2 : Y25) : Option ((List Y106) × Bool) := obind (loopF (spec_SetRelation_B1 a0 a1 a2) fz (([] : List Y106), false, 0)) fun o1 => (match o1 with
  | (z2, z3) => (cond (!z3) (chk (List.length z2 + List.length [(a1, a2)] ≤ lim) (spec_SetRelation_J5 a0 (z2 ++ [(a1, a2)]))) (spec_SetRelation_J5 a0 z2)))
theorem spec_SetRelation_s {a0 : List Y106} {a1 : List UInt8} {a2 : Y25} {r : (List Y106) × Bool} (h : spec_SetRelation a0 a1 a2 = some r) : SoundAt Try.prog 106 [.agg [dL c107_dd a0], .str a1, .agg (c26_dd a2)] (.tup [.agg [oL 107 c107_oo r.1], .bool r.2]) := by
 unfold spec_SetRelation at h
 refine st lit106 rfl (rn 3 rfl (ls_seq_k fun K1 hK1 => rn 1 rfl ?_))
 obtain ⟨o1, hl, hr1⟩ := ob_some h
 have kXB1 : ∀ {z2 : List Y106} {z3 : Bool}, (z2, z3) = o1 → Jn K1 [(1, .str a1), (3, .box [dL c107_dd a0]), (5, .box [nI a2.1, dL c31_d a2.2]), (6, .box [oL 107 c107_oo []]), (8, .box [oL 107 c107_dd z2]), (9, .bool z3)] := by
  intro z2 z3 h σ' hk
  subst h
  replace h := hr1
  try dsimp only at h
  refine hK1 _ (lh hk rfl (ls_seq_k fun K20 hK20 => rn 1 rfl ?_))
  have kJ5 : ∀ {x21 : List Y106}, spec_SetRelation_J5 a0 x21 = some r → Jn K20 [(3, .box [dL c107_dd a0]), (6, .box [oL 107 c107_oo []]), (8, .box [oL 107 c107_dd x21])] := by
   intro x21 h σ' hk
   unfold spec_SetRelation_J5 at h
   refine hK20 _ (lh hk rfl (ls_seq_k fun K22 hK22 => rk fun K23 hK23 => ?_))
   have kJ6 : ∀ {x24 : Bool}, spec_SetRelation_J6 a0 x21 x24 = some r → Jn K23 [(3, .box [dL c107_dd a0]), (6, .box [oL 107 c107_oo []]), (8, .box [oL 107 c107_dd x21]), (68, .bool x24)] := by
    intro x24 h σ' hk
    unfold spec_SetRelation_J6 at h
    refine hK23 _ (lh hk rfl ?_)
    rcases cond_some h with ⟨g25, h⟩ | ⟨g25, h⟩
    ·refine qT rfl g25 (rs (sp 1 rfl (?_)))
     obtain ⟨v26, g27, h⟩ := ob_some h
     exact qC (qa rfl (erg (erc (erD ec107_dd _) rfl)) eran) (spec_l6Copy_s g27) (sp 2 rfl (evn (ls_ret ((by cases h; exact ⟨.inl rfl, rfl⟩)))))
    ·refine qF rfl g25 (ls_skip (hK22 _ (rs (sp 1 rfl (?_)))))
     obtain ⟨v28, g29, h⟩ := ob_some h
     exact qC (qa rfl (erg (erc (erD ec107_dd _) rfl)) eran) (spec_l6Copy_s g29) (sp 2 rfl (evn (ls_ret ((by cases h; exact ⟨.inl rfl, rfl⟩)))))
   refine sp 1 rfl (?_)
   obtain ⟨v30, g31, h⟩ := ob_some h
   refine qC (qa rfl (erg (erc (erD ec107_dd _) rfl)) eran) (spec_IsValidDatabase_s g31) (sp 2 rfl (?_))
   rcases cond_some h with ⟨g32, h⟩ | ⟨g32, h⟩
   ·exact qg 64 g32 rfl (sp 4 rfl (evn (kJ6 h _ (okr rfl))))
   ·refine qg 64 g32 rfl (sp 1 rfl (?_))
    obtain ⟨v33, g34, h⟩ := ob_some h
    exact oGR rfl rfl (qC (qa rfl (erg (erc (erD ec107_dd _) rfl)) eran) (spec_IsValidDatabase_s g34) (sp 2 rfl (evn (kJ6 h _ (okr rfl)))))
  rcases cond_some h with ⟨g35, h⟩ | ⟨g35, h⟩
  ·refine qT rfl g35 (rg (sp 5 rfl (qBs c107_dd [(a1, a2)] rfl rfl rfl zc107_dd (?_))))
   obtain ⟨g36, h⟩ := chk_some h
   exact qA c107_dd z2 [(a1, a2)] rfl rfl (flat_len zc107_dd [(a1, a2)]) rfl g36 (sp 2 rfl (evn (kJ5 h _ (okr rfl))))
  ·exact qF rfl g35 (ls_skip (kJ5 h _ (okr rfl)))
 refine ls_rec (fun (s : (List Y106) × Bool × Int) => match s with | (y1, y2, y3) => [(1, .str a1), (3, .box [dL c107_dd a0]), (5, .box [nI a2.1, dL c31_d a2.2]), (6, .box [oL 107 c107_oo []]), (8, .box [oL 107 c107_dd y1]), (9, .bool y2), (10, nI y3)]) _ _ _ _ hl (okr rfl) (fun _ => rfl) ?_
 rintro m ⟨y1, y2, y3⟩ N h hN
 unfold spec_SetRelation_B1 at h
 dsimp only at h
 refine ls_seq_k fun K4 hK4 => rn 1 rfl ?_
 rcases cond_some h with ⟨g5, h⟩ | ⟨g5, h⟩
 ·refine qT rfl g5 (ls_skip (hK4 _ (ls_seq_k fun K6 hK6 => ls_blk (rs (sp 3 rfl (?_))))))
  obtain ⟨e7, g8, h⟩ := ob_some h
  refine qI rfl zc107_dd g8 (sp 3 rfl (evn (ls_seq_k fun K9 hK9 => rk fun K10 hK10 => ?_)))
  have kJ2 : ∀ {x11 : Bool}, spec_SetRelation_J2 (loopF (spec_SetRelation_B1 a0 a1 a2) m) a1 a2 y1 y2 y3 e7 x11 = some o1 → Jn K10 [(1, .str a1), (3, .box [dL c107_dd a0]), (5, .box [nI a2.1, dL c31_d a2.2]), (6, .box [oL 107 c107_oo []]), (8, .box [oL 107 c107_dd y1]), (9, .bool y2), (10, nI y3), (11, .box [.str e7.1, nI e7.2.1, dL c31_d e7.2.2]), (32, .bool x11)] := by
   intro x11 h σ' hk
   unfold spec_SetRelation_J2 at h
   refine hK10 _ (lh hk rfl ?_)
   have kJ3 : ∀ {x12 : List Y106} {x13 : Bool}, spec_SetRelation_J3 (loopF (spec_SetRelation_B1 a0 a1 a2) m) a1 y3 e7 x12 x13 = some o1 → Jn K9 [(1, .str a1), (3, .box [dL c107_dd a0]), (5, .box [nI a2.1, dL c31_d a2.2]), (6, .box [oL 107 c107_oo []]), (8, .box [oL 107 c107_dd x12]), (9, .bool x13), (10, nI y3), (11, .box [.str e7.1, nI e7.2.1, dL c31_d e7.2.2])] := by
    intro x12 x13 h σ' hk
    unfold spec_SetRelation_J3 at h
    refine hK9 _ (lh hk rfl (rn 1 rfl ?_))
    have kJ4 : ∀ {x14 : List Y106}, spec_SetRelation_J4 (loopF (spec_SetRelation_B1 a0 a1 a2) m) y3 x13 x14 = some o1 → Jn K6 [(1, .str a1), (3, .box [dL c107_dd a0]), (5, .box [nI a2.1, dL c31_d a2.2]), (6, .box [oL 107 c107_oo []]), (8, .box [oL 107 c107_dd x14]), (9, .bool x13), (10, nI y3)] := by
     intro x14 h σ' hk
     unfold spec_SetRelation_J4 at h
     exact hK6 _ (lh hk rfl (rg (sp 3 rfl (evn (hN _ _ h (okr rfl))))))
    rcases cond_some h with ⟨g15, h⟩ | ⟨g15, h⟩
    ·refine qT rfl g15 (rg (sp 3 rfl (qBs c107_dd [e7] rfl rfl rfl zc107_dd (?_))))
     obtain ⟨g16, h⟩ := chk_some h
     exact qA c107_dd x12 [e7] rfl rfl (flat_len zc107_dd [e7]) rfl g16 (sp 2 rfl (evn (kJ4 h _ (okr rfl))))
    ·exact qF rfl g15 (ls_skip (kJ4 h _ (okr rfl)))
   rcases cond_some h with ⟨g17, h⟩ | ⟨g17, h⟩
   ·refine qT rfl g17 (rs (sp 5 rfl (qBs c107_dd [(a1, a2)] rfl rfl rfl zc107_dd (?_))))
    obtain ⟨g18, h⟩ := chk_some h
    exact qA c107_dd y1 [(a1, a2)] rfl rfl (flat_len zc107_dd [(a1, a2)]) rfl g18 (sp 2 rfl (evn (rg (sp 1 rfl (evn (kJ3 h _ (okr rfl)))))))
   ·exact qF rfl g17 (ls_skip (kJ3 h _ (okr rfl)))
  refine sp 3 rfl (?_)
  rcases cond_some h with ⟨g19, h⟩ | ⟨g19, h⟩
  ·exact qg 27 g19 rfl (sp 5 rfl (evn (kJ2 h _ (okr rfl))))
  ·exact qg 27 g19 rfl (sp 5 rfl (evn (kJ2 h _ (okr rfl))))
 ·exact qF rfl g5 (ls_exit (kXB1 (Option.some.inj h) _ (okr rfl)))
def spec_TightDatabase_B2 (a0 : Y58) (a1 : List Int) (a2 : Int) (y4 : Int) (rec : ((List Int) × Int) → Option ((List Int))) (s : (List Int) × Int) : Option ((List Int)) := match s with
  | (y7, y8) => obind (geti a0.2.1 y4) fun e13 => cond (decide (y8 < (List.length e13.2 : Int))) (obind (geti a0.2.1 y4) fun e17 => obind (geti e17.2 y8) fun e19 => obind (geti a1 e19) fun e21 => obind (spec_l38Pow a2 e21) fun v23 => chk (List.length y7 + List.length [v23] ≤ lim) (rec ((y7 ++ [v23]), (IntKind.i64.wrap (y8 + 1))))) (some y7)
def spec_TightDatabase_B1 (a0 : Y58) (a1 : List Int) (a2 : Int) (rec : ((List Y106) × Int) → Option (Sum ((List Y106)) ((List Y106) × Bool))) (s : (List Y106) × Int) : Option (Sum ((List Y106)) ((List Y106) × Bool)) := match s with
  | (y3, y4) => cond (decide (y4 < (List.length a0.2.1 : Int))) (obind (loopF (spec_TightDatabase_B2 a0 a1 a2 y4) fz (([] : List Int), 0)) fun z11 => obind (spec_FullRelation z11) fun v26 => obind (geti a0.2.1 y4) fun e28 => obind (spec_LookupRelation y3 e28.1) fun v30 => obind (geti a0.2.1 y4) fun e32 => obind (spec_SetRelation y3 e32.1 v26.1) fun v34 => cond (!v26.2) (some (.inr ([], false))) (cond v30.2 (some (.inr ([], false))) (cond (!v34.2) (some (.inr ([], false))) (rec (v34.1, (IntKind.i64.wrap (y4 + 1))))))) (some (.inl y3))
def spec_TightDatabase (a0 : Y58) (a1 : List Int) (a2 : Int) : Option ((List Y106) × Bool) := obind (spec_l38Ok a0 a1 a2) fun v2 => cond (!v2) (some ([], false)) (obind (loopF (spec_TightDatabase_B1 a0 a1 a2) fz (([] : List Y106), 0)) fun o1 => (match o1 with
  | .inl z6 => (some (z6, true))
  | .inr r => some r))
theorem spec_TightDatabase_s {a0 : Y58} {a1 : List Int} {a2 : Int} {r : (List Y106) × Bool} (h : spec_TightDatabase a0 a1 a2 = some r) : SoundAt Try.prog 31 [.agg (c59_ddd a0), dL ci64 a1, nI a2] (.tup [.agg [oL 107 c107_oo r.1], .bool r.2]) := by
 unfold spec_TightDatabase at h
 refine st lit31 rfl (rn 2 rfl (ls_seq_k fun K1 hK1 => rs (sp 3 rfl (?_))))
 obtain ⟨v2, g3, h⟩ := ob_some h
 refine qC (qa rfl (erg (erc rfl (erc (erD ec142_d _) (erc (erD eci64 _) rfl)))) (qa rfl (erD eci64 _) (qs rfl eran))) (spec_l38Ok_s g3) (sp 1 rfl (evn ?_))
 rcases cond_some h with ⟨g4, h⟩ | ⟨g4, h⟩
 ·exact qT rfl g4 (rn 1 rfl (ls_ret ((by cases h; exact ⟨.inl rfl, rfl⟩))))
 ·refine qF rfl g4 (ls_skip (hK1 _ (ls_seq_k fun K5 hK5 => rn 1 rfl ?_)))
  obtain ⟨o1, hl, hr1⟩ := ob_some h
  have kXB1 : ∀ {z6 : List Y106}, (.inl z6) = o1 → Jn K5 [(6, .box [oL 107 c107_oo []]), (8, .box [oL 107 c107_oo z6])] := by
   intro z6 h σ' hk
   subst h
   replace h := hr1
   try dsimp only at h
   exact hK5 _ (lh hk rfl (rn 1 rfl (ls_ret ((by cases h; exact ⟨.inl rfl, rfl⟩)))))
  refine ls_rec (fun (s : (List Y106) × Int) => match s with | (y3, y4) => [(1, dL ci64 a1), (2, nI a2), (3, .box [nI a0.1, dL c142_d a0.2.1, dL ci64 a0.2.2]), (6, .box [oL 107 c107_oo []]), (8, .box [oL 107 c107_oo y3]), (9, nI y4)]) _ _ _ _ hl (okr rfl) (fun _ => rfl) ?_
  rintro m ⟨y3, y4⟩ N h hN
  unfold spec_TightDatabase_B1 at h
  dsimp only at h
  refine ls_seq_k fun K7 hK7 => rn 1 rfl ?_
  rcases cond_some h with ⟨g8, h⟩ | ⟨g8, h⟩
  ·refine qT rfl g8 (ls_skip (hK7 _ (ls_seq_k fun K9 hK9 => ls_blk (rs (qBs ci64 [] rfl rfl rfl zci64 (sp 1 rfl (evn (ls_seq_k fun K10 hK10 => rn 1 rfl ?_))))))))
   obtain ⟨o2, hl, hr2⟩ := ob_some h
   have kXB2 : ∀ {z11 : List Int}, z11 = o2 → Jn K10 [(1, dL ci64 a1), (2, nI a2), (3, .box [nI a0.1, dL c142_d a0.2.1, dL ci64 a0.2.2]), (6, .box [oL 107 c107_oo []]), (8, .box [oL 107 c107_oo y3]), (9, nI y4), (10, oL 3 ci64 z11)] := by
    intro z11 h σ' hk
    subst h
    replace h := hr2
    try dsimp only at h
    refine hK10 _ (lh hk rfl (rs (sp 1 rfl (?_))))
    obtain ⟨v26, g27, h⟩ := ob_some h
    refine qC (qa rfl (erD eci64 _) eran) (spec_FullRelation_s g27) (sp 6 rfl (evn (rd (by kernel_rfl) (sd 4 rfl (?_)))))
    obtain ⟨e28, g29, h⟩ := ob_some h
    refine ed rfl (qI rfl zc142_d g29 (sd 2 rfl (?_)))
    obtain ⟨v30, g31, h⟩ := ob_some h
    refine ed rfl (qC (qa rfl (erg (erc (erD ec107_oo _) rfl)) (qs rfl eran)) (spec_LookupRelation_s g31) (sd 6 rfl (evdn (rd (by kernel_rfl) (sd 4 rfl (?_))))))
    obtain ⟨e32, g33, h⟩ := ob_some h
    refine ed rfl (qI rfl zc142_d g33 (sd 3 rfl (?_)))
    obtain ⟨v34, g35, h⟩ := ob_some h
    refine ed rfl (qC (qa rfl (erg (erc (erD ec107_oo _) rfl)) (qs rfl (qa rfl (erg (erc rfl (erc (erD ec31_o _) rfl))) eran))) (spec_SetRelation_s g35) (sd 6 rfl (evdn (ls_seq_k fun K36 hK36 => rs (sp 3 rfl (?_))))))
    rcases cond_some h with ⟨g37, h⟩ | ⟨g37, h⟩
    ·exact qg 91 g37 rfl (sp 6 rfl (evn (qk [1, 2, 3, 6, 8, 9, 16, 97] rfl (qT rfl rfl (rn 1 rfl (ls_ret ((by cases h; cases hr1; exact ⟨.inl rfl, rfl⟩))))))))
    ·refine qg 91 g37 rfl (sp 3 rfl (?_))
     rcases cond_some h with ⟨g38, h⟩ | ⟨g38, h⟩
     ·exact qg 94 g38 rfl (sp 3 rfl (evn (qT rfl rfl (rn 1 rfl (ls_ret ((by cases h; cases hr1; exact ⟨.inl rfl, rfl⟩)))))))
     ·refine qg 94 g38 rfl (sp 3 rfl (evn ?_))
      rcases cond_some h with ⟨g39, h⟩ | ⟨g39, h⟩
      ·exact qT rfl g39 (rn 1 rfl (ls_ret ((by cases h; cases hr1; exact ⟨.inl rfl, rfl⟩))))
      ·exact qF rfl g39 (ls_skip (hK36 _ (rg (sp 2 rfl (evn (hK9 _ (rg (sp 3 rfl (evn (hN _ _ h (okr rfl)))))))))))
   refine ls_rec (fun (s : (List Int) × Int) => match s with | (y7, y8) => [(1, dL ci64 a1), (2, nI a2), (3, .box [nI a0.1, dL c142_d a0.2.1, dL ci64 a0.2.2]), (6, .box [oL 107 c107_oo []]), (8, .box [oL 107 c107_oo y3]), (9, nI y4), (10, oL 3 ci64 y7), (11, nI y8)]) _ _ _ _ hl (okr rfl) (fun _ => rfl) ?_
   rintro m ⟨y7, y8⟩ N h hN
   unfold spec_TightDatabase_B2 at h
   dsimp only at h
   refine ls_seq_k fun K12 hK12 => rs (sp 4 rfl (?_))
   obtain ⟨e13, g14, h⟩ := ob_some h
   refine qI rfl zc142_d g14 (sp 4 rfl (evn ?_))
   rcases cond_some h with ⟨g15, h⟩ | ⟨g15, h⟩
   ·refine qT rfl g15 (ls_skip (hK12 _ (ls_seq_k fun K16 hK16 => ls_blk (rg (sp 6 rfl (?_))))))
    obtain ⟨e17, g18, h⟩ := ob_some h
    refine qI rfl zc142_d g18 (sp 3 rfl (?_))
    obtain ⟨e19, g20, h⟩ := ob_some h
    refine qI rfl zci64 g20 (sp 1 rfl (?_))
    obtain ⟨e21, g22, h⟩ := ob_some h
    refine qI rfl zci64 g22 (sp 1 rfl (?_))
    obtain ⟨v23, g24, h⟩ := ob_some h
    refine qC (qs rfl (qs rfl eran)) (spec_l38Pow_s g24) (qBs ci64 [v23] rfl rfl rfl zci64 (?_))
    obtain ⟨g25, h⟩ := chk_some h
    exact qA ci64 y7 [v23] rfl rfl (flat_len zci64 [v23]) rfl g25 (sp 1 rfl (evn (hK16 _ (rg (sp 3 rfl (evn (hN _ _ h (okr rfl))))))))
   ·exact qF rfl g15 (ls_exit (kXB2 (Option.some.inj h) _ (okr rfl)))
  ·exact qF rfl g8 (ls_exit (kXB1 (Option.some.inj h) _ (okr rfl)))
def laws_toIntS_B1 (a0 : List Int) (rec : ((List Int) × Int) → Option ((List Int))) (s : (List Int) × Int) : Option ((List Int)) := match s with
  | (y1, y2) => cond (decide (y2 < (List.length a0 : Int))) (obind (geti a0 y2) fun e7 => obind (geti y1 y2) fun e9 => rec ((seti y1 y2 e7), (IntKind.i64.wrap (y2 + 1)))) (some y1)
def laws_toIntS (a0 : List Int) : Option ((List Int)) := chk ((0 : Int) ≤ (List.length a0 : Int) ∧ Int.toNat (List.length a0 : Int) ≤ lim) (obind (loopF (laws_toIntS_B1 a0) fz ((List.replicate (Int.toNat (List.length a0 : Int)) (0 : Int)), 0)) fun z3 => some z3)
theorem laws_toIntS_s {a0 : List Int} {r : (List Int)} (h : laws_toIntS a0 = some r) : SoundAt Try.prog 33 [dL ci64 a0] (oL 3 ci64 r) := by
 unfold laws_toIntS at h
 refine st lit33 rfl (rn 1 rfl (rs (sp 2 rfl (?_))))
 obtain ⟨g1, h⟩ := chk_some h
 refine qMu ci64 (0 : Int) rfl rfl rfl rfl g1 rfl (qAu rfl rfl rfl rfl (evn (ls_seq_k fun K2 hK2 => rn 1 rfl ?_)))
 obtain ⟨o1, hl, hr1⟩ := ob_some h
 have kXB1 : ∀ {z3 : List Int}, z3 = o1 → Jn K2 [(3, wL 3 ci64 z3)] := by
  intro z3 h σ' hk
  subst h
  replace h := hr1
  try dsimp only at h
  exact hK2 _ (lh hk rfl (rs (qTu rfl rfl rfl (sp 1 rfl (evn (ls_ret ((by cases h; exact ⟨.inl rfl, rfl⟩))))))))
 refine ls_rec (fun (s : (List Int) × Int) => match s with | (y1, y2) => [(0, dL ci64 a0), (3, wL 3 ci64 y1), (4, nI y2)]) _ _ _ _ hl (okr rfl) (fun _ => rfl) ?_
 rintro m ⟨y1, y2⟩ N h hN
 unfold laws_toIntS_B1 at h
 dsimp only at h
 refine ls_seq_k fun K4 hK4 => rn 1 rfl ?_
 rcases cond_some h with ⟨g5, h⟩ | ⟨g5, h⟩
 ·refine qT rfl g5 (ls_skip (hK4 _ (ls_seq_k fun K6 hK6 => ls_blk (rg (sp 4 rfl (?_))))))
  obtain ⟨e7, g8, h⟩ := ob_some h
  refine qI rfl zci64 g8 (sp 1 rfl (?_))
  obtain ⟨e9, g10, h⟩ := ob_some h
  exact qIu rfl ⟨(geti_some g10).1, (geti_some g10).2.1⟩ (qSu e7 rfl rfl zci64 ⟨(geti_some g10).1, (geti_some g10).2.1⟩ rfl rfl rfl rfl rfl rfl (evn (hK6 _ (rg (sp 3 rfl (evn (hN _ _ h (okr rfl))))))))
 ·exact qF rfl g5 (ls_exit (kXB1 (Option.some.inj h) _ (okr rfl)))
def laws_toAtom (a0 : Y141) : Option (Y141) := obind (laws_toIntS a0.2) fun v1 => some (a0.1, v1)
theorem laws_toAtom_s {a0 : Y141} {r : Y141} (h : laws_toAtom a0 = some r) : SoundAt Try.prog 180 [.agg (c211_d a0)] (.agg (c142_o r)) := by
 unfold laws_toAtom at h
 refine st lit180 rfl (rn 3 rfl (rs (sp 2 rfl (?_))))
 obtain ⟨v1, g2, h⟩ := ob_some h
 exact qC (qa rfl (erD eci64 _) eran) (laws_toIntS_s g2) (sp 2 rfl (evn (rn 1 rfl (ls_ret ((by cases h; exact ⟨.inl rfl, rfl⟩))))))
def laws_toAtomS_B1 (a0 : List Y141) (rec : ((List Y141) × Int) → Option ((List Y141))) (s : (List Y141) × Int) : Option ((List Y141)) := match s with
  | (y1, y2) => cond (decide (y2 < (List.length a0 : Int))) (obind (geti a0 y2) fun e7 => obind (laws_toAtom e7) fun v9 => obind (geti y1 y2) fun e11 => rec ((seti y1 y2 v9), (IntKind.i64.wrap (y2 + 1)))) (some y1)
def laws_toAtomS (a0 : List Y141) : Option ((List Y141)) := chk ((0 : Int) ≤ (List.length a0 : Int) ∧ Int.toNat (List.length a0 : Int) ≤ lim) (obind (loopF (laws_toAtomS_B1 a0) fz ((List.replicate (Int.toNat (List.length a0 : Int)) (([], []) : Y141)), 0)) fun z3 => some z3)
theorem laws_toAtomS_s {a0 : List Y141} {r : (List Y141)} (h : laws_toAtomS a0 = some r) : SoundAt Try.prog 107 [dL c211_d a0] (oL 142 c142_o r) := by
 unfold laws_toAtomS at h
 refine st lit107 rfl (rn 1 rfl (rs (sp 2 rfl (?_))))
 obtain ⟨g1, h⟩ := chk_some h
 refine qMu c142_o (([], []) : Y141) rfl rfl rfl rfl g1 rfl (qAu rfl rfl rfl rfl (evn (ls_seq_k fun K2 hK2 => rn 1 rfl ?_)))
 obtain ⟨o1, hl, hr1⟩ := ob_some h
 have kXB1 : ∀ {z3 : List Y141}, z3 = o1 → Jn K2 [(3, wL 142 c142_o z3)] := by
  intro z3 h σ' hk
  subst h
  replace h := hr1
  try dsimp only at h
  exact hK2 _ (lh hk rfl (rs (qTu rfl rfl rfl (sp 1 rfl (evn (ls_ret ((by cases h; exact ⟨.inl rfl, rfl⟩))))))))
 refine ls_rec (fun (s : (List Y141) × Int) => match s with | (y1, y2) => [(0, dL c211_d a0), (3, wL 142 c142_o y1), (4, nI y2)]) _ _ _ _ hl (okr rfl) (fun _ => rfl) ?_
 rintro m ⟨y1, y2⟩ N h hN
 unfold laws_toAtomS_B1 at h
 dsimp only at h
 refine ls_seq_k fun K4 hK4 => rn 1 rfl ?_
 rcases cond_some h with ⟨g5, h⟩ | ⟨g5, h⟩
 ·refine qT rfl g5 (ls_skip (hK4 _ (ls_seq_k fun K6 hK6 => ls_blk (rg (sp 4 rfl (?_))))))
  obtain ⟨e7, g8, h⟩ := ob_some h
  refine qI rfl zc211_d g8 (sp 1 rfl (?_))
  obtain ⟨v9, g10, h⟩ := ob_some h
  refine qC (qa rfl (erg (erc rfl (erc (erD eci64 _) rfl))) eran) (laws_toAtom_s g10) (?_)
  obtain ⟨e11, g12, h⟩ := ob_some h
  exact qIu rfl ⟨(geti_some g12).1, (geti_some g12).2.1⟩ (qSu v9 rfl rfl zc142_o ⟨(geti_some g12).1, (geti_some g12).2.1⟩ rfl rfl rfl rfl rfl rfl (evn (hK6 _ (rg (sp 3 rfl (evn (hN _ _ h (okr rfl))))))))
 ·exact qF rfl g5 (ls_exit (kXB1 (Option.some.inj h) _ (okr rfl)))
def laws_toQuery (a0 : Y52) : Option (Y58) := obind (laws_toAtomS a0.2.1) fun v1 => obind (laws_toIntS a0.2.2) fun v3 => some (a0.1, v1, v3)
theorem laws_toQuery_s {a0 : Y52} {r : Y58} (h : laws_toQuery a0 = some r) : SoundAt Try.prog 32 [.agg (c53_ddd a0)] (.agg (c59_ooo r)) := by
 unfold laws_toQuery at h
 refine st lit32 rfl (rn 3 rfl (rs (sp 2 rfl (?_))))
 obtain ⟨v1, g2, h⟩ := ob_some h
 refine qC (qa rfl (erD ec211_d _) eran) (laws_toAtomS_s g2) (sp 2 rfl (evn (rs (sp 2 rfl (?_)))))
 obtain ⟨v3, g4, h⟩ := ob_some h
 exact qC (qa rfl (erD eci64 _) eran) (laws_toIntS_s g4) (sp 2 rfl (evn (rn 1 rfl (ls_ret ((by cases h; exact ⟨.inl rfl, rfl⟩))))))
def impl_within_J1 (x2 : Bool) : Option (Bool) := some x2
def impl_within (a0 : Int) (a1 : Int) (a2 : Int) : Option (Bool) := cond (decide (a1 ≤ a0)) (impl_within_J1 (decide (a0 ≤ a2))) (impl_within_J1 false)
theorem impl_within_s {a0 : Int} {a1 : Int} {a2 : Int} {r : Bool} (h : impl_within a0 a1 a2 = some r) : SoundAt Try.prog 86 [nI a0, nI a1, nI a2] (.bool r) := by
 unfold impl_within at h
 refine st lit86 rfl (rn 1 rfl (rk fun K1 hK1 => ?_))
 have kJ1 : ∀ {x2 : Bool}, impl_within_J1 x2 = some r → Jn K1 [(6, .bool x2)] := by
  intro x2 h σ' hk
  unfold impl_within_J1 at h
  exact hK1 _ (lh hk rfl (ls_ret ((by cases h; exact ⟨.inl rfl, rfl⟩))))
 refine sp 4 rfl (?_)
 rcases cond_some h with ⟨g3, h⟩ | ⟨g3, h⟩
 ·exact qg 10 g3 rfl (sp 5 rfl (evn (kJ1 h _ (okr rfl))))
 ·exact qg 10 g3 rfl (sp 5 rfl (evn (kJ1 h _ (okr rfl))))
def impl_copyInts (a0 : List Int) : Option ((List Int)) := chk (List.length ([] : List Int) + List.length a0 ≤ lim) (some (([] : List Int) ++ a0))
theorem impl_copyInts_s {a0 : List Int} {r : (List Int)} (h : impl_copyInts a0 = some r) : SoundAt Try.prog 88 [dL ci64 a0] (oL 3 ci64 r) := by
 unfold impl_copyInts at h
 refine st lit88 rfl (rn 1 rfl (rs (qBs ci64 [] rfl rfl rfl zci64 (sp 1 rfl (?_)))))
 obtain ⟨g1, h⟩ := chk_some h
 exact qA ci64 ([] : List Int) a0 rfl rfl (flat_len zci64 a0) (map_dg (fun _ => rfl) _) g1 (sp 1 rfl (evn (ls_ret ((by cases h; exact ⟨.inl rfl, rfl⟩)))))
def impl_FullRelation_B1 (a0 : List Int) (rec : (Int × Int) → Option (Sum (Unit) (Y25 × Bool))) (s : Int × Int) : Option (Sum (Unit) (Y25 × Bool)) := match s with
  | (y1, y2) => cond (decide (y2 < (List.length a0 : Int))) (obind (geti a0 y2) fun e7 => obind (impl_within e7 0 100) fun v10 => cond (!v10) (some (.inr ((0, []), false))) (cond (decide (4000 < (IntKind.i64.wrap (y1 * e7)))) (some (.inr ((0, []), false))) (rec ((IntKind.i64.wrap (y1 * e7)), (IntKind.i64.wrap (y2 + 1)))))) (some (.inl ()))
def impl_FullRelation_B4 (e19 : Int) (e26 : List Int) (rec : ((List (List Int)) × Int) → Option ((List (List Int)))) (s : (List (List Int)) × Int) : Option ((List (List Int))) := match s with
  | (y27, y28) => cond (decide (y28 < e19)) (obind (impl_copyInts e26) fun v32 => chk (List.length v32 + List.length [y28] ≤ lim) (chk (List.length y27 + List.length ([v32 ++ [y28]]) ≤ lim) (rec ((y27 ++ ([v32 ++ [y28]])), (IntKind.i64.wrap (y28 + 1)))))) (some y27)
def impl_FullRelation_B3 (y11 : List (List Int)) (e19 : Int) (rec : ((List (List Int)) × Int) → Option ((List (List Int)))) (s : (List (List Int)) × Int) : Option ((List (List Int))) := match s with
  | (y23, y24) => cond (decide (y24 < (List.length y11 : Int))) (obind (geti y11 y24) fun e26 => obind (loopF (impl_FullRelation_B4 e19 e26) fz (y23, 0)) fun z28 => rec (z28, (IntKind.i64.wrap (y24 + 1)))) (some y23)
def impl_FullRelation_B2 (a0 : List Int) (rec : ((List (List Int)) × Int) → Option ((List (List Int)))) (s : (List (List Int)) × Int) : Option ((List (List Int))) := match s with
  | (y11, y12) => cond (decide (y12 < (List.length a0 : Int))) (obind (geti a0 y12) fun e19 => obind (loopF (impl_FullRelation_B3 y11 e19) fz (([] : List (List Int)), 0)) fun z22 => rec (z22, (IntKind.i64.wrap (y12 + 1)))) (some y11)
def impl_FullRelation (a0 : List Int) : Option (Y25 × Bool) := cond (decide (5 < (List.length a0 : Int))) (some ((0, []), false)) (obind (loopF (impl_FullRelation_B1 a0) fz (1, 0)) fun o1 => (match o1 with
  | .inl _ => (obind (loopF (impl_FullRelation_B2 a0) fz (([[]]), 0)) fun z15 => some (((List.length a0 : Int), z15), true))
  | .inr r => some r))
theorem impl_FullRelation_s {a0 : List Int} {r : Y25 × Bool} (h : impl_FullRelation a0 = some r) : SoundAt Try.prog 68 [dL ci64 a0] (.tup [.agg (c26_oo r.1), .bool r.2]) := by
 unfold impl_FullRelation at h
 refine st lit68 rfl (rn 1 rfl (ls_seq_k fun K1 hK1 => rn 1 rfl ?_))
 rcases cond_some h with ⟨g2, h⟩ | ⟨g2, h⟩
 ·exact qT rfl g2 (rn 1 rfl (ls_ret ((by cases h; exact ⟨.inl rfl, rfl⟩))))
 ·refine qF rfl g2 (ls_skip (hK1 _ (rn 1 rfl (ls_seq_k fun K3 hK3 => rn 1 rfl ?_))))
  obtain ⟨o1, hl, hr1⟩ := ob_some h
  have kXB1 : (.inl ()) = o1 → Jn K3 [(0, dL ci64 a0), (2, .box [nI 0, oL 31 c31_o []])] := by
   intro h σ' hk
   subst h
   replace h := hr1
   try dsimp only at h
   refine hK3 _ (lh hk rfl (rs (qBs ci64 [] rfl rfl rfl zci64 (qBs c31_o [[]] rfl rfl rfl zc31_o (sp 1 rfl (evn (ls_seq_k fun K14 hK14 => rn 1 rfl ?_)))))))
   obtain ⟨o2, hl, hr2⟩ := ob_some h
   have kXB2 : ∀ {z15 : List (List Int)}, z15 = o2 → Jn K14 [(0, dL ci64 a0), (2, .box [nI 0, oL 31 c31_o []]), (7, oL 31 c31_o z15)] := by
    intro z15 h σ' hk
    subst h
    replace h := hr2
    try dsimp only at h
    exact hK14 _ (lh hk rfl (rn 1 rfl (ls_ret ((by cases h; exact ⟨.inl rfl, rfl⟩)))))
   refine ls_rec (fun (s : (List (List Int)) × Int) => match s with | (y11, y12) => [(0, dL ci64 a0), (2, .box [nI 0, oL 31 c31_o []]), (7, oL 31 c31_o y11), (37, dL ci64 a0), (38, nI (List.length a0 : Int)), (39, nI y12)]) _ _ _ _ hl (okr rfl) (fun _ => rfl) ?_
   rintro m ⟨y11, y12⟩ N h hN
   unfold impl_FullRelation_B2 at h
   dsimp only at h
   refine rn 1 rfl (ls_seq_k fun K16 hK16 => ?_)
   rcases cond_some h with ⟨g17, h⟩ | ⟨g17, h⟩
   ·refine qT rfl g17 (ls_skip (hK16 _ (ls_seq_k fun K18 hK18 => ls_blk (rs ?_))))
    obtain ⟨e19, g20, h⟩ := ob_some h
    refine qI rfl zci64 g20 (sp 2 rfl (evn (rn 1 rfl (ls_seq_k fun K21 hK21 => rn 1 rfl ?_))))
    obtain ⟨o3, hl, hr3⟩ := ob_some h
    have kXB3 : ∀ {z22 : List (List Int)}, z22 = o3 → Jn K21 [(0, dL ci64 a0), (2, .box [nI 0, oL 31 c31_o []]), (10, oL 31 c31_o z22), (37, dL ci64 a0), (38, nI (List.length a0 : Int)), (39, nI y12)] := by
     intro z22 h σ' hk
     subst h
     replace h := hr3
     try dsimp only at h
     exact hK21 _ (lh hk rfl (rg (sp 2 rfl (evn (hK18 _ (rg (sp 2 rfl (evn (hN _ _ h (okr rfl))))))))))
    refine ls_rec (fun (s : (List (List Int)) × Int) => match s with | (y23, y24) => [(0, dL ci64 a0), (2, .box [nI 0, oL 31 c31_o []]), (9, nI e19), (10, oL 31 c31_o y23), (37, dL ci64 a0), (38, nI (List.length a0 : Int)), (39, nI y12), (43, dL c31_o y11), (44, nI (List.length y11 : Int)), (45, nI y24)]) _ _ _ _ hl (okr rfl) (fun _ => rfl) ?_
    rintro m ⟨y23, y24⟩ N h hN
    unfold impl_FullRelation_B3 at h
    dsimp only at h
    refine rn 1 rfl (ls_seq_k fun K23 hK23 => ?_)
    rcases cond_some h with ⟨g24, h⟩ | ⟨g24, h⟩
    ·refine qT rfl g24 (ls_skip (hK23 _ (ls_seq_k fun K25 hK25 => ls_blk (rs ?_))))
     obtain ⟨e26, g27, h⟩ := ob_some h
     refine qI rfl zc31_o g27 (sp 2 rfl (evn (rn 1 rfl ?_)))
     obtain ⟨o4, hl, hr4⟩ := ob_some h
     have kXB4 : ∀ {z28 : List (List Int)}, z28 = o4 → Jn K25 [(0, dL ci64 a0), (2, .box [nI 0, oL 31 c31_o []]), (9, nI e19), (10, oL 31 c31_o z28), (37, dL ci64 a0), (38, nI (List.length a0 : Int)), (39, nI y12), (43, dL c31_o y11), (44, nI (List.length y11 : Int)), (45, nI y24)] := by
      intro z28 h σ' hk
      subst h
      replace h := hr4
      try dsimp only at h
      exact hK25 _ (lh hk rfl (rg (sp 2 rfl (evn (hN _ _ h (okr rfl))))))
     refine ls_rec (fun (s : (List (List Int)) × Int) => match s with | (y27, y28) => [(0, dL ci64 a0), (2, .box [nI 0, oL 31 c31_o []]), (9, nI e19), (10, oL 31 c31_o y27), (12, dL ci64 e26), (13, nI y28), (37, dL ci64 a0), (38, nI (List.length a0 : Int)), (39, nI y12), (43, dL c31_o y11), (44, nI (List.length y11 : Int)), (45, nI y24)]) _ _ _ _ hl (okr rfl) (fun _ => rfl) ?_
     rintro m ⟨y27, y28⟩ N h hN
     unfold impl_FullRelation_B4 at h
     dsimp only at h
     refine ls_seq_k fun K29 hK29 => rn 1 rfl ?_
     rcases cond_some h with ⟨g30, h⟩ | ⟨g30, h⟩
     ·refine qT rfl g30 (ls_skip (hK29 _ (ls_seq_k fun K31 hK31 => ls_blk (rg (sp 2 rfl (?_))))))
      obtain ⟨v32, g33, h⟩ := ob_some h
      refine qC (qa rfl (erD eci64 _) eran) (impl_copyInts_s g33) (sp 1 rfl (qBs ci64 [y28] rfl rfl rfl zci64 (?_)))
      obtain ⟨g34, h⟩ := chk_some h
      refine qA ci64 v32 [y28] rfl rfl (flat_len zci64 [y28]) rfl g34 (qBs c31_o [v32 ++ [y28]] rfl rfl rfl zc31_o (?_))
      obtain ⟨g35, h⟩ := chk_some h
      exact qA c31_o y27 ([v32 ++ [y28]]) rfl rfl (flat_len zc31_o ([v32 ++ [y28]])) rfl g35 (sp 1 rfl (evn (hK31 _ (rg (sp 3 rfl (evn (hN _ _ h (okr rfl))))))))
     ·exact qF rfl g30 (ls_exit (kXB4 (Option.some.inj h) _ (okr rfl)))
    ·exact qF rfl g24 (ls_exit (kXB3 (Option.some.inj h) _ (okr rfl)))
   ·exact qF rfl g17 (ls_exit (kXB2 (Option.some.inj h) _ (okr rfl)))
  refine ls_rec (fun (s : Int × Int) => match s with | (y1, y2) => [(0, dL ci64 a0), (2, .box [nI 0, oL 31 c31_o []]), (4, nI y1), (18, dL ci64 a0), (19, nI (List.length a0 : Int)), (20, nI y2)]) _ _ _ _ hl (okr rfl) (fun _ => rfl) ?_
  rintro m ⟨y1, y2⟩ N h hN
  unfold impl_FullRelation_B1 at h
  dsimp only at h
  refine rn 1 rfl (ls_seq_k fun K4 hK4 => ?_)
  rcases cond_some h with ⟨g5, h⟩ | ⟨g5, h⟩
  ·refine qT rfl g5 (ls_skip (hK4 _ (ls_seq_k fun K6 hK6 => ls_blk (rs ?_))))
   obtain ⟨e7, g8, h⟩ := ob_some h
   refine qI rfl zci64 g8 (sp 2 rfl (evn (ls_seq_k fun K9 hK9 => rs (sp 1 rfl (?_)))))
   obtain ⟨v10, g11, h⟩ := ob_some h
   refine qC (qs rfl (qs rfl (qs rfl eran))) (impl_within_s g11) (sp 1 rfl (evn ?_))
   rcases cond_some h with ⟨g12, h⟩ | ⟨g12, h⟩
   ·exact qT rfl g12 (rn 1 rfl (ls_ret ((by cases h; cases hr1; exact ⟨.inl rfl, rfl⟩))))
   ·refine qF rfl g12 (ls_skip (hK9 _ (rn 2 rfl (qk [0, 2, 4, 18, 19, 20, 32] rfl ?_))))
    rcases cond_some h with ⟨g13, h⟩ | ⟨g13, h⟩
    ·exact qT rfl g13 (rn 1 rfl (ls_ret ((by cases h; cases hr1; exact ⟨.inl rfl, rfl⟩))))
    ·exact qF rfl g13 (ls_skip (hK6 _ (rg (sp 2 rfl (evn (hN _ _ h (okr rfl)))))))
  ·exact qF rfl g5 (ls_exit (kXB1 (Option.some.inj h) _ (okr rfl)))
def impl_pick_B1 (a0 : List Int) (a1 : List Int) (rec : ((List Int) × Int) → Option ((List Int))) (s : (List Int) × Int) : Option ((List Int)) := match s with
  | (y1, y2) => cond (decide (y2 < (List.length a1 : Int))) (obind (geti a1 y2) fun e6 => obind (geti a0 e6) fun e8 => chk (List.length y1 + List.length [e8] ≤ lim) (rec ((y1 ++ [e8]), (IntKind.i64.wrap (y2 + 1))))) (some y1)
def impl_pick (a0 : List Int) (a1 : List Int) : Option ((List Int)) := obind (loopF (impl_pick_B1 a0 a1) fz (([] : List Int), 0)) fun z2 => some z2
theorem impl_pick_s {a0 : List Int} {a1 : List Int} {r : (List Int)} (h : impl_pick a0 a1 = some r) : SoundAt Try.prog 97 [dL ci64 a0, dL ci64 a1] (oL 3 ci64 r) := by
 unfold impl_pick at h
 refine st lit97 rfl (rn 1 rfl (rs (qBs ci64 [] rfl rfl rfl zci64 (sp 1 rfl (evn (ls_seq_k fun K1 hK1 => rn 1 rfl ?_))))))
 obtain ⟨o1, hl, hr1⟩ := ob_some h
 have kXB1 : ∀ {z2 : List Int}, z2 = o1 → Jn K1 [(5, oL 3 ci64 z2)] := by
  intro z2 h σ' hk
  subst h
  replace h := hr1
  try dsimp only at h
  exact hK1 _ (lh hk rfl (rn 1 rfl (ls_ret ((by cases h; exact ⟨.inl rfl, rfl⟩)))))
 refine ls_rec (fun (s : (List Int) × Int) => match s with | (y1, y2) => [(0, dL ci64 a0), (5, oL 3 ci64 y1), (9, dL ci64 a1), (10, nI (List.length a1 : Int)), (11, nI y2)]) _ _ _ _ hl (okr rfl) (fun _ => rfl) ?_
 rintro m ⟨y1, y2⟩ N h hN
 unfold impl_pick_B1 at h
 dsimp only at h
 refine rn 1 rfl (ls_seq_k fun K3 hK3 => ?_)
 rcases cond_some h with ⟨g4, h⟩ | ⟨g4, h⟩
 ·refine qT rfl g4 (ls_skip (hK3 _ (ls_seq_k fun K5 hK5 => ls_blk (rs ?_))))
  obtain ⟨e6, g7, h⟩ := ob_some h
  refine qI rfl zci64 g7 (sp 2 rfl (evn (rg (sp 3 rfl (?_)))))
  obtain ⟨e8, g9, h⟩ := ob_some h
  refine qI rfl zci64 g9 (sp 1 rfl (qBs ci64 [e8] rfl rfl rfl zci64 (?_)))
  obtain ⟨g10, h⟩ := chk_some h
  exact qA ci64 y1 [e8] rfl rfl (flat_len zci64 [e8]) rfl g10 (sp 1 rfl (evn (hK5 _ (rg (sp 2 rfl (evn (hN _ _ h (okr rfl))))))))
 ·exact qF rfl g4 (ls_exit (kXB1 (Option.some.inj h) _ (okr rfl)))
def impl_indexOf_B1 (a0 : List Int) (a1 : Int) (rec : Int → Option (Sum (Unit) (Int))) (y1 : Int) : Option (Sum (Unit) (Int)) := cond (decide (y1 < (List.length a0 : Int))) (obind (geti a0 y1) fun e5 => cond (e5 == a1) (some (.inr y1)) (rec (IntKind.i64.wrap (y1 + 1)))) (some (.inl ()))
def impl_indexOf (a0 : List Int) (a1 : Int) : Option (Int) := obind (loopF (impl_indexOf_B1 a0 a1) fz 0) fun o1 => (match o1 with
  | .inl _ => (some (-1))
  | .inr r => some r)
theorem impl_indexOf_s {a0 : List Int} {a1 : Int} {r : Int} (h : impl_indexOf a0 a1 = some r) : SoundAt Try.prog 87 [dL ci64 a0, nI a1] (nI r) := by
 unfold impl_indexOf at h
 refine st lit87 rfl (rn 1 rfl (ls_seq_k fun K1 hK1 => rn 1 rfl ?_))
 obtain ⟨o1, hl, hr1⟩ := ob_some h
 have kXB1 : (.inl ()) = o1 → Jn K1 [] := by
  intro h σ' hk
  subst h
  replace h := hr1
  try dsimp only at h
  exact hK1 _ (lh hk rfl (rn 1 rfl (ls_ret ((by cases h; exact ⟨.inl rfl, rfl⟩)))))
 refine ls_rec (fun (y1 : Int) => [(1, nI a1), (7, dL ci64 a0), (8, nI (List.length a0 : Int)), (9, nI y1)]) _ _ _ _ hl (okr rfl) (fun _ => rfl) ?_
 rintro m y1 N h hN
 unfold impl_indexOf_B1 at h
 refine rn 1 rfl (ls_seq_k fun K2 hK2 => ?_)
 rcases cond_some h with ⟨g3, h⟩ | ⟨g3, h⟩
 ·refine qT rfl g3 (ls_skip (hK2 _ (ls_seq_k fun K4 hK4 => ls_blk (rs (sp 1 rfl (?_))))))
  obtain ⟨e5, g6, h⟩ := ob_some h
  refine qI rfl zci64 g6 (sp 3 rfl (evn (rn 1 rfl ?_)))
  rcases cond_some h with ⟨g7, h⟩ | ⟨g7, h⟩
  ·exact qT rfl g7 (rn 1 rfl (ls_ret ((by cases h; cases hr1; exact ⟨.inl rfl, rfl⟩))))
  ·exact qF rfl g7 (ls_skip (hK4 _ (rg (sp 2 rfl (evn (hN _ _ h (okr rfl)))))))
 ·exact qF rfl g3 (ls_exit (kXB1 (Option.some.inj h) _ trivial))
def impl_hasInt (a0 : List Int) (a1 : Int) : Option (Bool) := obind (impl_indexOf a0 a1) fun v1 => some (decide (0 ≤ v1))
theorem impl_hasInt_s {a0 : List Int} {a1 : Int} {r : Bool} (h : impl_hasInt a0 a1 = some r) : SoundAt Try.prog 230 [dL ci64 a0, nI a1] (.bool r) := by
 unfold impl_hasInt at h
 refine st lit230 rfl (rn 1 rfl (rs (sp 2 rfl (?_))))
 obtain ⟨v1, g2, h⟩ := ob_some h
 exact qC (qa rfl (erD eci64 _) (qs rfl eran)) (impl_indexOf_s g2) (sp 2 rfl (evn (ls_ret ((by cases h; exact ⟨.inl rfl, rfl⟩)))))
def impl_isSetOf_B1 (a0 : List Int) (a1 : Int) (rec : Int → Option (Sum (Unit) (Bool))) (y1 : Int) : Option (Sum (Unit) (Bool)) := cond (decide (y1 < (List.length a0 : Int))) (obind (geti a0 y1) fun e5 => obind (impl_within e5 0 (IntKind.i64.wrap (a1 - 1))) fun v7 => cond (!v7) (some (.inr false)) (chk ((0 : Int) ≤ 0 ∧ 0 ≤ y1 ∧ y1 ≤ (List.length a0 : Int)) (obind (impl_hasInt (subl a0 0 y1) e5) fun v11 => cond v11 (some (.inr false)) (rec (IntKind.i64.wrap (y1 + 1)))))) (some (.inl ()))
def impl_isSetOf (a0 : List Int) (a1 : Int) : Option (Bool) := obind (loopF (impl_isSetOf_B1 a0 a1) fz 0) fun o1 => (match o1 with
  | .inl _ => (some true)
  | .inr r => some r)
theorem impl_isSetOf_s {a0 : List Int} {a1 : Int} {r : Bool} (h : impl_isSetOf a0 a1 = some r) : SoundAt Try.prog 211 [dL ci64 a0, nI a1] (.bool r) := by
 unfold impl_isSetOf at h
 refine st lit211 rfl (rn 1 rfl (ls_seq_k fun K1 hK1 => rn 1 rfl ?_))
 obtain ⟨o1, hl, hr1⟩ := ob_some h
 have kXB1 : (.inl ()) = o1 → Jn K1 [] := by
  intro h σ' hk
  subst h
  replace h := hr1
  try dsimp only at h
  exact hK1 _ (lh hk rfl (rn 1 rfl (ls_ret ((by cases h; exact ⟨.inl rfl, rfl⟩)))))
 refine ls_rec (fun (y1 : Int) => [(0, dL ci64 a0), (1, nI a1), (7, dL ci64 a0), (8, nI (List.length a0 : Int)), (9, nI y1)]) _ _ _ _ hl (okr rfl) (fun _ => rfl) ?_
 rintro m y1 N h hN
 unfold impl_isSetOf_B1 at h
 refine rn 1 rfl (ls_seq_k fun K2 hK2 => ?_)
 rcases cond_some h with ⟨g3, h⟩ | ⟨g3, h⟩
 ·refine qT rfl g3 (ls_skip (hK2 _ (ls_seq_k fun K4 hK4 => ls_blk (rs (sp 1 rfl (?_))))))
  obtain ⟨e5, g6, h⟩ := ob_some h
  refine qI rfl zci64 g6 (sp 3 rfl (evn (rs (sp 3 rfl (?_)))))
  obtain ⟨v7, g8, h⟩ := ob_some h
  refine qC (qs rfl (qs rfl (qs rfl eran))) (impl_within_s g8) (sp 2 rfl (?_))
  rcases cond_some h with ⟨g9, h⟩ | ⟨g9, h⟩
  ·exact qg 19 g9 rfl (sp 6 rfl (evn (qT rfl rfl (rn 1 rfl (ls_ret ((by cases h; cases hr1; exact ⟨.inl rfl, rfl⟩)))))))
  ·refine qg 19 g9 rfl (sp 2 rfl (?_))
   obtain ⟨g10, h⟩ := chk_some h
   refine oGR rfl rfl (qSl rfl zci64 g10 (sp 1 rfl (?_)))
   obtain ⟨v11, g12, h⟩ := ob_some h
   refine oGR rfl rfl (qC (qa rfl (erD eci64 _) (qs rfl eran)) (impl_hasInt_s g12) (sp 1 rfl (evn (qk [0, 1, 7, 8, 9, 25] rfl ?_))))
   rcases cond_some h with ⟨g13, h⟩ | ⟨g13, h⟩
   ·exact qT rfl g13 (rn 1 rfl (ls_ret ((by cases h; cases hr1; exact ⟨.inl rfl, rfl⟩))))
   ·exact qF rfl g13 (ls_skip (hK4 _ (rg (sp 2 rfl (evn (hN _ _ h (okr rfl)))))))
 ·exact qF rfl g3 (ls_exit (kXB1 (Option.some.inj h) _ trivial))
def impl_isLetters_B1 (a0 : List UInt8) (rec : Int → Option (Sum (Unit) (Bool))) (y1 : Int) : Option (Sum (Unit) (Bool)) := cond (decide (y1 < (List.length a0 : Int))) (obind (geti a0 y1) fun b8 => cond (decide ((UInt8.toNat b8 : Int) < 97)) (some (.inr false)) (obind (geti a0 y1) fun b11 => cond (decide (122 < (UInt8.toNat b11 : Int))) (some (.inr false)) (rec (IntKind.i64.wrap (y1 + 1))))) (some (.inl ()))
def impl_isLetters (a0 : List UInt8) (a1 : Int) : Option (Bool) := cond (decide ((List.length a0 : Int) < 1)) (some false) (cond (decide (a1 < (List.length a0 : Int))) (some false) (obind (loopF (impl_isLetters_B1 a0) fz 0) fun o1 => (match o1 with
  | .inl _ => (some true)
  | .inr r => some r)))
theorem impl_isLetters_s {a0 : List UInt8} {a1 : Int} {r : Bool} (h : impl_isLetters a0 a1 = some r) : SoundAt Try.prog 232 [.str a0, nI a1] (.bool r) := by
 unfold impl_isLetters at h
 refine st lit232 rfl (rn 1 rfl (ls_seq_k fun K1 hK1 => rs (sp 4 rfl (?_))))
 rcases cond_some h with ⟨g2, h⟩ | ⟨g2, h⟩
 ·exact qg 9 g2 rfl (sp 5 rfl (evn (qT rfl rfl (rn 1 rfl (ls_ret ((by cases h; exact ⟨.inl rfl, rfl⟩)))))))
 ·refine qg 9 g2 rfl (sp 5 rfl (evn ?_))
  rcases cond_some h with ⟨g3, h⟩ | ⟨g3, h⟩
  ·exact qT rfl g3 (rn 1 rfl (ls_ret ((by cases h; exact ⟨.inl rfl, rfl⟩))))
  ·refine qF rfl g3 (ls_skip (hK1 _ (ls_seq_k fun K4 hK4 => rn 1 rfl (qk [0, 5] rfl ?_))))
   obtain ⟨o1, hl, hr1⟩ := ob_some h
   have kXB1 : (.inl ()) = o1 → Jn K4 [] := by
    intro h σ' hk
    subst h
    replace h := hr1
    try dsimp only at h
    exact hK4 _ (lh hk rfl (rn 1 rfl (ls_ret ((by cases h; exact ⟨.inl rfl, rfl⟩)))))
   refine ls_rec (fun (y1 : Int) => [(0, .str a0), (5, nI y1)]) _ _ _ _ hl (okr rfl) (fun _ => rfl) ?_
   rintro m y1 N h hN
   unfold impl_isLetters_B1 at h
   refine ls_seq_k fun K5 hK5 => rn 1 rfl ?_
   rcases cond_some h with ⟨g6, h⟩ | ⟨g6, h⟩
   ·refine qT rfl g6 (ls_skip (hK5 _ (ls_seq_k fun K7 hK7 => ls_blk (rs (sp 2 rfl (?_))))))
    obtain ⟨b8, g9, h⟩ := ob_some h
    refine qX rfl g9 (sp 2 rfl (?_))
    rcases cond_some h with ⟨g10, h⟩ | ⟨g10, h⟩
    ·exact qg 25 g10 rfl (sp 5 rfl (evn (qT rfl rfl (rn 1 rfl (ls_ret ((by cases h; cases hr1; exact ⟨.inl rfl, rfl⟩)))))))
    ·refine qg 25 g10 rfl (sp 2 rfl (?_))
     obtain ⟨b11, g12, h⟩ := ob_some h
     refine oGR rfl rfl (qX rfl g12 (sp 2 rfl (evn ?_)))
     rcases cond_some h with ⟨g13, h⟩ | ⟨g13, h⟩
     ·exact qT rfl g13 (rn 1 rfl (qk [4] rfl (ls_ret ((by cases h; cases hr1; exact ⟨.inl rfl, rfl⟩)))))
     ·exact qF rfl g13 (ls_skip (hK7 _ (rg (sp 3 rfl (evn (hN _ _ h (okr rfl)))))))
   ·exact qF rfl g6 (ls_exit (kXB1 (Option.some.inj h) _ trivial))
def impl_IsValidName (a0 : List UInt8) : Option (Bool) := obind (impl_isLetters a0 4) fun v1 => some v1
theorem impl_IsValidName_s {a0 : List UInt8} {r : Bool} (h : impl_IsValidName a0 = some r) : SoundAt Try.prog 212 [.str a0] (.bool r) := by
 unfold impl_IsValidName at h
 refine st lit212 rfl (rn 1 rfl (rs (sp 1 rfl (?_))))
 obtain ⟨v1, g2, h⟩ := ob_some h
 exact qC (qs rfl (qs rfl eran)) (impl_isLetters_s g2) (sp 1 rfl (evn (ls_ret ((by cases h; exact ⟨.inl rfl, rfl⟩)))))
def impl_IsValidQuery_B2 (a0 : Y58) (e17 : Y141) (rec : ((List Bool) × Int) → Option (Sum ((List Bool)) (Bool))) (s : (List Bool) × Int) : Option (Sum ((List Bool)) (Bool)) := match s with
  | (y7, y8) => cond (decide (y8 < (List.length e17.2 : Int))) (obind (geti e17.2 y8) fun e30 => obind (impl_within e30 0 (IntKind.i64.wrap (a0.1 - 1))) fun v33 => cond (!v33) (some (.inr false)) (obind (geti y7 e30) fun e36 => rec ((seti y7 e30 true), (IntKind.i64.wrap (y8 + 1))))) (some (.inl y7))
def impl_IsValidQuery_B1 (a0 : Y58) (rec : ((List Bool) × Int) → Option (Sum ((List Bool)) (Bool))) (s : (List Bool) × Int) : Option (Sum ((List Bool)) (Bool)) := match s with
  | (y3, y4) => cond (decide (y4 < (List.length a0.2.1 : Int))) (obind (geti a0.2.1 y4) fun e17 => obind (impl_IsValidName e17.1) fun v20 => cond (!v20) (some (.inr false)) (obind (impl_within (List.length e17.2 : Int) 1 5) fun v23 => cond (!v23) (some (.inr false)) (obind (loopF (impl_IsValidQuery_B2 a0 e17) fz (y3, 0)) fun o2 => (match o2 with
  | .inl z26 => (rec (z26, (IntKind.i64.wrap (y4 + 1))))
  | .inr r => some (.inr r))))) (some (.inl y3))
def impl_IsValidQuery_B3 (z13 : List Bool) (rec : Int → Option (Sum (Unit) (Bool))) (y9 : Int) : Option (Sum (Unit) (Bool)) := cond (decide (y9 < (List.length z13 : Int))) (obind (geti z13 y9) fun e42 => cond (!e42) (some (.inr false)) (rec (IntKind.i64.wrap (y9 + 1)))) (some (.inl ()))
def impl_IsValidQuery (a0 : Y58) : Option (Bool) := obind (impl_within a0.1 1 5) fun v2 => cond (!v2) (some false) (obind (impl_within (List.length a0.2.1 : Int) 1 4) fun v5 => cond (!v5) (some false) (obind (impl_isSetOf a0.2.2 a0.1) fun v8 => cond (!v8) (some false) (chk ((0 : Int) ≤ a0.1 ∧ Int.toNat a0.1 ≤ lim) (obind (loopF (impl_IsValidQuery_B1 a0) fz ((List.replicate (Int.toNat a0.1) (false : Bool)), 0)) fun o1 => (match o1 with
  | .inl z13 => (obind (loopF (impl_IsValidQuery_B3 z13) fz 0) fun o3 => (match o3 with
  | .inl _ => (some true)
  | .inr r => some r))
  | .inr r => some r)))))
theorem impl_IsValidQuery_s {a0 : Y58} {r : Bool} (h : impl_IsValidQuery a0 = some r) : SoundAt Try.prog 150 [.agg (c59_ddd a0)] (.bool r) := by
 unfold impl_IsValidQuery at h
 refine st lit150 rfl (rn 2 rfl (ls_seq_k fun K1 hK1 => rs (sp 1 rfl (?_))))
 obtain ⟨v2, g3, h⟩ := ob_some h
 refine qC (qs rfl (qs rfl (qs rfl eran))) (impl_within_s g3) (sp 2 rfl (?_))
 rcases cond_some h with ⟨g4, h⟩ | ⟨g4, h⟩
 ·exact qg 16 g4 rfl (sp 13 rfl (evn (qT rfl rfl (rn 1 rfl (ls_ret ((by cases h; exact ⟨.inl rfl, rfl⟩)))))))
 ·refine qg 16 g4 rfl (sp 3 rfl (?_))
  obtain ⟨v5, g6, h⟩ := ob_some h
  refine oGR rfl rfl (qC (qs rfl (qs rfl (qs rfl eran))) (impl_within_s g6) (sp 3 rfl (?_)))
  rcases cond_some h with ⟨g7, h⟩ | ⟨g7, h⟩
  ·exact qg 23 g7 rfl (sp 6 rfl (evn (qk [1, 3, 29] rfl (qT rfl rfl (rn 1 rfl (ls_ret ((by cases h; exact ⟨.inl rfl, rfl⟩))))))))
  ·refine qg 23 g7 rfl (sp 3 rfl (?_))
   obtain ⟨v8, g9, h⟩ := ob_some h
   refine oGR rfl rfl (qC (qa rfl (erD eci64 _) (qs rfl eran)) (impl_isSetOf_s g9) (sp 2 rfl (evn ?_)))
   rcases cond_some h with ⟨g10, h⟩ | ⟨g10, h⟩
   ·exact qT rfl g10 (rn 1 rfl (ls_ret ((by cases h; exact ⟨.inl rfl, rfl⟩))))
   ·refine qF rfl g10 (ls_skip (hK1 _ (rs (sp 1 rfl (?_)))))
    obtain ⟨g11, h⟩ := chk_some h
    refine qMu cbl (false : Bool) rfl rfl rfl rfl g11 rfl (qAu rfl rfl rfl rfl (evn (ls_seq_k fun K12 hK12 => rn 1 rfl ?_)))
    obtain ⟨o1, hl, hr1⟩ := ob_some h
    have kXB1 : ∀ {z13 : List Bool}, (.inl z13) = o1 → Jn K12 [(4, wL 4 cbl z13)] := by
     intro z13 h σ' hk
     subst h
     replace h := hr1
     try dsimp only at h
     refine hK12 _ (lh hk rfl (ls_seq_k fun K38 hK38 => rn 1 rfl ?_))
     obtain ⟨o3, hl, hr3⟩ := ob_some h
     have kXB3 : (.inl ()) = o3 → Jn K38 [] := by
      intro h σ' hk
      subst h
      replace h := hr3
      try dsimp only at h
      exact hK38 _ (lh hk rfl (rn 1 rfl (ls_ret ((by cases h; exact ⟨.inl rfl, rfl⟩)))))
     refine ls_rec (fun (y9 : Int) => [(4, wL 4 cbl z13), (67, .same 4), (68, nI (List.length z13 : Int)), (69, nI y9)]) _ _ _ _ hl (okr rfl) (fun _ => rfl) ?_
     rintro m y9 N h hN
     unfold impl_IsValidQuery_B3 at h
     refine rn 1 rfl (ls_seq_k fun K39 hK39 => ?_)
     rcases cond_some h with ⟨g40, h⟩ | ⟨g40, h⟩
     ·refine qT rfl g40 (ls_skip (hK39 _ (ls_seq_k fun K41 hK41 => ls_blk (rs ?_))))
      obtain ⟨e42, g43, h⟩ := ob_some h
      refine qIu rfl ⟨(geti_some g43).1, (geti_some g43).2.1⟩ (qLu 0 rfl rfl rfl zcbl g43 rfl rfl rfl (sp 1 rfl (evn (rn 1 rfl ?_))))
      rcases cond_some h with ⟨g44, h⟩ | ⟨g44, h⟩
      ·exact qT rfl g44 (rn 1 rfl (ls_ret ((by cases h; cases hr3; exact ⟨.inl rfl, rfl⟩))))
      ·exact qF rfl g44 (ls_skip (hK41 _ (rg (sp 2 rfl (evn (hN _ _ h (okr rfl)))))))
     ·exact qF rfl g40 (ls_exit (kXB3 (Option.some.inj h) _ trivial))
    refine ls_rec (fun (s : (List Bool) × Int) => match s with | (y3, y4) => [(3, nI a0.1), (4, wL 4 cbl y3), (33, dL c142_d a0.2.1), (34, nI (List.length a0.2.1 : Int)), (35, nI y4)]) _ _ _ _ hl (okr rfl) (fun _ => rfl) ?_
    rintro m ⟨y3, y4⟩ N h hN
    unfold impl_IsValidQuery_B1 at h
    dsimp only at h
    refine rn 1 rfl (ls_seq_k fun K14 hK14 => ?_)
    rcases cond_some h with ⟨g15, h⟩ | ⟨g15, h⟩
    ·refine qT rfl g15 (ls_skip (hK14 _ (ls_seq_k fun K16 hK16 => ls_blk (rs ?_))))
     obtain ⟨e17, g18, h⟩ := ob_some h
     refine qI rfl zc142_d g18 (sp 3 rfl (evn (ls_seq_k fun K19 hK19 => rs (sp 2 rfl (?_)))))
     obtain ⟨v20, g21, h⟩ := ob_some h
     refine qC (qs rfl eran) (impl_IsValidName_s g21) (sp 2 rfl (?_))
     rcases cond_some h with ⟨g22, h⟩ | ⟨g22, h⟩
     ·exact qg 43 g22 rfl (sp 6 rfl (evn (qT rfl rfl (rn 1 rfl (ls_ret ((by cases h; cases hr1; exact ⟨.inl rfl, rfl⟩)))))))
     ·refine qg 43 g22 rfl (sp 3 rfl (?_))
      obtain ⟨v23, g24, h⟩ := ob_some h
      refine oGR rfl rfl (qC (qs rfl (qs rfl (qs rfl eran))) (impl_within_s g24) (sp 2 rfl (evn (qk [3, 4, 6, 33, 34, 35, 49] rfl ?_))))
      rcases cond_some h with ⟨g25, h⟩ | ⟨g25, h⟩
      ·exact qT rfl g25 (rn 1 rfl (ls_ret ((by cases h; cases hr1; exact ⟨.inl rfl, rfl⟩))))
      ·refine qF rfl g25 (ls_skip (hK19 _ (rn 1 rfl ?_)))
       obtain ⟨o2, hl, hr2⟩ := ob_some h
       have kXB2 : ∀ {z26 : List Bool}, (.inl z26) = o2 → Jn K16 [(3, nI a0.1), (4, wL 4 cbl z26), (33, dL c142_d a0.2.1), (34, nI (List.length a0.2.1 : Int)), (35, nI y4)] := by
        intro z26 h σ' hk
        subst h
        replace h := hr2
        try dsimp only at h
        exact hK16 _ (lh hk rfl (rg (sp 2 rfl (evn (hN _ _ h (okr rfl))))))
       refine ls_rec (fun (s : (List Bool) × Int) => match s with | (y7, y8) => [(3, nI a0.1), (4, wL 4 cbl y7), (33, dL c142_d a0.2.1), (34, nI (List.length a0.2.1 : Int)), (35, nI y4), (51, dL ci64 e17.2), (52, nI (List.length e17.2 : Int)), (53, nI y8)]) _ _ _ _ hl (okr rfl) (fun _ => rfl) ?_
       rintro m ⟨y7, y8⟩ N h hN
       unfold impl_IsValidQuery_B2 at h
       dsimp only at h
       refine rn 1 rfl (ls_seq_k fun K27 hK27 => ?_)
       rcases cond_some h with ⟨g28, h⟩ | ⟨g28, h⟩
       ·refine qT rfl g28 (ls_skip (hK27 _ (ls_seq_k fun K29 hK29 => ls_blk (rs ?_))))
        obtain ⟨e30, g31, h⟩ := ob_some h
        refine qI rfl zci64 g31 (sp 2 rfl (evn (ls_seq_k fun K32 hK32 => rs (sp 3 rfl (?_)))))
        obtain ⟨v33, g34, h⟩ := ob_some h
        refine qC (qs rfl (qs rfl (qs rfl eran))) (impl_within_s g34) (sp 1 rfl (evn ?_))
        rcases cond_some h with ⟨g35, h⟩ | ⟨g35, h⟩
        ·exact qT rfl g35 (rn 1 rfl (ls_ret ((by cases h; cases hr2; cases hr1; exact ⟨.inl rfl, rfl⟩))))
        ·refine qF rfl g35 (ls_skip (hK32 _ (rg (sp 2 rfl (?_)))))
         obtain ⟨e36, g37, h⟩ := ob_some h
         exact qIu rfl ⟨(geti_some g37).1, (geti_some g37).2.1⟩ (qSu true rfl rfl zcbl ⟨(geti_some g37).1, (geti_some g37).2.1⟩ rfl rfl rfl rfl rfl rfl (evn (hK29 _ (rg (sp 2 rfl (evn (hN _ _ h (okr rfl))))))))
       ·exact qF rfl g28 (ls_exit (kXB2 (Option.some.inj h) _ (okr rfl)))
    ·exact qF rfl g15 (ls_exit (kXB1 (Option.some.inj h) _ (okr rfl)))
def impl_powers_B2 (a2 : Int) (e14 : Int) (rec : (Int × Int) → Option (Int)) (s : Int × Int) : Option (Int) := match s with
  | (y7, y8) => cond (decide (y8 < e14)) (rec ((IntKind.i64.wrap (y7 * a2)), (IntKind.i64.wrap (y8 + 1)))) (some y7)
def impl_powers_B1 (a1 : List Int) (a2 : Int) (rec : ((List Int) × Int) → Option (Sum ((List Int)) ((List Int) × Bool))) (s : (List Int) × Int) : Option (Sum ((List Int)) ((List Int) × Bool)) := match s with
  | (y3, y4) => cond (decide (y4 < (List.length a1 : Int))) (obind (geti a1 y4) fun e14 => obind (impl_within e14 0 6) fun v17 => cond (!v17) (some (.inr (([] : List Int), false))) (obind (loopF (impl_powers_B2 a2 e14) fz (1, 0)) fun z21 => cond (decide (100 < z21)) (some (.inr (([] : List Int), false))) (chk (List.length y3 + List.length [z21] ≤ lim) (rec ((y3 ++ [z21]), (IntKind.i64.wrap (y4 + 1))))))) (some (.inl y3))
def impl_powers (a0 : Y58) (a1 : List Int) (a2 : Int) : Option ((List Int) × Bool) := obind (impl_IsValidQuery a0) fun v2 => cond (!v2) (some (([] : List Int), false)) (cond ((List.length a1 : Int) != a0.1) (some (([] : List Int), false)) (obind (impl_within a2 1 10) fun v6 => cond (!v6) (some (([] : List Int), false)) (obind (loopF (impl_powers_B1 a1 a2) fz (([] : List Int), 0)) fun o1 => (match o1 with
  | .inl z10 => (some (z10, true))
  | .inr r => some r))))
theorem impl_powers_s {a0 : Y58} {a1 : List Int} {a2 : Int} {r : (List Int) × Bool} (h : impl_powers a0 a1 a2 = some r) : SoundAt Try.prog 108 [.agg (c59_ddd a0), dL ci64 a1, nI a2] (.tup [oL 3 ci64 r.1, .bool r.2]) := by
 unfold impl_powers at h
 refine st lit108 rfl (rn 1 rfl (ls_seq_k fun K1 hK1 => rs (sp 1 rfl (?_))))
 obtain ⟨v2, g3, h⟩ := ob_some h
 refine qC (qa rfl (erg (erc rfl (erc (erD ec142_d _) (erc (erD eci64 _) rfl)))) eran) (impl_IsValidQuery_s g3) (sp 2 rfl (?_))
 rcases cond_some h with ⟨g4, h⟩ | ⟨g4, h⟩
 ·exact qg 16 g4 rfl (sp 11 rfl (evn (qT rfl rfl (rn 1 rfl (ls_ret ((by cases h; exact ⟨.inl rfl, rfl⟩)))))))
 ·refine qg 16 g4 rfl (sp 7 rfl (?_))
  rcases cond_some h with ⟨g5, h⟩ | ⟨g5, h⟩
  ·exact qg 23 g5 rfl (sp 4 rfl (evn (qk [1, 2, 27] rfl (qT rfl rfl (rn 1 rfl (ls_ret ((by cases h; exact ⟨.inl rfl, rfl⟩))))))))
  ·refine qg 23 g5 rfl (sp 1 rfl (?_))
   obtain ⟨v6, g7, h⟩ := ob_some h
   refine oGR rfl rfl (qC (qs rfl (qs rfl (qs rfl eran))) (impl_within_s g7) (sp 2 rfl (evn ?_)))
   rcases cond_some h with ⟨g8, h⟩ | ⟨g8, h⟩
   ·exact qT rfl g8 (rn 1 rfl (ls_ret ((by cases h; exact ⟨.inl rfl, rfl⟩))))
   ·refine qF rfl g8 (ls_skip (hK1 _ (rn 1 rfl (ls_seq_k fun K9 hK9 => rn 1 rfl ?_))))
    obtain ⟨o1, hl, hr1⟩ := ob_some h
    have kXB1 : ∀ {z10 : List Int}, (.inl z10) = o1 → Jn K9 [(8, oL 3 ci64 z10)] := by
     intro z10 h σ' hk
     subst h
     replace h := hr1
     try dsimp only at h
     exact hK9 _ (lh hk rfl (rn 1 rfl (ls_ret ((by cases h; exact ⟨.inl rfl, rfl⟩)))))
    refine ls_rec (fun (s : (List Int) × Int) => match s with | (y3, y4) => [(2, nI a2), (8, oL 3 ci64 y3), (28, dL ci64 a1), (29, nI (List.length a1 : Int)), (30, nI y4)]) _ _ _ _ hl (okr rfl) (fun _ => rfl) ?_
    rintro m ⟨y3, y4⟩ N h hN
    unfold impl_powers_B1 at h
    dsimp only at h
    refine rn 1 rfl (ls_seq_k fun K11 hK11 => ?_)
    rcases cond_some h with ⟨g12, h⟩ | ⟨g12, h⟩
    ·refine qT rfl g12 (ls_skip (hK11 _ (ls_seq_k fun K13 hK13 => ls_blk (rs ?_))))
     obtain ⟨e14, g15, h⟩ := ob_some h
     refine qI rfl zci64 g15 (sp 2 rfl (evn (ls_seq_k fun K16 hK16 => rs (sp 1 rfl (?_)))))
     obtain ⟨v17, g18, h⟩ := ob_some h
     refine qC (qs rfl (qs rfl (qs rfl eran))) (impl_within_s g18) (sp 1 rfl (evn ?_))
     rcases cond_some h with ⟨g19, h⟩ | ⟨g19, h⟩
     ·exact qT rfl g19 (rn 1 rfl (ls_ret ((by cases h; cases hr1; exact ⟨.inl rfl, rfl⟩))))
     ·refine qF rfl g19 (ls_skip (hK16 _ (rn 1 rfl (ls_seq_k fun K20 hK20 => rn 1 rfl (qk [2, 8, 10, 11, 12, 28, 29, 30] rfl ?_)))))
      obtain ⟨o2, hl, hr2⟩ := ob_some h
      have kXB2 : ∀ {z21 : Int}, z21 = o2 → Jn K20 [(2, nI a2), (8, oL 3 ci64 y3), (11, nI z21), (28, dL ci64 a1), (29, nI (List.length a1 : Int)), (30, nI y4)] := by
       intro z21 h σ' hk
       subst h
       replace h := hr2
       try dsimp only at h
       refine hK20 _ (lh hk rfl (ls_seq_k fun K25 hK25 => rn 1 rfl ?_))
       rcases cond_some h with ⟨g26, h⟩ | ⟨g26, h⟩
       ·exact qT rfl g26 (rn 1 rfl (ls_ret ((by cases h; cases hr1; exact ⟨.inl rfl, rfl⟩))))
       ·refine qF rfl g26 (ls_skip (hK25 _ (rg (sp 2 rfl (qBs ci64 [z21] rfl rfl rfl zci64 (?_))))))
        obtain ⟨g27, h⟩ := chk_some h
        exact qA ci64 y3 [z21] rfl rfl (flat_len zci64 [z21]) rfl g27 (sp 1 rfl (evn (hK13 _ (rg (sp 2 rfl (evn (hN _ _ h (okr rfl))))))))
      refine ls_rec (fun (s : Int × Int) => match s with | (y7, y8) => [(2, nI a2), (8, oL 3 ci64 y3), (10, nI e14), (11, nI y7), (12, nI y8), (28, dL ci64 a1), (29, nI (List.length a1 : Int)), (30, nI y4)]) _ _ _ _ hl (okr rfl) (fun _ => rfl) ?_
      rintro m ⟨y7, y8⟩ N h hN
      unfold impl_powers_B2 at h
      dsimp only at h
      refine ls_seq_k fun K22 hK22 => rn 1 rfl ?_
      rcases cond_some h with ⟨g23, h⟩ | ⟨g23, h⟩
      ·exact qT rfl g23 (ls_skip (hK22 _ (ls_seq_k fun K24 hK24 => ls_blk (rg (sp 4 rfl (evn (hK24 _ (rg (sp 3 rfl (evn (hN _ _ h (okr rfl))))))))))))
      ·exact qF rfl g23 (ls_exit (kXB2 (Option.some.inj h) _ (okr rfl)))
    ·exact qF rfl g12 (ls_exit (kXB1 (Option.some.inj h) _ (okr rfl)))
def impl_copyRows_B1 (a0 : List (List Int)) (rec : ((List (List Int)) × Int) → Option ((List (List Int)))) (s : (List (List Int)) × Int) : Option ((List (List Int))) := match s with
  | (y1, y2) => cond (decide (y2 < (List.length a0 : Int))) (obind (geti a0 y2) fun e6 => obind (impl_copyInts e6) fun v8 => chk (List.length y1 + List.length [v8] ≤ lim) (rec ((y1 ++ [v8]), (IntKind.i64.wrap (y2 + 1))))) (some y1)
def impl_copyRows (a0 : List (List Int)) : Option ((List (List Int))) := obind (loopF (impl_copyRows_B1 a0) fz (([] : List (List Int)), 0)) fun z2 => some z2
theorem impl_copyRows_s {a0 : List (List Int)} {r : (List (List Int))} (h : impl_copyRows a0 = some r) : SoundAt Try.prog 93 [dL c31_d a0] (oL 31 c31_o r) := by
 unfold impl_copyRows at h
 refine st lit93 rfl (rn 2 rfl (ls_seq_k fun K1 hK1 => rn 1 rfl ?_))
 obtain ⟨o1, hl, hr1⟩ := ob_some h
 have kXB1 : ∀ {z2 : List (List Int)}, z2 = o1 → Jn K1 [(3, oL 31 c31_o z2)] := by
  intro z2 h σ' hk
  subst h
  replace h := hr1
  try dsimp only at h
  exact hK1 _ (lh hk rfl (rn 1 rfl (ls_ret ((by cases h; exact ⟨.inl rfl, rfl⟩)))))
 refine ls_rec (fun (s : (List (List Int)) × Int) => match s with | (y1, y2) => [(3, oL 31 c31_o y1), (6, dL c31_d a0), (7, nI (List.length a0 : Int)), (8, nI y2)]) _ _ _ _ hl (okr rfl) (fun _ => rfl) ?_
 rintro m ⟨y1, y2⟩ N h hN
 unfold impl_copyRows_B1 at h
 dsimp only at h
 refine rn 1 rfl (ls_seq_k fun K3 hK3 => ?_)
 rcases cond_some h with ⟨g4, h⟩ | ⟨g4, h⟩
 ·refine qT rfl g4 (ls_skip (hK3 _ (ls_seq_k fun K5 hK5 => ls_blk (rs ?_))))
  obtain ⟨e6, g7, h⟩ := ob_some h
  refine qI rfl zc31_d g7 (sp 2 rfl (evn (rg (sp 2 rfl (?_)))))
  obtain ⟨v8, g9, h⟩ := ob_some h
  refine qC (qa rfl (erD eci64 _) eran) (impl_copyInts_s g9) (qBs c31_o [v8] rfl rfl rfl zc31_o (?_))
  obtain ⟨g10, h⟩ := chk_some h
  exact qA c31_o y1 [v8] rfl rfl (flat_len zc31_o [v8]) rfl g10 (sp 1 rfl (evn (hK5 _ (rg (sp 2 rfl (evn (hN _ _ h (okr rfl))))))))
 ·exact qF rfl g4 (ls_exit (kXB1 (Option.some.inj h) _ (okr rfl)))
def impl_copyRelation (a0 : Y25) : Option (Y25) := obind (impl_copyRows a0.2) fun v1 => some (a0.1, v1)
theorem impl_copyRelation_s {a0 : Y25} {r : Y25} (h : impl_copyRelation a0 = some r) : SoundAt Try.prog 177 [.agg (c26_dd a0)] (.agg (c26_oo r)) := by
 unfold impl_copyRelation at h
 refine st lit177 rfl (rn 1 rfl (rd (by kernel_rfl) (sd 4 rfl (?_))))
 obtain ⟨v1, g2, h⟩ := ob_some h
 exact ed rfl (qC (qa rfl (erD ec31_d _) eran) (impl_copyRows_s g2) (sd 2 rfl (evdn (ls_ret ((by cases h; exact ⟨.inl rfl, rfl⟩))))))
def impl_copyDatabase_B1 (a0 : List Y106) (rec : ((List Y106) × Int) → Option ((List Y106))) (s : (List Y106) × Int) : Option ((List Y106)) := match s with
  | (y1, y2) => cond (decide (y2 < (List.length a0 : Int))) (obind (geti a0 y2) fun e6 => obind (impl_copyRelation e6.2) fun v8 => chk (List.length y1 + List.length [(e6.1, v8)] ≤ lim) (rec ((y1 ++ [(e6.1, v8)]), (IntKind.i64.wrap (y2 + 1))))) (some y1)
def impl_copyDatabase (a0 : List Y106) : Option ((List Y106)) := obind (loopF (impl_copyDatabase_B1 a0) fz (([] : List Y106), 0)) fun z2 => some z2
theorem impl_copyDatabase_s {a0 : List Y106} {r : (List Y106)} (h : impl_copyDatabase a0 = some r) : SoundAt Try.prog 121 [.agg [dL c107_dd a0]] (.agg [oL 107 c107_oo r]) := by
 unfold impl_copyDatabase at h
 refine st lit121 rfl (rn 2 rfl (ls_seq_k fun K1 hK1 => rn 1 rfl ?_))
 obtain ⟨o1, hl, hr1⟩ := ob_some h
 have kXB1 : ∀ {z2 : List Y106}, z2 = o1 → Jn K1 [(2, .box [oL 107 c107_oo []]), (3, .box [oL 107 c107_oo z2])] := by
  intro z2 h σ' hk
  subst h
  replace h := hr1
  try dsimp only at h
  exact hK1 _ (lh hk rfl (rn 1 rfl (ls_ret ((by cases h; exact ⟨.inl rfl, rfl⟩)))))
 refine ls_rec (fun (s : (List Y106) × Int) => match s with | (y1, y2) => [(2, .box [oL 107 c107_oo []]), (3, .box [oL 107 c107_oo y1]), (7, dL c107_dd a0), (8, nI (List.length a0 : Int)), (9, nI y2)]) _ _ _ _ hl (okr rfl) (fun _ => rfl) ?_
 rintro m ⟨y1, y2⟩ N h hN
 unfold impl_copyDatabase_B1 at h
 dsimp only at h
 refine rn 1 rfl (ls_seq_k fun K3 hK3 => ?_)
 rcases cond_some h with ⟨g4, h⟩ | ⟨g4, h⟩
 ·refine qT rfl g4 (ls_skip (hK3 _ (ls_seq_k fun K5 hK5 => ls_blk (rs ?_))))
  obtain ⟨e6, g7, h⟩ := ob_some h
  refine qI rfl zc107_dd g7 (sp 3 rfl (evn (rgd (by kernel_rfl) (sd 6 rfl (?_)))))
  obtain ⟨v8, g9, h⟩ := ob_some h
  refine ed rfl (qC (qa rfl (erg (erc rfl (erc (erD ec31_d _) rfl))) eran) (impl_copyRelation_s g9) (sd 1 rfl (ed rfl (qBs c107_oo [(e6.1, v8)] rfl rfl rfl zc107_oo (?_)))))
  obtain ⟨g10, h⟩ := chk_some h
  exact ed rfl (qA c107_oo y1 [(e6.1, v8)] rfl rfl (flat_len zc107_oo [(e6.1, v8)]) rfl g10 (sd 2 rfl (evdn (hK5 _ (rg (sp 2 rfl (evn (hN _ _ h (okr rfl)))))))))
 ·exact qF rfl g4 (ls_exit (kXB1 (Option.some.inj h) _ (okr rfl)))
def impl_AreValidValues_B1 (a0 : List Int) (rec : Int → Option (Sum (Unit) (Bool))) (y1 : Int) : Option (Sum (Unit) (Bool)) := cond (decide (y1 < (List.length a0 : Int))) (obind (geti a0 y1) fun e5 => obind (impl_within e5 0 99) fun v7 => cond (!v7) (some (.inr false)) (rec (IntKind.i64.wrap (y1 + 1)))) (some (.inl ()))
def impl_AreValidValues (a0 : List Int) : Option (Bool) := obind (loopF (impl_AreValidValues_B1 a0) fz 0) fun o1 => (match o1 with
  | .inl _ => (some true)
  | .inr r => some r)
theorem impl_AreValidValues_s {a0 : List Int} {r : Bool} (h : impl_AreValidValues a0 = some r) : SoundAt Try.prog 173 [dL ci64 a0] (.bool r) := by
 unfold impl_AreValidValues at h
 refine st lit173 rfl (rn 1 rfl (ls_seq_k fun K1 hK1 => rn 1 rfl ?_))
 obtain ⟨o1, hl, hr1⟩ := ob_some h
 have kXB1 : (.inl ()) = o1 → Jn K1 [] := by
  intro h σ' hk
  subst h
  replace h := hr1
  try dsimp only at h
  exact hK1 _ (lh hk rfl (rn 1 rfl (ls_ret ((by cases h; exact ⟨.inl rfl, rfl⟩)))))
 refine ls_rec (fun (y1 : Int) => [(5, dL ci64 a0), (6, nI (List.length a0 : Int)), (7, nI y1)]) _ _ _ _ hl (okr rfl) (fun _ => rfl) ?_
 rintro m y1 N h hN
 unfold impl_AreValidValues_B1 at h
 refine rn 1 rfl (ls_seq_k fun K2 hK2 => ?_)
 rcases cond_some h with ⟨g3, h⟩ | ⟨g3, h⟩
 ·refine qT rfl g3 (ls_skip (hK2 _ (ls_seq_k fun K4 hK4 => ls_blk (rs ?_))))
  obtain ⟨e5, g6, h⟩ := ob_some h
  refine qI rfl zci64 g6 (sp 2 rfl (evn (rs (sp 1 rfl (?_)))))
  obtain ⟨v7, g8, h⟩ := ob_some h
  refine qC (qs rfl (qs rfl (qs rfl eran))) (impl_within_s g8) (sp 1 rfl (evn ?_))
  rcases cond_some h with ⟨g9, h⟩ | ⟨g9, h⟩
  ·exact qT rfl g9 (rn 1 rfl (ls_ret ((by cases h; cases hr1; exact ⟨.inl rfl, rfl⟩))))
  ·exact qF rfl g9 (ls_skip (hK4 _ (rg (sp 2 rfl (evn (hN _ _ h (okr rfl)))))))
 ·exact qF rfl g3 (ls_exit (kXB1 (Option.some.inj h) _ trivial))
def impl_compareInts (a0 : Int) (a1 : Int) : Option (Int) := cond (decide (a0 < a1)) (some (-1)) (cond (decide (a1 < a0)) (some 1) (some 0))
theorem impl_compareInts_s {a0 : Int} {a1 : Int} {r : Int} (h : impl_compareInts a0 a1 = some r) : SoundAt Try.prog 238 [nI a0, nI a1] (nI r) := by
 unfold impl_compareInts at h
 refine st lit238 rfl (rn 1 rfl (ls_seq_k fun K1 hK1 => ls_blk (rn 1 rfl ?_)))
 rcases cond_some h with ⟨g2, h⟩ | ⟨g2, h⟩
 ·exact qT rfl g2 (rn 1 rfl (ls_ret ((by cases h; exact ⟨.inl rfl, rfl⟩))))
 ·refine qF rfl g2 (rn 1 rfl ?_)
  rcases cond_some h with ⟨g3, h⟩ | ⟨g3, h⟩
  ·exact qT rfl g3 (rn 1 rfl (ls_ret ((by cases h; exact ⟨.inl rfl, rfl⟩))))
  ·exact qF rfl g3 (ls_skip (hK1 _ (rn 1 rfl (qk [4] rfl (ls_ret ((by cases h; exact ⟨.inl rfl, rfl⟩)))))))
def impl_CompareRows_B1 (a0 : List Int) (a1 : List Int) (rec : Int → Option (Sum (Unit) (Int))) (y1 : Int) : Option (Sum (Unit) (Int)) := cond (decide (y1 < (List.length a0 : Int))) (cond (decide (y1 < (List.length a1 : Int))) (obind (geti a0 y1) fun e6 => obind (geti a1 y1) fun e8 => cond (e6 != e8) (obind (geti a0 y1) fun e11 => obind (geti a1 y1) fun e13 => obind (impl_compareInts e11 e13) fun v15 => some (.inr v15)) (rec (IntKind.i64.wrap (y1 + 1)))) (some (.inl ()))) (some (.inl ()))
def impl_CompareRows (a0 : List Int) (a1 : List Int) : Option (Int) := obind (loopF (impl_CompareRows_B1 a0 a1) fz 0) fun o1 => (match o1 with
  | .inl _ => (obind (impl_compareInts (List.length a0 : Int) (List.length a1 : Int)) fun v17 => some v17)
  | .inr r => some r)
theorem impl_CompareRows_s {a0 : List Int} {a1 : List Int} {r : Int} (h : impl_CompareRows a0 a1 = some r) : SoundAt Try.prog 223 [dL ci64 a0, dL ci64 a1] (nI r) := by
 unfold impl_CompareRows at h
 refine st lit223 rfl (rn 1 rfl (ls_seq_k fun K1 hK1 => rn 1 rfl ?_))
 obtain ⟨o1, hl, hr1⟩ := ob_some h
 have kXB1 : (.inl ()) = o1 → Jn K1 [(0, dL ci64 a0), (1, dL ci64 a1)] := by
  intro h σ' hk
  subst h
  replace h := hr1
  try dsimp only at h
  refine hK1 _ (lh hk rfl (rs (sp 4 rfl (?_))))
  obtain ⟨v17, g18, h⟩ := ob_some h
  exact qC (qs rfl (qs rfl eran)) (impl_compareInts_s g18) (sp 1 rfl (evn (ls_ret ((by cases h; exact ⟨.inl rfl, rfl⟩)))))
 refine ls_rec (fun (y1 : Int) => [(0, dL ci64 a0), (1, dL ci64 a1), (5, nI y1)]) _ _ _ _ hl (okr rfl) (fun _ => rfl) ?_
 rintro m y1 N h hN
 unfold impl_CompareRows_B1 at h
 refine ls_seq_k fun K2 hK2 => rs (sp 5 rfl (?_))
 rcases cond_some h with ⟨g3, h⟩ | ⟨g3, h⟩
 ·refine qg 10 g3 rfl (sp 5 rfl (evn ?_))
  rcases cond_some h with ⟨g4, h⟩ | ⟨g4, h⟩
  ·refine qT rfl g4 (ls_skip (hK2 _ (ls_seq_k fun K5 hK5 => ls_blk (rd (by kernel_rfl) (sd 2 rfl (?_))))))
   obtain ⟨e6, g7, h⟩ := ob_some h
   refine ed rfl (qI rfl zci64 g7 (sd 3 rfl (?_)))
   obtain ⟨e8, g9, h⟩ := ob_some h
   refine ed rfl (qI rfl zci64 g9 (sd 2 rfl (evdn ?_)))
   rcases cond_some h with ⟨g10, h⟩ | ⟨g10, h⟩
   ·refine qT rfl g10 (rd (by kernel_rfl) (sd 2 rfl (?_)))
    obtain ⟨e11, g12, h⟩ := ob_some h
    refine ed rfl (qI rfl zci64 g12 (sd 3 rfl (?_)))
    obtain ⟨e13, g14, h⟩ := ob_some h
    refine ed rfl (qI rfl zci64 g14 (sd 1 rfl (?_)))
    obtain ⟨v15, g16, h⟩ := ob_some h
    exact ed rfl (qC (qs rfl (qs rfl eran)) (impl_compareInts_s g16) (sd 1 rfl (evdn (qk [4] rfl (ls_ret ((by cases h; cases hr1; exact ⟨.inl rfl, rfl⟩)))))))
   ·exact qF rfl g10 (ls_skip (hK5 _ (rg (sp 3 rfl (evn (hN _ _ h (okr rfl)))))))
  ·exact qF rfl g4 (ls_exit (kXB1 (Option.some.inj h) _ (okr rfl)))
 ·exact qg 10 g3 rfl (sp 5 rfl (evn (qF rfl rfl (ls_exit (kXB1 (Option.some.inj h) _ (okr rfl))))))
def impl_rowsValid_J2 (rec : Int → Option (Sum (Unit) (Bool))) (y1 : Int) (x13 : Bool) : Option (Sum (Unit) (Bool)) := cond x13 (some (.inr false)) (rec (IntKind.i64.wrap (y1 + 1)))
def impl_rowsValid_B1 (a0 : Int) (a1 : List (List Int)) (rec : Int → Option (Sum (Unit) (Bool))) (y1 : Int) : Option (Sum (Unit) (Bool)) := cond (decide (y1 < (List.length a1 : Int))) (obind (geti a1 y1) fun e10 => cond ((List.length e10 : Int) != a0) (impl_rowsValid_J2 rec y1 true) (obind (impl_AreValidValues e10) fun v16 => cond (!v16) (impl_rowsValid_J2 rec y1 true) (cond (decide (0 < y1)) (obind (geti a1 (IntKind.i64.wrap (y1 - 1))) fun e20 => obind (impl_CompareRows e20 e10) fun v22 => impl_rowsValid_J2 rec y1 (decide (0 ≤ v22))) (impl_rowsValid_J2 rec y1 false)))) (some (.inl ()))
def impl_rowsValid (a0 : Int) (a1 : List (List Int)) : Option (Bool) := obind (impl_within a0 0 5) fun v2 => cond (!v2) (some false) (cond (decide (4000 < (List.length a1 : Int))) (some false) (obind (loopF (impl_rowsValid_B1 a0 a1) fz 0) fun o1 => (match o1 with
  | .inl _ => (some true)
  | .inr r => some r)))
theorem impl_rowsValid_s {a0 : Int} {a1 : List (List Int)} {r : Bool} (h : impl_rowsValid a0 a1 = some r) : SoundAt Try.prog 172 [nI a0, dL c31_d a1] (.bool r) := by
 unfold impl_rowsValid at h
 refine st lit172 rfl (rn 1 rfl (ls_seq_k fun K1 hK1 => rs (sp 1 rfl (?_))))
 obtain ⟨v2, g3, h⟩ := ob_some h
 refine qC (qs rfl (qs rfl (qs rfl eran))) (impl_within_s g3) (sp 2 rfl (?_))
 rcases cond_some h with ⟨g4, h⟩ | ⟨g4, h⟩
 ·exact qg 10 g4 rfl (sp 4 rfl (evn (qT rfl rfl (rn 1 rfl (ls_ret ((by cases h; exact ⟨.inl rfl, rfl⟩)))))))
 ·refine qg 10 g4 rfl (sp 4 rfl (evn ?_))
  rcases cond_some h with ⟨g5, h⟩ | ⟨g5, h⟩
  ·exact qT rfl g5 (rn 1 rfl (ls_ret ((by cases h; exact ⟨.inl rfl, rfl⟩))))
  ·refine qF rfl g5 (ls_skip (hK1 _ (ls_seq_k fun K6 hK6 => rn 1 rfl (qk [0, 1, 15, 16, 17] rfl ?_))))
   obtain ⟨o1, hl, hr1⟩ := ob_some h
   have kXB1 : (.inl ()) = o1 → Jn K6 [] := by
    intro h σ' hk
    subst h
    replace h := hr1
    try dsimp only at h
    exact hK6 _ (lh hk rfl (rn 1 rfl (ls_ret ((by cases h; exact ⟨.inl rfl, rfl⟩)))))
   refine ls_rec (fun (y1 : Int) => [(0, nI a0), (1, dL c31_d a1), (15, dL c31_d a1), (16, nI (List.length a1 : Int)), (17, nI y1)]) _ _ _ _ hl (okr rfl) (fun _ => rfl) ?_
   rintro m y1 N h hN
   unfold impl_rowsValid_B1 at h
   refine rn 1 rfl (ls_seq_k fun K7 hK7 => ?_)
   rcases cond_some h with ⟨g8, h⟩ | ⟨g8, h⟩
   ·refine qT rfl g8 (ls_skip (hK7 _ (ls_seq_k fun K9 hK9 => ls_blk (rs (sp 1 rfl (?_))))))
    obtain ⟨e10, g11, h⟩ := ob_some h
    refine qI rfl zc31_d g11 (sp 3 rfl (evn (rk fun K12 hK12 => ?_)))
    have kJ2 : ∀ {x13 : Bool}, impl_rowsValid_J2 (loopF (impl_rowsValid_B1 a0 a1) m) y1 x13 = some o1 → Jn K12 [(0, nI a0), (1, dL c31_d a1), (15, dL c31_d a1), (16, nI (List.length a1 : Int)), (17, nI y1), (44, .bool x13)] := by
     intro x13 h σ' hk
     unfold impl_rowsValid_J2 at h
     refine hK12 _ (lh hk rfl ?_)
     rcases cond_some h with ⟨g14, h⟩ | ⟨g14, h⟩
     ·exact qT rfl g14 (rn 1 rfl (ls_ret ((by cases h; cases hr1; exact ⟨.inl rfl, rfl⟩))))
     ·exact qF rfl g14 (ls_skip (hK9 _ (rg (sp 2 rfl (evn (hN _ _ h (okr rfl)))))))
    refine sp 5 rfl (?_)
    rcases cond_some h with ⟨g15, h⟩ | ⟨g15, h⟩
    ·exact qg 26 g15 rfl (sp 18 rfl (evn (kJ2 h _ (okr rfl))))
    ·refine qg 26 g15 rfl (sp 1 rfl (?_))
     obtain ⟨v16, g17, h⟩ := ob_some h
     refine oGR rfl rfl (qC (qa rfl (erD eci64 _) eran) (impl_AreValidValues_s g17) (sp 3 rfl (?_)))
     rcases cond_some h with ⟨g18, h⟩ | ⟨g18, h⟩
     ·exact qg 31 g18 rfl (sp 13 rfl (evn (kJ2 h _ (okr rfl))))
     ·refine qg 31 g18 rfl (sp 3 rfl (?_))
      rcases cond_some h with ⟨g19, h⟩ | ⟨g19, h⟩
      ·refine qg 34 g19 rfl (sp 3 rfl (?_))
       obtain ⟨e20, g21, h⟩ := ob_some h
       refine oGR rfl rfl (qI rfl zc31_d g21 (sp 2 rfl (?_)))
       obtain ⟨v22, g23, h⟩ := ob_some h
       exact oGR rfl rfl (qC (qa rfl (erD eci64 _) (qa rfl (erD eci64 _) eran)) (impl_CompareRows_s g23) (sp 3 rfl (evn (kJ2 h _ (okr rfl)))))
      ·exact qg 34 g19 rfl (sp 10 rfl (evn (kJ2 h _ (okr rfl))))
   ·exact qF rfl g8 (ls_exit (kXB1 (Option.some.inj h) _ trivial))
def impl_IsValidRelation (a0 : Y25) : Option (Bool) := obind (impl_rowsValid a0.1 a0.2) fun v1 => some v1
theorem impl_IsValidRelation_s {a0 : Y25} {r : Bool} (h : impl_IsValidRelation a0 = some r) : SoundAt Try.prog 85 [.agg (c26_dd a0)] (.bool r) := by
 unfold impl_IsValidRelation at h
 refine st lit85 rfl (rn 1 rfl (rs (sp 4 rfl (?_))))
 obtain ⟨v1, g2, h⟩ := ob_some h
 exact qC (qs rfl (qa rfl (erD ec31_d _) eran)) (impl_rowsValid_s g2) (sp 1 rfl (evn (ls_ret ((by cases h; exact ⟨.inl rfl, rfl⟩)))))
def impl_IsValidDatabase_J2 (rec : Int → Option (Sum (Unit) (Bool))) (y1 : Int) (x10 : Bool) : Option (Sum (Unit) (Bool)) := cond x10 (some (.inr false)) (rec (IntKind.i64.wrap (y1 + 1)))
def impl_IsValidDatabase_B1 (a0 : List Y106) (rec : Int → Option (Sum (Unit) (Bool))) (y1 : Int) : Option (Sum (Unit) (Bool)) := cond (decide (y1 < (List.length a0 : Int))) (obind (geti a0 y1) fun e7 => obind (impl_IsValidName e7.1) fun v12 => cond (!v12) (impl_IsValidDatabase_J2 rec y1 true) (cond (decide (0 < y1)) (obind (geti a0 (IntKind.i64.wrap (y1 - 1))) fun e16 => cond (!Op.bytesLess e16.1 e7.1) (impl_IsValidDatabase_J2 rec y1 true) (obind (impl_IsValidRelation e7.2) fun v19 => cond (!v19) (impl_IsValidDatabase_J2 rec y1 true) (cond (decide (e7.2.1 < 1)) (impl_IsValidDatabase_J2 rec y1 true) (impl_IsValidDatabase_J2 rec y1 (decide (16 < (List.length e7.2.2 : Int))))))) (obind (impl_IsValidRelation e7.2) fun v23 => cond (!v23) (impl_IsValidDatabase_J2 rec y1 true) (cond (decide (e7.2.1 < 1)) (impl_IsValidDatabase_J2 rec y1 true) (impl_IsValidDatabase_J2 rec y1 (decide (16 < (List.length e7.2.2 : Int)))))))) (some (.inl ()))
def impl_IsValidDatabase (a0 : List Y106) : Option (Bool) := cond (decide (6 < (List.length a0 : Int))) (some false) (obind (loopF (impl_IsValidDatabase_B1 a0) fz 0) fun o1 => (match o1 with
  | .inl _ => (some true)
  | .inr r => some r))
theorem impl_IsValidDatabase_s {a0 : List Y106} {r : Bool} (h : impl_IsValidDatabase a0 = some r) : SoundAt Try.prog 176 [.agg [dL c107_dd a0]] (.bool r) := by
 unfold impl_IsValidDatabase at h
 refine st lit176 rfl (rn 1 rfl (ls_seq_k fun K1 hK1 => rn 1 rfl ?_))
 rcases cond_some h with ⟨g2, h⟩ | ⟨g2, h⟩
 ·exact qT rfl g2 (rn 1 rfl (ls_ret ((by cases h; exact ⟨.inl rfl, rfl⟩))))
 ·refine qF rfl g2 (ls_skip (hK1 _ (ls_seq_k fun K3 hK3 => rn 1 rfl ?_)))
  obtain ⟨o1, hl, hr1⟩ := ob_some h
  have kXB1 : (.inl ()) = o1 → Jn K3 [] := by
   intro h σ' hk
   subst h
   replace h := hr1
   try dsimp only at h
   exact hK3 _ (lh hk rfl (rn 1 rfl (ls_ret ((by cases h; exact ⟨.inl rfl, rfl⟩)))))
  refine ls_rec (fun (y1 : Int) => [(1, .box [dL c107_dd a0]), (10, dL c107_dd a0), (11, nI (List.length a0 : Int)), (12, nI y1)]) _ _ _ _ hl (okr rfl) (fun _ => rfl) ?_
  rintro m y1 N h hN
  unfold impl_IsValidDatabase_B1 at h
  refine rn 1 rfl (ls_seq_k fun K4 hK4 => ?_)
  rcases cond_some h with ⟨g5, h⟩ | ⟨g5, h⟩
  ·refine qT rfl g5 (ls_skip (hK4 _ (ls_seq_k fun K6 hK6 => ls_blk (rs (sp 1 rfl (?_))))))
   obtain ⟨e7, g8, h⟩ := ob_some h
   refine qI rfl zc107_dd g8 (sp 4 rfl (evn (rdk (by kernel_rfl) fun K9 hK9 => ?_)))
   have kJ2 : ∀ {x10 : Bool}, impl_IsValidDatabase_J2 (loopF (impl_IsValidDatabase_B1 a0) m) y1 x10 = some o1 → Jn K9 [(1, .box [dL c107_dd a0]), (10, dL c107_dd a0), (11, nI (List.length a0 : Int)), (12, nI y1), (55, .bool x10)] := by
    intro x10 h σ' hk
    unfold impl_IsValidDatabase_J2 at h
    refine hK9 _ (lh hk rfl ?_)
    rcases cond_some h with ⟨g11, h⟩ | ⟨g11, h⟩
    ·exact qT rfl g11 (rn 1 rfl (ls_ret ((by cases h; cases hr1; exact ⟨.inl rfl, rfl⟩))))
    ·exact qF rfl g11 (ls_skip (hK6 _ (rg (sp 2 rfl (evn (hN _ _ h (okr rfl)))))))
   refine sd 2 rfl (?_)
   obtain ⟨v12, g13, h⟩ := ob_some h
   refine ed rfl (qC (qs rfl eran) (impl_IsValidName_s g13) (sd 2 rfl (?_)))
   rcases cond_some h with ⟨g14, h⟩ | ⟨g14, h⟩
   ·exact qgd 21 g14 rfl (sd 34 rfl (evdn (kJ2 h _ (okr rfl))))
   ·refine qgd 21 g14 rfl (sd 3 rfl (?_))
    rcases cond_some h with ⟨g15, h⟩ | ⟨g15, h⟩
    ·refine qgd 24 g15 rfl (sd 4 rfl (?_))
     obtain ⟨e16, g17, h⟩ := ob_some h
     refine ed rfl (oGR rfl rfl (qI rfl zc107_dd g17 (sd 8 rfl (?_))))
     rcases cond_some h with ⟨g18, h⟩ | ⟨g18, h⟩
     ·exact qgd 37 g18 rfl (sd 18 rfl (evdn (kJ2 h _ (okr rfl))))
     ·refine qgd 37 g18 rfl (sd 2 rfl (?_))
      obtain ⟨v19, g20, h⟩ := ob_some h
      refine ed rfl (oGR rfl rfl (qC (qa rfl (erg (erc rfl (erc (erD ec31_d _) rfl))) eran) (impl_IsValidRelation_s g20) (sd 3 rfl (?_))))
      rcases cond_some h with ⟨g21, h⟩ | ⟨g21, h⟩
      ·exact qgd 43 g21 rfl (sd 12 rfl (evdn (kJ2 h _ (okr rfl))))
      ·refine qgd 43 g21 rfl (sd 6 rfl (?_))
       rcases cond_some h with ⟨g22, h⟩ | ⟨g22, h⟩
       ·exact qgd 49 g22 rfl (sd 6 rfl (evdn (kJ2 h _ (okr rfl))))
       ·exact qgd 49 g22 rfl (sd 6 rfl (evdn (kJ2 h _ (okr rfl))))
    ·refine qgd 24 g15 rfl (sd 15 rfl (?_))
     obtain ⟨v23, g24, h⟩ := ob_some h
     refine ed rfl (oGR rfl rfl (qC (qa rfl (erg (erc rfl (erc (erD ec31_d _) rfl))) eran) (impl_IsValidRelation_s g24) (sd 3 rfl (?_))))
     rcases cond_some h with ⟨g25, h⟩ | ⟨g25, h⟩
     ·exact qgd 43 g25 rfl (sd 12 rfl (evdn (kJ2 h _ (okr rfl))))
     ·refine qgd 43 g25 rfl (sd 6 rfl (?_))
      rcases cond_some h with ⟨g26, h⟩ | ⟨g26, h⟩
      ·exact qgd 49 g26 rfl (sd 6 rfl (evdn (kJ2 h _ (okr rfl))))
      ·exact qgd 49 g26 rfl (sd 6 rfl (evdn (kJ2 h _ (okr rfl))))
  ·exact qF rfl g5 (ls_exit (kXB1 (Option.some.inj h) _ trivial))
def c107_aa (x : Y106) : List V := [.str x.1, nI x.2.1, aL c31_a x.2.2]
theorem zc107_aa (x : Y106) : (c107_aa x).length = 3 := rfl
theorem ec107_aa (x : Y106) : erL (c107_aa x) = c107_dd x := (erc rfl (erc rfl (erc (erG ec31_a _) rfl)))
theorem dkc31_o (x : List Int) : deepL (c31_o x) = true := (dcc (dco (fun _ => rfl) _ _) dcn)
theorem dkc107_oo (x : Y106) : deepL (c107_oo x) = true := (dcc rfl (dcc rfl (dcc (dco dkc31_o _ _) dcn)))
theorem gkc31_a (x : List Int) : argdL (c31_a x) = true := (acc (aca (fun _ => rfl) _) rfl)
theorem gkc107_aa (x : Y106) : argdL (c107_aa x) = true := (acc rfl (acc rfl (acc (aca gkc31_a _) rfl)))
theorem bkc31_d (x : List Int) : argAbleL (c31_d x) = true := (bcc (ableD (fun _ => rfl) _) rfl)
theorem vkc31_d (x : List Int) : argVL (c31_d x) = c31_a x := (vcc (argD (fun _ => rfl) _) rfl)
theorem bkc107_dd (x : Y106) : argAbleL (c107_dd x) = true := (bcc rfl (bcc rfl (bcc (ableD bkc31_d _) rfl)))
theorem vkc107_dd (x : Y106) : argVL (c107_dd x) = c107_aa x := (vcc rfl (vcc rfl (vcc (argD vkc31_d _) rfl)))
def impl_SetRelation_B1 (a1 : List UInt8) (v7 : (List Y106)) (rec : Int → Option (Int)) (y1 : Int) : Option (Int) := cond (decide (y1 < (List.length v7 : Int))) (obind (geti v7 y1) fun e13 => cond (Op.bytesLess e13.1 a1) (rec (IntKind.i64.wrap (y1 + 1))) (some y1)) (some y1)
def impl_SetRelation_J3 (a0 : List Y106) (x21 : List Y106) : Option ((List Y106) × Bool) := obind (impl_IsValidDatabase x21) fun v23 => cond (!v23) (obind (impl_copyDatabase a0) fun v26 => some (v26, false)) (some (x21, true))
def impl_SetRelation_J2 (a0 : List Y106) (a1 : List UInt8) (v7 : (List Y106)) (z10 : Int) (v16 : Y25) (x20 : Bool) : Option ((List Y106) × Bool) := cond x20 (chk (0 < List.length v7) (obind (geti v7 z10) fun e31 => impl_SetRelation_J3 a0 (seti v7 z10 (a1, v16)))) (chk ((0 : Int) ≤ 0 ∧ 0 ≤ z10 ∧ z10 ≤ (List.length (enumP 0 v7) : Int)) (chk (List.length ([] : List (Nat × Y106)) + List.length (subl (enumP 0 v7) 0 z10) ≤ lim) (chk (List.length (inlM (([] : List (Nat × Y106)) ++ (subl (enumP 0 v7) 0 z10))) + List.length (inrM ([(a1, v16)] : List Y106)) ≤ lim) (chk ((0 : Int) ≤ z10 ∧ z10 ≤ (List.length (enumP 0 v7) : Int) ∧ (List.length (enumP 0 v7) : Int) ≤ (List.length (enumP 0 v7) : Int)) (chk (List.length ((inlM (([] : List (Nat × Y106)) ++ (subl (enumP 0 v7) 0 z10))) ++ (inrM ([(a1, v16)] : List Y106))) + List.length (inlM (subl (enumP 0 v7) z10 (List.length (enumP 0 v7) : Int))) ≤ lim) (chk (okJ (v7) (((inlM (([] : List (Nat × Y106)) ++ (subl (enumP 0 v7) 0 z10))) ++ (inrM ([(a1, v16)] : List Y106))) ++ (inlM (subl (enumP 0 v7) z10 (List.length (enumP 0 v7) : Int)))) [] = true) (impl_SetRelation_J3 a0 (List.map getM (((inlM (([] : List (Nat × Y106)) ++ (subl (enumP 0 v7) 0 z10))) ++ (inrM ([(a1, v16)] : List Y106))) ++ (inlM (subl (enumP 0 v7) z10 (List.length (enumP 0 v7) : Int))))))))))))
def impl_SetRelation (a0 : List Y106) (a1 : List UInt8) (a2 : Y25) : Option ((List Y106) × Bool) := obind (impl_IsValidDatabase a0) fun v2 => cond (!v2) (obind (impl_copyDatabase a0) fun v5 => some (v5, false)) (obind (impl_copyDatabase a0) fun v7 => obind (loopF (impl_SetRelation_B1 a1 v7) fz 0) fun z10 => obind (impl_copyRelation a2) fun v16 => cond (decide (z10 < (List.length v7 : Int))) (obind (geti v7 z10) fun e40 => impl_SetRelation_J2 a0 a1 v7 z10 v16 (e40.1 == a1)) (impl_SetRelation_J2 a0 a1 v7 z10 v16 false))
theorem impl_SetRelation_s {a0 : List Y106} {a1 : List UInt8} {a2 : Y25} {r : (List Y106) × Bool} (h : impl_SetRelation a0 a1 a2 = some r) : SoundAt Try.prog 109 [.agg [dL c107_dd a0], .str a1, .agg (c26_dd a2)] (.tup [.agg [oL 107 c107_oo r.1], .bool r.2]) := by
 unfold impl_SetRelation at h
 refine sta lit109 rfl (aall (bcc (ableD bkc107_dd _) rfl) (aall rfl (aall (bcc rfl (bcc (ableD bkc31_d _) rfl)) rfl))) (mvv (vag (vcc (argD vkc107_dd _) rfl)) (mvv rfl (mvv (vag (vcc rfl (vcc (argD vkc31_d _) rfl))) rfl))) (dcc (dag (dcc (dco dkc107_oo _ _) dcn)) (dcc rfl dcn)) (rn 1 rfl (ls_seq_k fun K1 hK1 => rs (sp 1 rfl (?_))))
 obtain ⟨v2, g3, h⟩ := ob_some h
 refine qC (qa rfl (erg (erc (erG ec107_aa _) rfl)) eran) (impl_IsValidDatabase_s g3) (sp 1 rfl (evn ?_))
 rcases cond_some h with ⟨g4, h⟩ | ⟨g4, h⟩
 ·refine qT rfl g4 (rs (sp 1 rfl (?_)))
  obtain ⟨v5, g6, h⟩ := ob_some h
  exact qC (qa rfl (erg (erc (erG ec107_aa _) rfl)) eran) (impl_copyDatabase_s g6) (sp 2 rfl (evn (ls_ret ((by cases h; exact ⟨.inl rfl, rfl⟩)))))
 ·refine qF rfl g4 (ls_skip (hK1 _ (rs (sp 1 rfl (?_)))))
  obtain ⟨v7, g8, h⟩ := ob_some h
  refine qC (qa rfl (erg (erc (erG ec107_aa _) rfl)) eran) (impl_copyDatabase_s g8) (sp 2 rfl (evn (rn 1 rfl (ls_seq_k fun K9 hK9 => ?_))))
  obtain ⟨o1, hl, hr1⟩ := ob_some h
  have kXB1 : ∀ {z10 : Int}, z10 = o1 → Jn K9 [(1, .str a1), (3, .box [aL c107_aa a0]), (5, .box [nI a2.1, aL c31_a a2.2]), (6, .box [oL 107 c107_oo []]), (8, .box [oL 107 c107_oo v7]), (9, nI z10)] := by
   intro z10 h σ' hk
   subst h
   replace h := hr1
   try dsimp only at h
   refine hK9 _ (lh hk rfl (rs (sp 2 rfl (?_))))
   obtain ⟨v16, g17, h⟩ := ob_some h
   refine qC (qa rfl (erg (erc rfl (erc (erG ec31_a _) rfl))) eran) (impl_copyRelation_s g17) (sp 3 rfl (evn (ls_seq_k fun K18 hK18 => rk fun K19 hK19 => ?_)))
   have kJ2 : ∀ {x20 : Bool}, impl_SetRelation_J2 a0 a1 v7 z10 v16 x20 = some r → Jn K19 [(3, .box [aL c107_aa a0]), (6, .box [oL 107 c107_oo []]), (8, .box [oL 107 c107_oo v7]), (9, nI z10), (10, .box [.str a1, nI v16.1, oL 31 c31_o v16.2]), (53, .bool x20)] := by
    intro x20 h σ' hk
    unfold impl_SetRelation_J2 at h
    refine hK19 _ (lh hk rfl ?_)
    have kJ3 : ∀ {x21 : List Y106}, impl_SetRelation_J3 a0 x21 = some r → Jn K18 [(3, .box [aL c107_aa a0]), (6, .box [oL 107 c107_oo []]), (8, .box [oL 107 c107_oo x21])] := by
     intro x21 h σ' hk
     unfold impl_SetRelation_J3 at h
     refine hK18 _ (lh hk rfl (ls_seq_k fun K22 hK22 => rs (sp 1 rfl (?_))))
     obtain ⟨v23, g24, h⟩ := ob_some h
     refine qC (qa rfl (erg (erc (erD ec107_oo _) rfl)) eran) (impl_IsValidDatabase_s g24) (sp 1 rfl (evn ?_))
     rcases cond_some h with ⟨g25, h⟩ | ⟨g25, h⟩
     ·refine qT rfl g25 (rs (sp 1 rfl (?_)))
      obtain ⟨v26, g27, h⟩ := ob_some h
      exact qC (qa rfl (erg (erc (erG ec107_aa _) rfl)) eran) (impl_copyDatabase_s g27) (sp 2 rfl (evn (ls_ret ((by cases h; exact ⟨.inl rfl, rfl⟩)))))
     ·exact qF rfl g25 (ls_skip (hK22 _ (rn 1 rfl (ls_ret ((by cases h; exact ⟨.inl rfl, rfl⟩))))))
    rcases cond_some h with ⟨g28, h⟩ | ⟨g28, h⟩
    ·refine qT rfl g28 (qk [3, 6, 8, 9, 10] rfl ?_)
     obtain ⟨g29, h⟩ := chk_some h
     refine ls_hg (gLb (q := 900003) (b := 8) [] [] rfl rfl rfl g29 ?_)
     intro gg30 mm30
     refine qk [3, 6, 8, 9, 10, 900003] rfl (ls_gh (rg (sp 4 rfl (?_))))
     obtain ⟨e31, g32, h⟩ := ob_some h
     exact qIt rfl rfl rfl rfl g32 (qSt 0 (a1, v16) [3, 6, 8] rfl rfl rfl rfl rfl rfl rfl rfl rfl rfl zc107_oo g32 dkc107_oo (dcc rfl (dcc rfl (dcc (dco dkc31_o _ _) dcn))) (yc (snc (sA (aca gkc107_aa _)) rfl) (yc (snc (sO (dco dkc107_oo _ _)) rfl) (yc (snc rfl rfl) yn))) (evn (gDb (q := 900003) (b := 8) [] [] rfl rfl rfl (sl rfl) (kJ3 h _ (okr rfl)))))
    ·refine qF rfl g28 (qk [3, 6, 8, 9, 10] rfl (ls_hg (gSb (f := c107_oo) (l := v7) (q := 900001) (b := 8) [] [] rfl rfl rfl (fun _ => rfl) ?_)))
     intro U us1 hU
     refine qk [3, 6, 8, 9, 10, 900001] rfl (ls_gh (rgd (by kernel_rfl) (ed rfl (qBs c107_oo [] rfl rfl rfl zc107_oo (sd 3 rfl (?_))))))
     obtain ⟨g33, h⟩ := chk_some h
     refine ed rfl (qSl rfl (zpE zc107_oo) g33 (?_))
     obtain ⟨g34, h⟩ := chk_some h
     refine ed rfl (qA (pE c107_oo U) ([] : List (Nat × Y106)) (subl (enumP 0 v7) 0 z10) rfl rfl (flat_len (zpE zc107_oo) (subl (enumP 0 v7) 0 z10)) (map_dgp _) g34 (sd 1 rfl (ed rfl (qBs c107_oo [(a1, v16)] rfl rfl rfl zc107_oo (?_)))))
     obtain ⟨g35, h⟩ := chk_some h
     refine ed rfl (qA2 (mE c107_oo U) (inlM (([] : List (Nat × Y106)) ++ (subl (enumP 0 v7) 0 z10))) (inrM ([(a1, v16)] : List Y106)) rfl rfl (flat_len zc107_oo [(a1, v16)]) l_inl c_inl l_inr c_inr g35 (sd 3 rfl (?_)))
     obtain ⟨g36, h⟩ := chk_some h
     refine ed rfl (qSl rfl (zpE zc107_oo) g36 (?_))
     obtain ⟨g37, h⟩ := chk_some h
     refine ed rfl (qA2 (mE c107_oo U) ((inlM (([] : List (Nat × Y106)) ++ (subl (enumP 0 v7) 0 z10))) ++ (inrM ([(a1, v16)] : List Y106))) (inlM (subl (enumP 0 v7) z10 (List.length (enumP 0 v7) : Int))) rfl rfl (flat_len (zpE zc107_oo) (subl (enumP 0 v7) z10 (List.length (enumP 0 v7) : Int))) rfl rfl l_inl ((map_dgp _).trans c_inl) g37 (sd 2 rfl (evdn ?_)))
     obtain ⟨g38, h⟩ := chk_some h
     exact gJb (f := c107_oo) (l := v7) (q := 900001) (b := 8) [] [] (((inlM (([] : List (Nat × Y106)) ++ (subl (enumP 0 v7) 0 z10))) ++ (inrM ([(a1, v16)] : List Y106))) ++ (inlM (subl (enumP 0 v7) z10 (List.length (enumP 0 v7) : Int)))) rfl rfl rfl rfl (fun _ => rfl) hU g38 (kJ3 h _ (okr rfl))
   refine sp 6 rfl (?_)
   rcases cond_some h with ⟨g39, h⟩ | ⟨g39, h⟩
   ·refine qg 44 g39 rfl (sp 3 rfl (?_))
    obtain ⟨e40, g41, h⟩ := ob_some h
    exact oGR rfl rfl (qI rfl zc107_oo g41 (sp 5 rfl (evn (kJ2 h _ (okr rfl)))))
   ·exact qg 44 g39 rfl (sp 9 rfl (evn (kJ2 h _ (okr rfl))))
  refine ls_rec (fun (y1 : Int) => [(1, .str a1), (3, .box [aL c107_aa a0]), (5, .box [nI a2.1, aL c31_a a2.2]), (6, .box [oL 107 c107_oo []]), (8, .box [oL 107 c107_oo v7]), (9, nI y1)]) _ _ _ _ hl (okr rfl) (fun _ => rfl) ?_
  rintro m y1 N h hN
  unfold impl_SetRelation_B1 at h
  refine ls_seq_k fun K11 hK11 => rs (sp 6 rfl (?_))
  rcases cond_some h with ⟨g12, h⟩ | ⟨g12, h⟩
  ·refine qg 23 g12 rfl (sp 3 rfl (?_))
   obtain ⟨e13, g14, h⟩ := ob_some h
   refine oGR rfl rfl (qI rfl zc107_oo g14 (sp 5 rfl (evn ?_)))
   rcases cond_some h with ⟨g15, h⟩ | ⟨g15, h⟩
   ·exact qT rfl g15 (ls_skip (hK11 _ (ls_blk (rg (sp 3 rfl (evn (hN _ _ h (okr rfl))))))))
   ·exact qF rfl g15 (ls_exit (kXB1 (Option.some.inj h) _ (okr rfl)))
  ·exact qg 23 g12 rfl (sp 9 rfl (evn (qF rfl rfl (ls_exit (kXB1 (Option.some.inj h) _ (okr rfl))))))
def impl_TightDatabase_B2 (a0 : Y58) (y3 : Int) (e10 : Y141) (rec : Int → Option (Sum (Unit) ((List Y106) × Bool))) (y5 : Int) : Option (Sum (Unit) ((List Y106) × Bool)) := cond (decide (y5 < (List.length (subl a0.2.1 0 y3) : Int))) (obind (geti (subl a0.2.1 0 y3) y5) fun e17 => cond (e10.1 == e17.1) (some (.inr ([], false))) (rec (IntKind.i64.wrap (y5 + 1)))) (some (.inl ()))
def impl_TightDatabase_B1 (a0 : Y58) (v1 : (List Int) × Bool) (rec : ((List Y106) × Int) → Option (Sum ((List Y106)) ((List Y106) × Bool))) (s : (List Y106) × Int) : Option (Sum ((List Y106)) ((List Y106) × Bool)) := match s with
  | (y2, y3) => cond (decide (y3 < (List.length a0.2.1 : Int))) (obind (geti a0.2.1 y3) fun e10 => chk ((0 : Int) ≤ 0 ∧ 0 ≤ y3 ∧ y3 ≤ (List.length a0.2.1 : Int)) (obind (loopF (impl_TightDatabase_B2 a0 y3 e10) fz 0) fun o2 => (match o2 with
  | .inl _ => (obind (impl_pick v1.1 e10.2) fun v20 => obind (impl_FullRelation v20) fun v22 => obind (impl_SetRelation y2 e10.1 v22.1) fun v24 => cond (!v22.2) (some (.inr ([], false))) (cond (!v24.2) (some (.inr ([], false))) (rec (v24.1, (IntKind.i64.wrap (y3 + 1))))))
  | .inr r => some (.inr r)))) (some (.inl y2))
def impl_TightDatabase (a0 : Y58) (a1 : List Int) (a2 : Int) : Option ((List Y106) × Bool) := obind (impl_powers a0 a1 a2) fun v1 => cond (!v1.2) (some ([], false)) (obind (loopF (impl_TightDatabase_B1 a0 v1) fz (([] : List Y106), 0)) fun o1 => (match o1 with
  | .inl z6 => (some (z6, true))
  | .inr r => some r))
theorem impl_TightDatabase_s {a0 : Y58} {a1 : List Int} {a2 : Int} {r : (List Y106) × Bool} (h : impl_TightDatabase a0 a1 a2 = some r) : SoundAt Try.prog 34 [.agg (c59_ddd a0), dL ci64 a1, nI a2] (.tup [.agg [oL 107 c107_oo r.1], .bool r.2]) := by
 unfold impl_TightDatabase at h
 refine st lit34 rfl (rn 1 rfl (rs (sp 3 rfl (?_))))
 obtain ⟨v1, g2, h⟩ := ob_some h
 refine qC (qa rfl (erg (erc rfl (erc (erD ec142_d _) (erc (erD eci64 _) rfl)))) (qa rfl (erD eci64 _) (qs rfl eran))) (impl_powers_s g2) (sp 5 rfl (evn (ls_seq_k fun K3 hK3 => rn 1 rfl ?_)))
 rcases cond_some h with ⟨g4, h⟩ | ⟨g4, h⟩
 ·exact qT rfl g4 (rn 1 rfl (ls_ret ((by cases h; exact ⟨.inl rfl, rfl⟩))))
 ·refine qF rfl g4 (ls_skip (hK3 _ (rn 1 rfl (ls_seq_k fun K5 hK5 => rn 1 rfl (qk [3, 6, 8, 10, 30, 31, 32] rfl ?_)))))
  obtain ⟨o1, hl, hr1⟩ := ob_some h
  have kXB1 : ∀ {z6 : List Y106}, (.inl z6) = o1 → Jn K5 [(6, .box [oL 107 c107_oo []]), (10, .box [oL 107 c107_oo z6])] := by
   intro z6 h σ' hk
   subst h
   replace h := hr1
   try dsimp only at h
   exact hK5 _ (lh hk rfl (rn 1 rfl (ls_ret ((by cases h; exact ⟨.inl rfl, rfl⟩)))))
  refine ls_rec (fun (s : (List Y106) × Int) => match s with | (y2, y3) => [(3, .box [nI a0.1, dL c142_d a0.2.1, dL ci64 a0.2.2]), (6, .box [oL 107 c107_oo []]), (8, oL 3 ci64 v1.1), (10, .box [oL 107 c107_oo y2]), (30, dL c142_d a0.2.1), (31, nI (List.length a0.2.1 : Int)), (32, nI y3)]) _ _ _ _ hl (okr rfl) (fun _ => rfl) ?_
  rintro m ⟨y2, y3⟩ N h hN
  unfold impl_TightDatabase_B1 at h
  dsimp only at h
  refine rn 1 rfl (ls_seq_k fun K7 hK7 => ?_)
  rcases cond_some h with ⟨g8, h⟩ | ⟨g8, h⟩
  ·refine qT rfl g8 (ls_skip (hK7 _ (ls_seq_k fun K9 hK9 => ls_blk (rs (sp 1 rfl (?_))))))
   obtain ⟨e10, g11, h⟩ := ob_some h
   refine qI rfl zc142_d g11 (sp 4 rfl (evn (ls_seq_k fun K12 hK12 => rs (sp 3 rfl (?_)))))
   obtain ⟨g13, h⟩ := chk_some h
   refine qSl rfl zc142_d g13 (sp 2 rfl (evn ?_))
   obtain ⟨o2, hl, hr2⟩ := ob_some h
   have kXB2 : (.inl ()) = o2 → Jn K12 [(3, .box [nI a0.1, dL c142_d a0.2.1, dL ci64 a0.2.2]), (6, .box [oL 107 c107_oo []]), (8, oL 3 ci64 v1.1), (10, .box [oL 107 c107_oo y2]), (12, .box [.str e10.1, dL ci64 e10.2]), (30, dL c142_d a0.2.1), (31, nI (List.length a0.2.1 : Int)), (32, nI y3)] := by
    intro h σ' hk
    subst h
    replace h := hr2
    try dsimp only at h
    refine hK12 _ (lh hk rfl (rs (sp 3 rfl (?_))))
    obtain ⟨v20, g21, h⟩ := ob_some h
    refine qC (qa rfl (erD eci64 _) (qa rfl (erD eci64 _) eran)) (impl_pick_s g21) (?_)
    obtain ⟨v22, g23, h⟩ := ob_some h
    refine qC (qa rfl (erO eci64 _) eran) (impl_FullRelation_s g23) (sp 6 rfl (evn (rs (sp 4 rfl (?_)))))
    obtain ⟨v24, g25, h⟩ := ob_some h
    refine qC (qa rfl (erg (erc (erD ec107_oo _) rfl)) (qs rfl (qa rfl (erg (erc rfl (erc (erD ec31_o _) rfl))) eran))) (impl_SetRelation_s g25) (sp 6 rfl (evn (ls_seq_k fun K26 hK26 => rs (sp 3 rfl (?_)))))
    rcases cond_some h with ⟨g27, h⟩ | ⟨g27, h⟩
    ·exact qg 71 g27 rfl (sp 3 rfl (evn (qT rfl rfl (rn 1 rfl (ls_ret ((by cases h; cases hr1; exact ⟨.inl rfl, rfl⟩)))))))
    ·refine qg 71 g27 rfl (sp 3 rfl (evn (qk [3, 6, 8, 10, 17, 30, 31, 32, 74] rfl ?_)))
     rcases cond_some h with ⟨g28, h⟩ | ⟨g28, h⟩
     ·exact qT rfl g28 (rn 1 rfl (ls_ret ((by cases h; cases hr1; exact ⟨.inl rfl, rfl⟩))))
     ·exact qF rfl g28 (ls_skip (hK26 _ (rg (sp 2 rfl (evn (hK9 _ (rg (sp 2 rfl (evn (hN _ _ h (okr rfl)))))))))))
   refine ls_rec (fun (y5 : Int) => [(3, .box [nI a0.1, dL c142_d a0.2.1, dL ci64 a0.2.2]), (6, .box [oL 107 c107_oo []]), (8, oL 3 ci64 v1.1), (10, .box [oL 107 c107_oo y2]), (12, .box [.str e10.1, dL ci64 e10.2]), (30, dL c142_d a0.2.1), (31, nI (List.length a0.2.1 : Int)), (32, nI y3), (40, dL c142_d (subl a0.2.1 0 y3)), (41, nI (List.length (subl a0.2.1 0 y3) : Int)), (42, nI y5)]) _ _ _ _ hl (okr rfl) (fun _ => rfl) ?_
   rintro m y5 N h hN
   unfold impl_TightDatabase_B2 at h
   refine rn 1 rfl (ls_seq_k fun K14 hK14 => ?_)
   rcases cond_some h with ⟨g15, h⟩ | ⟨g15, h⟩
   ·refine qT rfl g15 (ls_skip (hK14 _ (ls_seq_k fun K16 hK16 => ls_blk (rs ?_))))
    obtain ⟨e17, g18, h⟩ := ob_some h
    refine qI rfl zc142_d g18 (sp 3 rfl (evn (rn 1 rfl ?_)))
    rcases cond_some h with ⟨g19, h⟩ | ⟨g19, h⟩
    ·exact qT rfl g19 (rn 1 rfl (ls_ret ((by cases h; cases hr2; cases hr1; exact ⟨.inl rfl, rfl⟩))))
    ·exact qF rfl g19 (ls_skip (hK16 _ (rg (sp 2 rfl (evn (hN _ _ h (okr rfl)))))))
   ·exact qF rfl g15 (ls_exit (kXB2 (Option.some.inj h) _ (okr rfl)))
  ·exact qF rfl g8 (ls_exit (kXB1 (Option.some.inj h) _ (okr rfl)))
end Go.Proofs.Ytmioifafgbjjhaa
