/-
  Functions of the program as typed functions, printed by gen.py, and that the program's functions do what they say. No conditions.
-/
import Derived.Test.YtceghmdneadhbaaGreatKb
import Derived.Test.YtceghmdneadhbaaGreatLit2WA1
namespace Go.Proofs.YtceghmdneadhbaaGreat
open Go.RowKit
set_option linter.unusedVariables false
set_option maxRecDepth 100000
set_option maxHeartbeats 1000000
def spec_l1In_J1 (x2 : Bool) : Option (Bool) := some x2
def spec_l1In (a0 : Int) (a1 : Int) (a2 : Int) : Option (Bool) := cond (decide (a1 <= a0)) (spec_l1In_J1 (decide (a0 <= a2))) (spec_l1In_J1 false)
theorem spec_l1In_s {a0 : Int} {a1 : Int} {a2 : Int} {r : Bool} (h : spec_l1In a0 a1 a2 = some r) : SoundAt Tryz.prog 47 [nI a0, nI a1, nI a2] (.bool r) := by
 unfold spec_l1In at h
 refine st lit47 rfl (rn 1 rfl (rk fun K1 hK1 => ?_))
 have kJ1 : ∀ {x2 : Bool}, spec_l1In_J1 x2 = some r -> Jn K1 [(6, .bool x2)] := by
  intro x2 h σ' hk
  unfold spec_l1In_J1 at h
  exact hK1 _ (lh hk rfl (ls_ret ((by cases h; exact ⟨.inl rfl, rfl⟩))))
 refine sp 4 rfl (?_)
 rcases cond_some h with ⟨g3, h⟩ | ⟨g3, h⟩
 ·exact qg 10 g3 rfl (sp 5 rfl (evn (kJ1 h _ (okr rfl))))
 ·exact qg 10 g3 rfl (sp 5 rfl (evn (kJ1 h _ (okr rfl))))
def spec_IsValidName_B1 (a0 : List UInt8) (rec : Int -> Option (Sum (Unit) (Bool))) (y1 : Int) : Option (Sum (Unit) (Bool)) := cond (decide (y1 < (List.length a0 : Int))) (obind (geti a0 y1) fun b5 => cond (decide ((UInt8.toNat b5 : Int) < 97)) (some (.inr false)) (obind (geti a0 y1) fun b8 => cond (decide (122 < (UInt8.toNat b8 : Int))) (some (.inr false)) (rec (IntKind.i64.wrap (y1 + 1))))) (some (.inl ()))
def spec_IsValidName (a0 : List UInt8) : Option (Bool) := obind (loopF (spec_IsValidName_B1 a0) fz 0) fun o1 => (match o1 with
  | .inl _ => (obind (spec_l1In (List.length a0 : Int) 1 4) fun v11 => some v11)
  | .inr r => some r)
theorem spec_IsValidName_s {a0 : List UInt8} {r : Bool} (h : spec_IsValidName a0 = some r) : SoundAt Tryz.prog 89 [.str a0] (.bool r) := by
 unfold spec_IsValidName at h
 refine st lit89 rfl (rn 1 rfl (ls_seq_k fun K1 hK1 => rn 1 rfl ?_))
 obtain ⟨o1, hl, hr1⟩ := ob_some h
 have kXB1 : (.inl ()) = o1 -> Jn K1 [(0, .str a0)] := by
  intro h σ' hk
  subst h
  replace h := hr1
  try dsimp only at h
  refine hK1 _ (lh hk rfl (rs (sp 2 rfl (?_))))
  obtain ⟨v11, g12, h⟩ := ob_some h
  exact qC (qs rfl (qs rfl (qs rfl eran))) (spec_l1In_s g12) (sp 1 rfl (evn (ls_ret ((by cases h; exact ⟨.inl rfl, rfl⟩)))))
 refine ls_rec (fun (y1 : Int) => [(0, .str a0), (3, nI y1)]) _ _ _ _ hl (okr rfl) (fun _ => rfl) ?_
 rintro m y1 N h hN
 unfold spec_IsValidName_B1 at h
 refine ls_seq_k fun K2 hK2 => rn 1 rfl ?_
 rcases cond_some h with ⟨g3, h⟩ | ⟨g3, h⟩
 ·refine qT rfl g3 (ls_skip (hK2 _ (ls_seq_k fun K4 hK4 => ls_blk (rs (sp 2 rfl (?_))))))
  obtain ⟨b5, g6, h⟩ := ob_some h
  refine qX rfl g6 (sp 2 rfl (?_))
  rcases cond_some h with ⟨g7, h⟩ | ⟨g7, h⟩
  ·exact qg 14 g7 rfl (sp 5 rfl (evn (qT rfl rfl (rn 1 rfl (ls_ret ((by cases h; cases hr1; exact ⟨.inl rfl, rfl⟩)))))))
  ·refine qg 14 g7 rfl (sp 2 rfl (?_))
   obtain ⟨b8, g9, h⟩ := ob_some h
   refine oGR rfl rfl (qX rfl g9 (sp 2 rfl (evn ?_)))
   rcases cond_some h with ⟨g10, h⟩ | ⟨g10, h⟩
   ·exact qT rfl g10 (rn 1 rfl (qk [2] rfl (ls_ret ((by cases h; cases hr1; exact ⟨.inl rfl, rfl⟩)))))
   ·exact qF rfl g10 (ls_skip (hK4 _ (rg (sp 3 rfl (evn (hN _ _ h (okr rfl)))))))
 ·exact qF rfl g3 (ls_exit (kXB1 (Option.some.inj h) _ (okr rfl)))
def spec_CompareRows_B1 (a0 : List Int) (a1 : List Int) (rec : Int -> Option (Sum (Unit) (Int))) (y1 : Int) : Option (Sum (Unit) (Int)) := cond (decide (y1 < (List.length a0 : Int))) (cond (decide (y1 < (List.length a1 : Int))) (obind (geti a0 y1) fun e7 => obind (geti a1 y1) fun e9 => cond (decide (e7 < e9)) (some (.inr (-1))) (obind (geti a0 y1) fun e12 => obind (geti a1 y1) fun e14 => cond (decide (e14 < e12)) (some (.inr 1)) (rec (IntKind.i64.wrap (y1 + 1))))) (some (.inl ()))) (some (.inl ()))
def spec_CompareRows (a0 : List Int) (a1 : List Int) : Option (Int) := obind (loopF (spec_CompareRows_B1 a0 a1) fz 0) fun o1 => (match o1 with
  | .inl _ => (cond (decide ((List.length a0 : Int) < (List.length a1 : Int))) (some (-1)) (cond (decide ((List.length a1 : Int) < (List.length a0 : Int))) (some 1) (some 0)))
  | .inr r => some r)
theorem spec_CompareRows_s {a0 : List Int} {a1 : List Int} {r : Int} (h : spec_CompareRows a0 a1 = some r) : SoundAt Tryz.prog 72 [dL ci64 a0, dL ci64 a1] (nI r) := by
 unfold spec_CompareRows at h
 refine st lit72 rfl (rn 1 rfl (ls_seq_k fun K1 hK1 => rn 1 rfl ?_))
 obtain ⟨o1, hl, hr1⟩ := ob_some h
 have kXB1 : (.inl ()) = o1 -> Jn K1 [(0, dL ci64 a0), (1, dL ci64 a1)] := by
  intro h σ' hk
  subst h
  replace h := hr1
  try dsimp only at h
  refine hK1 _ (lh hk rfl (ls_seq_k fun K17 hK17 => rn 1 rfl ?_))
  rcases cond_some h with ⟨g18, h⟩ | ⟨g18, h⟩
  ·exact qT rfl g18 (rn 1 rfl (ls_ret ((by cases h; exact ⟨.inl rfl, rfl⟩))))
  ·refine qF rfl g18 (ls_skip (hK17 _ (ls_seq_k fun K19 hK19 => rn 1 rfl ?_)))
   rcases cond_some h with ⟨g20, h⟩ | ⟨g20, h⟩
   ·exact qT rfl g20 (rn 1 rfl (ls_ret ((by cases h; exact ⟨.inl rfl, rfl⟩))))
   ·exact qF rfl g20 (ls_skip (hK19 _ (rn 1 rfl (ls_ret ((by cases h; exact ⟨.inl rfl, rfl⟩))))))
 refine ls_rec (fun (y1 : Int) => [(0, dL ci64 a0), (1, dL ci64 a1), (5, nI y1)]) _ _ _ _ hl (okr rfl) (fun _ => rfl) ?_
 rintro m y1 N h hN
 unfold spec_CompareRows_B1 at h
 refine ls_seq_k fun K2 hK2 => rs (sp 5 rfl (?_))
 rcases cond_some h with ⟨g3, h⟩ | ⟨g3, h⟩
 ·refine qg 10 g3 rfl (sp 5 rfl (evn ?_))
  rcases cond_some h with ⟨g4, h⟩ | ⟨g4, h⟩
  ·refine qT rfl g4 (ls_skip (hK2 _ (ls_seq_k fun K5 hK5 => ls_blk (ls_seq_k fun K6 hK6 => rd (by kernel_rfl) (sd 2 rfl (?_))))))
   obtain ⟨e7, g8, h⟩ := ob_some h
   refine ed rfl (qI rfl zci64 g8 (sd 3 rfl (?_)))
   obtain ⟨e9, g10, h⟩ := ob_some h
   refine ed rfl (qI rfl zci64 g10 (sd 2 rfl (evdn ?_)))
   rcases cond_some h with ⟨g11, h⟩ | ⟨g11, h⟩
   ·exact qT rfl g11 (rn 1 rfl (ls_ret ((by cases h; cases hr1; exact ⟨.inl rfl, rfl⟩))))
   ·refine qF rfl g11 (ls_skip (hK6 _ (rd (by kernel_rfl) (sd 2 rfl (?_)))))
    obtain ⟨e12, g13, h⟩ := ob_some h
    refine ed rfl (qI rfl zci64 g13 (sd 3 rfl (?_)))
    obtain ⟨e14, g15, h⟩ := ob_some h
    refine ed rfl (qI rfl zci64 g15 (sd 2 rfl (evdn (qk [0, 1, 5, 35] rfl ?_))))
    rcases cond_some h with ⟨g16, h⟩ | ⟨g16, h⟩
    ·exact qT rfl g16 (rn 1 rfl (ls_ret ((by cases h; cases hr1; exact ⟨.inl rfl, rfl⟩))))
    ·exact qF rfl g16 (ls_skip (hK5 _ (rg (sp 3 rfl (evn (hN _ _ h (okr rfl)))))))
  ·exact qF rfl g4 (ls_exit (kXB1 (Option.some.inj h) _ (okr rfl)))
 ·exact qg 10 g3 rfl (sp 5 rfl (evn (qF rfl rfl (ls_exit (kXB1 (Option.some.inj h) _ (okr rfl))))))
def spec_AreValidValues_B1 (a0 : List Int) (rec : Int -> Option (Sum (Unit) (Bool))) (y1 : Int) : Option (Sum (Unit) (Bool)) := cond (decide (y1 < (List.length a0 : Int))) (obind (geti a0 y1) fun e5 => obind (spec_l1In e5 0 99) fun v7 => cond (!v7) (some (.inr false)) (rec (IntKind.i64.wrap (y1 + 1)))) (some (.inl ()))
def spec_AreValidValues (a0 : List Int) : Option (Bool) := obind (loopF (spec_AreValidValues_B1 a0) fz 0) fun o1 => (match o1 with
  | .inl _ => (some true)
  | .inr r => some r)
theorem spec_AreValidValues_s {a0 : List Int} {r : Bool} (h : spec_AreValidValues a0 = some r) : SoundAt Tryz.prog 142 [dL ci64 a0] (.bool r) := by
 unfold spec_AreValidValues at h
 refine st lit142 rfl (rn 1 rfl (ls_seq_k fun K1 hK1 => rn 1 rfl ?_))
 obtain ⟨o1, hl, hr1⟩ := ob_some h
 have kXB1 : (.inl ()) = o1 -> Jn K1 [] := by
  intro h σ' hk
  subst h
  replace h := hr1
  try dsimp only at h
  exact hK1 _ (lh hk rfl (rn 1 rfl (ls_ret ((by cases h; exact ⟨.inl rfl, rfl⟩)))))
 refine ls_rec (fun (y1 : Int) => [(0, dL ci64 a0), (3, nI y1)]) _ _ _ _ hl (okr rfl) (fun _ => rfl) ?_
 rintro m y1 N h hN
 unfold spec_AreValidValues_B1 at h
 refine ls_seq_k fun K2 hK2 => rn 1 rfl ?_
 rcases cond_some h with ⟨g3, h⟩ | ⟨g3, h⟩
 ·refine qT rfl g3 (ls_skip (hK2 _ (ls_seq_k fun K4 hK4 => ls_blk (rs (sp 2 rfl (?_))))))
  obtain ⟨e5, g6, h⟩ := ob_some h
  refine qI rfl zci64 g6 (sp 1 rfl (?_))
  obtain ⟨v7, g8, h⟩ := ob_some h
  refine qC (qs rfl (qs rfl (qs rfl eran))) (spec_l1In_s g8) (sp 1 rfl (evn ?_))
  rcases cond_some h with ⟨g9, h⟩ | ⟨g9, h⟩
  ·exact qT rfl g9 (rn 1 rfl (ls_ret ((by cases h; cases hr1; exact ⟨.inl rfl, rfl⟩))))
  ·exact qF rfl g9 (ls_skip (hK4 _ (rg (sp 3 rfl (evn (hN _ _ h (okr rfl)))))))
 ·exact qF rfl g3 (ls_exit (kXB1 (Option.some.inj h) _ trivial))
abbrev Y42 := Int × (List (List Int))
def c53_d (x : List Int) : List V := [dL ci64 x]
theorem zc53_d (x : List Int) : (c53_d x).length = 1 := rfl
theorem ec53_d (x : List Int) : erL (c53_d x) = c53_d x := (erc (erD eci64 _) rfl)
def c43_dd (x : Y42) : List V := [nI x.1, dL c53_d x.2]
theorem zc43_dd (x : Y42) : (c43_dd x).length = 2 := rfl
theorem ec43_dd (x : Y42) : erL (c43_dd x) = c43_dd x := (erc rfl (erc (erD ec53_d _) rfl))
def spec_IsValidRelation_J2 (rec : Int -> Option (Sum (Unit) (Bool))) (y1 : Int) (x11 : Bool) : Option (Sum (Unit) (Bool)) := cond x11 (some (.inr false)) (rec (IntKind.i64.wrap (y1 + 1)))
def spec_IsValidRelation_B1 (a0 : Y42) (rec : Int -> Option (Sum (Unit) (Bool))) (y1 : Int) : Option (Sum (Unit) (Bool)) := cond (decide (y1 < (List.length a0.2 : Int))) (obind (geti a0.2 y1) fun e13 => cond ((List.length e13 : Int) != a0.1) (spec_IsValidRelation_J2 rec y1 true) (obind (geti a0.2 y1) fun e16 => obind (spec_AreValidValues e16) fun v18 => cond (!v18) (spec_IsValidRelation_J2 rec y1 true) (cond (decide (0 < y1)) (obind (geti a0.2 (IntKind.i64.wrap (y1 - 1))) fun e22 => obind (geti a0.2 y1) fun e24 => obind (spec_CompareRows e22 e24) fun v26 => spec_IsValidRelation_J2 rec y1 (decide (0 <= v26))) (spec_IsValidRelation_J2 rec y1 false)))) (some (.inl ()))
def spec_IsValidRelation (a0 : Y42) : Option (Bool) := obind (spec_l1In a0.1 0 5) fun v2 => cond (!v2) (some false) (cond (decide (4000 < (List.length a0.2 : Int))) (some false) (obind (loopF (spec_IsValidRelation_B1 a0) fz 0) fun o1 => (match o1 with
  | .inl _ => (some true)
  | .inr r => some r)))
theorem spec_IsValidRelation_s {a0 : Y42} {r : Bool} (h : spec_IsValidRelation a0 = some r) : SoundAt Tryz.prog 90 [.agg (c43_dd a0)] (.bool r) := by
 unfold spec_IsValidRelation at h
 refine st lit90 rfl (rn 1 rfl (ls_seq_k fun K1 hK1 => rs (sp 2 rfl (?_))))
 obtain ⟨v2, g3, h⟩ := ob_some h
 refine qC (qs rfl (qs rfl (qs rfl eran))) (spec_l1In_s g3) (sp 2 rfl (?_))
 rcases cond_some h with ⟨g4, h⟩ | ⟨g4, h⟩
 ·exact qg 8 g4 rfl (sp 5 rfl (evn (qT rfl rfl (rn 1 rfl (ls_ret ((by cases h; exact ⟨.inl rfl, rfl⟩)))))))
 ·refine qg 8 g4 rfl (sp 5 rfl (evn ?_))
  rcases cond_some h with ⟨g5, h⟩ | ⟨g5, h⟩
  ·exact qT rfl g5 (rn 1 rfl (ls_ret ((by cases h; exact ⟨.inl rfl, rfl⟩))))
  ·refine qF rfl g5 (ls_skip (hK1 _ (qk [1] rfl (ls_seq_k fun K6 hK6 => rn 1 rfl ?_))))
   obtain ⟨o1, hl, hr1⟩ := ob_some h
   have kXB1 : (.inl ()) = o1 -> Jn K6 [] := by
    intro h σ' hk
    subst h
    replace h := hr1
    try dsimp only at h
    exact hK6 _ (lh hk rfl (rn 1 rfl (ls_ret ((by cases h; exact ⟨.inl rfl, rfl⟩)))))
   refine ls_rec (fun (y1 : Int) => [(1, .box [nI a0.1, dL c53_d a0.2]), (3, nI y1)]) _ _ _ _ hl (okr rfl) (fun _ => rfl) ?_
   rintro m y1 N h hN
   unfold spec_IsValidRelation_B1 at h
   refine ls_seq_k fun K7 hK7 => rn 1 rfl ?_
   rcases cond_some h with ⟨g8, h⟩ | ⟨g8, h⟩
   ·refine qT rfl g8 (ls_skip (hK7 _ (ls_seq_k fun K9 hK9 => ls_blk (rdk (by kernel_rfl) fun K10 hK10 => ?_))))
    have kJ2 : ∀ {x11 : Bool}, spec_IsValidRelation_J2 (loopF (spec_IsValidRelation_B1 a0) m) y1 x11 = some o1 -> Jn K10 [(1, .box [nI a0.1, dL c53_d a0.2]), (3, nI y1), (57, .bool x11)] := by
     intro x11 h σ' hk
     unfold spec_IsValidRelation_J2 at h
     refine hK10 _ (lh hk rfl ?_)
     rcases cond_some h with ⟨g12, h⟩ | ⟨g12, h⟩
     ·exact qT rfl g12 (rn 1 rfl (ls_ret ((by cases h; cases hr1; exact ⟨.inl rfl, rfl⟩))))
     ·exact qF rfl g12 (ls_skip (hK9 _ (rg (sp 3 rfl (evn (hN _ _ h (okr rfl)))))))
    refine sd 3 rfl (?_)
    obtain ⟨e13, g14, h⟩ := ob_some h
    refine ed rfl (qI rfl zc53_d g14 (sd 6 rfl (?_)))
    rcases cond_some h with ⟨g15, h⟩ | ⟨g15, h⟩
    ·exact qgd 30 g15 rfl (sd 27 rfl (evdn (kJ2 h _ (okr rfl))))
    ·refine qgd 30 g15 rfl (sd 3 rfl (?_))
     obtain ⟨e16, g17, h⟩ := ob_some h
     refine ed rfl (oGR rfl rfl (qI rfl zc53_d g17 (sd 1 rfl (?_))))
     obtain ⟨v18, g19, h⟩ := ob_some h
     refine ed rfl (oGR rfl rfl (qC (qa rfl (erD eci64 _) eran) (spec_AreValidValues_s g19) (sd 3 rfl (?_))))
     rcases cond_some h with ⟨g20, h⟩ | ⟨g20, h⟩
     ·exact qgd 39 g20 rfl (sd 18 rfl (evdn (kJ2 h _ (okr rfl))))
     ·refine qgd 39 g20 rfl (sd 3 rfl (?_))
      rcases cond_some h with ⟨g21, h⟩ | ⟨g21, h⟩
      ·refine qgd 42 g21 rfl (sd 4 rfl (?_))
       obtain ⟨e22, g23, h⟩ := ob_some h
       refine ed rfl (oGR rfl rfl (qI rfl zc53_d g23 (sd 4 rfl (?_))))
       obtain ⟨e24, g25, h⟩ := ob_some h
       refine ed rfl (oGR rfl rfl (qI rfl zc53_d g25 (sd 1 rfl (?_))))
       obtain ⟨v26, g27, h⟩ := ob_some h
       exact ed rfl (oGR rfl rfl (qC (qa rfl (erD eci64 _) (qa rfl (erD eci64 _) eran)) (spec_CompareRows_s g27) (sd 3 rfl (evdn (kJ2 h _ (okr rfl))))))
      ·exact qgd 42 g21 rfl (sd 15 rfl (evdn (kJ2 h _ (okr rfl))))
   ·exact qF rfl g8 (ls_exit (kXB1 (Option.some.inj h) _ trivial))
abbrev Y119 := (List UInt8) × Y42
def c120_dd (x : Y119) : List V := [.str x.1, nI x.2.1, dL c53_d x.2.2]
theorem zc120_dd (x : Y119) : (c120_dd x).length = 3 := rfl
theorem ec120_dd (x : Y119) : erL (c120_dd x) = c120_dd x := (erc rfl (erc rfl (erc (erD ec53_d _) rfl)))
def spec_IsValidDatabase_J2 (rec : Int -> Option (Sum (Unit) (Bool))) (y1 : Int) (x8 : Bool) : Option (Sum (Unit) (Bool)) := cond x8 (some (.inr false)) (rec (IntKind.i64.wrap (y1 + 1)))
def spec_IsValidDatabase_B1 (a0 : List Y119) (rec : Int -> Option (Sum (Unit) (Bool))) (y1 : Int) : Option (Sum (Unit) (Bool)) := cond (decide (y1 < (List.length a0 : Int))) (obind (geti a0 y1) fun e5 => obind (spec_IsValidName e5.1) fun v10 => cond (!v10) (spec_IsValidDatabase_J2 rec y1 true) (cond (decide (0 < y1)) (obind (geti a0 (IntKind.i64.wrap (y1 - 1))) fun e14 => cond (!Op.bytesLess e14.1 e5.1) (spec_IsValidDatabase_J2 rec y1 true) (obind (spec_IsValidRelation e5.2) fun v17 => cond (!v17) (spec_IsValidDatabase_J2 rec y1 true) (cond (decide (16 < (List.length e5.2.2 : Int))) (spec_IsValidDatabase_J2 rec y1 true) (spec_IsValidDatabase_J2 rec y1 (decide (e5.2.1 < 1)))))) (obind (spec_IsValidRelation e5.2) fun v21 => cond (!v21) (spec_IsValidDatabase_J2 rec y1 true) (cond (decide (16 < (List.length e5.2.2 : Int))) (spec_IsValidDatabase_J2 rec y1 true) (spec_IsValidDatabase_J2 rec y1 (decide (e5.2.1 < 1))))))) (some (.inl ()))
def spec_IsValidDatabase (a0 : List Y119) : Option (Bool) := obind (loopF (spec_IsValidDatabase_B1 a0) fz 0) fun o1 => (match o1 with
  | .inl _ => (some (decide ((List.length a0 : Int) <= 6)))
  | .inr r => some r)
theorem spec_IsValidDatabase_s {a0 : List Y119} {r : Bool} (h : spec_IsValidDatabase a0 = some r) : SoundAt Tryz.prog 35 [.agg [dL c120_dd a0]] (.bool r) := by
 unfold spec_IsValidDatabase at h
 refine st lit35 rfl (rn 1 rfl (ls_seq_k fun K1 hK1 => rn 1 rfl ?_))
 obtain ⟨o1, hl, hr1⟩ := ob_some h
 have kXB1 : (.inl ()) = o1 -> Jn K1 [(1, .box [dL c120_dd a0])] := by
  intro h σ' hk
  subst h
  replace h := hr1
  try dsimp only at h
  exact hK1 _ (lh hk rfl (rn 1 rfl (ls_ret ((by cases h; exact ⟨.inl rfl, rfl⟩)))))
 refine ls_rec (fun (y1 : Int) => [(1, .box [dL c120_dd a0]), (3, nI y1)]) _ _ _ _ hl (okr rfl) (fun _ => rfl) ?_
 rintro m y1 N h hN
 unfold spec_IsValidDatabase_B1 at h
 refine ls_seq_k fun K2 hK2 => rn 1 rfl ?_
 rcases cond_some h with ⟨g3, h⟩ | ⟨g3, h⟩
 ·refine qT rfl g3 (ls_skip (hK2 _ (ls_seq_k fun K4 hK4 => ls_blk (rs (sp 3 rfl (?_))))))
  obtain ⟨e5, g6, h⟩ := ob_some h
  refine qI rfl zc120_dd g6 (sp 3 rfl (evn (rdk (by kernel_rfl) fun K7 hK7 => ?_)))
  have kJ2 : ∀ {x8 : Bool}, spec_IsValidDatabase_J2 (loopF (spec_IsValidDatabase_B1 a0) m) y1 x8 = some o1 -> Jn K7 [(1, .box [dL c120_dd a0]), (3, nI y1), (55, .bool x8)] := by
   intro x8 h σ' hk
   unfold spec_IsValidDatabase_J2 at h
   refine hK7 _ (lh hk rfl ?_)
   rcases cond_some h with ⟨g9, h⟩ | ⟨g9, h⟩
   ·exact qT rfl g9 (rn 1 rfl (ls_ret ((by cases h; cases hr1; exact ⟨.inl rfl, rfl⟩))))
   ·exact qF rfl g9 (ls_skip (hK4 _ (rg (sp 3 rfl (evn (hN _ _ h (okr rfl)))))))
  refine sd 2 rfl (?_)
  obtain ⟨v10, g11, h⟩ := ob_some h
  refine ed rfl (qC (qs rfl eran) (spec_IsValidName_s g11) (sd 2 rfl (?_)))
  rcases cond_some h with ⟨g12, h⟩ | ⟨g12, h⟩
  ·exact qgd 21 g12 rfl (sd 34 rfl (evdn (kJ2 h _ (okr rfl))))
  ·refine qgd 21 g12 rfl (sd 3 rfl (?_))
   rcases cond_some h with ⟨g13, h⟩ | ⟨g13, h⟩
   ·refine qgd 24 g13 rfl (sd 4 rfl (?_))
    obtain ⟨e14, g15, h⟩ := ob_some h
    refine ed rfl (oGR rfl rfl (qI rfl zc120_dd g15 (sd 8 rfl (?_))))
    rcases cond_some h with ⟨g16, h⟩ | ⟨g16, h⟩
    ·exact qgd 37 g16 rfl (sd 18 rfl (evdn (kJ2 h _ (okr rfl))))
    ·refine qgd 37 g16 rfl (sd 2 rfl (?_))
     obtain ⟨v17, g18, h⟩ := ob_some h
     refine ed rfl (oGR rfl rfl (qC (qa rfl (erg (erc rfl (erc (erD ec53_d _) rfl))) eran) (spec_IsValidRelation_s g18) (sd 3 rfl (?_))))
     rcases cond_some h with ⟨g19, h⟩ | ⟨g19, h⟩
     ·exact qgd 43 g19 rfl (sd 12 rfl (evdn (kJ2 h _ (okr rfl))))
     ·refine qgd 43 g19 rfl (sd 7 rfl (?_))
      rcases cond_some h with ⟨g20, h⟩ | ⟨g20, h⟩
      ·exact qgd 50 g20 rfl (sd 5 rfl (evdn (kJ2 h _ (okr rfl))))
      ·exact qgd 50 g20 rfl (sd 5 rfl (evdn (kJ2 h _ (okr rfl))))
   ·refine qgd 24 g13 rfl (sd 15 rfl (?_))
    obtain ⟨v21, g22, h⟩ := ob_some h
    refine ed rfl (oGR rfl rfl (qC (qa rfl (erg (erc rfl (erc (erD ec53_d _) rfl))) eran) (spec_IsValidRelation_s g22) (sd 3 rfl (?_))))
    rcases cond_some h with ⟨g23, h⟩ | ⟨g23, h⟩
    ·exact qgd 43 g23 rfl (sd 12 rfl (evdn (kJ2 h _ (okr rfl))))
    ·refine qgd 43 g23 rfl (sd 7 rfl (?_))
     rcases cond_some h with ⟨g24, h⟩ | ⟨g24, h⟩
     ·exact qgd 50 g24 rfl (sd 5 rfl (evdn (kJ2 h _ (okr rfl))))
     ·exact qgd 50 g24 rfl (sd 5 rfl (evdn (kJ2 h _ (okr rfl))))
 ·exact qF rfl g3 (ls_exit (kXB1 (Option.some.inj h) _ (okr rfl)))
def spec_EqualRelations_B1 (a0 : Y42) (a1 : Y42) (rec : Int -> Option (Sum (Unit) (Bool))) (y1 : Int) : Option (Sum (Unit) (Bool)) := cond (decide (y1 < (List.length a0.2 : Int))) (obind (geti a0.2 y1) fun e8 => obind (geti a1.2 y1) fun e10 => obind (spec_CompareRows e8 e10) fun v12 => cond (v12 != 0) (some (.inr false)) (rec (IntKind.i64.wrap (y1 + 1)))) (some (.inl ()))
def spec_EqualRelations (a0 : Y42) (a1 : Y42) : Option (Bool) := cond (a0.1 != a1.1) (some false) (cond ((List.length a0.2 : Int) != (List.length a1.2 : Int)) (some false) (obind (loopF (spec_EqualRelations_B1 a0 a1) fz 0) fun o1 => (match o1 with
  | .inl _ => (some true)
  | .inr r => some r)))
theorem spec_EqualRelations_s {a0 : Y42} {a1 : Y42} {r : Bool} (h : spec_EqualRelations a0 a1 = some r) : SoundAt Tryz.prog 25 [.agg (c43_dd a0), .agg (c43_dd a1)] (.bool r) := by
 unfold spec_EqualRelations at h
 refine st lit25 rfl (rn 1 rfl (ls_seq_k fun K1 hK1 => rs (sp 6 rfl (?_))))
 rcases cond_some h with ⟨g2, h⟩ | ⟨g2, h⟩
 ·exact qg 11 g2 rfl (sp 8 rfl (evn (qT rfl rfl (rn 1 rfl (ls_ret ((by cases h; exact ⟨.inl rfl, rfl⟩)))))))
 ·refine qg 11 g2 rfl (sp 8 rfl (evn ?_))
  rcases cond_some h with ⟨g3, h⟩ | ⟨g3, h⟩
  ·exact qT rfl g3 (rn 1 rfl (qk [4] rfl (ls_ret ((by cases h; exact ⟨.inl rfl, rfl⟩)))))
  ·refine qF rfl g3 (ls_skip (hK1 _ (ls_seq_k fun K4 hK4 => rn 1 rfl ?_)))
   obtain ⟨o1, hl, hr1⟩ := ob_some h
   have kXB1 : (.inl ()) = o1 -> Jn K4 [] := by
    intro h σ' hk
    subst h
    replace h := hr1
    try dsimp only at h
    exact hK4 _ (lh hk rfl (rn 1 rfl (ls_ret ((by cases h; exact ⟨.inl rfl, rfl⟩)))))
   refine ls_rec (fun (y1 : Int) => [(2, .box [nI a0.1, dL c53_d a0.2]), (3, .box [nI a1.1, dL c53_d a1.2]), (5, nI y1)]) _ _ _ _ hl (okr rfl) (fun _ => rfl) ?_
   rintro m y1 N h hN
   unfold spec_EqualRelations_B1 at h
   refine ls_seq_k fun K5 hK5 => rn 1 rfl ?_
   rcases cond_some h with ⟨g6, h⟩ | ⟨g6, h⟩
   ·refine qT rfl g6 (ls_skip (hK5 _ (ls_seq_k fun K7 hK7 => ls_blk (rd (by kernel_rfl) (sd 3 rfl (?_))))))
    obtain ⟨e8, g9, h⟩ := ob_some h
    refine ed rfl (qI rfl zc53_d g9 (sd 4 rfl (?_)))
    obtain ⟨e10, g11, h⟩ := ob_some h
    refine ed rfl (qI rfl zc53_d g11 (sd 1 rfl (?_)))
    obtain ⟨v12, g13, h⟩ := ob_some h
    refine ed rfl (qC (qa rfl (erD eci64 _) (qa rfl (erD eci64 _) eran)) (spec_CompareRows_s g13) (sd 1 rfl (evdn ?_)))
    rcases cond_some h with ⟨g14, h⟩ | ⟨g14, h⟩
    ·exact qT rfl g14 (rn 1 rfl (ls_ret ((by cases h; cases hr1; exact ⟨.inl rfl, rfl⟩))))
    ·exact qF rfl g14 (ls_skip (hK7 _ (rg (sp 3 rfl (evn (hN _ _ h (okr rfl)))))))
   ·exact qF rfl g6 (ls_exit (kXB1 (Option.some.inj h) _ trivial))
abbrev Y75 := Int × (List (List Int)) × (List Int)
def c76_ddd (x : Y75) : List V := [nI x.1, dL c53_d x.2.1, dL ci64 x.2.2]
theorem zc76_ddd (x : Y75) : (c76_ddd x).length = 3 := rfl
theorem ec76_ddd (x : Y75) : erL (c76_ddd x) = c76_ddd x := (erc rfl (erc (erD ec53_d _) (erc (erD eci64 _) rfl)))
def spec_EqualCounted_J1 (x2 : Bool) : Option (Bool) := some x2
def spec_EqualCounted (a0 : Y75) (a1 : Y75) : Option (Bool) := cond (a0.1 == a1.1) (obind (spec_EqualRelations (0, a0.2.1) (0, a1.2.1)) fun v4 => cond v4 (obind (spec_CompareRows a0.2.2 a1.2.2) fun v7 => spec_EqualCounted_J1 (v7 == 0)) (spec_EqualCounted_J1 false)) (spec_EqualCounted_J1 false)
theorem spec_EqualCounted_s {a0 : Y75} {a1 : Y75} {r : Bool} (h : spec_EqualCounted a0 a1 = some r) : SoundAt Tryz.prog 37 [.agg (c76_ddd a0), .agg (c76_ddd a1)] (.bool r) := by
 unfold spec_EqualCounted at h
 refine st lit37 rfl (rn 1 rfl (rk fun K1 hK1 => ?_))
 have kJ1 : ∀ {x2 : Bool}, spec_EqualCounted_J1 x2 = some r -> Jn K1 [(4, .bool x2)] := by
  intro x2 h σ' hk
  unfold spec_EqualCounted_J1 at h
  exact hK1 _ (lh hk rfl (ls_ret ((by cases h; exact ⟨.inl rfl, rfl⟩))))
 refine sp 6 rfl (?_)
 rcases cond_some h with ⟨g3, h⟩ | ⟨g3, h⟩
 ·refine qg 10 g3 rfl (sp 6 rfl (?_))
  obtain ⟨v4, g5, h⟩ := ob_some h
  refine oGR rfl rfl (qC (qa rfl (erg (erc rfl (erc (erD ec53_d _) rfl))) (qa rfl (erg (erc rfl (erc (erD ec53_d _) rfl))) eran)) (spec_EqualRelations_s g5) (sp 2 rfl (?_)))
  rcases cond_some h with ⟨g6, h⟩ | ⟨g6, h⟩
  ·refine qg 19 g6 rfl (sp 4 rfl (?_))
   obtain ⟨v7, g8, h⟩ := ob_some h
   exact oGR rfl rfl (qC (qa rfl (erD eci64 _) (qa rfl (erD eci64 _) eran)) (spec_CompareRows_s g8) (sp 3 rfl (evn (kJ1 h _ (okr rfl)))))
  ·exact qg 19 g6 rfl (sp 8 rfl (evn (kJ1 h _ (okr rfl))))
 ·exact qg 10 g3 rfl (sp 17 rfl (evn (kJ1 h _ (okr rfl))))
def c53_o (x : List Int) : List V := [oL 3 ci64 x]
theorem zc53_o (x : List Int) : (c53_o x).length = 1 := rfl
theorem ec53_o (x : List Int) : erL (c53_o x) = c53_d x := (erc (erO eci64 _) rfl)
def c43_oo (x : Y42) : List V := [nI x.1, oL 53 c53_o x.2]
theorem zc43_oo (x : Y42) : (c43_oo x).length = 2 := rfl
theorem ec43_oo (x : Y42) : erL (c43_oo x) = c43_dd x := (erc rfl (erc (erO ec53_o _) rfl))
def spec_l5Copy_B1 (a0 : Y42) (rec : ((List (List Int)) × Int) -> Option ((List (List Int)))) (s : (List (List Int)) × Int) : Option ((List (List Int))) := match s with
  | (y1, y2) => cond (decide (y2 < (List.length a0.2 : Int))) (obind (geti a0.2 y2) fun e6 => chk (List.length ([] : List Int) + List.length e6 <= lim) (chk (List.length y1 + List.length ([([] : List Int) ++ e6]) <= lim) (rec ((y1 ++ ([([] : List Int) ++ e6])), (IntKind.i64.wrap (y2 + 1)))))) (some y1)
def spec_l5Copy (a0 : Y42) : Option (Y42) := obind (loopF (spec_l5Copy_B1 a0) fz (([] : List (List Int)), 0)) fun z2 => some (a0.1, z2)
theorem spec_l5Copy_s {a0 : Y42} {r : Y42} (h : spec_l5Copy a0 = some r) : SoundAt Tryz.prog 126 [.agg (c43_dd a0)] (.agg (c43_oo r)) := by
 unfold spec_l5Copy at h
 refine st lit126 rfl (rn 2 rfl (ls_seq_k fun K1 hK1 => rn 1 rfl ?_))
 obtain ⟨o1, hl, hr1⟩ := ob_some h
 have kXB1 : ∀ {z2 : List (List Int)}, z2 = o1 -> Jn K1 [(2, .box [nI 0, oL 53 c53_o []]), (3, .box [nI a0.1, oL 53 c53_o z2])] := by
  intro z2 h σ' hk
  subst h
  replace h := hr1
  try dsimp only at h
  exact hK1 _ (lh hk rfl (rn 1 rfl (ls_ret ((by cases h; exact ⟨.inl rfl, rfl⟩)))))
 refine ls_rec (fun (s : (List (List Int)) × Int) => match s with | (y1, y2) => [(1, .box [nI a0.1, dL c53_d a0.2]), (2, .box [nI 0, oL 53 c53_o []]), (3, .box [nI a0.1, oL 53 c53_o y1]), (4, nI y2)]) _ _ _ _ hl (okr rfl) (fun _ => rfl) ?_
 rintro m ⟨y1, y2⟩ N h hN
 unfold spec_l5Copy_B1 at h
 dsimp only at h
 refine ls_seq_k fun K3 hK3 => rn 1 rfl ?_
 rcases cond_some h with ⟨g4, h⟩ | ⟨g4, h⟩
 ·refine qT rfl g4 (ls_skip (hK3 _ (ls_seq_k fun K5 hK5 => ls_blk (rgd (by kernel_rfl) (sd 2 rfl (ed rfl (qBs ci64 [] rfl rfl rfl zci64 (sd 3 rfl (?_)))))))))
  obtain ⟨e6, g7, h⟩ := ob_some h
  refine ed rfl (qI rfl zc53_d g7 (sd 1 rfl (?_)))
  obtain ⟨g8, h⟩ := chk_some h
  refine ed rfl (qA ci64 ([] : List Int) e6 rfl rfl (flat_len zci64 e6) (map_dg (fun _ => rfl) _) g8 (ed rfl (qBs c53_o [([] : List Int) ++ e6] rfl rfl rfl zc53_o (?_))))
  obtain ⟨g9, h⟩ := chk_some h
  exact ed rfl (qA c53_o y1 ([([] : List Int) ++ e6]) rfl rfl (flat_len zc53_o ([([] : List Int) ++ e6])) rfl g9 (sd 2 rfl (evdn (hK5 _ (rg (sp 3 rfl (evn (hN _ _ h (okr rfl)))))))))
 ·exact qF rfl g4 (ls_exit (kXB1 (Option.some.inj h) _ (okr rfl)))
def spec_LookupRelation_B1 (a0 : List Y119) (a1 : List UInt8) (rec : Int -> Option (Sum (Unit) (Y42 × Bool))) (y1 : Int) : Option (Sum (Unit) (Y42 × Bool)) := cond (decide (y1 < (List.length a0 : Int))) (obind (spec_IsValidDatabase a0) fun v4 => cond v4 (obind (geti a0 y1) fun e8 => cond (e8.1 == a1) (obind (geti a0 y1) fun e11 => obind (spec_l5Copy e11.2) fun v13 => some (.inr (v13, true))) (rec (IntKind.i64.wrap (y1 + 1)))) (some (.inl ()))) (some (.inl ()))
def spec_LookupRelation (a0 : List Y119) (a1 : List UInt8) : Option (Y42 × Bool) := obind (loopF (spec_LookupRelation_B1 a0 a1) fz 0) fun o1 => (match o1 with
  | .inl _ => (some ((0, []), false))
  | .inr r => some r)
theorem spec_LookupRelation_s {a0 : List Y119} {a1 : List UInt8} {r : Y42 × Bool} (h : spec_LookupRelation a0 a1 = some r) : SoundAt Tryz.prog 129 [.agg [dL c120_dd a0], .str a1] (.tup [.agg (c43_oo r.1), .bool r.2]) := by
 unfold spec_LookupRelation at h
 refine st lit129 rfl (rn 1 rfl (ls_seq_k fun K1 hK1 => rn 1 rfl ?_))
 obtain ⟨o1, hl, hr1⟩ := ob_some h
 have kXB1 : (.inl ()) = o1 -> Jn K1 [(4, .box [nI 0, oL 53 c53_o []])] := by
  intro h σ' hk
  subst h
  replace h := hr1
  try dsimp only at h
  exact hK1 _ (lh hk rfl (rn 1 rfl (ls_ret ((by cases h; exact ⟨.inl rfl, rfl⟩)))))
 refine ls_rec (fun (y1 : Int) => [(1, .str a1), (2, .box [dL c120_dd a0]), (4, .box [nI 0, oL 53 c53_o []]), (6, nI y1)]) _ _ _ _ hl (okr rfl) (fun _ => rfl) ?_
 rintro m y1 N h hN
 unfold spec_LookupRelation_B1 at h
 refine ls_seq_k fun K2 hK2 => rs (sp 6 rfl (?_))
 rcases cond_some h with ⟨g3, h⟩ | ⟨g3, h⟩
 ·refine qg 12 g3 rfl (sp 1 rfl (?_))
  obtain ⟨v4, g5, h⟩ := ob_some h
  refine oGR rfl rfl (qC (qa rfl (erg (erc (erD ec120_dd _) rfl)) eran) (spec_IsValidDatabase_s g5) (sp 1 rfl (evn ?_)))
  rcases cond_some h with ⟨g6, h⟩ | ⟨g6, h⟩
  ·refine qT rfl g6 (ls_skip (hK2 _ (ls_seq_k fun K7 hK7 => ls_blk (rs (sp 3 rfl (?_))))))
   obtain ⟨e8, g9, h⟩ := ob_some h
   refine qI rfl zc120_dd g9 (sp 4 rfl (evn ?_))
   rcases cond_some h with ⟨g10, h⟩ | ⟨g10, h⟩
   ·refine qT rfl g10 (rs (sp 3 rfl (?_)))
    obtain ⟨e11, g12, h⟩ := ob_some h
    refine qI rfl zc120_dd g12 (sp 2 rfl (?_))
    obtain ⟨v13, g14, h⟩ := ob_some h
    exact qC (qa rfl (erg (erc rfl (erc (erD ec53_d _) rfl))) eran) (spec_l5Copy_s g14) (sp 2 rfl (evn (ls_ret ((by cases h; cases hr1; exact ⟨.inl rfl, rfl⟩)))))
   ·exact qF rfl g10 (ls_skip (hK7 _ (qk [1, 2, 4, 6] rfl (rg (sp 3 rfl (evn (hN _ _ h (okr rfl))))))))
  ·exact qF rfl g6 (ls_exit (kXB1 (Option.some.inj h) _ (okr rfl)))
 ·exact qg 12 g3 rfl (sp 3 rfl (evn (qF rfl rfl (ls_exit (kXB1 (Option.some.inj h) _ (okr rfl))))))
abbrev Y147 := (List UInt8) × (List Int)
def c148_d (x : Y147) : List V := [.str x.1, dL ci64 x.2]
theorem zc148_d (x : Y147) : (c148_d x).length = 2 := rfl
theorem ec148_d (x : Y147) : erL (c148_d x) = c148_d x := (erc rfl (erc (erD eci64 _) rfl))
def spec_ContainsVariable_B1 (a0 : Y147) (a1 : Int) (rec : Int -> Option (Sum (Unit) (Bool))) (y1 : Int) : Option (Sum (Unit) (Bool)) := cond (decide (y1 < (List.length a0.2 : Int))) (obind (geti a0.2 y1) fun e5 => cond (e5 == a1) (some (.inr true)) (rec (IntKind.i64.wrap (y1 + 1)))) (some (.inl ()))
def spec_ContainsVariable (a0 : Y147) (a1 : Int) : Option (Bool) := obind (loopF (spec_ContainsVariable_B1 a0 a1) fz 0) fun o1 => (match o1 with
  | .inl _ => (some false)
  | .inr r => some r)
theorem spec_ContainsVariable_s {a0 : Y147} {a1 : Int} {r : Bool} (h : spec_ContainsVariable a0 a1 = some r) : SoundAt Tryz.prog 174 [.agg (c148_d a0), nI a1] (.bool r) := by
 unfold spec_ContainsVariable at h
 refine st lit174 rfl (rn 1 rfl (ls_seq_k fun K1 hK1 => rn 1 rfl ?_))
 obtain ⟨o1, hl, hr1⟩ := ob_some h
 have kXB1 : (.inl ()) = o1 -> Jn K1 [] := by
  intro h σ' hk
  subst h
  replace h := hr1
  try dsimp only at h
  exact hK1 _ (lh hk rfl (rn 1 rfl (ls_ret ((by cases h; exact ⟨.inl rfl, rfl⟩)))))
 refine ls_rec (fun (y1 : Int) => [(1, nI a1), (2, .box [.str a0.1, dL ci64 a0.2]), (5, nI y1)]) _ _ _ _ hl (okr rfl) (fun _ => rfl) ?_
 rintro m y1 N h hN
 unfold spec_ContainsVariable_B1 at h
 refine ls_seq_k fun K2 hK2 => rn 1 rfl ?_
 rcases cond_some h with ⟨g3, h⟩ | ⟨g3, h⟩
 ·refine qT rfl g3 (ls_skip (hK2 _ (ls_seq_k fun K4 hK4 => ls_blk (rs (sp 3 rfl (?_))))))
  obtain ⟨e5, g6, h⟩ := ob_some h
  refine qI rfl zci64 g6 (sp 3 rfl (evn ?_))
  rcases cond_some h with ⟨g7, h⟩ | ⟨g7, h⟩
  ·exact qT rfl g7 (rn 1 rfl (ls_ret ((by cases h; cases hr1; exact ⟨.inl rfl, rfl⟩))))
  ·exact qF rfl g7 (ls_skip (hK4 _ (rg (sp 3 rfl (evn (hN _ _ h (okr rfl)))))))
 ·exact qF rfl g3 (ls_exit (kXB1 (Option.some.inj h) _ trivial))
def spec_l7Find_B1 (a0 : List Int) (a1 : Int) (rec : Int -> Option (Sum (Unit) (Int))) (y1 : Int) : Option (Sum (Unit) (Int)) := cond (decide (y1 < (List.length a0 : Int))) (obind (geti a0 y1) fun e5 => cond (e5 == a1) (some (.inr y1)) (rec (IntKind.i64.wrap (y1 + 1)))) (some (.inl ()))
def spec_l7Find (a0 : List Int) (a1 : Int) : Option (Int) := obind (loopF (spec_l7Find_B1 a0 a1) fz 0) fun o1 => (match o1 with
  | .inl _ => (some (-1))
  | .inr r => some r)
theorem spec_l7Find_s {a0 : List Int} {a1 : Int} {r : Int} (h : spec_l7Find a0 a1 = some r) : SoundAt Tryz.prog 175 [dL ci64 a0, nI a1] (nI r) := by
 unfold spec_l7Find at h
 refine st lit175 rfl (rn 1 rfl (ls_seq_k fun K1 hK1 => rn 1 rfl ?_))
 obtain ⟨o1, hl, hr1⟩ := ob_some h
 have kXB1 : (.inl ()) = o1 -> Jn K1 [] := by
  intro h σ' hk
  subst h
  replace h := hr1
  try dsimp only at h
  exact hK1 _ (lh hk rfl (rn 1 rfl (ls_ret ((by cases h; exact ⟨.inl rfl, rfl⟩)))))
 refine ls_rec (fun (y1 : Int) => [(0, dL ci64 a0), (1, nI a1), (5, nI y1)]) _ _ _ _ hl (okr rfl) (fun _ => rfl) ?_
 rintro m y1 N h hN
 unfold spec_l7Find_B1 at h
 refine ls_seq_k fun K2 hK2 => rn 1 rfl ?_
 rcases cond_some h with ⟨g3, h⟩ | ⟨g3, h⟩
 ·refine qT rfl g3 (ls_skip (hK2 _ (ls_seq_k fun K4 hK4 => ls_blk (rs (sp 2 rfl (?_))))))
  obtain ⟨e5, g6, h⟩ := ob_some h
  refine qI rfl zci64 g6 (sp 3 rfl (evn ?_))
  rcases cond_some h with ⟨g7, h⟩ | ⟨g7, h⟩
  ·exact qT rfl g7 (rn 1 rfl (ls_ret ((by cases h; cases hr1; exact ⟨.inl rfl, rfl⟩))))
  ·exact qF rfl g7 (ls_skip (hK4 _ (rg (sp 3 rfl (evn (hN _ _ h (okr rfl)))))))
 ·exact qF rfl g3 (ls_exit (kXB1 (Option.some.inj h) _ trivial))
abbrev Y54 := Int × (List Y147) × (List Int)
def c55_ddd (x : Y54) : List V := [nI x.1, dL c148_d x.2.1, dL ci64 x.2.2]
theorem zc55_ddd (x : Y54) : (c55_ddd x).length = 3 := rfl
theorem ec55_ddd (x : Y54) : erL (c55_ddd x) = c55_ddd x := (erc rfl (erc (erD ec148_d _) (erc (erD eci64 _) rfl)))
def spec_IsValidQuery_B2 (a0 : Y54) (y2 : Int) (rec : Int -> Option (Sum (Unit) (Bool))) (y4 : Int) : Option (Sum (Unit) (Bool)) := obind (geti a0.2.1 y2) fun e25 => cond (decide (y4 < (List.length e25.2 : Int))) (obind (geti a0.2.1 y2) fun e29 => obind (geti e29.2 y4) fun e31 => obind (spec_l1In e31 0 (IntKind.i64.wrap (a0.1 - 1))) fun v33 => cond (!v33) (some (.inr false)) (rec (IntKind.i64.wrap (y4 + 1)))) (some (.inl ()))
def spec_IsValidQuery_B1 (a0 : Y54) (rec : Int -> Option (Sum (Unit) (Bool))) (y2 : Int) : Option (Sum (Unit) (Bool)) := cond (decide (y2 < (List.length a0.2.1 : Int))) (obind (geti a0.2.1 y2) fun e14 => obind (spec_IsValidName e14.1) fun v16 => cond (!v16) (some (.inr false)) (obind (geti a0.2.1 y2) fun e19 => obind (spec_l1In (List.length e19.2 : Int) 1 5) fun v21 => cond (!v21) (some (.inr false)) (obind (loopF (spec_IsValidQuery_B2 a0 y2) fz 0) fun o2 => (match o2 with
  | .inl _ => (rec (IntKind.i64.wrap (y2 + 1)))
  | .inr r => some (.inr r))))) (some (.inl ()))
def spec_IsValidQuery_J5 (rec : (Bool × Int) -> Option (Bool)) (y11 : Int) (x45 : Bool) : Option (Bool) := rec (x45, (IntKind.i64.wrap (y11 + 1)))
def spec_IsValidQuery_B4 (a0 : Y54) (y7 : Int) (rec : (Bool × Int) -> Option (Bool)) (s : Bool × Int) : Option (Bool) := match s with
  | (y10, y11) => cond (decide (y11 < (List.length a0.2.1 : Int))) (cond y10 (spec_IsValidQuery_J5 rec y11 true) (obind (geti a0.2.1 y11) fun e47 => obind (spec_ContainsVariable e47 y7) fun v49 => spec_IsValidQuery_J5 rec y11 v49)) (some y10)
def spec_IsValidQuery_B3 (a0 : Y54) (rec : Int -> Option (Sum (Unit) (Bool))) (y7 : Int) : Option (Sum (Unit) (Bool)) := cond (decide (y7 < a0.1)) (obind (loopF (spec_IsValidQuery_B4 a0 y7) fz (false, 0)) fun z41 => cond (!z41) (some (.inr false)) (rec (IntKind.i64.wrap (y7 + 1)))) (some (.inl ()))
def spec_IsValidQuery_B6 (a0 : Y54) (rec : Int -> Option (Sum (Unit) (Bool))) (y12 : Int) : Option (Sum (Unit) (Bool)) := cond (decide (y12 < (List.length a0.2.2 : Int))) (obind (geti a0.2.2 y12) fun e56 => obind (spec_l1In e56 0 (IntKind.i64.wrap (a0.1 - 1))) fun v58 => cond (!v58) (some (.inr false)) (chk ((0 : Int) <= 0 ∧ 0 <= y12 ∧ y12 <= (List.length a0.2.2 : Int)) (obind (geti a0.2.2 y12) fun e62 => obind (spec_l7Find (subl a0.2.2 0 y12) e62) fun v64 => cond (decide (0 <= v64)) (some (.inr false)) (rec (IntKind.i64.wrap (y12 + 1)))))) (some (.inl ()))
def spec_IsValidQuery (a0 : Y54) : Option (Bool) := obind (spec_l1In a0.1 1 5) fun v2 => cond (!v2) (some false) (obind (spec_l1In (List.length a0.2.1 : Int) 1 4) fun v5 => cond (!v5) (some false) (cond (decide (a0.1 < (List.length a0.2.2 : Int))) (some false) (obind (loopF (spec_IsValidQuery_B1 a0) fz 0) fun o1 => (match o1 with
  | .inl _ => (obind (loopF (spec_IsValidQuery_B3 a0) fz 0) fun o3 => (match o3 with
  | .inl _ => (obind (loopF (spec_IsValidQuery_B6 a0) fz 0) fun o6 => (match o6 with
  | .inl _ => (some true)
  | .inr r => some r))
  | .inr r => some r))
  | .inr r => some r))))
theorem spec_IsValidQuery_s {a0 : Y54} {r : Bool} (h : spec_IsValidQuery a0 = some r) : SoundAt Tryz.prog 130 [.agg (c55_ddd a0)] (.bool r) := by
 unfold spec_IsValidQuery at h
 refine st lit130 rfl (rn 1 rfl (ls_seq_k fun K1 hK1 => rs (sp 2 rfl (?_))))
 obtain ⟨v2, g3, h⟩ := ob_some h
 refine qC (qs rfl (qs rfl (qs rfl eran))) (spec_l1In_s g3) (sp 2 rfl (?_))
 rcases cond_some h with ⟨g4, h⟩ | ⟨g4, h⟩
 ·exact qg 13 g4 rfl (sp 14 rfl (evn (qT rfl rfl (rn 1 rfl (ls_ret ((by cases h; exact ⟨.inl rfl, rfl⟩)))))))
 ·refine qg 13 g4 rfl (sp 3 rfl (?_))
  obtain ⟨v5, g6, h⟩ := ob_some h
  refine oGR rfl rfl (qC (qs rfl (qs rfl (qs rfl eran))) (spec_l1In_s g6) (sp 3 rfl (?_)))
  rcases cond_some h with ⟨g7, h⟩ | ⟨g7, h⟩
  ·exact qg 20 g7 rfl (sp 7 rfl (evn (qk [1, 27] rfl (qT rfl rfl (rn 1 rfl (ls_ret ((by cases h; exact ⟨.inl rfl, rfl⟩))))))))
  ·refine qg 20 g7 rfl (sp 7 rfl (evn ?_))
   rcases cond_some h with ⟨g8, h⟩ | ⟨g8, h⟩
   ·exact qT rfl g8 (rn 1 rfl (ls_ret ((by cases h; exact ⟨.inl rfl, rfl⟩))))
   ·refine qF rfl g8 (ls_skip (hK1 _ (ls_seq_k fun K9 hK9 => rn 1 rfl ?_)))
    obtain ⟨o1, hl, hr1⟩ := ob_some h
    have kXB1 : (.inl ()) = o1 -> Jn K9 [(1, .box [nI a0.1, dL c148_d a0.2.1, dL ci64 a0.2.2])] := by
     intro h σ' hk
     subst h
     replace h := hr1
     try dsimp only at h
     refine hK9 _ (lh hk rfl (ls_seq_k fun K36 hK36 => rn 1 rfl ?_))
     obtain ⟨o3, hl, hr3⟩ := ob_some h
     have kXB3 : (.inl ()) = o3 -> Jn K36 [(1, .box [nI a0.1, dL c148_d a0.2.1, dL ci64 a0.2.2])] := by
      intro h σ' hk
      subst h
      replace h := hr3
      try dsimp only at h
      refine hK36 _ (lh hk rfl (ls_seq_k fun K52 hK52 => rn 1 rfl ?_))
      obtain ⟨o6, hl, hr6⟩ := ob_some h
      have kXB6 : (.inl ()) = o6 -> Jn K52 [] := by
       intro h σ' hk
       subst h
       replace h := hr6
       try dsimp only at h
       exact hK52 _ (lh hk rfl (rn 1 rfl (ls_ret ((by cases h; exact ⟨.inl rfl, rfl⟩)))))
      refine ls_rec (fun (y12 : Int) => [(1, .box [nI a0.1, dL c148_d a0.2.1, dL ci64 a0.2.2]), (8, nI y12)]) _ _ _ _ hl (okr rfl) (fun _ => rfl) ?_
      rintro m y12 N h hN
      unfold spec_IsValidQuery_B6 at h
      refine ls_seq_k fun K53 hK53 => rn 1 rfl ?_
      rcases cond_some h with ⟨g54, h⟩ | ⟨g54, h⟩
      ·refine qT rfl g54 (ls_skip (hK53 _ (ls_seq_k fun K55 hK55 => ls_blk (rd (by kernel_rfl) (sd 3 rfl (?_))))))
       obtain ⟨e56, g57, h⟩ := ob_some h
       refine ed rfl (qI rfl zci64 g57 (sd 4 rfl (?_)))
       obtain ⟨v58, g59, h⟩ := ob_some h
       refine ed rfl (qC (qs rfl (qs rfl (qs rfl eran))) (spec_l1In_s g59) (sd 2 rfl (?_)))
       rcases cond_some h with ⟨g60, h⟩ | ⟨g60, h⟩
       ·exact qgd 121 g60 rfl (sd 12 rfl (evdn (qT rfl rfl (rn 1 rfl (qk [2] rfl (ls_ret ((by cases h; cases hr6; exact ⟨.inl rfl, rfl⟩))))))))
       ·refine qgd 121 g60 rfl (sd 3 rfl (?_))
        obtain ⟨g61, h⟩ := chk_some h
        refine ed rfl (oGR rfl rfl (qSl rfl zci64 g61 (sd 3 rfl (?_))))
        obtain ⟨e62, g63, h⟩ := ob_some h
        refine ed rfl (oGR rfl rfl (qI rfl zci64 g63 (sd 1 rfl (?_))))
        obtain ⟨v64, g65, h⟩ := ob_some h
        refine ed rfl (oGR rfl rfl (qC (qa rfl (erD eci64 _) (qs rfl eran)) (spec_l7Find_s g65) (sd 2 rfl (evdn ?_))))
        rcases cond_some h with ⟨g66, h⟩ | ⟨g66, h⟩
        ·exact qT rfl g66 (rn 1 rfl (ls_ret ((by cases h; cases hr6; exact ⟨.inl rfl, rfl⟩))))
        ·exact qF rfl g66 (ls_skip (hK55 _ (rg (sp 3 rfl (evn (hN _ _ h (okr rfl)))))))
      ·exact qF rfl g54 (ls_exit (kXB6 (Option.some.inj h) _ trivial))
     refine ls_rec (fun (y7 : Int) => [(1, .box [nI a0.1, dL c148_d a0.2.1, dL ci64 a0.2.2]), (5, nI y7)]) _ _ _ _ hl (okr rfl) (fun _ => rfl) ?_
     rintro m y7 N h hN
     unfold spec_IsValidQuery_B3 at h
     refine ls_seq_k fun K37 hK37 => rn 1 rfl ?_
     rcases cond_some h with ⟨g38, h⟩ | ⟨g38, h⟩
     ·refine qT rfl g38 (ls_skip (hK37 _ (ls_seq_k fun K39 hK39 => ls_blk (rn 1 rfl (ls_seq_k fun K40 hK40 => rn 1 rfl ?_)))))
      obtain ⟨o4, hl, hr4⟩ := ob_some h
      have kXB4 : ∀ {z41 : Bool}, z41 = o4 -> Jn K40 [(1, .box [nI a0.1, dL c148_d a0.2.1, dL ci64 a0.2.2]), (5, nI y7), (6, .bool z41)] := by
       intro z41 h σ' hk
       subst h
       replace h := hr4
       try dsimp only at h
       refine hK40 _ (lh hk rfl (rn 1 rfl ?_))
       rcases cond_some h with ⟨g51, h⟩ | ⟨g51, h⟩
       ·exact qT rfl g51 (rn 1 rfl (ls_ret ((by cases h; cases hr3; exact ⟨.inl rfl, rfl⟩))))
       ·exact qF rfl g51 (ls_skip (hK39 _ (rg (sp 3 rfl (evn (hN _ _ h (okr rfl)))))))
      refine ls_rec (fun (s : Bool × Int) => match s with | (y10, y11) => [(1, .box [nI a0.1, dL c148_d a0.2.1, dL ci64 a0.2.2]), (5, nI y7), (6, .bool y10), (7, nI y11)]) _ _ _ _ hl (okr rfl) (fun _ => rfl) ?_
      rintro m ⟨y10, y11⟩ N h hN
      unfold spec_IsValidQuery_B4 at h
      dsimp only at h
      refine ls_seq_k fun K42 hK42 => rn 1 rfl ?_
      rcases cond_some h with ⟨g43, h⟩ | ⟨g43, h⟩
      ·refine qT rfl g43 (ls_skip (hK42 _ (ls_seq_k fun K44 hK44 => ls_blk ?_)))
       have kJ5 : ∀ {x45 : Bool}, spec_IsValidQuery_J5 (loopF (spec_IsValidQuery_B4 a0 y7) m) y11 x45 = some o4 -> Jn K44 [(1, .box [nI a0.1, dL c148_d a0.2.1, dL ci64 a0.2.2]), (5, nI y7), (6, .bool x45), (7, nI y11)] := by
        intro x45 h σ' hk
        unfold spec_IsValidQuery_J5 at h
        exact hK44 _ (lh hk rfl (rg (sp 3 rfl (evn (hN _ _ h (okr rfl))))))
       refine rg (sp 2 rfl (?_))
       rcases cond_some h with ⟨g46, h⟩ | ⟨g46, h⟩
       ·exact qg 93 g46 rfl (sp 9 rfl (evn (kJ5 h _ (okr rfl))))
       ·refine qg 93 g46 rfl (sp 3 rfl (?_))
        obtain ⟨e47, g48, h⟩ := ob_some h
        refine oGR rfl rfl (qI rfl zc148_d g48 (sp 2 rfl (?_)))
        obtain ⟨v49, g50, h⟩ := ob_some h
        exact oGR rfl rfl (qC (qa rfl (erg (erc rfl (erc (erD eci64 _) rfl))) (qs rfl eran)) (spec_ContainsVariable_s g50) (sp 2 rfl (evn (kJ5 h _ (okr rfl)))))
      ·exact qF rfl g43 (ls_exit (kXB4 (Option.some.inj h) _ (okr rfl)))
     ·exact qF rfl g38 (ls_exit (kXB3 (Option.some.inj h) _ (okr rfl)))
    refine ls_rec (fun (y2 : Int) => [(1, .box [nI a0.1, dL c148_d a0.2.1, dL ci64 a0.2.2]), (3, nI y2)]) _ _ _ _ hl (okr rfl) (fun _ => rfl) ?_
    rintro m y2 N h hN
    unfold spec_IsValidQuery_B1 at h
    refine ls_seq_k fun K10 hK10 => rn 1 rfl ?_
    rcases cond_some h with ⟨g11, h⟩ | ⟨g11, h⟩
    ·refine qT rfl g11 (ls_skip (hK10 _ (ls_seq_k fun K12 hK12 => ls_blk (ls_seq_k fun K13 hK13 => rs (sp 3 rfl (?_))))))
     obtain ⟨e14, g15, h⟩ := ob_some h
     refine qI rfl zc148_d g15 (sp 2 rfl (?_))
     obtain ⟨v16, g17, h⟩ := ob_some h
     refine qC (qs rfl eran) (spec_IsValidName_s g17) (sp 2 rfl (?_))
     rcases cond_some h with ⟨g18, h⟩ | ⟨g18, h⟩
     ·exact qg 43 g18 rfl (sp 10 rfl (evn (qT rfl rfl (rn 1 rfl (ls_ret ((by cases h; cases hr1; exact ⟨.inl rfl, rfl⟩)))))))
     ·refine qg 43 g18 rfl (sp 3 rfl (?_))
      obtain ⟨e19, g20, h⟩ := ob_some h
      refine oGR rfl rfl (qI rfl zc148_d g20 (sp 3 rfl (?_)))
      obtain ⟨v21, g22, h⟩ := ob_some h
      refine oGR rfl rfl (qC (qs rfl (qs rfl (qs rfl eran))) (spec_l1In_s g22) (sp 2 rfl (evn (qk [1, 3, 53] rfl ?_))))
      rcases cond_some h with ⟨g23, h⟩ | ⟨g23, h⟩
      ·exact qT rfl g23 (rn 1 rfl (ls_ret ((by cases h; cases hr1; exact ⟨.inl rfl, rfl⟩))))
      ·refine qF rfl g23 (ls_skip (hK13 _ (rn 1 rfl ?_)))
       obtain ⟨o2, hl, hr2⟩ := ob_some h
       have kXB2 : (.inl ()) = o2 -> Jn K12 [(1, .box [nI a0.1, dL c148_d a0.2.1, dL ci64 a0.2.2]), (3, nI y2)] := by
        intro h σ' hk
        subst h
        replace h := hr2
        try dsimp only at h
        exact hK12 _ (lh hk rfl (rg (sp 3 rfl (evn (hN _ _ h (okr rfl))))))
       refine ls_rec (fun (y4 : Int) => [(1, .box [nI a0.1, dL c148_d a0.2.1, dL ci64 a0.2.2]), (3, nI y2), (4, nI y4)]) _ _ _ _ hl (okr rfl) (fun _ => rfl) ?_
       rintro m y4 N h hN
       unfold spec_IsValidQuery_B2 at h
       refine ls_seq_k fun K24 hK24 => rs (sp 4 rfl (?_))
       obtain ⟨e25, g26, h⟩ := ob_some h
       refine qI rfl zc148_d g26 (sp 4 rfl (evn ?_))
       rcases cond_some h with ⟨g27, h⟩ | ⟨g27, h⟩
       ·refine qT rfl g27 (ls_skip (hK24 _ (ls_seq_k fun K28 hK28 => ls_blk (rd (by kernel_rfl) (sd 3 rfl (?_))))))
        obtain ⟨e29, g30, h⟩ := ob_some h
        refine ed rfl (qI rfl zc148_d g30 (sd 3 rfl (?_)))
        obtain ⟨e31, g32, h⟩ := ob_some h
        refine ed rfl (qI rfl zci64 g32 (sd 4 rfl (?_)))
        obtain ⟨v33, g34, h⟩ := ob_some h
        refine ed rfl (qC (qs rfl (qs rfl (qs rfl eran))) (spec_l1In_s g34) (sd 1 rfl (evdn ?_)))
        rcases cond_some h with ⟨g35, h⟩ | ⟨g35, h⟩
        ·exact qT rfl g35 (rn 1 rfl (ls_ret ((by cases h; cases hr2; cases hr1; exact ⟨.inl rfl, rfl⟩))))
        ·exact qF rfl g35 (ls_skip (hK28 _ (qk [1, 3, 4] rfl (rg (sp 3 rfl (evn (hN _ _ h (okr rfl))))))))
       ·exact qF rfl g27 (ls_exit (kXB2 (Option.some.inj h) _ (okr rfl)))
    ·exact qF rfl g11 (ls_exit (kXB1 (Option.some.inj h) _ (okr rfl)))
def spec_IsQueryFor_B1 (a0 : List Y119) (a1 : Y54) (rec : Int -> Option (Sum (Unit) (Bool))) (y1 : Int) : Option (Sum (Unit) (Bool)) := cond (decide (y1 < (List.length a1.2.1 : Int))) (obind (geti a1.2.1 y1) fun e5 => obind (spec_LookupRelation a0 e5.1) fun v7 => cond (!v7.2) (some (.inr false)) (obind (geti a1.2.1 y1) fun e10 => cond (v7.1.1 != (List.length e10.2 : Int)) (some (.inr false)) (rec (IntKind.i64.wrap (y1 + 1))))) (some (.inl ()))
def spec_IsQueryFor_J2 (x14 : Bool) : Option (Bool) := some x14
def spec_IsQueryFor (a0 : List Y119) (a1 : Y54) : Option (Bool) := obind (loopF (spec_IsQueryFor_B1 a0 a1) fz 0) fun o1 => (match o1 with
  | .inl _ => (obind (spec_IsValidQuery a1) fun v15 => cond v15 (obind (spec_IsValidDatabase a0) fun v18 => spec_IsQueryFor_J2 v18) (spec_IsQueryFor_J2 false))
  | .inr r => some r)
theorem spec_IsQueryFor_s {a0 : List Y119} {a1 : Y54} {r : Bool} (h : spec_IsQueryFor a0 a1 = some r) : SoundAt Tryz.prog 69 [.agg [dL c120_dd a0], .agg (c55_ddd a1)] (.bool r) := by
 unfold spec_IsQueryFor at h
 refine st lit69 rfl (rn 1 rfl (ls_seq_k fun K1 hK1 => rn 1 rfl ?_))
 obtain ⟨o1, hl, hr1⟩ := ob_some h
 have kXB1 : (.inl ()) = o1 -> Jn K1 [(2, .box [dL c120_dd a0]), (3, .box [nI a1.1, dL c148_d a1.2.1, dL ci64 a1.2.2])] := by
  intro h σ' hk
  subst h
  replace h := hr1
  try dsimp only at h
  refine hK1 _ (lh hk rfl (rk fun K13 hK13 => ?_))
  have kJ2 : ∀ {x14 : Bool}, spec_IsQueryFor_J2 x14 = some r -> Jn K13 [(4, .bool x14)] := by
   intro x14 h σ' hk
   unfold spec_IsQueryFor_J2 at h
   exact hK13 _ (lh hk rfl (ls_ret ((by cases h; exact ⟨.inl rfl, rfl⟩))))
  refine sp 1 rfl (?_)
  obtain ⟨v15, g16, h⟩ := ob_some h
  refine qC (qa rfl (erg (erc rfl (erc (erD ec148_d _) (erc (erD eci64 _) rfl)))) eran) (spec_IsValidQuery_s g16) (sp 1 rfl (?_))
  rcases cond_some h with ⟨g17, h⟩ | ⟨g17, h⟩
  ·refine qg 42 g17 rfl (sp 1 rfl (?_))
   obtain ⟨v18, g19, h⟩ := ob_some h
   exact oGR rfl rfl (qC (qa rfl (erg (erc (erD ec120_dd _) rfl)) eran) (spec_IsValidDatabase_s g19) (sp 2 rfl (evn (kJ2 h _ (okr rfl)))))
  ·exact qg 42 g17 rfl (sp 4 rfl (evn (kJ2 h _ (okr rfl))))
 refine ls_rec (fun (y1 : Int) => [(2, .box [dL c120_dd a0]), (3, .box [nI a1.1, dL c148_d a1.2.1, dL ci64 a1.2.2]), (5, nI y1)]) _ _ _ _ hl (okr rfl) (fun _ => rfl) ?_
 rintro m y1 N h hN
 unfold spec_IsQueryFor_B1 at h
 refine ls_seq_k fun K2 hK2 => rn 1 rfl ?_
 rcases cond_some h with ⟨g3, h⟩ | ⟨g3, h⟩
 ·refine qT rfl g3 (ls_skip (hK2 _ (ls_seq_k fun K4 hK4 => ls_blk (rd (by kernel_rfl) (sd 4 rfl (?_))))))
  obtain ⟨e5, g6, h⟩ := ob_some h
  refine ed rfl (qI rfl zc148_d g6 (sd 2 rfl (?_)))
  obtain ⟨v7, g8, h⟩ := ob_some h
  refine ed rfl (qC (qa rfl (erg (erc (erD ec120_dd _) rfl)) (qs rfl eran)) (spec_LookupRelation_s g8) (sd 6 rfl (evdn (rd (by kernel_rfl) (sd 3 rfl (?_))))))
  rcases cond_some h with ⟨g9, h⟩ | ⟨g9, h⟩
  ·exact qgd 28 g9 rfl (sd 11 rfl (evdn (qk [2, 3, 5, 39] rfl (qT rfl rfl (rn 1 rfl (ls_ret ((by cases h; cases hr1; exact ⟨.inl rfl, rfl⟩))))))))
  ·refine qgd 28 g9 rfl (sd 5 rfl (?_))
   obtain ⟨e10, g11, h⟩ := ob_some h
   refine ed rfl (oGR rfl rfl (qI rfl zc148_d g11 (sd 5 rfl (evdn ?_))))
   rcases cond_some h with ⟨g12, h⟩ | ⟨g12, h⟩
   ·exact qT rfl g12 (rn 1 rfl (ls_ret ((by cases h; cases hr1; exact ⟨.inl rfl, rfl⟩))))
   ·exact qF rfl g12 (ls_skip (hK4 _ (rg (sp 3 rfl (evn (hN _ _ h (okr rfl)))))))
 ·exact qF rfl g3 (ls_exit (kXB1 (Option.some.inj h) _ (okr rfl)))
def spec_l5Sort_J5 (rec : ((List (List Int)) × (List (List Int)) × (List (List Int))) -> Option ((List (List Int)))) (y3 : List (List Int)) (x18 : List (List Int)) (x19 : List (List Int)) (x20 : List Int) (x22 : Bool) : Option ((List (List Int))) := cond x22 (chk (List.length y3 + List.length [x20] <= lim) (rec (x18, x19, (y3 ++ [x20])))) (rec (x18, x19, y3))
def spec_l5Sort_J4 (rec : ((List (List Int)) × (List (List Int)) × (List (List Int))) -> Option ((List (List Int)))) (y3 : List (List Int)) (x18 : List (List Int)) (x19 : List (List Int)) (x20 : List Int) : Option ((List (List Int))) := cond ((List.length y3 : Int) == 0) (spec_l5Sort_J5 rec y3 x18 x19 x20 true) (obind (geti y3 (IntKind.i64.wrap ((List.length y3 : Int) - 1))) fun e26 => obind (spec_CompareRows e26 x20) fun v28 => spec_l5Sort_J5 rec y3 x18 x19 x20 (v28 != 0))
def spec_l5Sort_J3 (rec : ((List (List Int)) × (List (List Int)) × (List (List Int))) -> Option ((List (List Int)))) (y1 : List (List Int)) (y2 : List (List Int)) (y3 : List (List Int)) (x16 : Int) : Option ((List (List Int))) := cond (decide (0 < x16)) (obind (geti y2 0) fun e31 => chk ((0 : Int) <= 1 ∧ 1 <= (List.length y2 : Int) ∧ (List.length y2 : Int) <= (List.length y2 : Int)) (spec_l5Sort_J4 rec y3 y1 (subl y2 1 (List.length y2 : Int)) e31)) (obind (geti y1 0) fun e34 => chk ((0 : Int) <= 1 ∧ 1 <= (List.length y1 : Int) ∧ (List.length y1 : Int) <= (List.length y1 : Int)) (spec_l5Sort_J4 rec y3 (subl y1 1 (List.length y1 : Int)) y2 e34))
def spec_l5Sort_J2 (rec : ((List (List Int)) × (List (List Int)) × (List (List Int))) -> Option ((List (List Int)))) (y1 : List (List Int)) (y2 : List (List Int)) (y3 : List (List Int)) (x13 : Bool) : Option ((List (List Int))) := cond x13 (cond ((List.length y1 : Int) == 0) (spec_l5Sort_J3 rec y1 y2 y3 1) (cond (decide (0 < (List.length y2 : Int))) (obind (geti y1 0) fun e39 => obind (geti y2 0) fun e41 => obind (spec_CompareRows e39 e41) fun v43 => spec_l5Sort_J3 rec y1 y2 y3 v43) (spec_l5Sort_J3 rec y1 y2 y3 (-1)))) (some y3)
def spec_l5Sort_B1  (rec : ((List (List Int)) × (List (List Int)) × (List (List Int))) -> Option ((List (List Int)))) (s : (List (List Int)) × (List (List Int)) × (List (List Int))) : Option ((List (List Int))) := match s with
  | (y1, y2, y3) => cond (decide (0 < (List.length y1 : Int))) (spec_l5Sort_J2 rec y1 y2 y3 true) (spec_l5Sort_J2 rec y1 y2 y3 (decide (0 < (List.length y2 : Int))))
def spec_l5Sort_R (rec : ((List (List Int))) -> Option ((List (List Int)))) (a0 : (List (List Int))) : Option ((List (List Int))) := cond (decide ((List.length a0 : Int) < 2)) (some a0) (chk ((0 : Int) <= 0 ∧ 0 <= IntKind.i64.wrap (Int.tdiv (List.length a0 : Int) 2) ∧ IntKind.i64.wrap (Int.tdiv (List.length a0 : Int) 2) <= (List.length a0 : Int)) (obind (rec (subl a0 0 (IntKind.i64.wrap (Int.tdiv (List.length a0 : Int) 2)))) fun v4 => chk ((0 : Int) <= IntKind.i64.wrap (Int.tdiv (List.length a0 : Int) 2) ∧ IntKind.i64.wrap (Int.tdiv (List.length a0 : Int) 2) <= (List.length a0 : Int) ∧ (List.length a0 : Int) <= (List.length a0 : Int)) (obind (rec (subl a0 (IntKind.i64.wrap (Int.tdiv (List.length a0 : Int) 2)) (List.length a0 : Int))) fun v7 => obind (loopF spec_l5Sort_B1 fz (v4, v7, ([] : List (List Int)))) fun z10 => some z10)))
def spec_l5Sort (a0 : List (List Int)) : Option ((List (List Int))) := loopF spec_l5Sort_R fz a0
theorem spec_l5Sort_s {a0 : List (List Int)} {r : (List (List Int))} (h : spec_l5Sort a0 = some r) : SoundAt Tryz.prog 173 [dL c53_d a0] (dL c53_d r) := by
 suffices key : ∀ mF (a0 : List (List Int)) (r : (List (List Int))), loopF spec_l5Sort_R mF a0 = some r -> SoundAt Tryz.prog 173 [dL c53_d a0] (dL c53_d r) from key fz a0 r h
 intro mF
 induction mF with
 | zero => intro a0 r h; cases h
 | succ mF ih0 =>
  intro a0 r h
  have ih : ∀ {a0 : List (List Int)} {r : (List (List Int))}, loopF spec_l5Sort_R mF a0 = some r -> SoundAt Tryz.prog 173 [dL c53_d a0] (dL c53_d r) := fun h => ih0 _ _ h
  change spec_l5Sort_R (loopF spec_l5Sort_R mF) a0 = some r at h
  unfold spec_l5Sort_R at h
  try dsimp only at h
  refine st lit173 rfl (rn 1 rfl (ls_seq_k fun K1 hK1 => rn 1 rfl ?_))
  rcases cond_some h with ⟨g2, h⟩ | ⟨g2, h⟩
  ·exact qT rfl g2 (rn 1 rfl (ls_ret ((by cases h; exact ⟨.inl rfl, rfl⟩))))
  ·refine qF rfl g2 (ls_skip (hK1 _ (rn 1 rfl (rs (sp 2 rfl (?_))))))
   obtain ⟨g3, h⟩ := chk_some h
   refine qSl rfl zc53_d g3 (?_)
   obtain ⟨v4, g5, h⟩ := ob_some h
   refine qC (qa rfl (erD ec53_d _) eran) (ih g5) (sp 1 rfl (evn (rs (sp 2 rfl (?_)))))
   obtain ⟨g6, h⟩ := chk_some h
   refine qSl rfl zc53_d g6 (?_)
   obtain ⟨v7, g8, h⟩ := ob_some h
   refine qC (qa rfl (erD ec53_d _) eran) (ih g8) (sp 1 rfl (evn (qk [4, 5] rfl (rs (qBs c53_o [] rfl rfl rfl zc53_o (sp 1 rfl (evn (ls_seq_k fun K9 hK9 => ?_))))))))
   obtain ⟨o1, hl, hr1⟩ := ob_some h
   have kXB1 : ∀ {z10 : List (List Int)}, z10 = o1 -> Jn K9 [(6, oL 53 c53_d z10)] := by
    intro z10 h σ' hk
    subst h
    replace h := hr1
    try dsimp only at h
    exact hK9 _ (lh hk rfl (rn 1 rfl (ls_keep [(2, dL c53_d z10)] ⟨(ke rfl (erO ec53_d _)), trivial⟩ rfl (ls_ret ((by cases h; exact ⟨.inl rfl, rfl⟩))))))
   refine ls_rec (fun (s : (List (List Int)) × (List (List Int)) × (List (List Int))) => match s with | (y1, y2, y3) => [(4, dL c53_d y1), (5, dL c53_d y2), (6, oL 53 c53_d y3)]) _ _ _ _ hl (okr rfl) (fun _ => rfl) ?_
   rintro m ⟨y1, y2, y3⟩ N h hN
   unfold spec_l5Sort_B1 at h
   dsimp only at h
   refine ls_seq_k fun K11 hK11 => rk fun K12 hK12 => ?_
   have kJ2 : ∀ {x13 : Bool}, spec_l5Sort_J2 (loopF spec_l5Sort_B1 m) y1 y2 y3 x13 = some o1 -> Jn K12 [(4, dL c53_d y1), (5, dL c53_d y2), (6, oL 53 c53_d y3), (32, .bool x13)] := by
    intro x13 h σ' hk
    unfold spec_l5Sort_J2 at h
    refine hK12 _ (lh hk rfl ?_)
    rcases cond_some h with ⟨g14, h⟩ | ⟨g14, h⟩
    ·refine qT rfl g14 (ls_skip (hK11 _ (ls_blk (rn 1 rfl (ls_seq_k fun K15 hK15 => ls_blk (rn 1 rfl ?_))))))
     have kJ3 : ∀ {x16 : Int}, spec_l5Sort_J3 (loopF spec_l5Sort_B1 m) y1 y2 y3 x16 = some o1 -> Jn K15 [(4, dL c53_d y1), (5, dL c53_d y2), (6, oL 53 c53_d y3), (7, nI x16)] := by
      intro x16 h σ' hk
      unfold spec_l5Sort_J3 at h
      refine hK15 _ (lh hk rfl (rs (qBs ci64 [] rfl rfl rfl zci64 (sp 1 rfl (evn (ls_seq_k fun K17 hK17 => rn 1 rfl ?_))))))
      have kJ4 : ∀ {x18 : List (List Int)} {x19 : List (List Int)} {x20 : List Int}, spec_l5Sort_J4 (loopF spec_l5Sort_B1 m) y3 x18 x19 x20 = some o1 -> Jn K17 [(4, dL c53_d x18), (5, dL c53_d x19), (6, oL 53 c53_d y3), (8, dL ci64 x20)] := by
       intro x18 x19 x20 h σ' hk
       unfold spec_l5Sort_J4 at h
       refine hK17 _ (lh hk rfl (rk fun K21 hK21 => ?_))
       have kJ5 : ∀ {x22 : Bool}, spec_l5Sort_J5 (loopF spec_l5Sort_B1 m) y3 x18 x19 x20 x22 = some o1 -> Jn K21 [(4, dL c53_d x18), (5, dL c53_d x19), (6, oL 53 c53_d y3), (8, dL ci64 x20), (74, .bool x22)] := by
        intro x22 h σ' hk
        unfold spec_l5Sort_J5 at h
        refine hK21 _ (lh hk rfl ?_)
        rcases cond_some h with ⟨g23, h⟩ | ⟨g23, h⟩
        ·refine qT rfl g23 (rg (sp 2 rfl (qBs c53_d [x20] rfl rfl rfl zc53_d (?_))))
         obtain ⟨g24, h⟩ := chk_some h
         exact qA c53_d y3 [x20] rfl rfl (flat_len zc53_d [x20]) rfl g24 (sp 1 rfl (evn (hN _ _ h (okr rfl))))
        ·exact qF rfl g23 (ls_skip (hN _ _ h (okr rfl)))
       refine sp 4 rfl (?_)
       rcases cond_some h with ⟨g25, h⟩ | ⟨g25, h⟩
       ·exact qg 64 g25 rfl (sp 10 rfl (evn (kJ5 h _ (okr rfl))))
       ·refine qg 64 g25 rfl (sp 4 rfl (?_))
        obtain ⟨e26, g27, h⟩ := ob_some h
        refine oGR rfl rfl (qI rfl zc53_d g27 (sp 2 rfl (?_)))
        obtain ⟨v28, g29, h⟩ := ob_some h
        exact oGR rfl rfl (qC (qa rfl (erD eci64 _) (qa rfl (erD eci64 _) eran)) (spec_CompareRows_s g29) (sp 2 rfl (evn (kJ5 h _ (okr rfl)))))
      rcases cond_some h with ⟨g30, h⟩ | ⟨g30, h⟩
      ·refine qT rfl g30 (rs (sp 1 rfl (?_)))
       obtain ⟨e31, g32, h⟩ := ob_some h
       refine qI rfl zc53_d g32 (sp 2 rfl (evn (qk [4, 5, 6, 8] rfl (rg (sp 1 rfl (?_))))))
       obtain ⟨g33, h⟩ := chk_some h
       exact qSl rfl zc53_d g33 (sp 1 rfl (evn (kJ4 h _ (okr rfl))))
      ·refine qF rfl g30 (rs (sp 1 rfl (?_)))
       obtain ⟨e34, g35, h⟩ := ob_some h
       refine qI rfl zc53_d g35 (sp 2 rfl (evn (rg (sp 1 rfl (?_)))))
       obtain ⟨g36, h⟩ := chk_some h
       exact qSl rfl zc53_d g36 (sp 1 rfl (evn (kJ4 h _ (okr rfl))))
     rcases cond_some h with ⟨g37, h⟩ | ⟨g37, h⟩
     ·exact qT rfl g37 (rg (sp 1 rfl (evn (kJ3 h _ (okr rfl)))))
     ·refine qF rfl g37 (rn 1 rfl ?_)
      rcases cond_some h with ⟨g38, h⟩ | ⟨g38, h⟩
      ·refine qT rfl g38 (rgd (by kernel_rfl) (sd 1 rfl (?_)))
       obtain ⟨e39, g40, h⟩ := ob_some h
       refine ed rfl (qI rfl zc53_d g40 (sd 2 rfl (?_)))
       obtain ⟨e41, g42, h⟩ := ob_some h
       refine ed rfl (qI rfl zc53_d g42 (sd 1 rfl (?_)))
       obtain ⟨v43, g44, h⟩ := ob_some h
       exact ed rfl (qC (qa rfl (erD eci64 _) (qa rfl (erD eci64 _) eran)) (spec_CompareRows_s g44) (sd 1 rfl (evdn (kJ3 h _ (okr rfl)))))
      ·exact qF rfl g38 (rg (sp 1 rfl (evn (kJ3 h _ (okr rfl)))))
    ·exact qF rfl g14 (ls_exit (kXB1 (Option.some.inj h) _ (okr rfl)))
   refine sp 4 rfl (?_)
   rcases cond_some h with ⟨g45, h⟩ | ⟨g45, h⟩
   ·exact qg 28 g45 rfl (sp 4 rfl (evn (kJ2 h _ (okr rfl))))
   ·exact qg 28 g45 rfl (sp 4 rfl (evn (kJ2 h _ (okr rfl))))
def spec_NewRelation_B1 (a0 : Int) (a1 : List (List Int)) (rec : Int -> Option (Sum (Unit) (Y42 × Bool))) (y1 : Int) : Option (Sum (Unit) (Y42 × Bool)) := cond (decide (y1 < (List.length a1 : Int))) (obind (geti a1 y1) fun e5 => cond ((List.length e5 : Int) != a0) (some (.inr ((0, []), false))) (obind (geti a1 y1) fun e8 => obind (spec_AreValidValues e8) fun v10 => cond (!v10) (some (.inr ((0, []), false))) (rec (IntKind.i64.wrap (y1 + 1))))) (some (.inl ()))
def spec_NewRelation (a0 : Int) (a1 : List (List Int)) : Option (Y42 × Bool) := obind (loopF (spec_NewRelation_B1 a0 a1) fz 0) fun o1 => (match o1 with
  | .inl _ => (obind (spec_l5Sort a1) fun v13 => obind (spec_l5Copy (a0, v13)) fun v15 => obind (spec_IsValidRelation v15) fun v18 => cond (!v18) (some ((0, []), false)) (some (v15, true)))
  | .inr r => some r)
theorem spec_NewRelation_s {a0 : Int} {a1 : List (List Int)} {r : Y42 × Bool} (h : spec_NewRelation a0 a1 = some r) : SoundAt Tryz.prog 127 [nI a0, dL c53_d a1] (.tup [.agg (c43_oo r.1), .bool r.2]) := by
 unfold spec_NewRelation at h
 refine st lit127 rfl (rn 1 rfl (ls_seq_k fun K1 hK1 => rn 1 rfl ?_))
 obtain ⟨o1, hl, hr1⟩ := ob_some h
 have kXB1 : (.inl ()) = o1 -> Jn K1 [(0, nI a0), (1, dL c53_d a1), (4, .box [nI 0, oL 53 c53_o []])] := by
  intro h σ' hk
  subst h
  replace h := hr1
  try dsimp only at h
  refine hK1 _ (lh hk rfl (rs (sp 2 rfl (?_))))
  obtain ⟨v13, g14, h⟩ := ob_some h
  refine qC (qa rfl (erD ec53_d _) eran) (spec_l5Sort_s g14) (sp 1 rfl (?_))
  obtain ⟨v15, g16, h⟩ := ob_some h
  refine qC (qa rfl (erg (erc rfl (erc (erD ec53_d _) rfl))) eran) (spec_l5Copy_s g16) (sp 2 rfl (evn (ls_seq_k fun K17 hK17 => rs (sp 1 rfl (?_)))))
  obtain ⟨v18, g19, h⟩ := ob_some h
  refine qC (qa rfl (erg (erc rfl (erc (erD ec53_o _) rfl))) eran) (spec_IsValidRelation_s g19) (sp 1 rfl (evn ?_))
  rcases cond_some h with ⟨g20, h⟩ | ⟨g20, h⟩
  ·exact qT rfl g20 (rn 1 rfl (ls_ret ((by cases h; exact ⟨.inl rfl, rfl⟩))))
  ·exact qF rfl g20 (ls_skip (hK17 _ (rn 1 rfl (ls_ret ((by cases h; exact ⟨.inl rfl, rfl⟩))))))
 refine ls_rec (fun (y1 : Int) => [(0, nI a0), (1, dL c53_d a1), (4, .box [nI 0, oL 53 c53_o []]), (6, nI y1)]) _ _ _ _ hl (okr rfl) (fun _ => rfl) ?_
 rintro m y1 N h hN
 unfold spec_NewRelation_B1 at h
 refine ls_seq_k fun K2 hK2 => rn 1 rfl ?_
 rcases cond_some h with ⟨g3, h⟩ | ⟨g3, h⟩
 ·refine qT rfl g3 (ls_skip (hK2 _ (ls_seq_k fun K4 hK4 => ls_blk (rs (sp 2 rfl (?_))))))
  obtain ⟨e5, g6, h⟩ := ob_some h
  refine qI rfl zc53_d g6 (sp 5 rfl (?_))
  rcases cond_some h with ⟨g7, h⟩ | ⟨g7, h⟩
  ·exact qg 21 g7 rfl (sp 7 rfl (evn (qT rfl rfl (rn 1 rfl (ls_ret ((by cases h; cases hr1; exact ⟨.inl rfl, rfl⟩)))))))
  ·refine qg 21 g7 rfl (sp 2 rfl (?_))
   obtain ⟨e8, g9, h⟩ := ob_some h
   refine oGR rfl rfl (qI rfl zc53_d g9 (sp 1 rfl (?_)))
   obtain ⟨v10, g11, h⟩ := ob_some h
   refine oGR rfl rfl (qC (qa rfl (erD eci64 _) eran) (spec_AreValidValues_s g11) (sp 2 rfl (evn (qk [0, 1, 4, 6, 28] rfl ?_))))
   rcases cond_some h with ⟨g12, h⟩ | ⟨g12, h⟩
   ·exact qT rfl g12 (rn 1 rfl (ls_ret ((by cases h; cases hr1; exact ⟨.inl rfl, rfl⟩))))
   ·exact qF rfl g12 (ls_skip (hK4 _ (rg (sp 3 rfl (evn (hN _ _ h (okr rfl)))))))
 ·exact qF rfl g3 (ls_exit (kXB1 (Option.some.inj h) _ (okr rfl)))
def c53_a (x : List Int) : List V := [aL ci64 x]
theorem zc53_a (x : List Int) : (c53_a x).length = 1 := rfl
theorem ec53_a (x : List Int) : erL (c53_a x) = c53_d x := (erc (erG eci64 _) rfl)
def c120_aa (x : Y119) : List V := [.str x.1, nI x.2.1, aL c53_a x.2.2]
theorem zc120_aa (x : Y119) : (c120_aa x).length = 3 := rfl
theorem ec120_aa (x : Y119) : erL (c120_aa x) = c120_dd x := (erc rfl (erc rfl (erc (erG ec53_a _) rfl)))
def c148_a (x : Y147) : List V := [.str x.1, aL ci64 x.2]
theorem zc148_a (x : Y147) : (c148_a x).length = 2 := rfl
theorem ec148_a (x : Y147) : erL (c148_a x) = c148_d x := (erc rfl (erc (erG eci64 _) rfl))
theorem dkc53_o (x : List Int) : deepL (c53_o x) = true := (dcc (dco (fun _ => rfl) 3 _) dcn)
theorem gkc148_a (x : Y147) : argdL (c148_a x) = true := (acc rfl (acc (aca (fun _ => rfl) _) rfl))
theorem gkc53_a (x : List Int) : argdL (c53_a x) = true := (acc (aca (fun _ => rfl) _) rfl)
theorem gkc120_aa (x : Y119) : argdL (c120_aa x) = true := (acc rfl (acc rfl (acc (aca gkc53_a _) rfl)))
theorem bkc148_d (x : Y147) : argAbleL (c148_d x) = true := (bcc rfl (bcc (ableD (fun _ => rfl) _) rfl))
theorem vkc148_d (x : Y147) : argVL (c148_d x) = c148_a x := (vcc rfl (vcc (argD (fun _ => rfl) _) rfl))
theorem bkc53_d (x : List Int) : argAbleL (c53_d x) = true := (bcc (ableD (fun _ => rfl) _) rfl)
theorem bkc120_dd (x : Y119) : argAbleL (c120_dd x) = true := (bcc rfl (bcc rfl (bcc (ableD bkc53_d _) rfl)))
theorem vkc53_d (x : List Int) : argVL (c53_d x) = c53_a x := (vcc (argD (fun _ => rfl) _) rfl)
theorem vkc120_dd (x : Y119) : argVL (c120_dd x) = c120_aa x := (vcc rfl (vcc rfl (vcc (argD vkc53_d _) rfl)))
def spec_l8Walk_J3 (rec : ((List Int) × Bool × Int) -> Option ((List Int) × Bool)) (v6 : Y42 × Bool) (y5 : Int) (y9 : List Int) (y11 : Int) (e23 : Int) (x26 : Bool) : Option ((List Int) × Bool) := chk (0 < List.length y9) (obind (geti v6.1.2 y5) fun e29 => obind (geti e29 y11) fun e31 => obind (geti y9 e23) fun e33 => rec ((seti y9 e23 e31), x26, (IntKind.i64.wrap (y11 + 1))))
def spec_l8Walk_B2 (a1 : Y54) (a2 : Int) (v6 : Y42 × Bool) (y5 : Int) (rec : ((List Int) × Bool × Int) -> Option ((List Int) × Bool)) (s : (List Int) × Bool × Int) : Option ((List Int) × Bool) := match s with
  | (y9, y10, y11) => cond (decide (y11 < v6.1.1)) (cond y10 (obind (geti a1.2.1 a2) fun e21 => obind (geti e21.2 y11) fun e23 => obind (geti y9 e23) fun e35 => cond (e35 == (-1)) (spec_l8Walk_J3 rec v6 y5 y9 y11 e23 true) (obind (geti y9 e23) fun e38 => obind (geti v6.1.2 y5) fun e40 => obind (geti e40 y11) fun e42 => spec_l8Walk_J3 rec v6 y5 y9 y11 e23 (e38 == e42))) (some (y9, y10))) (some (y9, y10))
def spec_l8Walk_J4 (rec : ((List (List Int)) × Int) -> Option ((List (List Int)))) (y5 : Int) (x44 : List (List Int)) : Option ((List (List Int))) := rec (x44, (IntKind.i64.wrap (y5 + 1)))
def spec_l8Walk_B1 (a0 : List Y119) (a1 : Y54) (a2 : Int) (a3 : List Int) (v6 : Y42 × Bool) (frec : ((List Y119) × Y54 × Int × (List Int)) -> Option ((List (List Int)))) (rec : ((List (List Int)) × Int) -> Option ((List (List Int)))) (s : (List (List Int)) × Int) : Option ((List (List Int))) := match s with
  | (y4, y5) => cond (decide (y5 < (List.length v6.1.2 : Int))) (chk (List.length ([] : List Int) + List.length a3 <= lim) (obind (loopF (spec_l8Walk_B2 a1 a2 v6 y5) fz ((([] : List Int) ++ a3), true, 0)) fun o2 => (match o2 with
  | (z15, z16) => (cond z16 (obind (frec (a0, a1, (IntKind.i64.wrap (a2 + 1)), z15)) fun v46 => chk (List.length y4 + List.length v46 <= lim) (spec_l8Walk_J4 rec y5 (y4 ++ v46))) (spec_l8Walk_J4 rec y5 y4))))) (some y4)
def spec_l8Walk_R (rec : ((List Y119) × Y54 × Int × (List Int)) -> Option ((List (List Int)))) (s : (List Y119) × Y54 × Int × (List Int)) : Option ((List (List Int))) := match s with
  | (a0, a1, a2, a3) => cond (a2 == (List.length a1.2.1 : Int)) (chk (List.length ([] : List Int) + List.length a3 <= lim) (some ([([] : List Int) ++ a3]))) (obind (geti a1.2.1 a2) fun e4 => obind (spec_LookupRelation a0 e4.1) fun v6 => obind (loopF (spec_l8Walk_B1 a0 a1 a2 a3 v6 rec) fz (([] : List (List Int)), 0)) fun z9 => some z9)
def spec_l8Walk (a0 : List Y119) (a1 : Y54) (a2 : Int) (a3 : List Int) : Option ((List (List Int))) := loopF spec_l8Walk_R fz (a0, a1, a2, a3)
theorem spec_l8Walk_s {a0 : List Y119} {a1 : Y54} {a2 : Int} {a3 : List Int} {r : (List (List Int))} (h : spec_l8Walk a0 a1 a2 a3 = some r) : SoundAt Tryz.prog 128 [.agg [dL c120_dd a0], .agg (c55_ddd a1), nI a2, dL ci64 a3] (oL 53 c53_o r) := by
 suffices key : ∀ mF (a0 : List Y119) (a1 : Y54) (a2 : Int) (a3 : List Int) (r : (List (List Int))), loopF spec_l8Walk_R mF (a0, a1, a2, a3) = some r -> SoundAt Tryz.prog 128 [.agg [dL c120_dd a0], .agg (c55_ddd a1), nI a2, dL ci64 a3] (oL 53 c53_o r) from key fz a0 a1 a2 a3 r h
 intro mF
 induction mF with
 | zero => intro a0 a1 a2 a3 r h; cases h
 | succ mF ih0 =>
  intro a0 a1 a2 a3 r h
  have ih : ∀ {a0 : List Y119} {a1 : Y54} {a2 : Int} {a3 : List Int} {r : (List (List Int))}, loopF spec_l8Walk_R mF (a0, a1, a2, a3) = some r -> SoundAt Tryz.prog 128 [.agg [dL c120_dd a0], .agg (c55_ddd a1), nI a2, dL ci64 a3] (oL 53 c53_o r) := fun h => ih0 _ _ _ _ _ h
  change spec_l8Walk_R (loopF spec_l8Walk_R mF) (a0, a1, a2, a3) = some r at h
  unfold spec_l8Walk_R at h
  try dsimp only at h
  refine sta lit128 rfl (aall (bcc (ableD bkc120_dd _) rfl) (aall (bcc rfl (bcc (ableD bkc148_d _) (bcc (ableD (fun _ => rfl) _) rfl))) (aall rfl (aall (ableD (fun _ => rfl) _) rfl)))) (mvv (vag (vcc (argD vkc120_dd _) rfl)) (mvv (vag (vcc rfl (vcc (argD vkc148_d _) (vcc (argD (fun _ => rfl) _) rfl)))) (mvv rfl (mvv (argD (fun _ => rfl) _) rfl)))) (dco dkc53_o 53 _) (rn 1 rfl (ls_seq_k fun K1 hK1 => rn 1 rfl ?_))
  rcases cond_some h with ⟨g2, h⟩ | ⟨g2, h⟩
  ·refine qT rfl g2 (rs (qBs ci64 [] rfl rfl rfl zci64 (sp 1 rfl (?_))))
   obtain ⟨g3, h⟩ := chk_some h
   exact qA ci64 ([] : List Int) a3 rfl rfl (flat_len zci64 a3) (map_dg (fun _ => rfl) _) g3 (qBs c53_o [([] : List Int) ++ a3] rfl rfl rfl zc53_o (sp 1 rfl (evn (ls_ret ((by cases h; exact ⟨.inl rfl, rfl⟩))))))
  ·refine qF rfl g2 (ls_skip (hK1 _ (rs (qBs c53_o [] rfl rfl rfl zc53_o (sp 1 rfl (evn (rd (by kernel_rfl) (sd 4 rfl (?_)))))))))
   obtain ⟨e4, g5, h⟩ := ob_some h
   refine ed rfl (qI rfl zc148_a g5 (sd 2 rfl (?_)))
   obtain ⟨v6, g7, h⟩ := ob_some h
   refine ed rfl (qC (qa rfl (erg (erc (erG ec120_aa _) rfl)) (qs rfl eran)) (spec_LookupRelation_s g7) (sd 6 rfl (evdn (ls_seq_k fun K8 hK8 => rn 1 rfl (qk [2, 3, 4, 5, 9, 10, 12] rfl ?_)))))
   obtain ⟨o1, hl, hr1⟩ := ob_some h
   have kXB1 : ∀ {z9 : List (List Int)}, z9 = o1 -> Jn K8 [(9, oL 53 c53_o z9)] := by
    intro z9 h σ' hk
    subst h
    replace h := hr1
    try dsimp only at h
    exact hK8 _ (lh hk rfl (rn 1 rfl (ls_ret ((by cases h; exact ⟨.inl rfl, rfl⟩)))))
   refine ls_rec (fun (s : (List (List Int)) × Int) => match s with | (y4, y5) => [(2, nI a2), (3, aL ci64 a3), (4, .box [aL c120_aa a0]), (5, .box [nI a1.1, aL c148_a a1.2.1, aL ci64 a1.2.2]), (9, oL 53 c53_o y4), (10, .box [nI v6.1.1, oL 53 c53_o v6.1.2]), (12, nI y5)]) _ _ _ _ hl (okr rfl) (fun _ => rfl) ?_
   rintro m ⟨y4, y5⟩ N h hN
   unfold spec_l8Walk_B1 at h
   dsimp only at h
   refine ls_seq_k fun K10 hK10 => rn 1 rfl ?_
   rcases cond_some h with ⟨g11, h⟩ | ⟨g11, h⟩
   ·refine qT rfl g11 (ls_skip (hK10 _ (ls_seq_k fun K12 hK12 => ls_blk (rs (qBs ci64 [] rfl rfl rfl zci64 (sp 1 rfl (?_)))))))
    obtain ⟨g13, h⟩ := chk_some h
    refine qA ci64 ([] : List Int) a3 rfl rfl (flat_len zci64 a3) (map_dg (fun _ => rfl) _) g13 (sp 1 rfl (evn (rn 1 rfl (ls_seq_k fun K14 hK14 => rn 1 rfl ?_))))
    obtain ⟨o2, hl, hr2⟩ := ob_some h
    have kXB2 : ∀ {z15 : List Int} {z16 : Bool}, (z15, z16) = o2 -> Jn K14 [(2, nI a2), (3, aL ci64 a3), (4, .box [aL c120_aa a0]), (5, .box [nI a1.1, aL c148_a a1.2.1, aL ci64 a1.2.2]), (9, oL 53 c53_o y4), (10, .box [nI v6.1.1, oL 53 c53_o v6.1.2]), (12, nI y5), (13, oL 3 ci64 z15), (14, .bool z16)] := by
     intro z15 z16 h σ' hk
     subst h
     replace h := hr2
     try dsimp only at h
     refine hK14 _ (lh hk rfl (rn 1 rfl ?_))
     have kJ4 : ∀ {x44 : List (List Int)}, spec_l8Walk_J4 (loopF (spec_l8Walk_B1 a0 a1 a2 a3 v6 (loopF spec_l8Walk_R mF)) m) y5 x44 = some o1 -> Jn K12 [(2, nI a2), (3, aL ci64 a3), (4, .box [aL c120_aa a0]), (5, .box [nI a1.1, aL c148_a a1.2.1, aL ci64 a1.2.2]), (9, oL 53 c53_o x44), (10, .box [nI v6.1.1, oL 53 c53_o v6.1.2]), (12, nI y5)] := by
      intro x44 h σ' hk
      unfold spec_l8Walk_J4 at h
      exact hK12 _ (lh hk rfl (rg (sp 3 rfl (evn (hN _ _ h (okr rfl))))))
     rcases cond_some h with ⟨g45, h⟩ | ⟨g45, h⟩
     ·refine qT rfl g45 (rg (sp 6 rfl (?_)))
      obtain ⟨v46, g47, h⟩ := ob_some h
      refine qC (qa rfl (erg (erc (erG ec120_aa _) rfl)) (qa rfl (erg (erc rfl (erc (erG ec148_a _) (erc (erG eci64 _) rfl)))) (qs rfl (qa rfl (erD eci64 _) eran)))) (ih g47) (?_)
      obtain ⟨g48, h⟩ := chk_some h
      exact qA c53_o y4 v46 rfl rfl (flat_len zc53_o v46) rfl g48 (sp 1 rfl (evn (kJ4 h _ (okr rfl))))
     ·exact qF rfl g45 (ls_skip (kJ4 h _ (okr rfl)))
    refine ls_rec (fun (s : (List Int) × Bool × Int) => match s with | (y9, y10, y11) => [(2, nI a2), (3, aL ci64 a3), (4, .box [aL c120_aa a0]), (5, .box [nI a1.1, aL c148_a a1.2.1, aL ci64 a1.2.2]), (9, oL 53 c53_o y4), (10, .box [nI v6.1.1, oL 53 c53_o v6.1.2]), (12, nI y5), (13, oL 3 ci64 y9), (14, .bool y10), (15, nI y11)]) _ _ _ _ hl (okr rfl) (fun _ => rfl) ?_
    rintro m ⟨y9, y10, y11⟩ N h hN
    unfold spec_l8Walk_B2 at h
    dsimp only at h
    refine ls_seq_k fun K17 hK17 => rs (sp 5 rfl (?_))
    rcases cond_some h with ⟨g18, h⟩ | ⟨g18, h⟩
    ·refine qg 52 g18 rfl (sp 2 rfl (evn ?_))
     rcases cond_some h with ⟨g19, h⟩ | ⟨g19, h⟩
     ·refine qT rfl g19 (ls_skip (hK17 _ (ls_seq_k fun K20 hK20 => ls_blk (rs (sp 3 rfl (?_))))))
      obtain ⟨e21, g22, h⟩ := ob_some h
      refine qI rfl zc148_a g22 (sp 3 rfl (?_))
      obtain ⟨e23, g24, h⟩ := ob_some h
      refine qI rfl zci64 g24 (sp 2 rfl (evn (rdk (by kernel_rfl) fun K25 hK25 => ?_)))
      have kJ3 : ∀ {x26 : Bool}, spec_l8Walk_J3 (loopF (spec_l8Walk_B2 a1 a2 v6 y5) m) v6 y5 y9 y11 e23 x26 = some o2 -> Jn K25 [(2, nI a2), (3, aL ci64 a3), (4, .box [aL c120_aa a0]), (5, .box [nI a1.1, aL c148_a a1.2.1, aL ci64 a1.2.2]), (9, oL 53 c53_o y4), (10, .box [nI v6.1.1, oL 53 c53_o v6.1.2]), (12, nI y5), (13, oL 3 ci64 y9), (14, .bool x26), (15, nI y11), (16, nI e23)] := by
       intro x26 h σ' hk
       unfold spec_l8Walk_J3 at h
       refine hK25 _ (lh hk rfl (qk [2, 3, 4, 5, 9, 10, 12, 13, 14, 15, 16] rfl ?_))
       obtain ⟨g27, h⟩ := chk_some h
       refine ls_hg (gLs (q := 900003) (b := 13) rfl rfl rfl g27 ?_)
       intro gg28 mm28
       refine qk [2, 3, 4, 5, 9, 10, 12, 13, 14, 15, 16, 900003] rfl (ls_gh (rg (sp 5 rfl (?_))))
       obtain ⟨e29, g30, h⟩ := ob_some h
       refine qI rfl zc53_o g30 (sp 2 rfl (?_))
       obtain ⟨e31, g32, h⟩ := ob_some h
       refine qI rfl zci64 g32 (sp 1 rfl (?_))
       obtain ⟨e33, g34, h⟩ := ob_some h
       refine qIt rfl rfl rfl rfl g34 (?_)
       refine qSt (y0 := e33) (i := e23) (es := 1) 0 e31 [2, 3, 4, 5, 9, 10, 12, 13, 14, 15] rfl rfl rfl rfl rfl rfl rfl rfl rfl rfl zci64 g34 (fun _ => rfl) (sdL (dcc rfl dcn)) (yc rfl (yc (acf (fun _ => rfl) _) (yc (snc (sA (aca gkc120_aa _)) rfl) (yc (snc rfl (snc (sA (aca gkc148_a _)) (snc (sA (aca (fun _ => rfl) _)) rfl))) (yc (sdL (dcf dkc53_o _)) (yc (snc rfl (snc (sO (dco dkc53_o 53 _)) rfl)) (yc rfl (yc rfl (yc rfl (yc rfl yn)))))))))) (?_)
       exact evn (gDs (q := 900003) (b := 13) rfl rfl rfl (sl rfl) (hK20 _ (rg (sp 3 rfl (evn (hN _ _ h (okr rfl)))))))
      refine sd 2 rfl (?_)
      obtain ⟨e35, g36, h⟩ := ob_some h
      refine ed rfl (qI rfl zci64 g36 (sd 3 rfl (?_)))
      rcases cond_some h with ⟨g37, h⟩ | ⟨g37, h⟩
      ·exact qgd 71 g37 rfl (sd 15 rfl (evdn (kJ3 h _ (okr rfl))))
      ·refine qgd 71 g37 rfl (sd 2 rfl (?_))
       obtain ⟨e38, g39, h⟩ := ob_some h
       refine ed rfl (oGR rfl rfl (qI rfl zci64 g39 (sd 4 rfl (?_))))
       obtain ⟨e40, g41, h⟩ := ob_some h
       refine ed rfl (oGR rfl rfl (qI rfl zc53_o g41 (sd 2 rfl (?_))))
       obtain ⟨e42, g43, h⟩ := ob_some h
       exact ed rfl (oGR rfl rfl (qI rfl zci64 g43 (sd 4 rfl (evdn (kJ3 h _ (okr rfl))))))
     ·exact qF rfl g19 (ls_exit (kXB2 (Option.some.inj h) _ (okr rfl)))
    ·exact qg 52 g18 rfl (sp 2 rfl (evn (qk [2, 3, 4, 5, 9, 10, 12, 13, 14, 15, 54] rfl (qF rfl rfl (ls_exit (kXB2 (Option.some.inj h) _ (okr rfl)))))))
   ·exact qF rfl g11 (ls_exit (kXB1 (Option.some.inj h) _ (okr rfl)))
def spec_AllBindings_B1 (a1 : Y54) (rec : ((List Int)) -> Option ((List Int))) (y1 : (List Int)) : Option ((List Int)) := cond (decide ((List.length y1 : Int) < a1.1)) (chk (List.length y1 + List.length [-1] <= lim) (rec (y1 ++ [-1]))) (some y1)
def spec_AllBindings (a0 : List Y119) (a1 : Y54) : Option (Y42) := obind (spec_IsQueryFor a0 a1) fun v2 => cond (!v2) (some (0, [])) (obind (loopF (spec_AllBindings_B1 a1) fz ([] : List Int)) fun z6 => obind (spec_l8Walk a0 a1 0 z6) fun v10 => obind (spec_NewRelation a1.1 v10) fun v12 => cond (!v12.2) (some (0, [])) (some v12.1))
theorem spec_AllBindings_s {a0 : List Y119} {a1 : Y54} {r : Y42} (h : spec_AllBindings a0 a1 = some r) : SoundAt Tryz.prog 68 [.agg [dL c120_dd a0], .agg (c55_ddd a1)] (.agg (c43_oo r)) := by
 unfold spec_AllBindings at h
 refine st lit68 rfl (rn 1 rfl (ls_seq_k fun K1 hK1 => rs (sp 2 rfl (?_))))
 obtain ⟨v2, g3, h⟩ := ob_some h
 refine qC (qa rfl (erg (erc (erD ec120_dd _) rfl)) (qa rfl (erg (erc rfl (erc (erD ec148_d _) (erc (erD eci64 _) rfl)))) eran)) (spec_IsQueryFor_s g3) (sp 1 rfl (evn ?_))
 rcases cond_some h with ⟨g4, h⟩ | ⟨g4, h⟩
 ·exact qT rfl g4 (rn 1 rfl (ls_ret ((by cases h; exact ⟨.inl rfl, rfl⟩))))
 ·refine qF rfl g4 (ls_skip (hK1 _ (rs (qBs ci64 [] rfl rfl rfl zci64 (sp 1 rfl (evn (ls_seq_k fun K5 hK5 => ?_)))))))
  obtain ⟨o1, hl, hr1⟩ := ob_some h
  have kXB1 : ∀ {z6 : List Int}, z6 = o1 -> Jn K5 [(2, .box [dL c120_dd a0]), (3, .box [nI a1.1, dL c148_d a1.2.1, dL ci64 a1.2.2]), (4, .box [nI 0, oL 53 c53_o []]), (5, oL 3 ci64 z6)] := by
   intro z6 h σ' hk
   subst h
   replace h := hr1
   try dsimp only at h
   refine hK5 _ (lh hk rfl (rd (by kernel_rfl) (sd 5 rfl (?_))))
   obtain ⟨v10, g11, h⟩ := ob_some h
   refine ed rfl (qC (qa rfl (erg (erc (erD ec120_dd _) rfl)) (qa rfl (erg (erc rfl (erc (erD ec148_d _) (erc (erD eci64 _) rfl)))) (qs rfl (qa rfl (erD eci64 _) eran)))) (spec_l8Walk_s g11) (?_))
   obtain ⟨v12, g13, h⟩ := ob_some h
   refine ed rfl (qC (qs rfl (qa rfl (erO ec53_o _) eran)) (spec_NewRelation_s g13) (sd 6 rfl (evdn (ls_seq_k fun K14 hK14 => rn 1 rfl ?_))))
   rcases cond_some h with ⟨g15, h⟩ | ⟨g15, h⟩
   ·exact qT rfl g15 (rn 1 rfl (ls_ret ((by cases h; exact ⟨.inl rfl, rfl⟩))))
   ·exact qF rfl g15 (ls_skip (hK14 _ (rn 1 rfl (ls_ret ((by cases h; exact ⟨.inl rfl, rfl⟩))))))
  refine ls_rec (fun (y1 : List Int) => [(2, .box [dL c120_dd a0]), (3, .box [nI a1.1, dL c148_d a1.2.1, dL ci64 a1.2.2]), (4, .box [nI 0, oL 53 c53_o []]), (5, oL 3 ci64 y1)]) _ _ _ _ hl (okr rfl) (fun _ => rfl) ?_
  rintro m y1 N h hN
  unfold spec_AllBindings_B1 at h
  refine ls_seq_k fun K7 hK7 => rn 1 rfl ?_
  rcases cond_some h with ⟨g8, h⟩ | ⟨g8, h⟩
  ·refine qT rfl g8 (ls_skip (hK7 _ (ls_blk (rg (sp 1 rfl (qBs ci64 [-1] rfl rfl rfl zci64 (?_)))))))
   obtain ⟨g9, h⟩ := chk_some h
   exact qA ci64 y1 [-1] rfl rfl (flat_len zci64 [-1]) rfl g9 (sp 1 rfl (evn (hN _ _ h (okr rfl))))
  ·exact qF rfl g8 (ls_exit (kXB1 (Option.some.inj h) _ (okr rfl)))
def c76_ooo (x : Y75) : List V := [nI x.1, oL 53 c53_o x.2.1, oL 3 ci64 x.2.2]
theorem zc76_ooo (x : Y75) : (c76_ooo x).length = 3 := rfl
theorem ec76_ooo (x : Y75) : erL (c76_ooo x) = c76_ddd x := (erc rfl (erc (erO ec53_o _) (erc (erO eci64 _) rfl)))
def spec_CountedFromRelation_B1 (a0 : Y42) (rec : ((List Int) × Int) -> Option ((List Int))) (s : (List Int) × Int) : Option ((List Int)) := match s with
  | (y1, y2) => cond (decide (y2 < (List.length a0.2 : Int))) (chk (List.length y1 + List.length [1] <= lim) (rec ((y1 ++ [1]), (IntKind.i64.wrap (y2 + 1))))) (some y1)
def spec_CountedFromRelation (a0 : Y42) : Option (Y75 × Bool) := obind (spec_IsValidRelation a0) fun v2 => cond (!v2) (some ((0, [], []), false)) (obind (spec_l5Copy a0) fun v5 => obind (loopF (spec_CountedFromRelation_B1 a0) fz (([] : List Int), 0)) fun z8 => some ((a0.1, v5.2, z8), true))
theorem spec_CountedFromRelation_s {a0 : Y42} {r : Y75 × Bool} (h : spec_CountedFromRelation a0 = some r) : SoundAt Tryz.prog 143 [.agg (c43_dd a0)] (.tup [.agg (c76_ooo r.1), .bool r.2]) := by
 unfold spec_CountedFromRelation at h
 refine st lit143 rfl (rn 1 rfl (ls_seq_k fun K1 hK1 => rs (sp 1 rfl (?_))))
 obtain ⟨v2, g3, h⟩ := ob_some h
 refine qC (qa rfl (erg (erc rfl (erc (erD ec53_d _) rfl))) eran) (spec_IsValidRelation_s g3) (sp 1 rfl (evn ?_))
 rcases cond_some h with ⟨g4, h⟩ | ⟨g4, h⟩
 ·exact qT rfl g4 (rn 1 rfl (ls_ret ((by cases h; exact ⟨.inl rfl, rfl⟩))))
 ·refine qF rfl g4 (ls_skip (hK1 _ (rs (sp 1 rfl (?_)))))
  obtain ⟨v5, g6, h⟩ := ob_some h
  refine qC (qa rfl (erg (erc rfl (erc (erD ec53_d _) rfl))) eran) (spec_l5Copy_s g6) (sp 2 rfl (evn (rn 1 rfl (ls_seq_k fun K7 hK7 => rn 1 rfl ?_))))
  obtain ⟨o1, hl, hr1⟩ := ob_some h
  have kXB1 : ∀ {z8 : List Int}, z8 = o1 -> Jn K7 [(2, .box [nI 0, oL 53 c53_o [], oL 3 ci64 []]), (5, .box [nI a0.1, oL 53 c53_o v5.2, oL 3 ci64 z8])] := by
   intro z8 h σ' hk
   subst h
   replace h := hr1
   try dsimp only at h
   exact hK7 _ (lh hk rfl (rn 1 rfl (ls_ret ((by cases h; exact ⟨.inl rfl, rfl⟩)))))
  refine ls_rec (fun (s : (List Int) × Int) => match s with | (y1, y2) => [(1, .box [nI a0.1, dL c53_d a0.2]), (2, .box [nI 0, oL 53 c53_o [], oL 3 ci64 []]), (5, .box [nI a0.1, oL 53 c53_o v5.2, oL 3 ci64 y1]), (6, nI y2)]) _ _ _ _ hl (okr rfl) (fun _ => rfl) ?_
  rintro m ⟨y1, y2⟩ N h hN
  unfold spec_CountedFromRelation_B1 at h
  dsimp only at h
  refine ls_seq_k fun K9 hK9 => rn 1 rfl ?_
  rcases cond_some h with ⟨g10, h⟩ | ⟨g10, h⟩
  ·refine qT rfl g10 (ls_skip (hK9 _ (ls_seq_k fun K11 hK11 => ls_blk (rg (sp 2 rfl (qBs ci64 [1] rfl rfl rfl zci64 (?_)))))))
   obtain ⟨g12, h⟩ := chk_some h
   exact qA ci64 y1 [1] rfl rfl (flat_len zci64 [1]) rfl g12 (sp 2 rfl (evn (hK11 _ (rg (sp 3 rfl (evn (hN _ _ h (okr rfl))))))))
  ·exact qF rfl g10 (ls_exit (kXB1 (Option.some.inj h) _ (okr rfl)))
def spec_l5Cols_B1 (a0 : List Int) (a1 : List Int) (rec : ((List Int) × Int) -> Option ((List Int))) (s : (List Int) × Int) : Option ((List Int)) := match s with
  | (y1, y2) => cond (decide (y2 < (List.length a1 : Int))) (obind (geti a1 y2) fun e6 => obind (geti a0 e6) fun e8 => chk (List.length y1 + List.length [e8] <= lim) (rec ((y1 ++ [e8]), (IntKind.i64.wrap (y2 + 1))))) (some y1)
def spec_l5Cols (a0 : List Int) (a1 : List Int) : Option ((List Int)) := obind (loopF (spec_l5Cols_B1 a0 a1) fz (([] : List Int), 0)) fun z2 => some z2
theorem spec_l5Cols_s {a0 : List Int} {a1 : List Int} {r : (List Int)} (h : spec_l5Cols a0 a1 = some r) : SoundAt Tryz.prog 131 [dL ci64 a0, dL ci64 a1] (oL 3 ci64 r) := by
 unfold spec_l5Cols at h
 refine st lit131 rfl (rn 1 rfl (rs (qBs ci64 [] rfl rfl rfl zci64 (sp 1 rfl (evn (ls_seq_k fun K1 hK1 => rn 1 rfl ?_))))))
 obtain ⟨o1, hl, hr1⟩ := ob_some h
 have kXB1 : ∀ {z2 : List Int}, z2 = o1 -> Jn K1 [(5, oL 3 ci64 z2)] := by
  intro z2 h σ' hk
  subst h
  replace h := hr1
  try dsimp only at h
  exact hK1 _ (lh hk rfl (rn 1 rfl (ls_ret ((by cases h; exact ⟨.inl rfl, rfl⟩)))))
 refine ls_rec (fun (s : (List Int) × Int) => match s with | (y1, y2) => [(0, dL ci64 a0), (1, dL ci64 a1), (5, oL 3 ci64 y1), (6, nI y2)]) _ _ _ _ hl (okr rfl) (fun _ => rfl) ?_
 rintro m ⟨y1, y2⟩ N h hN
 unfold spec_l5Cols_B1 at h
 dsimp only at h
 refine ls_seq_k fun K3 hK3 => rn 1 rfl ?_
 rcases cond_some h with ⟨g4, h⟩ | ⟨g4, h⟩
 ·refine qT rfl g4 (ls_skip (hK3 _ (ls_seq_k fun K5 hK5 => ls_blk (rg (sp 4 rfl (?_))))))
  obtain ⟨e6, g7, h⟩ := ob_some h
  refine qI rfl zci64 g7 (sp 1 rfl (?_))
  obtain ⟨e8, g9, h⟩ := ob_some h
  refine qI rfl zci64 g9 (sp 1 rfl (qBs ci64 [e8] rfl rfl rfl zci64 (?_)))
  obtain ⟨g10, h⟩ := chk_some h
  exact qA ci64 y1 [e8] rfl rfl (flat_len zci64 [e8]) rfl g10 (sp 1 rfl (evn (hK5 _ (rg (sp 3 rfl (evn (hN _ _ h (okr rfl))))))))
 ·exact qF rfl g4 (ls_exit (kXB1 (Option.some.inj h) _ (okr rfl)))
def spec_IsValidCounted_B1 (a0 : Y75) (rec : Int -> Option (Sum (Unit) (Bool))) (y1 : Int) : Option (Sum (Unit) (Bool)) := cond (decide (y1 < (List.length a0.2.2 : Int))) (obind (geti a0.2.2 y1) fun e10 => cond (e10 == 0) (some (.inr false)) (obind (geti a0.2.2 y1) fun e13 => obind (spec_l1In e13 (-1000000) 1000000) fun v15 => cond (!v15) (some (.inr false)) (rec (IntKind.i64.wrap (y1 + 1))))) (some (.inl ()))
def spec_IsValidCounted (a0 : Y75) : Option (Bool) := cond ((List.length a0.2.1 : Int) != (List.length a0.2.2 : Int)) (some false) (obind (spec_IsValidRelation (a0.1, a0.2.1)) fun v3 => cond (!v3) (some false) (obind (loopF (spec_IsValidCounted_B1 a0) fz 0) fun o1 => (match o1 with
  | .inl _ => (some true)
  | .inr r => some r)))
theorem spec_IsValidCounted_s {a0 : Y75} {r : Bool} (h : spec_IsValidCounted a0 = some r) : SoundAt Tryz.prog 150 [.agg (c76_ddd a0)] (.bool r) := by
 unfold spec_IsValidCounted at h
 refine st lit150 rfl (rn 1 rfl (ls_seq_k fun K1 hK1 => rs (sp 8 rfl (?_))))
 rcases cond_some h with ⟨g2, h⟩ | ⟨g2, h⟩
 ·exact qg 11 g2 rfl (sp 8 rfl (evn (qT rfl rfl (rn 1 rfl (ls_ret ((by cases h; exact ⟨.inl rfl, rfl⟩)))))))
 ·refine qg 11 g2 rfl (sp 5 rfl (?_))
  obtain ⟨v3, g4, h⟩ := ob_some h
  refine oGR rfl rfl (qC (qa rfl (erg (erc rfl (erc (erD ec53_d _) rfl))) eran) (spec_IsValidRelation_s g4) (sp 2 rfl (evn ?_)))
  rcases cond_some h with ⟨g5, h⟩ | ⟨g5, h⟩
  ·exact qT rfl g5 (rn 1 rfl (qk [2] rfl (ls_ret ((by cases h; exact ⟨.inl rfl, rfl⟩)))))
  ·refine qF rfl g5 (ls_skip (hK1 _ (ls_seq_k fun K6 hK6 => rn 1 rfl ?_)))
   obtain ⟨o1, hl, hr1⟩ := ob_some h
   have kXB1 : (.inl ()) = o1 -> Jn K6 [] := by
    intro h σ' hk
    subst h
    replace h := hr1
    try dsimp only at h
    exact hK6 _ (lh hk rfl (rn 1 rfl (ls_ret ((by cases h; exact ⟨.inl rfl, rfl⟩)))))
   refine ls_rec (fun (y1 : Int) => [(1, .box [nI a0.1, dL c53_d a0.2.1, dL ci64 a0.2.2]), (3, nI y1)]) _ _ _ _ hl (okr rfl) (fun _ => rfl) ?_
   rintro m y1 N h hN
   unfold spec_IsValidCounted_B1 at h
   refine ls_seq_k fun K7 hK7 => rn 1 rfl ?_
   rcases cond_some h with ⟨g8, h⟩ | ⟨g8, h⟩
   ·refine qT rfl g8 (ls_skip (hK7 _ (ls_seq_k fun K9 hK9 => ls_blk (rs (sp 3 rfl (?_))))))
    obtain ⟨e10, g11, h⟩ := ob_some h
    refine qI rfl zci64 g11 (sp 3 rfl (?_))
    rcases cond_some h with ⟨g12, h⟩ | ⟨g12, h⟩
    ·exact qg 33 g12 rfl (sp 8 rfl (evn (qT rfl rfl (rn 1 rfl (ls_ret ((by cases h; cases hr1; exact ⟨.inl rfl, rfl⟩)))))))
    ·refine qg 33 g12 rfl (sp 3 rfl (?_))
     obtain ⟨e13, g14, h⟩ := ob_some h
     refine oGR rfl rfl (qI rfl zci64 g14 (sp 1 rfl (?_)))
     obtain ⟨v15, g16, h⟩ := ob_some h
     refine oGR rfl rfl (qC (qs rfl (qs rfl (qs rfl eran))) (spec_l1In_s g16) (sp 2 rfl (evn (qk [1, 3, 41] rfl ?_))))
     rcases cond_some h with ⟨g17, h⟩ | ⟨g17, h⟩
     ·exact qT rfl g17 (rn 1 rfl (ls_ret ((by cases h; cases hr1; exact ⟨.inl rfl, rfl⟩))))
     ·exact qF rfl g17 (ls_skip (hK9 _ (rg (sp 3 rfl (evn (hN _ _ h (okr rfl)))))))
   ·exact qF rfl g8 (ls_exit (kXB1 (Option.some.inj h) _ trivial))
def spec_l5Place_B1 (a0 : Y42) (a1 : List Int) (rec : (Int × Int) -> Option (Int)) (s : Int × Int) : Option (Int) := match s with
  | (y1, y2) => cond (decide (y1 < y2)) (obind (geti a0.2 (IntKind.i64.wrap (Int.tdiv (IntKind.i64.wrap (y1 + y2)) 2))) fun e5 => obind (spec_CompareRows e5 a1) fun v7 => cond (decide (v7 < 0)) (rec ((IntKind.i64.wrap ((IntKind.i64.wrap (Int.tdiv (IntKind.i64.wrap (y1 + y2)) 2)) + 1)), y2)) (rec (y1, (IntKind.i64.wrap (Int.tdiv (IntKind.i64.wrap (y1 + y2)) 2))))) (some y1)
def spec_l5Place_J2 (z2 : Int) (x11 : Bool) : Option (Int × Bool) := some (z2, x11)
def spec_l5Place (a0 : Y42) (a1 : List Int) : Option (Int × Bool) := obind (loopF (spec_l5Place_B1 a0 a1) fz (0, (List.length a0.2 : Int))) fun z2 => cond (decide (z2 < (List.length a0.2 : Int))) (obind (geti a0.2 z2) fun e13 => obind (spec_CompareRows e13 a1) fun v15 => spec_l5Place_J2 z2 (v15 == 0)) (spec_l5Place_J2 z2 false)
theorem spec_l5Place_s {a0 : Y42} {a1 : List Int} {r : Int × Bool} (h : spec_l5Place a0 a1 = some r) : SoundAt Tryz.prog 186 [.agg (c43_dd a0), dL ci64 a1] (.tup [nI r.1, .bool r.2]) := by
 unfold spec_l5Place at h
 refine st lit186 rfl (rn 3 rfl (ls_seq_k fun K1 hK1 => ?_))
 obtain ⟨o1, hl, hr1⟩ := ob_some h
 have kXB1 : ∀ {z2 : Int}, z2 = o1 -> Jn K1 [(1, dL ci64 a1), (2, .box [nI a0.1, dL c53_d a0.2]), (6, nI z2)] := by
  intro z2 h σ' hk
  subst h
  replace h := hr1
  try dsimp only at h
  refine hK1 _ (lh hk rfl (rk fun K10 hK10 => ?_))
  have kJ2 : ∀ {x11 : Bool}, spec_l5Place_J2 z2 x11 = some r -> Jn K10 [(4, nI z2), (5, .bool x11)] := by
   intro x11 h σ' hk
   unfold spec_l5Place_J2 at h
   exact hK10 _ (lh hk rfl (ls_ret ((by cases h; exact ⟨.inl rfl, rfl⟩))))
  refine sp 7 rfl (?_)
  rcases cond_some h with ⟨g12, h⟩ | ⟨g12, h⟩
  ·refine qg 36 g12 rfl (sp 3 rfl (?_))
   obtain ⟨e13, g14, h⟩ := ob_some h
   refine oGR rfl rfl (qI rfl zc53_d g14 (sp 2 rfl (?_)))
   obtain ⟨v15, g16, h⟩ := ob_some h
   exact oGR rfl rfl (qC (qa rfl (erD eci64 _) (qa rfl (erD eci64 _) eran)) (spec_CompareRows_s g16) (sp 4 rfl (evn (kJ2 h _ (okr rfl)))))
  ·exact qg 36 g12 rfl (sp 11 rfl (evn (kJ2 h _ (okr rfl))))
 refine ls_rec (fun (s : Int × Int) => match s with | (y1, y2) => [(1, dL ci64 a1), (2, .box [nI a0.1, dL c53_d a0.2]), (6, nI y1), (7, nI y2)]) _ _ _ _ hl (okr rfl) (fun _ => rfl) ?_
 rintro m ⟨y1, y2⟩ N h hN
 unfold spec_l5Place_B1 at h
 dsimp only at h
 refine ls_seq_k fun K3 hK3 => rn 1 rfl ?_
 rcases cond_some h with ⟨g4, h⟩ | ⟨g4, h⟩
 ·refine qT rfl g4 (ls_skip (hK3 _ (ls_blk (rn 1 rfl (rs (sp 3 rfl (?_)))))))
  obtain ⟨e5, g6, h⟩ := ob_some h
  refine qI rfl zc53_d g6 (sp 2 rfl (?_))
  obtain ⟨v7, g8, h⟩ := ob_some h
  refine qC (qa rfl (erD eci64 _) (qa rfl (erD eci64 _) eran)) (spec_CompareRows_s g8) (sp 1 rfl (evn ?_))
  rcases cond_some h with ⟨g9, h⟩ | ⟨g9, h⟩
  ·exact qT rfl g9 (rg (sp 3 rfl (evn (hN _ _ h (okr rfl)))))
  ·exact qF rfl g9 (rg (sp 2 rfl (evn (hN _ _ h (okr rfl)))))
 ·exact qF rfl g4 (ls_exit (kXB1 (Option.some.inj h) _ (okr rfl)))
def spec_l27Sum_B1 (a1 : List (List Int)) (a2 : List Int) (v1 : Y42 × Bool) (rec : ((List Int) × Int) -> Option ((List Int))) (s : (List Int) × Int) : Option ((List Int)) := match s with
  | (y1, y2) => cond (decide (y2 < (List.length a1 : Int))) (obind (geti a1 y2) fun e11 => obind (spec_l5Place v1.1 e11) fun v13 => obind (geti y1 v13.1) fun e15 => obind (geti a2 y2) fun e17 => obind (geti y1 v13.1) fun e19 => rec ((seti y1 v13.1 (IntKind.i64.wrap (e15 + e17))), (IntKind.i64.wrap (y2 + 1)))) (some y1)
def spec_l27Sum_J3 (rec : ((List (Nat × (List Int))) × (List Int) × Int) -> Option ((List (Nat × (List Int))) × (List Int))) (y5 : Int) (x29 : List (Nat × (List Int))) (x30 : List Int) : Option ((List (Nat × (List Int))) × (List Int)) := rec (x29, x30, (IntKind.i64.wrap (y5 + 1)))
def spec_l27Sum_B2 (v1 : Y42 × Bool) (z7 : List Int) (rec : ((List (Nat × (List Int))) × (List Int) × Int) -> Option ((List (Nat × (List Int))) × (List Int))) (s : (List (Nat × (List Int))) × (List Int) × Int) : Option ((List (Nat × (List Int))) × (List Int)) := match s with
  | (y3, y4, y5) => cond (decide (y5 < (List.length (enumP 0 v1.1.2) : Int))) (obind (geti z7 y5) fun e27 => cond (e27 != 0) (obind (geti (enumP 0 v1.1.2) y5) fun e32 => chk (List.length y3 + List.length [e32] <= lim) (obind (geti z7 y5) fun e35 => chk (List.length y4 + List.length [e35] <= lim) (spec_l27Sum_J3 rec y5 (y3 ++ [e32]) (y4 ++ [e35])))) (spec_l27Sum_J3 rec y5 y3 y4)) (some (y3, y4))
def spec_l27Sum (a0 : Int) (a1 : List (List Int)) (a2 : List Int) : Option (Y75 × Bool) := obind (spec_NewRelation a0 a1) fun v1 => cond (!v1.2) (some ((0, [], []), false)) (chk ((0 : Int) <= (List.length v1.1.2 : Int) ∧ Int.toNat (List.length v1.1.2 : Int) <= lim) (obind (loopF (spec_l27Sum_B1 a1 a2 v1) fz ((List.replicate (Int.toNat (List.length v1.1.2 : Int)) (0 : Int)), 0)) fun z7 => obind (loopF (spec_l27Sum_B2 v1 z7) fz (([] : List (Nat × (List Int))), ([] : List Int), 0)) fun o2 => (match o2 with
  | (z22, z23) => (chk (okJ (v1.1.2) (inlM z22) [] = true) (obind (spec_IsValidCounted (a0, List.map getM (inlM z22), z23)) fun v40 => cond (!v40) (some ((0, [], []), false)) (some ((a0, List.map getM (inlM z22), z23), true)))))))
theorem spec_l27Sum_s {a0 : Int} {a1 : List (List Int)} {a2 : List Int} {r : Y75 × Bool} (h : spec_l27Sum a0 a1 a2 = some r) : SoundAt Tryz.prog 177 [nI a0, dL c53_d a1, dL ci64 a2] (.tup [.agg (c76_ooo r.1), .bool r.2]) := by
 unfold spec_l27Sum at h
 refine st lit177 rfl (rn 1 rfl (rs (sp 2 rfl (?_))))
 obtain ⟨v1, g2, h⟩ := ob_some h
 refine qC (qs rfl (qa rfl (erD ec53_d _) eran)) (spec_NewRelation_s g2) (sp 6 rfl (evn (ls_seq_k fun K3 hK3 => rn 1 rfl ?_)))
 rcases cond_some h with ⟨g4, h⟩ | ⟨g4, h⟩
 ·exact qT rfl g4 (rn 1 rfl (ls_ret ((by cases h; exact ⟨.inl rfl, rfl⟩))))
 ·refine qF rfl g4 (ls_skip (hK3 _ (rs (sp 3 rfl (?_)))))
  obtain ⟨g5, h⟩ := chk_some h
  refine qMu ci64 (0 : Int) rfl rfl rfl rfl g5 rfl (qAu rfl rfl rfl rfl (evn (ls_seq_k fun K6 hK6 => rn 1 rfl (qk [0, 1, 2, 6, 8, 10, 11] rfl ?_))))
  obtain ⟨o1, hl, hr1⟩ := ob_some h
  have kXB1 : ∀ {z7 : List Int}, z7 = o1 -> Jn K6 [(0, nI a0), (6, .box [nI 0, oL 53 c53_o [], oL 3 ci64 []]), (8, .box [nI v1.1.1, oL 53 c53_o v1.1.2]), (10, wL 3 ci64 z7)] := by
   intro z7 h σ' hk
   subst h
   replace h := hr1
   try dsimp only at h
   refine hK6 _ (lh hk rfl (qk [0, 6, 8, 10] rfl (ls_hg (gSb (f := c53_o) (l := v1.1.2) (q := 900001) (b := 8) [nI v1.1.1] [] rfl rfl rfl (fun _ => rfl) ?_))))
   intro U us1 hU
   refine kp [(0, nI a0), (6, .box [nI 0, oL 53 c53_o [], oL 3 ci64 []]), (8, .box [nI v1.1.1, oL 53 (pE c53_o U) (enumP 0 v1.1.2)]), (10, wL 3 ci64 z7), (900001, .gh us1 (List.map (fun x => tokC (c53_o x)) v1.1.2))] rfl rfl (rn 1 rfl (ls_seq_k fun K21 hK21 => rn 1 rfl ?_))
   obtain ⟨o2, hl, hr2⟩ := ob_some h
   have kXB2 : ∀ {z22 : List (Nat × (List Int))} {z23 : List Int}, (z22, z23) = o2 -> Jn K21 [(6, .box [nI 0, oL 53 c53_o [], oL 3 ci64 []]), (14, .box [nI a0, oL 53 (pE c53_o U) z22, oL 3 ci64 z23]), (900001, .gh us1 (List.map (fun x => tokC (c53_o x)) v1.1.2))] := by
    intro z22 z23 h σ' hk
    subst h
    replace h := hr2
    try dsimp only at h
    refine hK21 _ (lh hk rfl (ls_seq_k fun K38 hK38 => qk [6, 14, 900001] rfl ?_))
    obtain ⟨g39, h⟩ := chk_some h
    refine ls_hg (gJb (f := c53_o) (l := v1.1.2) (q := 900001) (b := 14) [nI a0] [oL 3 ci64 z23] (inlM z22) rfl own_inM rfl rfl (fun _ => rfl) hU g39 (kp [(6, .box [nI 0, oL 53 c53_o [], oL 3 ci64 []]), (14, .box [nI a0, oL 53 c53_o (List.map getM (inlM z22)), oL 3 ci64 z23])] rfl rfl (rs (sp 1 rfl (?_)))))
    obtain ⟨v40, g41, h⟩ := ob_some h
    refine qC (qa rfl (erg (erc rfl (erc (erD ec53_o _) (erc (erD eci64 _) rfl)))) eran) (spec_IsValidCounted_s g41) (sp 1 rfl (evn ?_))
    rcases cond_some h with ⟨g42, h⟩ | ⟨g42, h⟩
    ·exact qT rfl g42 (rn 1 rfl (ls_ret ((by cases h; exact ⟨.inl rfl, rfl⟩))))
    ·exact qF rfl g42 (ls_skip (hK38 _ (rn 1 rfl (ls_ret ((by cases h; exact ⟨.inl rfl, rfl⟩))))))
   refine ls_rec (fun (s : (List (Nat × (List Int))) × (List Int) × Int) => match s with | (y3, y4, y5) => [(6, .box [nI 0, oL 53 c53_o [], oL 3 ci64 []]), (8, .box [nI v1.1.1, oL 53 (pE c53_o U) (enumP 0 v1.1.2)]), (10, wL 3 ci64 z7), (14, .box [nI a0, oL 53 (pE c53_o U) y3, oL 3 ci64 y4]), (15, nI y5), (900001, .gh us1 (List.map (fun x => tokC (c53_o x)) v1.1.2))]) _ _ _ _ hl (okr rfl) (fun _ => rfl) ?_
   rintro m ⟨y3, y4, y5⟩ N h hN
   unfold spec_l27Sum_B2 at h
   dsimp only at h
   refine ls_seq_k fun K24 hK24 => rn 1 rfl ?_
   rcases cond_some h with ⟨g25, h⟩ | ⟨g25, h⟩
   ·refine qT rfl g25 (ls_skip (hK24 _ (ls_seq_k fun K26 hK26 => ls_blk (rs (sp 2 rfl (?_))))))
    obtain ⟨e27, g28, h⟩ := ob_some h
    refine qIu rfl ⟨(geti_some g28).1, (geti_some g28).2.1⟩ (qLu 0 rfl rfl rfl zci64 g28 rfl rfl rfl (sp 1 rfl (evn ?_)))
    have kJ3 : ∀ {x29 : List (Nat × (List Int))} {x30 : List Int}, spec_l27Sum_J3 (loopF (spec_l27Sum_B2 v1 z7) m) y5 x29 x30 = some o2 -> Jn K26 [(6, .box [nI 0, oL 53 c53_o [], oL 3 ci64 []]), (8, .box [nI v1.1.1, oL 53 (pE c53_o U) (enumP 0 v1.1.2)]), (10, wL 3 ci64 z7), (14, .box [nI a0, oL 53 (pE c53_o U) x29, oL 3 ci64 x30]), (15, nI y5), (900001, .gh us1 (List.map (fun x => tokC (c53_o x)) v1.1.2))] := by
     intro x29 x30 h σ' hk
     unfold spec_l27Sum_J3 at h
     exact hK26 _ (lh hk rfl (rg (sp 3 rfl (evn (hN _ _ h (okr rfl))))))
    rcases cond_some h with ⟨g31, h⟩ | ⟨g31, h⟩
    ·refine qT rfl g31 (rd (by kernel_rfl) (sd 5 rfl (?_)))
     obtain ⟨e32, g33, h⟩ := ob_some h
     refine ed rfl (qI rfl (zpE zc53_o) g33 (sd 1 rfl (ed rfl (qBs (pE c53_o U) [e32] rfl rfl rfl (zpE zc53_o) (?_)))))
     obtain ⟨g34, h⟩ := chk_some h
     refine ed rfl (qA (pE c53_o U) y3 [e32] rfl rfl (flat_len (zpE zc53_o) [e32]) rfl g34 (sd 2 rfl (evdn (rgd (by kernel_rfl) (sd 4 rfl (?_))))))
     obtain ⟨e35, g36, h⟩ := ob_some h
     refine ed rfl (qIu rfl ⟨(geti_some g36).1, (geti_some g36).2.1⟩ (ed rfl (qLu 0 rfl rfl rfl zci64 g36 rfl rfl rfl (ed rfl (qBs ci64 [e35] rfl rfl rfl zci64 (?_))))))
     obtain ⟨g37, h⟩ := chk_some h
     exact ed rfl (qA ci64 y4 [e35] rfl rfl (flat_len zci64 [e35]) rfl g37 (sd 2 rfl (evdn (kJ3 h _ (okr rfl)))))
    ·exact qF rfl g31 (ls_skip (kJ3 h _ (okr rfl)))
   ·exact qF rfl g25 (ls_exit (kXB2 (Option.some.inj h) _ (okr rfl)))
  refine ls_rec (fun (s : (List Int) × Int) => match s with | (y1, y2) => [(0, nI a0), (1, dL c53_d a1), (2, dL ci64 a2), (6, .box [nI 0, oL 53 c53_o [], oL 3 ci64 []]), (8, .box [nI v1.1.1, oL 53 c53_o v1.1.2]), (10, wL 3 ci64 y1), (11, nI y2)]) _ _ _ _ hl (okr rfl) (fun _ => rfl) ?_
  rintro m ⟨y1, y2⟩ N h hN
  unfold spec_l27Sum_B1 at h
  dsimp only at h
  refine ls_seq_k fun K8 hK8 => rn 1 rfl ?_
  rcases cond_some h with ⟨g9, h⟩ | ⟨g9, h⟩
  ·refine qT rfl g9 (ls_skip (hK8 _ (ls_seq_k fun K10 hK10 => ls_blk (rd (by kernel_rfl) (sd 3 rfl (?_))))))
   obtain ⟨e11, g12, h⟩ := ob_some h
   refine ed rfl (qI rfl zc53_d g12 (sd 1 rfl (?_)))
   obtain ⟨v13, g14, h⟩ := ob_some h
   refine ed rfl (qC (qa rfl (erg (erc rfl (erc (erD ec53_o _) rfl))) (qa rfl (erD eci64 _) eran)) (spec_l5Place_s g14) (sd 5 rfl (evdn (rgd (by kernel_rfl) (sd 4 rfl (?_))))))
   obtain ⟨e15, g16, h⟩ := ob_some h
   refine ed rfl (qIu rfl ⟨(geti_some g16).1, (geti_some g16).2.1⟩ (ed rfl (qLu 0 rfl rfl rfl zci64 g16 rfl rfl rfl (sd 2 rfl (?_)))))
   obtain ⟨e17, g18, h⟩ := ob_some h
   refine ed rfl (qI rfl zci64 g18 (sd 2 rfl (?_)))
   obtain ⟨e19, g20, h⟩ := ob_some h
   exact ed rfl (qIu rfl ⟨(geti_some g20).1, (geti_some g20).2.1⟩ (ed rfl (qSu (IntKind.i64.wrap (e15 + e17)) rfl rfl zci64 ⟨(geti_some g20).1, (geti_some g20).2.1⟩ rfl rfl rfl rfl rfl rfl (evdn (hK10 _ (rg (sp 3 rfl (evn (hN _ _ h (okr rfl))))))))))
  ·exact qF rfl g9 (ls_exit (kXB1 (Option.some.inj h) _ (okr rfl)))
def spec_ProjectCounted_B1 (a0 : Y75) (a1 : List Int) (rec : Int -> Option (Sum (Unit) (Y75 × Bool))) (y1 : Int) : Option (Sum (Unit) (Y75 × Bool)) := cond (decide (y1 < (List.length a1 : Int))) (obind (geti a1 y1) fun e5 => obind (spec_l1In e5 0 (IntKind.i64.wrap (a0.1 - 1))) fun v7 => cond (!v7) (some (.inr ((0, [], []), false))) (rec (IntKind.i64.wrap (y1 + 1)))) (some (.inl ()))
def spec_ProjectCounted_B2 (a0 : Y75) (a1 : List Int) (rec : ((List (List Int)) × Int) -> Option ((List (List Int)))) (s : (List (List Int)) × Int) : Option ((List (List Int))) := match s with
  | (y2, y3) => cond (decide (y3 < (List.length a0.2.1 : Int))) (obind (geti a0.2.1 y3) fun e20 => obind (spec_l5Cols e20 a1) fun v22 => chk (List.length y2 + List.length [v22] <= lim) (rec ((y2 ++ [v22]), (IntKind.i64.wrap (y3 + 1))))) (some y2)
def spec_ProjectCounted (a0 : Y75) (a1 : List Int) : Option (Y75 × Bool) := obind (loopF (spec_ProjectCounted_B1 a0 a1) fz 0) fun o1 => (match o1 with
  | .inl _ => (obind (spec_IsValidCounted a0) fun v11 => cond (!v11) (some ((0, [], []), false)) (cond (decide (5 < (List.length a1 : Int))) (some ((0, [], []), false)) (obind (loopF (spec_ProjectCounted_B2 a0 a1) fz (([] : List (List Int)), 0)) fun z16 => obind (spec_l27Sum (List.length a1 : Int) z16 a0.2.2) fun v25 => some (v25.1, v25.2))))
  | .inr r => some r)
theorem spec_ProjectCounted_s {a0 : Y75} {a1 : List Int} {r : Y75 × Bool} (h : spec_ProjectCounted a0 a1 = some r) : SoundAt Tryz.prog 144 [.agg (c76_ddd a0), dL ci64 a1] (.tup [.agg (c76_ooo r.1), .bool r.2]) := by
 unfold spec_ProjectCounted at h
 refine st lit144 rfl (rn 1 rfl (ls_seq_k fun K1 hK1 => rn 1 rfl ?_))
 obtain ⟨o1, hl, hr1⟩ := ob_some h
 have kXB1 : (.inl ()) = o1 -> Jn K1 [(1, dL ci64 a1), (2, .box [nI a0.1, dL c53_d a0.2.1, dL ci64 a0.2.2]), (4, .box [nI 0, oL 53 c53_o [], oL 3 ci64 []])] := by
  intro h σ' hk
  subst h
  replace h := hr1
  try dsimp only at h
  refine hK1 _ (lh hk rfl (ls_seq_k fun K10 hK10 => rs (sp 1 rfl (?_))))
  obtain ⟨v11, g12, h⟩ := ob_some h
  refine qC (qa rfl (erg (erc rfl (erc (erD ec53_d _) (erc (erD eci64 _) rfl)))) eran) (spec_IsValidCounted_s g12) (sp 2 rfl (?_))
  rcases cond_some h with ⟨g13, h⟩ | ⟨g13, h⟩
  ·exact qg 30 g13 rfl (sp 4 rfl (evn (qT rfl rfl (rn 1 rfl (ls_ret ((by cases h; exact ⟨.inl rfl, rfl⟩)))))))
  ·refine qg 30 g13 rfl (sp 4 rfl (evn ?_))
   rcases cond_some h with ⟨g14, h⟩ | ⟨g14, h⟩
   ·exact qT rfl g14 (rn 1 rfl (ls_ret ((by cases h; exact ⟨.inl rfl, rfl⟩))))
   ·refine qF rfl g14 (ls_skip (hK10 _ (rs (qBs c53_o [] rfl rfl rfl zc53_o (sp 1 rfl (evn (ls_seq_k fun K15 hK15 => rn 1 rfl (qk [1, 2, 4, 7, 8] rfl ?_))))))))
    obtain ⟨o2, hl, hr2⟩ := ob_some h
    have kXB2 : ∀ {z16 : List (List Int)}, z16 = o2 -> Jn K15 [(1, dL ci64 a1), (2, .box [nI a0.1, dL c53_d a0.2.1, dL ci64 a0.2.2]), (4, .box [nI 0, oL 53 c53_o [], oL 3 ci64 []]), (7, oL 53 c53_o z16)] := by
     intro z16 h σ' hk
     subst h
     replace h := hr2
     try dsimp only at h
     refine hK15 _ (lh hk rfl (rs (sp 5 rfl (?_))))
     obtain ⟨v25, g26, h⟩ := ob_some h
     exact qC (qs rfl (qa rfl (erD ec53_o _) (qa rfl (erD eci64 _) eran))) (spec_l27Sum_s g26) (sp 6 rfl (evn (rn 1 rfl (ls_ret ((by cases h; exact ⟨.inl rfl, rfl⟩))))))
    refine ls_rec (fun (s : (List (List Int)) × Int) => match s with | (y2, y3) => [(1, dL ci64 a1), (2, .box [nI a0.1, dL c53_d a0.2.1, dL ci64 a0.2.2]), (4, .box [nI 0, oL 53 c53_o [], oL 3 ci64 []]), (7, oL 53 c53_o y2), (8, nI y3)]) _ _ _ _ hl (okr rfl) (fun _ => rfl) ?_
    rintro m ⟨y2, y3⟩ N h hN
    unfold spec_ProjectCounted_B2 at h
    dsimp only at h
    refine ls_seq_k fun K17 hK17 => rn 1 rfl ?_
    rcases cond_some h with ⟨g18, h⟩ | ⟨g18, h⟩
    ·refine qT rfl g18 (ls_skip (hK17 _ (ls_seq_k fun K19 hK19 => ls_blk (rg (sp 4 rfl (?_))))))
     obtain ⟨e20, g21, h⟩ := ob_some h
     refine qI rfl zc53_d g21 (sp 2 rfl (?_))
     obtain ⟨v22, g23, h⟩ := ob_some h
     refine qC (qa rfl (erD eci64 _) (qa rfl (erD eci64 _) eran)) (spec_l5Cols_s g23) (qBs c53_o [v22] rfl rfl rfl zc53_o (?_))
     obtain ⟨g24, h⟩ := chk_some h
     exact qA c53_o y2 [v22] rfl rfl (flat_len zc53_o [v22]) rfl g24 (sp 1 rfl (evn (hK19 _ (rg (sp 3 rfl (evn (hN _ _ h (okr rfl))))))))
    ·exact qF rfl g18 (ls_exit (kXB2 (Option.some.inj h) _ (okr rfl)))
 refine ls_rec (fun (y1 : Int) => [(1, dL ci64 a1), (2, .box [nI a0.1, dL c53_d a0.2.1, dL ci64 a0.2.2]), (4, .box [nI 0, oL 53 c53_o [], oL 3 ci64 []]), (6, nI y1)]) _ _ _ _ hl (okr rfl) (fun _ => rfl) ?_
 rintro m y1 N h hN
 unfold spec_ProjectCounted_B1 at h
 refine ls_seq_k fun K2 hK2 => rn 1 rfl ?_
 rcases cond_some h with ⟨g3, h⟩ | ⟨g3, h⟩
 ·refine qT rfl g3 (ls_skip (hK2 _ (ls_seq_k fun K4 hK4 => ls_blk (rd (by kernel_rfl) (sd 2 rfl (?_))))))
  obtain ⟨e5, g6, h⟩ := ob_some h
  refine ed rfl (qI rfl zci64 g6 (sd 4 rfl (?_)))
  obtain ⟨v7, g8, h⟩ := ob_some h
  refine ed rfl (qC (qs rfl (qs rfl (qs rfl eran))) (spec_l1In_s g8) (sd 1 rfl (evdn ?_)))
  rcases cond_some h with ⟨g9, h⟩ | ⟨g9, h⟩
  ·exact qT rfl g9 (rn 1 rfl (ls_ret ((by cases h; cases hr1; exact ⟨.inl rfl, rfl⟩))))
  ·exact qF rfl g9 (ls_skip (hK4 _ (rg (sp 3 rfl (evn (hN _ _ h (okr rfl)))))))
 ·exact qF rfl g3 (ls_exit (kXB1 (Option.some.inj h) _ (okr rfl)))
def spec_l28Z (a0 : List Y119) (a1 : Y54) : Option (Y75 × Bool) := obind (spec_AllBindings a0 a1) fun v1 => obind (spec_IsQueryFor a0 a1) fun v4 => cond (!v4) (some ((0, [], []), false)) (cond (v1.1 != a1.1) (some ((0, [], []), false)) (obind (spec_CountedFromRelation v1) fun v8 => obind (spec_ProjectCounted v8.1 a1.2.2) fun v10 => some (v10.1, v10.2)))
theorem spec_l28Z_s {a0 : List Y119} {a1 : Y54} {r : Y75 × Bool} (h : spec_l28Z a0 a1 = some r) : SoundAt Tryz.prog 91 [.agg [dL c120_dd a0], .agg (c55_ddd a1)] (.tup [.agg (c76_ooo r.1), .bool r.2]) := by
 unfold spec_l28Z at h
 refine st lit91 rfl (rn 1 rfl (rs (sp 2 rfl (?_))))
 obtain ⟨v1, g2, h⟩ := ob_some h
 refine qC (qa rfl (erg (erc (erD ec120_dd _) rfl)) (qa rfl (erg (erc rfl (erc (erD ec148_d _) (erc (erD eci64 _) rfl)))) eran)) (spec_AllBindings_s g2) (sp 2 rfl (evn (ls_seq_k fun K3 hK3 => rs (sp 2 rfl (?_)))))
 obtain ⟨v4, g5, h⟩ := ob_some h
 refine qC (qa rfl (erg (erc (erD ec120_dd _) rfl)) (qa rfl (erg (erc rfl (erc (erD ec148_d _) (erc (erD eci64 _) rfl)))) eran)) (spec_IsQueryFor_s g5) (sp 2 rfl (?_))
 rcases cond_some h with ⟨g6, h⟩ | ⟨g6, h⟩
 ·exact qg 18 g6 rfl (sp 6 rfl (evn (qT rfl rfl (rn 1 rfl (ls_ret ((by cases h; exact ⟨.inl rfl, rfl⟩)))))))
 ·refine qg 18 g6 rfl (sp 6 rfl (evn ?_))
  rcases cond_some h with ⟨g7, h⟩ | ⟨g7, h⟩
  ·exact qT rfl g7 (rn 1 rfl (qk [4, 5] rfl (ls_ret ((by cases h; exact ⟨.inl rfl, rfl⟩)))))
  ·refine qF rfl g7 (ls_skip (hK3 _ (rs (sp 1 rfl (?_)))))
   obtain ⟨v8, g9, h⟩ := ob_some h
   refine qC (qa rfl (erg (erc rfl (erc (erD ec53_o _) rfl))) eran) (spec_CountedFromRelation_s g9) (sp 6 rfl (evn (rs (sp 3 rfl (?_)))))
   obtain ⟨v10, g11, h⟩ := ob_some h
   exact qC (qa rfl (erg (erc rfl (erc (erD ec53_o _) (erc (erD eci64 _) rfl)))) (qa rfl (erD eci64 _) eran)) (spec_ProjectCounted_s g11) (sp 6 rfl (evn (rn 1 rfl (ls_ret ((by cases h; exact ⟨.inl rfl, rfl⟩))))))
abbrev Y77 := Y54 × Y75
def c78_dddddd (x : Y77) : List V := [nI x.1.1, dL c148_d x.1.2.1, dL ci64 x.1.2.2, nI x.2.1, dL c53_d x.2.2.1, dL ci64 x.2.2.2]
theorem zc78_dddddd (x : Y77) : (c78_dddddd x).length = 6 := rfl
theorem ec78_dddddd (x : Y77) : erL (c78_dddddd x) = c78_dddddd x := (erc rfl (erc (erD ec148_d _) (erc (erD eci64 _) (erc rfl (erc (erD ec53_d _) (erc (erD eci64 _) rfl))))))
def spec_IsValidView_J1 (x4 : Bool) : Option (Bool) := some x4
def spec_IsValidView (a0 : List Y119) (a1 : Y77) : Option (Bool) := obind (spec_l28Z a0 a1.1) fun v1 => cond v1.2 (obind (spec_EqualCounted v1.1 a1.2) fun v6 => spec_IsValidView_J1 v6) (spec_IsValidView_J1 false)
theorem spec_IsValidView_s {a0 : List Y119} {a1 : Y77} {r : Bool} (h : spec_IsValidView a0 a1 = some r) : SoundAt Tryz.prog 36 [.agg [dL c120_dd a0], .agg (c78_dddddd a1)] (.bool r) := by
 unfold spec_IsValidView at h
 refine st lit36 rfl (rn 1 rfl (rs (sp 3 rfl (?_))))
 obtain ⟨v1, g2, h⟩ := ob_some h
 refine qC (qa rfl (erg (erc (erD ec120_dd _) rfl)) (qa rfl (erg (erc rfl (erc (erD ec148_d _) (erc (erD eci64 _) rfl)))) eran)) (spec_l28Z_s g2) (sp 6 rfl (evn (rk fun K3 hK3 => ?_)))
 have kJ1 : ∀ {x4 : Bool}, spec_IsValidView_J1 x4 = some r -> Jn K3 [(4, .bool x4)] := by
  intro x4 h σ' hk
  unfold spec_IsValidView_J1 at h
  exact hK3 _ (lh hk rfl (ls_ret ((by cases h; exact ⟨.inl rfl, rfl⟩))))
 refine sp 2 rfl (?_)
 rcases cond_some h with ⟨g5, h⟩ | ⟨g5, h⟩
 ·refine qg 15 g5 rfl (sp 3 rfl (?_))
  obtain ⟨v6, g7, h⟩ := ob_some h
  exact oGR rfl rfl (qC (qa rfl (erg (erc rfl (erc (erD ec53_o _) (erc (erD eci64 _) rfl)))) (qa rfl (erg (erc rfl (erc (erD ec53_d _) (erc (erD eci64 _) rfl)))) eran)) (spec_EqualCounted_s g7) (sp 2 rfl (evn (kJ1 h _ (okr rfl)))))
 ·exact qg 15 g5 rfl (sp 6 rfl (evn (kJ1 h _ (okr rfl))))
abbrev Y36 := (List Y119) × (List Y77) × (List Y75)
def c37_dddddddddddddd (x : Y36) : List V := [dL c120_dd x.1, dL c78_dddddd x.2.1, dL c76_ddd x.2.2]
theorem zc37_dddddddddddddd (x : Y36) : (c37_dddddddddddddd x).length = 3 := rfl
theorem ec37_dddddddddddddd (x : Y36) : erL (c37_dddddddddddddd x) = c37_dddddddddddddd x := (erc (erD ec120_dd _) (erc (erD ec78_dddddd _) (erc (erD ec76_ddd _) rfl)))
def spec_IsValidNotifier_B1 (a0 : Y36) (rec : Int -> Option (Sum (Unit) (Bool))) (y1 : Int) : Option (Sum (Unit) (Bool)) := cond (decide (y1 < (List.length a0.2.1 : Int))) (obind (geti a0.2.1 y1) fun e11 => obind (spec_IsValidView a0.1 e11) fun v13 => cond (!v13) (some (.inr false)) (obind (geti a0.2.1 y1) fun e16 => obind (geti a0.2.2 y1) fun e18 => obind (spec_EqualCounted e16.2 e18) fun v20 => cond (!v20) (some (.inr false)) (rec (IntKind.i64.wrap (y1 + 1))))) (some (.inl ()))
def spec_IsValidNotifier (a0 : Y36) : Option (Bool) := obind (spec_IsValidDatabase a0.1) fun v2 => cond (!v2) (some false) (cond ((List.length a0.2.1 : Int) != (List.length a0.2.2 : Int)) (some false) (cond (decide (4 < (List.length a0.2.1 : Int))) (some false) (obind (loopF (spec_IsValidNotifier_B1 a0) fz 0) fun o1 => (match o1 with
  | .inl _ => (some true)
  | .inr r => some r))))
theorem spec_IsValidNotifier_s {a0 : Y36} {r : Bool} (h : spec_IsValidNotifier a0 = some r) : SoundAt Tryz.prog 8 [.agg (c37_dddddddddddddd a0)] (.bool r) := by
 unfold spec_IsValidNotifier at h
 refine st lit8 rfl (rn 1 rfl (ls_seq_k fun K1 hK1 => rs (sp 2 rfl (?_))))
 obtain ⟨v2, g3, h⟩ := ob_some h
 refine qC (qa rfl (erg (erc (erD ec120_dd _) rfl)) eran) (spec_IsValidDatabase_s g3) (sp 2 rfl (?_))
 rcases cond_some h with ⟨g4, h⟩ | ⟨g4, h⟩
 ·exact qg 8 g4 rfl (sp 14 rfl (evn (qT rfl rfl (rn 1 rfl (ls_ret ((by cases h; exact ⟨.inl rfl, rfl⟩)))))))
 ·refine qg 8 g4 rfl (sp 9 rfl (?_))
  rcases cond_some h with ⟨g5, h⟩ | ⟨g5, h⟩
  ·exact qg 17 g5 rfl (sp 5 rfl (evn (qk [1, 22] rfl (qT rfl rfl (rn 1 rfl (ls_ret ((by cases h; exact ⟨.inl rfl, rfl⟩))))))))
  ·refine qg 17 g5 rfl (sp 5 rfl (evn ?_))
   rcases cond_some h with ⟨g6, h⟩ | ⟨g6, h⟩
   ·exact qT rfl g6 (rn 1 rfl (ls_ret ((by cases h; exact ⟨.inl rfl, rfl⟩))))
   ·refine qF rfl g6 (ls_skip (hK1 _ (ls_seq_k fun K7 hK7 => rn 1 rfl ?_)))
    obtain ⟨o1, hl, hr1⟩ := ob_some h
    have kXB1 : (.inl ()) = o1 -> Jn K7 [] := by
     intro h σ' hk
     subst h
     replace h := hr1
     try dsimp only at h
     exact hK7 _ (lh hk rfl (rn 1 rfl (ls_ret ((by cases h; exact ⟨.inl rfl, rfl⟩)))))
    refine ls_rec (fun (y1 : Int) => [(1, .box [dL c120_dd a0.1, dL c78_dddddd a0.2.1, dL c76_ddd a0.2.2]), (3, nI y1)]) _ _ _ _ hl (okr rfl) (fun _ => rfl) ?_
    rintro m y1 N h hN
    unfold spec_IsValidNotifier_B1 at h
    refine ls_seq_k fun K8 hK8 => rn 1 rfl ?_
    rcases cond_some h with ⟨g9, h⟩ | ⟨g9, h⟩
    ·refine qT rfl g9 (ls_skip (hK8 _ (ls_seq_k fun K10 hK10 => ls_blk (rd (by kernel_rfl) (sd 5 rfl (?_))))))
     obtain ⟨e11, g12, h⟩ := ob_some h
     refine ed rfl (qI rfl zc78_dddddd g12 (sd 1 rfl (?_)))
     obtain ⟨v13, g14, h⟩ := ob_some h
     refine ed rfl (qC (qa rfl (erg (erc (erD ec120_dd _) rfl)) (qa rfl (erg (erc rfl (erc (erD ec148_d _) (erc (erD eci64 _) (erc rfl (erc (erD ec53_d _) (erc (erD eci64 _) rfl))))))) eran)) (spec_IsValidView_s g14) (sd 2 rfl (?_)))
     rcases cond_some h with ⟨g15, h⟩ | ⟨g15, h⟩
     ·exact qgd 39 g15 rfl (sd 14 rfl (evdn (qT rfl rfl (rn 1 rfl (qk [2] rfl (ls_ret ((by cases h; cases hr1; exact ⟨.inl rfl, rfl⟩))))))))
     ·refine qgd 39 g15 rfl (sd 3 rfl (?_))
      obtain ⟨e16, g17, h⟩ := ob_some h
      refine ed rfl (oGR rfl rfl (qI rfl zc78_dddddd g17 (sd 5 rfl (?_))))
      obtain ⟨e18, g19, h⟩ := ob_some h
      refine ed rfl (oGR rfl rfl (qI rfl zc76_ddd g19 (sd 1 rfl (?_))))
      obtain ⟨v20, g21, h⟩ := ob_some h
      refine ed rfl (oGR rfl rfl (qC (qa rfl (erg (erc rfl (erc (erD ec53_d _) (erc (erD eci64 _) rfl)))) (qa rfl (erg (erc rfl (erc (erD ec53_d _) (erc (erD eci64 _) rfl)))) eran)) (spec_EqualCounted_s g21) (sd 2 rfl (evdn ?_))))
      rcases cond_some h with ⟨g22, h⟩ | ⟨g22, h⟩
      ·exact qT rfl g22 (rn 1 rfl (ls_ret ((by cases h; cases hr1; exact ⟨.inl rfl, rfl⟩))))
      ·exact qF rfl g22 (ls_skip (hK10 _ (rg (sp 3 rfl (evn (hN _ _ h (okr rfl)))))))
    ·exact qF rfl g9 (ls_exit (kXB1 (Option.some.inj h) _ trivial))
def impl_isLetters_B1 (a0 : List UInt8) (rec : Int -> Option (Sum (Unit) (Bool))) (y1 : Int) : Option (Sum (Unit) (Bool)) := cond (decide (y1 < (List.length a0 : Int))) (obind (geti a0 y1) fun b8 => cond (decide ((UInt8.toNat b8 : Int) < 97)) (some (.inr false)) (obind (geti a0 y1) fun b11 => cond (decide (122 < (UInt8.toNat b11 : Int))) (some (.inr false)) (rec (IntKind.i64.wrap (y1 + 1))))) (some (.inl ()))
def impl_isLetters (a0 : List UInt8) (a1 : Int) : Option (Bool) := cond (decide ((List.length a0 : Int) < 1)) (some false) (cond (decide (a1 < (List.length a0 : Int))) (some false) (obind (loopF (impl_isLetters_B1 a0) fz 0) fun o1 => (match o1 with
  | .inl _ => (some true)
  | .inr r => some r)))
theorem impl_isLetters_s {a0 : List UInt8} {a1 : Int} {r : Bool} (h : impl_isLetters a0 a1 = some r) : SoundAt Tryz.prog 147 [.str a0, nI a1] (.bool r) := by
 unfold impl_isLetters at h
 refine st lit147 rfl (rn 1 rfl (ls_seq_k fun K1 hK1 => rs (sp 4 rfl (?_))))
 rcases cond_some h with ⟨g2, h⟩ | ⟨g2, h⟩
 ·exact qg 9 g2 rfl (sp 5 rfl (evn (qT rfl rfl (rn 1 rfl (ls_ret ((by cases h; exact ⟨.inl rfl, rfl⟩)))))))
 ·refine qg 9 g2 rfl (sp 5 rfl (evn ?_))
  rcases cond_some h with ⟨g3, h⟩ | ⟨g3, h⟩
  ·exact qT rfl g3 (rn 1 rfl (ls_ret ((by cases h; exact ⟨.inl rfl, rfl⟩))))
  ·refine qF rfl g3 (ls_skip (hK1 _ (ls_seq_k fun K4 hK4 => rn 1 rfl (qk [0, 5] rfl ?_))))
   obtain ⟨o1, hl, hr1⟩ := ob_some h
   have kXB1 : (.inl ()) = o1 -> Jn K4 [] := by
    intro h σ' hk
    subst h
    replace h := hr1
    try dsimp only at h
    exact hK4 _ (lh hk rfl (rn 1 rfl (ls_ret ((by cases h; exact ⟨.inl rfl, rfl⟩)))))
   refine ls_rec (fun (y1 : Int) => [(0, .str a0), (5, nI y1)]) _ _ _ _ hl (okr rfl) (fun _ => rfl) ?_
   rintro m y1 N h hN
   unfold impl_isLetters_B1 at h
   refine ls_seq_k fun K5 hK5 => rn 1 rfl ?_
   rcases cond_some h with ⟨g6, h⟩ | ⟨g6, h⟩
   ·refine qT rfl g6 (ls_skip (hK5 _ (ls_seq_k fun K7 hK7 => ls_blk (rs (sp 2 rfl (?_))))))
    obtain ⟨b8, g9, h⟩ := ob_some h
    refine qX rfl g9 (sp 2 rfl (?_))
    rcases cond_some h with ⟨g10, h⟩ | ⟨g10, h⟩
    ·exact qg 25 g10 rfl (sp 5 rfl (evn (qT rfl rfl (rn 1 rfl (ls_ret ((by cases h; cases hr1; exact ⟨.inl rfl, rfl⟩)))))))
    ·refine qg 25 g10 rfl (sp 2 rfl (?_))
     obtain ⟨b11, g12, h⟩ := ob_some h
     refine oGR rfl rfl (qX rfl g12 (sp 2 rfl (evn ?_)))
     rcases cond_some h with ⟨g13, h⟩ | ⟨g13, h⟩
     ·exact qT rfl g13 (rn 1 rfl (qk [4] rfl (ls_ret ((by cases h; cases hr1; exact ⟨.inl rfl, rfl⟩)))))
     ·exact qF rfl g13 (ls_skip (hK7 _ (rg (sp 3 rfl (evn (hN _ _ h (okr rfl)))))))
   ·exact qF rfl g6 (ls_exit (kXB1 (Option.some.inj h) _ trivial))
def impl_IsValidName (a0 : List UInt8) : Option (Bool) := obind (impl_isLetters a0 4) fun v1 => some v1
theorem impl_IsValidName_s {a0 : List UInt8} {r : Bool} (h : impl_IsValidName a0 = some r) : SoundAt Tryz.prog 95 [.str a0] (.bool r) := by
 unfold impl_IsValidName at h
 refine st lit95 rfl (rn 1 rfl (rs (sp 1 rfl (?_))))
 obtain ⟨v1, g2, h⟩ := ob_some h
 exact qC (qs rfl (qs rfl eran)) (impl_isLetters_s g2) (sp 1 rfl (evn (ls_ret ((by cases h; exact ⟨.inl rfl, rfl⟩)))))
def impl_within_J1 (x2 : Bool) : Option (Bool) := some x2
def impl_within (a0 : Int) (a1 : Int) (a2 : Int) : Option (Bool) := cond (decide (a1 <= a0)) (impl_within_J1 (decide (a0 <= a2))) (impl_within_J1 false)
theorem impl_within_s {a0 : Int} {a1 : Int} {a2 : Int} {r : Bool} (h : impl_within a0 a1 a2 = some r) : SoundAt Tryz.prog 49 [nI a0, nI a1, nI a2] (.bool r) := by
 unfold impl_within at h
 refine st lit49 rfl (rn 1 rfl (rk fun K1 hK1 => ?_))
 have kJ1 : ∀ {x2 : Bool}, impl_within_J1 x2 = some r -> Jn K1 [(6, .bool x2)] := by
  intro x2 h σ' hk
  unfold impl_within_J1 at h
  exact hK1 _ (lh hk rfl (ls_ret ((by cases h; exact ⟨.inl rfl, rfl⟩))))
 refine sp 4 rfl (?_)
 rcases cond_some h with ⟨g3, h⟩ | ⟨g3, h⟩
 ·exact qg 10 g3 rfl (sp 5 rfl (evn (kJ1 h _ (okr rfl))))
 ·exact qg 10 g3 rfl (sp 5 rfl (evn (kJ1 h _ (okr rfl))))
def impl_AreValidValues_B1 (a0 : List Int) (rec : Int -> Option (Sum (Unit) (Bool))) (y1 : Int) : Option (Sum (Unit) (Bool)) := cond (decide (y1 < (List.length a0 : Int))) (obind (geti a0 y1) fun e5 => obind (impl_within e5 0 99) fun v7 => cond (!v7) (some (.inr false)) (rec (IntKind.i64.wrap (y1 + 1)))) (some (.inl ()))
def impl_AreValidValues (a0 : List Int) : Option (Bool) := obind (loopF (impl_AreValidValues_B1 a0) fz 0) fun o1 => (match o1 with
  | .inl _ => (some true)
  | .inr r => some r)
theorem impl_AreValidValues_s {a0 : List Int} {r : Bool} (h : impl_AreValidValues a0 = some r) : SoundAt Tryz.prog 179 [dL ci64 a0] (.bool r) := by
 unfold impl_AreValidValues at h
 refine st lit179 rfl (rn 1 rfl (ls_seq_k fun K1 hK1 => rn 1 rfl ?_))
 obtain ⟨o1, hl, hr1⟩ := ob_some h
 have kXB1 : (.inl ()) = o1 -> Jn K1 [] := by
  intro h σ' hk
  subst h
  replace h := hr1
  try dsimp only at h
  exact hK1 _ (lh hk rfl (rn 1 rfl (ls_ret ((by cases h; exact ⟨.inl rfl, rfl⟩)))))
 refine ls_rec (fun (y1 : Int) => [(5, dL ci64 a0), (6, nI (List.length a0 : Int)), (7, nI y1)]) _ _ _ _ hl (okr rfl) (fun _ => rfl) ?_
 rintro m y1 N h hN
 unfold impl_AreValidValues_B1 at h
 refine rn 1 rfl (ls_seq_k fun K2 hK2 => ?_)
 rcases cond_some h with ⟨g3, h⟩ | ⟨g3, h⟩
 ·refine qT rfl g3 (ls_skip (hK2 _ (ls_seq_k fun K4 hK4 => ls_blk (rs ?_))))
  obtain ⟨e5, g6, h⟩ := ob_some h
  refine qI rfl zci64 g6 (sp 2 rfl (evn (rs (sp 1 rfl (?_)))))
  obtain ⟨v7, g8, h⟩ := ob_some h
  refine qC (qs rfl (qs rfl (qs rfl eran))) (impl_within_s g8) (sp 1 rfl (evn ?_))
  rcases cond_some h with ⟨g9, h⟩ | ⟨g9, h⟩
  ·exact qT rfl g9 (rn 1 rfl (ls_ret ((by cases h; cases hr1; exact ⟨.inl rfl, rfl⟩))))
  ·exact qF rfl g9 (ls_skip (hK4 _ (rg (sp 2 rfl (evn (hN _ _ h (okr rfl)))))))
 ·exact qF rfl g3 (ls_exit (kXB1 (Option.some.inj h) _ trivial))
def impl_compareInts (a0 : Int) (a1 : Int) : Option (Int) := cond (decide (a0 < a1)) (some (-1)) (cond (decide (a1 < a0)) (some 1) (some 0))
theorem impl_compareInts_s {a0 : Int} {a1 : Int} {r : Int} (h : impl_compareInts a0 a1 = some r) : SoundAt Tryz.prog 194 [nI a0, nI a1] (nI r) := by
 unfold impl_compareInts at h
 refine st lit194 rfl (rn 1 rfl (ls_seq_k fun K1 hK1 => ls_blk (rn 1 rfl ?_)))
 rcases cond_some h with ⟨g2, h⟩ | ⟨g2, h⟩
 ·exact qT rfl g2 (rn 1 rfl (ls_ret ((by cases h; exact ⟨.inl rfl, rfl⟩))))
 ·refine qF rfl g2 (rn 1 rfl ?_)
  rcases cond_some h with ⟨g3, h⟩ | ⟨g3, h⟩
  ·exact qT rfl g3 (rn 1 rfl (ls_ret ((by cases h; exact ⟨.inl rfl, rfl⟩))))
  ·exact qF rfl g3 (ls_skip (hK1 _ (rn 1 rfl (qk [4] rfl (ls_ret ((by cases h; exact ⟨.inl rfl, rfl⟩)))))))
def impl_CompareRows_B1 (a0 : List Int) (a1 : List Int) (rec : Int -> Option (Sum (Unit) (Int))) (y1 : Int) : Option (Sum (Unit) (Int)) := cond (decide (y1 < (List.length a0 : Int))) (cond (decide (y1 < (List.length a1 : Int))) (obind (geti a0 y1) fun e6 => obind (geti a1 y1) fun e8 => cond (e6 != e8) (obind (geti a0 y1) fun e11 => obind (geti a1 y1) fun e13 => obind (impl_compareInts e11 e13) fun v15 => some (.inr v15)) (rec (IntKind.i64.wrap (y1 + 1)))) (some (.inl ()))) (some (.inl ()))
def impl_CompareRows (a0 : List Int) (a1 : List Int) : Option (Int) := obind (loopF (impl_CompareRows_B1 a0 a1) fz 0) fun o1 => (match o1 with
  | .inl _ => (obind (impl_compareInts (List.length a0 : Int) (List.length a1 : Int)) fun v17 => some v17)
  | .inr r => some r)
theorem impl_CompareRows_s {a0 : List Int} {a1 : List Int} {r : Int} (h : impl_CompareRows a0 a1 = some r) : SoundAt Tryz.prog 180 [dL ci64 a0, dL ci64 a1] (nI r) := by
 unfold impl_CompareRows at h
 refine st lit180 rfl (rn 1 rfl (ls_seq_k fun K1 hK1 => rn 1 rfl ?_))
 obtain ⟨o1, hl, hr1⟩ := ob_some h
 have kXB1 : (.inl ()) = o1 -> Jn K1 [(0, dL ci64 a0), (1, dL ci64 a1)] := by
  intro h σ' hk
  subst h
  replace h := hr1
  try dsimp only at h
  refine hK1 _ (lh hk rfl (rs (sp 4 rfl (?_))))
  obtain ⟨v17, g18, h⟩ := ob_some h
  exact qC (qs rfl (qs rfl eran)) (impl_compareInts_s g18) (sp 1 rfl (evn (ls_ret ((by cases h; exact ⟨.inl rfl, rfl⟩)))))
 refine ls_rec (fun (y1 : Int) => [(0, dL ci64 a0), (1, dL ci64 a1), (5, nI y1)]) _ _ _ _ hl (okr rfl) (fun _ => rfl) ?_
 rintro m y1 N h hN
 unfold impl_CompareRows_B1 at h
 refine ls_seq_k fun K2 hK2 => rs (sp 5 rfl (?_))
 rcases cond_some h with ⟨g3, h⟩ | ⟨g3, h⟩
 ·refine qg 10 g3 rfl (sp 5 rfl (evn ?_))
  rcases cond_some h with ⟨g4, h⟩ | ⟨g4, h⟩
  ·refine qT rfl g4 (ls_skip (hK2 _ (ls_seq_k fun K5 hK5 => ls_blk (rd (by kernel_rfl) (sd 2 rfl (?_))))))
   obtain ⟨e6, g7, h⟩ := ob_some h
   refine ed rfl (qI rfl zci64 g7 (sd 3 rfl (?_)))
   obtain ⟨e8, g9, h⟩ := ob_some h
   refine ed rfl (qI rfl zci64 g9 (sd 2 rfl (evdn ?_)))
   rcases cond_some h with ⟨g10, h⟩ | ⟨g10, h⟩
   ·refine qT rfl g10 (rd (by kernel_rfl) (sd 2 rfl (?_)))
    obtain ⟨e11, g12, h⟩ := ob_some h
    refine ed rfl (qI rfl zci64 g12 (sd 3 rfl (?_)))
    obtain ⟨e13, g14, h⟩ := ob_some h
    refine ed rfl (qI rfl zci64 g14 (sd 1 rfl (?_)))
    obtain ⟨v15, g16, h⟩ := ob_some h
    exact ed rfl (qC (qs rfl (qs rfl eran)) (impl_compareInts_s g16) (sd 1 rfl (evdn (qk [4] rfl (ls_ret ((by cases h; cases hr1; exact ⟨.inl rfl, rfl⟩)))))))
   ·exact qF rfl g10 (ls_skip (hK5 _ (rg (sp 3 rfl (evn (hN _ _ h (okr rfl)))))))
  ·exact qF rfl g4 (ls_exit (kXB1 (Option.some.inj h) _ (okr rfl)))
 ·exact qg 10 g3 rfl (sp 5 rfl (evn (qF rfl rfl (ls_exit (kXB1 (Option.some.inj h) _ (okr rfl))))))
def impl_rowsValid_J2 (rec : Int -> Option (Sum (Unit) (Bool))) (y1 : Int) (x13 : Bool) : Option (Sum (Unit) (Bool)) := cond x13 (some (.inr false)) (rec (IntKind.i64.wrap (y1 + 1)))
def impl_rowsValid_B1 (a0 : Int) (a1 : List (List Int)) (rec : Int -> Option (Sum (Unit) (Bool))) (y1 : Int) : Option (Sum (Unit) (Bool)) := cond (decide (y1 < (List.length a1 : Int))) (obind (geti a1 y1) fun e10 => cond ((List.length e10 : Int) != a0) (impl_rowsValid_J2 rec y1 true) (obind (impl_AreValidValues e10) fun v16 => cond (!v16) (impl_rowsValid_J2 rec y1 true) (cond (decide (0 < y1)) (obind (geti a1 (IntKind.i64.wrap (y1 - 1))) fun e20 => obind (impl_CompareRows e20 e10) fun v22 => impl_rowsValid_J2 rec y1 (decide (0 <= v22))) (impl_rowsValid_J2 rec y1 false)))) (some (.inl ()))
def impl_rowsValid (a0 : Int) (a1 : List (List Int)) : Option (Bool) := obind (impl_within a0 0 5) fun v2 => cond (!v2) (some false) (cond (decide (4000 < (List.length a1 : Int))) (some false) (obind (loopF (impl_rowsValid_B1 a0 a1) fz 0) fun o1 => (match o1 with
  | .inl _ => (some true)
  | .inr r => some r)))
theorem impl_rowsValid_s {a0 : Int} {a1 : List (List Int)} {r : Bool} (h : impl_rowsValid a0 a1 = some r) : SoundAt Tryz.prog 148 [nI a0, dL c53_d a1] (.bool r) := by
 unfold impl_rowsValid at h
 refine st lit148 rfl (rn 1 rfl (ls_seq_k fun K1 hK1 => rs (sp 1 rfl (?_))))
 obtain ⟨v2, g3, h⟩ := ob_some h
 refine qC (qs rfl (qs rfl (qs rfl eran))) (impl_within_s g3) (sp 2 rfl (?_))
 rcases cond_some h with ⟨g4, h⟩ | ⟨g4, h⟩
 ·exact qg 10 g4 rfl (sp 4 rfl (evn (qT rfl rfl (rn 1 rfl (ls_ret ((by cases h; exact ⟨.inl rfl, rfl⟩)))))))
 ·refine qg 10 g4 rfl (sp 4 rfl (evn ?_))
  rcases cond_some h with ⟨g5, h⟩ | ⟨g5, h⟩
  ·exact qT rfl g5 (rn 1 rfl (ls_ret ((by cases h; exact ⟨.inl rfl, rfl⟩))))
  ·refine qF rfl g5 (ls_skip (hK1 _ (ls_seq_k fun K6 hK6 => rn 1 rfl (qk [0, 1, 15, 16, 17] rfl ?_))))
   obtain ⟨o1, hl, hr1⟩ := ob_some h
   have kXB1 : (.inl ()) = o1 -> Jn K6 [] := by
    intro h σ' hk
    subst h
    replace h := hr1
    try dsimp only at h
    exact hK6 _ (lh hk rfl (rn 1 rfl (ls_ret ((by cases h; exact ⟨.inl rfl, rfl⟩)))))
   refine ls_rec (fun (y1 : Int) => [(0, nI a0), (1, dL c53_d a1), (15, dL c53_d a1), (16, nI (List.length a1 : Int)), (17, nI y1)]) _ _ _ _ hl (okr rfl) (fun _ => rfl) ?_
   rintro m y1 N h hN
   unfold impl_rowsValid_B1 at h
   refine rn 1 rfl (ls_seq_k fun K7 hK7 => ?_)
   rcases cond_some h with ⟨g8, h⟩ | ⟨g8, h⟩
   ·refine qT rfl g8 (ls_skip (hK7 _ (ls_seq_k fun K9 hK9 => ls_blk (rs (sp 1 rfl (?_))))))
    obtain ⟨e10, g11, h⟩ := ob_some h
    refine qI rfl zc53_d g11 (sp 3 rfl (evn (rk fun K12 hK12 => ?_)))
    have kJ2 : ∀ {x13 : Bool}, impl_rowsValid_J2 (loopF (impl_rowsValid_B1 a0 a1) m) y1 x13 = some o1 -> Jn K12 [(0, nI a0), (1, dL c53_d a1), (15, dL c53_d a1), (16, nI (List.length a1 : Int)), (17, nI y1), (44, .bool x13)] := by
     intro x13 h σ' hk
     unfold impl_rowsValid_J2 at h
     refine hK12 _ (lh hk rfl ?_)
     rcases cond_some h with ⟨g14, h⟩ | ⟨g14, h⟩
     ·exact qT rfl g14 (rn 1 rfl (ls_ret ((by cases h; cases hr1; exact ⟨.inl rfl, rfl⟩))))
     ·exact qF rfl g14 (ls_skip (hK9 _ (rg (sp 2 rfl (evn (hN _ _ h (okr rfl)))))))
    refine sp 5 rfl (?_)
    rcases cond_some h with ⟨g15, h⟩ | ⟨g15, h⟩
    ·exact qg 26 g15 rfl (sp 18 rfl (evn (kJ2 h _ (okr rfl))))
    ·refine qg 26 g15 rfl (sp 1 rfl (?_))
     obtain ⟨v16, g17, h⟩ := ob_some h
     refine oGR rfl rfl (qC (qa rfl (erD eci64 _) eran) (impl_AreValidValues_s g17) (sp 3 rfl (?_)))
     rcases cond_some h with ⟨g18, h⟩ | ⟨g18, h⟩
     ·exact qg 31 g18 rfl (sp 13 rfl (evn (kJ2 h _ (okr rfl))))
     ·refine qg 31 g18 rfl (sp 3 rfl (?_))
      rcases cond_some h with ⟨g19, h⟩ | ⟨g19, h⟩
      ·refine qg 34 g19 rfl (sp 3 rfl (?_))
       obtain ⟨e20, g21, h⟩ := ob_some h
       refine oGR rfl rfl (qI rfl zc53_d g21 (sp 2 rfl (?_)))
       obtain ⟨v22, g23, h⟩ := ob_some h
       exact oGR rfl rfl (qC (qa rfl (erD eci64 _) (qa rfl (erD eci64 _) eran)) (impl_CompareRows_s g23) (sp 3 rfl (evn (kJ2 h _ (okr rfl)))))
      ·exact qg 34 g19 rfl (sp 10 rfl (evn (kJ2 h _ (okr rfl))))
   ·exact qF rfl g8 (ls_exit (kXB1 (Option.some.inj h) _ trivial))
def impl_IsValidRelation (a0 : Y42) : Option (Bool) := obind (impl_rowsValid a0.1 a0.2) fun v1 => some v1
theorem impl_IsValidRelation_s {a0 : Y42} {r : Bool} (h : impl_IsValidRelation a0 = some r) : SoundAt Tryz.prog 96 [.agg (c43_dd a0)] (.bool r) := by
 unfold impl_IsValidRelation at h
 refine st lit96 rfl (rn 1 rfl (rs (sp 4 rfl (?_))))
 obtain ⟨v1, g2, h⟩ := ob_some h
 exact qC (qs rfl (qa rfl (erD ec53_d _) eran)) (impl_rowsValid_s g2) (sp 1 rfl (evn (ls_ret ((by cases h; exact ⟨.inl rfl, rfl⟩)))))
def impl_IsValidDatabase_J2 (rec : Int -> Option (Sum (Unit) (Bool))) (y1 : Int) (x10 : Bool) : Option (Sum (Unit) (Bool)) := cond x10 (some (.inr false)) (rec (IntKind.i64.wrap (y1 + 1)))
def impl_IsValidDatabase_B1 (a0 : List Y119) (rec : Int -> Option (Sum (Unit) (Bool))) (y1 : Int) : Option (Sum (Unit) (Bool)) := cond (decide (y1 < (List.length a0 : Int))) (obind (geti a0 y1) fun e7 => obind (impl_IsValidName e7.1) fun v12 => cond (!v12) (impl_IsValidDatabase_J2 rec y1 true) (cond (decide (0 < y1)) (obind (geti a0 (IntKind.i64.wrap (y1 - 1))) fun e16 => cond (!Op.bytesLess e16.1 e7.1) (impl_IsValidDatabase_J2 rec y1 true) (obind (impl_IsValidRelation e7.2) fun v19 => cond (!v19) (impl_IsValidDatabase_J2 rec y1 true) (cond (decide (e7.2.1 < 1)) (impl_IsValidDatabase_J2 rec y1 true) (impl_IsValidDatabase_J2 rec y1 (decide (16 < (List.length e7.2.2 : Int))))))) (obind (impl_IsValidRelation e7.2) fun v23 => cond (!v23) (impl_IsValidDatabase_J2 rec y1 true) (cond (decide (e7.2.1 < 1)) (impl_IsValidDatabase_J2 rec y1 true) (impl_IsValidDatabase_J2 rec y1 (decide (16 < (List.length e7.2.2 : Int)))))))) (some (.inl ()))
def impl_IsValidDatabase (a0 : List Y119) : Option (Bool) := cond (decide (6 < (List.length a0 : Int))) (some false) (obind (loopF (impl_IsValidDatabase_B1 a0) fz 0) fun o1 => (match o1 with
  | .inl _ => (some true)
  | .inr r => some r))
theorem impl_IsValidDatabase_s {a0 : List Y119} {r : Bool} (h : impl_IsValidDatabase a0 = some r) : SoundAt Tryz.prog 41 [.agg [dL c120_dd a0]] (.bool r) := by
 unfold impl_IsValidDatabase at h
 refine st lit41 rfl (rn 1 rfl (ls_seq_k fun K1 hK1 => rn 1 rfl ?_))
 rcases cond_some h with ⟨g2, h⟩ | ⟨g2, h⟩
 ·exact qT rfl g2 (rn 1 rfl (ls_ret ((by cases h; exact ⟨.inl rfl, rfl⟩))))
 ·refine qF rfl g2 (ls_skip (hK1 _ (ls_seq_k fun K3 hK3 => rn 1 rfl ?_)))
  obtain ⟨o1, hl, hr1⟩ := ob_some h
  have kXB1 : (.inl ()) = o1 -> Jn K3 [] := by
   intro h σ' hk
   subst h
   replace h := hr1
   try dsimp only at h
   exact hK3 _ (lh hk rfl (rn 1 rfl (ls_ret ((by cases h; exact ⟨.inl rfl, rfl⟩)))))
  refine ls_rec (fun (y1 : Int) => [(1, .box [dL c120_dd a0]), (10, dL c120_dd a0), (11, nI (List.length a0 : Int)), (12, nI y1)]) _ _ _ _ hl (okr rfl) (fun _ => rfl) ?_
  rintro m y1 N h hN
  unfold impl_IsValidDatabase_B1 at h
  refine rn 1 rfl (ls_seq_k fun K4 hK4 => ?_)
  rcases cond_some h with ⟨g5, h⟩ | ⟨g5, h⟩
  ·refine qT rfl g5 (ls_skip (hK4 _ (ls_seq_k fun K6 hK6 => ls_blk (rs (sp 1 rfl (?_))))))
   obtain ⟨e7, g8, h⟩ := ob_some h
   refine qI rfl zc120_dd g8 (sp 4 rfl (evn (rdk (by kernel_rfl) fun K9 hK9 => ?_)))
   have kJ2 : ∀ {x10 : Bool}, impl_IsValidDatabase_J2 (loopF (impl_IsValidDatabase_B1 a0) m) y1 x10 = some o1 -> Jn K9 [(1, .box [dL c120_dd a0]), (10, dL c120_dd a0), (11, nI (List.length a0 : Int)), (12, nI y1), (55, .bool x10)] := by
    intro x10 h σ' hk
    unfold impl_IsValidDatabase_J2 at h
    refine hK9 _ (lh hk rfl ?_)
    rcases cond_some h with ⟨g11, h⟩ | ⟨g11, h⟩
    ·exact qT rfl g11 (rn 1 rfl (ls_ret ((by cases h; cases hr1; exact ⟨.inl rfl, rfl⟩))))
    ·exact qF rfl g11 (ls_skip (hK6 _ (rg (sp 2 rfl (evn (hN _ _ h (okr rfl)))))))
   refine sd 2 rfl (?_)
   obtain ⟨v12, g13, h⟩ := ob_some h
   refine ed rfl (qC (qs rfl eran) (impl_IsValidName_s g13) (sd 2 rfl (?_)))
   rcases cond_some h with ⟨g14, h⟩ | ⟨g14, h⟩
   ·exact qgd 21 g14 rfl (sd 34 rfl (evdn (kJ2 h _ (okr rfl))))
   ·refine qgd 21 g14 rfl (sd 3 rfl (?_))
    rcases cond_some h with ⟨g15, h⟩ | ⟨g15, h⟩
    ·refine qgd 24 g15 rfl (sd 4 rfl (?_))
     obtain ⟨e16, g17, h⟩ := ob_some h
     refine ed rfl (oGR rfl rfl (qI rfl zc120_dd g17 (sd 8 rfl (?_))))
     rcases cond_some h with ⟨g18, h⟩ | ⟨g18, h⟩
     ·exact qgd 37 g18 rfl (sd 18 rfl (evdn (kJ2 h _ (okr rfl))))
     ·refine qgd 37 g18 rfl (sd 2 rfl (?_))
      obtain ⟨v19, g20, h⟩ := ob_some h
      refine ed rfl (oGR rfl rfl (qC (qa rfl (erg (erc rfl (erc (erD ec53_d _) rfl))) eran) (impl_IsValidRelation_s g20) (sd 3 rfl (?_))))
      rcases cond_some h with ⟨g21, h⟩ | ⟨g21, h⟩
      ·exact qgd 43 g21 rfl (sd 12 rfl (evdn (kJ2 h _ (okr rfl))))
      ·refine qgd 43 g21 rfl (sd 6 rfl (?_))
       rcases cond_some h with ⟨g22, h⟩ | ⟨g22, h⟩
       ·exact qgd 49 g22 rfl (sd 6 rfl (evdn (kJ2 h _ (okr rfl))))
       ·exact qgd 49 g22 rfl (sd 6 rfl (evdn (kJ2 h _ (okr rfl))))
    ·refine qgd 24 g15 rfl (sd 15 rfl (?_))
     obtain ⟨v23, g24, h⟩ := ob_some h
     refine ed rfl (oGR rfl rfl (qC (qa rfl (erg (erc rfl (erc (erD ec53_d _) rfl))) eran) (impl_IsValidRelation_s g24) (sd 3 rfl (?_))))
     rcases cond_some h with ⟨g25, h⟩ | ⟨g25, h⟩
     ·exact qgd 43 g25 rfl (sd 12 rfl (evdn (kJ2 h _ (okr rfl))))
     ·refine qgd 43 g25 rfl (sd 6 rfl (?_))
      rcases cond_some h with ⟨g26, h⟩ | ⟨g26, h⟩
      ·exact qgd 49 g26 rfl (sd 6 rfl (evdn (kJ2 h _ (okr rfl))))
      ·exact qgd 49 g26 rfl (sd 6 rfl (evdn (kJ2 h _ (okr rfl))))
  ·exact qF rfl g5 (ls_exit (kXB1 (Option.some.inj h) _ trivial))
def impl_sameInts_B1 (a0 : List Int) (a1 : List Int) (rec : Int -> Option (Sum (Unit) (Bool))) (y1 : Int) : Option (Sum (Unit) (Bool)) := cond (decide (y1 < (List.length a0 : Int))) (obind (geti a0 y1) fun e7 => obind (geti a1 y1) fun e9 => cond (e7 != e9) (some (.inr false)) (rec (IntKind.i64.wrap (y1 + 1)))) (some (.inl ()))
def impl_sameInts (a0 : List Int) (a1 : List Int) : Option (Bool) := cond ((List.length a0 : Int) != (List.length a1 : Int)) (some false) (obind (loopF (impl_sameInts_B1 a0 a1) fz 0) fun o1 => (match o1 with
  | .inl _ => (some true)
  | .inr r => some r))
theorem impl_sameInts_s {a0 : List Int} {a1 : List Int} {r : Bool} (h : impl_sameInts a0 a1 = some r) : SoundAt Tryz.prog 98 [dL ci64 a0, dL ci64 a1] (.bool r) := by
 unfold impl_sameInts at h
 refine st lit98 rfl (rn 1 rfl (ls_seq_k fun K1 hK1 => rn 1 rfl ?_))
 rcases cond_some h with ⟨g2, h⟩ | ⟨g2, h⟩
 ·exact qT rfl g2 (rn 1 rfl (ls_ret ((by cases h; exact ⟨.inl rfl, rfl⟩))))
 ·refine qF rfl g2 (ls_skip (hK1 _ (ls_seq_k fun K3 hK3 => rn 1 rfl ?_)))
  obtain ⟨o1, hl, hr1⟩ := ob_some h
  have kXB1 : (.inl ()) = o1 -> Jn K3 [] := by
   intro h σ' hk
   subst h
   replace h := hr1
   try dsimp only at h
   exact hK3 _ (lh hk rfl (rn 1 rfl (ls_ret ((by cases h; exact ⟨.inl rfl, rfl⟩)))))
  refine ls_rec (fun (y1 : Int) => [(0, dL ci64 a0), (1, dL ci64 a1), (12, nI (List.length a0 : Int)), (13, nI y1)]) _ _ _ _ hl (okr rfl) (fun _ => rfl) ?_
  rintro m y1 N h hN
  unfold impl_sameInts_B1 at h
  refine rn 1 rfl (ls_seq_k fun K4 hK4 => ?_)
  rcases cond_some h with ⟨g5, h⟩ | ⟨g5, h⟩
  ·refine qT rfl g5 (ls_skip (hK4 _ (ls_seq_k fun K6 hK6 => ls_blk (rn 1 rfl (rd (by kernel_rfl) (sd 2 rfl (?_)))))))
   obtain ⟨e7, g8, h⟩ := ob_some h
   refine ed rfl (qI rfl zci64 g8 (sd 3 rfl (?_)))
   obtain ⟨e9, g10, h⟩ := ob_some h
   refine ed rfl (qI rfl zci64 g10 (sd 2 rfl (evdn ?_)))
   rcases cond_some h with ⟨g11, h⟩ | ⟨g11, h⟩
   ·exact qT rfl g11 (rn 1 rfl (ls_ret ((by cases h; cases hr1; exact ⟨.inl rfl, rfl⟩))))
   ·exact qF rfl g11 (ls_skip (hK6 _ (rg (sp 2 rfl (evn (hN _ _ h (okr rfl)))))))
  ·exact qF rfl g5 (ls_exit (kXB1 (Option.some.inj h) _ trivial))
def impl_sameRows_B1 (a0 : List (List Int)) (a1 : List (List Int)) (rec : Int -> Option (Sum (Unit) (Bool))) (y1 : Int) : Option (Sum (Unit) (Bool)) := cond (decide (y1 < (List.length a0 : Int))) (obind (geti a0 y1) fun e7 => obind (geti a1 y1) fun e9 => obind (impl_sameInts e7 e9) fun v11 => cond (!v11) (some (.inr false)) (rec (IntKind.i64.wrap (y1 + 1)))) (some (.inl ()))
def impl_sameRows (a0 : List (List Int)) (a1 : List (List Int)) : Option (Bool) := cond ((List.length a0 : Int) != (List.length a1 : Int)) (some false) (obind (loopF (impl_sameRows_B1 a0 a1) fz 0) fun o1 => (match o1 with
  | .inl _ => (some true)
  | .inr r => some r))
theorem impl_sameRows_s {a0 : List (List Int)} {a1 : List (List Int)} {r : Bool} (h : impl_sameRows a0 a1 = some r) : SoundAt Tryz.prog 97 [dL c53_d a0, dL c53_d a1] (.bool r) := by
 unfold impl_sameRows at h
 refine st lit97 rfl (rn 1 rfl (ls_seq_k fun K1 hK1 => rn 1 rfl ?_))
 rcases cond_some h with ⟨g2, h⟩ | ⟨g2, h⟩
 ·exact qT rfl g2 (rn 1 rfl (ls_ret ((by cases h; exact ⟨.inl rfl, rfl⟩))))
 ·refine qF rfl g2 (ls_skip (hK1 _ (ls_seq_k fun K3 hK3 => rn 1 rfl ?_)))
  obtain ⟨o1, hl, hr1⟩ := ob_some h
  have kXB1 : (.inl ()) = o1 -> Jn K3 [] := by
   intro h σ' hk
   subst h
   replace h := hr1
   try dsimp only at h
   exact hK3 _ (lh hk rfl (rn 1 rfl (ls_ret ((by cases h; exact ⟨.inl rfl, rfl⟩)))))
  refine ls_rec (fun (y1 : Int) => [(0, dL c53_d a0), (1, dL c53_d a1), (12, nI (List.length a0 : Int)), (13, nI y1)]) _ _ _ _ hl (okr rfl) (fun _ => rfl) ?_
  rintro m y1 N h hN
  unfold impl_sameRows_B1 at h
  refine rn 1 rfl (ls_seq_k fun K4 hK4 => ?_)
  rcases cond_some h with ⟨g5, h⟩ | ⟨g5, h⟩
  ·refine qT rfl g5 (ls_skip (hK4 _ (ls_seq_k fun K6 hK6 => ls_blk (rn 1 rfl (rd (by kernel_rfl) (sd 2 rfl (?_)))))))
   obtain ⟨e7, g8, h⟩ := ob_some h
   refine ed rfl (qI rfl zc53_d g8 (sd 3 rfl (?_)))
   obtain ⟨e9, g10, h⟩ := ob_some h
   refine ed rfl (qI rfl zc53_d g10 (sd 1 rfl (?_)))
   obtain ⟨v11, g12, h⟩ := ob_some h
   refine ed rfl (qC (qa rfl (erD eci64 _) (qa rfl (erD eci64 _) eran)) (impl_sameInts_s g12) (sd 1 rfl (evdn ?_)))
   rcases cond_some h with ⟨g13, h⟩ | ⟨g13, h⟩
   ·exact qT rfl g13 (rn 1 rfl (ls_ret ((by cases h; cases hr1; exact ⟨.inl rfl, rfl⟩))))
   ·exact qF rfl g13 (ls_skip (hK6 _ (rg (sp 2 rfl (evn (hN _ _ h (okr rfl)))))))
  ·exact qF rfl g5 (ls_exit (kXB1 (Option.some.inj h) _ trivial))
def impl_EqualCounted_J1 (x2 : Bool) : Option (Bool) := some x2
def impl_EqualCounted (a0 : Y75) (a1 : Y75) : Option (Bool) := cond (a0.1 == a1.1) (obind (impl_sameRows a0.2.1 a1.2.1) fun v4 => cond v4 (obind (impl_sameInts a0.2.2 a1.2.2) fun v7 => impl_EqualCounted_J1 v7) (impl_EqualCounted_J1 false)) (impl_EqualCounted_J1 false)
theorem impl_EqualCounted_s {a0 : Y75} {a1 : Y75} {r : Bool} (h : impl_EqualCounted a0 a1 = some r) : SoundAt Tryz.prog 43 [.agg (c76_ddd a0), .agg (c76_ddd a1)] (.bool r) := by
 unfold impl_EqualCounted at h
 refine st lit43 rfl (rn 1 rfl (rk fun K1 hK1 => ?_))
 have kJ1 : ∀ {x2 : Bool}, impl_EqualCounted_J1 x2 = some r -> Jn K1 [(4, .bool x2)] := by
  intro x2 h σ' hk
  unfold impl_EqualCounted_J1 at h
  exact hK1 _ (lh hk rfl (ls_ret ((by cases h; exact ⟨.inl rfl, rfl⟩))))
 refine sp 6 rfl (?_)
 rcases cond_some h with ⟨g3, h⟩ | ⟨g3, h⟩
 ·refine qg 10 g3 rfl (sp 4 rfl (?_))
  obtain ⟨v4, g5, h⟩ := ob_some h
  refine oGR rfl rfl (qC (qa rfl (erD ec53_d _) (qa rfl (erD ec53_d _) eran)) (impl_sameRows_s g5) (sp 2 rfl (?_)))
  rcases cond_some h with ⟨g6, h⟩ | ⟨g6, h⟩
  ·refine qg 17 g6 rfl (sp 4 rfl (?_))
   obtain ⟨v7, g8, h⟩ := ob_some h
   exact oGR rfl rfl (qC (qa rfl (erD eci64 _) (qa rfl (erD eci64 _) eran)) (impl_sameInts_s g8) (sp 2 rfl (evn (kJ1 h _ (okr rfl)))))
  ·exact qg 17 g6 rfl (sp 7 rfl (evn (kJ1 h _ (okr rfl))))
 ·exact qg 10 g3 rfl (sp 14 rfl (evn (kJ1 h _ (okr rfl))))
def impl_indexOf_B1 (a0 : List Int) (a1 : Int) (rec : Int -> Option (Sum (Unit) (Int))) (y1 : Int) : Option (Sum (Unit) (Int)) := cond (decide (y1 < (List.length a0 : Int))) (obind (geti a0 y1) fun e5 => cond (e5 == a1) (some (.inr y1)) (rec (IntKind.i64.wrap (y1 + 1)))) (some (.inl ()))
def impl_indexOf (a0 : List Int) (a1 : Int) : Option (Int) := obind (loopF (impl_indexOf_B1 a0 a1) fz 0) fun o1 => (match o1 with
  | .inl _ => (some (-1))
  | .inr r => some r)
theorem impl_indexOf_s {a0 : List Int} {a1 : Int} {r : Int} (h : impl_indexOf a0 a1 = some r) : SoundAt Tryz.prog 192 [dL ci64 a0, nI a1] (nI r) := by
 unfold impl_indexOf at h
 refine st lit192 rfl (rn 1 rfl (ls_seq_k fun K1 hK1 => rn 1 rfl ?_))
 obtain ⟨o1, hl, hr1⟩ := ob_some h
 have kXB1 : (.inl ()) = o1 -> Jn K1 [] := by
  intro h σ' hk
  subst h
  replace h := hr1
  try dsimp only at h
  exact hK1 _ (lh hk rfl (rn 1 rfl (ls_ret ((by cases h; exact ⟨.inl rfl, rfl⟩)))))
 refine ls_rec (fun (y1 : Int) => [(1, nI a1), (7, dL ci64 a0), (8, nI (List.length a0 : Int)), (9, nI y1)]) _ _ _ _ hl (okr rfl) (fun _ => rfl) ?_
 rintro m y1 N h hN
 unfold impl_indexOf_B1 at h
 refine rn 1 rfl (ls_seq_k fun K2 hK2 => ?_)
 rcases cond_some h with ⟨g3, h⟩ | ⟨g3, h⟩
 ·refine qT rfl g3 (ls_skip (hK2 _ (ls_seq_k fun K4 hK4 => ls_blk (rs (sp 1 rfl (?_))))))
  obtain ⟨e5, g6, h⟩ := ob_some h
  refine qI rfl zci64 g6 (sp 3 rfl (evn (rn 1 rfl ?_)))
  rcases cond_some h with ⟨g7, h⟩ | ⟨g7, h⟩
  ·exact qT rfl g7 (rn 1 rfl (ls_ret ((by cases h; cases hr1; exact ⟨.inl rfl, rfl⟩))))
  ·exact qF rfl g7 (ls_skip (hK4 _ (rg (sp 2 rfl (evn (hN _ _ h (okr rfl)))))))
 ·exact qF rfl g3 (ls_exit (kXB1 (Option.some.inj h) _ trivial))
def impl_hasInt (a0 : List Int) (a1 : Int) : Option (Bool) := obind (impl_indexOf a0 a1) fun v1 => some (decide (0 <= v1))
theorem impl_hasInt_s {a0 : List Int} {a1 : Int} {r : Bool} (h : impl_hasInt a0 a1 = some r) : SoundAt Tryz.prog 198 [dL ci64 a0, nI a1] (.bool r) := by
 unfold impl_hasInt at h
 refine st lit198 rfl (rn 1 rfl (rs (sp 2 rfl (?_))))
 obtain ⟨v1, g2, h⟩ := ob_some h
 exact qC (qa rfl (erD eci64 _) (qs rfl eran)) (impl_indexOf_s g2) (sp 2 rfl (evn (ls_ret ((by cases h; exact ⟨.inl rfl, rfl⟩)))))
def impl_isSetOf_B1 (a0 : List Int) (a1 : Int) (rec : Int -> Option (Sum (Unit) (Bool))) (y1 : Int) : Option (Sum (Unit) (Bool)) := cond (decide (y1 < (List.length a0 : Int))) (obind (geti a0 y1) fun e5 => obind (impl_within e5 0 (IntKind.i64.wrap (a1 - 1))) fun v7 => cond (!v7) (some (.inr false)) (chk ((0 : Int) <= 0 ∧ 0 <= y1 ∧ y1 <= (List.length a0 : Int)) (obind (impl_hasInt (subl a0 0 y1) e5) fun v11 => cond v11 (some (.inr false)) (rec (IntKind.i64.wrap (y1 + 1)))))) (some (.inl ()))
def impl_isSetOf (a0 : List Int) (a1 : Int) : Option (Bool) := obind (loopF (impl_isSetOf_B1 a0 a1) fz 0) fun o1 => (match o1 with
  | .inl _ => (some true)
  | .inr r => some r)
theorem impl_isSetOf_s {a0 : List Int} {a1 : Int} {r : Bool} (h : impl_isSetOf a0 a1 = some r) : SoundAt Tryz.prog 196 [dL ci64 a0, nI a1] (.bool r) := by
 unfold impl_isSetOf at h
 refine st lit196 rfl (rn 1 rfl (ls_seq_k fun K1 hK1 => rn 1 rfl ?_))
 obtain ⟨o1, hl, hr1⟩ := ob_some h
 have kXB1 : (.inl ()) = o1 -> Jn K1 [] := by
  intro h σ' hk
  subst h
  replace h := hr1
  try dsimp only at h
  exact hK1 _ (lh hk rfl (rn 1 rfl (ls_ret ((by cases h; exact ⟨.inl rfl, rfl⟩)))))
 refine ls_rec (fun (y1 : Int) => [(0, dL ci64 a0), (1, nI a1), (7, dL ci64 a0), (8, nI (List.length a0 : Int)), (9, nI y1)]) _ _ _ _ hl (okr rfl) (fun _ => rfl) ?_
 rintro m y1 N h hN
 unfold impl_isSetOf_B1 at h
 refine rn 1 rfl (ls_seq_k fun K2 hK2 => ?_)
 rcases cond_some h with ⟨g3, h⟩ | ⟨g3, h⟩
 ·refine qT rfl g3 (ls_skip (hK2 _ (ls_seq_k fun K4 hK4 => ls_blk (rs (sp 1 rfl (?_))))))
  obtain ⟨e5, g6, h⟩ := ob_some h
  refine qI rfl zci64 g6 (sp 3 rfl (evn (rs (sp 3 rfl (?_)))))
  obtain ⟨v7, g8, h⟩ := ob_some h
  refine qC (qs rfl (qs rfl (qs rfl eran))) (impl_within_s g8) (sp 2 rfl (?_))
  rcases cond_some h with ⟨g9, h⟩ | ⟨g9, h⟩
  ·exact qg 19 g9 rfl (sp 6 rfl (evn (qT rfl rfl (rn 1 rfl (ls_ret ((by cases h; cases hr1; exact ⟨.inl rfl, rfl⟩)))))))
  ·refine qg 19 g9 rfl (sp 2 rfl (?_))
   obtain ⟨g10, h⟩ := chk_some h
   refine oGR rfl rfl (qSl rfl zci64 g10 (sp 1 rfl (?_)))
   obtain ⟨v11, g12, h⟩ := ob_some h
   refine oGR rfl rfl (qC (qa rfl (erD eci64 _) (qs rfl eran)) (impl_hasInt_s g12) (sp 1 rfl (evn (qk [0, 1, 7, 8, 9, 25] rfl ?_))))
   rcases cond_some h with ⟨g13, h⟩ | ⟨g13, h⟩
   ·exact qT rfl g13 (rn 1 rfl (ls_ret ((by cases h; cases hr1; exact ⟨.inl rfl, rfl⟩))))
   ·exact qF rfl g13 (ls_skip (hK4 _ (rg (sp 2 rfl (evn (hN _ _ h (okr rfl)))))))
 ·exact qF rfl g3 (ls_exit (kXB1 (Option.some.inj h) _ trivial))
def impl_IsValidQuery_B2 (a0 : Y54) (e17 : Y147) (rec : ((List Bool) × Int) -> Option (Sum ((List Bool)) (Bool))) (s : (List Bool) × Int) : Option (Sum ((List Bool)) (Bool)) := match s with
  | (y7, y8) => cond (decide (y8 < (List.length e17.2 : Int))) (obind (geti e17.2 y8) fun e30 => obind (impl_within e30 0 (IntKind.i64.wrap (a0.1 - 1))) fun v33 => cond (!v33) (some (.inr false)) (obind (geti y7 e30) fun e36 => rec ((seti y7 e30 true), (IntKind.i64.wrap (y8 + 1))))) (some (.inl y7))
def impl_IsValidQuery_B1 (a0 : Y54) (rec : ((List Bool) × Int) -> Option (Sum ((List Bool)) (Bool))) (s : (List Bool) × Int) : Option (Sum ((List Bool)) (Bool)) := match s with
  | (y3, y4) => cond (decide (y4 < (List.length a0.2.1 : Int))) (obind (geti a0.2.1 y4) fun e17 => obind (impl_IsValidName e17.1) fun v20 => cond (!v20) (some (.inr false)) (obind (impl_within (List.length e17.2 : Int) 1 5) fun v23 => cond (!v23) (some (.inr false)) (obind (loopF (impl_IsValidQuery_B2 a0 e17) fz (y3, 0)) fun o2 => (match o2 with
  | .inl z26 => (rec (z26, (IntKind.i64.wrap (y4 + 1))))
  | .inr r => some (.inr r))))) (some (.inl y3))
def impl_IsValidQuery_B3 (z13 : List Bool) (rec : Int -> Option (Sum (Unit) (Bool))) (y9 : Int) : Option (Sum (Unit) (Bool)) := cond (decide (y9 < (List.length z13 : Int))) (obind (geti z13 y9) fun e42 => cond (!e42) (some (.inr false)) (rec (IntKind.i64.wrap (y9 + 1)))) (some (.inl ()))
def impl_IsValidQuery (a0 : Y54) : Option (Bool) := obind (impl_within a0.1 1 5) fun v2 => cond (!v2) (some false) (obind (impl_within (List.length a0.2.1 : Int) 1 4) fun v5 => cond (!v5) (some false) (obind (impl_isSetOf a0.2.2 a0.1) fun v8 => cond (!v8) (some false) (chk ((0 : Int) <= a0.1 ∧ Int.toNat a0.1 <= lim) (obind (loopF (impl_IsValidQuery_B1 a0) fz ((List.replicate (Int.toNat a0.1) (false : Bool)), 0)) fun o1 => (match o1 with
  | .inl z13 => (obind (loopF (impl_IsValidQuery_B3 z13) fz 0) fun o3 => (match o3 with
  | .inl _ => (some true)
  | .inr r => some r))
  | .inr r => some r)))))
theorem impl_IsValidQuery_s {a0 : Y54} {r : Bool} (h : impl_IsValidQuery a0 = some r) : SoundAt Tryz.prog 188 [.agg (c55_ddd a0)] (.bool r) := by
 unfold impl_IsValidQuery at h
 refine st lit188 rfl (rn 2 rfl (ls_seq_k fun K1 hK1 => rs (sp 1 rfl (?_))))
 obtain ⟨v2, g3, h⟩ := ob_some h
 refine qC (qs rfl (qs rfl (qs rfl eran))) (impl_within_s g3) (sp 2 rfl (?_))
 rcases cond_some h with ⟨g4, h⟩ | ⟨g4, h⟩
 ·exact qg 16 g4 rfl (sp 13 rfl (evn (qT rfl rfl (rn 1 rfl (ls_ret ((by cases h; exact ⟨.inl rfl, rfl⟩)))))))
 ·refine qg 16 g4 rfl (sp 3 rfl (?_))
  obtain ⟨v5, g6, h⟩ := ob_some h
  refine oGR rfl rfl (qC (qs rfl (qs rfl (qs rfl eran))) (impl_within_s g6) (sp 3 rfl (?_)))
  rcases cond_some h with ⟨g7, h⟩ | ⟨g7, h⟩
  ·exact qg 23 g7 rfl (sp 6 rfl (evn (qk [1, 3, 29] rfl (qT rfl rfl (rn 1 rfl (ls_ret ((by cases h; exact ⟨.inl rfl, rfl⟩))))))))
  ·refine qg 23 g7 rfl (sp 3 rfl (?_))
   obtain ⟨v8, g9, h⟩ := ob_some h
   refine oGR rfl rfl (qC (qa rfl (erD eci64 _) (qs rfl eran)) (impl_isSetOf_s g9) (sp 2 rfl (evn ?_)))
   rcases cond_some h with ⟨g10, h⟩ | ⟨g10, h⟩
   ·exact qT rfl g10 (rn 1 rfl (ls_ret ((by cases h; exact ⟨.inl rfl, rfl⟩))))
   ·refine qF rfl g10 (ls_skip (hK1 _ (rs (sp 1 rfl (?_)))))
    obtain ⟨g11, h⟩ := chk_some h
    refine qMu cbl (false : Bool) rfl rfl rfl rfl g11 rfl (qAu rfl rfl rfl rfl (evn (ls_seq_k fun K12 hK12 => rn 1 rfl ?_)))
    obtain ⟨o1, hl, hr1⟩ := ob_some h
    have kXB1 : ∀ {z13 : List Bool}, (.inl z13) = o1 -> Jn K12 [(4, wL 4 cbl z13)] := by
     intro z13 h σ' hk
     subst h
     replace h := hr1
     try dsimp only at h
     refine hK12 _ (lh hk rfl (ls_seq_k fun K38 hK38 => rn 1 rfl ?_))
     obtain ⟨o3, hl, hr3⟩ := ob_some h
     have kXB3 : (.inl ()) = o3 -> Jn K38 [] := by
      intro h σ' hk
      subst h
      replace h := hr3
      try dsimp only at h
      exact hK38 _ (lh hk rfl (rn 1 rfl (ls_ret ((by cases h; exact ⟨.inl rfl, rfl⟩)))))
     refine ls_rec (fun (y9 : Int) => [(4, wL 4 cbl z13), (67, .same 4), (68, nI (List.length z13 : Int)), (69, nI y9)]) _ _ _ _ hl (okr rfl) (fun _ => rfl) ?_
     rintro m y9 N h hN
     unfold impl_IsValidQuery_B3 at h
     refine rn 1 rfl (ls_seq_k fun K39 hK39 => ?_)
     rcases cond_some h with ⟨g40, h⟩ | ⟨g40, h⟩
     ·refine qT rfl g40 (ls_skip (hK39 _ (ls_seq_k fun K41 hK41 => ls_blk (rs ?_))))
      obtain ⟨e42, g43, h⟩ := ob_some h
      refine qIu rfl ⟨(geti_some g43).1, (geti_some g43).2.1⟩ (qLu 0 rfl rfl rfl zcbl g43 rfl rfl rfl (sp 1 rfl (evn (rn 1 rfl ?_))))
      rcases cond_some h with ⟨g44, h⟩ | ⟨g44, h⟩
      ·exact qT rfl g44 (rn 1 rfl (ls_ret ((by cases h; cases hr3; exact ⟨.inl rfl, rfl⟩))))
      ·exact qF rfl g44 (ls_skip (hK41 _ (rg (sp 2 rfl (evn (hN _ _ h (okr rfl)))))))
     ·exact qF rfl g40 (ls_exit (kXB3 (Option.some.inj h) _ trivial))
    refine ls_rec (fun (s : (List Bool) × Int) => match s with | (y3, y4) => [(3, nI a0.1), (4, wL 4 cbl y3), (33, dL c148_d a0.2.1), (34, nI (List.length a0.2.1 : Int)), (35, nI y4)]) _ _ _ _ hl (okr rfl) (fun _ => rfl) ?_
    rintro m ⟨y3, y4⟩ N h hN
    unfold impl_IsValidQuery_B1 at h
    dsimp only at h
    refine rn 1 rfl (ls_seq_k fun K14 hK14 => ?_)
    rcases cond_some h with ⟨g15, h⟩ | ⟨g15, h⟩
    ·refine qT rfl g15 (ls_skip (hK14 _ (ls_seq_k fun K16 hK16 => ls_blk (rs ?_))))
     obtain ⟨e17, g18, h⟩ := ob_some h
     refine qI rfl zc148_d g18 (sp 3 rfl (evn (ls_seq_k fun K19 hK19 => rs (sp 2 rfl (?_)))))
     obtain ⟨v20, g21, h⟩ := ob_some h
     refine qC (qs rfl eran) (impl_IsValidName_s g21) (sp 2 rfl (?_))
     rcases cond_some h with ⟨g22, h⟩ | ⟨g22, h⟩
     ·exact qg 43 g22 rfl (sp 6 rfl (evn (qT rfl rfl (rn 1 rfl (ls_ret ((by cases h; cases hr1; exact ⟨.inl rfl, rfl⟩)))))))
     ·refine qg 43 g22 rfl (sp 3 rfl (?_))
      obtain ⟨v23, g24, h⟩ := ob_some h
      refine oGR rfl rfl (qC (qs rfl (qs rfl (qs rfl eran))) (impl_within_s g24) (sp 2 rfl (evn (qk [3, 4, 6, 33, 34, 35, 49] rfl ?_))))
      rcases cond_some h with ⟨g25, h⟩ | ⟨g25, h⟩
      ·exact qT rfl g25 (rn 1 rfl (ls_ret ((by cases h; cases hr1; exact ⟨.inl rfl, rfl⟩))))
      ·refine qF rfl g25 (ls_skip (hK19 _ (rn 1 rfl ?_)))
       obtain ⟨o2, hl, hr2⟩ := ob_some h
       have kXB2 : ∀ {z26 : List Bool}, (.inl z26) = o2 -> Jn K16 [(3, nI a0.1), (4, wL 4 cbl z26), (33, dL c148_d a0.2.1), (34, nI (List.length a0.2.1 : Int)), (35, nI y4)] := by
        intro z26 h σ' hk
        subst h
        replace h := hr2
        try dsimp only at h
        exact hK16 _ (lh hk rfl (rg (sp 2 rfl (evn (hN _ _ h (okr rfl))))))
       refine ls_rec (fun (s : (List Bool) × Int) => match s with | (y7, y8) => [(3, nI a0.1), (4, wL 4 cbl y7), (33, dL c148_d a0.2.1), (34, nI (List.length a0.2.1 : Int)), (35, nI y4), (51, dL ci64 e17.2), (52, nI (List.length e17.2 : Int)), (53, nI y8)]) _ _ _ _ hl (okr rfl) (fun _ => rfl) ?_
       rintro m ⟨y7, y8⟩ N h hN
       unfold impl_IsValidQuery_B2 at h
       dsimp only at h
       refine rn 1 rfl (ls_seq_k fun K27 hK27 => ?_)
       rcases cond_some h with ⟨g28, h⟩ | ⟨g28, h⟩
       ·refine qT rfl g28 (ls_skip (hK27 _ (ls_seq_k fun K29 hK29 => ls_blk (rs ?_))))
        obtain ⟨e30, g31, h⟩ := ob_some h
        refine qI rfl zci64 g31 (sp 2 rfl (evn (ls_seq_k fun K32 hK32 => rs (sp 3 rfl (?_)))))
        obtain ⟨v33, g34, h⟩ := ob_some h
        refine qC (qs rfl (qs rfl (qs rfl eran))) (impl_within_s g34) (sp 1 rfl (evn ?_))
        rcases cond_some h with ⟨g35, h⟩ | ⟨g35, h⟩
        ·exact qT rfl g35 (rn 1 rfl (ls_ret ((by cases h; cases hr2; cases hr1; exact ⟨.inl rfl, rfl⟩))))
        ·refine qF rfl g35 (ls_skip (hK32 _ (rg (sp 2 rfl (?_)))))
         obtain ⟨e36, g37, h⟩ := ob_some h
         exact qIu rfl ⟨(geti_some g37).1, (geti_some g37).2.1⟩ (qSu true rfl rfl zcbl ⟨(geti_some g37).1, (geti_some g37).2.1⟩ rfl rfl rfl rfl rfl rfl (evn (hK29 _ (rg (sp 2 rfl (evn (hN _ _ h (okr rfl))))))))
       ·exact qF rfl g28 (ls_exit (kXB2 (Option.some.inj h) _ (okr rfl)))
    ·exact qF rfl g15 (ls_exit (kXB1 (Option.some.inj h) _ (okr rfl)))
end Go.Proofs.YtceghmdneadhbaaGreat
