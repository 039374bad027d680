/-
  Functions of the program as typed functions, printed by gen.py, and that the program's functions do what they say. No conditions.
-/
import Derived.Test.YtlknpohjnpnodaaGreatUpAC1
import Derived.Test.YtlknpohjnpnodaaGreatLit2AC1
namespace Go.Proofs.YtlknpohjnpnodaaGreat
open Go.RowKit
set_option linter.unusedVariables false
set_option maxRecDepth 100000
set_option maxHeartbeats 1000000
def impl_copyInts (a0 : List Int) : Option ((List Int)) := chk (List.length ([] : List Int) + List.length a0 ≤ lim) (some (([] : List Int) ++ a0))
theorem impl_copyInts_s {a0 : List Int} {r : (List Int)} (h : impl_copyInts a0 = some r) : SoundAt Tryz.prog 32 [dL ci64 a0] (oL 3 ci64 r) := by
 unfold impl_copyInts at h
 refine st lit32 rfl (rn 1 rfl (rs (qBs ci64 [] rfl rfl rfl zci64 (sp 1 rfl (?_)))))
 obtain ⟨g1, h⟩ := chk_some h
 exact qA ci64 ([] : List Int) a0 rfl rfl (flat_len zci64 a0) (map_dg (fun _ => rfl) _) g1 (sp 1 rfl (evn (ls_ret ((by cases h; exact ⟨.inl rfl, rfl⟩)))))
def impl_copyQuery_B1 (a0 : Y29) (rec : ((List Y108) × Int) → Option ((List Y108))) (s : (List Y108) × Int) : Option ((List Y108)) := match s with
  | (y1, y2) => cond (decide (y2 < (List.length a0.2.1 : Int))) (obind (geti a0.2.1 y2) fun e8 => obind (impl_copyInts e8.2) fun v10 => chk (List.length y1 + List.length [(e8.1, v10)] ≤ lim) (rec ((y1 ++ [(e8.1, v10)]), (IntKind.i64.wrap (y2 + 1))))) (some y1)
def impl_copyQuery (a0 : Y29) : Option (Y29) := obind (impl_copyInts a0.2.2) fun v1 => obind (loopF (impl_copyQuery_B1 a0) fz (([] : List Y108), 0)) fun z4 => some (a0.1, z4, v1)
theorem impl_copyQuery_s {a0 : Y29} {r : Y29} (h : impl_copyQuery a0 = some r) : SoundAt Tryz.prog 33 [.agg (c30_ddd a0)] (.agg (c30_ooo r)) := by
 unfold impl_copyQuery at h
 refine st lit33 rfl (rn 1 rfl (rd (by kernel_rfl) (sd 4 rfl (?_))))
 obtain ⟨v1, g2, h⟩ := ob_some h
 refine ed rfl (qC (qa rfl (erD eci64 _) eran) (impl_copyInts_s g2) (sd 3 rfl (evdn (ls_seq_k fun K3 hK3 => rn 1 rfl ?_))))
 obtain ⟨o1, hl, hr1⟩ := ob_some h
 have kXB1 : ∀ {z4 : List Y108}, z4 = o1 → Jn K3 [(2, .box [nI 0, oL 109 c109_o [], oL 3 ci64 []]), (3, .box [nI a0.1, oL 109 c109_o z4, oL 3 ci64 v1])] := by
  intro z4 h σ' hk
  subst h
  replace h := hr1
  try dsimp only at h
  exact hK3 _ (lh hk rfl (rn 1 rfl (ls_ret ((by cases h; exact ⟨.inl rfl, rfl⟩)))))
 refine ls_rec (fun (s : (List Y108) × Int) => match s with | (y1, y2) => [(2, .box [nI 0, oL 109 c109_o [], oL 3 ci64 []]), (3, .box [nI a0.1, oL 109 c109_o y1, oL 3 ci64 v1]), (13, dL c109_d a0.2.1), (14, nI (List.length a0.2.1 : Int)), (15, nI y2)]) _ _ _ _ hl (okr rfl) (fun _ => rfl) ?_
 rintro m ⟨y1, y2⟩ N h hN
 unfold impl_copyQuery_B1 at h
 dsimp only at h
 refine rn 1 rfl (ls_seq_k fun K5 hK5 => ?_)
 rcases cond_some h with ⟨g6, h⟩ | ⟨g6, h⟩
 ·refine qT rfl g6 (ls_skip (hK5 _ (ls_seq_k fun K7 hK7 => ls_blk (rs ?_))))
  obtain ⟨e8, g9, h⟩ := ob_some h
  refine qI rfl zc109_d g9 (sp 3 rfl (evn (rgd (by kernel_rfl) (sd 6 rfl (?_)))))
  obtain ⟨v10, g11, h⟩ := ob_some h
  refine ed rfl (qC (qa rfl (erD eci64 _) eran) (impl_copyInts_s g11) (sd 1 rfl (ed rfl (qBs c109_o [(e8.1, v10)] rfl rfl rfl zc109_o (?_)))))
  obtain ⟨g12, h⟩ := chk_some h
  exact ed rfl (qA c109_o y1 [(e8.1, v10)] rfl rfl (flat_len zc109_o [(e8.1, v10)]) rfl g12 (sd 2 rfl (evdn (hK7 _ (rg (sp 2 rfl (evn (hN _ _ h (okr rfl)))))))))
 ·exact qF rfl g6 (ls_exit (kXB1 (Option.some.inj h) _ (okr rfl)))
def impl_within_J1 (x2 : Bool) : Option (Bool) := some x2
def impl_within (a0 : Int) (a1 : Int) (a2 : Int) : Option (Bool) := cond (decide (a1 ≤ a0)) (impl_within_J1 (decide (a0 ≤ a2))) (impl_within_J1 false)
theorem impl_within_s {a0 : Int} {a1 : Int} {a2 : Int} {r : Bool} (h : impl_within a0 a1 a2 = some r) : SoundAt Tryz.prog 39 [nI a0, nI a1, nI a2] (.bool r) := by
 unfold impl_within at h
 refine st lit39 rfl (rn 1 rfl (rk fun K1 hK1 => ?_))
 have kJ1 : ∀ {x2 : Bool}, impl_within_J1 x2 = some r → Jn K1 [(6, .bool x2)] := by
  intro x2 h σ' hk
  unfold impl_within_J1 at h
  exact hK1 _ (lh hk rfl (ls_ret ((by cases h; exact ⟨.inl rfl, rfl⟩))))
 refine sp 4 rfl (?_)
 rcases cond_some h with ⟨g3, h⟩ | ⟨g3, h⟩
 ·exact qg 10 g3 rfl (sp 5 rfl (evn (kJ1 h _ (okr rfl))))
 ·exact qg 10 g3 rfl (sp 5 rfl (evn (kJ1 h _ (okr rfl))))
def impl_isLetters_B1 (a0 : List UInt8) (rec : Int → Option (Sum (Unit) (Bool))) (y1 : Int) : Option (Sum (Unit) (Bool)) := cond (decide (y1 < (List.length a0 : Int))) (obind (geti a0 y1) fun b8 => cond (decide ((UInt8.toNat b8 : Int) < 97)) (some (.inr false)) (obind (geti a0 y1) fun b11 => cond (decide (122 < (UInt8.toNat b11 : Int))) (some (.inr false)) (rec (IntKind.i64.wrap (y1 + 1))))) (some (.inl ()))
def impl_isLetters (a0 : List UInt8) (a1 : Int) : Option (Bool) := cond (decide ((List.length a0 : Int) < 1)) (some false) (cond (decide (a1 < (List.length a0 : Int))) (some false) (obind (loopF (impl_isLetters_B1 a0) fz 0) fun o1 => (match o1 with
  | .inl _ => (some true)
  | .inr r => some r)))
theorem impl_isLetters_s {a0 : List UInt8} {a1 : Int} {r : Bool} (h : impl_isLetters a0 a1 = some r) : SoundAt Tryz.prog 114 [.str a0, nI a1] (.bool r) := by
 unfold impl_isLetters at h
 refine st lit114 rfl (rn 1 rfl (ls_seq_k fun K1 hK1 => rs (sp 4 rfl (?_))))
 rcases cond_some h with ⟨g2, h⟩ | ⟨g2, h⟩
 ·exact qg 9 g2 rfl (sp 5 rfl (evn (qT rfl rfl (rn 1 rfl (ls_ret ((by cases h; exact ⟨.inl rfl, rfl⟩)))))))
 ·refine qg 9 g2 rfl (sp 5 rfl (evn ?_))
  rcases cond_some h with ⟨g3, h⟩ | ⟨g3, h⟩
  ·exact qT rfl g3 (rn 1 rfl (ls_ret ((by cases h; exact ⟨.inl rfl, rfl⟩))))
  ·refine qF rfl g3 (ls_skip (hK1 _ (ls_seq_k fun K4 hK4 => rn 1 rfl (qk [0, 5] rfl ?_))))
   obtain ⟨o1, hl, hr1⟩ := ob_some h
   have kXB1 : (.inl ()) = o1 → Jn K4 [] := by
    intro h σ' hk
    subst h
    replace h := hr1
    try dsimp only at h
    exact hK4 _ (lh hk rfl (rn 1 rfl (ls_ret ((by cases h; exact ⟨.inl rfl, rfl⟩)))))
   refine ls_rec (fun (y1 : Int) => [(0, .str a0), (5, nI y1)]) _ _ _ _ hl (okr rfl) (fun _ => rfl) ?_
   rintro m y1 N h hN
   unfold impl_isLetters_B1 at h
   refine ls_seq_k fun K5 hK5 => rn 1 rfl ?_
   rcases cond_some h with ⟨g6, h⟩ | ⟨g6, h⟩
   ·refine qT rfl g6 (ls_skip (hK5 _ (ls_seq_k fun K7 hK7 => ls_blk (rs (sp 2 rfl (?_))))))
    obtain ⟨b8, g9, h⟩ := ob_some h
    refine qX rfl g9 (sp 2 rfl (?_))
    rcases cond_some h with ⟨g10, h⟩ | ⟨g10, h⟩
    ·exact qg 25 g10 rfl (sp 5 rfl (evn (qT rfl rfl (rn 1 rfl (ls_ret ((by cases h; cases hr1; exact ⟨.inl rfl, rfl⟩)))))))
    ·refine qg 25 g10 rfl (sp 2 rfl (?_))
     obtain ⟨b11, g12, h⟩ := ob_some h
     refine oGR rfl rfl (qX rfl g12 (sp 2 rfl (evn ?_)))
     rcases cond_some h with ⟨g13, h⟩ | ⟨g13, h⟩
     ·exact qT rfl g13 (rn 1 rfl (qk [4] rfl (ls_ret ((by cases h; cases hr1; exact ⟨.inl rfl, rfl⟩)))))
     ·exact qF rfl g13 (ls_skip (hK7 _ (rg (sp 3 rfl (evn (hN _ _ h (okr rfl)))))))
   ·exact qF rfl g6 (ls_exit (kXB1 (Option.some.inj h) _ trivial))
def impl_IsValidName (a0 : List UInt8) : Option (Bool) := obind (impl_isLetters a0 4) fun v1 => some v1
theorem impl_IsValidName_s {a0 : List UInt8} {r : Bool} (h : impl_IsValidName a0 = some r) : SoundAt Tryz.prog 74 [.str a0] (.bool r) := by
 unfold impl_IsValidName at h
 refine st lit74 rfl (rn 1 rfl (rs (sp 1 rfl (?_))))
 obtain ⟨v1, g2, h⟩ := ob_some h
 exact qC (qs rfl (qs rfl eran)) (impl_isLetters_s g2) (sp 1 rfl (evn (ls_ret ((by cases h; exact ⟨.inl rfl, rfl⟩)))))
def impl_compareInts (a0 : Int) (a1 : Int) : Option (Int) := cond (decide (a0 < a1)) (some (-1)) (cond (decide (a1 < a0)) (some 1) (some 0))
theorem impl_compareInts_s {a0 : Int} {a1 : Int} {r : Int} (h : impl_compareInts a0 a1 = some r) : SoundAt Tryz.prog 47 [nI a0, nI a1] (nI r) := by
 unfold impl_compareInts at h
 refine st lit47 rfl (rn 1 rfl (ls_seq_k fun K1 hK1 => ls_blk (rn 1 rfl ?_)))
 rcases cond_some h with ⟨g2, h⟩ | ⟨g2, h⟩
 ·exact qT rfl g2 (rn 1 rfl (ls_ret ((by cases h; exact ⟨.inl rfl, rfl⟩))))
 ·refine qF rfl g2 (rn 1 rfl ?_)
  rcases cond_some h with ⟨g3, h⟩ | ⟨g3, h⟩
  ·exact qT rfl g3 (rn 1 rfl (ls_ret ((by cases h; exact ⟨.inl rfl, rfl⟩))))
  ·exact qF rfl g3 (ls_skip (hK1 _ (rn 1 rfl (qk [4] rfl (ls_ret ((by cases h; exact ⟨.inl rfl, rfl⟩)))))))
def impl_CompareRows_B1 (a0 : List Int) (a1 : List Int) (rec : Int → Option (Sum (Unit) (Int))) (y1 : Int) : Option (Sum (Unit) (Int)) := cond (decide (y1 < (List.length a0 : Int))) (cond (decide (y1 < (List.length a1 : Int))) (obind (geti a0 y1) fun e6 => obind (geti a1 y1) fun e8 => cond (e6 != e8) (obind (geti a0 y1) fun e11 => obind (geti a1 y1) fun e13 => obind (impl_compareInts e11 e13) fun v15 => some (.inr v15)) (rec (IntKind.i64.wrap (y1 + 1)))) (some (.inl ()))) (some (.inl ()))
def impl_CompareRows (a0 : List Int) (a1 : List Int) : Option (Int) := obind (loopF (impl_CompareRows_B1 a0 a1) fz 0) fun o1 => (match o1 with
  | .inl _ => (obind (impl_compareInts (List.length a0 : Int) (List.length a1 : Int)) fun v17 => some v17)
  | .inr r => some r)
theorem impl_CompareRows_s {a0 : List Int} {a1 : List Int} {r : Int} (h : impl_CompareRows a0 a1 = some r) : SoundAt Tryz.prog 16 [dL ci64 a0, dL ci64 a1] (nI r) := by
 unfold impl_CompareRows at h
 refine st lit16 rfl (rn 1 rfl (ls_seq_k fun K1 hK1 => rn 1 rfl ?_))
 obtain ⟨o1, hl, hr1⟩ := ob_some h
 have kXB1 : (.inl ()) = o1 → Jn K1 [(0, dL ci64 a0), (1, dL ci64 a1)] := by
  intro h σ' hk
  subst h
  replace h := hr1
  try dsimp only at h
  refine hK1 _ (lh hk rfl (rs (sp 4 rfl (?_))))
  obtain ⟨v17, g18, h⟩ := ob_some h
  exact qC (qs rfl (qs rfl eran)) (impl_compareInts_s g18) (sp 1 rfl (evn (ls_ret ((by cases h; exact ⟨.inl rfl, rfl⟩)))))
 refine ls_rec (fun (y1 : Int) => [(0, dL ci64 a0), (1, dL ci64 a1), (5, nI y1)]) _ _ _ _ hl (okr rfl) (fun _ => rfl) ?_
 rintro m y1 N h hN
 unfold impl_CompareRows_B1 at h
 refine ls_seq_k fun K2 hK2 => rs (sp 5 rfl (?_))
 rcases cond_some h with ⟨g3, h⟩ | ⟨g3, h⟩
 ·refine qg 10 g3 rfl (sp 5 rfl (evn ?_))
  rcases cond_some h with ⟨g4, h⟩ | ⟨g4, h⟩
  ·refine qT rfl g4 (ls_skip (hK2 _ (ls_seq_k fun K5 hK5 => ls_blk (rd (by kernel_rfl) (sd 2 rfl (?_))))))
   obtain ⟨e6, g7, h⟩ := ob_some h
   refine ed rfl (qI rfl zci64 g7 (sd 3 rfl (?_)))
   obtain ⟨e8, g9, h⟩ := ob_some h
   refine ed rfl (qI rfl zci64 g9 (sd 2 rfl (evdn ?_)))
   rcases cond_some h with ⟨g10, h⟩ | ⟨g10, h⟩
   ·refine qT rfl g10 (rd (by kernel_rfl) (sd 2 rfl (?_)))
    obtain ⟨e11, g12, h⟩ := ob_some h
    refine ed rfl (qI rfl zci64 g12 (sd 3 rfl (?_)))
    obtain ⟨e13, g14, h⟩ := ob_some h
    refine ed rfl (qI rfl zci64 g14 (sd 1 rfl (?_)))
    obtain ⟨v15, g16, h⟩ := ob_some h
    exact ed rfl (qC (qs rfl (qs rfl eran)) (impl_compareInts_s g16) (sd 1 rfl (evdn (qk [4] rfl (ls_ret ((by cases h; cases hr1; exact ⟨.inl rfl, rfl⟩)))))))
   ·exact qF rfl g10 (ls_skip (hK5 _ (rg (sp 3 rfl (evn (hN _ _ h (okr rfl)))))))
  ·exact qF rfl g4 (ls_exit (kXB1 (Option.some.inj h) _ (okr rfl)))
 ·exact qg 10 g3 rfl (sp 5 rfl (evn (qF rfl rfl (ls_exit (kXB1 (Option.some.inj h) _ (okr rfl))))))
def impl_AreValidValues_B1 (a0 : List Int) (rec : Int → Option (Sum (Unit) (Bool))) (y1 : Int) : Option (Sum (Unit) (Bool)) := cond (decide (y1 < (List.length a0 : Int))) (obind (geti a0 y1) fun e5 => obind (impl_within e5 0 99) fun v7 => cond (!v7) (some (.inr false)) (rec (IntKind.i64.wrap (y1 + 1)))) (some (.inl ()))
def impl_AreValidValues (a0 : List Int) : Option (Bool) := obind (loopF (impl_AreValidValues_B1 a0) fz 0) fun o1 => (match o1 with
  | .inl _ => (some true)
  | .inr r => some r)
theorem impl_AreValidValues_s {a0 : List Int} {r : Bool} (h : impl_AreValidValues a0 = some r) : SoundAt Tryz.prog 157 [dL ci64 a0] (.bool r) := by
 unfold impl_AreValidValues at h
 refine st lit157 rfl (rn 1 rfl (ls_seq_k fun K1 hK1 => rn 1 rfl ?_))
 obtain ⟨o1, hl, hr1⟩ := ob_some h
 have kXB1 : (.inl ()) = o1 → Jn K1 [] := by
  intro h σ' hk
  subst h
  replace h := hr1
  try dsimp only at h
  exact hK1 _ (lh hk rfl (rn 1 rfl (ls_ret ((by cases h; exact ⟨.inl rfl, rfl⟩)))))
 refine ls_rec (fun (y1 : Int) => [(5, dL ci64 a0), (6, nI (List.length a0 : Int)), (7, nI y1)]) _ _ _ _ hl (okr rfl) (fun _ => rfl) ?_
 rintro m y1 N h hN
 unfold impl_AreValidValues_B1 at h
 refine rn 1 rfl (ls_seq_k fun K2 hK2 => ?_)
 rcases cond_some h with ⟨g3, h⟩ | ⟨g3, h⟩
 ·refine qT rfl g3 (ls_skip (hK2 _ (ls_seq_k fun K4 hK4 => ls_blk (rs ?_))))
  obtain ⟨e5, g6, h⟩ := ob_some h
  refine qI rfl zci64 g6 (sp 2 rfl (evn (rs (sp 1 rfl (?_)))))
  obtain ⟨v7, g8, h⟩ := ob_some h
  refine qC (qs rfl (qs rfl (qs rfl eran))) (impl_within_s g8) (sp 1 rfl (evn ?_))
  rcases cond_some h with ⟨g9, h⟩ | ⟨g9, h⟩
  ·exact qT rfl g9 (rn 1 rfl (ls_ret ((by cases h; cases hr1; exact ⟨.inl rfl, rfl⟩))))
  ·exact qF rfl g9 (ls_skip (hK4 _ (rg (sp 2 rfl (evn (hN _ _ h (okr rfl)))))))
 ·exact qF rfl g3 (ls_exit (kXB1 (Option.some.inj h) _ trivial))
def impl_rowsValid_J2 (rec : Int → Option (Sum (Unit) (Bool))) (y1 : Int) (x13 : Bool) : Option (Sum (Unit) (Bool)) := cond x13 (some (.inr false)) (rec (IntKind.i64.wrap (y1 + 1)))
def impl_rowsValid_B1 (a0 : Int) (a1 : List (List Int)) (rec : Int → Option (Sum (Unit) (Bool))) (y1 : Int) : Option (Sum (Unit) (Bool)) := cond (decide (y1 < (List.length a1 : Int))) (obind (geti a1 y1) fun e10 => cond ((List.length e10 : Int) != a0) (impl_rowsValid_J2 rec y1 true) (obind (impl_AreValidValues e10) fun v16 => cond (!v16) (impl_rowsValid_J2 rec y1 true) (cond (decide (0 < y1)) (obind (geti a1 (IntKind.i64.wrap (y1 - 1))) fun e20 => obind (impl_CompareRows e20 e10) fun v22 => impl_rowsValid_J2 rec y1 (decide (0 ≤ v22))) (impl_rowsValid_J2 rec y1 false)))) (some (.inl ()))
def impl_rowsValid (a0 : Int) (a1 : List (List Int)) : Option (Bool) := obind (impl_within a0 0 5) fun v2 => cond (!v2) (some false) (cond (decide (4000 < (List.length a1 : Int))) (some false) (obind (loopF (impl_rowsValid_B1 a0 a1) fz 0) fun o1 => (match o1 with
  | .inl _ => (some true)
  | .inr r => some r)))
theorem impl_rowsValid_s {a0 : Int} {a1 : List (List Int)} {r : Bool} (h : impl_rowsValid a0 a1 = some r) : SoundAt Tryz.prog 115 [nI a0, dL c27_d a1] (.bool r) := by
 unfold impl_rowsValid at h
 refine st lit115 rfl (rn 1 rfl (ls_seq_k fun K1 hK1 => rs (sp 1 rfl (?_))))
 obtain ⟨v2, g3, h⟩ := ob_some h
 refine qC (qs rfl (qs rfl (qs rfl eran))) (impl_within_s g3) (sp 2 rfl (?_))
 rcases cond_some h with ⟨g4, h⟩ | ⟨g4, h⟩
 ·exact qg 10 g4 rfl (sp 4 rfl (evn (qT rfl rfl (rn 1 rfl (ls_ret ((by cases h; exact ⟨.inl rfl, rfl⟩)))))))
 ·refine qg 10 g4 rfl (sp 4 rfl (evn ?_))
  rcases cond_some h with ⟨g5, h⟩ | ⟨g5, h⟩
  ·exact qT rfl g5 (rn 1 rfl (ls_ret ((by cases h; exact ⟨.inl rfl, rfl⟩))))
  ·refine qF rfl g5 (ls_skip (hK1 _ (ls_seq_k fun K6 hK6 => rn 1 rfl (qk [0, 1, 15, 16, 17] rfl ?_))))
   obtain ⟨o1, hl, hr1⟩ := ob_some h
   have kXB1 : (.inl ()) = o1 → Jn K6 [] := by
    intro h σ' hk
    subst h
    replace h := hr1
    try dsimp only at h
    exact hK6 _ (lh hk rfl (rn 1 rfl (ls_ret ((by cases h; exact ⟨.inl rfl, rfl⟩)))))
   refine ls_rec (fun (y1 : Int) => [(0, nI a0), (1, dL c27_d a1), (15, dL c27_d a1), (16, nI (List.length a1 : Int)), (17, nI y1)]) _ _ _ _ hl (okr rfl) (fun _ => rfl) ?_
   rintro m y1 N h hN
   unfold impl_rowsValid_B1 at h
   refine rn 1 rfl (ls_seq_k fun K7 hK7 => ?_)
   rcases cond_some h with ⟨g8, h⟩ | ⟨g8, h⟩
   ·refine qT rfl g8 (ls_skip (hK7 _ (ls_seq_k fun K9 hK9 => ls_blk (rs (sp 1 rfl (?_))))))
    obtain ⟨e10, g11, h⟩ := ob_some h
    refine qI rfl zc27_d g11 (sp 3 rfl (evn (rk fun K12 hK12 => ?_)))
    have kJ2 : ∀ {x13 : Bool}, impl_rowsValid_J2 (loopF (impl_rowsValid_B1 a0 a1) m) y1 x13 = some o1 → Jn K12 [(0, nI a0), (1, dL c27_d a1), (15, dL c27_d a1), (16, nI (List.length a1 : Int)), (17, nI y1), (44, .bool x13)] := by
     intro x13 h σ' hk
     unfold impl_rowsValid_J2 at h
     refine hK12 _ (lh hk rfl ?_)
     rcases cond_some h with ⟨g14, h⟩ | ⟨g14, h⟩
     ·exact qT rfl g14 (rn 1 rfl (ls_ret ((by cases h; cases hr1; exact ⟨.inl rfl, rfl⟩))))
     ·exact qF rfl g14 (ls_skip (hK9 _ (rg (sp 2 rfl (evn (hN _ _ h (okr rfl)))))))
    refine sp 5 rfl (?_)
    rcases cond_some h with ⟨g15, h⟩ | ⟨g15, h⟩
    ·exact qg 26 g15 rfl (sp 18 rfl (evn (kJ2 h _ (okr rfl))))
    ·refine qg 26 g15 rfl (sp 1 rfl (?_))
     obtain ⟨v16, g17, h⟩ := ob_some h
     refine oGR rfl rfl (qC (qa rfl (erD eci64 _) eran) (impl_AreValidValues_s g17) (sp 3 rfl (?_)))
     rcases cond_some h with ⟨g18, h⟩ | ⟨g18, h⟩
     ·exact qg 31 g18 rfl (sp 13 rfl (evn (kJ2 h _ (okr rfl))))
     ·refine qg 31 g18 rfl (sp 3 rfl (?_))
      rcases cond_some h with ⟨g19, h⟩ | ⟨g19, h⟩
      ·refine qg 34 g19 rfl (sp 3 rfl (?_))
       obtain ⟨e20, g21, h⟩ := ob_some h
       refine oGR rfl rfl (qI rfl zc27_d g21 (sp 2 rfl (?_)))
       obtain ⟨v22, g23, h⟩ := ob_some h
       exact oGR rfl rfl (qC (qa rfl (erD eci64 _) (qa rfl (erD eci64 _) eran)) (impl_CompareRows_s g23) (sp 3 rfl (evn (kJ2 h _ (okr rfl)))))
      ·exact qg 34 g19 rfl (sp 10 rfl (evn (kJ2 h _ (okr rfl))))
   ·exact qF rfl g8 (ls_exit (kXB1 (Option.some.inj h) _ trivial))
def impl_IsValidRelation (a0 : Y40) : Option (Bool) := obind (impl_rowsValid a0.1 a0.2) fun v1 => some v1
theorem impl_IsValidRelation_s {a0 : Y40} {r : Bool} (h : impl_IsValidRelation a0 = some r) : SoundAt Tryz.prog 75 [.agg (c41_dd a0)] (.bool r) := by
 unfold impl_IsValidRelation at h
 refine st lit75 rfl (rn 1 rfl (rs (sp 4 rfl (?_))))
 obtain ⟨v1, g2, h⟩ := ob_some h
 exact qC (qs rfl (qa rfl (erD ec27_d _) eran)) (impl_rowsValid_s g2) (sp 1 rfl (evn (ls_ret ((by cases h; exact ⟨.inl rfl, rfl⟩)))))
def impl_IsValidDatabase_J2 (rec : Int → Option (Sum (Unit) (Bool))) (y1 : Int) (x10 : Bool) : Option (Sum (Unit) (Bool)) := cond x10 (some (.inr false)) (rec (IntKind.i64.wrap (y1 + 1)))
def impl_IsValidDatabase_B1 (a0 : List Y113) (rec : Int → Option (Sum (Unit) (Bool))) (y1 : Int) : Option (Sum (Unit) (Bool)) := cond (decide (y1 < (List.length a0 : Int))) (obind (geti a0 y1) fun e7 => obind (impl_IsValidName e7.1) fun v12 => cond (!v12) (impl_IsValidDatabase_J2 rec y1 true) (cond (decide (0 < y1)) (obind (geti a0 (IntKind.i64.wrap (y1 - 1))) fun e16 => cond (!Op.bytesLess e16.1 e7.1) (impl_IsValidDatabase_J2 rec y1 true) (obind (impl_IsValidRelation e7.2) fun v19 => cond (!v19) (impl_IsValidDatabase_J2 rec y1 true) (cond (decide (e7.2.1 < 1)) (impl_IsValidDatabase_J2 rec y1 true) (impl_IsValidDatabase_J2 rec y1 (decide (16 < (List.length e7.2.2 : Int))))))) (obind (impl_IsValidRelation e7.2) fun v23 => cond (!v23) (impl_IsValidDatabase_J2 rec y1 true) (cond (decide (e7.2.1 < 1)) (impl_IsValidDatabase_J2 rec y1 true) (impl_IsValidDatabase_J2 rec y1 (decide (16 < (List.length e7.2.2 : Int)))))))) (some (.inl ()))
def impl_IsValidDatabase (a0 : List Y113) : Option (Bool) := cond (decide (6 < (List.length a0 : Int))) (some false) (obind (loopF (impl_IsValidDatabase_B1 a0) fz 0) fun o1 => (match o1 with
  | .inl _ => (some true)
  | .inr r => some r))
theorem impl_IsValidDatabase_s {a0 : List Y113} {r : Bool} (h : impl_IsValidDatabase a0 = some r) : SoundAt Tryz.prog 40 [.agg [dL c114_dd a0]] (.bool r) := by
 unfold impl_IsValidDatabase at h
 refine st lit40 rfl (rn 1 rfl (ls_seq_k fun K1 hK1 => rn 1 rfl ?_))
 rcases cond_some h with ⟨g2, h⟩ | ⟨g2, h⟩
 ·exact qT rfl g2 (rn 1 rfl (ls_ret ((by cases h; exact ⟨.inl rfl, rfl⟩))))
 ·refine qF rfl g2 (ls_skip (hK1 _ (ls_seq_k fun K3 hK3 => rn 1 rfl ?_)))
  obtain ⟨o1, hl, hr1⟩ := ob_some h
  have kXB1 : (.inl ()) = o1 → Jn K3 [] := by
   intro h σ' hk
   subst h
   replace h := hr1
   try dsimp only at h
   exact hK3 _ (lh hk rfl (rn 1 rfl (ls_ret ((by cases h; exact ⟨.inl rfl, rfl⟩)))))
  refine ls_rec (fun (y1 : Int) => [(1, .box [dL c114_dd a0]), (10, dL c114_dd a0), (11, nI (List.length a0 : Int)), (12, nI y1)]) _ _ _ _ hl (okr rfl) (fun _ => rfl) ?_
  rintro m y1 N h hN
  unfold impl_IsValidDatabase_B1 at h
  refine rn 1 rfl (ls_seq_k fun K4 hK4 => ?_)
  rcases cond_some h with ⟨g5, h⟩ | ⟨g5, h⟩
  ·refine qT rfl g5 (ls_skip (hK4 _ (ls_seq_k fun K6 hK6 => ls_blk (rs (sp 1 rfl (?_))))))
   obtain ⟨e7, g8, h⟩ := ob_some h
   refine qI rfl zc114_dd g8 (sp 4 rfl (evn (rdk (by kernel_rfl) fun K9 hK9 => ?_)))
   have kJ2 : ∀ {x10 : Bool}, impl_IsValidDatabase_J2 (loopF (impl_IsValidDatabase_B1 a0) m) y1 x10 = some o1 → Jn K9 [(1, .box [dL c114_dd a0]), (10, dL c114_dd a0), (11, nI (List.length a0 : Int)), (12, nI y1), (55, .bool x10)] := by
    intro x10 h σ' hk
    unfold impl_IsValidDatabase_J2 at h
    refine hK9 _ (lh hk rfl ?_)
    rcases cond_some h with ⟨g11, h⟩ | ⟨g11, h⟩
    ·exact qT rfl g11 (rn 1 rfl (ls_ret ((by cases h; cases hr1; exact ⟨.inl rfl, rfl⟩))))
    ·exact qF rfl g11 (ls_skip (hK6 _ (rg (sp 2 rfl (evn (hN _ _ h (okr rfl)))))))
   refine sd 2 rfl (?_)
   obtain ⟨v12, g13, h⟩ := ob_some h
   refine ed rfl (qC (qs rfl eran) (impl_IsValidName_s g13) (sd 2 rfl (?_)))
   rcases cond_some h with ⟨g14, h⟩ | ⟨g14, h⟩
   ·exact qgd 21 g14 rfl (sd 34 rfl (evdn (kJ2 h _ (okr rfl))))
   ·refine qgd 21 g14 rfl (sd 3 rfl (?_))
    rcases cond_some h with ⟨g15, h⟩ | ⟨g15, h⟩
    ·refine qgd 24 g15 rfl (sd 4 rfl (?_))
     obtain ⟨e16, g17, h⟩ := ob_some h
     refine ed rfl (oGR rfl rfl (qI rfl zc114_dd g17 (sd 8 rfl (?_))))
     rcases cond_some h with ⟨g18, h⟩ | ⟨g18, h⟩
     ·exact qgd 37 g18 rfl (sd 18 rfl (evdn (kJ2 h _ (okr rfl))))
     ·refine qgd 37 g18 rfl (sd 2 rfl (?_))
      obtain ⟨v19, g20, h⟩ := ob_some h
      refine ed rfl (oGR rfl rfl (qC (qa rfl (erg (erc rfl (erc (erD ec27_d _) rfl))) eran) (impl_IsValidRelation_s g20) (sd 3 rfl (?_))))
      rcases cond_some h with ⟨g21, h⟩ | ⟨g21, h⟩
      ·exact qgd 43 g21 rfl (sd 12 rfl (evdn (kJ2 h _ (okr rfl))))
      ·refine qgd 43 g21 rfl (sd 6 rfl (?_))
       rcases cond_some h with ⟨g22, h⟩ | ⟨g22, h⟩
       ·exact qgd 49 g22 rfl (sd 6 rfl (evdn (kJ2 h _ (okr rfl))))
       ·exact qgd 49 g22 rfl (sd 6 rfl (evdn (kJ2 h _ (okr rfl))))
    ·refine qgd 24 g15 rfl (sd 15 rfl (?_))
     obtain ⟨v23, g24, h⟩ := ob_some h
     refine ed rfl (oGR rfl rfl (qC (qa rfl (erg (erc rfl (erc (erD ec27_d _) rfl))) eran) (impl_IsValidRelation_s g24) (sd 3 rfl (?_))))
     rcases cond_some h with ⟨g25, h⟩ | ⟨g25, h⟩
     ·exact qgd 43 g25 rfl (sd 12 rfl (evdn (kJ2 h _ (okr rfl))))
     ·refine qgd 43 g25 rfl (sd 6 rfl (?_))
      rcases cond_some h with ⟨g26, h⟩ | ⟨g26, h⟩
      ·exact qgd 49 g26 rfl (sd 6 rfl (evdn (kJ2 h _ (okr rfl))))
      ·exact qgd 49 g26 rfl (sd 6 rfl (evdn (kJ2 h _ (okr rfl))))
  ·exact qF rfl g5 (ls_exit (kXB1 (Option.some.inj h) _ trivial))
def impl_IsValidHistory_B1 (a0 : Y25) (rec : Int → Option (Sum (Unit) (Bool))) (y1 : Int) : Option (Sum (Unit) (Bool)) := cond (decide (y1 < (List.length a0.2 : Int))) (obind (geti a0.2 y1) fun e12 => obind (impl_IsValidDatabase e12) fun v14 => cond (!v14) (some (.inr false)) (rec (IntKind.i64.wrap (y1 + 1)))) (some (.inl ()))
def impl_IsValidHistory (a0 : Y25) : Option (Bool) := obind (impl_within (List.length a0.2 : Int) 1 6) fun v2 => cond (!v2) (some false) (obind (impl_within a0.1 1 (IntKind.i64.wrap ((IntKind.i64.wrap (99 - (List.length a0.2 : Int))) + 1))) fun v5 => cond (!v5) (some false) (obind (loopF (impl_IsValidHistory_B1 a0) fz 0) fun o1 => (match o1 with
  | .inl _ => (some true)
  | .inr r => some r)))
theorem impl_IsValidHistory_s {a0 : Y25} {r : Bool} (h : impl_IsValidHistory a0 = some r) : SoundAt Tryz.prog 10 [.agg (c26_dddd a0)] (.bool r) := by
 unfold impl_IsValidHistory at h
 refine st lit10 rfl (rn 2 rfl (ls_seq_k fun K1 hK1 => rs (sp 1 rfl (?_))))
 obtain ⟨v2, g3, h⟩ := ob_some h
 refine qC (qs rfl (qs rfl (qs rfl eran))) (impl_within_s g3) (sp 2 rfl (?_))
 rcases cond_some h with ⟨g4, h⟩ | ⟨g4, h⟩
 ·exact qg 12 g4 rfl (sp 8 rfl (evn (qT rfl rfl (rn 1 rfl (ls_ret ((by cases h; exact ⟨.inl rfl, rfl⟩)))))))
 ·refine qg 12 g4 rfl (sp 5 rfl (?_))
  obtain ⟨v5, g6, h⟩ := ob_some h
  refine oGR rfl rfl (qC (qs rfl (qs rfl (qs rfl eran))) (impl_within_s g6) (sp 2 rfl (evn ?_)))
  rcases cond_some h with ⟨g7, h⟩ | ⟨g7, h⟩
  ·exact qT rfl g7 (rn 1 rfl (qk [2] rfl (ls_ret ((by cases h; exact ⟨.inl rfl, rfl⟩)))))
  ·refine qF rfl g7 (ls_skip (hK1 _ (ls_seq_k fun K8 hK8 => rn 1 rfl ?_)))
   obtain ⟨o1, hl, hr1⟩ := ob_some h
   have kXB1 : (.inl ()) = o1 → Jn K8 [] := by
    intro h σ' hk
    subst h
    replace h := hr1
    try dsimp only at h
    exact hK8 _ (lh hk rfl (rn 1 rfl (ls_ret ((by cases h; exact ⟨.inl rfl, rfl⟩)))))
   refine ls_rec (fun (y1 : Int) => [(22, dL c77_ddd a0.2), (23, nI (List.length a0.2 : Int)), (24, nI y1)]) _ _ _ _ hl (okr rfl) (fun _ => rfl) ?_
   rintro m y1 N h hN
   unfold impl_IsValidHistory_B1 at h
   refine rn 1 rfl (ls_seq_k fun K9 hK9 => ?_)
   rcases cond_some h with ⟨g10, h⟩ | ⟨g10, h⟩
   ·refine qT rfl g10 (ls_skip (hK9 _ (ls_seq_k fun K11 hK11 => ls_blk (rs ?_))))
    obtain ⟨e12, g13, h⟩ := ob_some h
    refine qI rfl zc77_ddd g13 (sp 3 rfl (evn (rs (sp 1 rfl (?_)))))
    obtain ⟨v14, g15, h⟩ := ob_some h
    refine qC (qa rfl (erg (erc (erD ec114_dd _) rfl)) eran) (impl_IsValidDatabase_s g15) (sp 1 rfl (evn ?_))
    rcases cond_some h with ⟨g16, h⟩ | ⟨g16, h⟩
    ·exact qT rfl g16 (rn 1 rfl (ls_ret ((by cases h; cases hr1; exact ⟨.inl rfl, rfl⟩))))
    ·exact qF rfl g16 (ls_skip (hK11 _ (rg (sp 2 rfl (evn (hN _ _ h (okr rfl)))))))
   ·exact qF rfl g10 (ls_exit (kXB1 (Option.some.inj h) _ trivial))
def impl_copyRows_B1 (a0 : List (List Int)) (rec : ((List (List Int)) × Int) → Option ((List (List Int)))) (s : (List (List Int)) × Int) : Option ((List (List Int))) := match s with
  | (y1, y2) => cond (decide (y2 < (List.length a0 : Int))) (obind (geti a0 y2) fun e6 => obind (impl_copyInts e6) fun v8 => chk (List.length y1 + List.length [v8] ≤ lim) (rec ((y1 ++ [v8]), (IntKind.i64.wrap (y2 + 1))))) (some y1)
def impl_copyRows (a0 : List (List Int)) : Option ((List (List Int))) := obind (loopF (impl_copyRows_B1 a0) fz (([] : List (List Int)), 0)) fun z2 => some z2
theorem impl_copyRows_s {a0 : List (List Int)} {r : (List (List Int))} (h : impl_copyRows a0 = some r) : SoundAt Tryz.prog 122 [dL c27_d a0] (oL 27 c27_o r) := by
 unfold impl_copyRows at h
 refine st lit122 rfl (rn 2 rfl (ls_seq_k fun K1 hK1 => rn 1 rfl ?_))
 obtain ⟨o1, hl, hr1⟩ := ob_some h
 have kXB1 : ∀ {z2 : List (List Int)}, z2 = o1 → Jn K1 [(3, oL 27 c27_o z2)] := by
  intro z2 h σ' hk
  subst h
  replace h := hr1
  try dsimp only at h
  exact hK1 _ (lh hk rfl (rn 1 rfl (ls_ret ((by cases h; exact ⟨.inl rfl, rfl⟩)))))
 refine ls_rec (fun (s : (List (List Int)) × Int) => match s with | (y1, y2) => [(3, oL 27 c27_o y1), (6, dL c27_d a0), (7, nI (List.length a0 : Int)), (8, nI y2)]) _ _ _ _ hl (okr rfl) (fun _ => rfl) ?_
 rintro m ⟨y1, y2⟩ N h hN
 unfold impl_copyRows_B1 at h
 dsimp only at h
 refine rn 1 rfl (ls_seq_k fun K3 hK3 => ?_)
 rcases cond_some h with ⟨g4, h⟩ | ⟨g4, h⟩
 ·refine qT rfl g4 (ls_skip (hK3 _ (ls_seq_k fun K5 hK5 => ls_blk (rs ?_))))
  obtain ⟨e6, g7, h⟩ := ob_some h
  refine qI rfl zc27_d g7 (sp 2 rfl (evn (rg (sp 2 rfl (?_)))))
  obtain ⟨v8, g9, h⟩ := ob_some h
  refine qC (qa rfl (erD eci64 _) eran) (impl_copyInts_s g9) (qBs c27_o [v8] rfl rfl rfl zc27_o (?_))
  obtain ⟨g10, h⟩ := chk_some h
  exact qA c27_o y1 [v8] rfl rfl (flat_len zc27_o [v8]) rfl g10 (sp 1 rfl (evn (hK5 _ (rg (sp 2 rfl (evn (hN _ _ h (okr rfl))))))))
 ·exact qF rfl g4 (ls_exit (kXB1 (Option.some.inj h) _ (okr rfl)))
def impl_copyRelation (a0 : Y40) : Option (Y40) := obind (impl_copyRows a0.2) fun v1 => some (a0.1, v1)
theorem impl_copyRelation_s {a0 : Y40} {r : Y40} (h : impl_copyRelation a0 = some r) : SoundAt Tryz.prog 104 [.agg (c41_dd a0)] (.agg (c41_oo r)) := by
 unfold impl_copyRelation at h
 refine st lit104 rfl (rn 1 rfl (rd (by kernel_rfl) (sd 4 rfl (?_))))
 obtain ⟨v1, g2, h⟩ := ob_some h
 exact ed rfl (qC (qa rfl (erD ec27_d _) eran) (impl_copyRows_s g2) (sd 2 rfl (evdn (ls_ret ((by cases h; exact ⟨.inl rfl, rfl⟩))))))
def impl_copyDatabase_B1 (a0 : List Y113) (rec : ((List Y113) × Int) → Option ((List Y113))) (s : (List Y113) × Int) : Option ((List Y113)) := match s with
  | (y1, y2) => cond (decide (y2 < (List.length a0 : Int))) (obind (geti a0 y2) fun e6 => obind (impl_copyRelation e6.2) fun v8 => chk (List.length y1 + List.length [(e6.1, v8)] ≤ lim) (rec ((y1 ++ [(e6.1, v8)]), (IntKind.i64.wrap (y2 + 1))))) (some y1)
def impl_copyDatabase (a0 : List Y113) : Option ((List Y113)) := obind (loopF (impl_copyDatabase_B1 a0) fz (([] : List Y113), 0)) fun z2 => some z2
theorem impl_copyDatabase_s {a0 : List Y113} {r : (List Y113)} (h : impl_copyDatabase a0 = some r) : SoundAt Tryz.prog 68 [.agg [dL c114_dd a0]] (.agg [oL 114 c114_oo r]) := by
 unfold impl_copyDatabase at h
 refine st lit68 rfl (rn 2 rfl (ls_seq_k fun K1 hK1 => rn 1 rfl ?_))
 obtain ⟨o1, hl, hr1⟩ := ob_some h
 have kXB1 : ∀ {z2 : List Y113}, z2 = o1 → Jn K1 [(2, .box [oL 114 c114_oo []]), (3, .box [oL 114 c114_oo z2])] := by
  intro z2 h σ' hk
  subst h
  replace h := hr1
  try dsimp only at h
  exact hK1 _ (lh hk rfl (rn 1 rfl (ls_ret ((by cases h; exact ⟨.inl rfl, rfl⟩)))))
 refine ls_rec (fun (s : (List Y113) × Int) => match s with | (y1, y2) => [(2, .box [oL 114 c114_oo []]), (3, .box [oL 114 c114_oo y1]), (7, dL c114_dd a0), (8, nI (List.length a0 : Int)), (9, nI y2)]) _ _ _ _ hl (okr rfl) (fun _ => rfl) ?_
 rintro m ⟨y1, y2⟩ N h hN
 unfold impl_copyDatabase_B1 at h
 dsimp only at h
 refine rn 1 rfl (ls_seq_k fun K3 hK3 => ?_)
 rcases cond_some h with ⟨g4, h⟩ | ⟨g4, h⟩
 ·refine qT rfl g4 (ls_skip (hK3 _ (ls_seq_k fun K5 hK5 => ls_blk (rs ?_))))
  obtain ⟨e6, g7, h⟩ := ob_some h
  refine qI rfl zc114_dd g7 (sp 3 rfl (evn (rgd (by kernel_rfl) (sd 6 rfl (?_)))))
  obtain ⟨v8, g9, h⟩ := ob_some h
  refine ed rfl (qC (qa rfl (erg (erc rfl (erc (erD ec27_d _) rfl))) eran) (impl_copyRelation_s g9) (sd 1 rfl (ed rfl (qBs c114_oo [(e6.1, v8)] rfl rfl rfl zc114_oo (?_)))))
  obtain ⟨g10, h⟩ := chk_some h
  exact ed rfl (qA c114_oo y1 [(e6.1, v8)] rfl rfl (flat_len zc114_oo [(e6.1, v8)]) rfl g10 (sd 2 rfl (evdn (hK5 _ (rg (sp 2 rfl (evn (hN _ _ h (okr rfl)))))))))
 ·exact qF rfl g4 (ls_exit (kXB1 (Option.some.inj h) _ (okr rfl)))
def impl_SnapshotAt (a0 : Y25) (a1 : Int) : Option ((List Y113) × Bool) := obind (impl_IsValidHistory a0) fun v2 => cond (!v2) (some ([], false)) (obind (impl_within a1 a0.1 (IntKind.i64.wrap ((IntKind.i64.wrap (a0.1 + (List.length a0.2 : Int))) - 1))) fun v5 => cond (!v5) (some ([], false)) (obind (geti a0.2 (IntKind.i64.wrap (a1 - a0.1))) fun e8 => obind (impl_copyDatabase e8) fun v10 => some (v10, true)))
theorem impl_SnapshotAt_s {a0 : Y25} {a1 : Int} {r : (List Y113) × Bool} (h : impl_SnapshotAt a0 a1 = some r) : SoundAt Tryz.prog 34 [.agg (c26_dddd a0), nI a1] (.tup [.agg [oL 114 c114_oo r.1], .bool r.2]) := by
 unfold impl_SnapshotAt at h
 refine st lit34 rfl (rn 1 rfl (ls_seq_k fun K1 hK1 => rs (sp 1 rfl (?_))))
 obtain ⟨v2, g3, h⟩ := ob_some h
 refine qC (qa rfl (erg (erc rfl (erc (erD ec77_ddd _) rfl))) eran) (impl_IsValidHistory_s g3) (sp 2 rfl (?_))
 rcases cond_some h with ⟨g4, h⟩ | ⟨g4, h⟩
 ·exact qg 9 g4 rfl (sp 13 rfl (evn (qT rfl rfl (rn 1 rfl (ls_ret ((by cases h; exact ⟨.inl rfl, rfl⟩)))))))
 ·refine qg 9 g4 rfl (sp 10 rfl (?_))
  obtain ⟨v5, g6, h⟩ := ob_some h
  refine oGR rfl rfl (qC (qs rfl (qs rfl (qs rfl eran))) (impl_within_s g6) (sp 2 rfl (evn (qk [1, 2, 4, 22] rfl ?_))))
  rcases cond_some h with ⟨g7, h⟩ | ⟨g7, h⟩
  ·exact qT rfl g7 (rn 1 rfl (ls_ret ((by cases h; exact ⟨.inl rfl, rfl⟩))))
  ·refine qF rfl g7 (ls_skip (hK1 _ (rs (sp 6 rfl (?_)))))
   obtain ⟨e8, g9, h⟩ := ob_some h
   refine qI rfl zc77_ddd g9 (sp 1 rfl (?_))
   obtain ⟨v10, g11, h⟩ := ob_some h
   exact qC (qa rfl (erg (erc (erD ec114_dd _) rfl)) eran) (impl_copyDatabase_s g11) (sp 2 rfl (evn (ls_ret ((by cases h; exact ⟨.inl rfl, rfl⟩)))))
def impl_LookupRelation_J1  : Option (Y40 × Bool) := some ((0, []), false)
def impl_LookupRelation_B2 (a0 : List Y113) (a1 : List UInt8) (rec : Int → Option (Sum (Unit) (Y40 × Bool))) (y2 : Int) : Option (Sum (Unit) (Y40 × Bool)) := cond (decide (y2 < (List.length a0 : Int))) (obind (geti a0 y2) fun e8 => cond (e8.1 == a1) (obind (impl_copyRelation e8.2) fun v11 => some (.inr (v11, true))) (rec (IntKind.i64.wrap (y2 + 1)))) (some (.inl ()))
def impl_LookupRelation (a0 : List Y113) (a1 : List UInt8) : Option (Y40 × Bool) := obind (impl_IsValidDatabase a0) fun v2 => cond v2 (obind (loopF (impl_LookupRelation_B2 a0 a1) fz 0) fun o2 => (match o2 with
  | .inl _ => (impl_LookupRelation_J1 )
  | .inr r => some r)) (impl_LookupRelation_J1 )
theorem impl_LookupRelation_s {a0 : List Y113} {a1 : List UInt8} {r : Y40 × Bool} (h : impl_LookupRelation a0 a1 = some r) : SoundAt Tryz.prog 84 [.agg [dL c114_dd a0], .str a1] (.tup [.agg (c41_oo r.1), .bool r.2]) := by
 unfold impl_LookupRelation at h
 refine st lit84 rfl (rn 1 rfl (ls_seq_k fun K1 hK1 => rs (sp 1 rfl (?_))))
 obtain ⟨v2, g3, h⟩ := ob_some h
 refine qC (qa rfl (erg (erc (erD ec114_dd _) rfl)) eran) (impl_IsValidDatabase_s g3) (evn ?_)
 have kJ1 : impl_LookupRelation_J1 = some r → Jn K1 [(4, .box [nI 0, oL 27 c27_o []])] := by
  intro h σ' hk
  unfold impl_LookupRelation_J1 at h
  exact hK1 _ (lh hk rfl (rn 1 rfl (ls_ret ((by cases h; exact ⟨.inl rfl, rfl⟩)))))
 rcases cond_some h with ⟨g4, h⟩ | ⟨g4, h⟩
 ·refine qT rfl g4 (rn 1 rfl ?_)
  obtain ⟨o2, hl, hr2⟩ := ob_some h
  have kXB2 : (.inl ()) = o2 → Jn K1 [(4, .box [nI 0, oL 27 c27_o []])] := by
   intro h σ' hk
   subst h
   replace h := hr2
   try dsimp only at h
   exact kJ1 h _ ⟨hk.1, trivial⟩
  refine ls_rec (fun (y2 : Int) => [(1, .str a1), (4, .box [nI 0, oL 27 c27_o []]), (11, dL c114_dd a0), (12, nI (List.length a0 : Int)), (13, nI y2)]) _ _ _ _ hl (okr rfl) (fun _ => rfl) ?_
  rintro m y2 N h hN
  unfold impl_LookupRelation_B2 at h
  refine rn 1 rfl (ls_seq_k fun K5 hK5 => ?_)
  rcases cond_some h with ⟨g6, h⟩ | ⟨g6, h⟩
  ·refine qT rfl g6 (ls_skip (hK5 _ (ls_seq_k fun K7 hK7 => ls_blk (rs ?_))))
   obtain ⟨e8, g9, h⟩ := ob_some h
   refine qI rfl zc114_dd g9 (sp 3 rfl (evn (rn 1 rfl ?_)))
   rcases cond_some h with ⟨g10, h⟩ | ⟨g10, h⟩
   ·refine qT rfl g10 (rs (sp 2 rfl (?_)))
    obtain ⟨v11, g12, h⟩ := ob_some h
    exact qC (qa rfl (erg (erc rfl (erc (erD ec27_d _) rfl))) eran) (impl_copyRelation_s g12) (sp 2 rfl (evn (ls_ret ((by cases h; cases hr2; exact ⟨.inl rfl, rfl⟩)))))
   ·exact qF rfl g10 (ls_skip (hK7 _ (rg (sp 2 rfl (evn (hN _ _ h (okr rfl)))))))
  ·exact qF rfl g6 (ls_exit (kXB2 (Option.some.inj h) _ (okr rfl)))
 ·exact qF rfl g4 (ls_skip (kJ1 h _ (okr rfl)))
def impl_indexOf_B1 (a0 : List Int) (a1 : Int) (rec : Int → Option (Sum (Unit) (Int))) (y1 : Int) : Option (Sum (Unit) (Int)) := cond (decide (y1 < (List.length a0 : Int))) (obind (geti a0 y1) fun e5 => cond (e5 == a1) (some (.inr y1)) (rec (IntKind.i64.wrap (y1 + 1)))) (some (.inl ()))
def impl_indexOf (a0 : List Int) (a1 : Int) : Option (Int) := obind (loopF (impl_indexOf_B1 a0 a1) fz 0) fun o1 => (match o1 with
  | .inl _ => (some (-1))
  | .inr r => some r)
theorem impl_indexOf_s {a0 : List Int} {a1 : Int} {r : Int} (h : impl_indexOf a0 a1 = some r) : SoundAt Tryz.prog 171 [dL ci64 a0, nI a1] (nI r) := by
 unfold impl_indexOf at h
 refine st lit171 rfl (rn 1 rfl (ls_seq_k fun K1 hK1 => rn 1 rfl ?_))
 obtain ⟨o1, hl, hr1⟩ := ob_some h
 have kXB1 : (.inl ()) = o1 → Jn K1 [] := by
  intro h σ' hk
  subst h
  replace h := hr1
  try dsimp only at h
  exact hK1 _ (lh hk rfl (rn 1 rfl (ls_ret ((by cases h; exact ⟨.inl rfl, rfl⟩)))))
 refine ls_rec (fun (y1 : Int) => [(1, nI a1), (7, dL ci64 a0), (8, nI (List.length a0 : Int)), (9, nI y1)]) _ _ _ _ hl (okr rfl) (fun _ => rfl) ?_
 rintro m y1 N h hN
 unfold impl_indexOf_B1 at h
 refine rn 1 rfl (ls_seq_k fun K2 hK2 => ?_)
 rcases cond_some h with ⟨g3, h⟩ | ⟨g3, h⟩
 ·refine qT rfl g3 (ls_skip (hK2 _ (ls_seq_k fun K4 hK4 => ls_blk (rs (sp 1 rfl (?_))))))
  obtain ⟨e5, g6, h⟩ := ob_some h
  refine qI rfl zci64 g6 (sp 3 rfl (evn (rn 1 rfl ?_)))
  rcases cond_some h with ⟨g7, h⟩ | ⟨g7, h⟩
  ·exact qT rfl g7 (rn 1 rfl (ls_ret ((by cases h; cases hr1; exact ⟨.inl rfl, rfl⟩))))
  ·exact qF rfl g7 (ls_skip (hK4 _ (rg (sp 2 rfl (evn (hN _ _ h (okr rfl)))))))
 ·exact qF rfl g3 (ls_exit (kXB1 (Option.some.inj h) _ trivial))
def impl_hasInt (a0 : List Int) (a1 : Int) : Option (Bool) := obind (impl_indexOf a0 a1) fun v1 => some (decide (0 ≤ v1))
theorem impl_hasInt_s {a0 : List Int} {a1 : Int} {r : Bool} (h : impl_hasInt a0 a1 = some r) : SoundAt Tryz.prog 173 [dL ci64 a0, nI a1] (.bool r) := by
 unfold impl_hasInt at h
 refine st lit173 rfl (rn 1 rfl (rs (sp 2 rfl (?_))))
 obtain ⟨v1, g2, h⟩ := ob_some h
 exact qC (qa rfl (erD eci64 _) (qs rfl eran)) (impl_indexOf_s g2) (sp 2 rfl (evn (ls_ret ((by cases h; exact ⟨.inl rfl, rfl⟩)))))
def impl_isSetOf_B1 (a0 : List Int) (a1 : Int) (rec : Int → Option (Sum (Unit) (Bool))) (y1 : Int) : Option (Sum (Unit) (Bool)) := cond (decide (y1 < (List.length a0 : Int))) (obind (geti a0 y1) fun e5 => obind (impl_within e5 0 (IntKind.i64.wrap (a1 - 1))) fun v7 => cond (!v7) (some (.inr false)) (chk ((0 : Int) ≤ 0 ∧ 0 ≤ y1 ∧ y1 ≤ (List.length a0 : Int)) (obind (impl_hasInt (subl a0 0 y1) e5) fun v11 => cond v11 (some (.inr false)) (rec (IntKind.i64.wrap (y1 + 1)))))) (some (.inl ()))
def impl_isSetOf (a0 : List Int) (a1 : Int) : Option (Bool) := obind (loopF (impl_isSetOf_B1 a0 a1) fz 0) fun o1 => (match o1 with
  | .inl _ => (some true)
  | .inr r => some r)
theorem impl_isSetOf_s {a0 : List Int} {a1 : Int} {r : Bool} (h : impl_isSetOf a0 a1 = some r) : SoundAt Tryz.prog 166 [dL ci64 a0, nI a1] (.bool r) := by
 unfold impl_isSetOf at h
 refine st lit166 rfl (rn 1 rfl (ls_seq_k fun K1 hK1 => rn 1 rfl ?_))
 obtain ⟨o1, hl, hr1⟩ := ob_some h
 have kXB1 : (.inl ()) = o1 → Jn K1 [] := by
  intro h σ' hk
  subst h
  replace h := hr1
  try dsimp only at h
  exact hK1 _ (lh hk rfl (rn 1 rfl (ls_ret ((by cases h; exact ⟨.inl rfl, rfl⟩)))))
 refine ls_rec (fun (y1 : Int) => [(0, dL ci64 a0), (1, nI a1), (7, dL ci64 a0), (8, nI (List.length a0 : Int)), (9, nI y1)]) _ _ _ _ hl (okr rfl) (fun _ => rfl) ?_
 rintro m y1 N h hN
 unfold impl_isSetOf_B1 at h
 refine rn 1 rfl (ls_seq_k fun K2 hK2 => ?_)
 rcases cond_some h with ⟨g3, h⟩ | ⟨g3, h⟩
 ·refine qT rfl g3 (ls_skip (hK2 _ (ls_seq_k fun K4 hK4 => ls_blk (rs (sp 1 rfl (?_))))))
  obtain ⟨e5, g6, h⟩ := ob_some h
  refine qI rfl zci64 g6 (sp 3 rfl (evn (rs (sp 3 rfl (?_)))))
  obtain ⟨v7, g8, h⟩ := ob_some h
  refine qC (qs rfl (qs rfl (qs rfl eran))) (impl_within_s g8) (sp 2 rfl (?_))
  rcases cond_some h with ⟨g9, h⟩ | ⟨g9, h⟩
  ·exact qg 19 g9 rfl (sp 6 rfl (evn (qT rfl rfl (rn 1 rfl (ls_ret ((by cases h; cases hr1; exact ⟨.inl rfl, rfl⟩)))))))
  ·refine qg 19 g9 rfl (sp 2 rfl (?_))
   obtain ⟨g10, h⟩ := chk_some h
   refine oGR rfl rfl (qSl rfl zci64 g10 (sp 1 rfl (?_)))
   obtain ⟨v11, g12, h⟩ := ob_some h
   refine oGR rfl rfl (qC (qa rfl (erD eci64 _) (qs rfl eran)) (impl_hasInt_s g12) (sp 1 rfl (evn (qk [0, 1, 7, 8, 9, 25] rfl ?_))))
   rcases cond_some h with ⟨g13, h⟩ | ⟨g13, h⟩
   ·exact qT rfl g13 (rn 1 rfl (ls_ret ((by cases h; cases hr1; exact ⟨.inl rfl, rfl⟩))))
   ·exact qF rfl g13 (ls_skip (hK4 _ (rg (sp 2 rfl (evn (hN _ _ h (okr rfl)))))))
 ·exact qF rfl g3 (ls_exit (kXB1 (Option.some.inj h) _ trivial))
def impl_IsValidQuery_B2 (a0 : Y29) (e17 : Y108) (rec : ((List Bool) × Int) → Option (Sum ((List Bool)) (Bool))) (s : (List Bool) × Int) : Option (Sum ((List Bool)) (Bool)) := match s with
  | (y7, y8) => cond (decide (y8 < (List.length e17.2 : Int))) (obind (geti e17.2 y8) fun e30 => obind (impl_within e30 0 (IntKind.i64.wrap (a0.1 - 1))) fun v33 => cond (!v33) (some (.inr false)) (obind (geti y7 e30) fun e36 => rec ((seti y7 e30 true), (IntKind.i64.wrap (y8 + 1))))) (some (.inl y7))
def impl_IsValidQuery_B1 (a0 : Y29) (rec : ((List Bool) × Int) → Option (Sum ((List Bool)) (Bool))) (s : (List Bool) × Int) : Option (Sum ((List Bool)) (Bool)) := match s with
  | (y3, y4) => cond (decide (y4 < (List.length a0.2.1 : Int))) (obind (geti a0.2.1 y4) fun e17 => obind (impl_IsValidName e17.1) fun v20 => cond (!v20) (some (.inr false)) (obind (impl_within (List.length e17.2 : Int) 1 5) fun v23 => cond (!v23) (some (.inr false)) (obind (loopF (impl_IsValidQuery_B2 a0 e17) fz (y3, 0)) fun o2 => (match o2 with
  | .inl z26 => (rec (z26, (IntKind.i64.wrap (y4 + 1))))
  | .inr r => some (.inr r))))) (some (.inl y3))
def impl_IsValidQuery_B3 (z13 : List Bool) (rec : Int → Option (Sum (Unit) (Bool))) (y9 : Int) : Option (Sum (Unit) (Bool)) := cond (decide (y9 < (List.length z13 : Int))) (obind (geti z13 y9) fun e42 => cond (!e42) (some (.inr false)) (rec (IntKind.i64.wrap (y9 + 1)))) (some (.inl ()))
def impl_IsValidQuery (a0 : Y29) : Option (Bool) := obind (impl_within a0.1 1 5) fun v2 => cond (!v2) (some false) (obind (impl_within (List.length a0.2.1 : Int) 1 4) fun v5 => cond (!v5) (some false) (obind (impl_isSetOf a0.2.2 a0.1) fun v8 => cond (!v8) (some false) (chk ((0 : Int) ≤ a0.1 ∧ Int.toNat a0.1 ≤ lim) (obind (loopF (impl_IsValidQuery_B1 a0) fz ((List.replicate (Int.toNat a0.1) (false : Bool)), 0)) fun o1 => (match o1 with
  | .inl z13 => (obind (loopF (impl_IsValidQuery_B3 z13) fz 0) fun o3 => (match o3 with
  | .inl _ => (some true)
  | .inr r => some r))
  | .inr r => some r)))))
theorem impl_IsValidQuery_s {a0 : Y29} {r : Bool} (h : impl_IsValidQuery a0 = some r) : SoundAt Tryz.prog 165 [.agg (c30_ddd a0)] (.bool r) := by
 unfold impl_IsValidQuery at h
 refine st lit165 rfl (rn 2 rfl (ls_seq_k fun K1 hK1 => rs (sp 1 rfl (?_))))
 obtain ⟨v2, g3, h⟩ := ob_some h
 refine qC (qs rfl (qs rfl (qs rfl eran))) (impl_within_s g3) (sp 2 rfl (?_))
 rcases cond_some h with ⟨g4, h⟩ | ⟨g4, h⟩
 ·exact qg 16 g4 rfl (sp 13 rfl (evn (qT rfl rfl (rn 1 rfl (ls_ret ((by cases h; exact ⟨.inl rfl, rfl⟩)))))))
 ·refine qg 16 g4 rfl (sp 3 rfl (?_))
  obtain ⟨v5, g6, h⟩ := ob_some h
  refine oGR rfl rfl (qC (qs rfl (qs rfl (qs rfl eran))) (impl_within_s g6) (sp 3 rfl (?_)))
  rcases cond_some h with ⟨g7, h⟩ | ⟨g7, h⟩
  ·exact qg 23 g7 rfl (sp 6 rfl (evn (qk [1, 3, 29] rfl (qT rfl rfl (rn 1 rfl (ls_ret ((by cases h; exact ⟨.inl rfl, rfl⟩))))))))
  ·refine qg 23 g7 rfl (sp 3 rfl (?_))
   obtain ⟨v8, g9, h⟩ := ob_some h
   refine oGR rfl rfl (qC (qa rfl (erD eci64 _) (qs rfl eran)) (impl_isSetOf_s g9) (sp 2 rfl (evn ?_)))
   rcases cond_some h with ⟨g10, h⟩ | ⟨g10, h⟩
   ·exact qT rfl g10 (rn 1 rfl (ls_ret ((by cases h; exact ⟨.inl rfl, rfl⟩))))
   ·refine qF rfl g10 (ls_skip (hK1 _ (rs (sp 1 rfl (?_)))))
    obtain ⟨g11, h⟩ := chk_some h
    refine qMu cbl (false : Bool) rfl rfl rfl rfl g11 rfl (qAu rfl rfl rfl rfl (evn (ls_seq_k fun K12 hK12 => rn 1 rfl ?_)))
    obtain ⟨o1, hl, hr1⟩ := ob_some h
    have kXB1 : ∀ {z13 : List Bool}, (.inl z13) = o1 → Jn K12 [(4, wL 4 cbl z13)] := by
     intro z13 h σ' hk
     subst h
     replace h := hr1
     try dsimp only at h
     refine hK12 _ (lh hk rfl (ls_seq_k fun K38 hK38 => rn 1 rfl ?_))
     obtain ⟨o3, hl, hr3⟩ := ob_some h
     have kXB3 : (.inl ()) = o3 → Jn K38 [] := by
      intro h σ' hk
      subst h
      replace h := hr3
      try dsimp only at h
      exact hK38 _ (lh hk rfl (rn 1 rfl (ls_ret ((by cases h; exact ⟨.inl rfl, rfl⟩)))))
     refine ls_rec (fun (y9 : Int) => [(4, wL 4 cbl z13), (67, .same 4), (68, nI (List.length z13 : Int)), (69, nI y9)]) _ _ _ _ hl (okr rfl) (fun _ => rfl) ?_
     rintro m y9 N h hN
     unfold impl_IsValidQuery_B3 at h
     refine rn 1 rfl (ls_seq_k fun K39 hK39 => ?_)
     rcases cond_some h with ⟨g40, h⟩ | ⟨g40, h⟩
     ·refine qT rfl g40 (ls_skip (hK39 _ (ls_seq_k fun K41 hK41 => ls_blk (rs ?_))))
      obtain ⟨e42, g43, h⟩ := ob_some h
      refine qIu rfl ⟨(geti_some g43).1, (geti_some g43).2.1⟩ (qLu 0 rfl rfl rfl zcbl g43 rfl rfl rfl (sp 1 rfl (evn (rn 1 rfl ?_))))
      rcases cond_some h with ⟨g44, h⟩ | ⟨g44, h⟩
      ·exact qT rfl g44 (rn 1 rfl (ls_ret ((by cases h; cases hr3; exact ⟨.inl rfl, rfl⟩))))
      ·exact qF rfl g44 (ls_skip (hK41 _ (rg (sp 2 rfl (evn (hN _ _ h (okr rfl)))))))
     ·exact qF rfl g40 (ls_exit (kXB3 (Option.some.inj h) _ trivial))
    refine ls_rec (fun (s : (List Bool) × Int) => match s with | (y3, y4) => [(3, nI a0.1), (4, wL 4 cbl y3), (33, dL c109_d a0.2.1), (34, nI (List.length a0.2.1 : Int)), (35, nI y4)]) _ _ _ _ hl (okr rfl) (fun _ => rfl) ?_
    rintro m ⟨y3, y4⟩ N h hN
    unfold impl_IsValidQuery_B1 at h
    dsimp only at h
    refine rn 1 rfl (ls_seq_k fun K14 hK14 => ?_)
    rcases cond_some h with ⟨g15, h⟩ | ⟨g15, h⟩
    ·refine qT rfl g15 (ls_skip (hK14 _ (ls_seq_k fun K16 hK16 => ls_blk (rs ?_))))
     obtain ⟨e17, g18, h⟩ := ob_some h
     refine qI rfl zc109_d g18 (sp 3 rfl (evn (ls_seq_k fun K19 hK19 => rs (sp 2 rfl (?_)))))
     obtain ⟨v20, g21, h⟩ := ob_some h
     refine qC (qs rfl eran) (impl_IsValidName_s g21) (sp 2 rfl (?_))
     rcases cond_some h with ⟨g22, h⟩ | ⟨g22, h⟩
     ·exact qg 43 g22 rfl (sp 6 rfl (evn (qT rfl rfl (rn 1 rfl (ls_ret ((by cases h; cases hr1; exact ⟨.inl rfl, rfl⟩)))))))
     ·refine qg 43 g22 rfl (sp 3 rfl (?_))
      obtain ⟨v23, g24, h⟩ := ob_some h
      refine oGR rfl rfl (qC (qs rfl (qs rfl (qs rfl eran))) (impl_within_s g24) (sp 2 rfl (evn (qk [3, 4, 6, 33, 34, 35, 49] rfl ?_))))
      rcases cond_some h with ⟨g25, h⟩ | ⟨g25, h⟩
      ·exact qT rfl g25 (rn 1 rfl (ls_ret ((by cases h; cases hr1; exact ⟨.inl rfl, rfl⟩))))
      ·refine qF rfl g25 (ls_skip (hK19 _ (rn 1 rfl ?_)))
       obtain ⟨o2, hl, hr2⟩ := ob_some h
       have kXB2 : ∀ {z26 : List Bool}, (.inl z26) = o2 → Jn K16 [(3, nI a0.1), (4, wL 4 cbl z26), (33, dL c109_d a0.2.1), (34, nI (List.length a0.2.1 : Int)), (35, nI y4)] := by
        intro z26 h σ' hk
        subst h
        replace h := hr2
        try dsimp only at h
        exact hK16 _ (lh hk rfl (rg (sp 2 rfl (evn (hN _ _ h (okr rfl))))))
       refine ls_rec (fun (s : (List Bool) × Int) => match s with | (y7, y8) => [(3, nI a0.1), (4, wL 4 cbl y7), (33, dL c109_d a0.2.1), (34, nI (List.length a0.2.1 : Int)), (35, nI y4), (51, dL ci64 e17.2), (52, nI (List.length e17.2 : Int)), (53, nI y8)]) _ _ _ _ hl (okr rfl) (fun _ => rfl) ?_
       rintro m ⟨y7, y8⟩ N h hN
       unfold impl_IsValidQuery_B2 at h
       dsimp only at h
       refine rn 1 rfl (ls_seq_k fun K27 hK27 => ?_)
       rcases cond_some h with ⟨g28, h⟩ | ⟨g28, h⟩
       ·refine qT rfl g28 (ls_skip (hK27 _ (ls_seq_k fun K29 hK29 => ls_blk (rs ?_))))
        obtain ⟨e30, g31, h⟩ := ob_some h
        refine qI rfl zci64 g31 (sp 2 rfl (evn (ls_seq_k fun K32 hK32 => rs (sp 3 rfl (?_)))))
        obtain ⟨v33, g34, h⟩ := ob_some h
        refine qC (qs rfl (qs rfl (qs rfl eran))) (impl_within_s g34) (sp 1 rfl (evn ?_))
        rcases cond_some h with ⟨g35, h⟩ | ⟨g35, h⟩
        ·exact qT rfl g35 (rn 1 rfl (ls_ret ((by cases h; cases hr2; cases hr1; exact ⟨.inl rfl, rfl⟩))))
        ·refine qF rfl g35 (ls_skip (hK32 _ (rg (sp 2 rfl (?_)))))
         obtain ⟨e36, g37, h⟩ := ob_some h
         exact qIu rfl ⟨(geti_some g37).1, (geti_some g37).2.1⟩ (qSu true rfl rfl zcbl ⟨(geti_some g37).1, (geti_some g37).2.1⟩ rfl rfl rfl rfl rfl rfl (evn (hK29 _ (rg (sp 2 rfl (evn (hN _ _ h (okr rfl))))))))
       ·exact qF rfl g28 (ls_exit (kXB2 (Option.some.inj h) _ (okr rfl)))
    ·exact qF rfl g15 (ls_exit (kXB1 (Option.some.inj h) _ (okr rfl)))
def impl_IsQueryFor_B1 (a0 : List Y113) (a1 : Y29) (rec : Int → Option (Sum (Unit) (Bool))) (y1 : Int) : Option (Sum (Unit) (Bool)) := cond (decide (y1 < (List.length a1.2.1 : Int))) (obind (geti a1.2.1 y1) fun e12 => obind (impl_LookupRelation a0 e12.1) fun v14 => cond (!v14.2) (some (.inr false)) (cond (v14.1.1 != (List.length e12.2 : Int)) (some (.inr false)) (rec (IntKind.i64.wrap (y1 + 1))))) (some (.inl ()))
def impl_IsQueryFor (a0 : List Y113) (a1 : Y29) : Option (Bool) := obind (impl_IsValidQuery a1) fun v2 => cond (!v2) (some false) (obind (impl_IsValidDatabase a0) fun v5 => cond (!v5) (some false) (obind (loopF (impl_IsQueryFor_B1 a0 a1) fz 0) fun o1 => (match o1 with
  | .inl _ => (some true)
  | .inr r => some r)))
theorem impl_IsQueryFor_s {a0 : List Y113} {a1 : Y29} {r : Bool} (h : impl_IsQueryFor a0 a1 = some r) : SoundAt Tryz.prog 143 [.agg [dL c114_dd a0], .agg (c30_ddd a1)] (.bool r) := by
 unfold impl_IsQueryFor at h
 refine st lit143 rfl (rn 1 rfl (ls_seq_k fun K1 hK1 => rs (sp 1 rfl (?_))))
 obtain ⟨v2, g3, h⟩ := ob_some h
 refine qC (qa rfl (erg (erc rfl (erc (erD ec109_d _) (erc (erD eci64 _) rfl)))) eran) (impl_IsValidQuery_s g3) (sp 2 rfl (?_))
 rcases cond_some h with ⟨g4, h⟩ | ⟨g4, h⟩
 ·exact qg 12 g4 rfl (sp 4 rfl (evn (qT rfl rfl (rn 1 rfl (ls_ret ((by cases h; exact ⟨.inl rfl, rfl⟩)))))))
 ·refine qg 12 g4 rfl (sp 1 rfl (?_))
  obtain ⟨v5, g6, h⟩ := ob_some h
  refine oGR rfl rfl (qC (qa rfl (erg (erc (erD ec114_dd _) rfl)) eran) (impl_IsValidDatabase_s g6) (sp 2 rfl (evn ?_)))
  rcases cond_some h with ⟨g7, h⟩ | ⟨g7, h⟩
  ·exact qT rfl g7 (rn 1 rfl (ls_ret ((by cases h; exact ⟨.inl rfl, rfl⟩))))
  ·refine qF rfl g7 (ls_skip (hK1 _ (ls_seq_k fun K8 hK8 => rn 1 rfl (qk [2, 18, 19, 20] rfl ?_))))
   obtain ⟨o1, hl, hr1⟩ := ob_some h
   have kXB1 : (.inl ()) = o1 → Jn K8 [] := by
    intro h σ' hk
    subst h
    replace h := hr1
    try dsimp only at h
    exact hK8 _ (lh hk rfl (rn 1 rfl (ls_ret ((by cases h; exact ⟨.inl rfl, rfl⟩)))))
   refine ls_rec (fun (y1 : Int) => [(2, .box [dL c114_dd a0]), (18, dL c109_d a1.2.1), (19, nI (List.length a1.2.1 : Int)), (20, nI y1)]) _ _ _ _ hl (okr rfl) (fun _ => rfl) ?_
   rintro m y1 N h hN
   unfold impl_IsQueryFor_B1 at h
   refine rn 1 rfl (ls_seq_k fun K9 hK9 => ?_)
   rcases cond_some h with ⟨g10, h⟩ | ⟨g10, h⟩
   ·refine qT rfl g10 (ls_skip (hK9 _ (ls_seq_k fun K11 hK11 => ls_blk (rs ?_))))
    obtain ⟨e12, g13, h⟩ := ob_some h
    refine qI rfl zc109_d g13 (sp 3 rfl (evn (rs (sp 3 rfl (?_)))))
    obtain ⟨v14, g15, h⟩ := ob_some h
    refine qC (qa rfl (erg (erc (erD ec114_dd _) rfl)) (qs rfl eran)) (impl_LookupRelation_s g15) (sp 6 rfl (evn (rs (sp 3 rfl (?_)))))
    rcases cond_some h with ⟨g16, h⟩ | ⟨g16, h⟩
    ·exact qg 33 g16 rfl (sp 7 rfl (evn (qT rfl rfl (rn 1 rfl (qk [4] rfl (ls_ret ((by cases h; cases hr1; exact ⟨.inl rfl, rfl⟩))))))))
    ·refine qg 33 g16 rfl (sp 7 rfl (evn ?_))
     rcases cond_some h with ⟨g17, h⟩ | ⟨g17, h⟩
     ·exact qT rfl g17 (rn 1 rfl (ls_ret ((by cases h; cases hr1; exact ⟨.inl rfl, rfl⟩))))
     ·exact qF rfl g17 (ls_skip (hK11 _ (rg (sp 2 rfl (evn (hN _ _ h (okr rfl)))))))
   ·exact qF rfl g10 (ls_exit (kXB1 (Option.some.inj h) _ trivial))
def impl_IsValidOrder_J1 (x2 : Bool) : Option (Bool) := some x2
def impl_IsValidOrder (a0 : Y29) (a1 : List Int) : Option (Bool) := obind (impl_IsValidQuery a0) fun v3 => cond v3 (cond ((List.length a1 : Int) == a0.1) (obind (impl_isSetOf a1 a0.1) fun v7 => impl_IsValidOrder_J1 v7) (impl_IsValidOrder_J1 false)) (impl_IsValidOrder_J1 false)
theorem impl_IsValidOrder_s {a0 : Y29} {a1 : List Int} {r : Bool} (h : impl_IsValidOrder a0 a1 = some r) : SoundAt Tryz.prog 144 [.agg (c30_ddd a0), dL ci64 a1] (.bool r) := by
 unfold impl_IsValidOrder at h
 refine st lit144 rfl (rn 1 rfl (rk fun K1 hK1 => ?_))
 have kJ1 : ∀ {x2 : Bool}, impl_IsValidOrder_J1 x2 = some r → Jn K1 [(4, .bool x2)] := by
  intro x2 h σ' hk
  unfold impl_IsValidOrder_J1 at h
  exact hK1 _ (lh hk rfl (ls_ret ((by cases h; exact ⟨.inl rfl, rfl⟩))))
 refine sp 1 rfl (?_)
 obtain ⟨v3, g4, h⟩ := ob_some h
 refine qC (qa rfl (erg (erc rfl (erc (erD ec109_d _) (erc (erD eci64 _) rfl)))) eran) (impl_IsValidQuery_s g4) (sp 1 rfl (?_))
 rcases cond_some h with ⟨g5, h⟩ | ⟨g5, h⟩
 ·refine qg 7 g5 rfl (sp 7 rfl (?_))
  rcases cond_some h with ⟨g6, h⟩ | ⟨g6, h⟩
  ·refine qg 14 g6 rfl (sp 3 rfl (?_))
   obtain ⟨v7, g8, h⟩ := ob_some h
   exact oGR rfl rfl (qC (qa rfl (erD eci64 _) (qs rfl eran)) (impl_isSetOf_s g8) (sp 2 rfl (evn (kJ1 h _ (okr rfl)))))
  ·exact qg 14 g6 rfl (sp 6 rfl (evn (kJ1 h _ (okr rfl))))
 ·exact qg 7 g5 rfl (sp 13 rfl (evn (kJ1 h _ (okr rfl))))
def impl_IsPermutation_J1 (x2 : Bool) : Option (Bool) := some x2
def impl_IsPermutation (a0 : List Int) : Option (Bool) := cond (decide ((List.length a0 : Int) ≤ 5)) (obind (impl_isSetOf a0 (List.length a0 : Int)) fun v4 => impl_IsPermutation_J1 v4) (impl_IsPermutation_J1 false)
theorem impl_IsPermutation_s {a0 : List Int} {r : Bool} (h : impl_IsPermutation a0 = some r) : SoundAt Tryz.prog 167 [dL ci64 a0] (.bool r) := by
 unfold impl_IsPermutation at h
 refine st lit167 rfl (rn 1 rfl (rk fun K1 hK1 => ?_))
 have kJ1 : ∀ {x2 : Bool}, impl_IsPermutation_J1 x2 = some r → Jn K1 [(2, .bool x2)] := by
  intro x2 h σ' hk
  unfold impl_IsPermutation_J1 at h
  exact hK1 _ (lh hk rfl (ls_ret ((by cases h; exact ⟨.inl rfl, rfl⟩))))
 refine sp 4 rfl (?_)
 rcases cond_some h with ⟨g3, h⟩ | ⟨g3, h⟩
 ·refine qg 6 g3 rfl (sp 3 rfl (?_))
  obtain ⟨v4, g5, h⟩ := ob_some h
  exact oGR rfl rfl (qC (qa rfl (erD eci64 _) (qs rfl eran)) (impl_isSetOf_s g5) (sp 2 rfl (evn (kJ1 h _ (okr rfl)))))
 ·exact qg 6 g3 rfl (sp 6 rfl (evn (kJ1 h _ (okr rfl))))
def impl_sorted_J5 (rec : ((List (Nat × (List Int))) × (List (Nat × (List Int))) × (List (Nat × (List Int)))) → Option ((List (Nat × (List Int))))) (y2 : List (Nat × (List Int))) (x20 : List (Nat × (List Int))) (x24 : List (Nat × (List Int))) : Option ((List (Nat × (List Int)))) := chk ((0 : Int) ≤ 1 ∧ 1 ≤ (List.length y2 : Int) ∧ (List.length y2 : Int) ≤ (List.length y2 : Int)) (rec (x20, (subl y2 1 (List.length y2 : Int)), x24))
def impl_sorted_J4 (rec : ((List (Nat × (List Int))) × (List (Nat × (List Int))) × (List (Nat × (List Int)))) → Option ((List (Nat × (List Int))))) (y2 : List (Nat × (List Int))) (x18 : Int) (x20 : List (Nat × (List Int))) (x21 : List (Nat × (List Int))) : Option ((List (Nat × (List Int)))) := cond (decide (0 ≤ x18)) (cond (decide (0 < x18)) (obind (geti y2 0) fun e27 => chk (List.length x21 + List.length [e27] ≤ lim) (impl_sorted_J5 rec y2 x20 (x21 ++ [e27]))) (impl_sorted_J5 rec y2 x20 x21)) (rec (x20, y2, x21))
def impl_sorted_J3 (rec : ((List (Nat × (List Int))) × (List (Nat × (List Int))) × (List (Nat × (List Int)))) → Option ((List (Nat × (List Int))))) (y1 : List (Nat × (List Int))) (y2 : List (Nat × (List Int))) (y3 : List (Nat × (List Int))) (x18 : Int) : Option ((List (Nat × (List Int)))) := cond (decide (x18 ≤ 0)) (obind (geti y1 0) fun e31 => chk (List.length y3 + List.length [e31] ≤ lim) (chk ((0 : Int) ≤ 1 ∧ 1 ≤ (List.length y1 : Int) ∧ (List.length y1 : Int) ≤ (List.length y1 : Int)) (impl_sorted_J4 rec y2 x18 (subl y1 1 (List.length y1 : Int)) (y3 ++ [e31])))) (impl_sorted_J4 rec y2 x18 y1 y3)
def impl_sorted_J2 (rec : ((List (Nat × (List Int))) × (List (Nat × (List Int))) × (List (Nat × (List Int)))) → Option ((List (Nat × (List Int))))) (y1 : List (Nat × (List Int))) (y2 : List (Nat × (List Int))) (y3 : List (Nat × (List Int))) (x15 : Bool) : Option ((List (Nat × (List Int)))) := cond x15 (cond ((List.length y1 : Int) == 0) (impl_sorted_J3 rec y1 y2 y3 1) (cond (decide (0 < (List.length y2 : Int))) (obind (geti y1 0) fun e37 => obind (geti y2 0) fun e39 => obind (impl_CompareRows e37.2 e39.2) fun v41 => impl_sorted_J3 rec y1 y2 y3 v41) (impl_sorted_J3 rec y1 y2 y3 (-1)))) (some y3)
def impl_sorted_B1  (rec : ((List (Nat × (List Int))) × (List (Nat × (List Int))) × (List (Nat × (List Int)))) → Option ((List (Nat × (List Int))))) (s : (List (Nat × (List Int))) × (List (Nat × (List Int))) × (List (Nat × (List Int)))) : Option ((List (Nat × (List Int)))) := match s with
  | (y1, y2, y3) => cond (decide (0 < (List.length y1 : Int))) (impl_sorted_J2 rec y1 y2 y3 true) (impl_sorted_J2 rec y1 y2 y3 (decide (0 < (List.length y2 : Int))))
def impl_sorted_R (rec : ((List (List Int))) → Option ((List (List Int)))) (a0 : (List (List Int))) : Option ((List (List Int))) := cond (decide ((List.length a0 : Int) < 2)) (obind (impl_copyRows a0) fun v3 => some v3) (chk ((0 : Int) ≤ 0 ∧ 0 ≤ IntKind.i64.wrap (Int.tdiv (List.length a0 : Int) 2) ∧ IntKind.i64.wrap (Int.tdiv (List.length a0 : Int) 2) ≤ (List.length a0 : Int)) (obind (rec (subl a0 0 (IntKind.i64.wrap (Int.tdiv (List.length a0 : Int) 2)))) fun v6 => chk ((0 : Int) ≤ IntKind.i64.wrap (Int.tdiv (List.length a0 : Int) 2) ∧ IntKind.i64.wrap (Int.tdiv (List.length a0 : Int) 2) ≤ (List.length a0 : Int) ∧ (List.length a0 : Int) ≤ (List.length a0 : Int)) (obind (rec (subl a0 (IntKind.i64.wrap (Int.tdiv (List.length a0 : Int) 2)) (List.length a0 : Int))) fun v9 => obind (loopF impl_sorted_B1 fz ((enumP 0 v6), (enumP (List.length v6) v9), ([] : List (Nat × (List Int))))) fun z12 => chk (okJ (v6 ++ v9) (List.map Sum.inl z12) [] = true) (some (List.map getM (List.map Sum.inl z12))))))
def impl_sorted (a0 : List (List Int)) : Option ((List (List Int))) := loopF impl_sorted_R fz a0
theorem impl_sorted_s {a0 : List (List Int)} {r : (List (List Int))} (h : impl_sorted a0 = some r) : SoundAt Tryz.prog 159 [dL c27_d a0] (oL 27 c27_o r) := by
 suffices key : ∀ mF (a0 : List (List Int)) (r : (List (List Int))), loopF impl_sorted_R mF a0 = some r → SoundAt Tryz.prog 159 [dL c27_d a0] (oL 27 c27_o r) from key fz a0 r h
 intro mF
 induction mF with
 | zero => intro a0 r h; cases h
 | succ mF ih0 =>
  intro a0 r h
  have ih : ∀ {a0 : List (List Int)} {r : (List (List Int))}, loopF impl_sorted_R mF a0 = some r → SoundAt Tryz.prog 159 [dL c27_d a0] (oL 27 c27_o r) := fun h => ih0 _ _ h
  change impl_sorted_R (loopF impl_sorted_R mF) a0 = some r at h
  unfold impl_sorted_R at h
  try dsimp only at h
  refine st lit159 rfl (rn 1 rfl (ls_seq_k fun K1 hK1 => rn 1 rfl ?_))
  rcases cond_some h with ⟨g2, h⟩ | ⟨g2, h⟩
  ·refine qT rfl g2 (rs (sp 1 rfl (?_)))
   obtain ⟨v3, g4, h⟩ := ob_some h
   exact qC (qa rfl (erD ec27_d _) eran) (impl_copyRows_s g4) (sp 1 rfl (evn (ls_ret ((by cases h; exact ⟨.inl rfl, rfl⟩)))))
  ·refine qF rfl g2 (ls_skip (hK1 _ (rn 1 rfl (rd (by kernel_rfl) (sd 2 rfl (?_))))))
   obtain ⟨g5, h⟩ := chk_some h
   refine ed rfl (qSl rfl zc27_d g5 (?_))
   obtain ⟨v6, g7, h⟩ := ob_some h
   refine ed rfl (qC (qa rfl (erD ec27_d _) eran) (ih g7) (sd 2 rfl (?_)))
   obtain ⟨g8, h⟩ := chk_some h
   refine ed rfl (qSl rfl zc27_d g8 (?_))
   obtain ⟨v9, g10, h⟩ := ob_some h
   refine ed rfl (qC (qa rfl (erD ec27_d _) eran) (ih g10) (sd 2 rfl (evdn (qk [4, 5] rfl (ls_split2 (f := c27_o) (s1 := 4) (s2 := 5) (g1 := 900001) (g2 := 900002) rfl rfl rfl rfl ⟨by decide, by decide, by decide, by decide, by decide, by decide⟩ (split_own (fun _ => rfl)) (split_own (fun _ => rfl)) (fun _ => rfl) (fun _ => rfl) (fun _ => rfl) (fun _ => rfl) ?_)))))
   intro U us1 us2 hu1 hu2 hU
   refine kp [(4, oL 27 (pE c27_o U) (enumP 0 v6)), (5, oL 27 (pE c27_o U) (enumP (List.length v6) v9)), (900001, .gh us1 (List.map (fun x => tokC (c27_o x)) v6)), (900002, .gh us2 (List.map (fun x => tokC (c27_o x)) v9))] rfl rfl (rn 1 rfl (ls_seq_k fun K11 hK11 => ?_))
   obtain ⟨o1, hl, hr1⟩ := ob_some h
   have kXB1 : ∀ {z12 : List (Nat × (List Int))}, z12 = o1 → Jn K11 [(6, oL 27 (pE c27_o U) z12), (900001, .gh us1 (List.map (fun x => tokC (c27_o x)) v6)), (900002, .gh us2 (List.map (fun x => tokC (c27_o x)) v9))] := by
    intro z12 h σ' hk
    subst h
    replace h := hr1
    try dsimp only at h
    refine hK11 _ (lh hk rfl (qk [6, 900001, 900002] rfl ?_))
    obtain ⟨g44, h⟩ := chk_some h
    exact ls_merge (g1 := 900001) (g2 := 900002) rfl rfl (by decide) (ls_join1 (f := c27_o) (s := 6) (q := 900001) (l := v6 ++ v9) (U := U) (L := List.map Sum.inl z12) own_inl rfl List.map_append.symm (by decide) (join_own (fun _ => rfl)) hU g44 rfl rfl (kp [(6, oL 27 c27_o (List.map getM (List.map Sum.inl z12)))] rfl rfl (rn 1 rfl (ls_ret ((by cases h; exact ⟨.inl rfl, rfl⟩))))))
   refine ls_rec (fun (s : (List (Nat × (List Int))) × (List (Nat × (List Int))) × (List (Nat × (List Int)))) => match s with | (y1, y2, y3) => [(4, dL (pE c27_o U) y1), (5, dL (pE c27_o U) y2), (6, oL 27 (pE c27_o U) y3), (900001, .gh us1 (List.map (fun x => tokC (c27_o x)) v6)), (900002, .gh us2 (List.map (fun x => tokC (c27_o x)) v9))]) _ _ _ _ hl ⟨(kd rfl rfl), (kd rfl rfl), kr, kr, kr, trivial⟩ (fun _ => rfl) ?_
   rintro m ⟨y1, y2, y3⟩ N h hN
   unfold impl_sorted_B1 at h
   dsimp only at h
   refine ls_seq_k fun K13 hK13 => rk fun K14 hK14 => ?_
   have kJ2 : ∀ {x15 : Bool}, impl_sorted_J2 (loopF impl_sorted_B1 m) y1 y2 y3 x15 = some o1 → Jn K14 [(4, dL (pE c27_o U) y1), (5, dL (pE c27_o U) y2), (6, oL 27 (pE c27_o U) y3), (31, .bool x15), (900001, .gh us1 (List.map (fun x => tokC (c27_o x)) v6)), (900002, .gh us2 (List.map (fun x => tokC (c27_o x)) v9))] := by
    intro x15 h σ' hk
    unfold impl_sorted_J2 at h
    refine hK14 _ (lh hk rfl ?_)
    rcases cond_some h with ⟨g16, h⟩ | ⟨g16, h⟩
    ·refine qT rfl g16 (ls_skip (hK13 _ (ls_blk (rn 1 rfl (ls_seq_k fun K17 hK17 => rn 1 rfl ?_)))))
     have kJ3 : ∀ {x18 : Int}, impl_sorted_J3 (loopF impl_sorted_B1 m) y1 y2 y3 x18 = some o1 → Jn K17 [(4, dL (pE c27_o U) y1), (5, dL (pE c27_o U) y2), (6, oL 27 (pE c27_o U) y3), (7, nI x18), (900001, .gh us1 (List.map (fun x => tokC (c27_o x)) v6)), (900002, .gh us2 (List.map (fun x => tokC (c27_o x)) v9))] := by
      intro x18 h σ' hk
      unfold impl_sorted_J3 at h
      refine hK17 _ (lh hk rfl (ls_seq_k fun K19 hK19 => rn 1 rfl ?_))
      have kJ4 : ∀ {x20 : List (Nat × (List Int))} {x21 : List (Nat × (List Int))}, impl_sorted_J4 (loopF impl_sorted_B1 m) y2 x18 x20 x21 = some o1 → Jn K19 [(4, dL (pE c27_o U) x20), (5, dL (pE c27_o U) y2), (6, oL 27 (pE c27_o U) x21), (7, nI x18), (900001, .gh us1 (List.map (fun x => tokC (c27_o x)) v6)), (900002, .gh us2 (List.map (fun x => tokC (c27_o x)) v9))] := by
       intro x20 x21 h σ' hk
       unfold impl_sorted_J4 at h
       refine hK19 _ (lh hk rfl (rn 1 rfl ?_))
       rcases cond_some h with ⟨g22, h⟩ | ⟨g22, h⟩
       ·refine qT rfl g22 (ls_seq_k fun K23 hK23 => rn 1 rfl ?_)
        have kJ5 : ∀ {x24 : List (Nat × (List Int))}, impl_sorted_J5 (loopF impl_sorted_B1 m) y2 x20 x24 = some o1 → Jn K23 [(4, dL (pE c27_o U) x20), (5, dL (pE c27_o U) y2), (6, oL 27 (pE c27_o U) x24), (900001, .gh us1 (List.map (fun x => tokC (c27_o x)) v6)), (900002, .gh us2 (List.map (fun x => tokC (c27_o x)) v9))] := by
         intro x24 h σ' hk
         unfold impl_sorted_J5 at h
         refine hK23 _ (lh hk rfl (rg (sp 1 rfl (?_))))
         obtain ⟨g25, h⟩ := chk_some h
         exact qSl rfl (zpE zc27_o) g25 (sp 1 rfl (evn (hN _ _ h (okr rfl))))
        rcases cond_some h with ⟨g26, h⟩ | ⟨g26, h⟩
        ·refine qT rfl g26 (rg (sp 2 rfl (?_)))
         obtain ⟨e27, g28, h⟩ := ob_some h
         refine qI rfl (zpE zc27_o) g28 (sp 1 rfl (qBs (pE c27_o U) [e27] rfl rfl rfl (zpE zc27_o) (?_)))
         obtain ⟨g29, h⟩ := chk_some h
         exact qA (pE c27_o U) x21 [e27] rfl rfl (flat_len (zpE zc27_o) [e27]) rfl g29 (sp 1 rfl (evn (kJ5 h _ (okr rfl))))
        ·exact qF rfl g26 (ls_skip (kJ5 h _ (okr rfl)))
       ·exact qF rfl g22 (ls_skip (hN _ _ h (okr rfl)))
      rcases cond_some h with ⟨g30, h⟩ | ⟨g30, h⟩
      ·refine qT rfl g30 (rs (sp 2 rfl (?_)))
       obtain ⟨e31, g32, h⟩ := ob_some h
       refine qI rfl (zpE zc27_o) g32 (sp 1 rfl (qBs (pE c27_o U) [e31] rfl rfl rfl (zpE zc27_o) (?_)))
       obtain ⟨g33, h⟩ := chk_some h
       refine qA (pE c27_o U) y3 [e31] rfl rfl (flat_len (zpE zc27_o) [e31]) rfl g33 (sp 1 rfl (evn (rg (sp 1 rfl (?_)))))
       obtain ⟨g34, h⟩ := chk_some h
       exact qSl rfl (zpE zc27_o) g34 (sp 1 rfl (evn (kJ4 h _ (okr rfl))))
      ·exact qF rfl g30 (ls_skip (kJ4 h _ (okr rfl)))
     rcases cond_some h with ⟨g35, h⟩ | ⟨g35, h⟩
     ·exact qT rfl g35 (rg (sp 1 rfl (evn (kJ3 h _ (okr rfl)))))
     ·refine qF rfl g35 (rn 1 rfl (qk [4, 5, 6, 7, 37, 900001, 900002] rfl ?_))
      rcases cond_some h with ⟨g36, h⟩ | ⟨g36, h⟩
      ·refine qT rfl g36 (rgd (by kernel_rfl) (sd 1 rfl (?_)))
       obtain ⟨e37, g38, h⟩ := ob_some h
       refine ed rfl (qI rfl (zpE zc27_o) g38 (sd 2 rfl (?_)))
       obtain ⟨e39, g40, h⟩ := ob_some h
       refine ed rfl (qI rfl (zpE zc27_o) g40 (sd 1 rfl (?_)))
       obtain ⟨v41, g42, h⟩ := ob_some h
       exact ed rfl (qC (qa rfl (erP eci64 eci64 _) (qa rfl (erP eci64 eci64 _) eran)) (impl_CompareRows_s g42) (sd 1 rfl (evdn (kJ3 h _ (okr rfl)))))
      ·exact qF rfl g36 (ls_skip (kJ3 h _ (okr rfl)))
    ·exact qF rfl g16 (ls_exit (kXB1 (Option.some.inj h) _ (okr rfl)))
   refine sp 4 rfl (?_)
   rcases cond_some h with ⟨g43, h⟩ | ⟨g43, h⟩
   ·exact qg 27 g43 rfl (sp 4 rfl (evn (kJ2 h _ (okr rfl))))
   ·exact qg 27 g43 rfl (sp 4 rfl (evn (kJ2 h _ (okr rfl))))
def impl_NewRelation_B1 (a0 : Int) (a1 : List (List Int)) (rec : Int → Option (Sum (Unit) (Y40 × Bool))) (y1 : Int) : Option (Sum (Unit) (Y40 × Bool)) := cond (decide (y1 < (List.length a1 : Int))) (obind (geti a1 y1) fun e5 => cond ((List.length e5 : Int) != a0) (some (.inr ((0, []), false))) (obind (impl_AreValidValues e5) fun v8 => cond (!v8) (some (.inr ((0, []), false))) (rec (IntKind.i64.wrap (y1 + 1))))) (some (.inl ()))
def impl_NewRelation (a0 : Int) (a1 : List (List Int)) : Option (Y40 × Bool) := obind (loopF (impl_NewRelation_B1 a0 a1) fz 0) fun o1 => (match o1 with
  | .inl _ => (obind (impl_sorted a1) fun v11 => obind (impl_IsValidRelation (a0, v11)) fun v14 => cond (!v14) (some ((0, []), false)) (some ((a0, v11), true)))
  | .inr r => some r)
theorem impl_NewRelation_s {a0 : Int} {a1 : List (List Int)} {r : Y40 × Bool} (h : impl_NewRelation a0 a1 = some r) : SoundAt Tryz.prog 121 [nI a0, dL c27_d a1] (.tup [.agg (c41_oo r.1), .bool r.2]) := by
 unfold impl_NewRelation at h
 refine st lit121 rfl (rn 1 rfl (ls_seq_k fun K1 hK1 => rn 1 rfl ?_))
 obtain ⟨o1, hl, hr1⟩ := ob_some h
 have kXB1 : (.inl ()) = o1 → Jn K1 [(0, nI a0), (1, dL c27_d a1), (4, .box [nI 0, oL 27 c27_o []])] := by
  intro h σ' hk
  subst h
  replace h := hr1
  try dsimp only at h
  refine hK1 _ (lh hk rfl (rs (sp 2 rfl (?_))))
  obtain ⟨v11, g12, h⟩ := ob_some h
  refine qC (qa rfl (erD ec27_d _) eran) (impl_sorted_s g12) (sp 3 rfl (evn (ls_seq_k fun K13 hK13 => rs (sp 1 rfl (?_)))))
  obtain ⟨v14, g15, h⟩ := ob_some h
  refine qC (qa rfl (erg (erc rfl (erc (erD ec27_o _) rfl))) eran) (impl_IsValidRelation_s g15) (sp 1 rfl (evn ?_))
  rcases cond_some h with ⟨g16, h⟩ | ⟨g16, h⟩
  ·exact qT rfl g16 (rn 1 rfl (ls_ret ((by cases h; exact ⟨.inl rfl, rfl⟩))))
  ·exact qF rfl g16 (ls_skip (hK13 _ (rn 1 rfl (ls_ret ((by cases h; exact ⟨.inl rfl, rfl⟩))))))
 refine ls_rec (fun (y1 : Int) => [(0, nI a0), (1, dL c27_d a1), (4, .box [nI 0, oL 27 c27_o []]), (9, dL c27_d a1), (10, nI (List.length a1 : Int)), (11, nI y1)]) _ _ _ _ hl (okr rfl) (fun _ => rfl) ?_
 rintro m y1 N h hN
 unfold impl_NewRelation_B1 at h
 refine rn 1 rfl (ls_seq_k fun K2 hK2 => ?_)
 rcases cond_some h with ⟨g3, h⟩ | ⟨g3, h⟩
 ·refine qT rfl g3 (ls_skip (hK2 _ (ls_seq_k fun K4 hK4 => ls_blk (rs ?_))))
  obtain ⟨e5, g6, h⟩ := ob_some h
  refine qI rfl zc27_d g6 (sp 2 rfl (evn (rs (sp 5 rfl (?_)))))
  rcases cond_some h with ⟨g7, h⟩ | ⟨g7, h⟩
  ·exact qg 19 g7 rfl (sp 4 rfl (evn (qT rfl rfl (rn 1 rfl (ls_ret ((by cases h; cases hr1; exact ⟨.inl rfl, rfl⟩)))))))
  ·refine qg 19 g7 rfl (sp 1 rfl (?_))
   obtain ⟨v8, g9, h⟩ := ob_some h
   refine oGR rfl rfl (qC (qa rfl (erD eci64 _) eran) (impl_AreValidValues_s g9) (sp 2 rfl (evn ?_)))
   rcases cond_some h with ⟨g10, h⟩ | ⟨g10, h⟩
   ·exact qT rfl g10 (rn 1 rfl (qk [4, 5] rfl (ls_ret ((by cases h; cases hr1; exact ⟨.inl rfl, rfl⟩)))))
   ·exact qF rfl g10 (ls_skip (hK4 _ (rg (sp 2 rfl (evn (hN _ _ h (okr rfl)))))))
 ·exact qF rfl g3 (ls_exit (kXB1 (Option.some.inj h) _ (okr rfl)))
def impl_columnsFit_B1 (a0 : Int) (a1 : List Int) (rec : Int → Option (Sum (Unit) (Bool))) (y1 : Int) : Option (Sum (Unit) (Bool)) := cond (decide (y1 < (List.length a1 : Int))) (obind (geti a1 y1) fun e7 => obind (impl_within e7 0 (IntKind.i64.wrap (a0 - 1))) fun v9 => cond (!v9) (some (.inr false)) (rec (IntKind.i64.wrap (y1 + 1)))) (some (.inl ()))
def impl_columnsFit (a0 : Int) (a1 : List Int) : Option (Bool) := cond (decide (5 < (List.length a1 : Int))) (some false) (obind (loopF (impl_columnsFit_B1 a0 a1) fz 0) fun o1 => (match o1 with
  | .inl _ => (some true)
  | .inr r => some r))
theorem impl_columnsFit_s {a0 : Int} {a1 : List Int} {r : Bool} (h : impl_columnsFit a0 a1 = some r) : SoundAt Tryz.prog 170 [nI a0, dL ci64 a1] (.bool r) := by
 unfold impl_columnsFit at h
 refine st lit170 rfl (rn 1 rfl (ls_seq_k fun K1 hK1 => rn 1 rfl ?_))
 rcases cond_some h with ⟨g2, h⟩ | ⟨g2, h⟩
 ·exact qT rfl g2 (rn 1 rfl (ls_ret ((by cases h; exact ⟨.inl rfl, rfl⟩))))
 ·refine qF rfl g2 (ls_skip (hK1 _ (ls_seq_k fun K3 hK3 => rn 1 rfl ?_)))
  obtain ⟨o1, hl, hr1⟩ := ob_some h
  have kXB1 : (.inl ()) = o1 → Jn K3 [] := by
   intro h σ' hk
   subst h
   replace h := hr1
   try dsimp only at h
   exact hK3 _ (lh hk rfl (rn 1 rfl (ls_ret ((by cases h; exact ⟨.inl rfl, rfl⟩)))))
  refine ls_rec (fun (y1 : Int) => [(0, nI a0), (10, dL ci64 a1), (11, nI (List.length a1 : Int)), (12, nI y1)]) _ _ _ _ hl (okr rfl) (fun _ => rfl) ?_
  rintro m y1 N h hN
  unfold impl_columnsFit_B1 at h
  refine rn 1 rfl (ls_seq_k fun K4 hK4 => ?_)
  rcases cond_some h with ⟨g5, h⟩ | ⟨g5, h⟩
  ·refine qT rfl g5 (ls_skip (hK4 _ (ls_seq_k fun K6 hK6 => ls_blk (rs ?_))))
   obtain ⟨e7, g8, h⟩ := ob_some h
   refine qI rfl zci64 g8 (sp 2 rfl (evn (rs (sp 3 rfl (?_)))))
   obtain ⟨v9, g10, h⟩ := ob_some h
   refine qC (qs rfl (qs rfl (qs rfl eran))) (impl_within_s g10) (sp 1 rfl (evn ?_))
   rcases cond_some h with ⟨g11, h⟩ | ⟨g11, h⟩
   ·exact qT rfl g11 (rn 1 rfl (ls_ret ((by cases h; cases hr1; exact ⟨.inl rfl, rfl⟩))))
   ·exact qF rfl g11 (ls_skip (hK6 _ (rg (sp 2 rfl (evn (hN _ _ h (okr rfl)))))))
  ·exact qF rfl g5 (ls_exit (kXB1 (Option.some.inj h) _ trivial))
def impl_pick_B1 (a0 : List Int) (a1 : List Int) (rec : ((List Int) × Int) → Option ((List Int))) (s : (List Int) × Int) : Option ((List Int)) := match s with
  | (y1, y2) => cond (decide (y2 < (List.length a1 : Int))) (obind (geti a1 y2) fun e6 => obind (geti a0 e6) fun e8 => chk (List.length y1 + List.length [e8] ≤ lim) (rec ((y1 ++ [e8]), (IntKind.i64.wrap (y2 + 1))))) (some y1)
def impl_pick (a0 : List Int) (a1 : List Int) : Option ((List Int)) := obind (loopF (impl_pick_B1 a0 a1) fz (([] : List Int), 0)) fun z2 => some z2
theorem impl_pick_s {a0 : List Int} {a1 : List Int} {r : (List Int)} (h : impl_pick a0 a1 = some r) : SoundAt Tryz.prog 172 [dL ci64 a0, dL ci64 a1] (oL 3 ci64 r) := by
 unfold impl_pick at h
 refine st lit172 rfl (rn 1 rfl (rs (qBs ci64 [] rfl rfl rfl zci64 (sp 1 rfl (evn (ls_seq_k fun K1 hK1 => rn 1 rfl ?_))))))
 obtain ⟨o1, hl, hr1⟩ := ob_some h
 have kXB1 : ∀ {z2 : List Int}, z2 = o1 → Jn K1 [(5, oL 3 ci64 z2)] := by
  intro z2 h σ' hk
  subst h
  replace h := hr1
  try dsimp only at h
  exact hK1 _ (lh hk rfl (rn 1 rfl (ls_ret ((by cases h; exact ⟨.inl rfl, rfl⟩)))))
 refine ls_rec (fun (s : (List Int) × Int) => match s with | (y1, y2) => [(0, dL ci64 a0), (5, oL 3 ci64 y1), (9, dL ci64 a1), (10, nI (List.length a1 : Int)), (11, nI y2)]) _ _ _ _ hl (okr rfl) (fun _ => rfl) ?_
 rintro m ⟨y1, y2⟩ N h hN
 unfold impl_pick_B1 at h
 dsimp only at h
 refine rn 1 rfl (ls_seq_k fun K3 hK3 => ?_)
 rcases cond_some h with ⟨g4, h⟩ | ⟨g4, h⟩
 ·refine qT rfl g4 (ls_skip (hK3 _ (ls_seq_k fun K5 hK5 => ls_blk (rs ?_))))
  obtain ⟨e6, g7, h⟩ := ob_some h
  refine qI rfl zci64 g7 (sp 2 rfl (evn (rg (sp 3 rfl (?_)))))
  obtain ⟨e8, g9, h⟩ := ob_some h
  refine qI rfl zci64 g9 (sp 1 rfl (qBs ci64 [e8] rfl rfl rfl zci64 (?_)))
  obtain ⟨g10, h⟩ := chk_some h
  exact qA ci64 y1 [e8] rfl rfl (flat_len zci64 [e8]) rfl g10 (sp 1 rfl (evn (hK5 _ (rg (sp 2 rfl (evn (hN _ _ h (okr rfl))))))))
 ·exact qF rfl g4 (ls_exit (kXB1 (Option.some.inj h) _ (okr rfl)))
def impl_Project_B1 (a0 : Y40) (a1 : List Int) (rec : ((List (List Int)) × Int) → Option ((List (List Int)))) (s : (List (List Int)) × Int) : Option ((List (List Int))) := match s with
  | (y1, y2) => cond (decide (y2 < (List.length a0.2 : Int))) (obind (geti a0.2 y2) fun e13 => obind (impl_pick e13 a1) fun v15 => chk (List.length y1 + List.length [v15] ≤ lim) (rec ((y1 ++ [v15]), (IntKind.i64.wrap (y2 + 1))))) (some y1)
def impl_Project (a0 : Y40) (a1 : List Int) : Option (Y40 × Bool) := obind (impl_IsValidRelation a0) fun v2 => cond (!v2) (some ((0, []), false)) (obind (impl_columnsFit a0.1 a1) fun v5 => cond (!v5) (some ((0, []), false)) (obind (loopF (impl_Project_B1 a0 a1) fz (([] : List (List Int)), 0)) fun z9 => obind (impl_NewRelation (List.length a1 : Int) z9) fun v18 => some (v18.1, v18.2)))
theorem impl_Project_s {a0 : Y40} {a1 : List Int} {r : Y40 × Bool} (h : impl_Project a0 a1 = some r) : SoundAt Tryz.prog 168 [.agg (c41_dd a0), dL ci64 a1] (.tup [.agg (c41_oo r.1), .bool r.2]) := by
 unfold impl_Project at h
 refine st lit168 rfl (rn 1 rfl (ls_seq_k fun K1 hK1 => rs (sp 1 rfl (?_))))
 obtain ⟨v2, g3, h⟩ := ob_some h
 refine qC (qa rfl (erg (erc rfl (erc (erD ec27_d _) rfl))) eran) (impl_IsValidRelation_s g3) (sp 2 rfl (?_))
 rcases cond_some h with ⟨g4, h⟩ | ⟨g4, h⟩
 ·exact qg 12 g4 rfl (sp 6 rfl (evn (qT rfl rfl (rn 1 rfl (ls_ret ((by cases h; exact ⟨.inl rfl, rfl⟩)))))))
 ·refine qg 12 g4 rfl (sp 3 rfl (?_))
  obtain ⟨v5, g6, h⟩ := ob_some h
  refine oGR rfl rfl (qC (qs rfl (qa rfl (erD eci64 _) eran)) (impl_columnsFit_s g6) (sp 2 rfl (evn ?_)))
  rcases cond_some h with ⟨g7, h⟩ | ⟨g7, h⟩
  ·exact qT rfl g7 (rn 1 rfl (ls_ret ((by cases h; exact ⟨.inl rfl, rfl⟩))))
  ·refine qF rfl g7 (ls_skip (hK1 _ (qk [1, 2, 4] rfl (rn 1 rfl (ls_seq_k fun K8 hK8 => rn 1 rfl ?_)))))
   obtain ⟨o1, hl, hr1⟩ := ob_some h
   have kXB1 : ∀ {z9 : List (List Int)}, z9 = o1 → Jn K8 [(1, dL ci64 a1), (4, .box [nI 0, oL 27 c27_o []]), (6, oL 27 c27_o z9)] := by
    intro z9 h σ' hk
    subst h
    replace h := hr1
    try dsimp only at h
    refine hK8 _ (lh hk rfl (rs (sp 3 rfl (?_))))
    obtain ⟨v18, g19, h⟩ := ob_some h
    exact qC (qs rfl (qa rfl (erD ec27_o _) eran)) (impl_NewRelation_s g19) (sp 4 rfl (evn (ls_ret ((by cases h; exact ⟨.inl rfl, rfl⟩)))))
   refine ls_rec (fun (s : (List (List Int)) × Int) => match s with | (y1, y2) => [(1, dL ci64 a1), (4, .box [nI 0, oL 27 c27_o []]), (6, oL 27 c27_o y1), (21, dL c27_d a0.2), (22, nI (List.length a0.2 : Int)), (23, nI y2)]) _ _ _ _ hl (okr rfl) (fun _ => rfl) ?_
   rintro m ⟨y1, y2⟩ N h hN
   unfold impl_Project_B1 at h
   dsimp only at h
   refine rn 1 rfl (ls_seq_k fun K10 hK10 => ?_)
   rcases cond_some h with ⟨g11, h⟩ | ⟨g11, h⟩
   ·refine qT rfl g11 (ls_skip (hK10 _ (ls_seq_k fun K12 hK12 => ls_blk (rs ?_))))
    obtain ⟨e13, g14, h⟩ := ob_some h
    refine qI rfl zc27_d g14 (sp 2 rfl (evn (rg (sp 3 rfl (?_)))))
    obtain ⟨v15, g16, h⟩ := ob_some h
    refine qC (qa rfl (erD eci64 _) (qa rfl (erD eci64 _) eran)) (impl_pick_s g16) (qBs c27_o [v15] rfl rfl rfl zc27_o (?_))
    obtain ⟨g17, h⟩ := chk_some h
    exact qA c27_o y1 [v15] rfl rfl (flat_len zc27_o [v15]) rfl g17 (sp 1 rfl (evn (hK12 _ (rg (sp 2 rfl (evn (hN _ _ h (okr rfl))))))))
   ·exact qF rfl g11 (ls_exit (kXB1 (Option.some.inj h) _ (okr rfl)))
def c179_dd (x : Y40) : List V := [nI x.1, dL c27_d x.2]
theorem zc179_dd (x : Y40) : (c179_dd x).length = 2 := rfl
theorem ec179_dd (x : Y40) : erL (c179_dd x) = c179_dd x := (erc rfl (erc (erD ec27_d _) rfl))
def c179_oo (x : Y40) : List V := [nI x.1, oL 27 c27_o x.2]
theorem zc179_oo (x : Y40) : (c179_oo x).length = 2 := rfl
theorem ec179_oo (x : Y40) : erL (c179_oo x) = c179_dd x := (erc rfl (erc (erO ec27_o _) rfl))
def impl_BuildTrie (a0 : Y40) (a1 : List Int) : Option (Y40 × Bool) := obind (impl_IsPermutation a1) fun v2 => cond (!v2) (some ((0, []), false)) (cond ((List.length a1 : Int) != a0.1) (some ((0, []), false)) (obind (impl_Project a0 a1) fun v6 => cond (!v6.2) (some ((0, []), false)) (some (v6.1, true))))
theorem impl_BuildTrie_s {a0 : Y40} {a1 : List Int} {r : Y40 × Bool} (h : impl_BuildTrie a0 a1 = some r) : SoundAt Tryz.prog 145 [.agg (c41_dd a0), dL ci64 a1] (.tup [.agg (c179_oo r.1), .bool r.2]) := by
 unfold impl_BuildTrie at h
 refine st lit145 rfl (rn 1 rfl (ls_seq_k fun K1 hK1 => rs (sp 1 rfl (?_))))
 obtain ⟨v2, g3, h⟩ := ob_some h
 refine qC (qa rfl (erD eci64 _) eran) (impl_IsPermutation_s g3) (sp 2 rfl (?_))
 rcases cond_some h with ⟨g4, h⟩ | ⟨g4, h⟩
 ·exact qg 11 g4 rfl (sp 6 rfl (evn (qT rfl rfl (rn 1 rfl (ls_ret ((by cases h; exact ⟨.inl rfl, rfl⟩)))))))
 ·refine qg 11 g4 rfl (sp 6 rfl (evn ?_))
  rcases cond_some h with ⟨g5, h⟩ | ⟨g5, h⟩
  ·exact qT rfl g5 (rn 1 rfl (ls_ret ((by cases h; exact ⟨.inl rfl, rfl⟩))))
  ·refine qF rfl g5 (ls_skip (hK1 _ (qk [1, 2, 4] rfl (rs (sp 2 rfl (?_))))))
   obtain ⟨v6, g7, h⟩ := ob_some h
   refine qC (qa rfl (erg (erc rfl (erc (erD ec27_d _) rfl))) (qa rfl (erD eci64 _) eran)) (impl_Project_s g7) (sp 6 rfl (evn (ls_seq_k fun K8 hK8 => rn 1 rfl ?_)))
   rcases cond_some h with ⟨g9, h⟩ | ⟨g9, h⟩
   ·exact qT rfl g9 (rn 1 rfl (ls_ret ((by cases h; exact ⟨.inl rfl, rfl⟩))))
   ·exact qF rfl g9 (ls_skip (hK8 _ (rn 1 rfl (ls_ret ((by cases h; exact ⟨.inl rfl, rfl⟩))))))
def impl_ContainsVariable (a0 : Y108) (a1 : Int) : Option (Bool) := obind (impl_hasInt a0.2 a1) fun v1 => some v1
theorem impl_ContainsVariable_s {a0 : Y108} {a1 : Int} {r : Bool} (h : impl_ContainsVariable a0 a1 = some r) : SoundAt Tryz.prog 174 [.agg (c109_d a0), nI a1] (.bool r) := by
 unfold impl_ContainsVariable at h
 refine st lit174 rfl (rn 1 rfl (rs (sp 3 rfl (?_))))
 obtain ⟨v1, g2, h⟩ := ob_some h
 exact qC (qa rfl (erD eci64 _) (qs rfl eran)) (impl_hasInt_s g2) (sp 1 rfl (evn (ls_ret ((by cases h; exact ⟨.inl rfl, rfl⟩)))))
def impl_AtomVariables_J2 (rec : ((List Int) × Int) → Option ((List Int))) (y2 : Int) (x8 : List Int) : Option ((List Int)) := rec (x8, (IntKind.i64.wrap (y2 + 1)))
def impl_AtomVariables_B1 (a0 : Y108) (rec : ((List Int) × Int) → Option ((List Int))) (s : (List Int) × Int) : Option ((List Int)) := match s with
  | (y1, y2) => cond (decide (y2 < 5)) (obind (impl_ContainsVariable a0 y2) fun v6 => cond v6 (chk (List.length y1 + List.length [y2] ≤ lim) (impl_AtomVariables_J2 rec y2 (y1 ++ [y2]))) (impl_AtomVariables_J2 rec y2 y1)) (some y1)
def impl_AtomVariables (a0 : Y108) : Option ((List Int)) := obind (loopF (impl_AtomVariables_B1 a0) fz (([] : List Int), 0)) fun z2 => some z2
theorem impl_AtomVariables_s {a0 : Y108} {r : (List Int)} (h : impl_AtomVariables a0 = some r) : SoundAt Tryz.prog 169 [.agg (c109_d a0)] (oL 3 ci64 r) := by
 unfold impl_AtomVariables at h
 refine st lit169 rfl (rn 2 rfl (ls_seq_k fun K1 hK1 => rn 1 rfl ?_))
 obtain ⟨o1, hl, hr1⟩ := ob_some h
 have kXB1 : ∀ {z2 : List Int}, z2 = o1 → Jn K1 [(3, oL 3 ci64 z2)] := by
  intro z2 h σ' hk
  subst h
  replace h := hr1
  try dsimp only at h
  exact hK1 _ (lh hk rfl (rn 1 rfl (ls_ret ((by cases h; exact ⟨.inl rfl, rfl⟩)))))
 refine ls_rec (fun (s : (List Int) × Int) => match s with | (y1, y2) => [(1, .box [.str a0.1, dL ci64 a0.2]), (3, oL 3 ci64 y1), (4, nI y2)]) _ _ _ _ hl (okr rfl) (fun _ => rfl) ?_
 rintro m ⟨y1, y2⟩ N h hN
 unfold impl_AtomVariables_B1 at h
 dsimp only at h
 refine ls_seq_k fun K3 hK3 => rn 1 rfl ?_
 rcases cond_some h with ⟨g4, h⟩ | ⟨g4, h⟩
 ·refine qT rfl g4 (ls_skip (hK3 _ (ls_seq_k fun K5 hK5 => ls_blk (rs (sp 2 rfl (?_))))))
  obtain ⟨v6, g7, h⟩ := ob_some h
  refine qC (qa rfl (erg (erc rfl (erc (erD eci64 _) rfl))) (qs rfl eran)) (impl_ContainsVariable_s g7) (evn ?_)
  have kJ2 : ∀ {x8 : List Int}, impl_AtomVariables_J2 (loopF (impl_AtomVariables_B1 a0) m) y2 x8 = some o1 → Jn K5 [(1, .box [.str a0.1, dL ci64 a0.2]), (3, oL 3 ci64 x8), (4, nI y2)] := by
   intro x8 h σ' hk
   unfold impl_AtomVariables_J2 at h
   exact hK5 _ (lh hk rfl (rg (sp 3 rfl (evn (hN _ _ h (okr rfl))))))
  rcases cond_some h with ⟨g9, h⟩ | ⟨g9, h⟩
  ·refine qT rfl g9 (rg (sp 2 rfl (qBs ci64 [y2] rfl rfl rfl zci64 (?_))))
   obtain ⟨g10, h⟩ := chk_some h
   exact qA ci64 y1 [y2] rfl rfl (flat_len zci64 [y2]) rfl g10 (sp 1 rfl (evn (kJ2 h _ (okr rfl))))
  ·exact qF rfl g9 (ls_skip (kJ2 h _ (okr rfl)))
 ·exact qF rfl g4 (ls_exit (kXB1 (Option.some.inj h) _ (okr rfl)))
def impl_AtomBindings_J3 (rec : ((List Int) × Bool × Int) → Option ((List Int) × Bool)) (e16 : List Int) (y9 : List Int) (y11 : Int) (e25 : Int) (x30 : Bool) : Option ((List Int) × Bool) := obind (geti e16 y11) fun e31 => obind (geti y9 e25) fun e33 => rec ((seti y9 e25 e31), x30, (IntKind.i64.wrap (y11 + 1)))
def impl_AtomBindings_B2 (a1 : Y108) (e16 : List Int) (rec : ((List Int) × Bool × Int) → Option ((List Int) × Bool)) (s : (List Int) × Bool × Int) : Option ((List Int) × Bool) := match s with
  | (y9, y10, y11) => cond (decide (y11 < (List.length a1.2 : Int))) (obind (geti a1.2 y11) fun e25 => obind (impl_indexOf a1.2 e25) fun v27 => cond y10 (obind (geti e16 v27) fun e36 => obind (geti e16 y11) fun e38 => impl_AtomBindings_J3 rec e16 y9 y11 e25 (e36 == e38)) (impl_AtomBindings_J3 rec e16 y9 y11 e25 false)) (some (y9, y10))
def impl_AtomBindings_J4 (rec : ((List (List Int)) × Int) → Option ((List (List Int)))) (y5 : Int) (x40 : List (List Int)) : Option ((List (List Int))) := rec (x40, (IntKind.i64.wrap (y5 + 1)))
def impl_AtomBindings_B1 (a1 : Y108) (v1 : (List Int)) (v3 : Y40 × Bool) (rec : ((List (List Int)) × Int) → Option ((List (List Int)))) (s : (List (List Int)) × Int) : Option ((List (List Int))) := match s with
  | (y4, y5) => cond (decide (y5 < (List.length v3.1.2 : Int))) (obind (geti v3.1.2 y5) fun e16 => chk ((0 : Int) ≤ 5 ∧ Int.toNat 5 ≤ lim) (obind (loopF (impl_AtomBindings_B2 a1 e16) fz ((List.replicate (Int.toNat 5) (0 : Int)), true, 0)) fun o2 => (match o2 with
  | (z20, z21) => (cond z21 (obind (impl_pick z20 v1) fun v42 => chk (List.length y4 + List.length [v42] ≤ lim) (impl_AtomBindings_J4 rec y5 (y4 ++ [v42]))) (impl_AtomBindings_J4 rec y5 y4))))) (some y4)
def impl_AtomBindings (a0 : List Y113) (a1 : Y108) : Option (Y40) := obind (impl_AtomVariables a1) fun v1 => obind (impl_LookupRelation a0 a1.1) fun v3 => cond (!v3.2) (some ((List.length v1 : Int), [])) (cond (v3.1.1 != (List.length a1.2 : Int)) (some ((List.length v1 : Int), [])) (obind (impl_columnsFit 5 a1.2) fun v8 => cond (!v8) (some ((List.length v1 : Int), [])) (obind (loopF (impl_AtomBindings_B1 a1 v1 v3) fz (([] : List (List Int)), 0)) fun z12 => obind (impl_sorted z12) fun v45 => some ((List.length v1 : Int), v45))))
theorem impl_AtomBindings_s {a0 : List Y113} {a1 : Y108} {r : Y40} (h : impl_AtomBindings a0 a1 = some r) : SoundAt Tryz.prog 146 [.agg [dL c114_dd a0], .agg (c109_d a1)] (.agg (c41_oo r)) := by
 unfold impl_AtomBindings at h
 refine st lit146 rfl (rn 1 rfl (rs (sp 1 rfl (?_))))
 obtain ⟨v1, g2, h⟩ := ob_some h
 refine qC (qa rfl (erg (erc rfl (erc (erD eci64 _) rfl))) eran) (impl_AtomVariables_s g2) (sp 1 rfl (evn (rn 1 rfl (rs (sp 3 rfl (?_))))))
 obtain ⟨v3, g4, h⟩ := ob_some h
 refine qC (qa rfl (erg (erc (erD ec114_dd _) rfl)) (qs rfl eran)) (impl_LookupRelation_s g4) (sp 6 rfl (evn (ls_seq_k fun K5 hK5 => rs (sp 3 rfl (?_)))))
 rcases cond_some h with ⟨g6, h⟩ | ⟨g6, h⟩
 ·exact qg 31 g6 rfl (sp 13 rfl (evn (qk [3, 4, 5, 6, 7, 44] rfl (qT rfl rfl (rn 1 rfl (ls_ret ((by cases h; exact ⟨.inl rfl, rfl⟩))))))))
 ·refine qg 31 g6 rfl (sp 8 rfl (?_))
  rcases cond_some h with ⟨g7, h⟩ | ⟨g7, h⟩
  ·exact qg 39 g7 rfl (sp 5 rfl (evn (qT rfl rfl (rn 1 rfl (ls_ret ((by cases h; exact ⟨.inl rfl, rfl⟩)))))))
  ·refine qg 39 g7 rfl (sp 2 rfl (?_))
   obtain ⟨v8, g9, h⟩ := ob_some h
   refine oGR rfl rfl (qC (qs rfl (qa rfl (erD eci64 _) eran)) (impl_columnsFit_s g9) (sp 2 rfl (evn ?_)))
   rcases cond_some h with ⟨g10, h⟩ | ⟨g10, h⟩
   ·exact qT rfl g10 (rn 1 rfl (ls_ret ((by cases h; exact ⟨.inl rfl, rfl⟩))))
   ·refine qF rfl g10 (ls_skip (hK5 _ (qk [3, 4, 5, 6, 7] rfl (rn 1 rfl (ls_seq_k fun K11 hK11 => rn 1 rfl ?_)))))
    obtain ⟨o1, hl, hr1⟩ := ob_some h
    have kXB1 : ∀ {z12 : List (List Int)}, z12 = o1 → Jn K11 [(4, .box [nI 0, oL 27 c27_o []]), (6, .box [nI (List.length v1 : Int), oL 27 c27_o []]), (9, oL 27 c27_o z12)] := by
     intro z12 h σ' hk
     subst h
     replace h := hr1
     try dsimp only at h
     refine hK11 _ (lh hk rfl (rs (sp 1 rfl (?_))))
     obtain ⟨v45, g46, h⟩ := ob_some h
     exact qC (qa rfl (erD ec27_o _) eran) (impl_sorted_s g46) (sp 2 rfl (evn (rn 1 rfl (ls_ret ((by cases h; exact ⟨.inl rfl, rfl⟩))))))
    refine ls_rec (fun (s : (List (List Int)) × Int) => match s with | (y4, y5) => [(3, .box [.str a1.1, dL ci64 a1.2]), (4, .box [nI 0, oL 27 c27_o []]), (5, oL 3 ci64 v1), (6, .box [nI (List.length v1 : Int), oL 27 c27_o []]), (9, oL 27 c27_o y4), (47, dL c27_o v3.1.2), (48, nI (List.length v3.1.2 : Int)), (49, nI y5)]) _ _ _ _ hl (okr rfl) (fun _ => rfl) ?_
    rintro m ⟨y4, y5⟩ N h hN
    unfold impl_AtomBindings_B1 at h
    dsimp only at h
    refine rn 1 rfl (ls_seq_k fun K13 hK13 => ?_)
    rcases cond_some h with ⟨g14, h⟩ | ⟨g14, h⟩
    ·refine qT rfl g14 (ls_skip (hK13 _ (ls_seq_k fun K15 hK15 => ls_blk (rs ?_))))
     obtain ⟨e16, g17, h⟩ := ob_some h
     refine qI rfl zc27_o g17 (sp 2 rfl (evn (rs ?_)))
     obtain ⟨g18, h⟩ := chk_some h
     refine qMu ci64 (0 : Int) rfl rfl rfl rfl g18 rfl (qAu rfl rfl rfl rfl (evn (rn 1 rfl (ls_seq_k fun K19 hK19 => rn 1 rfl ?_))))
     obtain ⟨o2, hl, hr2⟩ := ob_some h
     have kXB2 : ∀ {z20 : List Int} {z21 : Bool}, (z20, z21) = o2 → Jn K19 [(3, .box [.str a1.1, dL ci64 a1.2]), (4, .box [nI 0, oL 27 c27_o []]), (5, oL 3 ci64 v1), (6, .box [nI (List.length v1 : Int), oL 27 c27_o []]), (9, oL 27 c27_o y4), (12, wL 3 ci64 z20), (13, .bool z21), (47, dL c27_o v3.1.2), (48, nI (List.length v3.1.2 : Int)), (49, nI y5)] := by
      intro z20 z21 h σ' hk
      subst h
      replace h := hr2
      try dsimp only at h
      refine hK19 _ (lh hk rfl (rn 1 rfl ?_))
      have kJ4 : ∀ {x40 : List (List Int)}, impl_AtomBindings_J4 (loopF (impl_AtomBindings_B1 a1 v1 v3) m) y5 x40 = some o1 → Jn K15 [(3, .box [.str a1.1, dL ci64 a1.2]), (4, .box [nI 0, oL 27 c27_o []]), (5, oL 3 ci64 v1), (6, .box [nI (List.length v1 : Int), oL 27 c27_o []]), (9, oL 27 c27_o x40), (47, dL c27_o v3.1.2), (48, nI (List.length v3.1.2 : Int)), (49, nI y5)] := by
       intro x40 h σ' hk
       unfold impl_AtomBindings_J4 at h
       exact hK15 _ (lh hk rfl (rg (sp 2 rfl (evn (hN _ _ h (okr rfl))))))
      rcases cond_some h with ⟨g41, h⟩ | ⟨g41, h⟩
      ·refine qT rfl g41 (rg (sp 1 rfl (qTu rfl rfl rfl (sp 1 rfl (?_)))))
       obtain ⟨v42, g43, h⟩ := ob_some h
       refine qC (qa rfl (erO eci64 _) (qa rfl (erD eci64 _) eran)) (impl_pick_s g43) (qBs c27_o [v42] rfl rfl rfl zc27_o (?_))
       obtain ⟨g44, h⟩ := chk_some h
       exact qA c27_o y4 [v42] rfl rfl (flat_len zc27_o [v42]) rfl g44 (sp 1 rfl (evn (kJ4 h _ (okr rfl))))
      ·exact qF rfl g41 (ls_skip (kJ4 h _ (okr rfl)))
     refine ls_rec (fun (s : (List Int) × Bool × Int) => match s with | (y9, y10, y11) => [(3, .box [.str a1.1, dL ci64 a1.2]), (4, .box [nI 0, oL 27 c27_o []]), (5, oL 3 ci64 v1), (6, .box [nI (List.length v1 : Int), oL 27 c27_o []]), (9, oL 27 c27_o y4), (11, dL ci64 e16), (12, wL 3 ci64 y9), (13, .bool y10), (47, dL c27_o v3.1.2), (48, nI (List.length v3.1.2 : Int)), (49, nI y5), (55, dL ci64 a1.2), (56, nI (List.length a1.2 : Int)), (57, nI y11)]) _ _ _ _ hl (okr rfl) (fun _ => rfl) ?_
     rintro m ⟨y9, y10, y11⟩ N h hN
     unfold impl_AtomBindings_B2 at h
     dsimp only at h
     refine rn 1 rfl (ls_seq_k fun K22 hK22 => ?_)
     rcases cond_some h with ⟨g23, h⟩ | ⟨g23, h⟩
     ·refine qT rfl g23 (ls_skip (hK22 _ (ls_seq_k fun K24 hK24 => ls_blk (rs (sp 1 rfl (?_))))))
      obtain ⟨e25, g26, h⟩ := ob_some h
      refine qI rfl zci64 g26 (sp 3 rfl (evn (rs (sp 3 rfl (?_)))))
      obtain ⟨v27, g28, h⟩ := ob_some h
      refine qC (qa rfl (erD eci64 _) (qs rfl eran)) (impl_indexOf_s g28) (sp 1 rfl (evn (rdk (by kernel_rfl) fun K29 hK29 => ?_)))
      have kJ3 : ∀ {x30 : Bool}, impl_AtomBindings_J3 (loopF (impl_AtomBindings_B2 a1 e16) m) e16 y9 y11 e25 x30 = some o2 → Jn K29 [(3, .box [.str a1.1, dL ci64 a1.2]), (4, .box [nI 0, oL 27 c27_o []]), (5, oL 3 ci64 v1), (6, .box [nI (List.length v1 : Int), oL 27 c27_o []]), (9, oL 27 c27_o y4), (11, dL ci64 e16), (12, wL 3 ci64 y9), (13, .bool x30), (14, nI y11), (15, nI e25), (47, dL c27_o v3.1.2), (48, nI (List.length v3.1.2 : Int)), (49, nI y5), (55, dL ci64 a1.2), (56, nI (List.length a1.2 : Int)), (57, nI y11)] := by
       intro x30 h σ' hk
       unfold impl_AtomBindings_J3 at h
       refine hK29 _ (lh hk rfl (rg (sp 4 rfl (?_))))
       obtain ⟨e31, g32, h⟩ := ob_some h
       refine qI rfl zci64 g32 (sp 1 rfl (?_))
       obtain ⟨e33, g34, h⟩ := ob_some h
       exact qIu rfl ⟨(geti_some g34).1, (geti_some g34).2.1⟩ (qSu e31 rfl rfl zci64 ⟨(geti_some g34).1, (geti_some g34).2.1⟩ rfl rfl rfl rfl rfl rfl (evn (hK24 _ (rg (sp 2 rfl (evn (hN _ _ h (okr rfl))))))))
      refine sd 2 rfl (?_)
      rcases cond_some h with ⟨g35, h⟩ | ⟨g35, h⟩
      ·refine qgd 67 g35 rfl (sd 2 rfl (?_))
       obtain ⟨e36, g37, h⟩ := ob_some h
       refine ed rfl (oGR rfl rfl (qI rfl zci64 g37 (sd 3 rfl (?_))))
       obtain ⟨e38, g39, h⟩ := ob_some h
       exact ed rfl (oGR rfl rfl (qI rfl zci64 g39 (sd 4 rfl (evdn (kJ3 h _ (okr rfl))))))
      ·exact qgd 67 g35 rfl (sd 11 rfl (evdn (kJ3 h _ (okr rfl))))
     ·exact qF rfl g23 (ls_exit (kXB2 (Option.some.inj h) _ (okr rfl)))
    ·exact qF rfl g14 (ls_exit (kXB1 (Option.some.inj h) _ (okr rfl)))
def impl_ColumnsForOrder_J3 (rec : ((List Int) × Int) → Option ((List Int))) (y2 : Int) (x14 : List Int) : Option ((List Int)) := rec (x14, (IntKind.i64.wrap (y2 + 1)))
def impl_ColumnsForOrder_J2 (rec : ((List Int) × Int) → Option ((List Int))) (y1 : List Int) (y2 : Int) (v10 : Int) (x13 : Bool) : Option ((List Int)) := cond x13 (chk (List.length y1 + List.length [v10] ≤ lim) (impl_ColumnsForOrder_J3 rec y2 (y1 ++ [v10]))) (impl_ColumnsForOrder_J3 rec y2 y1)
def impl_ColumnsForOrder_B1 (a1 : List Int) (v1 : (List Int)) (rec : ((List Int) × Int) → Option ((List Int))) (s : (List Int) × Int) : Option ((List Int)) := match s with
  | (y1, y2) => cond (decide (y2 < (List.length a1 : Int))) (obind (geti a1 y2) fun e8 => obind (impl_indexOf v1 e8) fun v10 => cond (decide (0 ≤ v10)) (obind (impl_hasInt y1 v10) fun v18 => impl_ColumnsForOrder_J2 rec y1 y2 v10 (!v18)) (impl_ColumnsForOrder_J2 rec y1 y2 v10 false)) (some y1)
def impl_ColumnsForOrder (a0 : Y108) (a1 : List Int) : Option ((List Int)) := obind (impl_AtomVariables a0) fun v1 => obind (loopF (impl_ColumnsForOrder_B1 a1 v1) fz (([] : List Int), 0)) fun z4 => some z4
theorem impl_ColumnsForOrder_s {a0 : Y108} {a1 : List Int} {r : (List Int)} (h : impl_ColumnsForOrder a0 a1 = some r) : SoundAt Tryz.prog 147 [.agg (c109_d a0), dL ci64 a1] (oL 3 ci64 r) := by
 unfold impl_ColumnsForOrder at h
 refine st lit147 rfl (rn 1 rfl (rs (sp 1 rfl (?_))))
 obtain ⟨v1, g2, h⟩ := ob_some h
 refine qC (qa rfl (erg (erc rfl (erc (erD eci64 _) rfl))) eran) (impl_AtomVariables_s g2) (sp 1 rfl (evn (rn 1 rfl (ls_seq_k fun K3 hK3 => rn 1 rfl ?_))))
 obtain ⟨o1, hl, hr1⟩ := ob_some h
 have kXB1 : ∀ {z4 : List Int}, z4 = o1 → Jn K3 [(6, oL 3 ci64 z4)] := by
  intro z4 h σ' hk
  subst h
  replace h := hr1
  try dsimp only at h
  exact hK3 _ (lh hk rfl (rn 1 rfl (ls_ret ((by cases h; exact ⟨.inl rfl, rfl⟩)))))
 refine ls_rec (fun (s : (List Int) × Int) => match s with | (y1, y2) => [(5, oL 3 ci64 v1), (6, oL 3 ci64 y1), (12, dL ci64 a1), (13, nI (List.length a1 : Int)), (14, nI y2)]) _ _ _ _ hl (okr rfl) (fun _ => rfl) ?_
 rintro m ⟨y1, y2⟩ N h hN
 unfold impl_ColumnsForOrder_B1 at h
 dsimp only at h
 refine rn 1 rfl (ls_seq_k fun K5 hK5 => ?_)
 rcases cond_some h with ⟨g6, h⟩ | ⟨g6, h⟩
 ·refine qT rfl g6 (ls_skip (hK5 _ (ls_seq_k fun K7 hK7 => ls_blk (rs ?_))))
  obtain ⟨e8, g9, h⟩ := ob_some h
  refine qI rfl zci64 g9 (sp 2 rfl (evn (rs (sp 2 rfl (?_)))))
  obtain ⟨v10, g11, h⟩ := ob_some h
  refine qC (qa rfl (erD eci64 _) (qs rfl eran)) (impl_indexOf_s g11) (sp 1 rfl (evn (rk fun K12 hK12 => ?_)))
  have kJ2 : ∀ {x13 : Bool}, impl_ColumnsForOrder_J2 (loopF (impl_ColumnsForOrder_B1 a1 v1) m) y1 y2 v10 x13 = some o1 → Jn K12 [(5, oL 3 ci64 v1), (6, oL 3 ci64 y1), (9, nI v10), (12, dL ci64 a1), (13, nI (List.length a1 : Int)), (14, nI y2), (28, .bool x13)] := by
   intro x13 h σ' hk
   unfold impl_ColumnsForOrder_J2 at h
   refine hK12 _ (lh hk rfl ?_)
   have kJ3 : ∀ {x14 : List Int}, impl_ColumnsForOrder_J3 (loopF (impl_ColumnsForOrder_B1 a1 v1) m) y2 x14 = some o1 → Jn K7 [(5, oL 3 ci64 v1), (6, oL 3 ci64 x14), (12, dL ci64 a1), (13, nI (List.length a1 : Int)), (14, nI y2)] := by
    intro x14 h σ' hk
    unfold impl_ColumnsForOrder_J3 at h
    exact hK7 _ (lh hk rfl (rg (sp 2 rfl (evn (hN _ _ h (okr rfl))))))
   rcases cond_some h with ⟨g15, h⟩ | ⟨g15, h⟩
   ·refine qT rfl g15 (rg (sp 2 rfl (qBs ci64 [v10] rfl rfl rfl zci64 (?_))))
    obtain ⟨g16, h⟩ := chk_some h
    exact qA ci64 y1 [v10] rfl rfl (flat_len zci64 [v10]) rfl g16 (sp 1 rfl (evn (kJ3 h _ (okr rfl))))
   ·exact qF rfl g15 (ls_skip (kJ3 h _ (okr rfl)))
  refine sp 3 rfl (?_)
  rcases cond_some h with ⟨g17, h⟩ | ⟨g17, h⟩
  ·refine qg 23 g17 rfl (sp 2 rfl (?_))
   obtain ⟨v18, g19, h⟩ := ob_some h
   exact oGR rfl rfl (qC (qa rfl (erD eci64 _) (qs rfl eran)) (impl_hasInt_s g19) (sp 2 rfl (evn (kJ2 h _ (okr rfl)))))
  ·exact qg 23 g17 rfl (sp 5 rfl (evn (kJ2 h _ (okr rfl))))
 ·exact qF rfl g6 (ls_exit (kXB1 (Option.some.inj h) _ (okr rfl)))
def impl_BuildTries_B1 (a0 : List Y113) (a1 : Y29) (a2 : List Int) (rec : ((List Y40) × Int) → Option ((List Y40))) (s : (List Y40) × Int) : Option ((List Y40)) := match s with
  | (y1, y2) => cond (decide (y2 < (List.length a1.2.1 : Int))) (obind (geti a1.2.1 y2) fun e13 => obind (impl_AtomBindings a0 e13) fun v15 => obind (impl_ColumnsForOrder e13 a2) fun v17 => obind (impl_BuildTrie v15 v17) fun v19 => chk (List.length y1 + List.length [v19.1] ≤ lim) (rec ((y1 ++ [v19.1]), (IntKind.i64.wrap (y2 + 1))))) (some y1)
def impl_BuildTries (a0 : List Y113) (a1 : Y29) (a2 : List Int) : Option ((List Y40) × Bool) := obind (impl_IsQueryFor a0 a1) fun v2 => cond (!v2) (some (([] : List Y40), false)) (obind (impl_IsValidOrder a1 a2) fun v5 => cond (!v5) (some (([] : List Y40), false)) (obind (loopF (impl_BuildTries_B1 a0 a1 a2) fz (([] : List Y40), 0)) fun z9 => some (z9, true)))
theorem impl_BuildTries_s {a0 : List Y113} {a1 : Y29} {a2 : List Int} {r : (List Y40) × Bool} (h : impl_BuildTries a0 a1 a2 = some r) : SoundAt Tryz.prog 105 [.agg [dL c114_dd a0], .agg (c30_ddd a1), dL ci64 a2] (.tup [oL 179 c179_oo r.1, .bool r.2]) := by
 unfold impl_BuildTries at h
 refine st lit105 rfl (rn 1 rfl (ls_seq_k fun K1 hK1 => rs (sp 2 rfl (?_))))
 obtain ⟨v2, g3, h⟩ := ob_some h
 refine qC (qa rfl (erg (erc (erD ec114_dd _) rfl)) (qa rfl (erg (erc rfl (erc (erD ec109_d _) (erc (erD eci64 _) rfl)))) eran)) (impl_IsQueryFor_s g3) (sp 2 rfl (?_))
 rcases cond_some h with ⟨g4, h⟩ | ⟨g4, h⟩
 ·exact qg 17 g4 rfl (sp 5 rfl (evn (qT rfl rfl (rn 1 rfl (ls_ret ((by cases h; exact ⟨.inl rfl, rfl⟩)))))))
 ·refine qg 17 g4 rfl (sp 2 rfl (?_))
  obtain ⟨v5, g6, h⟩ := ob_some h
  refine oGR rfl rfl (qC (qa rfl (erg (erc rfl (erc (erD ec109_d _) (erc (erD eci64 _) rfl)))) (qa rfl (erD eci64 _) eran)) (impl_IsValidOrder_s g6) (sp 2 rfl (evn ?_)))
  rcases cond_some h with ⟨g7, h⟩ | ⟨g7, h⟩
  ·exact qT rfl g7 (rn 1 rfl (ls_ret ((by cases h; exact ⟨.inl rfl, rfl⟩))))
  ·refine qF rfl g7 (ls_skip (hK1 _ (qk [2, 3, 4] rfl (rn 1 rfl (ls_seq_k fun K8 hK8 => rn 1 rfl ?_)))))
   obtain ⟨o1, hl, hr1⟩ := ob_some h
   have kXB1 : ∀ {z9 : List Y40}, z9 = o1 → Jn K8 [(8, oL 179 c179_oo z9)] := by
    intro z9 h σ' hk
    subst h
    replace h := hr1
    try dsimp only at h
    exact hK8 _ (lh hk rfl (rn 1 rfl (ls_ret ((by cases h; exact ⟨.inl rfl, rfl⟩)))))
   refine ls_rec (fun (s : (List Y40) × Int) => match s with | (y1, y2) => [(2, dL ci64 a2), (3, .box [dL c114_dd a0]), (8, oL 179 c179_oo y1), (24, dL c109_d a1.2.1), (25, nI (List.length a1.2.1 : Int)), (26, nI y2)]) _ _ _ _ hl (okr rfl) (fun _ => rfl) ?_
   rintro m ⟨y1, y2⟩ N h hN
   unfold impl_BuildTries_B1 at h
   dsimp only at h
   refine rn 1 rfl (ls_seq_k fun K10 hK10 => ?_)
   rcases cond_some h with ⟨g11, h⟩ | ⟨g11, h⟩
   ·refine qT rfl g11 (ls_skip (hK10 _ (ls_seq_k fun K12 hK12 => ls_blk (rs ?_))))
    obtain ⟨e13, g14, h⟩ := ob_some h
    refine qI rfl zc109_d g14 (sp 3 rfl (evn (rd (by kernel_rfl) (sd 2 rfl (?_)))))
    obtain ⟨v15, g16, h⟩ := ob_some h
    refine ed rfl (qC (qa rfl (erg (erc (erD ec114_dd _) rfl)) (qa rfl (erg (erc rfl (erc (erD eci64 _) rfl))) eran)) (impl_AtomBindings_s g16) (sd 2 rfl (?_)))
    obtain ⟨v17, g18, h⟩ := ob_some h
    refine ed rfl (qC (qa rfl (erg (erc rfl (erc (erD eci64 _) rfl))) (qa rfl (erD eci64 _) eran)) (impl_ColumnsForOrder_s g18) (?_))
    obtain ⟨v19, g20, h⟩ := ob_some h
    refine ed rfl (qC (qa rfl (erg (erc rfl (erc (erO ec27_o _) rfl))) (qa rfl (erO eci64 _) eran)) (impl_BuildTrie_s g20) (sd 6 rfl (evdn (rg (sp 2 rfl (qBs c179_oo [v19.1] rfl rfl rfl zc179_oo (?_)))))))
    obtain ⟨g21, h⟩ := chk_some h
    exact qA c179_oo y1 [v19.1] rfl rfl (flat_len zc179_oo [v19.1]) rfl g21 (sp 1 rfl (evn (hK12 _ (rg (sp 2 rfl (evn (hN _ _ h (okr rfl))))))))
   ·exact qF rfl g11 (ls_exit (kXB1 (Option.some.inj h) _ (okr rfl)))
def impl_someEmpty_B1 (a0 : List Y40) (rec : Int → Option (Sum (Unit) (Bool))) (y1 : Int) : Option (Sum (Unit) (Bool)) := cond (decide (y1 < (List.length a0 : Int))) (obind (geti a0 y1) fun e5 => cond ((List.length e5.2 : Int) == 0) (some (.inr true)) (rec (IntKind.i64.wrap (y1 + 1)))) (some (.inl ()))
def impl_someEmpty (a0 : List Y40) : Option (Bool) := obind (loopF (impl_someEmpty_B1 a0) fz 0) fun o1 => (match o1 with
  | .inl _ => (some false)
  | .inr r => some r)
theorem impl_someEmpty_s {a0 : List Y40} {r : Bool} (h : impl_someEmpty a0 = some r) : SoundAt Tryz.prog 106 [dL c179_dd a0] (.bool r) := by
 unfold impl_someEmpty at h
 refine st lit106 rfl (rn 1 rfl (ls_seq_k fun K1 hK1 => rn 1 rfl ?_))
 obtain ⟨o1, hl, hr1⟩ := ob_some h
 have kXB1 : (.inl ()) = o1 → Jn K1 [] := by
  intro h σ' hk
  subst h
  replace h := hr1
  try dsimp only at h
  exact hK1 _ (lh hk rfl (rn 1 rfl (ls_ret ((by cases h; exact ⟨.inl rfl, rfl⟩)))))
 refine ls_rec (fun (y1 : Int) => [(5, dL c179_dd a0), (6, nI (List.length a0 : Int)), (7, nI y1)]) _ _ _ _ hl (okr rfl) (fun _ => rfl) ?_
 rintro m y1 N h hN
 unfold impl_someEmpty_B1 at h
 refine rn 1 rfl (ls_seq_k fun K2 hK2 => ?_)
 rcases cond_some h with ⟨g3, h⟩ | ⟨g3, h⟩
 ·refine qT rfl g3 (ls_skip (hK2 _ (ls_seq_k fun K4 hK4 => ls_blk (rs ?_))))
  obtain ⟨e5, g6, h⟩ := ob_some h
  refine qI rfl zc179_dd g6 (sp 3 rfl (evn (rn 1 rfl ?_)))
  rcases cond_some h with ⟨g7, h⟩ | ⟨g7, h⟩
  ·exact qT rfl g7 (rn 1 rfl (ls_ret ((by cases h; cases hr1; exact ⟨.inl rfl, rfl⟩))))
  ·exact qF rfl g7 (ls_skip (hK4 _ (rg (sp 2 rfl (evn (hN _ _ h (okr rfl)))))))
 ·exact qF rfl g3 (ls_exit (kXB1 (Option.some.inj h) _ trivial))
def impl_IsStrictlyAscending_B1 (a0 : List Int) (rec : Int → Option (Sum (Unit) (Bool))) (y1 : Int) : Option (Sum (Unit) (Bool)) := cond (decide (y1 < (List.length a0 : Int))) (obind (geti a0 (IntKind.i64.wrap (y1 - 1))) fun e5 => obind (geti a0 y1) fun e7 => cond (decide (e7 ≤ e5)) (some (.inr false)) (rec (IntKind.i64.wrap (y1 + 1)))) (some (.inl ()))
def impl_IsStrictlyAscending (a0 : List Int) : Option (Bool) := obind (loopF (impl_IsStrictlyAscending_B1 a0) fz 1) fun o1 => (match o1 with
  | .inl _ => (some true)
  | .inr r => some r)
theorem impl_IsStrictlyAscending_s {a0 : List Int} {r : Bool} (h : impl_IsStrictlyAscending a0 = some r) : SoundAt Tryz.prog 176 [dL ci64 a0] (.bool r) := by
 unfold impl_IsStrictlyAscending at h
 refine st lit176 rfl (rn 1 rfl (ls_seq_k fun K1 hK1 => rn 1 rfl ?_))
 obtain ⟨o1, hl, hr1⟩ := ob_some h
 have kXB1 : (.inl ()) = o1 → Jn K1 [] := by
  intro h σ' hk
  subst h
  replace h := hr1
  try dsimp only at h
  exact hK1 _ (lh hk rfl (rn 1 rfl (ls_ret ((by cases h; exact ⟨.inl rfl, rfl⟩)))))
 refine ls_rec (fun (y1 : Int) => [(0, dL ci64 a0), (3, nI y1)]) _ _ _ _ hl (okr rfl) (fun _ => rfl) ?_
 rintro m y1 N h hN
 unfold impl_IsStrictlyAscending_B1 at h
 refine ls_seq_k fun K2 hK2 => rn 1 rfl ?_
 rcases cond_some h with ⟨g3, h⟩ | ⟨g3, h⟩
 ·refine qT rfl g3 (ls_skip (hK2 _ (ls_seq_k fun K4 hK4 => ls_blk (rd (by kernel_rfl) (sd 3 rfl (?_))))))
  obtain ⟨e5, g6, h⟩ := ob_some h
  refine ed rfl (qI rfl zci64 g6 (sd 3 rfl (?_)))
  obtain ⟨e7, g8, h⟩ := ob_some h
  refine ed rfl (qI rfl zci64 g8 (sd 2 rfl (evdn ?_)))
  rcases cond_some h with ⟨g9, h⟩ | ⟨g9, h⟩
  ·exact qT rfl g9 (rn 1 rfl (ls_ret ((by cases h; cases hr1; exact ⟨.inl rfl, rfl⟩))))
  ·exact qF rfl g9 (ls_skip (hK4 _ (rg (sp 3 rfl (evn (hN _ _ h (okr rfl)))))))
 ·exact qF rfl g3 (ls_exit (kXB1 (Option.some.inj h) _ trivial))
def impl_ascendingLists_B1 (a0 : List (List Int)) (rec : Int → Option (Sum (Unit) (Bool))) (y1 : Int) : Option (Sum (Unit) (Bool)) := cond (decide (y1 < (List.length a0 : Int))) (obind (geti a0 y1) fun e5 => obind (impl_IsStrictlyAscending e5) fun v7 => cond (!v7) (some (.inr false)) (rec (IntKind.i64.wrap (y1 + 1)))) (some (.inl ()))
def impl_ascendingLists (a0 : List (List Int)) : Option (Bool) := obind (loopF (impl_ascendingLists_B1 a0) fz 0) fun o1 => (match o1 with
  | .inl _ => (some (decide (0 < (List.length a0 : Int))))
  | .inr r => some r)
theorem impl_ascendingLists_s {a0 : List (List Int)} {r : Bool} (h : impl_ascendingLists a0 = some r) : SoundAt Tryz.prog 149 [dL c27_d a0] (.bool r) := by
 unfold impl_ascendingLists at h
 refine st lit149 rfl (rn 1 rfl (ls_seq_k fun K1 hK1 => rn 1 rfl ?_))
 obtain ⟨o1, hl, hr1⟩ := ob_some h
 have kXB1 : (.inl ()) = o1 → Jn K1 [(0, dL c27_d a0)] := by
  intro h σ' hk
  subst h
  replace h := hr1
  try dsimp only at h
  exact hK1 _ (lh hk rfl (rn 1 rfl (ls_ret ((by cases h; exact ⟨.inl rfl, rfl⟩)))))
 refine ls_rec (fun (y1 : Int) => [(0, dL c27_d a0), (5, dL c27_d a0), (6, nI (List.length a0 : Int)), (7, nI y1)]) _ _ _ _ hl (okr rfl) (fun _ => rfl) ?_
 rintro m y1 N h hN
 unfold impl_ascendingLists_B1 at h
 refine rn 1 rfl (ls_seq_k fun K2 hK2 => ?_)
 rcases cond_some h with ⟨g3, h⟩ | ⟨g3, h⟩
 ·refine qT rfl g3 (ls_skip (hK2 _ (ls_seq_k fun K4 hK4 => ls_blk (rs ?_))))
  obtain ⟨e5, g6, h⟩ := ob_some h
  refine qI rfl zc27_d g6 (sp 2 rfl (evn (rs (sp 1 rfl (?_)))))
  obtain ⟨v7, g8, h⟩ := ob_some h
  refine qC (qa rfl (erD eci64 _) eran) (impl_IsStrictlyAscending_s g8) (sp 1 rfl (evn ?_))
  rcases cond_some h with ⟨g9, h⟩ | ⟨g9, h⟩
  ·exact qT rfl g9 (rn 1 rfl (ls_ret ((by cases h; cases hr1; exact ⟨.inl rfl, rfl⟩))))
  ·exact qF rfl g9 (ls_skip (hK4 _ (rg (sp 2 rfl (evn (hN _ _ h (okr rfl)))))))
 ·exact qF rfl g3 (ls_exit (kXB1 (Option.some.inj h) _ (okr rfl)))
def impl_ShortestLength_J3 (rec : (Int × Int) → Option (Int)) (y2 : Int) (x10 : Int) : Option (Int) := rec (x10, (IntKind.i64.wrap (y2 + 1)))
def impl_ShortestLength_J2 (rec : (Int × Int) → Option (Int)) (y1 : Int) (y2 : Int) (e6 : List Int) (x9 : Bool) : Option (Int) := cond x9 (impl_ShortestLength_J3 rec y2 (List.length e6 : Int)) (impl_ShortestLength_J3 rec y2 y1)
def impl_ShortestLength_B1 (a0 : List (List Int)) (rec : (Int × Int) → Option (Int)) (s : Int × Int) : Option (Int) := match s with
  | (y1, y2) => cond (decide (y2 < (List.length a0 : Int))) (obind (geti a0 y2) fun e6 => cond (y2 == 0) (impl_ShortestLength_J2 rec y1 y2 e6 true) (impl_ShortestLength_J2 rec y1 y2 e6 (decide ((List.length e6 : Int) < y1)))) (some y1)
def impl_ShortestLength (a0 : List (List Int)) : Option (Int) := obind (loopF (impl_ShortestLength_B1 a0) fz (0, 0)) fun z2 => some z2
theorem impl_ShortestLength_s {a0 : List (List Int)} {r : Int} (h : impl_ShortestLength a0 = some r) : SoundAt Tryz.prog 150 [dL c27_d a0] (nI r) := by
 unfold impl_ShortestLength at h
 refine st lit150 rfl (rn 2 rfl (ls_seq_k fun K1 hK1 => rn 1 rfl ?_))
 obtain ⟨o1, hl, hr1⟩ := ob_some h
 have kXB1 : ∀ {z2 : Int}, z2 = o1 → Jn K1 [(3, nI z2)] := by
  intro z2 h σ' hk
  subst h
  replace h := hr1
  try dsimp only at h
  exact hK1 _ (lh hk rfl (rn 1 rfl (ls_ret ((by cases h; exact ⟨.inl rfl, rfl⟩)))))
 refine ls_rec (fun (s : Int × Int) => match s with | (y1, y2) => [(3, nI y1), (6, dL c27_d a0), (7, nI (List.length a0 : Int)), (8, nI y2)]) _ _ _ _ hl (okr rfl) (fun _ => rfl) ?_
 rintro m ⟨y1, y2⟩ N h hN
 unfold impl_ShortestLength_B1 at h
 dsimp only at h
 refine rn 1 rfl (ls_seq_k fun K3 hK3 => ?_)
 rcases cond_some h with ⟨g4, h⟩ | ⟨g4, h⟩
 ·refine qT rfl g4 (ls_skip (hK3 _ (ls_seq_k fun K5 hK5 => ls_blk (rs (sp 1 rfl (?_))))))
  obtain ⟨e6, g7, h⟩ := ob_some h
  refine qI rfl zc27_d g7 (sp 3 rfl (evn (rk fun K8 hK8 => ?_)))
  have kJ2 : ∀ {x9 : Bool}, impl_ShortestLength_J2 (loopF (impl_ShortestLength_B1 a0) m) y1 y2 e6 x9 = some o1 → Jn K8 [(3, nI y1), (5, dL ci64 e6), (6, dL c27_d a0), (7, nI (List.length a0 : Int)), (8, nI y2), (20, .bool x9)] := by
   intro x9 h σ' hk
   unfold impl_ShortestLength_J2 at h
   refine hK8 _ (lh hk rfl ?_)
   have kJ3 : ∀ {x10 : Int}, impl_ShortestLength_J3 (loopF (impl_ShortestLength_B1 a0) m) y2 x10 = some o1 → Jn K5 [(3, nI x10), (6, dL c27_d a0), (7, nI (List.length a0 : Int)), (8, nI y2)] := by
    intro x10 h σ' hk
    unfold impl_ShortestLength_J3 at h
    exact hK5 _ (lh hk rfl (rg (sp 2 rfl (evn (hN _ _ h (okr rfl))))))
   rcases cond_some h with ⟨g11, h⟩ | ⟨g11, h⟩
   ·exact qT rfl g11 (rg (sp 3 rfl (evn (kJ3 h _ (okr rfl)))))
   ·exact qF rfl g11 (ls_skip (kJ3 h _ (okr rfl)))
  refine sp 3 rfl (?_)
  rcases cond_some h with ⟨g12, h⟩ | ⟨g12, h⟩
  ·exact qg 15 g12 rfl (sp 5 rfl (evn (kJ2 h _ (okr rfl))))
  ·exact qg 15 g12 rfl (sp 5 rfl (evn (kJ2 h _ (okr rfl))))
 ·exact qF rfl g4 (ls_exit (kXB1 (Option.some.inj h) _ (okr rfl)))
def impl_SeekIndex_B1 (a0 : List Int) (a2 : Int) (rec : Int → Option (Sum (Unit) (Int))) (y1 : Int) : Option (Sum (Unit) (Int)) := cond (decide (y1 < (List.length a0 : Int))) (obind (geti a0 y1) fun e5 => cond (decide (a2 ≤ e5)) (some (.inr y1)) (rec (IntKind.i64.wrap (y1 + 1)))) (some (.inl ()))
def impl_SeekIndex (a0 : List Int) (a1 : Int) (a2 : Int) : Option (Int) := obind (loopF (impl_SeekIndex_B1 a0 a2) fz (if 0 < a1 then a1 else 0)) fun o1 => (match o1 with
  | .inl _ => (some (List.length a0 : Int))
  | .inr r => some r)
theorem impl_SeekIndex_s {a0 : List Int} {a1 : Int} {a2 : Int} {r : Int} (h : impl_SeekIndex a0 a1 a2 = some r) : SoundAt Tryz.prog 151 [dL ci64 a0, nI a1, nI a2] (nI r) := by
 unfold impl_SeekIndex at h
 refine st lit151 rfl (rn 1 rfl (ls_seq_k fun K1 hK1 => rn 1 rfl ?_))
 obtain ⟨o1, hl, hr1⟩ := ob_some h
 have kXB1 : (.inl ()) = o1 → Jn K1 [(0, dL ci64 a0)] := by
  intro h σ' hk
  subst h
  replace h := hr1
  try dsimp only at h
  exact hK1 _ (lh hk rfl (rn 1 rfl (ls_ret ((by cases h; exact ⟨.inl rfl, rfl⟩)))))
 refine ls_rec (fun (y1 : Int) => [(0, dL ci64 a0), (2, nI a2), (7, nI y1)]) _ _ _ _ hl (okr rfl) (fun _ => rfl) ?_
 rintro m y1 N h hN
 unfold impl_SeekIndex_B1 at h
 refine ls_seq_k fun K2 hK2 => rn 1 rfl ?_
 rcases cond_some h with ⟨g3, h⟩ | ⟨g3, h⟩
 ·refine qT rfl g3 (ls_skip (hK2 _ (ls_seq_k fun K4 hK4 => ls_blk (rs (sp 2 rfl (?_))))))
  obtain ⟨e5, g6, h⟩ := ob_some h
  refine qI rfl zci64 g6 (sp 3 rfl (evn ?_))
  rcases cond_some h with ⟨g7, h⟩ | ⟨g7, h⟩
  ·exact qT rfl g7 (rn 1 rfl (ls_ret ((by cases h; cases hr1; exact ⟨.inl rfl, rfl⟩))))
  ·exact qF rfl g7 (ls_skip (hK4 _ (rg (sp 3 rfl (evn (hN _ _ h (okr rfl)))))))
 ·exact qF rfl g3 (ls_exit (kXB1 (Option.some.inj h) _ (okr rfl)))
def impl_LeapfrogIntersect_B2 (y2 : List (List Int)) (e13 : List Int) (rec : Int → Option (Int)) (y5 : Int) : Option (Int) := cond (decide (0 < y5)) (obind (geti y2 (IntKind.i64.wrap (y5 - 1))) fun e19 => obind (geti e19 0) fun e21 => obind (geti e13 0) fun e23 => cond (decide (e23 < e21)) (rec (IntKind.i64.wrap (y5 - 1))) (some y5)) (some y5)
def impl_LeapfrogIntersect_B1 (a0 : List (List Int)) (rec : ((List (List Int)) × Int) → Option ((List (List Int)))) (s : (List (List Int)) × Int) : Option ((List (List Int))) := match s with
  | (y2, y3) => cond (decide (y3 < (List.length a0 : Int))) (obind (geti a0 y3) fun e13 => obind (loopF (impl_LeapfrogIntersect_B2 y2 e13) fz (List.length y2 : Int)) fun z16 => chk ((0 : Int) ≤ 0 ∧ 0 ≤ z16 ∧ z16 ≤ (List.length y2 : Int)) (chk (List.length ([] : List (List Int)) + List.length (subl y2 0 z16) ≤ lim) (chk (List.length (([] : List (List Int)) ++ (subl y2 0 z16)) + List.length [e13] ≤ lim) (chk ((0 : Int) ≤ z16 ∧ z16 ≤ (List.length y2 : Int) ∧ (List.length y2 : Int) ≤ (List.length y2 : Int)) (chk (List.length ((([] : List (List Int)) ++ (subl y2 0 z16)) ++ [e13]) + List.length (subl y2 z16 (List.length y2 : Int)) ≤ lim) (rec ((((([] : List (List Int)) ++ (subl y2 0 z16)) ++ [e13]) ++ (subl y2 z16 (List.length y2 : Int))), (IntKind.i64.wrap (y3 + 1))))))))) (some y2)
def impl_LeapfrogIntersect_J4 (rec : ((List Int) × Int × (List Int) × Int) → Option (Sum (Unit) ((List Int) × Int))) (z9 : List (List Int)) (y9 : Int) (e38 : List Int) (x45 : List Int) (x46 : List Int) : Option (Sum (Unit) ((List Int) × Int)) := obind (geti x45 (Int.tmod (IntKind.i64.wrap (y9 - 1)) (List.length z9 : Int))) fun e48 => cond (e48 == (List.length e38 : Int)) (some (.inr (x46, y9))) (obind (geti x45 (Int.tmod (IntKind.i64.wrap (y9 - 1)) (List.length z9 : Int))) fun e51 => obind (geti e38 e51) fun e53 => rec (x45, e53, x46, (IntKind.i64.wrap (y9 + 1))))
def impl_LeapfrogIntersect_B3 (z9 : List (List Int)) (rec : ((List Int) × Int × (List Int) × Int) → Option (Sum (Unit) ((List Int) × Int))) (s : (List Int) × Int × (List Int) × Int) : Option (Sum (Unit) ((List Int) × Int)) := match s with
  | (y6, y7, y8, y9) => chk ((List.length z9 : Int) ≠ 0) (obind (geti z9 (Int.tmod (IntKind.i64.wrap (y9 - 1)) (List.length z9 : Int))) fun e38 => obind (geti y6 (Int.tmod (IntKind.i64.wrap (y9 - 1)) (List.length z9 : Int))) fun e41 => obind (geti e38 e41) fun e43 => cond (e43 == y7) (chk (List.length y8 + List.length [y7] ≤ lim) (obind (geti y6 (Int.tmod (IntKind.i64.wrap (y9 - 1)) (List.length z9 : Int))) fun e57 => obind (geti y6 (Int.tmod (IntKind.i64.wrap (y9 - 1)) (List.length z9 : Int))) fun e59 => impl_LeapfrogIntersect_J4 rec z9 y9 e38 (seti y6 (Int.tmod (IntKind.i64.wrap (y9 - 1)) (List.length z9 : Int)) (IntKind.i64.wrap (e57 + 1))) (y8 ++ [y7]))) (obind (geti y6 (Int.tmod (IntKind.i64.wrap (y9 - 1)) (List.length z9 : Int))) fun e61 => obind (impl_SeekIndex e38 e61 y7) fun v63 => obind (geti y6 (Int.tmod (IntKind.i64.wrap (y9 - 1)) (List.length z9 : Int))) fun e65 => impl_LeapfrogIntersect_J4 rec z9 y9 e38 (seti y6 (Int.tmod (IntKind.i64.wrap (y9 - 1)) (List.length z9 : Int)) v63) y8))
def impl_LeapfrogIntersect (a0 : List (List Int)) : Option ((List Int) × Int) := obind (impl_ascendingLists a0) fun v2 => cond (!v2) (some (([] : List Int), 0)) (obind (impl_ShortestLength a0) fun v5 => cond (v5 == 0) (some (([] : List Int), 0)) (obind (loopF (impl_LeapfrogIntersect_B1 a0) fz (([] : List (List Int)), 0)) fun z9 => chk ((0 : Int) ≤ (List.length z9 : Int) ∧ Int.toNat (List.length z9 : Int) ≤ lim) (obind (geti z9 (IntKind.i64.wrap ((List.length z9 : Int) - 1))) fun e32 => obind (geti e32 0) fun e34 => obind (loopF (impl_LeapfrogIntersect_B3 z9) fz ((List.replicate (Int.toNat (List.length z9 : Int)) (0 : Int)), e34, ([] : List Int), 1)) fun o3 => (match o3 with
  | .inl _ => (none)
  | .inr r => some r))))
theorem impl_LeapfrogIntersect_s {a0 : List (List Int)} {r : (List Int) × Int} (h : impl_LeapfrogIntersect a0 = some r) : SoundAt Tryz.prog 108 [dL c27_d a0] (.tup [oL 3 ci64 r.1, nI r.2]) := by
 unfold impl_LeapfrogIntersect at h
 refine st lit108 rfl (rn 1 rfl (ls_seq_k fun K1 hK1 => rs (sp 1 rfl (?_))))
 obtain ⟨v2, g3, h⟩ := ob_some h
 refine qC (qa rfl (erD ec27_d _) eran) (impl_ascendingLists_s g3) (sp 2 rfl (?_))
 rcases cond_some h with ⟨g4, h⟩ | ⟨g4, h⟩
 ·exact qg 17 g4 rfl (sp 4 rfl (evn (qT rfl rfl (rn 1 rfl (ls_ret ((by cases h; exact ⟨.inl rfl, rfl⟩)))))))
 ·refine qg 17 g4 rfl (sp 1 rfl (?_))
  obtain ⟨v5, g6, h⟩ := ob_some h
  refine oGR rfl rfl (qC (qa rfl (erD ec27_d _) eran) (impl_ShortestLength_s g6) (sp 2 rfl (evn ?_)))
  rcases cond_some h with ⟨g7, h⟩ | ⟨g7, h⟩
  ·exact qT rfl g7 (rn 1 rfl (ls_ret ((by cases h; exact ⟨.inl rfl, rfl⟩))))
  ·refine qF rfl g7 (ls_skip (hK1 _ (rn 1 rfl (qk [0, 4] rfl (ls_seq_k fun K8 hK8 => rn 1 rfl ?_)))))
   obtain ⟨o1, hl, hr1⟩ := ob_some h
   have kXB1 : ∀ {z9 : List (List Int)}, z9 = o1 → Jn K8 [(4, oL 27 c27_d z9)] := by
    intro z9 h σ' hk
    subst h
    replace h := hr1
    try dsimp only at h
    refine hK8 _ (lh hk rfl (rs (sp 2 rfl (?_))))
    obtain ⟨g31, h⟩ := chk_some h
    refine qMu ci64 (0 : Int) rfl rfl rfl rfl g31 rfl (qAu rfl rfl rfl rfl (evn (rs (sp 4 rfl (?_)))))
    obtain ⟨e32, g33, h⟩ := ob_some h
    refine qI rfl zc27_d g33 (sp 1 rfl (?_))
    obtain ⟨e34, g35, h⟩ := ob_some h
    refine qI rfl zci64 g35 (sp 2 rfl (evn (rn 2 rfl ?_)))
    obtain ⟨o3, hl, hr3⟩ := ob_some h
    refine ls_rec (fun (s : (List Int) × Int × (List Int) × Int) => match s with | (y6, y7, y8, y9) => [(4, oL 27 c27_d z9), (8, wL 3 ci64 y6), (9, nI y7), (10, oL 3 ci64 y8), (11, nI y9)]) _ _ _ _ hl (okr rfl) (fun _ => rfl) ?_
    rintro m ⟨y6, y7, y8, y9⟩ N h hN
    unfold impl_LeapfrogIntersect_B3 at h
    dsimp only at h
    refine ls_seq_k fun K36 hK36 => ls_blk (rs (sp 4 rfl (?_)))
    obtain ⟨g37, h⟩ := chk_some h
    refine qB rfl ⟨rfl, g37⟩ rfl (sp 1 rfl (evn (rs (sp 2 rfl (?_)))))
    obtain ⟨e38, g39, h⟩ := ob_some h
    refine qI rfl zc27_d g39 (sp 2 rfl (evn (ls_seq_k fun K40 hK40 => rs (sp 3 rfl (?_)))))
    obtain ⟨e41, g42, h⟩ := ob_some h
    refine qIu rfl ⟨(geti_some g42).1, (geti_some g42).2.1⟩ (qLu 0 rfl rfl rfl zci64 g42 rfl rfl rfl (?_))
    obtain ⟨e43, g44, h⟩ := ob_some h
    refine qI rfl zci64 g44 (sp 3 rfl (evn ?_))
    have kJ4 : ∀ {x45 : List Int} {x46 : List Int}, impl_LeapfrogIntersect_J4 (loopF (impl_LeapfrogIntersect_B3 z9) m) z9 y9 e38 x45 x46 = some o3 → Jn K40 [(4, oL 27 c27_d z9), (8, wL 3 ci64 x45), (10, oL 3 ci64 x46), (11, nI y9), (12, nI (Int.tmod (IntKind.i64.wrap (y9 - 1)) (List.length z9 : Int))), (13, dL ci64 e38)] := by
     intro x45 x46 h σ' hk
     unfold impl_LeapfrogIntersect_J4 at h
     refine hK40 _ (lh hk rfl (ls_seq_k fun K47 hK47 => rs (sp 2 rfl (?_))))
     obtain ⟨e48, g49, h⟩ := ob_some h
     refine qIu rfl ⟨(geti_some g49).1, (geti_some g49).2.1⟩ (qLu 0 rfl rfl rfl zci64 g49 rfl rfl rfl (sp 3 rfl (evn ?_)))
     rcases cond_some h with ⟨g50, h⟩ | ⟨g50, h⟩
     ·exact qT rfl g50 (rn 1 rfl (ls_ret ((by cases h; cases hr3; exact ⟨.inl rfl, rfl⟩))))
     ·refine qF rfl g50 (ls_skip (hK47 _ (rg (sp 3 rfl (?_)))))
      obtain ⟨e51, g52, h⟩ := ob_some h
      refine qIu rfl ⟨(geti_some g52).1, (geti_some g52).2.1⟩ (qLu 0 rfl rfl rfl zci64 g52 rfl rfl rfl (?_))
      obtain ⟨e53, g54, h⟩ := ob_some h
      exact qI rfl zci64 g54 (sp 2 rfl (evn (hK36 _ (rg (sp 3 rfl (evn (hN _ _ h (okr rfl))))))))
    rcases cond_some h with ⟨g55, h⟩ | ⟨g55, h⟩
    ·refine qT rfl g55 (rs (sp 2 rfl (qBs ci64 [y7] rfl rfl rfl zci64 (?_))))
     obtain ⟨g56, h⟩ := chk_some h
     refine qA ci64 y8 [y7] rfl rfl (flat_len zci64 [y7]) rfl g56 (sp 1 rfl (evn (rg (sp 2 rfl (?_)))))
     obtain ⟨e57, g58, h⟩ := ob_some h
     refine qIu rfl ⟨(geti_some g58).1, (geti_some g58).2.1⟩ (qLu 0 rfl rfl rfl zci64 g58 rfl rfl rfl (sp 1 rfl (?_)))
     obtain ⟨e59, g60, h⟩ := ob_some h
     exact qIu rfl ⟨(geti_some g60).1, (geti_some g60).2.1⟩ (qSu (IntKind.i64.wrap (e57 + 1)) rfl rfl zci64 ⟨(geti_some g60).1, (geti_some g60).2.1⟩ rfl rfl rfl rfl rfl rfl (evn (kJ4 h _ (okr rfl))))
    ·refine qF rfl g55 (rg (sp 5 rfl (?_)))
     obtain ⟨e61, g62, h⟩ := ob_some h
     refine qIu rfl ⟨(geti_some g62).1, (geti_some g62).2.1⟩ (qLu 0 rfl rfl rfl zci64 g62 rfl rfl rfl (sp 1 rfl (?_)))
     obtain ⟨v63, g64, h⟩ := ob_some h
     refine qC (qa rfl (erD eci64 _) (qs rfl (qs rfl eran))) (impl_SeekIndex_s g64) (?_)
     obtain ⟨e65, g66, h⟩ := ob_some h
     exact qIu rfl ⟨(geti_some g66).1, (geti_some g66).2.1⟩ (qSu v63 rfl rfl zci64 ⟨(geti_some g66).1, (geti_some g66).2.1⟩ rfl rfl rfl rfl rfl rfl (evn (kJ4 h _ (okr rfl))))
   refine ls_rec (fun (s : (List (List Int)) × Int) => match s with | (y2, y3) => [(4, oL 27 c27_d y2), (22, dL c27_d a0), (23, nI (List.length a0 : Int)), (24, nI y3)]) _ _ _ _ hl (okr rfl) (fun _ => rfl) ?_
   rintro m ⟨y2, y3⟩ N h hN
   unfold impl_LeapfrogIntersect_B1 at h
   dsimp only at h
   refine rn 1 rfl (ls_seq_k fun K10 hK10 => ?_)
   rcases cond_some h with ⟨g11, h⟩ | ⟨g11, h⟩
   ·refine qT rfl g11 (ls_skip (hK10 _ (ls_seq_k fun K12 hK12 => ls_blk (rs ?_))))
    obtain ⟨e13, g14, h⟩ := ob_some h
    refine qI rfl zc27_d g14 (sp 2 rfl (evn (rn 1 rfl (ls_seq_k fun K15 hK15 => ?_))))
    obtain ⟨o2, hl, hr2⟩ := ob_some h
    have kXB2 : ∀ {z16 : Int}, z16 = o2 → Jn K15 [(4, oL 27 c27_d y2), (6, dL ci64 e13), (7, nI z16), (22, dL c27_d a0), (23, nI (List.length a0 : Int)), (24, nI y3)] := by
     intro z16 h σ' hk
     subst h
     replace h := hr2
     try dsimp only at h
     refine hK15 _ (lh hk rfl (rgd (by kernel_rfl) (ed rfl (qBs c27_o [] rfl rfl rfl zc27_o (sd 2 rfl (?_))))))
     obtain ⟨g26, h⟩ := chk_some h
     refine ed rfl (qSl rfl zc27_d g26 (?_))
     obtain ⟨g27, h⟩ := chk_some h
     refine ed rfl (qA c27_d ([] : List (List Int)) (subl y2 0 z16) rfl rfl (flat_len zc27_d (subl y2 0 z16)) (map_dg (fun _ => rfl) _) g27 (sd 1 rfl (ed rfl (qBs c27_d [e13] rfl rfl rfl zc27_d (?_)))))
     obtain ⟨g28, h⟩ := chk_some h
     refine ed rfl (qA c27_d (([] : List (List Int)) ++ (subl y2 0 z16)) [e13] rfl rfl (flat_len zc27_d [e13]) rfl g28 (sd 2 rfl (?_)))
     obtain ⟨g29, h⟩ := chk_some h
     refine ed rfl (qSl rfl zc27_d g29 (?_))
     obtain ⟨g30, h⟩ := chk_some h
     exact ed rfl (qA c27_d ((([] : List (List Int)) ++ (subl y2 0 z16)) ++ [e13]) (subl y2 z16 (List.length y2 : Int)) rfl rfl (flat_len zc27_d (subl y2 z16 (List.length y2 : Int))) (map_dg (fun _ => rfl) _) g30 (sd 1 rfl (evdn (hK12 _ (rg (sp 2 rfl (evn (hN _ _ h (okr rfl)))))))))
    refine ls_rec (fun (y5 : Int) => [(4, oL 27 c27_d y2), (6, dL ci64 e13), (7, nI y5), (22, dL c27_d a0), (23, nI (List.length a0 : Int)), (24, nI y3)]) _ _ _ _ hl (okr rfl) (fun _ => rfl) ?_
    rintro m y5 N h hN
    unfold impl_LeapfrogIntersect_B2 at h
    refine ls_seq_k fun K17 hK17 => rd (by kernel_rfl) (sd 3 rfl (?_))
    rcases cond_some h with ⟨g18, h⟩ | ⟨g18, h⟩
    ·refine qgd 32 g18 rfl (sd 3 rfl (?_))
     obtain ⟨e19, g20, h⟩ := ob_some h
     refine ed rfl (oGR rfl rfl (qI rfl zc27_d g20 (sd 1 rfl (?_))))
     obtain ⟨e21, g22, h⟩ := ob_some h
     refine ed rfl (oGR rfl rfl (qI rfl zci64 g22 (sd 2 rfl (?_))))
     obtain ⟨e23, g24, h⟩ := ob_some h
     refine ed rfl (oGR rfl rfl (qI rfl zci64 g24 (sd 3 rfl (evdn ?_))))
     rcases cond_some h with ⟨g25, h⟩ | ⟨g25, h⟩
     ·exact qT rfl g25 (ls_skip (hK17 _ (ls_blk (rg (sp 3 rfl (evn (hN _ _ h (okr rfl))))))))
     ·exact qF rfl g25 (ls_exit (kXB2 (Option.some.inj h) _ (okr rfl)))
    ·exact qgd 32 g18 rfl (sd 12 rfl (evdn (qk [4, 6, 7, 22, 23, 24, 44] rfl (qF rfl rfl (ls_exit (kXB2 (Option.some.inj h) _ (okr rfl)))))))
   ·exact qF rfl g11 (ls_exit (kXB1 (Option.some.inj h) _ (okr rfl)))
def impl_asRelation (a0 : Y40) : Option (Y40) := some a0
theorem impl_asRelation_s {a0 : Y40} {r : Y40} (h : impl_asRelation a0 = some r) : SoundAt Tryz.prog 197 [.agg (c179_dd a0)] (.agg (c41_dd r)) := by
 unfold impl_asRelation at h
 exact st lit197 rfl (rn 2 rfl (ls_ret ((by cases h; exact ⟨.inl rfl, rfl⟩))))
def impl_IsValidTrie (a0 : Y40) : Option (Bool) := obind (impl_asRelation a0) fun v1 => obind (impl_IsValidRelation v1) fun v3 => some v3
theorem impl_IsValidTrie_s {a0 : Y40} {r : Bool} (h : impl_IsValidTrie a0 = some r) : SoundAt Tryz.prog 186 [.agg (c179_dd a0)] (.bool r) := by
 unfold impl_IsValidTrie at h
 refine st lit186 rfl (rn 1 rfl (rs (sp 1 rfl (?_))))
 obtain ⟨v1, g2, h⟩ := ob_some h
 refine qC (qa rfl (erg (erc rfl (erc (erD ec27_d _) rfl))) eran) (impl_asRelation_s g2) (?_)
 obtain ⟨v3, g4, h⟩ := ob_some h
 exact qC (qa rfl (erg (erc rfl (erc (erD ec27_d _) rfl))) eran) (impl_IsValidRelation_s g4) (sp 1 rfl (evn (ls_ret ((by cases h; exact ⟨.inl rfl, rfl⟩)))))
def impl_TriePrefixRange_B1 (a0 : Y40) (a1 : List Int) (rec : Int → Option (Int)) (y1 : Int) : Option (Int) := cond (decide (y1 < (List.length a0.2 : Int))) (obind (geti a0.2 y1) fun e10 => chk ((0 : Int) ≤ 0 ∧ 0 ≤ (List.length a1 : Int) ∧ (List.length a1 : Int) ≤ (List.length e10 : Int)) (obind (impl_CompareRows (subl e10 0 (List.length a1 : Int)) a1) fun v13 => cond (decide (v13 < 0)) (rec (IntKind.i64.wrap (y1 + 1))) (some y1))) (some y1)
def impl_TriePrefixRange_B2 (a0 : Y40) (a1 : List Int) (rec : Int → Option (Int)) (y2 : Int) : Option (Int) := cond (decide (y2 < (List.length a0.2 : Int))) (obind (geti a0.2 y2) fun e20 => chk ((0 : Int) ≤ 0 ∧ 0 ≤ (List.length a1 : Int) ∧ (List.length a1 : Int) ≤ (List.length e20 : Int)) (obind (impl_CompareRows (subl e20 0 (List.length a1 : Int)) a1) fun v23 => cond (v23 == 0) (rec (IntKind.i64.wrap (y2 + 1))) (some y2))) (some y2)
def impl_TriePrefixRange (a0 : Y40) (a1 : List Int) : Option (Int × Int) := cond (decide (a0.1 < (List.length a1 : Int))) (some (0, 0)) (obind (impl_IsValidTrie a0) fun v3 => cond (!v3) (some (0, 0)) (obind (loopF (impl_TriePrefixRange_B1 a0 a1) fz 0) fun z7 => obind (loopF (impl_TriePrefixRange_B2 a0 a1) fz z7) fun z17 => some (z7, z17)))
theorem impl_TriePrefixRange_s {a0 : Y40} {a1 : List Int} {r : Int × Int} (h : impl_TriePrefixRange a0 a1 = some r) : SoundAt Tryz.prog 187 [.agg (c179_dd a0), dL ci64 a1] (.tup [nI r.1, nI r.2]) := by
 unfold impl_TriePrefixRange at h
 refine st lit187 rfl (rn 2 rfl (ls_seq_k fun K1 hK1 => rs (sp 5 rfl (?_))))
 rcases cond_some h with ⟨g2, h⟩ | ⟨g2, h⟩
 ·exact qg 15 g2 rfl (sp 4 rfl (evn (qT rfl rfl (rn 1 rfl (ls_ret ((by cases h; exact ⟨.inl rfl, rfl⟩)))))))
 ·refine qg 15 g2 rfl (sp 1 rfl (?_))
  obtain ⟨v3, g4, h⟩ := ob_some h
  refine oGR rfl rfl (qC (qa rfl (erg (erc rfl (erc (erD ec27_d _) rfl))) eran) (impl_IsValidTrie_s g4) (sp 2 rfl (evn ?_)))
  rcases cond_some h with ⟨g5, h⟩ | ⟨g5, h⟩
  ·exact qT rfl g5 (rn 1 rfl (ls_ret ((by cases h; exact ⟨.inl rfl, rfl⟩))))
  ·refine qF rfl g5 (ls_skip (hK1 _ (qk [1, 2, 6] rfl (rn 1 rfl (ls_seq_k fun K6 hK6 => ?_)))))
   obtain ⟨o1, hl, hr1⟩ := ob_some h
   have kXB1 : ∀ {z7 : Int}, z7 = o1 → Jn K6 [(1, dL ci64 a1), (2, .box [nI a0.1, dL c27_d a0.2]), (6, nI (List.length a1 : Int)), (7, nI z7)] := by
    intro z7 h σ' hk
    subst h
    replace h := hr1
    try dsimp only at h
    refine hK6 _ (lh hk rfl (rn 1 rfl (ls_seq_k fun K16 hK16 => ?_)))
    obtain ⟨o2, hl, hr2⟩ := ob_some h
    have kXB2 : ∀ {z17 : Int}, z17 = o2 → Jn K16 [(7, nI z7), (8, nI z17)] := by
     intro z17 h σ' hk
     subst h
     replace h := hr2
     try dsimp only at h
     exact hK16 _ (lh hk rfl (rn 1 rfl (ls_ret ((by cases h; exact ⟨.inl rfl, rfl⟩)))))
    refine ls_rec (fun (y2 : Int) => [(1, dL ci64 a1), (2, .box [nI a0.1, dL c27_d a0.2]), (6, nI (List.length a1 : Int)), (7, nI z7), (8, nI y2)]) _ _ _ _ hl (okr rfl) (fun _ => rfl) ?_
    rintro m y2 N h hN
    unfold impl_TriePrefixRange_B2 at h
    refine ls_seq_k fun K18 hK18 => rs (sp 6 rfl (?_))
    rcases cond_some h with ⟨g19, h⟩ | ⟨g19, h⟩
    ·refine qg 45 g19 rfl (sp 3 rfl (?_))
     obtain ⟨e20, g21, h⟩ := ob_some h
     refine oGR rfl rfl (qI rfl zc27_d g21 (sp 2 rfl (?_)))
     obtain ⟨g22, h⟩ := chk_some h
     refine oGR rfl rfl (qSl rfl zci64 g22 (sp 1 rfl (?_)))
     obtain ⟨v23, g24, h⟩ := ob_some h
     refine oGR rfl rfl (qC (qa rfl (erD eci64 _) (qa rfl (erD eci64 _) eran)) (impl_CompareRows_s g24) (sp 2 rfl (evn ?_)))
     rcases cond_some h with ⟨g25, h⟩ | ⟨g25, h⟩
     ·exact qT rfl g25 (ls_skip (hK18 _ (ls_blk (rg (sp 3 rfl (evn (hN _ _ h (okr rfl))))))))
     ·exact qF rfl g25 (ls_exit (kXB2 (Option.some.inj h) _ (okr rfl)))
    ·exact qg 45 g19 rfl (sp 11 rfl (evn (qk [1, 2, 6, 7, 8, 56] rfl (qF rfl rfl (ls_exit (kXB2 (Option.some.inj h) _ (okr rfl)))))))
   refine ls_rec (fun (y1 : Int) => [(1, dL ci64 a1), (2, .box [nI a0.1, dL c27_d a0.2]), (6, nI (List.length a1 : Int)), (7, nI y1)]) _ _ _ _ hl (okr rfl) (fun _ => rfl) ?_
   rintro m y1 N h hN
   unfold impl_TriePrefixRange_B1 at h
   refine ls_seq_k fun K8 hK8 => rs (sp 6 rfl (?_))
   rcases cond_some h with ⟨g9, h⟩ | ⟨g9, h⟩
   ·refine qg 25 g9 rfl (sp 3 rfl (?_))
    obtain ⟨e10, g11, h⟩ := ob_some h
    refine oGR rfl rfl (qI rfl zc27_d g11 (sp 2 rfl (?_)))
    obtain ⟨g12, h⟩ := chk_some h
    refine oGR rfl rfl (qSl rfl zci64 g12 (sp 1 rfl (?_)))
    obtain ⟨v13, g14, h⟩ := ob_some h
    refine oGR rfl rfl (qC (qa rfl (erD eci64 _) (qa rfl (erD eci64 _) eran)) (impl_CompareRows_s g14) (sp 2 rfl (evn ?_)))
    rcases cond_some h with ⟨g15, h⟩ | ⟨g15, h⟩
    ·exact qT rfl g15 (ls_skip (hK8 _ (ls_blk (rg (sp 3 rfl (evn (hN _ _ h (okr rfl))))))))
    ·exact qF rfl g15 (ls_exit (kXB1 (Option.some.inj h) _ (okr rfl)))
   ·exact qg 25 g9 rfl (sp 11 rfl (evn (qk [1, 2, 6, 7, 36] rfl (qF rfl rfl (ls_exit (kXB1 (Option.some.inj h) _ (okr rfl)))))))
def impl_TrieChildren_J3 (rec : ((List Int) × Int) → Option ((List Int))) (y2 : Int) (x18 : List Int) : Option ((List Int)) := rec (x18, (IntKind.i64.wrap (y2 + 1)))
def impl_TrieChildren_J2 (rec : ((List Int) × Int) → Option ((List Int))) (a1 : List Int) (y1 : List Int) (y2 : Int) (e14 : List Int) (x17 : Bool) : Option ((List Int)) := cond x17 (obind (geti e14 (List.length a1 : Int)) fun e20 => chk (List.length y1 + List.length [e20] ≤ lim) (impl_TrieChildren_J3 rec y2 (y1 ++ [e20]))) (impl_TrieChildren_J3 rec y2 y1)
def impl_TrieChildren_B1 (a0 : Y40) (a1 : List Int) (v6 : Int × Int) (rec : ((List Int) × Int) → Option ((List Int))) (s : (List Int) × Int) : Option ((List Int)) := match s with
  | (y1, y2) => cond (decide (y2 < (List.length (subl a0.2 v6.1 v6.2) : Int))) (obind (geti (subl a0.2 v6.1 v6.2) y2) fun e14 => cond ((List.length y1 : Int) == 0) (impl_TrieChildren_J2 rec a1 y1 y2 e14 true) (obind (geti y1 (IntKind.i64.wrap ((List.length y1 : Int) - 1))) fun e24 => obind (geti e14 (List.length a1 : Int)) fun e26 => impl_TrieChildren_J2 rec a1 y1 y2 e14 (e24 != e26))) (some y1)
def impl_TrieChildren (a0 : Y40) (a1 : List Int) : Option ((List Int)) := cond (decide (a0.1 ≤ (List.length a1 : Int))) (some ([] : List Int)) (obind (impl_IsValidTrie a0) fun v3 => cond (!v3) (some ([] : List Int)) (obind (impl_TriePrefixRange a0 a1) fun v6 => chk ((0 : Int) ≤ v6.1 ∧ v6.1 ≤ v6.2 ∧ v6.2 ≤ (List.length a0.2 : Int)) (obind (loopF (impl_TrieChildren_B1 a0 a1 v6) fz (([] : List Int), 0)) fun z10 => some z10)))
theorem impl_TrieChildren_s {a0 : Y40} {a1 : List Int} {r : (List Int)} (h : impl_TrieChildren a0 a1 = some r) : SoundAt Tryz.prog 175 [.agg (c179_dd a0), dL ci64 a1] (oL 3 ci64 r) := by
 unfold impl_TrieChildren at h
 refine st lit175 rfl (rn 2 rfl (ls_seq_k fun K1 hK1 => rs (sp 5 rfl (?_))))
 rcases cond_some h with ⟨g2, h⟩ | ⟨g2, h⟩
 ·exact qg 17 g2 rfl (sp 4 rfl (evn (qT rfl rfl (rn 1 rfl (ls_ret ((by cases h; exact ⟨.inl rfl, rfl⟩)))))))
 ·refine qg 17 g2 rfl (sp 1 rfl (?_))
  obtain ⟨v3, g4, h⟩ := ob_some h
  refine oGR rfl rfl (qC (qa rfl (erg (erc rfl (erc (erD ec27_d _) rfl))) eran) (impl_IsValidTrie_s g4) (sp 2 rfl (evn ?_)))
  rcases cond_some h with ⟨g5, h⟩ | ⟨g5, h⟩
  ·exact qT rfl g5 (rn 1 rfl (ls_ret ((by cases h; exact ⟨.inl rfl, rfl⟩))))
  ·refine qF rfl g5 (ls_skip (hK1 _ (qk [1, 2, 5] rfl (rn 1 rfl (rs (sp 2 rfl (?_)))))))
   obtain ⟨v6, g7, h⟩ := ob_some h
   refine qC (qa rfl (erg (erc rfl (erc (erD ec27_d _) rfl))) (qa rfl (erD eci64 _) eran)) (impl_TriePrefixRange_s g7) (sp 5 rfl (evn (ls_seq_k fun K8 hK8 => rs (sp 4 rfl (?_)))))
   obtain ⟨g9, h⟩ := chk_some h
   refine qSl rfl zc27_d g9 (sp 2 rfl (evn ?_))
   obtain ⟨o1, hl, hr1⟩ := ob_some h
   have kXB1 : ∀ {z10 : List Int}, z10 = o1 → Jn K8 [(6, oL 3 ci64 z10)] := by
    intro z10 h σ' hk
    subst h
    replace h := hr1
    try dsimp only at h
    exact hK8 _ (lh hk rfl (rn 1 rfl (ls_ret ((by cases h; exact ⟨.inl rfl, rfl⟩)))))
   refine ls_rec (fun (s : (List Int) × Int) => match s with | (y1, y2) => [(5, nI (List.length a1 : Int)), (6, oL 3 ci64 y1), (32, dL c27_d (subl a0.2 v6.1 v6.2)), (33, nI (List.length (subl a0.2 v6.1 v6.2) : Int)), (34, nI y2)]) _ _ _ _ hl (okr rfl) (fun _ => rfl) ?_
   rintro m ⟨y1, y2⟩ N h hN
   unfold impl_TrieChildren_B1 at h
   dsimp only at h
   refine rn 1 rfl (ls_seq_k fun K11 hK11 => ?_)
   rcases cond_some h with ⟨g12, h⟩ | ⟨g12, h⟩
   ·refine qT rfl g12 (ls_skip (hK11 _ (ls_seq_k fun K13 hK13 => ls_blk (rs ?_))))
    obtain ⟨e14, g15, h⟩ := ob_some h
    refine qI rfl zc27_d g15 (sp 2 rfl (evn (rdk (by kernel_rfl) fun K16 hK16 => ?_)))
    have kJ2 : ∀ {x17 : Bool}, impl_TrieChildren_J2 (loopF (impl_TrieChildren_B1 a0 a1 v6) m) a1 y1 y2 e14 x17 = some o1 → Jn K16 [(5, nI (List.length a1 : Int)), (6, oL 3 ci64 y1), (10, dL ci64 e14), (32, dL c27_d (subl a0.2 v6.1 v6.2)), (33, nI (List.length (subl a0.2 v6.1 v6.2) : Int)), (34, nI y2), (53, .bool x17)] := by
     intro x17 h σ' hk
     unfold impl_TrieChildren_J2 at h
     refine hK16 _ (lh hk rfl ?_)
     have kJ3 : ∀ {x18 : List Int}, impl_TrieChildren_J3 (loopF (impl_TrieChildren_B1 a0 a1 v6) m) y2 x18 = some o1 → Jn K13 [(5, nI (List.length a1 : Int)), (6, oL 3 ci64 x18), (32, dL c27_d (subl a0.2 v6.1 v6.2)), (33, nI (List.length (subl a0.2 v6.1 v6.2) : Int)), (34, nI y2)] := by
      intro x18 h σ' hk
      unfold impl_TrieChildren_J3 at h
      exact hK13 _ (lh hk rfl (rg (sp 2 rfl (evn (hN _ _ h (okr rfl))))))
     rcases cond_some h with ⟨g19, h⟩ | ⟨g19, h⟩
     ·refine qT rfl g19 (rg (sp 3 rfl (?_)))
      obtain ⟨e20, g21, h⟩ := ob_some h
      refine qI rfl zci64 g21 (sp 1 rfl (qBs ci64 [e20] rfl rfl rfl zci64 (?_)))
      obtain ⟨g22, h⟩ := chk_some h
      exact qA ci64 y1 [e20] rfl rfl (flat_len zci64 [e20]) rfl g22 (sp 1 rfl (evn (kJ3 h _ (okr rfl))))
     ·exact qF rfl g19 (ls_skip (kJ3 h _ (okr rfl)))
    refine sd 4 rfl (?_)
    rcases cond_some h with ⟨g23, h⟩ | ⟨g23, h⟩
    ·exact qgd 41 g23 rfl (sd 12 rfl (evdn (kJ2 h _ (okr rfl))))
    ·refine qgd 41 g23 rfl (sd 4 rfl (?_))
     obtain ⟨e24, g25, h⟩ := ob_some h
     refine ed rfl (oGR rfl rfl (qI rfl zci64 g25 (sd 3 rfl (?_))))
     obtain ⟨e26, g27, h⟩ := ob_some h
     exact ed rfl (oGR rfl rfl (qI rfl zci64 g27 (sd 3 rfl (evdn (kJ2 h _ (okr rfl))))))
   ·exact qF rfl g12 (ls_exit (kXB1 (Option.some.inj h) _ (okr rfl)))
def impl_nextLists_J2 (rec : ((List (List Int)) × Int) → Option ((List (List Int)))) (y6 : Int) (x6 : List (List Int)) : Option ((List (List Int))) := rec (x6, (IntKind.i64.wrap (y6 + 1)))
def impl_nextLists_J4 (rec : ((List Int) × Int) → Option ((List Int))) (y14 : Int) (x26 : List Int) : Option ((List Int)) := rec (x26, (IntKind.i64.wrap (y14 + 1)))
def impl_nextLists_B3 (a2 : List Int) (a3 : List Int) (e7 : Y108) (rec : ((List Int) × Int) → Option ((List Int))) (s : (List Int) × Int) : Option ((List Int)) := match s with
  | (y13, y14) => cond (decide (y14 < (List.length a3 : Int))) (obind (geti a3 y14) fun e20 => obind (geti a2 y14) fun e22 => obind (impl_ContainsVariable e7 e22) fun v24 => cond v24 (chk (List.length y13 + List.length [e20] ≤ lim) (impl_nextLists_J4 rec y14 (y13 ++ [e20]))) (impl_nextLists_J4 rec y14 y13)) (some y13)
def impl_nextLists_B1 (a0 : Y29) (a1 : List Y40) (a2 : List Int) (a3 : List Int) (rec : ((List (List Int)) × Int) → Option ((List (List Int)))) (s : (List (List Int)) × Int) : Option ((List (List Int))) := match s with
  | (y5, y6) => cond (decide (y6 < (List.length a0.2.1 : Int))) (obind (geti a0.2.1 y6) fun e7 => obind (geti a2 (List.length a3 : Int)) fun e10 => obind (impl_ContainsVariable e7 e10) fun v12 => cond (!v12) (impl_nextLists_J2 rec y6 y5) (obind (loopF (impl_nextLists_B3 a2 a3 e7) fz (([] : List Int), 0)) fun z16 => obind (geti a1 y6) fun e29 => obind (impl_TrieChildren e29 z16) fun v31 => chk (List.length y5 + List.length [v31] ≤ lim) (impl_nextLists_J2 rec y6 (y5 ++ [v31])))) (some y5)
def impl_nextLists (a0 : Y29) (a1 : List Y40) (a2 : List Int) (a3 : List Int) : Option ((List (List Int))) := obind (loopF (impl_nextLists_B1 a0 a1 a2 a3) fz (([] : List (List Int)), 0)) fun z2 => some z2
theorem impl_nextLists_s {a0 : Y29} {a1 : List Y40} {a2 : List Int} {a3 : List Int} {r : (List (List Int))} (h : impl_nextLists a0 a1 a2 a3 = some r) : SoundAt Tryz.prog 148 [.agg (c30_ddd a0), dL c179_dd a1, dL ci64 a2, dL ci64 a3] (oL 27 c27_o r) := by
 unfold impl_nextLists at h
 refine st lit148 rfl (rn 2 rfl (ls_seq_k fun K1 hK1 => rn 1 rfl ?_))
 obtain ⟨o1, hl, hr1⟩ := ob_some h
 have kXB1 : ∀ {z2 : List (List Int)}, z2 = o1 → Jn K1 [(9, oL 27 c27_o z2)] := by
  intro z2 h σ' hk
  subst h
  replace h := hr1
  try dsimp only at h
  exact hK1 _ (lh hk rfl (rn 1 rfl (ls_ret ((by cases h; exact ⟨.inl rfl, rfl⟩)))))
 refine ls_rec (fun (s : (List (List Int)) × Int) => match s with | (y5, y6) => [(1, dL c179_dd a1), (2, dL ci64 a2), (3, dL ci64 a3), (9, oL 27 c27_o y5), (16, dL c109_d a0.2.1), (17, nI (List.length a0.2.1 : Int)), (18, nI y6)]) _ _ _ _ hl (okr rfl) (fun _ => rfl) ?_
 rintro m ⟨y5, y6⟩ N h hN
 unfold impl_nextLists_B1 at h
 dsimp only at h
 refine rn 1 rfl (ls_seq_k fun K3 hK3 => ?_)
 rcases cond_some h with ⟨g4, h⟩ | ⟨g4, h⟩
 ·refine qT rfl g4 (ls_skip (hK3 _ (ls_seq_k fun K5 hK5 => ?_)))
  have kJ2 : ∀ {x6 : List (List Int)}, impl_nextLists_J2 (loopF (impl_nextLists_B1 a0 a1 a2 a3) m) y6 x6 = some o1 → Jn K5 [(1, dL c179_dd a1), (2, dL ci64 a2), (3, dL ci64 a3), (9, oL 27 c27_o x6), (16, dL c109_d a0.2.1), (17, nI (List.length a0.2.1 : Int)), (18, nI y6)] := by
   intro x6 h σ' hk
   unfold impl_nextLists_J2 at h
   exact hK5 _ (lh hk rfl (rg (sp 2 rfl (evn (hN _ _ h (okr rfl))))))
  refine ls_blk (rs (sp 1 rfl (?_)))
  obtain ⟨e7, g8, h⟩ := ob_some h
  refine qI rfl zc109_d g8 (sp 4 rfl (evn (ls_seq_k fun K9 hK9 => rd (by kernel_rfl) (sd 4 rfl (?_)))))
  obtain ⟨e10, g11, h⟩ := ob_some h
  refine ed rfl (qI rfl zci64 g11 (sd 1 rfl (?_)))
  obtain ⟨v12, g13, h⟩ := ob_some h
  refine ed rfl (qC (qa rfl (erg (erc rfl (erc (erD eci64 _) rfl))) (qs rfl eran)) (impl_ContainsVariable_s g13) (sd 1 rfl (evdn ?_)))
  rcases cond_some h with ⟨g14, h⟩ | ⟨g14, h⟩
  ·exact qT rfl g14 (ls_exit (kJ2 h _ (okr rfl)))
  ·refine qF rfl g14 (ls_skip (hK9 _ (rn 1 rfl (ls_seq_k fun K15 hK15 => rn 1 rfl ?_))))
   obtain ⟨o3, hl, hr3⟩ := ob_some h
   have kXB3 : ∀ {z16 : List Int}, z16 = o3 → Jn K15 [(1, dL c179_dd a1), (2, dL ci64 a2), (3, dL ci64 a3), (9, oL 27 c27_o y5), (10, nI y6), (12, oL 3 ci64 z16), (16, dL c109_d a0.2.1), (17, nI (List.length a0.2.1 : Int)), (18, nI y6)] := by
    intro z16 h σ' hk
    subst h
    replace h := hr3
    try dsimp only at h
    refine hK15 _ (lh hk rfl (rg (sp 3 rfl (?_))))
    obtain ⟨e29, g30, h⟩ := ob_some h
    refine qI rfl zc179_dd g30 (sp 2 rfl (?_))
    obtain ⟨v31, g32, h⟩ := ob_some h
    refine qC (qa rfl (erg (erc rfl (erc (erD ec27_d _) rfl))) (qa rfl (erD eci64 _) eran)) (impl_TrieChildren_s g32) (qBs c27_o [v31] rfl rfl rfl zc27_o (?_))
    obtain ⟨g33, h⟩ := chk_some h
    exact qA c27_o y5 [v31] rfl rfl (flat_len zc27_o [v31]) rfl g33 (sp 1 rfl (evn (kJ2 h _ (okr rfl))))
   refine ls_rec (fun (s : (List Int) × Int) => match s with | (y13, y14) => [(1, dL c179_dd a1), (2, dL ci64 a2), (3, dL ci64 a3), (9, oL 27 c27_o y5), (10, nI y6), (11, .box [.str e7.1, dL ci64 e7.2]), (12, oL 3 ci64 y13), (16, dL c109_d a0.2.1), (17, nI (List.length a0.2.1 : Int)), (18, nI y6), (31, dL ci64 a3), (32, nI (List.length a3 : Int)), (33, nI y14)]) _ _ _ _ hl (okr rfl) (fun _ => rfl) ?_
   rintro m ⟨y13, y14⟩ N h hN
   unfold impl_nextLists_B3 at h
   dsimp only at h
   refine rn 1 rfl (ls_seq_k fun K17 hK17 => ?_)
   rcases cond_some h with ⟨g18, h⟩ | ⟨g18, h⟩
   ·refine qT rfl g18 (ls_skip (hK17 _ (ls_seq_k fun K19 hK19 => ls_blk (rs (sp 1 rfl (?_))))))
    obtain ⟨e20, g21, h⟩ := ob_some h
    refine qI rfl zci64 g21 (sp 3 rfl (evn (rd (by kernel_rfl) (sd 3 rfl (?_)))))
    obtain ⟨e22, g23, h⟩ := ob_some h
    refine ed rfl (qI rfl zci64 g23 (sd 1 rfl (?_)))
    obtain ⟨v24, g25, h⟩ := ob_some h
    refine ed rfl (qC (qa rfl (erg (erc rfl (erc (erD eci64 _) rfl))) (qs rfl eran)) (impl_ContainsVariable_s g25) (evdn ?_))
    have kJ4 : ∀ {x26 : List Int}, impl_nextLists_J4 (loopF (impl_nextLists_B3 a2 a3 e7) m) y14 x26 = some o3 → Jn K19 [(1, dL c179_dd a1), (2, dL ci64 a2), (3, dL ci64 a3), (9, oL 27 c27_o y5), (10, nI y6), (11, .box [.str e7.1, dL ci64 e7.2]), (12, oL 3 ci64 x26), (16, dL c109_d a0.2.1), (17, nI (List.length a0.2.1 : Int)), (18, nI y6), (31, dL ci64 a3), (32, nI (List.length a3 : Int)), (33, nI y14)] := by
     intro x26 h σ' hk
     unfold impl_nextLists_J4 at h
     exact hK19 _ (lh hk rfl (rg (sp 2 rfl (evn (hN _ _ h (okr rfl))))))
    rcases cond_some h with ⟨g27, h⟩ | ⟨g27, h⟩
    ·refine qT rfl g27 (rg (sp 2 rfl (qBs ci64 [e20] rfl rfl rfl zci64 (?_))))
     obtain ⟨g28, h⟩ := chk_some h
     exact qA ci64 y13 [e20] rfl rfl (flat_len zci64 [e20]) rfl g28 (sp 1 rfl (evn (kJ4 h _ (okr rfl))))
    ·exact qF rfl g27 (ls_skip (kJ4 h _ (okr rfl)))
   ·exact qF rfl g18 (ls_exit (kXB3 (Option.some.inj h) _ (okr rfl)))
 ·exact qF rfl g4 (ls_exit (kXB1 (Option.some.inj h) _ (okr rfl)))
def impl_reach_LeapfrogIntersect_B3 (e13 : List Int) (v17 : (List Int) × Int) (rec : ((List (List Int)) × Int) → Option ((List (List Int)))) (s : (List (List Int)) × Int) : Option ((List (List Int))) := match s with
  | (y29, y30) => cond (decide (y30 < (List.length v17.1 : Int))) (obind (geti v17.1 y30) fun e23 => obind (impl_copyInts e13) fun v25 => chk (List.length v25 + List.length [e23] ≤ lim) (chk (List.length y29 + List.length ([v25 ++ [e23]]) ≤ lim) (rec ((y29 ++ ([v25 ++ [e23]])), (IntKind.i64.wrap (y30 + 1)))))) (some y29)
def impl_reach_LeapfrogIntersect_B2 (a0 : Y29) (a1 : List Y40) (a2 : List Int) (y10 : List (List Int)) (rec : (Int × (List (List Int)) × Int) → Option (Int × (List (List Int)))) (s : Int × (List (List Int)) × Int) : Option (Int × (List (List Int))) := match s with
  | (y24, y25, y26) => cond (decide (y26 < (List.length y10 : Int))) (obind (geti y10 y26) fun e13 => obind (impl_nextLists a0 a1 a2 e13) fun v15 => obind (impl_LeapfrogIntersect v15) fun v17 => obind (loopF (impl_reach_LeapfrogIntersect_B3 e13 v17) fz (y25, 0)) fun z19 => rec ((IntKind.i64.wrap (y24 + v17.2)), z19, (IntKind.i64.wrap (y26 + 1)))) (some (y24, y25))
def impl_reach_LeapfrogIntersect_B1 (a0 : Y29) (a1 : List Y40) (a2 : List Int) (a3 : Int) (rec : ((List (List Int)) × Int × Int) → Option ((List (List Int)) × Int)) (s : (List (List Int)) × Int × Int) : Option ((List (List Int)) × Int) := match s with
  | (y10, y11, y12) => cond (decide (y12 < a3)) (obind (loopF (impl_reach_LeapfrogIntersect_B2 a0 a1 a2 y10) fz (y11, ([] : List (List Int)), 0)) fun o2 => (match o2 with
  | (z8, z9) => (rec (z9, z8, (IntKind.i64.wrap (y12 + 1)))))) (some (y10, y11))
def impl_reach_LeapfrogIntersect (a0 : Y29) (a1 : List Y40) (a2 : List Int) (a3 : Int) : Option ((List (List Int)) × Int × Bool) := obind (loopF (impl_reach_LeapfrogIntersect_B1 a0 a1 a2 a3) fz (([[]]), 0, 0)) fun o1 => (match o1 with
  | (z2, z3) => (some (z2, z3, decide ((List.length z2 : Int) ≤ 4000))))
theorem impl_reach_LeapfrogIntersect_s {a0 : Y29} {a1 : List Y40} {a2 : List Int} {a3 : Int} {r : (List (List Int)) × Int × Bool} (h : impl_reach_LeapfrogIntersect a0 a1 a2 a3 = some r) : SoundAt Tryz.prog 107 [.agg (c30_ddd a0), dL c179_dd a1, dL ci64 a2, nI a3, .fn 108] (.tup [oL 27 c27_o r.1, nI r.2.1, .bool r.2.2]) := by
 unfold impl_reach_LeapfrogIntersect at h
 refine st lit107 rfl (rn 1 rfl (rs (qBs ci64 [] rfl rfl rfl zci64 (qBs c27_o [[]] rfl rfl rfl zc27_o (sp 1 rfl (evn (rn 1 rfl (ls_seq_k fun K1 hK1 => rn 1 rfl ?_))))))))
 obtain ⟨o1, hl, hr1⟩ := ob_some h
 have kXB1 : ∀ {z2 : List (List Int)} {z3 : Int}, (z2, z3) = o1 → Jn K1 [(13, oL 27 c27_o z2), (14, nI z3)] := by
  intro z2 z3 h σ' hk
  subst h
  replace h := hr1
  try dsimp only at h
  exact hK1 _ (lh hk rfl (rn 1 rfl (ls_ret ((by cases h; exact ⟨.inl rfl, rfl⟩)))))
 refine ls_rec (fun (s : (List (List Int)) × Int × Int) => match s with | (y10, y11, y12) => [(1, dL c179_dd a1), (2, dL ci64 a2), (3, nI a3), (4, .fn 108), (5, .box [nI a0.1, dL c109_d a0.2.1, dL ci64 a0.2.2]), (13, oL 27 c27_o y10), (14, nI y11), (15, nI y12)]) _ _ _ _ hl (okr rfl) (fun _ => rfl) ?_
 rintro m ⟨y10, y11, y12⟩ N h hN
 unfold impl_reach_LeapfrogIntersect_B1 at h
 dsimp only at h
 refine ls_seq_k fun K4 hK4 => rn 1 rfl ?_
 rcases cond_some h with ⟨g5, h⟩ | ⟨g5, h⟩
 ·refine qT rfl g5 (ls_skip (hK4 _ (ls_seq_k fun K6 hK6 => ls_blk (rn 1 rfl (ls_seq_k fun K7 hK7 => rn 1 rfl ?_)))))
  obtain ⟨o2, hl, hr2⟩ := ob_some h
  have kXB2 : ∀ {z8 : Int} {z9 : List (List Int)}, (z8, z9) = o2 → Jn K7 [(1, dL c179_dd a1), (2, dL ci64 a2), (3, nI a3), (4, .fn 108), (5, .box [nI a0.1, dL c109_d a0.2.1, dL ci64 a0.2.2]), (14, nI z8), (15, nI y12), (16, oL 27 c27_o z9)] := by
   intro z8 z9 h σ' hk
   subst h
   replace h := hr2
   try dsimp only at h
   exact hK7 _ (lh hk rfl (rg (sp 2 rfl (evn (hK6 _ (rg (sp 3 rfl (evn (hN _ _ h (okr rfl))))))))))
  refine ls_rec (fun (s : Int × (List (List Int)) × Int) => match s with | (y24, y25, y26) => [(1, dL c179_dd a1), (2, dL ci64 a2), (3, nI a3), (4, .fn 108), (5, .box [nI a0.1, dL c109_d a0.2.1, dL ci64 a0.2.2]), (14, nI y24), (15, nI y12), (16, oL 27 c27_o y25), (30, dL c27_o y10), (31, nI (List.length y10 : Int)), (32, nI y26)]) _ _ _ _ hl (okr rfl) (fun _ => rfl) ?_
  rintro m ⟨y24, y25, y26⟩ N h hN
  unfold impl_reach_LeapfrogIntersect_B2 at h
  dsimp only at h
  refine rn 1 rfl (ls_seq_k fun K10 hK10 => ?_)
  rcases cond_some h with ⟨g11, h⟩ | ⟨g11, h⟩
  ·refine qT rfl g11 (ls_skip (hK10 _ (ls_seq_k fun K12 hK12 => ls_blk (rs ?_))))
   obtain ⟨e13, g14, h⟩ := ob_some h
   refine qI rfl zc27_o g14 (sp 2 rfl (evn (rs (sp 5 rfl (?_)))))
   obtain ⟨v15, g16, h⟩ := ob_some h
   refine qC (qa rfl (erg (erc rfl (erc (erD ec109_d _) (erc (erD eci64 _) rfl)))) (qa rfl (erD ec179_dd _) (qa rfl (erD eci64 _) (qa rfl (erD eci64 _) eran)))) (impl_nextLists_s g16) (?_)
   obtain ⟨v17, g18, h⟩ := ob_some h
   refine qCt rfl (qa rfl (erO ec27_o _) eran) (impl_LeapfrogIntersect_s g18) (sp 5 rfl (evn (rn 2 rfl ?_)))
   obtain ⟨o3, hl, hr3⟩ := ob_some h
   have kXB3 : ∀ {z19 : List (List Int)}, z19 = o3 → Jn K12 [(1, dL c179_dd a1), (2, dL ci64 a2), (3, nI a3), (4, .fn 108), (5, .box [nI a0.1, dL c109_d a0.2.1, dL ci64 a0.2.2]), (14, nI (IntKind.i64.wrap (y24 + v17.2))), (15, nI y12), (16, oL 27 c27_o z19), (30, dL c27_o y10), (31, nI (List.length y10 : Int)), (32, nI y26)] := by
    intro z19 h σ' hk
    subst h
    replace h := hr3
    try dsimp only at h
    exact hK12 _ (lh hk rfl (rg (sp 2 rfl (evn (hN _ _ h (okr rfl))))))
   refine ls_rec (fun (s : (List (List Int)) × Int) => match s with | (y29, y30) => [(1, dL c179_dd a1), (2, dL ci64 a2), (3, nI a3), (4, .fn 108), (5, .box [nI a0.1, dL c109_d a0.2.1, dL ci64 a0.2.2]), (14, nI (IntKind.i64.wrap (y24 + v17.2))), (15, nI y12), (16, oL 27 c27_o y29), (18, dL ci64 e13), (30, dL c27_o y10), (31, nI (List.length y10 : Int)), (32, nI y26), (49, dL ci64 v17.1), (50, nI (List.length v17.1 : Int)), (51, nI y30)]) _ _ _ _ hl (okr rfl) (fun _ => rfl) ?_
   rintro m ⟨y29, y30⟩ N h hN
   unfold impl_reach_LeapfrogIntersect_B3 at h
   dsimp only at h
   refine rn 1 rfl (ls_seq_k fun K20 hK20 => ?_)
   rcases cond_some h with ⟨g21, h⟩ | ⟨g21, h⟩
   ·refine qT rfl g21 (ls_skip (hK20 _ (ls_seq_k fun K22 hK22 => ls_blk (rs ?_))))
    obtain ⟨e23, g24, h⟩ := ob_some h
    refine qI rfl zci64 g24 (sp 2 rfl (evn (rg (sp 2 rfl (?_)))))
    obtain ⟨v25, g26, h⟩ := ob_some h
    refine qC (qa rfl (erD eci64 _) eran) (impl_copyInts_s g26) (sp 1 rfl (qBs ci64 [e23] rfl rfl rfl zci64 (?_)))
    obtain ⟨g27, h⟩ := chk_some h
    refine qA ci64 v25 [e23] rfl rfl (flat_len zci64 [e23]) rfl g27 (qBs c27_o [v25 ++ [e23]] rfl rfl rfl zc27_o (?_))
    obtain ⟨g28, h⟩ := chk_some h
    exact qA c27_o y29 ([v25 ++ [e23]]) rfl rfl (flat_len zc27_o ([v25 ++ [e23]])) rfl g28 (sp 1 rfl (evn (hK22 _ (rg (sp 2 rfl (evn (hN _ _ h (okr rfl))))))))
   ·exact qF rfl g21 (ls_exit (kXB3 (Option.some.inj h) _ (okr rfl)))
  ·exact qF rfl g11 (ls_exit (kXB2 (Option.some.inj h) _ (okr rfl)))
 ·exact qF rfl g5 (ls_exit (kXB1 (Option.some.inj h) _ (okr rfl)))
def impl_LeapfrogJoin (a0 : List Y113) (a1 : Y29) (a2 : List Int) : Option (Y40 × Int × Bool) := obind (impl_BuildTries a0 a1 a2) fun v1 => cond (!v1.2) (some ((0, []), 0, false)) (obind (impl_someEmpty v1.1) fun v6 => cond v6 (some ((a1.1, []), 0, true)) (obind (impl_reach_LeapfrogIntersect a1 v1.1 a2 a1.1) fun v9 => cond (!v9.2.2) (some ((0, []), 0, false)) (some ((a1.1, v9.1), v9.2.1, true))))
theorem impl_LeapfrogJoin_s {a0 : List Y113} {a1 : Y29} {a2 : List Int} {r : Y40 × Int × Bool} (h : impl_LeapfrogJoin a0 a1 a2 = some r) : SoundAt Tryz.prog 69 [.agg [dL c114_dd a0], .agg (c30_ddd a1), dL ci64 a2] (.tup [.agg (c41_oo r.1), nI r.2.1, .bool r.2.2]) := by
 unfold impl_LeapfrogJoin at h
 refine st lit69 rfl (rn 1 rfl (rs (sp 3 rfl (?_))))
 obtain ⟨v1, g2, h⟩ := ob_some h
 refine qC (qa rfl (erg (erc (erD ec114_dd _) rfl)) (qa rfl (erg (erc rfl (erc (erD ec109_d _) (erc (erD eci64 _) rfl)))) (qa rfl (erD eci64 _) eran))) (impl_BuildTries_s g2) (sp 5 rfl (evn (ls_seq_k fun K3 hK3 => rn 1 rfl ?_)))
 rcases cond_some h with ⟨g4, h⟩ | ⟨g4, h⟩
 ·exact qT rfl g4 (rn 1 rfl (ls_ret ((by cases h; exact ⟨.inl rfl, rfl⟩))))
 ·refine qF rfl g4 (ls_skip (hK3 _ (ls_seq_k fun K5 hK5 => rs (sp 1 rfl (?_)))))
  obtain ⟨v6, g7, h⟩ := ob_some h
  refine qC (qa rfl (erD ec179_oo _) eran) (impl_someEmpty_s g7) (evn ?_)
  rcases cond_some h with ⟨g8, h⟩ | ⟨g8, h⟩
  ·exact qT rfl g8 (rn 1 rfl (qk [6, 7, 8] rfl (ls_ret ((by cases h; exact ⟨.inl rfl, rfl⟩)))))
  ·refine qF rfl g8 (ls_skip (hK5 _ (rs (sp 5 rfl (?_)))))
   obtain ⟨v9, g10, h⟩ := ob_some h
   refine qC (qa rfl (erg (erc rfl (erc (erD ec109_d _) (erc (erD eci64 _) rfl)))) (qa rfl (erD ec179_oo _) (qa rfl (erD eci64 _) (qs rfl (qs rfl eran))))) (impl_reach_LeapfrogIntersect_s g10) (sp 7 rfl (evn (ls_seq_k fun K11 hK11 => rn 1 rfl ?_)))
   rcases cond_some h with ⟨g12, h⟩ | ⟨g12, h⟩
   ·exact qT rfl g12 (rn 1 rfl (ls_ret ((by cases h; exact ⟨.inl rfl, rfl⟩))))
   ·exact qF rfl g12 (ls_skip (hK11 _ (rn 1 rfl (ls_ret ((by cases h; exact ⟨.inl rfl, rfl⟩))))))
end Go.Proofs.YtlknpohjnpnodaaGreat
