/-
  Functions of the program as typed functions, printed by gen.py, and that the program's functions do what they say. No conditions.
-/
import Derived.Test.YtmioifafgbjjhaaKb
import Derived.Test.YtmioifafgbjjhaaLit2DV1
namespace Go.Proofs.Ytmioifafgbjjhaa
open Go.RowKit
set_option linter.unusedVariables false
set_option maxRecDepth 100000
set_option maxHeartbeats 1000000
def laws_big (a0 : List Int) : Option (Bool) := some (decide (1048576 < (List.length a0 : Int)))
theorem laws_big_s {a0 : List Int} {r : Bool} (h : laws_big a0 = some r) : SoundAt Try.prog 11 [dL cu8 a0] (.bool r) := by
 unfold laws_big at h
 exact st lit11 rfl (rn 2 rfl (ls_ret ((by cases h; exact ⟨.inl rfl, rfl⟩))))
abbrev Y202 := (List Int) × Int × Int
def spec_l1New_B1 (a0 : List Int) (rec : (Int × Int) → Option (Int)) (s : Int × Int) : Option (Int) := match s with
  | (y1, y2) => cond (decide (y2 < (List.length a0 : Int))) (cond (decide (y2 < 4000)) (obind (geti a0 y2) fun e7 => rec ((andI (IntKind.i64.wrap ((IntKind.i64.wrap ((IntKind.i64.wrap (y1 * 131)) + (IntKind.i64.wrap e7))) + 7)) 1073741823), (IntKind.i64.wrap (y2 + 1)))) (some y1)) (some y1)
def spec_l1New (a0 : List Int) : Option (Y202) := obind (loopF (spec_l1New_B1 a0) fz ((IntKind.i64.wrap (10101 + (List.length a0 : Int))), 0)) fun z2 => some (a0, 0, z2)
theorem spec_l1New_s {a0 : List Int} {r : Y202} (h : spec_l1New a0 = some r) : NewAt Try.prog 81 [aL cu8 a0] [aL cu8 r.1, nI r.2.1, nI r.2.2] := by
 unfold spec_l1New at h
 refine stn lit81 rfl rfl (rn 2 rfl (ls_seq_k fun K1 hK1 => rn 1 rfl ?_))
 obtain ⟨o1, hl, hr1⟩ := ob_some h
 have kXB1 : ∀ {z2 : Int}, z2 = o1 → Jn K1 [(0, aL cu8 a0), (3, nI z2)] := by
  intro z2 h σ' hk
  subst h
  replace h := hr1
  try dsimp only at h
  exact hK1 _ (lh hk rfl (rn 1 rfl (ls_ret ((by cases h; exact ⟨.inl rfl, 31, rfl, rfl⟩)))))
 refine ls_rec (fun (s : Int × Int) => match s with | (y1, y2) => [(0, aL cu8 a0), (3, nI y1), (4, nI y2)]) _ _ _ _ hl (okr rfl) (fun _ => rfl) ?_
 rintro m ⟨y1, y2⟩ N h hN
 unfold spec_l1New_B1 at h
 dsimp only at h
 refine ls_seq_k fun K3 hK3 => rs (sp 5 rfl (?_))
 rcases cond_some h with ⟨g4, h⟩ | ⟨g4, h⟩
 ·refine qg 12 g4 rfl (sp 3 rfl (evn ?_))
  rcases cond_some h with ⟨g5, h⟩ | ⟨g5, h⟩
  ·refine qT rfl g5 (ls_skip (hK3 _ (ls_seq_k fun K6 hK6 => ls_blk (rg (sp 4 rfl (?_))))))
   obtain ⟨e7, g8, h⟩ := ob_some h
   exact qI rfl zcu8 g8 (sp 6 rfl (evn (hK6 _ (rg (sp 3 rfl (evn (hN _ _ h (okr rfl))))))))
  ·exact qF rfl g5 (ls_exit (kXB1 (Option.some.inj h) _ (okr rfl)))
 ·exact qg 12 g4 rfl (sp 3 rfl (evn (qF rfl rfl (ls_exit (kXB1 (Option.some.inj h) _ (okr rfl))))))
def spec_l1Byte_J1 (a0 : Y202) (x2 : Int) (x3 : Int) : Option (Int × Y202) := some (x3, (a0.1, x2, IntKind.i64.wrap ((IntKind.i64.wrap (a0.2.2 * 6364136223846793005)) + 1442695040888963407)))
def spec_l1Byte (a0 : Y202) : Option (Int × Y202) := cond (decide (a0.2.1 < (List.length a0.1 : Int))) (obind (geti a0.1 a0.2.1) fun e5 => spec_l1Byte_J1 a0 (IntKind.i64.wrap (a0.2.1 + 1)) (andI (IntKind.i64.wrap ((andI (xorI (shrI (IntKind.i64.wrap ((IntKind.i64.wrap (a0.2.2 * 6364136223846793005)) + 1442695040888963407)) 33) (shrI (IntKind.i64.wrap ((IntKind.i64.wrap (a0.2.2 * 6364136223846793005)) + 1442695040888963407)) 45)) 255) + (IntKind.i64.wrap e5))) 255)) (spec_l1Byte_J1 a0 a0.2.1 (andI (xorI (shrI (IntKind.i64.wrap ((IntKind.i64.wrap (a0.2.2 * 6364136223846793005)) + 1442695040888963407)) 33) (shrI (IntKind.i64.wrap ((IntKind.i64.wrap (a0.2.2 * 6364136223846793005)) + 1442695040888963407)) 45)) 255))
theorem spec_l1Byte_s {a0 : Y202} {r : Int × Y202} (h : spec_l1Byte a0 = some r) : PtrAt Try.prog 171 [aL cu8 a0.1, nI a0.2.1, nI a0.2.2] [] [aL cu8 r.2.1, nI r.2.2.1, nI r.2.2.2] (nI r.1) := by
 unfold spec_l1Byte at h
 refine stp lit171 rfl (rn 2 rfl (rd (by kernel_rfl) (sd 13 rfl (evdn (ls_seq_k fun K1 hK1 => rd (by kernel_rfl) (sd 10 rfl (evdn ?_)))))))
 have kJ1 : ∀ {x2 : Int} {x3 : Int}, spec_l1Byte_J1 a0 x2 x3 = some r → Jn K1 [(0, .box [aL cu8 a0.1, nI x2, nI (IntKind.i64.wrap ((IntKind.i64.wrap (a0.2.2 * 6364136223846793005)) + 1442695040888963407))]), (3, nI x3)] := by
  intro x2 x3 h σ' hk
  unfold spec_l1Byte_J1 at h
  exact hK1 _ (lh hk rfl (rn 1 rfl (ls_ret ((by cases h; exact ⟨.inl rfl, rfl, rfl⟩)))))
 rcases cond_some h with ⟨g4, h⟩ | ⟨g4, h⟩
 ·refine qT rfl g4 (rd (by kernel_rfl) (sd 9 rfl (?_)))
  obtain ⟨e5, g6, h⟩ := ob_some h
  exact ed rfl (qI rfl zcu8 g6 (sd 5 rfl (evdn (rg (sp 9 rfl (evn (kJ1 h _ (okr rfl))))))))
 ·exact qF rfl g4 (ls_skip (kJ1 h _ (okr rfl)))
def c203_d (x : Y202) : List V := [dL cu8 x.1, nI x.2.1, nI x.2.2]
theorem zc203_d (x : Y202) : (c203_d x).length = 3 := rfl
theorem ec203_d (x : Y202) : erL (c203_d x) = c203_d x := (erc (erD ecu8 _) (erc rfl (erc rfl rfl)))
def c203_a (x : Y202) : List V := [aL cu8 x.1, nI x.2.1, nI x.2.2]
theorem zc203_a (x : Y202) : (c203_a x).length = 3 := rfl
theorem ec203_a (x : Y202) : erL (c203_a x) = c203_d x := (erc (erG ecu8 _) (erc rfl (erc rfl rfl)))
def spec_l1Below (a0 : Y202) (a1 : Int) : Option (Int × Y202) := cond (decide (a1 ≤ 0)) (some (0, a0)) (cond (decide (a1 ≤ 256)) (obind (spec_l1Byte a0) fun v5 => chk (a1 ≠ 0) (some (Int.tmod v5.1 a1, v5.2))) (obind (spec_l1Byte a0) fun v8 => obind (spec_l1Byte v8.2) fun v10 => obind (spec_l1Byte v10.2) fun v12 => obind (spec_l1Byte v12.2) fun v14 => chk (a1 ≠ 0) (some (Int.tmod (IntKind.i64.wrap ((IntKind.i64.wrap ((IntKind.i64.wrap ((IntKind.i64.wrap (v8.1 * 16777216)) + (IntKind.i64.wrap (v10.1 * 65536)))) + (IntKind.i64.wrap (v12.1 * 256)))) + v14.1)) a1, v14.2))))
theorem spec_l1Below_s {a0 : Y202} {a1 : Int} {r : Int × Y202} (h : spec_l1Below a0 a1 = some r) : PtrAt Try.prog 84 [aL cu8 a0.1, nI a0.2.1, nI a0.2.2] [nI a1] [aL cu8 r.2.1, nI r.2.2.1, nI r.2.2.2] (nI r.1) := by
 unfold spec_l1Below at h
 refine stp lit84 rfl (rn 1 rfl (ls_seq_k fun K1 hK1 => rn 1 rfl ?_))
 rcases cond_some h with ⟨g2, h⟩ | ⟨g2, h⟩
 ·exact qT rfl g2 (rn 1 rfl (ls_ret ((by cases h; exact ⟨.inl rfl, rfl, rfl⟩))))
 ·refine qF rfl g2 (ls_skip (hK1 _ (ls_seq_k fun K3 hK3 => rn 1 rfl ?_)))
  rcases cond_some h with ⟨g4, h⟩ | ⟨g4, h⟩
  ·refine qT rfl g4 (rs (sp 1 rfl (?_)))
   obtain ⟨v5, g6, h⟩ := ob_some h
   refine qP rfl rfl rfl rfl eran (spec_l1Byte_s g6) (sp 1 rfl (?_))
   obtain ⟨g7, h⟩ := chk_some h
   exact qB rfl ⟨rfl, g7⟩ rfl (sp 1 rfl (evn (ls_ret ((by cases h; exact ⟨.inl rfl, rfl, rfl⟩)))))
  ·refine qF rfl g4 (ls_skip (hK3 _ (rs (sp 1 rfl (?_)))))
   obtain ⟨v8, g9, h⟩ := ob_some h
   refine qP rfl rfl rfl rfl eran (spec_l1Byte_s g9) (sp 1 rfl (evn (qk [0, 1, 5] rfl (rs (sp 1 rfl (?_))))))
   obtain ⟨v10, g11, h⟩ := ob_some h
   refine qP rfl rfl rfl rfl eran (spec_l1Byte_s g11) (sp 1 rfl (evn (rs (sp 1 rfl (?_)))))
   obtain ⟨v12, g13, h⟩ := ob_some h
   refine qP rfl rfl rfl rfl eran (spec_l1Byte_s g13) (sp 1 rfl (evn (rs (sp 1 rfl (?_)))))
   obtain ⟨v14, g15, h⟩ := ob_some h
   refine qP rfl rfl rfl rfl eran (spec_l1Byte_s g15) (sp 1 rfl (evn (rs (sp 11 rfl (?_)))))
   obtain ⟨g16, h⟩ := chk_some h
   exact qB rfl ⟨rfl, g16⟩ rfl (sp 1 rfl (evn (ls_ret ((by cases h; exact ⟨.inl rfl, rfl, rfl⟩)))))
def spec_l1Once (a0 : Y202) (a1 : Int) : Option (Bool × Y202) := obind (spec_l1Below a0 a1) fun v1 => some ((v1.1 == 0), v1.2)
theorem spec_l1Once_s {a0 : Y202} {a1 : Int} {r : Bool × Y202} (h : spec_l1Once a0 a1 = some r) : PtrAt Try.prog 161 [aL cu8 a0.1, nI a0.2.1, nI a0.2.2] [nI a1] [aL cu8 r.2.1, nI r.2.2.1, nI r.2.2.2] (.bool r.1) := by
 unfold spec_l1Once at h
 refine stp lit161 rfl (rn 1 rfl (rs (sp 2 rfl (?_))))
 obtain ⟨v1, g2, h⟩ := ob_some h
 exact qP rfl rfl rfl rfl (qs rfl eran) (spec_l1Below_s g2) (sp 2 rfl (evn (ls_ret ((by cases h; exact ⟨.inl rfl, rfl, rfl⟩)))))
def spec_l1In_J1 (x2 : Bool) : Option (Bool) := some x2
def spec_l1In (a0 : Int) (a1 : Int) (a2 : Int) : Option (Bool) := cond (decide (a1 ≤ a0)) (spec_l1In_J1 (decide (a0 ≤ a2))) (spec_l1In_J1 false)
theorem spec_l1In_s {a0 : Int} {a1 : Int} {a2 : Int} {r : Bool} (h : spec_l1In a0 a1 a2 = some r) : SoundAt Try.prog 89 [nI a0, nI a1, nI a2] (.bool r) := by
 unfold spec_l1In at h
 refine st lit89 rfl (rn 1 rfl (rk fun K1 hK1 => ?_))
 have kJ1 : ∀ {x2 : Bool}, spec_l1In_J1 x2 = some r → Jn K1 [(6, .bool x2)] := by
  intro x2 h σ' hk
  unfold spec_l1In_J1 at h
  exact hK1 _ (lh hk rfl (ls_ret ((by cases h; exact ⟨.inl rfl, rfl⟩))))
 refine sp 4 rfl (?_)
 rcases cond_some h with ⟨g3, h⟩ | ⟨g3, h⟩
 ·exact qg 10 g3 rfl (sp 5 rfl (evn (kJ1 h _ (okr rfl))))
 ·exact qg 10 g3 rfl (sp 5 rfl (evn (kJ1 h _ (okr rfl))))
def spec_AreValidValues_B1 (a0 : List Int) (rec : Int → Option (Sum (Unit) (Bool))) (y1 : Int) : Option (Sum (Unit) (Bool)) := cond (decide (y1 < (List.length a0 : Int))) (obind (geti a0 y1) fun e5 => obind (spec_l1In e5 0 99) fun v7 => cond (!v7) (some (.inr false)) (rec (IntKind.i64.wrap (y1 + 1)))) (some (.inl ()))
def spec_AreValidValues (a0 : List Int) : Option (Bool) := obind (loopF (spec_AreValidValues_B1 a0) fz 0) fun o1 => (match o1 with
  | .inl _ => (some true)
  | .inr r => some r)
theorem spec_AreValidValues_s {a0 : List Int} {r : Bool} (h : spec_AreValidValues a0 = some r) : SoundAt Try.prog 90 [dL ci64 a0] (.bool r) := by
 unfold spec_AreValidValues at h
 refine st lit90 rfl (rn 1 rfl (ls_seq_k fun K1 hK1 => rn 1 rfl ?_))
 obtain ⟨o1, hl, hr1⟩ := ob_some h
 have kXB1 : (.inl ()) = o1 → Jn K1 [] := by
  intro h σ' hk
  subst h
  replace h := hr1
  try dsimp only at h
  exact hK1 _ (lh hk rfl (rn 1 rfl (ls_ret ((by cases h; exact ⟨.inl rfl, rfl⟩)))))
 refine ls_rec (fun (y1 : Int) => [(0, dL ci64 a0), (3, nI y1)]) _ _ _ _ hl (okr rfl) (fun _ => rfl) ?_
 rintro m y1 N h hN
 unfold spec_AreValidValues_B1 at h
 refine ls_seq_k fun K2 hK2 => rn 1 rfl ?_
 rcases cond_some h with ⟨g3, h⟩ | ⟨g3, h⟩
 ·refine qT rfl g3 (ls_skip (hK2 _ (ls_seq_k fun K4 hK4 => ls_blk (rs (sp 2 rfl (?_))))))
  obtain ⟨e5, g6, h⟩ := ob_some h
  refine qI rfl zci64 g6 (sp 1 rfl (?_))
  obtain ⟨v7, g8, h⟩ := ob_some h
  refine qC (qs rfl (qs rfl (qs rfl eran))) (spec_l1In_s g8) (sp 1 rfl (evn ?_))
  rcases cond_some h with ⟨g9, h⟩ | ⟨g9, h⟩
  ·exact qT rfl g9 (rn 1 rfl (ls_ret ((by cases h; cases hr1; exact ⟨.inl rfl, rfl⟩))))
  ·exact qF rfl g9 (ls_skip (hK4 _ (rg (sp 3 rfl (evn (hN _ _ h (okr rfl)))))))
 ·exact qF rfl g3 (ls_exit (kXB1 (Option.some.inj h) _ trivial))
def spec_CompareRows_B1 (a0 : List Int) (a1 : List Int) (rec : Int → Option (Sum (Unit) (Int))) (y1 : Int) : Option (Sum (Unit) (Int)) := cond (decide (y1 < (List.length a0 : Int))) (cond (decide (y1 < (List.length a1 : Int))) (obind (geti a0 y1) fun e7 => obind (geti a1 y1) fun e9 => cond (decide (e7 < e9)) (some (.inr (-1))) (obind (geti a0 y1) fun e12 => obind (geti a1 y1) fun e14 => cond (decide (e14 < e12)) (some (.inr 1)) (rec (IntKind.i64.wrap (y1 + 1))))) (some (.inl ()))) (some (.inl ()))
def spec_CompareRows (a0 : List Int) (a1 : List Int) : Option (Int) := obind (loopF (spec_CompareRows_B1 a0 a1) fz 0) fun o1 => (match o1 with
  | .inl _ => (cond (decide ((List.length a0 : Int) < (List.length a1 : Int))) (some (-1)) (cond (decide ((List.length a1 : Int) < (List.length a0 : Int))) (some 1) (some 0)))
  | .inr r => some r)
theorem spec_CompareRows_s {a0 : List Int} {a1 : List Int} {r : Int} (h : spec_CompareRows a0 a1 = some r) : SoundAt Try.prog 91 [dL ci64 a0, dL ci64 a1] (nI r) := by
 unfold spec_CompareRows at h
 refine st lit91 rfl (rn 1 rfl (ls_seq_k fun K1 hK1 => rn 1 rfl ?_))
 obtain ⟨o1, hl, hr1⟩ := ob_some h
 have kXB1 : (.inl ()) = o1 → Jn K1 [(0, dL ci64 a0), (1, dL ci64 a1)] := by
  intro h σ' hk
  subst h
  replace h := hr1
  try dsimp only at h
  refine hK1 _ (lh hk rfl (ls_seq_k fun K17 hK17 => rn 1 rfl ?_))
  rcases cond_some h with ⟨g18, h⟩ | ⟨g18, h⟩
  ·exact qT rfl g18 (rn 1 rfl (ls_ret ((by cases h; exact ⟨.inl rfl, rfl⟩))))
  ·refine qF rfl g18 (ls_skip (hK17 _ (ls_seq_k fun K19 hK19 => rn 1 rfl ?_)))
   rcases cond_some h with ⟨g20, h⟩ | ⟨g20, h⟩
   ·exact qT rfl g20 (rn 1 rfl (ls_ret ((by cases h; exact ⟨.inl rfl, rfl⟩))))
   ·exact qF rfl g20 (ls_skip (hK19 _ (rn 1 rfl (ls_ret ((by cases h; exact ⟨.inl rfl, rfl⟩))))))
 refine ls_rec (fun (y1 : Int) => [(0, dL ci64 a0), (1, dL ci64 a1), (5, nI y1)]) _ _ _ _ hl (okr rfl) (fun _ => rfl) ?_
 rintro m y1 N h hN
 unfold spec_CompareRows_B1 at h
 refine ls_seq_k fun K2 hK2 => rs (sp 5 rfl (?_))
 rcases cond_some h with ⟨g3, h⟩ | ⟨g3, h⟩
 ·refine qg 10 g3 rfl (sp 5 rfl (evn ?_))
  rcases cond_some h with ⟨g4, h⟩ | ⟨g4, h⟩
  ·refine qT rfl g4 (ls_skip (hK2 _ (ls_seq_k fun K5 hK5 => ls_blk (ls_seq_k fun K6 hK6 => rd (by kernel_rfl) (sd 2 rfl (?_))))))
   obtain ⟨e7, g8, h⟩ := ob_some h
   refine ed rfl (qI rfl zci64 g8 (sd 3 rfl (?_)))
   obtain ⟨e9, g10, h⟩ := ob_some h
   refine ed rfl (qI rfl zci64 g10 (sd 2 rfl (evdn ?_)))
   rcases cond_some h with ⟨g11, h⟩ | ⟨g11, h⟩
   ·exact qT rfl g11 (rn 1 rfl (ls_ret ((by cases h; cases hr1; exact ⟨.inl rfl, rfl⟩))))
   ·refine qF rfl g11 (ls_skip (hK6 _ (rd (by kernel_rfl) (sd 2 rfl (?_)))))
    obtain ⟨e12, g13, h⟩ := ob_some h
    refine ed rfl (qI rfl zci64 g13 (sd 3 rfl (?_)))
    obtain ⟨e14, g15, h⟩ := ob_some h
    refine ed rfl (qI rfl zci64 g15 (sd 2 rfl (evdn (qk [0, 1, 5, 35] rfl ?_))))
    rcases cond_some h with ⟨g16, h⟩ | ⟨g16, h⟩
    ·exact qT rfl g16 (rn 1 rfl (ls_ret ((by cases h; cases hr1; exact ⟨.inl rfl, rfl⟩))))
    ·exact qF rfl g16 (ls_skip (hK5 _ (rg (sp 3 rfl (evn (hN _ _ h (okr rfl)))))))
  ·exact qF rfl g4 (ls_exit (kXB1 (Option.some.inj h) _ (okr rfl)))
 ·exact qg 10 g3 rfl (sp 5 rfl (evn (qF rfl rfl (ls_exit (kXB1 (Option.some.inj h) _ (okr rfl))))))
abbrev Y25 := Int × (List (List Int))
def c31_d (x : List Int) : List V := [dL ci64 x]
theorem zc31_d (x : List Int) : (c31_d x).length = 1 := rfl
theorem ec31_d (x : List Int) : erL (c31_d x) = c31_d x := (erc (erD eci64 _) rfl)
def c26_dd (x : Y25) : List V := [nI x.1, dL c31_d x.2]
theorem zc26_dd (x : Y25) : (c26_dd x).length = 2 := rfl
theorem ec26_dd (x : Y25) : erL (c26_dd x) = c26_dd x := (erc rfl (erc (erD ec31_d _) rfl))
def spec_IsValidRelation_J2 (rec : Int → Option (Sum (Unit) (Bool))) (y1 : Int) (x11 : Bool) : Option (Sum (Unit) (Bool)) := cond x11 (some (.inr false)) (rec (IntKind.i64.wrap (y1 + 1)))
def spec_IsValidRelation_B1 (a0 : Y25) (rec : Int → Option (Sum (Unit) (Bool))) (y1 : Int) : Option (Sum (Unit) (Bool)) := cond (decide (y1 < (List.length a0.2 : Int))) (obind (geti a0.2 y1) fun e13 => cond ((List.length e13 : Int) != a0.1) (spec_IsValidRelation_J2 rec y1 true) (obind (geti a0.2 y1) fun e16 => obind (spec_AreValidValues e16) fun v18 => cond (!v18) (spec_IsValidRelation_J2 rec y1 true) (cond (decide (0 < y1)) (obind (geti a0.2 (IntKind.i64.wrap (y1 - 1))) fun e22 => obind (geti a0.2 y1) fun e24 => obind (spec_CompareRows e22 e24) fun v26 => spec_IsValidRelation_J2 rec y1 (decide (0 ≤ v26))) (spec_IsValidRelation_J2 rec y1 false)))) (some (.inl ()))
def spec_IsValidRelation (a0 : Y25) : Option (Bool) := obind (spec_l1In a0.1 0 5) fun v2 => cond (!v2) (some false) (cond (decide (4000 < (List.length a0.2 : Int))) (some false) (obind (loopF (spec_IsValidRelation_B1 a0) fz 0) fun o1 => (match o1 with
  | .inl _ => (some true)
  | .inr r => some r)))
theorem spec_IsValidRelation_s {a0 : Y25} {r : Bool} (h : spec_IsValidRelation a0 = some r) : SoundAt Try.prog 15 [.agg (c26_dd a0)] (.bool r) := by
 unfold spec_IsValidRelation at h
 refine st lit15 rfl (rn 1 rfl (ls_seq_k fun K1 hK1 => rs (sp 2 rfl (?_))))
 obtain ⟨v2, g3, h⟩ := ob_some h
 refine qC (qs rfl (qs rfl (qs rfl eran))) (spec_l1In_s g3) (sp 2 rfl (?_))
 rcases cond_some h with ⟨g4, h⟩ | ⟨g4, h⟩
 ·exact qg 8 g4 rfl (sp 5 rfl (evn (qT rfl rfl (rn 1 rfl (ls_ret ((by cases h; exact ⟨.inl rfl, rfl⟩)))))))
 ·refine qg 8 g4 rfl (sp 5 rfl (evn ?_))
  rcases cond_some h with ⟨g5, h⟩ | ⟨g5, h⟩
  ·exact qT rfl g5 (rn 1 rfl (ls_ret ((by cases h; exact ⟨.inl rfl, rfl⟩))))
  ·refine qF rfl g5 (ls_skip (hK1 _ (qk [1] rfl (ls_seq_k fun K6 hK6 => rn 1 rfl ?_))))
   obtain ⟨o1, hl, hr1⟩ := ob_some h
   have kXB1 : (.inl ()) = o1 → Jn K6 [] := by
    intro h σ' hk
    subst h
    replace h := hr1
    try dsimp only at h
    exact hK6 _ (lh hk rfl (rn 1 rfl (ls_ret ((by cases h; exact ⟨.inl rfl, rfl⟩)))))
   refine ls_rec (fun (y1 : Int) => [(1, .box [nI a0.1, dL c31_d a0.2]), (3, nI y1)]) _ _ _ _ hl (okr rfl) (fun _ => rfl) ?_
   rintro m y1 N h hN
   unfold spec_IsValidRelation_B1 at h
   refine ls_seq_k fun K7 hK7 => rn 1 rfl ?_
   rcases cond_some h with ⟨g8, h⟩ | ⟨g8, h⟩
   ·refine qT rfl g8 (ls_skip (hK7 _ (ls_seq_k fun K9 hK9 => ls_blk (rdk (by kernel_rfl) fun K10 hK10 => ?_))))
    have kJ2 : ∀ {x11 : Bool}, spec_IsValidRelation_J2 (loopF (spec_IsValidRelation_B1 a0) m) y1 x11 = some o1 → Jn K10 [(1, .box [nI a0.1, dL c31_d a0.2]), (3, nI y1), (57, .bool x11)] := by
     intro x11 h σ' hk
     unfold spec_IsValidRelation_J2 at h
     refine hK10 _ (lh hk rfl ?_)
     rcases cond_some h with ⟨g12, h⟩ | ⟨g12, h⟩
     ·exact qT rfl g12 (rn 1 rfl (ls_ret ((by cases h; cases hr1; exact ⟨.inl rfl, rfl⟩))))
     ·exact qF rfl g12 (ls_skip (hK9 _ (rg (sp 3 rfl (evn (hN _ _ h (okr rfl)))))))
    refine sd 3 rfl (?_)
    obtain ⟨e13, g14, h⟩ := ob_some h
    refine ed rfl (qI rfl zc31_d g14 (sd 6 rfl (?_)))
    rcases cond_some h with ⟨g15, h⟩ | ⟨g15, h⟩
    ·exact qgd 30 g15 rfl (sd 27 rfl (evdn (kJ2 h _ (okr rfl))))
    ·refine qgd 30 g15 rfl (sd 3 rfl (?_))
     obtain ⟨e16, g17, h⟩ := ob_some h
     refine ed rfl (oGR rfl rfl (qI rfl zc31_d g17 (sd 1 rfl (?_))))
     obtain ⟨v18, g19, h⟩ := ob_some h
     refine ed rfl (oGR rfl rfl (qC (qa rfl (erD eci64 _) eran) (spec_AreValidValues_s g19) (sd 3 rfl (?_))))
     rcases cond_some h with ⟨g20, h⟩ | ⟨g20, h⟩
     ·exact qgd 39 g20 rfl (sd 18 rfl (evdn (kJ2 h _ (okr rfl))))
     ·refine qgd 39 g20 rfl (sd 3 rfl (?_))
      rcases cond_some h with ⟨g21, h⟩ | ⟨g21, h⟩
      ·refine qgd 42 g21 rfl (sd 4 rfl (?_))
       obtain ⟨e22, g23, h⟩ := ob_some h
       refine ed rfl (oGR rfl rfl (qI rfl zc31_d g23 (sd 4 rfl (?_))))
       obtain ⟨e24, g25, h⟩ := ob_some h
       refine ed rfl (oGR rfl rfl (qI rfl zc31_d g25 (sd 1 rfl (?_))))
       obtain ⟨v26, g27, h⟩ := ob_some h
       exact ed rfl (oGR rfl rfl (qC (qa rfl (erD eci64 _) (qa rfl (erD eci64 _) eran)) (spec_CompareRows_s g27) (sd 3 rfl (evdn (kJ2 h _ (okr rfl))))))
      ·exact qgd 42 g21 rfl (sd 15 rfl (evdn (kJ2 h _ (okr rfl))))
   ·exact qF rfl g8 (ls_exit (kXB1 (Option.some.inj h) _ trivial))
def c31_o (x : List Int) : List V := [oL 3 ci64 x]
theorem zc31_o (x : List Int) : (c31_o x).length = 1 := rfl
theorem ec31_o (x : List Int) : erL (c31_o x) = c31_d x := (erc (erO eci64 _) rfl)
def c26_oo (x : Y25) : List V := [nI x.1, oL 31 c31_o x.2]
theorem zc26_oo (x : Y25) : (c26_oo x).length = 2 := rfl
theorem ec26_oo (x : Y25) : erL (c26_oo x) = c26_dd x := (erc rfl (erc (erO ec31_o _) rfl))
def spec_l5Copy_B1 (a0 : Y25) (rec : ((List (List Int)) × Int) → Option ((List (List Int)))) (s : (List (List Int)) × Int) : Option ((List (List Int))) := match s with
  | (y1, y2) => cond (decide (y2 < (List.length a0.2 : Int))) (obind (geti a0.2 y2) fun e6 => chk (List.length ([] : List Int) + List.length e6 ≤ lim) (chk (List.length y1 + List.length ([([] : List Int) ++ e6]) ≤ lim) (rec ((y1 ++ ([([] : List Int) ++ e6])), (IntKind.i64.wrap (y2 + 1)))))) (some y1)
def spec_l5Copy (a0 : Y25) : Option (Y25) := obind (loopF (spec_l5Copy_B1 a0) fz (([] : List (List Int)), 0)) fun z2 => some (a0.1, z2)
theorem spec_l5Copy_s {a0 : Y25} {r : Y25} (h : spec_l5Copy a0 = some r) : SoundAt Try.prog 100 [.agg (c26_dd a0)] (.agg (c26_oo r)) := by
 unfold spec_l5Copy at h
 refine st lit100 rfl (rn 2 rfl (ls_seq_k fun K1 hK1 => rn 1 rfl ?_))
 obtain ⟨o1, hl, hr1⟩ := ob_some h
 have kXB1 : ∀ {z2 : List (List Int)}, z2 = o1 → Jn K1 [(2, .box [nI 0, oL 31 c31_o []]), (3, .box [nI a0.1, oL 31 c31_o z2])] := by
  intro z2 h σ' hk
  subst h
  replace h := hr1
  try dsimp only at h
  exact hK1 _ (lh hk rfl (rn 1 rfl (ls_ret ((by cases h; exact ⟨.inl rfl, rfl⟩)))))
 refine ls_rec (fun (s : (List (List Int)) × Int) => match s with | (y1, y2) => [(1, .box [nI a0.1, dL c31_d a0.2]), (2, .box [nI 0, oL 31 c31_o []]), (3, .box [nI a0.1, oL 31 c31_o y1]), (4, nI y2)]) _ _ _ _ hl (okr rfl) (fun _ => rfl) ?_
 rintro m ⟨y1, y2⟩ N h hN
 unfold spec_l5Copy_B1 at h
 dsimp only at h
 refine ls_seq_k fun K3 hK3 => rn 1 rfl ?_
 rcases cond_some h with ⟨g4, h⟩ | ⟨g4, h⟩
 ·refine qT rfl g4 (ls_skip (hK3 _ (ls_seq_k fun K5 hK5 => ls_blk (rgd (by kernel_rfl) (sd 2 rfl (ed rfl (qBs ci64 [] rfl rfl rfl zci64 (sd 3 rfl (?_)))))))))
  obtain ⟨e6, g7, h⟩ := ob_some h
  refine ed rfl (qI rfl zc31_d g7 (sd 1 rfl (?_)))
  obtain ⟨g8, h⟩ := chk_some h
  refine ed rfl (qA ci64 ([] : List Int) e6 rfl rfl (flat_len zci64 e6) (map_dg (fun _ => rfl) _) g8 (ed rfl (qBs c31_o [([] : List Int) ++ e6] rfl rfl rfl zc31_o (?_))))
  obtain ⟨g9, h⟩ := chk_some h
  exact ed rfl (qA c31_o y1 ([([] : List Int) ++ e6]) rfl rfl (flat_len zc31_o ([([] : List Int) ++ e6])) rfl g9 (sd 2 rfl (evdn (hK5 _ (rg (sp 3 rfl (evn (hN _ _ h (okr rfl)))))))))
 ·exact qF rfl g4 (ls_exit (kXB1 (Option.some.inj h) _ (okr rfl)))
def spec_l5Sort_J5 (rec : ((List (List Int)) × (List (List Int)) × (List (List Int))) → Option ((List (List Int)))) (y3 : List (List Int)) (x18 : List (List Int)) (x19 : List (List Int)) (x20 : List Int) (x22 : Bool) : Option ((List (List Int))) := cond x22 (chk (List.length y3 + List.length [x20] ≤ lim) (rec (x18, x19, (y3 ++ [x20])))) (rec (x18, x19, y3))
def spec_l5Sort_J4 (rec : ((List (List Int)) × (List (List Int)) × (List (List Int))) → Option ((List (List Int)))) (y3 : List (List Int)) (x18 : List (List Int)) (x19 : List (List Int)) (x20 : List Int) : Option ((List (List Int))) := cond ((List.length y3 : Int) == 0) (spec_l5Sort_J5 rec y3 x18 x19 x20 true) (obind (geti y3 (IntKind.i64.wrap ((List.length y3 : Int) - 1))) fun e26 => obind (spec_CompareRows e26 x20) fun v28 => spec_l5Sort_J5 rec y3 x18 x19 x20 (v28 != 0))
def spec_l5Sort_J3 (rec : ((List (List Int)) × (List (List Int)) × (List (List Int))) → Option ((List (List Int)))) (y1 : List (List Int)) (y2 : List (List Int)) (y3 : List (List Int)) (x16 : Int) : Option ((List (List Int))) := cond (decide (0 < x16)) (obind (geti y2 0) fun e31 => chk ((0 : Int) ≤ 1 ∧ 1 ≤ (List.length y2 : Int) ∧ (List.length y2 : Int) ≤ (List.length y2 : Int)) (spec_l5Sort_J4 rec y3 y1 (subl y2 1 (List.length y2 : Int)) e31)) (obind (geti y1 0) fun e34 => chk ((0 : Int) ≤ 1 ∧ 1 ≤ (List.length y1 : Int) ∧ (List.length y1 : Int) ≤ (List.length y1 : Int)) (spec_l5Sort_J4 rec y3 (subl y1 1 (List.length y1 : Int)) y2 e34))
def spec_l5Sort_J2 (rec : ((List (List Int)) × (List (List Int)) × (List (List Int))) → Option ((List (List Int)))) (y1 : List (List Int)) (y2 : List (List Int)) (y3 : List (List Int)) (x13 : Bool) : Option ((List (List Int))) := cond x13 (cond ((List.length y1 : Int) == 0) (spec_l5Sort_J3 rec y1 y2 y3 1) (cond (decide (0 < (List.length y2 : Int))) (obind (geti y1 0) fun e39 => obind (geti y2 0) fun e41 => obind (spec_CompareRows e39 e41) fun v43 => spec_l5Sort_J3 rec y1 y2 y3 v43) (spec_l5Sort_J3 rec y1 y2 y3 (-1)))) (some y3)
def spec_l5Sort_B1  (rec : ((List (List Int)) × (List (List Int)) × (List (List Int))) → Option ((List (List Int)))) (s : (List (List Int)) × (List (List Int)) × (List (List Int))) : Option ((List (List Int))) := match s with
  | (y1, y2, y3) => cond (decide (0 < (List.length y1 : Int))) (spec_l5Sort_J2 rec y1 y2 y3 true) (spec_l5Sort_J2 rec y1 y2 y3 (decide (0 < (List.length y2 : Int))))
def spec_l5Sort_R (rec : ((List (List Int))) → Option ((List (List Int)))) (a0 : (List (List Int))) : Option ((List (List Int))) := cond (decide ((List.length a0 : Int) < 2)) (some a0) (chk ((0 : Int) ≤ 0 ∧ 0 ≤ IntKind.i64.wrap (Int.tdiv (List.length a0 : Int) 2) ∧ IntKind.i64.wrap (Int.tdiv (List.length a0 : Int) 2) ≤ (List.length a0 : Int)) (obind (rec (subl a0 0 (IntKind.i64.wrap (Int.tdiv (List.length a0 : Int) 2)))) fun v4 => chk ((0 : Int) ≤ IntKind.i64.wrap (Int.tdiv (List.length a0 : Int) 2) ∧ IntKind.i64.wrap (Int.tdiv (List.length a0 : Int) 2) ≤ (List.length a0 : Int) ∧ (List.length a0 : Int) ≤ (List.length a0 : Int)) (obind (rec (subl a0 (IntKind.i64.wrap (Int.tdiv (List.length a0 : Int) 2)) (List.length a0 : Int))) fun v7 => obind (loopF spec_l5Sort_B1 fz (v4, v7, ([] : List (List Int)))) fun z10 => some z10)))
def spec_l5Sort (a0 : List (List Int)) : Option ((List (List Int))) := loopF spec_l5Sort_R fz a0
theorem spec_l5Sort_s {a0 : List (List Int)} {r : (List (List Int))} (h : spec_l5Sort a0 = some r) : SoundAt Try.prog 222 [dL c31_d a0] (dL c31_d r) := by
 suffices key : ∀ m (a0 : List (List Int)) (r : (List (List Int))), loopF spec_l5Sort_R m a0 = some r → SoundAt Try.prog 222 [dL c31_d a0] (dL c31_d r) from key fz a0 r h
 intro m
 induction m with
 | zero => intro a0 r h; cases h
 | succ m ih0 =>
  intro a0 r h
  have ih : ∀ {a0 : List (List Int)} {r : (List (List Int))}, loopF spec_l5Sort_R m a0 = some r → SoundAt Try.prog 222 [dL c31_d a0] (dL c31_d r) := fun h => ih0 _ _ h
  change spec_l5Sort_R (loopF spec_l5Sort_R m) a0 = some r at h
  unfold spec_l5Sort_R at h
  try dsimp only at h
  refine st lit222 rfl (rn 1 rfl (ls_seq_k fun K1 hK1 => rn 1 rfl ?_))
  rcases cond_some h with ⟨g2, h⟩ | ⟨g2, h⟩
  ·exact qT rfl g2 (rn 1 rfl (ls_ret ((by cases h; exact ⟨.inl rfl, rfl⟩))))
  ·refine qF rfl g2 (ls_skip (hK1 _ (rn 1 rfl (rs (sp 2 rfl (?_))))))
   obtain ⟨g3, h⟩ := chk_some h
   refine qSl rfl zc31_d g3 (?_)
   obtain ⟨v4, g5, h⟩ := ob_some h
   refine qC (qa rfl (erD ec31_d _) eran) (ih g5) (sp 1 rfl (evn (rs (sp 2 rfl (?_)))))
   obtain ⟨g6, h⟩ := chk_some h
   refine qSl rfl zc31_d g6 (?_)
   obtain ⟨v7, g8, h⟩ := ob_some h
   refine qC (qa rfl (erD ec31_d _) eran) (ih g8) (sp 1 rfl (evn (qk [4, 5] rfl (rs (qBs c31_o [] rfl rfl rfl zc31_o (sp 1 rfl (evn (ls_seq_k fun K9 hK9 => ?_))))))))
   obtain ⟨o1, hl, hr1⟩ := ob_some h
   have kXB1 : ∀ {z10 : List (List Int)}, z10 = o1 → Jn K9 [(6, oL 31 c31_d z10)] := by
    intro z10 h σ' hk
    subst h
    replace h := hr1
    try dsimp only at h
    exact hK9 _ (lh hk rfl (rn 1 rfl (ls_keep [(2, dL c31_d z10)] ⟨(ke rfl (erO ec31_d _)), trivial⟩ rfl (ls_ret ((by cases h; exact ⟨.inl rfl, rfl⟩))))))
   refine ls_rec (fun (s : (List (List Int)) × (List (List Int)) × (List (List Int))) => match s with | (y1, y2, y3) => [(4, dL c31_d y1), (5, dL c31_d y2), (6, oL 31 c31_d y3)]) _ _ _ _ hl (okr rfl) (fun _ => rfl) ?_
   rintro m ⟨y1, y2, y3⟩ N h hN
   unfold spec_l5Sort_B1 at h
   dsimp only at h
   refine ls_seq_k fun K11 hK11 => rk fun K12 hK12 => ?_
   have kJ2 : ∀ {x13 : Bool}, spec_l5Sort_J2 (loopF spec_l5Sort_B1 m) y1 y2 y3 x13 = some o1 → Jn K12 [(4, dL c31_d y1), (5, dL c31_d y2), (6, oL 31 c31_d y3), (32, .bool x13)] := by
    intro x13 h σ' hk
    unfold spec_l5Sort_J2 at h
    refine hK12 _ (lh hk rfl ?_)
    rcases cond_some h with ⟨g14, h⟩ | ⟨g14, h⟩
    ·refine qT rfl g14 (ls_skip (hK11 _ (ls_blk (rn 1 rfl (ls_seq_k fun K15 hK15 => ls_blk (rn 1 rfl ?_))))))
     have kJ3 : ∀ {x16 : Int}, spec_l5Sort_J3 (loopF spec_l5Sort_B1 m) y1 y2 y3 x16 = some o1 → Jn K15 [(4, dL c31_d y1), (5, dL c31_d y2), (6, oL 31 c31_d y3), (7, nI x16)] := by
      intro x16 h σ' hk
      unfold spec_l5Sort_J3 at h
      refine hK15 _ (lh hk rfl (rs (qBs ci64 [] rfl rfl rfl zci64 (sp 1 rfl (evn (ls_seq_k fun K17 hK17 => rn 1 rfl ?_))))))
      have kJ4 : ∀ {x18 : List (List Int)} {x19 : List (List Int)} {x20 : List Int}, spec_l5Sort_J4 (loopF spec_l5Sort_B1 m) y3 x18 x19 x20 = some o1 → Jn K17 [(4, dL c31_d x18), (5, dL c31_d x19), (6, oL 31 c31_d y3), (8, dL ci64 x20)] := by
       intro x18 x19 x20 h σ' hk
       unfold spec_l5Sort_J4 at h
       refine hK17 _ (lh hk rfl (rk fun K21 hK21 => ?_))
       have kJ5 : ∀ {x22 : Bool}, spec_l5Sort_J5 (loopF spec_l5Sort_B1 m) y3 x18 x19 x20 x22 = some o1 → Jn K21 [(4, dL c31_d x18), (5, dL c31_d x19), (6, oL 31 c31_d y3), (8, dL ci64 x20), (74, .bool x22)] := by
        intro x22 h σ' hk
        unfold spec_l5Sort_J5 at h
        refine hK21 _ (lh hk rfl ?_)
        rcases cond_some h with ⟨g23, h⟩ | ⟨g23, h⟩
        ·refine qT rfl g23 (rg (sp 2 rfl (qBs c31_d [x20] rfl rfl rfl zc31_d (?_))))
         obtain ⟨g24, h⟩ := chk_some h
         exact qA c31_d y3 [x20] rfl rfl (flat_len zc31_d [x20]) rfl g24 (sp 1 rfl (evn (hN _ _ h (okr rfl))))
        ·exact qF rfl g23 (ls_skip (hN _ _ h (okr rfl)))
       refine sp 4 rfl (?_)
       rcases cond_some h with ⟨g25, h⟩ | ⟨g25, h⟩
       ·exact qg 64 g25 rfl (sp 10 rfl (evn (kJ5 h _ (okr rfl))))
       ·refine qg 64 g25 rfl (sp 4 rfl (?_))
        obtain ⟨e26, g27, h⟩ := ob_some h
        refine oGR rfl rfl (qI rfl zc31_d g27 (sp 2 rfl (?_)))
        obtain ⟨v28, g29, h⟩ := ob_some h
        exact oGR rfl rfl (qC (qa rfl (erD eci64 _) (qa rfl (erD eci64 _) eran)) (spec_CompareRows_s g29) (sp 2 rfl (evn (kJ5 h _ (okr rfl)))))
      rcases cond_some h with ⟨g30, h⟩ | ⟨g30, h⟩
      ·refine qT rfl g30 (rs (sp 1 rfl (?_)))
       obtain ⟨e31, g32, h⟩ := ob_some h
       refine qI rfl zc31_d g32 (sp 2 rfl (evn (qk [4, 5, 6, 8] rfl (rg (sp 1 rfl (?_))))))
       obtain ⟨g33, h⟩ := chk_some h
       exact qSl rfl zc31_d g33 (sp 1 rfl (evn (kJ4 h _ (okr rfl))))
      ·refine qF rfl g30 (rs (sp 1 rfl (?_)))
       obtain ⟨e34, g35, h⟩ := ob_some h
       refine qI rfl zc31_d g35 (sp 2 rfl (evn (rg (sp 1 rfl (?_)))))
       obtain ⟨g36, h⟩ := chk_some h
       exact qSl rfl zc31_d g36 (sp 1 rfl (evn (kJ4 h _ (okr rfl))))
     rcases cond_some h with ⟨g37, h⟩ | ⟨g37, h⟩
     ·exact qT rfl g37 (rg (sp 1 rfl (evn (kJ3 h _ (okr rfl)))))
     ·refine qF rfl g37 (rn 1 rfl ?_)
      rcases cond_some h with ⟨g38, h⟩ | ⟨g38, h⟩
      ·refine qT rfl g38 (rgd (by kernel_rfl) (sd 1 rfl (?_)))
       obtain ⟨e39, g40, h⟩ := ob_some h
       refine ed rfl (qI rfl zc31_d g40 (sd 2 rfl (?_)))
       obtain ⟨e41, g42, h⟩ := ob_some h
       refine ed rfl (qI rfl zc31_d g42 (sd 1 rfl (?_)))
       obtain ⟨v43, g44, h⟩ := ob_some h
       exact ed rfl (qC (qa rfl (erD eci64 _) (qa rfl (erD eci64 _) eran)) (spec_CompareRows_s g44) (sd 1 rfl (evdn (kJ3 h _ (okr rfl)))))
      ·exact qF rfl g38 (rg (sp 1 rfl (evn (kJ3 h _ (okr rfl)))))
    ·exact qF rfl g14 (ls_exit (kXB1 (Option.some.inj h) _ (okr rfl)))
   refine sp 4 rfl (?_)
   rcases cond_some h with ⟨g45, h⟩ | ⟨g45, h⟩
   ·exact qg 28 g45 rfl (sp 4 rfl (evn (kJ2 h _ (okr rfl))))
   ·exact qg 28 g45 rfl (sp 4 rfl (evn (kJ2 h _ (okr rfl))))
def spec_NewRelation_B1 (a0 : Int) (a1 : List (List Int)) (rec : Int → Option (Sum (Unit) (Y25 × Bool))) (y1 : Int) : Option (Sum (Unit) (Y25 × Bool)) := cond (decide (y1 < (List.length a1 : Int))) (obind (geti a1 y1) fun e5 => cond ((List.length e5 : Int) != a0) (some (.inr ((0, []), false))) (obind (geti a1 y1) fun e8 => obind (spec_AreValidValues e8) fun v10 => cond (!v10) (some (.inr ((0, []), false))) (rec (IntKind.i64.wrap (y1 + 1))))) (some (.inl ()))
def spec_NewRelation (a0 : Int) (a1 : List (List Int)) : Option (Y25 × Bool) := obind (loopF (spec_NewRelation_B1 a0 a1) fz 0) fun o1 => (match o1 with
  | .inl _ => (obind (spec_l5Sort a1) fun v13 => obind (spec_l5Copy (a0, v13)) fun v15 => obind (spec_IsValidRelation v15) fun v18 => cond (!v18) (some ((0, []), false)) (some (v15, true)))
  | .inr r => some r)
theorem spec_NewRelation_s {a0 : Int} {a1 : List (List Int)} {r : Y25 × Bool} (h : spec_NewRelation a0 a1 = some r) : SoundAt Try.prog 167 [nI a0, dL c31_d a1] (.tup [.agg (c26_oo r.1), .bool r.2]) := by
 unfold spec_NewRelation at h
 refine st lit167 rfl (rn 1 rfl (ls_seq_k fun K1 hK1 => rn 1 rfl ?_))
 obtain ⟨o1, hl, hr1⟩ := ob_some h
 have kXB1 : (.inl ()) = o1 → Jn K1 [(0, nI a0), (1, dL c31_d a1), (4, .box [nI 0, oL 31 c31_o []])] := by
  intro h σ' hk
  subst h
  replace h := hr1
  try dsimp only at h
  refine hK1 _ (lh hk rfl (rs (sp 2 rfl (?_))))
  obtain ⟨v13, g14, h⟩ := ob_some h
  refine qC (qa rfl (erD ec31_d _) eran) (spec_l5Sort_s g14) (sp 1 rfl (?_))
  obtain ⟨v15, g16, h⟩ := ob_some h
  refine qC (qa rfl (erg (erc rfl (erc (erD ec31_d _) rfl))) eran) (spec_l5Copy_s g16) (sp 2 rfl (evn (ls_seq_k fun K17 hK17 => rs (sp 1 rfl (?_)))))
  obtain ⟨v18, g19, h⟩ := ob_some h
  refine qC (qa rfl (erg (erc rfl (erc (erD ec31_o _) rfl))) eran) (spec_IsValidRelation_s g19) (sp 1 rfl (evn ?_))
  rcases cond_some h with ⟨g20, h⟩ | ⟨g20, h⟩
  ·exact qT rfl g20 (rn 1 rfl (ls_ret ((by cases h; exact ⟨.inl rfl, rfl⟩))))
  ·exact qF rfl g20 (ls_skip (hK17 _ (rn 1 rfl (ls_ret ((by cases h; exact ⟨.inl rfl, rfl⟩))))))
 refine ls_rec (fun (y1 : Int) => [(0, nI a0), (1, dL c31_d a1), (4, .box [nI 0, oL 31 c31_o []]), (6, nI y1)]) _ _ _ _ hl (okr rfl) (fun _ => rfl) ?_
 rintro m y1 N h hN
 unfold spec_NewRelation_B1 at h
 refine ls_seq_k fun K2 hK2 => rn 1 rfl ?_
 rcases cond_some h with ⟨g3, h⟩ | ⟨g3, h⟩
 ·refine qT rfl g3 (ls_skip (hK2 _ (ls_seq_k fun K4 hK4 => ls_blk (rs (sp 2 rfl (?_))))))
  obtain ⟨e5, g6, h⟩ := ob_some h
  refine qI rfl zc31_d g6 (sp 5 rfl (?_))
  rcases cond_some h with ⟨g7, h⟩ | ⟨g7, h⟩
  ·exact qg 21 g7 rfl (sp 7 rfl (evn (qT rfl rfl (rn 1 rfl (ls_ret ((by cases h; cases hr1; exact ⟨.inl rfl, rfl⟩)))))))
  ·refine qg 21 g7 rfl (sp 2 rfl (?_))
   obtain ⟨e8, g9, h⟩ := ob_some h
   refine oGR rfl rfl (qI rfl zc31_d g9 (sp 1 rfl (?_)))
   obtain ⟨v10, g11, h⟩ := ob_some h
   refine oGR rfl rfl (qC (qa rfl (erD eci64 _) eran) (spec_AreValidValues_s g11) (sp 2 rfl (evn (qk [0, 1, 4, 6, 28] rfl ?_))))
   rcases cond_some h with ⟨g12, h⟩ | ⟨g12, h⟩
   ·exact qT rfl g12 (rn 1 rfl (ls_ret ((by cases h; cases hr1; exact ⟨.inl rfl, rfl⟩))))
   ·exact qF rfl g12 (ls_skip (hK4 _ (rg (sp 3 rfl (evn (hN _ _ h (okr rfl)))))))
 ·exact qF rfl g3 (ls_exit (kXB1 (Option.some.inj h) _ (okr rfl)))
def spec_l4Row_B1 (a1 : Int) (a2 : Int) (rec : ((List Int) × Int × Int × (List Int)) → Option ((List Int) × Int × Int × (List Int))) (s : (List Int) × Int × Int × (List Int)) : Option ((List Int) × Int × Int × (List Int)) := match s with
  | (y1, y2, y3, y4) => cond (decide ((List.length y4 : Int) < a1)) (obind (spec_l1Below (y1, y2, y3) a2) fun v8 => chk (List.length y4 + List.length [v8.1] ≤ lim) (rec (v8.2.1, v8.2.2.1, v8.2.2.2, (y4 ++ [v8.1])))) (some (y1, y2, y3, y4))
def spec_l4Row (a0 : Y202) (a1 : Int) (a2 : Int) : Option ((List Int) × Y202) := obind (loopF (spec_l4Row_B1 a1 a2) fz (a0.1, a0.2.1, a0.2.2, ([] : List Int))) fun o1 => (match o1 with
  | (z2, z3, z4, z5) => (some (z5, (z2, z3, z4))))
theorem spec_l4Row_s {a0 : Y202} {a1 : Int} {a2 : Int} {r : (List Int) × Y202} (h : spec_l4Row a0 a1 a2 = some r) : PtrAt Try.prog 155 [aL cu8 a0.1, nI a0.2.1, nI a0.2.2] [nI a1, nI a2] [aL cu8 r.2.1, nI r.2.2.1, nI r.2.2.2] (oL 3 ci64 r.1) := by
 unfold spec_l4Row at h
 refine stp lit155 rfl (rn 1 rfl (rs (qBs ci64 [] rfl rfl rfl zci64 (sp 1 rfl (evn (ls_seq_k fun K1 hK1 => ?_))))))
 obtain ⟨o1, hl, hr1⟩ := ob_some h
 have kXB1 : ∀ {z2 : List Int} {z3 : Int} {z4 : Int} {z5 : List Int}, (z2, z3, z4, z5) = o1 → Jn K1 [(0, .box [aL cu8 z2, nI z3, nI z4]), (7, oL 3 ci64 z5)] := by
  intro z2 z3 z4 z5 h σ' hk
  subst h
  replace h := hr1
  try dsimp only at h
  exact hK1 _ (lh hk rfl (rn 1 rfl (ls_ret ((by cases h; exact ⟨.inl rfl, rfl, rfl⟩)))))
 refine ls_rec (fun (s : (List Int) × Int × Int × (List Int)) => match s with | (y1, y2, y3, y4) => [(0, .box [aL cu8 y1, nI y2, nI y3]), (1, nI a1), (2, nI a2), (7, oL 3 ci64 y4)]) _ _ _ _ hl (okr rfl) (fun _ => rfl) ?_
 rintro m ⟨y1, y2, y3, y4⟩ N h hN
 unfold spec_l4Row_B1 at h
 dsimp only at h
 refine ls_seq_k fun K6 hK6 => rn 1 rfl ?_
 rcases cond_some h with ⟨g7, h⟩ | ⟨g7, h⟩
 ·refine qT rfl g7 (ls_skip (hK6 _ (ls_blk (rg (sp 3 rfl (?_))))))
  obtain ⟨v8, g9, h⟩ := ob_some h
  refine qP rfl rfl rfl rfl (qs rfl eran) (spec_l1Below_s g9) (qBs ci64 [v8.1] rfl rfl rfl zci64 (?_))
  obtain ⟨g10, h⟩ := chk_some h
  exact qA ci64 y4 [v8.1] rfl rfl (flat_len zci64 [v8.1]) rfl g10 (sp 1 rfl (evn (hN _ _ h (okr rfl))))
 ·exact qF rfl g7 (ls_exit (kXB1 (Option.some.inj h) _ (okr rfl)))
def spec_l5Rel_B1 (a1 : Int) (a3 : Int) (rec : ((List Int) × Int × Int × (List (List Int)) × Int) → Option ((List Int) × Int × Int × (List (List Int)))) (s : (List Int) × Int × Int × (List (List Int)) × Int) : Option ((List Int) × Int × Int × (List (List Int))) := match s with
  | (y1, y2, y3, y4, y5) => cond (decide (0 < y5)) (obind (spec_l4Row (y1, y2, y3) a1 a3) fun v11 => chk (List.length y4 + List.length [v11.1] ≤ lim) (rec (v11.2.1, v11.2.2.1, v11.2.2.2, (y4 ++ [v11.1]), (IntKind.i64.wrap (y5 - 1))))) (some (y1, y2, y3, y4))
def spec_l5Rel (a0 : Y202) (a1 : Int) (a2 : Int) (a3 : Int) : Option (Y25 × Y202) := obind (spec_l1Below a0 (IntKind.i64.wrap (a2 + 1))) fun v2 => obind (loopF (spec_l5Rel_B1 a1 a3) fz (v2.2.1, v2.2.2.1, v2.2.2.2, ([] : List (List Int)), v2.1)) fun o1 => (match o1 with
  | (z4, z5, z6, z7) => (obind (spec_NewRelation a1 z7) fun v14 => some (v14.1, (z4, z5, z6))))
theorem spec_l5Rel_s {a0 : Y202} {a1 : Int} {a2 : Int} {a3 : Int} {r : Y25 × Y202} (h : spec_l5Rel a0 a1 a2 a3 = some r) : PtrAt Try.prog 169 [aL cu8 a0.1, nI a0.2.1, nI a0.2.2] [nI a1, nI a2, nI a3] [aL cu8 r.2.1, nI r.2.2.1, nI r.2.2.2] (.agg (c26_oo r.1)) := by
 unfold spec_l5Rel at h
 refine stp lit169 rfl (rn 1 rfl (rs (qBs c31_o [] rfl rfl rfl zc31_o (sp 1 rfl (evn (ls_seq_k fun K1 hK1 => rs (sp 3 rfl (?_))))))))
 obtain ⟨v2, g3, h⟩ := ob_some h
 refine qP rfl rfl rfl rfl (qs rfl eran) (spec_l1Below_s g3) (sp 1 rfl (evn ?_))
 obtain ⟨o1, hl, hr1⟩ := ob_some h
 have kXB1 : ∀ {z4 : List Int} {z5 : Int} {z6 : Int} {z7 : List (List Int)}, (z4, z5, z6, z7) = o1 → Jn K1 [(0, .box [aL cu8 z4, nI z5, nI z6]), (1, nI a1), (8, .box [nI 0, oL 31 c31_o []]), (9, oL 31 c31_o z7)] := by
  intro z4 z5 z6 z7 h σ' hk
  subst h
  replace h := hr1
  try dsimp only at h
  refine hK1 _ (lh hk rfl (rs (sp 2 rfl (?_))))
  obtain ⟨v14, g15, h⟩ := ob_some h
  exact qC (qs rfl (qa rfl (erD ec31_o _) eran)) (spec_NewRelation_s g15) (sp 6 rfl (evn (rn 1 rfl (ls_ret ((by cases h; exact ⟨.inl rfl, rfl, rfl⟩))))))
 refine ls_rec (fun (s : (List Int) × Int × Int × (List (List Int)) × Int) => match s with | (y1, y2, y3, y4, y5) => [(0, .box [aL cu8 y1, nI y2, nI y3]), (1, nI a1), (3, nI a3), (8, .box [nI 0, oL 31 c31_o []]), (9, oL 31 c31_o y4), (10, nI y5)]) _ _ _ _ hl (okr rfl) (fun _ => rfl) ?_
 rintro m ⟨y1, y2, y3, y4, y5⟩ N h hN
 unfold spec_l5Rel_B1 at h
 dsimp only at h
 refine ls_seq_k fun K8 hK8 => rn 1 rfl ?_
 rcases cond_some h with ⟨g9, h⟩ | ⟨g9, h⟩
 ·refine qT rfl g9 (ls_skip (hK8 _ (ls_seq_k fun K10 hK10 => ls_blk (rg (sp 4 rfl (?_))))))
  obtain ⟨v11, g12, h⟩ := ob_some h
  refine qP rfl rfl rfl rfl (qs rfl (qs rfl eran)) (spec_l4Row_s g12) (qBs c31_o [v11.1] rfl rfl rfl zc31_o (?_))
  obtain ⟨g13, h⟩ := chk_some h
  exact qA c31_o y4 [v11.1] rfl rfl (flat_len zc31_o [v11.1]) rfl g13 (sp 1 rfl (evn (hK10 _ (rg (sp 3 rfl (evn (hN _ _ h (okr rfl))))))))
 ·exact qF rfl g9 (ls_exit (kXB1 (Option.some.inj h) _ (okr rfl)))
def spec_l1PickInt (a0 : Y202) (a1 : List Int) : Option (Int × Y202) := obind (spec_l1Below a0 (List.length a1 : Int)) fun v1 => obind (geti a1 v1.1) fun e3 => some (e3, v1.2)
theorem spec_l1PickInt_s {a0 : Y202} {a1 : List Int} {r : Int × Y202} (h : spec_l1PickInt a0 a1 = some r) : PtrAt Try.prog 170 [aL cu8 a0.1, nI a0.2.1, nI a0.2.2] [dL ci64 a1] [aL cu8 r.2.1, nI r.2.2.1, nI r.2.2.2] (nI r.1) := by
 unfold spec_l1PickInt at h
 refine stp lit170 rfl (rn 1 rfl (rs (sp 4 rfl (?_))))
 obtain ⟨v1, g2, h⟩ := ob_some h
 refine qP rfl rfl rfl rfl (qs rfl eran) (spec_l1Below_s g2) (?_)
 obtain ⟨e3, g4, h⟩ := ob_some h
 exact qI rfl zci64 g4 (sp 2 rfl (evn (ls_ret ((by cases h; exact ⟨.inl rfl, rfl, rfl⟩)))))
abbrev Y106 := (List UInt8) × Y25
def c107_dd (x : Y106) : List V := [.str x.1, nI x.2.1, dL c31_d x.2.2]
theorem zc107_dd (x : Y106) : (c107_dd x).length = 3 := rfl
theorem ec107_dd (x : Y106) : erL (c107_dd x) = c107_dd x := (erc rfl (erc rfl (erc (erD ec31_d _) rfl)))
def c107_oo (x : Y106) : List V := [.str x.1, nI x.2.1, oL 31 c31_o x.2.2]
theorem zc107_oo (x : Y106) : (c107_oo x).length = 3 := rfl
theorem ec107_oo (x : Y106) : erL (c107_oo x) = c107_dd x := (erc rfl (erc rfl (erc (erO ec31_o _) rfl)))
theorem dkc31_o (x : List Int) : deepL (c31_o x) = true := (dcc (dco (fun _ => rfl) _ _) dcn)
theorem dkc107_oo (x : Y106) : deepL (c107_oo x) = true := (dcc rfl (dcc rfl (dcc (dco dkc31_o _ _) dcn)))
def spec_l6Db_J2 (rec : ((List Int) × Int × Int × (List Y106) × Int) → Option ((List Int) × Int × Int × (List Y106))) (v1 : Int × Y202) (y1 : List Int) (y2 : Int) (y3 : Int) (y4 : List Y106) (y5 : Int) (e11 : List UInt8) (x14 : Int) : Option ((List Int) × Int × Int × (List Y106)) := obind (spec_l1PickInt (y1, y2, y3) [3, 6, 9]) fun v15 => obind (spec_l5Rel v15.2 x14 v15.1 v1.1) fun v17 => chk (List.length y4 + List.length [(e11, v17.1)] ≤ lim) (rec (v17.2.1, v17.2.2.1, v17.2.2.2, (y4 ++ [(e11, v17.1)]), (IntKind.i64.wrap (y5 + 1))))
def spec_l6Db_B1 (v1 : Int × Y202) (rec : ((List Int) × Int × Int × (List Y106) × Int) → Option ((List Int) × Int × Int × (List Y106))) (s : (List Int) × Int × Int × (List Y106) × Int) : Option ((List Int) × Int × Int × (List Y106)) := match s with
  | (y1, y2, y3, y4, y5) => cond (decide (y5 < (List.length ([[114], [115], [116], [117], [118]]) : Int))) (obind (geti ([[114], [115], [116], [117], [118]]) y5) fun e11 => cond (e11 == [118]) (spec_l6Db_J2 rec v1 y1 y2 y3 y4 y5 e11 3) (spec_l6Db_J2 rec v1 y1 y2 y3 y4 y5 e11 2)) (some (y1, y2, y3, y4))
def spec_l6Db_J3 (x24 : List Int) (x25 : Int) (x26 : Int) (x27 : List Y106) : Option ((List Y106) × Y202) := some (x27, (x24, x25, x26))
def spec_l6Db (a0 : Y202) : Option ((List Y106) × Y202) := obind (spec_l1PickInt a0 [2, 3, 4, 6]) fun v1 => obind (loopF (spec_l6Db_B1 v1) fz (v1.2.1, v1.2.2.1, v1.2.2.2, ([] : List Y106), 0)) fun o1 => (match o1 with
  | (z4, z5, z6, z7) => (obind (spec_l1Once (z4, z5, z6) 8) fun v22 => cond v22.1 (chk (0 < List.length z7) (obind (spec_l1Below v22.2 5) fun v31 => obind (geti z7 v31.1) fun e33 => spec_l6Db_J3 v31.2.1 v31.2.2.1 v31.2.2.2 (seti z7 v31.1 (e33.1, (e33.2.1, []))))) (spec_l6Db_J3 v22.2.1 v22.2.2.1 v22.2.2.2 z7)))
theorem spec_l6Db_s {a0 : Y202} {r : (List Y106) × Y202} (h : spec_l6Db a0 = some r) : PtrAt Try.prog 186 [aL cu8 a0.1, nI a0.2.1, nI a0.2.2] [] [aL cu8 r.2.1, nI r.2.2.1, nI r.2.2.2] (.agg [oL 107 c107_oo r.1]) := by
 unfold spec_l6Db at h
 refine stp lit186 rfl (rn 1 rfl (rs (sp 1 rfl (qBs ci64 [2, 3, 4, 6] rfl rfl rfl zci64 (?_)))))
 obtain ⟨v1, g2, h⟩ := ob_some h
 refine qP rfl rfl rfl rfl (qa rfl (erO eci64 _) eran) (spec_l1PickInt_s g2) (sp 1 rfl (evn (rn 1 rfl (ls_seq_k fun K3 hK3 => rs (qBs cst [[114], [115], [116], [117], [118]] rfl rfl rfl zcst (sp 2 rfl (evn ?_)))))))
 obtain ⟨o1, hl, hr1⟩ := ob_some h
 have kXB1 : ∀ {z4 : List Int} {z5 : Int} {z6 : Int} {z7 : List Y106}, (z4, z5, z6, z7) = o1 → Jn K3 [(0, .box [aL cu8 z4, nI z5, nI z6]), (2, .box [oL 107 c107_oo []]), (4, .box [oL 107 c107_oo z7])] := by
  intro z4 z5 z6 z7 h σ' hk
  subst h
  replace h := hr1
  try dsimp only at h
  refine hK3 _ (lh hk rfl (ls_seq_k fun K21 hK21 => rs (sp 1 rfl (?_))))
  obtain ⟨v22, g23, h⟩ := ob_some h
  refine qP rfl rfl rfl rfl (qs rfl eran) (spec_l1Once_s g23) (evn ?_)
  have kJ3 : ∀ {x24 : List Int} {x25 : Int} {x26 : Int} {x27 : List Y106}, spec_l6Db_J3 x24 x25 x26 x27 = some r → Jn K21 [(0, .box [aL cu8 x24, nI x25, nI x26]), (2, .box [oL 107 c107_oo []]), (4, .box [oL 107 c107_oo x27])] := by
   intro x24 x25 x26 x27 h σ' hk
   unfold spec_l6Db_J3 at h
   exact hK21 _ (lh hk rfl (rn 1 rfl (ls_ret ((by cases h; exact ⟨.inl rfl, rfl, rfl⟩)))))
  rcases cond_some h with ⟨g28, h⟩ | ⟨g28, h⟩
  ·refine qT rfl g28 (qk [0, 2, 4] rfl ?_)
   obtain ⟨g29, h⟩ := chk_some h
   refine ls_hg (gLb (q := 900003) (b := 4) [] [] rfl rfl rfl g29 ?_)
   intro gg30 mm30
   refine qk [0, 2, 4, 900003] rfl (ls_gh (rgt 4 (by kernel_rfl) (sd 3 rfl (?_))))
   obtain ⟨v31, g32, h⟩ := ob_some h
   refine ed rfl (qP rfl rfl rfl rfl (qs rfl eran) (spec_l1Below_s g32) (evdn (gh_k ?_)))
   obtain ⟨e33, g34, h⟩ := ob_some h
   refine qIt rfl rfl rfl rfl g34 (sp 2 rfl (?_))
   refine qSt0 (y0 := e33) (i := v31.1) (es := 3) (e2 := 31) 2 (e33.1, (e33.2.1, [])) [0, 2, 4] rfl rfl rfl rfl rfl rfl rfl rfl zc107_oo g34 dkc107_oo (yc (snc (sA (aca (fun _ => rfl) _)) (snc rfl (snc rfl rfl))) (yc (snc (sO (dco dkc107_oo _ _)) rfl) (yc (snc rfl rfl) yn))) (?_)
   exact evn (gDb (q := 900003) (b := 4) [] [] rfl rfl rfl (sl rfl) (kJ3 h _ (okr rfl)))
  ·exact qF rfl g28 (ls_skip (kJ3 h _ (okr rfl)))
 refine ls_rec (fun (s : (List Int) × Int × Int × (List Y106) × Int) => match s with | (y1, y2, y3, y4, y5) => [(0, .box [aL cu8 y1, nI y2, nI y3]), (2, .box [oL 107 c107_oo []]), (3, nI v1.1), (4, .box [oL 107 c107_oo y4]), (13, oL 9 cst ([[114], [115], [116], [117], [118]])), (14, nI (List.length ([[114], [115], [116], [117], [118]]) : Int)), (15, nI y5)]) _ _ _ _ hl (okr rfl) (fun _ => rfl) ?_
 rintro m ⟨y1, y2, y3, y4, y5⟩ N h hN
 unfold spec_l6Db_B1 at h
 dsimp only at h
 refine rn 1 rfl (ls_seq_k fun K8 hK8 => ?_)
 rcases cond_some h with ⟨g9, h⟩ | ⟨g9, h⟩
 ·refine qT rfl g9 (ls_skip (hK8 _ (ls_seq_k fun K10 hK10 => ls_blk (rs ?_))))
  obtain ⟨e11, g12, h⟩ := ob_some h
  refine qI rfl zcst g12 (sp 2 rfl (evn (rn 1 rfl (ls_seq_k fun K13 hK13 => rn 1 rfl ?_))))
  have kJ2 : ∀ {x14 : Int}, spec_l6Db_J2 (loopF (spec_l6Db_B1 v1) m) v1 y1 y2 y3 y4 y5 e11 x14 = some o1 → Jn K13 [(0, .box [aL cu8 y1, nI y2, nI y3]), (2, .box [oL 107 c107_oo []]), (3, nI v1.1), (4, .box [oL 107 c107_oo y4]), (6, .str e11), (7, nI x14), (13, oL 9 cst ([[114], [115], [116], [117], [118]])), (14, nI (List.length ([[114], [115], [116], [117], [118]]) : Int)), (15, nI y5)] := by
   intro x14 h σ' hk
   unfold spec_l6Db_J2 at h
   refine hK13 _ (lh hk rfl (rs (sp 3 rfl (qBs ci64 [3, 6, 9] rfl rfl rfl zci64 (?_)))))
   obtain ⟨v15, g16, h⟩ := ob_some h
   refine qP rfl rfl rfl rfl (qa rfl (erO eci64 _) eran) (spec_l1PickInt_s g16) (sp 1 rfl (?_))
   obtain ⟨v17, g18, h⟩ := ob_some h
   refine qP rfl rfl rfl rfl (qs rfl (qs rfl (qs rfl eran))) (spec_l5Rel_s g18) (sp 2 rfl (evn (rg (sp 5 rfl (qBs c107_oo [(e11, v17.1)] rfl rfl rfl zc107_oo (?_))))))
   obtain ⟨g19, h⟩ := chk_some h
   exact qA c107_oo y4 [(e11, v17.1)] rfl rfl (flat_len zc107_oo [(e11, v17.1)]) rfl g19 (sp 2 rfl (evn (hK10 _ (rg (sp 2 rfl (evn (hN _ _ h (okr rfl))))))))
  rcases cond_some h with ⟨g20, h⟩ | ⟨g20, h⟩
  ·exact qT rfl g20 (rg (sp 1 rfl (evn (kJ2 h _ (okr rfl)))))
  ·exact qF rfl g20 (ls_skip (kJ2 h _ (okr rfl)))
 ·exact qF rfl g9 (ls_exit (kXB1 (Option.some.inj h) _ (okr rfl)))
def spec_l37Db_J2 (rec : ((List Int) × Int × Int × (List Y106) × Int) → Option ((List Int) × Int × Int × (List Y106))) (y9 : Int) (v11 : Bool × Y202) (x13 : List Y106) : Option ((List Int) × Int × Int × (List Y106)) := rec (v11.2.1, v11.2.2.1, v11.2.2.2, x13, (IntKind.i64.wrap (y9 + 1)))
def spec_l37Db_B3 (y8 : List Y106) (y9 : Int) (rec : ((List (List Int)) × Int) → Option ((List (List Int)))) (s : (List (List Int)) × Int) : Option ((List (List Int))) := match s with
  | (y16, y17) => obind (geti y8 y9) fun e18 => cond (decide (y17 < (List.length e18.2.2 : Int))) (obind (geti y8 y9) fun e22 => obind (geti e22.2.2 y17) fun e24 => chk (List.length ([] : List Int) + List.length e24 ≤ lim) (chk (0 < List.length (([] : List Int) ++ e24)) (obind (geti (([] : List Int) ++ e24) 0) fun e29 => obind (geti (([] : List Int) ++ e24) 1) fun e31 => chk (List.length y16 + List.length ([seti (([] : List Int) ++ e24) 1 (Int.tmod (IntKind.i64.wrap ((IntKind.i64.wrap (e29 * 2)) + y9)) 4)]) ≤ lim) (rec ((y16 ++ ([seti (([] : List Int) ++ e24) 1 (Int.tmod (IntKind.i64.wrap ((IntKind.i64.wrap (e29 * 2)) + y9)) 4)])), (IntKind.i64.wrap (y17 + 1))))))) (some y16)
def spec_l37Db_B1  (rec : ((List Int) × Int × Int × (List Y106) × Int) → Option ((List Int) × Int × Int × (List Y106))) (s : (List Int) × Int × Int × (List Y106) × Int) : Option ((List Int) × Int × Int × (List Y106)) := match s with
  | (y5, y6, y7, y8, y9) => cond (decide (y9 < (List.length y8 : Int))) (obind (spec_l1Once (y5, y6, y7) 2) fun v11 => cond v11.1 (obind (loopF (spec_l37Db_B3 y8 y9) fz (([] : List (List Int)), 0)) fun z16 => chk (0 < List.length y8) (obind (geti y8 y9) fun e36 => obind (spec_NewRelation e36.2.1 z16) fun v38 => obind (geti y8 y9) fun e40 => spec_l37Db_J2 rec y9 v11 (seti y8 y9 (e40.1, v38.1)))) (spec_l37Db_J2 rec y9 v11 y8)) (some (y5, y6, y7, y8))
def spec_l37Db (a0 : Y202) : Option ((List Y106) × Y202) := obind (spec_l6Db a0) fun v1 => obind (loopF spec_l37Db_B1 fz (v1.2.1, v1.2.2.1, v1.2.2.2, v1.1, 0)) fun o1 => (match o1 with
  | (z4, z5, z6, z7) => (some (z7, (z4, z5, z6))))
theorem spec_l37Db_s {a0 : Y202} {r : (List Y106) × Y202} (h : spec_l37Db a0 = some r) : PtrAt Try.prog 159 [aL cu8 a0.1, nI a0.2.1, nI a0.2.2] [] [aL cu8 r.2.1, nI r.2.2.1, nI r.2.2.2] (.agg [oL 107 c107_oo r.1]) := by
 unfold spec_l37Db at h
 refine stp lit159 rfl (rn 1 rfl (rs (sp 1 rfl (?_))))
 obtain ⟨v1, g2, h⟩ := ob_some h
 refine qP rfl rfl rfl rfl eran (spec_l6Db_s g2) (sp 2 rfl (evn (ls_seq_k fun K3 hK3 => rn 1 rfl ?_)))
 obtain ⟨o1, hl, hr1⟩ := ob_some h
 have kXB1 : ∀ {z4 : List Int} {z5 : Int} {z6 : Int} {z7 : List Y106}, (z4, z5, z6, z7) = o1 → Jn K3 [(0, .box [aL cu8 z4, nI z5, nI z6]), (2, .box [oL 107 c107_oo []]), (3, .box [oL 107 c107_oo z7])] := by
  intro z4 z5 z6 z7 h σ' hk
  subst h
  replace h := hr1
  try dsimp only at h
  exact hK3 _ (lh hk rfl (rn 1 rfl (ls_ret ((by cases h; exact ⟨.inl rfl, rfl, rfl⟩)))))
 refine ls_rec (fun (s : (List Int) × Int × Int × (List Y106) × Int) => match s with | (y5, y6, y7, y8, y9) => [(0, .box [aL cu8 y5, nI y6, nI y7]), (2, .box [oL 107 c107_oo []]), (3, .box [oL 107 c107_oo y8]), (4, nI y9)]) _ _ _ _ hl (okr rfl) (fun _ => rfl) ?_
 rintro m ⟨y5, y6, y7, y8, y9⟩ N h hN
 unfold spec_l37Db_B1 at h
 dsimp only at h
 refine ls_seq_k fun K8 hK8 => rn 1 rfl ?_
 rcases cond_some h with ⟨g9, h⟩ | ⟨g9, h⟩
 ·refine qT rfl g9 (ls_skip (hK8 _ (ls_seq_k fun K10 hK10 => ls_blk (rs (sp 1 rfl (?_))))))
  obtain ⟨v11, g12, h⟩ := ob_some h
  refine qP rfl rfl rfl rfl (qs rfl eran) (spec_l1Once_s g12) (evn ?_)
  have kJ2 : ∀ {x13 : List Y106}, spec_l37Db_J2 (loopF spec_l37Db_B1 m) y9 v11 x13 = some o1 → Jn K10 [(0, .box (c203_a v11.2)), (2, .box [oL 107 c107_oo []]), (3, .box [oL 107 c107_oo x13]), (4, nI y9)] := by
   intro x13 h σ' hk
   unfold spec_l37Db_J2 at h
   exact hK10 _ (lh hk rfl (rg (sp 3 rfl (evn (hN _ _ h (okr rfl))))))
  rcases cond_some h with ⟨g14, h⟩ | ⟨g14, h⟩
  ·refine qT rfl g14 (rs (qBs c31_o [] rfl rfl rfl zc31_o (sp 1 rfl (evn (ls_seq_k fun K15 hK15 => rn 1 rfl ?_)))))
   obtain ⟨o3, hl, hr3⟩ := ob_some h
   have kXB3 : ∀ {z16 : List (List Int)}, z16 = o3 → Jn K15 [(0, .box (c203_a v11.2)), (2, .box [oL 107 c107_oo []]), (3, .box [oL 107 c107_oo y8]), (4, nI y9), (5, oL 31 c31_o z16)] := by
    intro z16 h σ' hk
    subst h
    replace h := hr3
    try dsimp only at h
    refine hK15 _ (lh hk rfl (qk [0, 2, 3, 4, 5] rfl ?_))
    obtain ⟨g34, h⟩ := chk_some h
    refine ls_hg (gLb (q := 900003) (b := 3) [] [] rfl rfl rfl g34 ?_)
    intro gg35 mm35
    refine qk [0, 2, 3, 4, 5, 900003] rfl (ls_gh (rgt 15 (by kernel_rfl) (sd 6 rfl (?_))))
    obtain ⟨e36, g37, h⟩ := ob_some h
    refine ed rfl (qIt rfl rfl rfl rfl g37 (sd 2 rfl (?_)))
    refine ed rfl (qLe (i := y9) (es := 3) (q := 900003) 1 rfl rfl rfl rfl rfl rfl zc107_oo g37 rfl rfl (?_))
    refine sd 1 rfl (?_)
    obtain ⟨v38, g39, h⟩ := ob_some h
    refine ed rfl (qC (qs rfl (qa rfl (erD ec31_o _) eran)) (spec_NewRelation_s g39) (sd 3 rfl (evdn (gh_k ?_))))
    obtain ⟨e40, g41, h⟩ := ob_some h
    refine qIt rfl rfl rfl rfl g41 (sp 1 rfl (?_))
    refine qSt (y0 := e40) (i := y9) (es := 3) 1 (e40.1, v38.1) [0, 2, 3, 4] rfl rfl rfl rfl rfl rfl rfl rfl rfl rfl zc107_oo g41 dkc107_oo (dcc rfl (dcc (dco dkc31_o _ _) dcn)) (yc (snc (sA (aca (fun _ => rfl) _)) (snc rfl (snc rfl rfl))) (yc (snc (sO (dco dkc107_oo _ _)) rfl) (yc (snc rfl rfl) (yc rfl yn)))) (?_)
    exact evn (gDb (q := 900003) (b := 3) [] [] rfl rfl rfl (sl rfl) (kJ2 h _ (okr rfl)))
   refine ls_rec (fun (s : (List (List Int)) × Int) => match s with | (y16, y17) => [(0, .box (c203_a v11.2)), (2, .box [oL 107 c107_oo []]), (3, .box [oL 107 c107_oo y8]), (4, nI y9), (5, oL 31 c31_o y16), (6, nI y17)]) _ _ _ _ hl (okr rfl) (fun _ => rfl) ?_
   rintro m ⟨y16, y17⟩ N h hN
   unfold spec_l37Db_B3 at h
   dsimp only at h
   refine ls_seq_k fun K17 hK17 => rs (sp 4 rfl (?_))
   obtain ⟨e18, g19, h⟩ := ob_some h
   refine qI rfl zc107_oo g19 (sp 5 rfl (evn ?_))
   rcases cond_some h with ⟨g20, h⟩ | ⟨g20, h⟩
   ·refine qT rfl g20 (ls_skip (hK17 _ (ls_seq_k fun K21 hK21 => ls_blk (rs (qBs ci64 [] rfl rfl rfl zci64 (sp 3 rfl (?_)))))))
    obtain ⟨e22, g23, h⟩ := ob_some h
    refine qI rfl zc107_oo g23 (sp 4 rfl (?_))
    obtain ⟨e24, g25, h⟩ := ob_some h
    refine qI rfl zc31_o g25 (sp 1 rfl (?_))
    obtain ⟨g26, h⟩ := chk_some h
    refine qA ci64 ([] : List Int) e24 rfl rfl (flat_len zci64 e24) (map_dg (fun _ => rfl) _) g26 (sp 1 rfl (evn (qk [0, 2, 3, 4, 5, 6, 7] rfl ?_)))
    obtain ⟨g27, h⟩ := chk_some h
    refine ls_hg (gLs (q := 900003) (b := 7) rfl rfl rfl g27 ?_)
    intro gg28 mm28
    refine qk [0, 2, 3, 4, 5, 6, 7, 900003] rfl (rs (sp 2 rfl (?_)))
    obtain ⟨e29, g30, h⟩ := ob_some h
    refine qIt rfl rfl rfl rfl g30 (?_)
    refine qLe (i := 0) (es := 1) (q := 900003) 0 rfl rfl rfl rfl rfl rfl zci64 g30 rfl rfl (?_)
    refine sp 4 rfl (?_)
    obtain ⟨e31, g32, h⟩ := ob_some h
    refine qIt rfl rfl rfl rfl g32 (?_)
    refine qSt (y0 := e31) (i := 1) (es := 1) 0 (Int.tmod (IntKind.i64.wrap ((IntKind.i64.wrap (e29 * 2)) + y9)) 4) [0, 2, 3, 4, 5, 6, 7] rfl rfl rfl rfl rfl rfl rfl rfl rfl rfl zci64 g32 (fun _ => rfl) (dcc rfl dcn) (yc (snc (sA (aca (fun _ => rfl) _)) (snc rfl (snc rfl rfl))) (yc (snc (sO (dco dkc107_oo _ _)) rfl) (yc (snc (sO (dco dkc107_oo _ _)) rfl) (yc rfl (yc (dcf dkc31_o _) (yc rfl (yc rfl yn))))))) (?_)
    refine evn (ls_hg (gDs (q := 900003) (b := 7) rfl rfl rfl (sl rfl) (qk [0, 2, 3, 4, 5, 6, 7] rfl (rg (sp 2 rfl (qBs c31_o [seti (([] : List Int) ++ e24) 1 (Int.tmod (IntKind.i64.wrap ((IntKind.i64.wrap (e29 * 2)) + y9)) 4)] rfl rfl rfl zc31_o (?_)))))))
    obtain ⟨g33, h⟩ := chk_some h
    exact qA c31_o y16 ([seti (([] : List Int) ++ e24) 1 (Int.tmod (IntKind.i64.wrap ((IntKind.i64.wrap (e29 * 2)) + y9)) 4)]) rfl rfl (flat_len zc31_o ([seti (([] : List Int) ++ e24) 1 (Int.tmod (IntKind.i64.wrap ((IntKind.i64.wrap (e29 * 2)) + y9)) 4)])) rfl g33 (sp 1 rfl (evn (hK21 _ (rg (sp 3 rfl (evn (hN _ _ h (okr rfl))))))))
   ·exact qF rfl g20 (ls_exit (kXB3 (Option.some.inj h) _ (okr rfl)))
  ·exact qF rfl g14 (ls_skip (kJ2 h _ (okr rfl)))
 ·exact qF rfl g9 (ls_exit (kXB1 (Option.some.inj h) _ (okr rfl)))
def spec_l1Pick (a0 : Y202) (a1 : List (List UInt8)) : Option ((List UInt8) × Y202) := obind (spec_l1Below a0 (List.length a1 : Int)) fun v1 => obind (geti a1 v1.1) fun e3 => some (e3, v1.2)
theorem spec_l1Pick_s {a0 : Y202} {a1 : List (List UInt8)} {r : (List UInt8) × Y202} (h : spec_l1Pick a0 a1 = some r) : PtrAt Try.prog 189 [aL cu8 a0.1, nI a0.2.1, nI a0.2.2] [dL cst a1] [aL cu8 r.2.1, nI r.2.2.1, nI r.2.2.2] (.str r.1) := by
 unfold spec_l1Pick at h
 refine stp lit189 rfl (rn 1 rfl (rs (sp 4 rfl (?_))))
 obtain ⟨v1, g2, h⟩ := ob_some h
 refine qP rfl rfl rfl rfl (qs rfl eran) (spec_l1Below_s g2) (?_)
 obtain ⟨e3, g4, h⟩ := ob_some h
 exact qI rfl zcst g4 (sp 2 rfl (evn (ls_ret ((by cases h; exact ⟨.inl rfl, rfl, rfl⟩)))))
abbrev Y43 := (List UInt8) × (List Int) × Int
def c44_d (x : Y43) : List V := [.str x.1, dL ci64 x.2.1, nI x.2.2]
theorem zc44_d (x : Y43) : (c44_d x).length = 3 := rfl
theorem ec44_d (x : Y43) : erL (c44_d x) = c44_d x := (erc rfl (erc (erD eci64 _) (erc rfl rfl)))
def c44_o (x : Y43) : List V := [.str x.1, oL 3 ci64 x.2.1, nI x.2.2]
theorem zc44_o (x : Y43) : (c44_o x).length = 3 := rfl
theorem ec44_o (x : Y43) : erL (c44_o x) = c44_d x := (erc rfl (erc (erO eci64 _) (erc rfl rfl)))
def spec_l37Fd_J1 (x10 : List Int) (x11 : Int) (x12 : Int) (x13 : List UInt8) (x14 : List Int) (x15 : Int) : Option (Y43 × Y202) := some ((x13, x14, x15), (x10, x11, x12))
def spec_l37Fd (a0 : Y202) : Option (Y43 × Y202) := obind (spec_l1Pick a0 ([[114], [115], [116], [117], [118]])) fun v1 => obind (spec_l1Below v1.2 2) fun v3 => obind (spec_l1Below v3.2 2) fun v5 => obind (spec_l1Below v5.2 12) fun v8 => cond (v8.1 == 0) (spec_l37Fd_J1 v8.2.1 v8.2.2.1 v8.2.2.2 v1.1 [0, 1] v5.1) (cond (v8.1 == 1) (obind (spec_l1PickInt v8.2 [-1, 2, 3]) fun v18 => spec_l37Fd_J1 v18.2.1 v18.2.2.1 v18.2.2.2 v1.1 [v3.1] v18.1) (cond (v8.1 == 2) (spec_l37Fd_J1 v8.2.1 v8.2.2.1 v8.2.2.2 [119] [v3.1] v5.1) (cond (v8.1 == 3) (spec_l37Fd_J1 v8.2.1 v8.2.2.1 v8.2.2.2 v1.1 ([] : List Int) v5.1) (cond (v8.1 == 4) (spec_l37Fd_J1 v8.2.1 v8.2.2.1 v8.2.2.2 v1.1 [1, 0] v5.1) (spec_l37Fd_J1 v8.2.1 v8.2.2.1 v8.2.2.2 v1.1 [v3.1] v5.1)))))
theorem spec_l37Fd_s {a0 : Y202} {r : Y43 × Y202} (h : spec_l37Fd a0 = some r) : PtrAt Try.prog 175 [aL cu8 a0.1, nI a0.2.1, nI a0.2.2] [] [aL cu8 r.2.1, nI r.2.2.1, nI r.2.2.2] (.agg (c44_o r.1)) := by
 unfold spec_l37Fd at h
 refine stp lit175 rfl (rn 1 rfl (rs (sp 1 rfl (qBs cst [[114], [115], [116], [117], [118]] rfl rfl rfl zcst (?_)))))
 obtain ⟨v1, g2, h⟩ := ob_some h
 refine qP rfl rfl rfl rfl (qa rfl (erO ecst _) eran) (spec_l1Pick_s g2) (sp 1 rfl (?_))
 obtain ⟨v3, g4, h⟩ := ob_some h
 refine qP rfl rfl rfl rfl (qs rfl eran) (spec_l1Below_s g4) (qBs ci64 [v3.1] rfl rfl rfl zci64 (sp 1 rfl (?_)))
 obtain ⟨v5, g6, h⟩ := ob_some h
 refine qP rfl rfl rfl rfl (qs rfl eran) (spec_l1Below_s g6) (sp 3 rfl (evn (ls_seq_k fun K7 hK7 => rs (sp 1 rfl (?_)))))
 obtain ⟨v8, g9, h⟩ := ob_some h
 refine qP rfl rfl rfl rfl (qs rfl eran) (spec_l1Below_s g9) (evn (ls_blk (rn 1 rfl ?_)))
 have kJ1 : ∀ {x10 : List Int} {x11 : Int} {x12 : Int} {x13 : List UInt8} {x14 : List Int} {x15 : Int}, spec_l37Fd_J1 x10 x11 x12 x13 x14 x15 = some r → Jn K7 [(0, .box [aL cu8 x10, nI x11, nI x12]), (2, .box [.str [], oL 3 ci64 [], nI 0]), (3, .box [.str x13, oL 3 ci64 x14, nI x15])] := by
  intro x10 x11 x12 x13 x14 x15 h σ' hk
  unfold spec_l37Fd_J1 at h
  exact hK7 _ (lh hk rfl (rn 1 rfl (ls_ret ((by cases h; exact ⟨.inl rfl, rfl, rfl⟩)))))
 rcases cond_some h with ⟨g16, h⟩ | ⟨g16, h⟩
 ·exact qT rfl g16 (rg (qBs ci64 [0, 1] rfl rfl rfl zci64 (sp 2 rfl (evn (kJ1 h _ (okr rfl))))))
 ·refine qF rfl g16 (rn 1 rfl ?_)
  rcases cond_some h with ⟨g17, h⟩ | ⟨g17, h⟩
  ·refine qT rfl g17 (rg (sp 1 rfl (qBs ci64 [-1, 2, 3] rfl rfl rfl zci64 (?_))))
   obtain ⟨v18, g19, h⟩ := ob_some h
   exact qP rfl rfl rfl rfl (qa rfl (erO eci64 _) eran) (spec_l1PickInt_s g19) (sp 2 rfl (evn (kJ1 h _ (okr rfl))))
  ·refine qF rfl g17 (rn 1 rfl ?_)
   rcases cond_some h with ⟨g20, h⟩ | ⟨g20, h⟩
   ·exact qT rfl g20 (rg (sp 2 rfl (evn (kJ1 h _ (okr rfl)))))
   ·refine qF rfl g20 (rn 1 rfl (qk [0, 2, 3, 14, 28] rfl ?_))
    rcases cond_some h with ⟨g21, h⟩ | ⟨g21, h⟩
    ·exact qT rfl g21 (rg (qBs ci64 [] rfl rfl rfl zci64 (sp 2 rfl (evn (kJ1 h _ (okr rfl))))))
    ·refine qF rfl g21 (rn 1 rfl ?_)
     rcases cond_some h with ⟨g22, h⟩ | ⟨g22, h⟩
     ·exact qT rfl g22 (rg (qBs ci64 [1, 0] rfl rfl rfl zci64 (sp 2 rfl (evn (kJ1 h _ (okr rfl))))))
     ·exact qF rfl g22 (ls_skip (kJ1 h _ (okr rfl)))
def spec_DrawIsValidFD (a0 : List Int) : Option ((List Y106) × Y43) := obind (spec_l1New a0) fun v1 => obind (spec_l37Db v1) fun v3 => obind (spec_l37Fd v3.2) fun v5 => some (v3.1, v5.1)
theorem spec_DrawIsValidFD_s {a0 : List Int} {r : (List Y106) × Y43} (h : spec_DrawIsValidFD a0 = some r) : SoundAt Try.prog 94 [aL cu8 a0] (.tup [.agg [oL 107 c107_oo r.1], .agg (c44_o r.2)]) := by
 unfold spec_DrawIsValidFD at h
 refine st lit94 rfl (rn 1 rfl (rs (sp 1 rfl (?_))))
 obtain ⟨v1, g2, h⟩ := ob_some h
 refine qN rfl rfl rfl rfl (spec_l1New_s g2) (sp 1 rfl (evn (rs (sp 1 rfl (?_)))))
 obtain ⟨v3, g4, h⟩ := ob_some h
 refine qP rfl rfl rfl rfl eran (spec_l37Db_s g4) (sp 1 rfl (?_))
 obtain ⟨v5, g6, h⟩ := ob_some h
 exact qP rfl rfl rfl rfl eran (spec_l37Fd_s g6) (sp 2 rfl (evn (ls_ret ((by cases h; exact ⟨.inl rfl, rfl⟩)))))
def spec_DrawFDViolation (a0 : List Int) : Option ((List Y106) × Y43) := obind (spec_DrawIsValidFD a0) fun v1 => some (v1.1, v1.2)
theorem spec_DrawFDViolation_s {a0 : List Int} {r : (List Y106) × Y43} (h : spec_DrawFDViolation a0 = some r) : SoundAt Try.prog 21 [aL cu8 a0] (.tup [.agg [oL 107 c107_oo r.1], .agg (c44_o r.2)]) := by
 unfold spec_DrawFDViolation at h
 refine st lit21 rfl (rn 1 rfl (rs (sp 1 rfl (?_))))
 obtain ⟨v1, g2, h⟩ := ob_some h
 exact qCk rfl rfl (spec_DrawIsValidFD_s g2) (sp 4 rfl (evn (ls_ret ((by cases h; exact ⟨.inl rfl, rfl⟩)))))
def impl_IsStrictlyAscending_B1 (a0 : List Int) (rec : Int → Option (Sum (Unit) (Bool))) (y1 : Int) : Option (Sum (Unit) (Bool)) := cond (decide (y1 < (List.length a0 : Int))) (obind (geti a0 (IntKind.i64.wrap (y1 - 1))) fun e5 => obind (geti a0 y1) fun e7 => cond (decide (e7 ≤ e5)) (some (.inr false)) (rec (IntKind.i64.wrap (y1 + 1)))) (some (.inl ()))
def impl_IsStrictlyAscending (a0 : List Int) : Option (Bool) := obind (loopF (impl_IsStrictlyAscending_B1 a0) fz 1) fun o1 => (match o1 with
  | .inl _ => (some true)
  | .inr r => some r)
theorem impl_IsStrictlyAscending_s {a0 : List Int} {r : Bool} (h : impl_IsStrictlyAscending a0 = some r) : SoundAt Try.prog 16 [dL ci64 a0] (.bool r) := by
 unfold impl_IsStrictlyAscending at h
 refine st lit16 rfl (rn 1 rfl (ls_seq_k fun K1 hK1 => rn 1 rfl ?_))
 obtain ⟨o1, hl, hr1⟩ := ob_some h
 have kXB1 : (.inl ()) = o1 → Jn K1 [] := by
  intro h σ' hk
  subst h
  replace h := hr1
  try dsimp only at h
  exact hK1 _ (lh hk rfl (rn 1 rfl (ls_ret ((by cases h; exact ⟨.inl rfl, rfl⟩)))))
 refine ls_rec (fun (y1 : Int) => [(0, dL ci64 a0), (3, nI y1)]) _ _ _ _ hl (okr rfl) (fun _ => rfl) ?_
 rintro m y1 N h hN
 unfold impl_IsStrictlyAscending_B1 at h
 refine ls_seq_k fun K2 hK2 => rn 1 rfl ?_
 rcases cond_some h with ⟨g3, h⟩ | ⟨g3, h⟩
 ·refine qT rfl g3 (ls_skip (hK2 _ (ls_seq_k fun K4 hK4 => ls_blk (rd (by kernel_rfl) (sd 3 rfl (?_))))))
  obtain ⟨e5, g6, h⟩ := ob_some h
  refine ed rfl (qI rfl zci64 g6 (sd 3 rfl (?_)))
  obtain ⟨e7, g8, h⟩ := ob_some h
  refine ed rfl (qI rfl zci64 g8 (sd 2 rfl (evdn ?_)))
  rcases cond_some h with ⟨g9, h⟩ | ⟨g9, h⟩
  ·exact qT rfl g9 (rn 1 rfl (ls_ret ((by cases h; cases hr1; exact ⟨.inl rfl, rfl⟩))))
  ·exact qF rfl g9 (ls_skip (hK4 _ (rg (sp 3 rfl (evn (hN _ _ h (okr rfl)))))))
 ·exact qF rfl g3 (ls_exit (kXB1 (Option.some.inj h) _ trivial))
def impl_within_J1 (x2 : Bool) : Option (Bool) := some x2
def impl_within (a0 : Int) (a1 : Int) (a2 : Int) : Option (Bool) := cond (decide (a1 ≤ a0)) (impl_within_J1 (decide (a0 ≤ a2))) (impl_within_J1 false)
theorem impl_within_s {a0 : Int} {a1 : Int} {a2 : Int} {r : Bool} (h : impl_within a0 a1 a2 = some r) : SoundAt Try.prog 86 [nI a0, nI a1, nI a2] (.bool r) := by
 unfold impl_within at h
 refine st lit86 rfl (rn 1 rfl (rk fun K1 hK1 => ?_))
 have kJ1 : ∀ {x2 : Bool}, impl_within_J1 x2 = some r → Jn K1 [(6, .bool x2)] := by
  intro x2 h σ' hk
  unfold impl_within_J1 at h
  exact hK1 _ (lh hk rfl (ls_ret ((by cases h; exact ⟨.inl rfl, rfl⟩))))
 refine sp 4 rfl (?_)
 rcases cond_some h with ⟨g3, h⟩ | ⟨g3, h⟩
 ·exact qg 10 g3 rfl (sp 5 rfl (evn (kJ1 h _ (okr rfl))))
 ·exact qg 10 g3 rfl (sp 5 rfl (evn (kJ1 h _ (okr rfl))))
def impl_AreValidValues_B1 (a0 : List Int) (rec : Int → Option (Sum (Unit) (Bool))) (y1 : Int) : Option (Sum (Unit) (Bool)) := cond (decide (y1 < (List.length a0 : Int))) (obind (geti a0 y1) fun e5 => obind (impl_within e5 0 99) fun v7 => cond (!v7) (some (.inr false)) (rec (IntKind.i64.wrap (y1 + 1)))) (some (.inl ()))
def impl_AreValidValues (a0 : List Int) : Option (Bool) := obind (loopF (impl_AreValidValues_B1 a0) fz 0) fun o1 => (match o1 with
  | .inl _ => (some true)
  | .inr r => some r)
theorem impl_AreValidValues_s {a0 : List Int} {r : Bool} (h : impl_AreValidValues a0 = some r) : SoundAt Try.prog 173 [dL ci64 a0] (.bool r) := by
 unfold impl_AreValidValues at h
 refine st lit173 rfl (rn 1 rfl (ls_seq_k fun K1 hK1 => rn 1 rfl ?_))
 obtain ⟨o1, hl, hr1⟩ := ob_some h
 have kXB1 : (.inl ()) = o1 → Jn K1 [] := by
  intro h σ' hk
  subst h
  replace h := hr1
  try dsimp only at h
  exact hK1 _ (lh hk rfl (rn 1 rfl (ls_ret ((by cases h; exact ⟨.inl rfl, rfl⟩)))))
 refine ls_rec (fun (y1 : Int) => [(5, dL ci64 a0), (6, nI (List.length a0 : Int)), (7, nI y1)]) _ _ _ _ hl (okr rfl) (fun _ => rfl) ?_
 rintro m y1 N h hN
 unfold impl_AreValidValues_B1 at h
 refine rn 1 rfl (ls_seq_k fun K2 hK2 => ?_)
 rcases cond_some h with ⟨g3, h⟩ | ⟨g3, h⟩
 ·refine qT rfl g3 (ls_skip (hK2 _ (ls_seq_k fun K4 hK4 => ls_blk (rs ?_))))
  obtain ⟨e5, g6, h⟩ := ob_some h
  refine qI rfl zci64 g6 (sp 2 rfl (evn (rs (sp 1 rfl (?_)))))
  obtain ⟨v7, g8, h⟩ := ob_some h
  refine qC (qs rfl (qs rfl (qs rfl eran))) (impl_within_s g8) (sp 1 rfl (evn ?_))
  rcases cond_some h with ⟨g9, h⟩ | ⟨g9, h⟩
  ·exact qT rfl g9 (rn 1 rfl (ls_ret ((by cases h; cases hr1; exact ⟨.inl rfl, rfl⟩))))
  ·exact qF rfl g9 (ls_skip (hK4 _ (rg (sp 2 rfl (evn (hN _ _ h (okr rfl)))))))
 ·exact qF rfl g3 (ls_exit (kXB1 (Option.some.inj h) _ trivial))
def impl_compareInts (a0 : Int) (a1 : Int) : Option (Int) := cond (decide (a0 < a1)) (some (-1)) (cond (decide (a1 < a0)) (some 1) (some 0))
theorem impl_compareInts_s {a0 : Int} {a1 : Int} {r : Int} (h : impl_compareInts a0 a1 = some r) : SoundAt Try.prog 238 [nI a0, nI a1] (nI r) := by
 unfold impl_compareInts at h
 refine st lit238 rfl (rn 1 rfl (ls_seq_k fun K1 hK1 => ls_blk (rn 1 rfl ?_)))
 rcases cond_some h with ⟨g2, h⟩ | ⟨g2, h⟩
 ·exact qT rfl g2 (rn 1 rfl (ls_ret ((by cases h; exact ⟨.inl rfl, rfl⟩))))
 ·refine qF rfl g2 (rn 1 rfl ?_)
  rcases cond_some h with ⟨g3, h⟩ | ⟨g3, h⟩
  ·exact qT rfl g3 (rn 1 rfl (ls_ret ((by cases h; exact ⟨.inl rfl, rfl⟩))))
  ·exact qF rfl g3 (ls_skip (hK1 _ (rn 1 rfl (qk [4] rfl (ls_ret ((by cases h; exact ⟨.inl rfl, rfl⟩)))))))
def impl_CompareRows_B1 (a0 : List Int) (a1 : List Int) (rec : Int → Option (Sum (Unit) (Int))) (y1 : Int) : Option (Sum (Unit) (Int)) := cond (decide (y1 < (List.length a0 : Int))) (cond (decide (y1 < (List.length a1 : Int))) (obind (geti a0 y1) fun e6 => obind (geti a1 y1) fun e8 => cond (e6 != e8) (obind (geti a0 y1) fun e11 => obind (geti a1 y1) fun e13 => obind (impl_compareInts e11 e13) fun v15 => some (.inr v15)) (rec (IntKind.i64.wrap (y1 + 1)))) (some (.inl ()))) (some (.inl ()))
def impl_CompareRows (a0 : List Int) (a1 : List Int) : Option (Int) := obind (loopF (impl_CompareRows_B1 a0 a1) fz 0) fun o1 => (match o1 with
  | .inl _ => (obind (impl_compareInts (List.length a0 : Int) (List.length a1 : Int)) fun v17 => some v17)
  | .inr r => some r)
theorem impl_CompareRows_s {a0 : List Int} {a1 : List Int} {r : Int} (h : impl_CompareRows a0 a1 = some r) : SoundAt Try.prog 223 [dL ci64 a0, dL ci64 a1] (nI r) := by
 unfold impl_CompareRows at h
 refine st lit223 rfl (rn 1 rfl (ls_seq_k fun K1 hK1 => rn 1 rfl ?_))
 obtain ⟨o1, hl, hr1⟩ := ob_some h
 have kXB1 : (.inl ()) = o1 → Jn K1 [(0, dL ci64 a0), (1, dL ci64 a1)] := by
  intro h σ' hk
  subst h
  replace h := hr1
  try dsimp only at h
  refine hK1 _ (lh hk rfl (rs (sp 4 rfl (?_))))
  obtain ⟨v17, g18, h⟩ := ob_some h
  exact qC (qs rfl (qs rfl eran)) (impl_compareInts_s g18) (sp 1 rfl (evn (ls_ret ((by cases h; exact ⟨.inl rfl, rfl⟩)))))
 refine ls_rec (fun (y1 : Int) => [(0, dL ci64 a0), (1, dL ci64 a1), (5, nI y1)]) _ _ _ _ hl (okr rfl) (fun _ => rfl) ?_
 rintro m y1 N h hN
 unfold impl_CompareRows_B1 at h
 refine ls_seq_k fun K2 hK2 => rs (sp 5 rfl (?_))
 rcases cond_some h with ⟨g3, h⟩ | ⟨g3, h⟩
 ·refine qg 10 g3 rfl (sp 5 rfl (evn ?_))
  rcases cond_some h with ⟨g4, h⟩ | ⟨g4, h⟩
  ·refine qT rfl g4 (ls_skip (hK2 _ (ls_seq_k fun K5 hK5 => ls_blk (rd (by kernel_rfl) (sd 2 rfl (?_))))))
   obtain ⟨e6, g7, h⟩ := ob_some h
   refine ed rfl (qI rfl zci64 g7 (sd 3 rfl (?_)))
   obtain ⟨e8, g9, h⟩ := ob_some h
   refine ed rfl (qI rfl zci64 g9 (sd 2 rfl (evdn ?_)))
   rcases cond_some h with ⟨g10, h⟩ | ⟨g10, h⟩
   ·refine qT rfl g10 (rd (by kernel_rfl) (sd 2 rfl (?_)))
    obtain ⟨e11, g12, h⟩ := ob_some h
    refine ed rfl (qI rfl zci64 g12 (sd 3 rfl (?_)))
    obtain ⟨e13, g14, h⟩ := ob_some h
    refine ed rfl (qI rfl zci64 g14 (sd 1 rfl (?_)))
    obtain ⟨v15, g16, h⟩ := ob_some h
    exact ed rfl (qC (qs rfl (qs rfl eran)) (impl_compareInts_s g16) (sd 1 rfl (evdn (qk [4] rfl (ls_ret ((by cases h; cases hr1; exact ⟨.inl rfl, rfl⟩)))))))
   ·exact qF rfl g10 (ls_skip (hK5 _ (rg (sp 3 rfl (evn (hN _ _ h (okr rfl)))))))
  ·exact qF rfl g4 (ls_exit (kXB1 (Option.some.inj h) _ (okr rfl)))
 ·exact qg 10 g3 rfl (sp 5 rfl (evn (qF rfl rfl (ls_exit (kXB1 (Option.some.inj h) _ (okr rfl))))))
def impl_rowsValid_J2 (rec : Int → Option (Sum (Unit) (Bool))) (y1 : Int) (x13 : Bool) : Option (Sum (Unit) (Bool)) := cond x13 (some (.inr false)) (rec (IntKind.i64.wrap (y1 + 1)))
def impl_rowsValid_B1 (a0 : Int) (a1 : List (List Int)) (rec : Int → Option (Sum (Unit) (Bool))) (y1 : Int) : Option (Sum (Unit) (Bool)) := cond (decide (y1 < (List.length a1 : Int))) (obind (geti a1 y1) fun e10 => cond ((List.length e10 : Int) != a0) (impl_rowsValid_J2 rec y1 true) (obind (impl_AreValidValues e10) fun v16 => cond (!v16) (impl_rowsValid_J2 rec y1 true) (cond (decide (0 < y1)) (obind (geti a1 (IntKind.i64.wrap (y1 - 1))) fun e20 => obind (impl_CompareRows e20 e10) fun v22 => impl_rowsValid_J2 rec y1 (decide (0 ≤ v22))) (impl_rowsValid_J2 rec y1 false)))) (some (.inl ()))
def impl_rowsValid (a0 : Int) (a1 : List (List Int)) : Option (Bool) := obind (impl_within a0 0 5) fun v2 => cond (!v2) (some false) (cond (decide (4000 < (List.length a1 : Int))) (some false) (obind (loopF (impl_rowsValid_B1 a0 a1) fz 0) fun o1 => (match o1 with
  | .inl _ => (some true)
  | .inr r => some r)))
theorem impl_rowsValid_s {a0 : Int} {a1 : List (List Int)} {r : Bool} (h : impl_rowsValid a0 a1 = some r) : SoundAt Try.prog 172 [nI a0, dL c31_d a1] (.bool r) := by
 unfold impl_rowsValid at h
 refine st lit172 rfl (rn 1 rfl (ls_seq_k fun K1 hK1 => rs (sp 1 rfl (?_))))
 obtain ⟨v2, g3, h⟩ := ob_some h
 refine qC (qs rfl (qs rfl (qs rfl eran))) (impl_within_s g3) (sp 2 rfl (?_))
 rcases cond_some h with ⟨g4, h⟩ | ⟨g4, h⟩
 ·exact qg 10 g4 rfl (sp 4 rfl (evn (qT rfl rfl (rn 1 rfl (ls_ret ((by cases h; exact ⟨.inl rfl, rfl⟩)))))))
 ·refine qg 10 g4 rfl (sp 4 rfl (evn ?_))
  rcases cond_some h with ⟨g5, h⟩ | ⟨g5, h⟩
  ·exact qT rfl g5 (rn 1 rfl (ls_ret ((by cases h; exact ⟨.inl rfl, rfl⟩))))
  ·refine qF rfl g5 (ls_skip (hK1 _ (ls_seq_k fun K6 hK6 => rn 1 rfl (qk [0, 1, 15, 16, 17] rfl ?_))))
   obtain ⟨o1, hl, hr1⟩ := ob_some h
   have kXB1 : (.inl ()) = o1 → Jn K6 [] := by
    intro h σ' hk
    subst h
    replace h := hr1
    try dsimp only at h
    exact hK6 _ (lh hk rfl (rn 1 rfl (ls_ret ((by cases h; exact ⟨.inl rfl, rfl⟩)))))
   refine ls_rec (fun (y1 : Int) => [(0, nI a0), (1, dL c31_d a1), (15, dL c31_d a1), (16, nI (List.length a1 : Int)), (17, nI y1)]) _ _ _ _ hl (okr rfl) (fun _ => rfl) ?_
   rintro m y1 N h hN
   unfold impl_rowsValid_B1 at h
   refine rn 1 rfl (ls_seq_k fun K7 hK7 => ?_)
   rcases cond_some h with ⟨g8, h⟩ | ⟨g8, h⟩
   ·refine qT rfl g8 (ls_skip (hK7 _ (ls_seq_k fun K9 hK9 => ls_blk (rs (sp 1 rfl (?_))))))
    obtain ⟨e10, g11, h⟩ := ob_some h
    refine qI rfl zc31_d g11 (sp 3 rfl (evn (rk fun K12 hK12 => ?_)))
    have kJ2 : ∀ {x13 : Bool}, impl_rowsValid_J2 (loopF (impl_rowsValid_B1 a0 a1) m) y1 x13 = some o1 → Jn K12 [(0, nI a0), (1, dL c31_d a1), (15, dL c31_d a1), (16, nI (List.length a1 : Int)), (17, nI y1), (44, .bool x13)] := by
     intro x13 h σ' hk
     unfold impl_rowsValid_J2 at h
     refine hK12 _ (lh hk rfl ?_)
     rcases cond_some h with ⟨g14, h⟩ | ⟨g14, h⟩
     ·exact qT rfl g14 (rn 1 rfl (ls_ret ((by cases h; cases hr1; exact ⟨.inl rfl, rfl⟩))))
     ·exact qF rfl g14 (ls_skip (hK9 _ (rg (sp 2 rfl (evn (hN _ _ h (okr rfl)))))))
    refine sp 5 rfl (?_)
    rcases cond_some h with ⟨g15, h⟩ | ⟨g15, h⟩
    ·exact qg 26 g15 rfl (sp 18 rfl (evn (kJ2 h _ (okr rfl))))
    ·refine qg 26 g15 rfl (sp 1 rfl (?_))
     obtain ⟨v16, g17, h⟩ := ob_some h
     refine oGR rfl rfl (qC (qa rfl (erD eci64 _) eran) (impl_AreValidValues_s g17) (sp 3 rfl (?_)))
     rcases cond_some h with ⟨g18, h⟩ | ⟨g18, h⟩
     ·exact qg 31 g18 rfl (sp 13 rfl (evn (kJ2 h _ (okr rfl))))
     ·refine qg 31 g18 rfl (sp 3 rfl (?_))
      rcases cond_some h with ⟨g19, h⟩ | ⟨g19, h⟩
      ·refine qg 34 g19 rfl (sp 3 rfl (?_))
       obtain ⟨e20, g21, h⟩ := ob_some h
       refine oGR rfl rfl (qI rfl zc31_d g21 (sp 2 rfl (?_)))
       obtain ⟨v22, g23, h⟩ := ob_some h
       exact oGR rfl rfl (qC (qa rfl (erD eci64 _) (qa rfl (erD eci64 _) eran)) (impl_CompareRows_s g23) (sp 3 rfl (evn (kJ2 h _ (okr rfl)))))
      ·exact qg 34 g19 rfl (sp 10 rfl (evn (kJ2 h _ (okr rfl))))
   ·exact qF rfl g8 (ls_exit (kXB1 (Option.some.inj h) _ trivial))
def impl_IsValidRelation (a0 : Y25) : Option (Bool) := obind (impl_rowsValid a0.1 a0.2) fun v1 => some v1
theorem impl_IsValidRelation_s {a0 : Y25} {r : Bool} (h : impl_IsValidRelation a0 = some r) : SoundAt Try.prog 85 [.agg (c26_dd a0)] (.bool r) := by
 unfold impl_IsValidRelation at h
 refine st lit85 rfl (rn 1 rfl (rs (sp 4 rfl (?_))))
 obtain ⟨v1, g2, h⟩ := ob_some h
 exact qC (qs rfl (qa rfl (erD ec31_d _) eran)) (impl_rowsValid_s g2) (sp 1 rfl (evn (ls_ret ((by cases h; exact ⟨.inl rfl, rfl⟩)))))
def impl_isLetters_B1 (a0 : List UInt8) (rec : Int → Option (Sum (Unit) (Bool))) (y1 : Int) : Option (Sum (Unit) (Bool)) := cond (decide (y1 < (List.length a0 : Int))) (obind (geti a0 y1) fun b8 => cond (decide ((UInt8.toNat b8 : Int) < 97)) (some (.inr false)) (obind (geti a0 y1) fun b11 => cond (decide (122 < (UInt8.toNat b11 : Int))) (some (.inr false)) (rec (IntKind.i64.wrap (y1 + 1))))) (some (.inl ()))
def impl_isLetters (a0 : List UInt8) (a1 : Int) : Option (Bool) := cond (decide ((List.length a0 : Int) < 1)) (some false) (cond (decide (a1 < (List.length a0 : Int))) (some false) (obind (loopF (impl_isLetters_B1 a0) fz 0) fun o1 => (match o1 with
  | .inl _ => (some true)
  | .inr r => some r)))
theorem impl_isLetters_s {a0 : List UInt8} {a1 : Int} {r : Bool} (h : impl_isLetters a0 a1 = some r) : SoundAt Try.prog 232 [.str a0, nI a1] (.bool r) := by
 unfold impl_isLetters at h
 refine st lit232 rfl (rn 1 rfl (ls_seq_k fun K1 hK1 => rs (sp 4 rfl (?_))))
 rcases cond_some h with ⟨g2, h⟩ | ⟨g2, h⟩
 ·exact qg 9 g2 rfl (sp 5 rfl (evn (qT rfl rfl (rn 1 rfl (ls_ret ((by cases h; exact ⟨.inl rfl, rfl⟩)))))))
 ·refine qg 9 g2 rfl (sp 5 rfl (evn ?_))
  rcases cond_some h with ⟨g3, h⟩ | ⟨g3, h⟩
  ·exact qT rfl g3 (rn 1 rfl (ls_ret ((by cases h; exact ⟨.inl rfl, rfl⟩))))
  ·refine qF rfl g3 (ls_skip (hK1 _ (ls_seq_k fun K4 hK4 => rn 1 rfl (qk [0, 5] rfl ?_))))
   obtain ⟨o1, hl, hr1⟩ := ob_some h
   have kXB1 : (.inl ()) = o1 → Jn K4 [] := by
    intro h σ' hk
    subst h
    replace h := hr1
    try dsimp only at h
    exact hK4 _ (lh hk rfl (rn 1 rfl (ls_ret ((by cases h; exact ⟨.inl rfl, rfl⟩)))))
   refine ls_rec (fun (y1 : Int) => [(0, .str a0), (5, nI y1)]) _ _ _ _ hl (okr rfl) (fun _ => rfl) ?_
   rintro m y1 N h hN
   unfold impl_isLetters_B1 at h
   refine ls_seq_k fun K5 hK5 => rn 1 rfl ?_
   rcases cond_some h with ⟨g6, h⟩ | ⟨g6, h⟩
   ·refine qT rfl g6 (ls_skip (hK5 _ (ls_seq_k fun K7 hK7 => ls_blk (rs (sp 2 rfl (?_))))))
    obtain ⟨b8, g9, h⟩ := ob_some h
    refine qX rfl g9 (sp 2 rfl (?_))
    rcases cond_some h with ⟨g10, h⟩ | ⟨g10, h⟩
    ·exact qg 25 g10 rfl (sp 5 rfl (evn (qT rfl rfl (rn 1 rfl (ls_ret ((by cases h; cases hr1; exact ⟨.inl rfl, rfl⟩)))))))
    ·refine qg 25 g10 rfl (sp 2 rfl (?_))
     obtain ⟨b11, g12, h⟩ := ob_some h
     refine oGR rfl rfl (qX rfl g12 (sp 2 rfl (evn ?_)))
     rcases cond_some h with ⟨g13, h⟩ | ⟨g13, h⟩
     ·exact qT rfl g13 (rn 1 rfl (qk [4] rfl (ls_ret ((by cases h; cases hr1; exact ⟨.inl rfl, rfl⟩)))))
     ·exact qF rfl g13 (ls_skip (hK7 _ (rg (sp 3 rfl (evn (hN _ _ h (okr rfl)))))))
   ·exact qF rfl g6 (ls_exit (kXB1 (Option.some.inj h) _ trivial))
def impl_IsValidName (a0 : List UInt8) : Option (Bool) := obind (impl_isLetters a0 4) fun v1 => some v1
theorem impl_IsValidName_s {a0 : List UInt8} {r : Bool} (h : impl_IsValidName a0 = some r) : SoundAt Try.prog 212 [.str a0] (.bool r) := by
 unfold impl_IsValidName at h
 refine st lit212 rfl (rn 1 rfl (rs (sp 1 rfl (?_))))
 obtain ⟨v1, g2, h⟩ := ob_some h
 exact qC (qs rfl (qs rfl eran)) (impl_isLetters_s g2) (sp 1 rfl (evn (ls_ret ((by cases h; exact ⟨.inl rfl, rfl⟩)))))
def impl_IsValidDatabase_J2 (rec : Int → Option (Sum (Unit) (Bool))) (y1 : Int) (x10 : Bool) : Option (Sum (Unit) (Bool)) := cond x10 (some (.inr false)) (rec (IntKind.i64.wrap (y1 + 1)))
def impl_IsValidDatabase_B1 (a0 : List Y106) (rec : Int → Option (Sum (Unit) (Bool))) (y1 : Int) : Option (Sum (Unit) (Bool)) := cond (decide (y1 < (List.length a0 : Int))) (obind (geti a0 y1) fun e7 => obind (impl_IsValidName e7.1) fun v12 => cond (!v12) (impl_IsValidDatabase_J2 rec y1 true) (cond (decide (0 < y1)) (obind (geti a0 (IntKind.i64.wrap (y1 - 1))) fun e16 => cond (!Op.bytesLess e16.1 e7.1) (impl_IsValidDatabase_J2 rec y1 true) (obind (impl_IsValidRelation e7.2) fun v19 => cond (!v19) (impl_IsValidDatabase_J2 rec y1 true) (cond (decide (e7.2.1 < 1)) (impl_IsValidDatabase_J2 rec y1 true) (impl_IsValidDatabase_J2 rec y1 (decide (16 < (List.length e7.2.2 : Int))))))) (obind (impl_IsValidRelation e7.2) fun v23 => cond (!v23) (impl_IsValidDatabase_J2 rec y1 true) (cond (decide (e7.2.1 < 1)) (impl_IsValidDatabase_J2 rec y1 true) (impl_IsValidDatabase_J2 rec y1 (decide (16 < (List.length e7.2.2 : Int)))))))) (some (.inl ()))
def impl_IsValidDatabase (a0 : List Y106) : Option (Bool) := cond (decide (6 < (List.length a0 : Int))) (some false) (obind (loopF (impl_IsValidDatabase_B1 a0) fz 0) fun o1 => (match o1 with
  | .inl _ => (some true)
  | .inr r => some r))
theorem impl_IsValidDatabase_s {a0 : List Y106} {r : Bool} (h : impl_IsValidDatabase a0 = some r) : SoundAt Try.prog 176 [.agg [dL c107_dd a0]] (.bool r) := by
 unfold impl_IsValidDatabase at h
 refine st lit176 rfl (rn 1 rfl (ls_seq_k fun K1 hK1 => rn 1 rfl ?_))
 rcases cond_some h with ⟨g2, h⟩ | ⟨g2, h⟩
 ·exact qT rfl g2 (rn 1 rfl (ls_ret ((by cases h; exact ⟨.inl rfl, rfl⟩))))
 ·refine qF rfl g2 (ls_skip (hK1 _ (ls_seq_k fun K3 hK3 => rn 1 rfl ?_)))
  obtain ⟨o1, hl, hr1⟩ := ob_some h
  have kXB1 : (.inl ()) = o1 → Jn K3 [] := by
   intro h σ' hk
   subst h
   replace h := hr1
   try dsimp only at h
   exact hK3 _ (lh hk rfl (rn 1 rfl (ls_ret ((by cases h; exact ⟨.inl rfl, rfl⟩)))))
  refine ls_rec (fun (y1 : Int) => [(1, .box [dL c107_dd a0]), (10, dL c107_dd a0), (11, nI (List.length a0 : Int)), (12, nI y1)]) _ _ _ _ hl (okr rfl) (fun _ => rfl) ?_
  rintro m y1 N h hN
  unfold impl_IsValidDatabase_B1 at h
  refine rn 1 rfl (ls_seq_k fun K4 hK4 => ?_)
  rcases cond_some h with ⟨g5, h⟩ | ⟨g5, h⟩
  ·refine qT rfl g5 (ls_skip (hK4 _ (ls_seq_k fun K6 hK6 => ls_blk (rs (sp 1 rfl (?_))))))
   obtain ⟨e7, g8, h⟩ := ob_some h
   refine qI rfl zc107_dd g8 (sp 4 rfl (evn (rdk (by kernel_rfl) fun K9 hK9 => ?_)))
   have kJ2 : ∀ {x10 : Bool}, impl_IsValidDatabase_J2 (loopF (impl_IsValidDatabase_B1 a0) m) y1 x10 = some o1 → Jn K9 [(1, .box [dL c107_dd a0]), (10, dL c107_dd a0), (11, nI (List.length a0 : Int)), (12, nI y1), (55, .bool x10)] := by
    intro x10 h σ' hk
    unfold impl_IsValidDatabase_J2 at h
    refine hK9 _ (lh hk rfl ?_)
    rcases cond_some h with ⟨g11, h⟩ | ⟨g11, h⟩
    ·exact qT rfl g11 (rn 1 rfl (ls_ret ((by cases h; cases hr1; exact ⟨.inl rfl, rfl⟩))))
    ·exact qF rfl g11 (ls_skip (hK6 _ (rg (sp 2 rfl (evn (hN _ _ h (okr rfl)))))))
   refine sd 2 rfl (?_)
   obtain ⟨v12, g13, h⟩ := ob_some h
   refine ed rfl (qC (qs rfl eran) (impl_IsValidName_s g13) (sd 2 rfl (?_)))
   rcases cond_some h with ⟨g14, h⟩ | ⟨g14, h⟩
   ·exact qgd 21 g14 rfl (sd 34 rfl (evdn (kJ2 h _ (okr rfl))))
   ·refine qgd 21 g14 rfl (sd 3 rfl (?_))
    rcases cond_some h with ⟨g15, h⟩ | ⟨g15, h⟩
    ·refine qgd 24 g15 rfl (sd 4 rfl (?_))
     obtain ⟨e16, g17, h⟩ := ob_some h
     refine ed rfl (oGR rfl rfl (qI rfl zc107_dd g17 (sd 8 rfl (?_))))
     rcases cond_some h with ⟨g18, h⟩ | ⟨g18, h⟩
     ·exact qgd 37 g18 rfl (sd 18 rfl (evdn (kJ2 h _ (okr rfl))))
     ·refine qgd 37 g18 rfl (sd 2 rfl (?_))
      obtain ⟨v19, g20, h⟩ := ob_some h
      refine ed rfl (oGR rfl rfl (qC (qa rfl (erg (erc rfl (erc (erD ec31_d _) rfl))) eran) (impl_IsValidRelation_s g20) (sd 3 rfl (?_))))
      rcases cond_some h with ⟨g21, h⟩ | ⟨g21, h⟩
      ·exact qgd 43 g21 rfl (sd 12 rfl (evdn (kJ2 h _ (okr rfl))))
      ·refine qgd 43 g21 rfl (sd 6 rfl (?_))
       rcases cond_some h with ⟨g22, h⟩ | ⟨g22, h⟩
       ·exact qgd 49 g22 rfl (sd 6 rfl (evdn (kJ2 h _ (okr rfl))))
       ·exact qgd 49 g22 rfl (sd 6 rfl (evdn (kJ2 h _ (okr rfl))))
    ·refine qgd 24 g15 rfl (sd 15 rfl (?_))
     obtain ⟨v23, g24, h⟩ := ob_some h
     refine ed rfl (oGR rfl rfl (qC (qa rfl (erg (erc rfl (erc (erD ec31_d _) rfl))) eran) (impl_IsValidRelation_s g24) (sd 3 rfl (?_))))
     rcases cond_some h with ⟨g25, h⟩ | ⟨g25, h⟩
     ·exact qgd 43 g25 rfl (sd 12 rfl (evdn (kJ2 h _ (okr rfl))))
     ·refine qgd 43 g25 rfl (sd 6 rfl (?_))
      rcases cond_some h with ⟨g26, h⟩ | ⟨g26, h⟩
      ·exact qgd 49 g26 rfl (sd 6 rfl (evdn (kJ2 h _ (okr rfl))))
      ·exact qgd 49 g26 rfl (sd 6 rfl (evdn (kJ2 h _ (okr rfl))))
  ·exact qF rfl g5 (ls_exit (kXB1 (Option.some.inj h) _ trivial))
def impl_copyInts (a0 : List Int) : Option ((List Int)) := chk (List.length ([] : List Int) + List.length a0 ≤ lim) (some (([] : List Int) ++ a0))
theorem impl_copyInts_s {a0 : List Int} {r : (List Int)} (h : impl_copyInts a0 = some r) : SoundAt Try.prog 88 [dL ci64 a0] (oL 3 ci64 r) := by
 unfold impl_copyInts at h
 refine st lit88 rfl (rn 1 rfl (rs (qBs ci64 [] rfl rfl rfl zci64 (sp 1 rfl (?_)))))
 obtain ⟨g1, h⟩ := chk_some h
 exact qA ci64 ([] : List Int) a0 rfl rfl (flat_len zci64 a0) (map_dg (fun _ => rfl) _) g1 (sp 1 rfl (evn (ls_ret ((by cases h; exact ⟨.inl rfl, rfl⟩)))))
def impl_copyRows_B1 (a0 : List (List Int)) (rec : ((List (List Int)) × Int) → Option ((List (List Int)))) (s : (List (List Int)) × Int) : Option ((List (List Int))) := match s with
  | (y1, y2) => cond (decide (y2 < (List.length a0 : Int))) (obind (geti a0 y2) fun e6 => obind (impl_copyInts e6) fun v8 => chk (List.length y1 + List.length [v8] ≤ lim) (rec ((y1 ++ [v8]), (IntKind.i64.wrap (y2 + 1))))) (some y1)
def impl_copyRows (a0 : List (List Int)) : Option ((List (List Int))) := obind (loopF (impl_copyRows_B1 a0) fz (([] : List (List Int)), 0)) fun z2 => some z2
theorem impl_copyRows_s {a0 : List (List Int)} {r : (List (List Int))} (h : impl_copyRows a0 = some r) : SoundAt Try.prog 93 [dL c31_d a0] (oL 31 c31_o r) := by
 unfold impl_copyRows at h
 refine st lit93 rfl (rn 2 rfl (ls_seq_k fun K1 hK1 => rn 1 rfl ?_))
 obtain ⟨o1, hl, hr1⟩ := ob_some h
 have kXB1 : ∀ {z2 : List (List Int)}, z2 = o1 → Jn K1 [(3, oL 31 c31_o z2)] := by
  intro z2 h σ' hk
  subst h
  replace h := hr1
  try dsimp only at h
  exact hK1 _ (lh hk rfl (rn 1 rfl (ls_ret ((by cases h; exact ⟨.inl rfl, rfl⟩)))))
 refine ls_rec (fun (s : (List (List Int)) × Int) => match s with | (y1, y2) => [(3, oL 31 c31_o y1), (6, dL c31_d a0), (7, nI (List.length a0 : Int)), (8, nI y2)]) _ _ _ _ hl (okr rfl) (fun _ => rfl) ?_
 rintro m ⟨y1, y2⟩ N h hN
 unfold impl_copyRows_B1 at h
 dsimp only at h
 refine rn 1 rfl (ls_seq_k fun K3 hK3 => ?_)
 rcases cond_some h with ⟨g4, h⟩ | ⟨g4, h⟩
 ·refine qT rfl g4 (ls_skip (hK3 _ (ls_seq_k fun K5 hK5 => ls_blk (rs ?_))))
  obtain ⟨e6, g7, h⟩ := ob_some h
  refine qI rfl zc31_d g7 (sp 2 rfl (evn (rg (sp 2 rfl (?_)))))
  obtain ⟨v8, g9, h⟩ := ob_some h
  refine qC (qa rfl (erD eci64 _) eran) (impl_copyInts_s g9) (qBs c31_o [v8] rfl rfl rfl zc31_o (?_))
  obtain ⟨g10, h⟩ := chk_some h
  exact qA c31_o y1 [v8] rfl rfl (flat_len zc31_o [v8]) rfl g10 (sp 1 rfl (evn (hK5 _ (rg (sp 2 rfl (evn (hN _ _ h (okr rfl))))))))
 ·exact qF rfl g4 (ls_exit (kXB1 (Option.some.inj h) _ (okr rfl)))
def impl_copyRelation (a0 : Y25) : Option (Y25) := obind (impl_copyRows a0.2) fun v1 => some (a0.1, v1)
theorem impl_copyRelation_s {a0 : Y25} {r : Y25} (h : impl_copyRelation a0 = some r) : SoundAt Try.prog 177 [.agg (c26_dd a0)] (.agg (c26_oo r)) := by
 unfold impl_copyRelation at h
 refine st lit177 rfl (rn 1 rfl (rd (by kernel_rfl) (sd 4 rfl (?_))))
 obtain ⟨v1, g2, h⟩ := ob_some h
 exact ed rfl (qC (qa rfl (erD ec31_d _) eran) (impl_copyRows_s g2) (sd 2 rfl (evdn (ls_ret ((by cases h; exact ⟨.inl rfl, rfl⟩))))))
def impl_LookupRelation_J1  : Option (Y25 × Bool) := some ((0, []), false)
def impl_LookupRelation_B2 (a0 : List Y106) (a1 : List UInt8) (rec : Int → Option (Sum (Unit) (Y25 × Bool))) (y2 : Int) : Option (Sum (Unit) (Y25 × Bool)) := cond (decide (y2 < (List.length a0 : Int))) (obind (geti a0 y2) fun e8 => cond (e8.1 == a1) (obind (impl_copyRelation e8.2) fun v11 => some (.inr (v11, true))) (rec (IntKind.i64.wrap (y2 + 1)))) (some (.inl ()))
def impl_LookupRelation (a0 : List Y106) (a1 : List UInt8) : Option (Y25 × Bool) := obind (impl_IsValidDatabase a0) fun v2 => cond v2 (obind (loopF (impl_LookupRelation_B2 a0 a1) fz 0) fun o2 => (match o2 with
  | .inl _ => (impl_LookupRelation_J1 )
  | .inr r => some r)) (impl_LookupRelation_J1 )
theorem impl_LookupRelation_s {a0 : List Y106} {a1 : List UInt8} {r : Y25 × Bool} (h : impl_LookupRelation a0 a1 = some r) : SoundAt Try.prog 95 [.agg [dL c107_dd a0], .str a1] (.tup [.agg (c26_oo r.1), .bool r.2]) := by
 unfold impl_LookupRelation at h
 refine st lit95 rfl (rn 1 rfl (ls_seq_k fun K1 hK1 => rs (sp 1 rfl (?_))))
 obtain ⟨v2, g3, h⟩ := ob_some h
 refine qC (qa rfl (erg (erc (erD ec107_dd _) rfl)) eran) (impl_IsValidDatabase_s g3) (evn ?_)
 have kJ1 : impl_LookupRelation_J1 = some r → Jn K1 [(4, .box [nI 0, oL 31 c31_o []])] := by
  intro h σ' hk
  unfold impl_LookupRelation_J1 at h
  exact hK1 _ (lh hk rfl (rn 1 rfl (ls_ret ((by cases h; exact ⟨.inl rfl, rfl⟩)))))
 rcases cond_some h with ⟨g4, h⟩ | ⟨g4, h⟩
 ·refine qT rfl g4 (rn 1 rfl ?_)
  obtain ⟨o2, hl, hr2⟩ := ob_some h
  have kXB2 : (.inl ()) = o2 → Jn K1 [(4, .box [nI 0, oL 31 c31_o []])] := by
   intro h σ' hk
   subst h
   replace h := hr2
   try dsimp only at h
   exact kJ1 h _ ⟨hk.1, trivial⟩
  refine ls_rec (fun (y2 : Int) => [(1, .str a1), (4, .box [nI 0, oL 31 c31_o []]), (11, dL c107_dd a0), (12, nI (List.length a0 : Int)), (13, nI y2)]) _ _ _ _ hl (okr rfl) (fun _ => rfl) ?_
  rintro m y2 N h hN
  unfold impl_LookupRelation_B2 at h
  refine rn 1 rfl (ls_seq_k fun K5 hK5 => ?_)
  rcases cond_some h with ⟨g6, h⟩ | ⟨g6, h⟩
  ·refine qT rfl g6 (ls_skip (hK5 _ (ls_seq_k fun K7 hK7 => ls_blk (rs ?_))))
   obtain ⟨e8, g9, h⟩ := ob_some h
   refine qI rfl zc107_dd g9 (sp 3 rfl (evn (rn 1 rfl ?_)))
   rcases cond_some h with ⟨g10, h⟩ | ⟨g10, h⟩
   ·refine qT rfl g10 (rs (sp 2 rfl (?_)))
    obtain ⟨v11, g12, h⟩ := ob_some h
    exact qC (qa rfl (erg (erc rfl (erc (erD ec31_d _) rfl))) eran) (impl_copyRelation_s g12) (sp 2 rfl (evn (ls_ret ((by cases h; cases hr2; exact ⟨.inl rfl, rfl⟩)))))
   ·exact qF rfl g10 (ls_skip (hK7 _ (rg (sp 2 rfl (evn (hN _ _ h (okr rfl)))))))
  ·exact qF rfl g6 (ls_exit (kXB2 (Option.some.inj h) _ (okr rfl)))
 ·exact qF rfl g4 (ls_skip (kJ1 h _ (okr rfl)))
def impl_IsValidFD_B1 (a1 : Y43) (v1 : Y25 × Bool) (rec : Int → Option (Sum (Unit) (Bool))) (y1 : Int) : Option (Sum (Unit) (Bool)) := cond (decide (y1 < (List.length a1.2.1 : Int))) (obind (geti a1.2.1 y1) fun e15 => obind (impl_within e15 0 (IntKind.i64.wrap (v1.1.1 - 1))) fun v17 => cond (!v17) (some (.inr false)) (rec (IntKind.i64.wrap (y1 + 1)))) (some (.inl ()))
def impl_IsValidFD (a0 : List Y106) (a1 : Y43) : Option (Bool) := obind (impl_LookupRelation a0 a1.1) fun v1 => cond (!v1.2) (some false) (obind (impl_IsStrictlyAscending a1.2.1) fun v5 => cond (!v5) (some false) (obind (impl_within a1.2.2 0 (IntKind.i64.wrap (v1.1.1 - 1))) fun v8 => cond (!v8) (some false) (obind (loopF (impl_IsValidFD_B1 a1 v1) fz 0) fun o1 => (match o1 with
  | .inl _ => (some true)
  | .inr r => some r))))
theorem impl_IsValidFD_s {a0 : List Y106} {a1 : Y43} {r : Bool} (h : impl_IsValidFD a0 a1 = some r) : SoundAt Try.prog 24 [.agg [dL c107_dd a0], .agg (c44_d a1)] (.bool r) := by
 unfold impl_IsValidFD at h
 refine st lit24 rfl (rn 1 rfl (rs (sp 3 rfl (?_))))
 obtain ⟨v1, g2, h⟩ := ob_some h
 refine qC (qa rfl (erg (erc (erD ec107_dd _) rfl)) (qs rfl eran)) (impl_LookupRelation_s g2) (sp 6 rfl (evn (ls_seq_k fun K3 hK3 => rs (sp 3 rfl (?_)))))
 rcases cond_some h with ⟨g4, h⟩ | ⟨g4, h⟩
 ·exact qg 18 g4 rfl (sp 14 rfl (evn (qT rfl rfl (rn 1 rfl (ls_ret ((by cases h; exact ⟨.inl rfl, rfl⟩)))))))
 ·refine qg 18 g4 rfl (sp 2 rfl (?_))
  obtain ⟨v5, g6, h⟩ := ob_some h
  refine oGR rfl rfl (qC (qa rfl (erD eci64 _) eran) (impl_IsStrictlyAscending_s g6) (sp 3 rfl (?_)))
  rcases cond_some h with ⟨g7, h⟩ | ⟨g7, h⟩
  ·exact qg 24 g7 rfl (sp 8 rfl (evn (qk [3, 5, 32] rfl (qT rfl rfl (rn 1 rfl (ls_ret ((by cases h; exact ⟨.inl rfl, rfl⟩))))))))
  ·refine qg 24 g7 rfl (sp 5 rfl (?_))
   obtain ⟨v8, g9, h⟩ := ob_some h
   refine oGR rfl rfl (qC (qs rfl (qs rfl (qs rfl eran))) (impl_within_s g9) (sp 2 rfl (evn ?_)))
   rcases cond_some h with ⟨g10, h⟩ | ⟨g10, h⟩
   ·exact qT rfl g10 (rn 1 rfl (ls_ret ((by cases h; exact ⟨.inl rfl, rfl⟩))))
   ·refine qF rfl g10 (ls_skip (hK3 _ (ls_seq_k fun K11 hK11 => rn 1 rfl ?_)))
    obtain ⟨o1, hl, hr1⟩ := ob_some h
    have kXB1 : (.inl ()) = o1 → Jn K11 [] := by
     intro h σ' hk
     subst h
     replace h := hr1
     try dsimp only at h
     exact hK11 _ (lh hk rfl (rn 1 rfl (ls_ret ((by cases h; exact ⟨.inl rfl, rfl⟩)))))
    refine ls_rec (fun (y1 : Int) => [(5, .box [nI v1.1.1, oL 31 c31_o v1.1.2]), (34, dL ci64 a1.2.1), (35, nI (List.length a1.2.1 : Int)), (36, nI y1)]) _ _ _ _ hl (okr rfl) (fun _ => rfl) ?_
    rintro m y1 N h hN
    unfold impl_IsValidFD_B1 at h
    refine rn 1 rfl (ls_seq_k fun K12 hK12 => ?_)
    rcases cond_some h with ⟨g13, h⟩ | ⟨g13, h⟩
    ·refine qT rfl g13 (ls_skip (hK12 _ (ls_seq_k fun K14 hK14 => ls_blk (rs ?_))))
     obtain ⟨e15, g16, h⟩ := ob_some h
     refine qI rfl zci64 g16 (sp 2 rfl (evn (rs (sp 4 rfl (?_)))))
     obtain ⟨v17, g18, h⟩ := ob_some h
     refine qC (qs rfl (qs rfl (qs rfl eran))) (impl_within_s g18) (sp 1 rfl (evn ?_))
     rcases cond_some h with ⟨g19, h⟩ | ⟨g19, h⟩
     ·exact qT rfl g19 (rn 1 rfl (ls_ret ((by cases h; cases hr1; exact ⟨.inl rfl, rfl⟩))))
     ·exact qF rfl g19 (ls_skip (hK14 _ (rg (sp 2 rfl (evn (hN _ _ h (okr rfl)))))))
    ·exact qF rfl g13 (ls_exit (kXB1 (Option.some.inj h) _ trivial))
def impl_sameInts_B1 (a0 : List Int) (a1 : List Int) (rec : Int → Option (Sum (Unit) (Bool))) (y1 : Int) : Option (Sum (Unit) (Bool)) := cond (decide (y1 < (List.length a0 : Int))) (obind (geti a0 y1) fun e7 => obind (geti a1 y1) fun e9 => cond (e7 != e9) (some (.inr false)) (rec (IntKind.i64.wrap (y1 + 1)))) (some (.inl ()))
def impl_sameInts (a0 : List Int) (a1 : List Int) : Option (Bool) := cond ((List.length a0 : Int) != (List.length a1 : Int)) (some false) (obind (loopF (impl_sameInts_B1 a0 a1) fz 0) fun o1 => (match o1 with
  | .inl _ => (some true)
  | .inr r => some r))
theorem impl_sameInts_s {a0 : List Int} {a1 : List Int} {r : Bool} (h : impl_sameInts a0 a1 = some r) : SoundAt Try.prog 96 [dL ci64 a0, dL ci64 a1] (.bool r) := by
 unfold impl_sameInts at h
 refine st lit96 rfl (rn 1 rfl (ls_seq_k fun K1 hK1 => rn 1 rfl ?_))
 rcases cond_some h with ⟨g2, h⟩ | ⟨g2, h⟩
 ·exact qT rfl g2 (rn 1 rfl (ls_ret ((by cases h; exact ⟨.inl rfl, rfl⟩))))
 ·refine qF rfl g2 (ls_skip (hK1 _ (ls_seq_k fun K3 hK3 => rn 1 rfl ?_)))
  obtain ⟨o1, hl, hr1⟩ := ob_some h
  have kXB1 : (.inl ()) = o1 → Jn K3 [] := by
   intro h σ' hk
   subst h
   replace h := hr1
   try dsimp only at h
   exact hK3 _ (lh hk rfl (rn 1 rfl (ls_ret ((by cases h; exact ⟨.inl rfl, rfl⟩)))))
  refine ls_rec (fun (y1 : Int) => [(0, dL ci64 a0), (1, dL ci64 a1), (12, nI (List.length a0 : Int)), (13, nI y1)]) _ _ _ _ hl (okr rfl) (fun _ => rfl) ?_
  rintro m y1 N h hN
  unfold impl_sameInts_B1 at h
  refine rn 1 rfl (ls_seq_k fun K4 hK4 => ?_)
  rcases cond_some h with ⟨g5, h⟩ | ⟨g5, h⟩
  ·refine qT rfl g5 (ls_skip (hK4 _ (ls_seq_k fun K6 hK6 => ls_blk (rn 1 rfl (rd (by kernel_rfl) (sd 2 rfl (?_)))))))
   obtain ⟨e7, g8, h⟩ := ob_some h
   refine ed rfl (qI rfl zci64 g8 (sd 3 rfl (?_)))
   obtain ⟨e9, g10, h⟩ := ob_some h
   refine ed rfl (qI rfl zci64 g10 (sd 2 rfl (evdn ?_)))
   rcases cond_some h with ⟨g11, h⟩ | ⟨g11, h⟩
   ·exact qT rfl g11 (rn 1 rfl (ls_ret ((by cases h; cases hr1; exact ⟨.inl rfl, rfl⟩))))
   ·exact qF rfl g11 (ls_skip (hK6 _ (rg (sp 2 rfl (evn (hN _ _ h (okr rfl)))))))
  ·exact qF rfl g5 (ls_exit (kXB1 (Option.some.inj h) _ trivial))
def impl_pick_B1 (a0 : List Int) (a1 : List Int) (rec : ((List Int) × Int) → Option ((List Int))) (s : (List Int) × Int) : Option ((List Int)) := match s with
  | (y1, y2) => cond (decide (y2 < (List.length a1 : Int))) (obind (geti a1 y2) fun e6 => obind (geti a0 e6) fun e8 => chk (List.length y1 + List.length [e8] ≤ lim) (rec ((y1 ++ [e8]), (IntKind.i64.wrap (y2 + 1))))) (some y1)
def impl_pick (a0 : List Int) (a1 : List Int) : Option ((List Int)) := obind (loopF (impl_pick_B1 a0 a1) fz (([] : List Int), 0)) fun z2 => some z2
theorem impl_pick_s {a0 : List Int} {a1 : List Int} {r : (List Int)} (h : impl_pick a0 a1 = some r) : SoundAt Try.prog 97 [dL ci64 a0, dL ci64 a1] (oL 3 ci64 r) := by
 unfold impl_pick at h
 refine st lit97 rfl (rn 1 rfl (rs (qBs ci64 [] rfl rfl rfl zci64 (sp 1 rfl (evn (ls_seq_k fun K1 hK1 => rn 1 rfl ?_))))))
 obtain ⟨o1, hl, hr1⟩ := ob_some h
 have kXB1 : ∀ {z2 : List Int}, z2 = o1 → Jn K1 [(5, oL 3 ci64 z2)] := by
  intro z2 h σ' hk
  subst h
  replace h := hr1
  try dsimp only at h
  exact hK1 _ (lh hk rfl (rn 1 rfl (ls_ret ((by cases h; exact ⟨.inl rfl, rfl⟩)))))
 refine ls_rec (fun (s : (List Int) × Int) => match s with | (y1, y2) => [(0, dL ci64 a0), (5, oL 3 ci64 y1), (9, dL ci64 a1), (10, nI (List.length a1 : Int)), (11, nI y2)]) _ _ _ _ hl (okr rfl) (fun _ => rfl) ?_
 rintro m ⟨y1, y2⟩ N h hN
 unfold impl_pick_B1 at h
 dsimp only at h
 refine rn 1 rfl (ls_seq_k fun K3 hK3 => ?_)
 rcases cond_some h with ⟨g4, h⟩ | ⟨g4, h⟩
 ·refine qT rfl g4 (ls_skip (hK3 _ (ls_seq_k fun K5 hK5 => ls_blk (rs ?_))))
  obtain ⟨e6, g7, h⟩ := ob_some h
  refine qI rfl zci64 g7 (sp 2 rfl (evn (rg (sp 3 rfl (?_)))))
  obtain ⟨e8, g9, h⟩ := ob_some h
  refine qI rfl zci64 g9 (sp 1 rfl (qBs ci64 [e8] rfl rfl rfl zci64 (?_)))
  obtain ⟨g10, h⟩ := chk_some h
  exact qA ci64 y1 [e8] rfl rfl (flat_len zci64 [e8]) rfl g10 (sp 1 rfl (evn (hK5 _ (rg (sp 2 rfl (evn (hN _ _ h (okr rfl))))))))
 ·exact qF rfl g4 (ls_exit (kXB1 (Option.some.inj h) _ (okr rfl)))
def impl_FDViolation_J3 (rec : Int → Option (Sum (Unit) ((List Int)))) (y2 : Int) (y4 : Int) (x20 : Bool) : Option (Sum (Unit) ((List Int))) := cond x20 (some (.inr [y4, y2])) (rec (IntKind.i64.wrap (y4 + 1)))
def impl_FDViolation_B2 (a1 : Y43) (v5 : Y25 × Bool) (y2 : Int) (e11 : List Int) (rec : Int → Option (Sum (Unit) ((List Int)))) (y4 : Int) : Option (Sum (Unit) ((List Int))) := cond (decide (y4 < (List.length (subl v5.1.2 0 y2) : Int))) (obind (geti (subl v5.1.2 0 y2) y4) fun e17 => obind (geti e17 a1.2.2) fun e22 => obind (geti e11 a1.2.2) fun e24 => cond (e22 != e24) (obind (impl_pick e17 a1.2.1) fun v27 => obind (impl_pick e11 a1.2.1) fun v29 => obind (impl_sameInts v27 v29) fun v31 => impl_FDViolation_J3 rec y2 y4 v31) (impl_FDViolation_J3 rec y2 y4 false)) (some (.inl ()))
def impl_FDViolation_B1 (a1 : Y43) (v5 : Y25 × Bool) (rec : Int → Option (Sum (Unit) ((List Int)))) (y2 : Int) : Option (Sum (Unit) ((List Int))) := cond (decide (y2 < (List.length v5.1.2 : Int))) (obind (geti v5.1.2 y2) fun e11 => chk ((0 : Int) ≤ 0 ∧ 0 ≤ y2 ∧ y2 ≤ (List.length v5.1.2 : Int)) (obind (loopF (impl_FDViolation_B2 a1 v5 y2 e11) fz 0) fun o2 => (match o2 with
  | .inl _ => (rec (IntKind.i64.wrap (y2 + 1)))
  | .inr r => some (.inr r)))) (some (.inl ()))
def impl_FDViolation (a0 : List Y106) (a1 : Y43) : Option ((List Int)) := obind (impl_IsValidFD a0 a1) fun v2 => cond (!v2) (some ([] : List Int)) (obind (impl_LookupRelation a0 a1.1) fun v5 => obind (loopF (impl_FDViolation_B1 a1 v5) fz 0) fun o1 => (match o1 with
  | .inl _ => (some ([] : List Int))
  | .inr r => some r))
theorem impl_FDViolation_s {a0 : List Y106} {a1 : Y43} {r : (List Int)} (h : impl_FDViolation a0 a1 = some r) : SoundAt Try.prog 22 [.agg [dL c107_dd a0], .agg (c44_d a1)] (oL 3 ci64 r) := by
 unfold impl_FDViolation at h
 refine st lit22 rfl (rn 1 rfl (ls_seq_k fun K1 hK1 => rs (sp 2 rfl (?_))))
 obtain ⟨v2, g3, h⟩ := ob_some h
 refine qC (qa rfl (erg (erc (erD ec107_dd _) rfl)) (qa rfl (erg (erc rfl (erc (erD eci64 _) (erc rfl rfl)))) eran)) (impl_IsValidFD_s g3) (sp 1 rfl (evn ?_))
 rcases cond_some h with ⟨g4, h⟩ | ⟨g4, h⟩
 ·exact qT rfl g4 (rn 1 rfl (ls_ret ((by cases h; exact ⟨.inl rfl, rfl⟩))))
 ·refine qF rfl g4 (ls_skip (hK1 _ (rs (sp 3 rfl (?_)))))
  obtain ⟨v5, g6, h⟩ := ob_some h
  refine qC (qa rfl (erg (erc (erD ec107_dd _) rfl)) (qs rfl eran)) (impl_LookupRelation_s g6) (sp 6 rfl (evn (ls_seq_k fun K7 hK7 => rn 1 rfl ?_)))
  obtain ⟨o1, hl, hr1⟩ := ob_some h
  have kXB1 : (.inl ()) = o1 → Jn K7 [] := by
   intro h σ' hk
   subst h
   replace h := hr1
   try dsimp only at h
   exact hK7 _ (lh hk rfl (rn 1 rfl (ls_ret ((by cases h; exact ⟨.inl rfl, rfl⟩)))))
  refine ls_rec (fun (y2 : Int) => [(3, .box [.str a1.1, dL ci64 a1.2.1, nI a1.2.2]), (5, .box [nI v5.1.1, oL 31 c31_o v5.1.2]), (23, dL c31_o v5.1.2), (24, nI (List.length v5.1.2 : Int)), (25, nI y2)]) _ _ _ _ hl (okr rfl) (fun _ => rfl) ?_
  rintro m y2 N h hN
  unfold impl_FDViolation_B1 at h
  refine rn 1 rfl (ls_seq_k fun K8 hK8 => ?_)
  rcases cond_some h with ⟨g9, h⟩ | ⟨g9, h⟩
  ·refine qT rfl g9 (ls_skip (hK8 _ (ls_seq_k fun K10 hK10 => ls_blk (rs (sp 1 rfl (?_))))))
   obtain ⟨e11, g12, h⟩ := ob_some h
   refine qI rfl zc31_o g12 (sp 3 rfl (evn (rs (sp 3 rfl (?_)))))
   obtain ⟨g13, h⟩ := chk_some h
   refine qSl rfl zc31_o g13 (sp 2 rfl (evn ?_))
   obtain ⟨o2, hl, hr2⟩ := ob_some h
   have kXB2 : (.inl ()) = o2 → Jn K10 [(3, .box [.str a1.1, dL ci64 a1.2.1, nI a1.2.2]), (5, .box [nI v5.1.1, oL 31 c31_o v5.1.2]), (23, dL c31_o v5.1.2), (24, nI (List.length v5.1.2 : Int)), (25, nI y2)] := by
    intro h σ' hk
    subst h
    replace h := hr2
    try dsimp only at h
    exact hK10 _ (lh hk rfl (rg (sp 2 rfl (evn (hN _ _ h (okr rfl))))))
   refine ls_rec (fun (y4 : Int) => [(3, .box [.str a1.1, dL ci64 a1.2.1, nI a1.2.2]), (5, .box [nI v5.1.1, oL 31 c31_o v5.1.2]), (7, nI y2), (8, dL ci64 e11), (23, dL c31_o v5.1.2), (24, nI (List.length v5.1.2 : Int)), (25, nI y2), (33, dL c31_o (subl v5.1.2 0 y2)), (34, nI (List.length (subl v5.1.2 0 y2) : Int)), (35, nI y4)]) _ _ _ _ hl (okr rfl) (fun _ => rfl) ?_
   rintro m y4 N h hN
   unfold impl_FDViolation_B2 at h
   refine rn 1 rfl (ls_seq_k fun K14 hK14 => ?_)
   rcases cond_some h with ⟨g15, h⟩ | ⟨g15, h⟩
   ·refine qT rfl g15 (ls_skip (hK14 _ (ls_seq_k fun K16 hK16 => ls_blk (rs (sp 1 rfl (?_))))))
    obtain ⟨e17, g18, h⟩ := ob_some h
    refine qI rfl zc31_o g18 (sp 3 rfl (evn (rdk (by kernel_rfl) fun K19 hK19 => ?_)))
    have kJ3 : ∀ {x20 : Bool}, impl_FDViolation_J3 (loopF (impl_FDViolation_B2 a1 v5 y2 e11) m) y2 y4 x20 = some o2 → Jn K19 [(3, .box [.str a1.1, dL ci64 a1.2.1, nI a1.2.2]), (5, .box [nI v5.1.1, oL 31 c31_o v5.1.2]), (7, nI y2), (8, dL ci64 e11), (9, nI y4), (23, dL c31_o v5.1.2), (24, nI (List.length v5.1.2 : Int)), (25, nI y2), (33, dL c31_o (subl v5.1.2 0 y2)), (34, nI (List.length (subl v5.1.2 0 y2) : Int)), (35, nI y4), (61, .bool x20)] := by
     intro x20 h σ' hk
     unfold impl_FDViolation_J3 at h
     refine hK19 _ (lh hk rfl ?_)
     rcases cond_some h with ⟨g21, h⟩ | ⟨g21, h⟩
     ·exact qT rfl g21 (rs (sp 2 rfl (qBs ci64 [y4, y2] rfl rfl rfl zci64 (sp 1 rfl (evn (ls_ret ((by cases h; cases hr2; cases hr1; exact ⟨.inl rfl, rfl⟩))))))))
     ·exact qF rfl g21 (ls_skip (hK16 _ (rg (sp 2 rfl (evn (hN _ _ h (okr rfl)))))))
    refine sd 3 rfl (?_)
    obtain ⟨e22, g23, h⟩ := ob_some h
    refine ed rfl (qI rfl zci64 g23 (sd 4 rfl (?_)))
    obtain ⟨e24, g25, h⟩ := ob_some h
    refine ed rfl (qI rfl zci64 g25 (sd 3 rfl (?_)))
    rcases cond_some h with ⟨g26, h⟩ | ⟨g26, h⟩
    ·refine qgd 51 g26 rfl (sd 3 rfl (?_))
     obtain ⟨v27, g28, h⟩ := ob_some h
     refine ed rfl (oGR rfl rfl (qC (qa rfl (erD eci64 _) (qa rfl (erD eci64 _) eran)) (impl_pick_s g28) (sd 3 rfl (?_))))
     obtain ⟨v29, g30, h⟩ := ob_some h
     refine ed rfl (oGR rfl rfl (qC (qa rfl (erD eci64 _) (qa rfl (erD eci64 _) eran)) (impl_pick_s g30) (?_)))
     obtain ⟨v31, g32, h⟩ := ob_some h
     exact ed rfl (oGR rfl rfl (qC (qa rfl (erO eci64 _) (qa rfl (erO eci64 _) eran)) (impl_sameInts_s g32) (sd 1 rfl (evdn (kJ3 h _ (okr rfl))))))
    ·exact qgd 51 g26 rfl (sd 10 rfl (evdn (kJ3 h _ (okr rfl))))
   ·exact qF rfl g15 (ls_exit (kXB2 (Option.some.inj h) _ (okr rfl)))
  ·exact qF rfl g9 (ls_exit (kXB1 (Option.some.inj h) _ trivial))
def impl_FDHolds_J1 (x2 : Bool) : Option (Bool) := some x2
def impl_FDHolds (a0 : List Y106) (a1 : Y43) : Option (Bool) := obind (impl_IsValidFD a0 a1) fun v3 => cond v3 (obind (impl_FDViolation a0 a1) fun v6 => impl_FDHolds_J1 ((List.length v6 : Int) == 0)) (impl_FDHolds_J1 false)
theorem impl_FDHolds_s {a0 : List Y106} {a1 : Y43} {r : Bool} (h : impl_FDHolds a0 a1 = some r) : SoundAt Try.prog 23 [.agg [dL c107_dd a0], .agg (c44_d a1)] (.bool r) := by
 unfold impl_FDHolds at h
 refine st lit23 rfl (rn 1 rfl (rk fun K1 hK1 => ?_))
 have kJ1 : ∀ {x2 : Bool}, impl_FDHolds_J1 x2 = some r → Jn K1 [(4, .bool x2)] := by
  intro x2 h σ' hk
  unfold impl_FDHolds_J1 at h
  exact hK1 _ (lh hk rfl (ls_ret ((by cases h; exact ⟨.inl rfl, rfl⟩))))
 refine sp 2 rfl (?_)
 obtain ⟨v3, g4, h⟩ := ob_some h
 refine qC (qa rfl (erg (erc (erD ec107_dd _) rfl)) (qa rfl (erg (erc rfl (erc (erD eci64 _) (erc rfl rfl)))) eran)) (impl_IsValidFD_s g4) (sp 1 rfl (?_))
 rcases cond_some h with ⟨g5, h⟩ | ⟨g5, h⟩
 ·refine qg 8 g5 rfl (sp 2 rfl (?_))
  obtain ⟨v6, g7, h⟩ := ob_some h
  exact oGR rfl rfl (qC (qa rfl (erg (erc (erD ec107_dd _) rfl)) (qa rfl (erg (erc rfl (erc (erD eci64 _) (erc rfl rfl)))) eran)) (impl_FDViolation_s g7) (sp 4 rfl (evn (kJ1 h _ (okr rfl)))))
 ·exact qg 8 g5 rfl (sp 7 rfl (evn (kJ1 h _ (okr rfl))))
def spec_IsValidName_B1 (a0 : List UInt8) (rec : Int → Option (Sum (Unit) (Bool))) (y1 : Int) : Option (Sum (Unit) (Bool)) := cond (decide (y1 < (List.length a0 : Int))) (obind (geti a0 y1) fun b5 => cond (decide ((UInt8.toNat b5 : Int) < 97)) (some (.inr false)) (obind (geti a0 y1) fun b8 => cond (decide (122 < (UInt8.toNat b8 : Int))) (some (.inr false)) (rec (IntKind.i64.wrap (y1 + 1))))) (some (.inl ()))
def spec_IsValidName (a0 : List UInt8) : Option (Bool) := obind (loopF (spec_IsValidName_B1 a0) fz 0) fun o1 => (match o1 with
  | .inl _ => (obind (spec_l1In (List.length a0 : Int) 1 4) fun v11 => some v11)
  | .inr r => some r)
theorem spec_IsValidName_s {a0 : List UInt8} {r : Bool} (h : spec_IsValidName a0 = some r) : SoundAt Try.prog 178 [.str a0] (.bool r) := by
 unfold spec_IsValidName at h
 refine st lit178 rfl (rn 1 rfl (ls_seq_k fun K1 hK1 => rn 1 rfl ?_))
 obtain ⟨o1, hl, hr1⟩ := ob_some h
 have kXB1 : (.inl ()) = o1 → Jn K1 [(0, .str a0)] := by
  intro h σ' hk
  subst h
  replace h := hr1
  try dsimp only at h
  refine hK1 _ (lh hk rfl (rs (sp 2 rfl (?_))))
  obtain ⟨v11, g12, h⟩ := ob_some h
  exact qC (qs rfl (qs rfl (qs rfl eran))) (spec_l1In_s g12) (sp 1 rfl (evn (ls_ret ((by cases h; exact ⟨.inl rfl, rfl⟩)))))
 refine ls_rec (fun (y1 : Int) => [(0, .str a0), (3, nI y1)]) _ _ _ _ hl (okr rfl) (fun _ => rfl) ?_
 rintro m y1 N h hN
 unfold spec_IsValidName_B1 at h
 refine ls_seq_k fun K2 hK2 => rn 1 rfl ?_
 rcases cond_some h with ⟨g3, h⟩ | ⟨g3, h⟩
 ·refine qT rfl g3 (ls_skip (hK2 _ (ls_seq_k fun K4 hK4 => ls_blk (rs (sp 2 rfl (?_))))))
  obtain ⟨b5, g6, h⟩ := ob_some h
  refine qX rfl g6 (sp 2 rfl (?_))
  rcases cond_some h with ⟨g7, h⟩ | ⟨g7, h⟩
  ·exact qg 14 g7 rfl (sp 5 rfl (evn (qT rfl rfl (rn 1 rfl (ls_ret ((by cases h; cases hr1; exact ⟨.inl rfl, rfl⟩)))))))
  ·refine qg 14 g7 rfl (sp 2 rfl (?_))
   obtain ⟨b8, g9, h⟩ := ob_some h
   refine oGR rfl rfl (qX rfl g9 (sp 2 rfl (evn ?_)))
   rcases cond_some h with ⟨g10, h⟩ | ⟨g10, h⟩
   ·exact qT rfl g10 (rn 1 rfl (qk [2] rfl (ls_ret ((by cases h; cases hr1; exact ⟨.inl rfl, rfl⟩)))))
   ·exact qF rfl g10 (ls_skip (hK4 _ (rg (sp 3 rfl (evn (hN _ _ h (okr rfl)))))))
 ·exact qF rfl g3 (ls_exit (kXB1 (Option.some.inj h) _ (okr rfl)))
def spec_IsValidDatabase_J2 (rec : Int → Option (Sum (Unit) (Bool))) (y1 : Int) (x8 : Bool) : Option (Sum (Unit) (Bool)) := cond x8 (some (.inr false)) (rec (IntKind.i64.wrap (y1 + 1)))
def spec_IsValidDatabase_B1 (a0 : List Y106) (rec : Int → Option (Sum (Unit) (Bool))) (y1 : Int) : Option (Sum (Unit) (Bool)) := cond (decide (y1 < (List.length a0 : Int))) (obind (geti a0 y1) fun e5 => obind (spec_IsValidName e5.1) fun v10 => cond (!v10) (spec_IsValidDatabase_J2 rec y1 true) (cond (decide (0 < y1)) (obind (geti a0 (IntKind.i64.wrap (y1 - 1))) fun e14 => cond (!Op.bytesLess e14.1 e5.1) (spec_IsValidDatabase_J2 rec y1 true) (obind (spec_IsValidRelation e5.2) fun v17 => cond (!v17) (spec_IsValidDatabase_J2 rec y1 true) (cond (decide (16 < (List.length e5.2.2 : Int))) (spec_IsValidDatabase_J2 rec y1 true) (spec_IsValidDatabase_J2 rec y1 (decide (e5.2.1 < 1)))))) (obind (spec_IsValidRelation e5.2) fun v21 => cond (!v21) (spec_IsValidDatabase_J2 rec y1 true) (cond (decide (16 < (List.length e5.2.2 : Int))) (spec_IsValidDatabase_J2 rec y1 true) (spec_IsValidDatabase_J2 rec y1 (decide (e5.2.1 < 1))))))) (some (.inl ()))
def spec_IsValidDatabase (a0 : List Y106) : Option (Bool) := obind (loopF (spec_IsValidDatabase_B1 a0) fz 0) fun o1 => (match o1 with
  | .inl _ => (some (decide ((List.length a0 : Int) ≤ 6)))
  | .inr r => some r)
theorem spec_IsValidDatabase_s {a0 : List Y106} {r : Bool} (h : spec_IsValidDatabase a0 = some r) : SoundAt Try.prog 99 [.agg [dL c107_dd a0]] (.bool r) := by
 unfold spec_IsValidDatabase at h
 refine st lit99 rfl (rn 1 rfl (ls_seq_k fun K1 hK1 => rn 1 rfl ?_))
 obtain ⟨o1, hl, hr1⟩ := ob_some h
 have kXB1 : (.inl ()) = o1 → Jn K1 [(1, .box [dL c107_dd a0])] := by
  intro h σ' hk
  subst h
  replace h := hr1
  try dsimp only at h
  exact hK1 _ (lh hk rfl (rn 1 rfl (ls_ret ((by cases h; exact ⟨.inl rfl, rfl⟩)))))
 refine ls_rec (fun (y1 : Int) => [(1, .box [dL c107_dd a0]), (3, nI y1)]) _ _ _ _ hl (okr rfl) (fun _ => rfl) ?_
 rintro m y1 N h hN
 unfold spec_IsValidDatabase_B1 at h
 refine ls_seq_k fun K2 hK2 => rn 1 rfl ?_
 rcases cond_some h with ⟨g3, h⟩ | ⟨g3, h⟩
 ·refine qT rfl g3 (ls_skip (hK2 _ (ls_seq_k fun K4 hK4 => ls_blk (rs (sp 3 rfl (?_))))))
  obtain ⟨e5, g6, h⟩ := ob_some h
  refine qI rfl zc107_dd g6 (sp 3 rfl (evn (rdk (by kernel_rfl) fun K7 hK7 => ?_)))
  have kJ2 : ∀ {x8 : Bool}, spec_IsValidDatabase_J2 (loopF (spec_IsValidDatabase_B1 a0) m) y1 x8 = some o1 → Jn K7 [(1, .box [dL c107_dd a0]), (3, nI y1), (55, .bool x8)] := by
   intro x8 h σ' hk
   unfold spec_IsValidDatabase_J2 at h
   refine hK7 _ (lh hk rfl ?_)
   rcases cond_some h with ⟨g9, h⟩ | ⟨g9, h⟩
   ·exact qT rfl g9 (rn 1 rfl (ls_ret ((by cases h; cases hr1; exact ⟨.inl rfl, rfl⟩))))
   ·exact qF rfl g9 (ls_skip (hK4 _ (rg (sp 3 rfl (evn (hN _ _ h (okr rfl)))))))
  refine sd 2 rfl (?_)
  obtain ⟨v10, g11, h⟩ := ob_some h
  refine ed rfl (qC (qs rfl eran) (spec_IsValidName_s g11) (sd 2 rfl (?_)))
  rcases cond_some h with ⟨g12, h⟩ | ⟨g12, h⟩
  ·exact qgd 21 g12 rfl (sd 34 rfl (evdn (kJ2 h _ (okr rfl))))
  ·refine qgd 21 g12 rfl (sd 3 rfl (?_))
   rcases cond_some h with ⟨g13, h⟩ | ⟨g13, h⟩
   ·refine qgd 24 g13 rfl (sd 4 rfl (?_))
    obtain ⟨e14, g15, h⟩ := ob_some h
    refine ed rfl (oGR rfl rfl (qI rfl zc107_dd g15 (sd 8 rfl (?_))))
    rcases cond_some h with ⟨g16, h⟩ | ⟨g16, h⟩
    ·exact qgd 37 g16 rfl (sd 18 rfl (evdn (kJ2 h _ (okr rfl))))
    ·refine qgd 37 g16 rfl (sd 2 rfl (?_))
     obtain ⟨v17, g18, h⟩ := ob_some h
     refine ed rfl (oGR rfl rfl (qC (qa rfl (erg (erc rfl (erc (erD ec31_d _) rfl))) eran) (spec_IsValidRelation_s g18) (sd 3 rfl (?_))))
     rcases cond_some h with ⟨g19, h⟩ | ⟨g19, h⟩
     ·exact qgd 43 g19 rfl (sd 12 rfl (evdn (kJ2 h _ (okr rfl))))
     ·refine qgd 43 g19 rfl (sd 7 rfl (?_))
      rcases cond_some h with ⟨g20, h⟩ | ⟨g20, h⟩
      ·exact qgd 50 g20 rfl (sd 5 rfl (evdn (kJ2 h _ (okr rfl))))
      ·exact qgd 50 g20 rfl (sd 5 rfl (evdn (kJ2 h _ (okr rfl))))
   ·refine qgd 24 g13 rfl (sd 15 rfl (?_))
    obtain ⟨v21, g22, h⟩ := ob_some h
    refine ed rfl (oGR rfl rfl (qC (qa rfl (erg (erc rfl (erc (erD ec31_d _) rfl))) eran) (spec_IsValidRelation_s g22) (sd 3 rfl (?_))))
    rcases cond_some h with ⟨g23, h⟩ | ⟨g23, h⟩
    ·exact qgd 43 g23 rfl (sd 12 rfl (evdn (kJ2 h _ (okr rfl))))
    ·refine qgd 43 g23 rfl (sd 7 rfl (?_))
     rcases cond_some h with ⟨g24, h⟩ | ⟨g24, h⟩
     ·exact qgd 50 g24 rfl (sd 5 rfl (evdn (kJ2 h _ (okr rfl))))
     ·exact qgd 50 g24 rfl (sd 5 rfl (evdn (kJ2 h _ (okr rfl))))
 ·exact qF rfl g3 (ls_exit (kXB1 (Option.some.inj h) _ (okr rfl)))
def spec_LookupRelation_B1 (a0 : List Y106) (a1 : List UInt8) (rec : Int → Option (Sum (Unit) (Y25 × Bool))) (y1 : Int) : Option (Sum (Unit) (Y25 × Bool)) := cond (decide (y1 < (List.length a0 : Int))) (obind (spec_IsValidDatabase a0) fun v4 => cond v4 (obind (geti a0 y1) fun e8 => cond (e8.1 == a1) (obind (geti a0 y1) fun e11 => obind (spec_l5Copy e11.2) fun v13 => some (.inr (v13, true))) (rec (IntKind.i64.wrap (y1 + 1)))) (some (.inl ()))) (some (.inl ()))
def spec_LookupRelation (a0 : List Y106) (a1 : List UInt8) : Option (Y25 × Bool) := obind (loopF (spec_LookupRelation_B1 a0 a1) fz 0) fun o1 => (match o1 with
  | .inl _ => (some ((0, []), false))
  | .inr r => some r)
theorem spec_LookupRelation_s {a0 : List Y106} {a1 : List UInt8} {r : Y25 × Bool} (h : spec_LookupRelation a0 a1 = some r) : SoundAt Try.prog 29 [.agg [dL c107_dd a0], .str a1] (.tup [.agg (c26_oo r.1), .bool r.2]) := by
 unfold spec_LookupRelation at h
 refine st lit29 rfl (rn 1 rfl (ls_seq_k fun K1 hK1 => rn 1 rfl ?_))
 obtain ⟨o1, hl, hr1⟩ := ob_some h
 have kXB1 : (.inl ()) = o1 → Jn K1 [(4, .box [nI 0, oL 31 c31_o []])] := by
  intro h σ' hk
  subst h
  replace h := hr1
  try dsimp only at h
  exact hK1 _ (lh hk rfl (rn 1 rfl (ls_ret ((by cases h; exact ⟨.inl rfl, rfl⟩)))))
 refine ls_rec (fun (y1 : Int) => [(1, .str a1), (2, .box [dL c107_dd a0]), (4, .box [nI 0, oL 31 c31_o []]), (6, nI y1)]) _ _ _ _ hl (okr rfl) (fun _ => rfl) ?_
 rintro m y1 N h hN
 unfold spec_LookupRelation_B1 at h
 refine ls_seq_k fun K2 hK2 => rs (sp 6 rfl (?_))
 rcases cond_some h with ⟨g3, h⟩ | ⟨g3, h⟩
 ·refine qg 12 g3 rfl (sp 1 rfl (?_))
  obtain ⟨v4, g5, h⟩ := ob_some h
  refine oGR rfl rfl (qC (qa rfl (erg (erc (erD ec107_dd _) rfl)) eran) (spec_IsValidDatabase_s g5) (sp 1 rfl (evn ?_)))
  rcases cond_some h with ⟨g6, h⟩ | ⟨g6, h⟩
  ·refine qT rfl g6 (ls_skip (hK2 _ (ls_seq_k fun K7 hK7 => ls_blk (rs (sp 3 rfl (?_))))))
   obtain ⟨e8, g9, h⟩ := ob_some h
   refine qI rfl zc107_dd g9 (sp 4 rfl (evn ?_))
   rcases cond_some h with ⟨g10, h⟩ | ⟨g10, h⟩
   ·refine qT rfl g10 (rs (sp 3 rfl (?_)))
    obtain ⟨e11, g12, h⟩ := ob_some h
    refine qI rfl zc107_dd g12 (sp 2 rfl (?_))
    obtain ⟨v13, g14, h⟩ := ob_some h
    exact qC (qa rfl (erg (erc rfl (erc (erD ec31_d _) rfl))) eran) (spec_l5Copy_s g14) (sp 2 rfl (evn (ls_ret ((by cases h; cases hr1; exact ⟨.inl rfl, rfl⟩)))))
   ·exact qF rfl g10 (ls_skip (hK7 _ (qk [1, 2, 4, 6] rfl (rg (sp 3 rfl (evn (hN _ _ h (okr rfl))))))))
  ·exact qF rfl g6 (ls_exit (kXB1 (Option.some.inj h) _ (okr rfl)))
 ·exact qg 12 g3 rfl (sp 3 rfl (evn (qF rfl rfl (ls_exit (kXB1 (Option.some.inj h) _ (okr rfl))))))
def spec_IsValidFD_J2 (rec : Int → Option (Sum (Unit) (Bool))) (y1 : Int) (x8 : Bool) : Option (Sum (Unit) (Bool)) := cond x8 (some (.inr false)) (rec (IntKind.i64.wrap (y1 + 1)))
def spec_IsValidFD_B1 (a1 : Y43) (v1 : Y25 × Bool) (rec : Int → Option (Sum (Unit) (Bool))) (y1 : Int) : Option (Sum (Unit) (Bool)) := cond (decide (y1 < (List.length a1.2.1 : Int))) (obind (geti a1.2.1 y1) fun e10 => obind (spec_l1In e10 0 (IntKind.i64.wrap (v1.1.1 - 1))) fun v12 => cond (!v12) (spec_IsValidFD_J2 rec y1 true) (cond (decide (0 < y1)) (obind (geti a1.2.1 y1) fun e16 => obind (geti a1.2.1 (IntKind.i64.wrap (y1 - 1))) fun e18 => spec_IsValidFD_J2 rec y1 (decide (e16 ≤ e18))) (spec_IsValidFD_J2 rec y1 false))) (some (.inl ()))
def spec_IsValidFD_J3 (x21 : Bool) : Option (Bool) := some x21
def spec_IsValidFD (a0 : List Y106) (a1 : Y43) : Option (Bool) := obind (spec_LookupRelation a0 a1.1) fun v1 => obind (loopF (spec_IsValidFD_B1 a1 v1) fz 0) fun o1 => (match o1 with
  | .inl _ => (cond v1.2 (obind (spec_l1In a1.2.2 0 (IntKind.i64.wrap (v1.1.1 - 1))) fun v23 => spec_IsValidFD_J3 v23) (spec_IsValidFD_J3 false))
  | .inr r => some r)
theorem spec_IsValidFD_s {a0 : List Y106} {a1 : Y43} {r : Bool} (h : spec_IsValidFD a0 a1 = some r) : SoundAt Try.prog 25 [.agg [dL c107_dd a0], .agg (c44_d a1)] (.bool r) := by
 unfold spec_IsValidFD at h
 refine st lit25 rfl (rn 1 rfl (rs (sp 3 rfl (?_))))
 obtain ⟨v1, g2, h⟩ := ob_some h
 refine qC (qa rfl (erg (erc (erD ec107_dd _) rfl)) (qs rfl eran)) (spec_LookupRelation_s g2) (sp 6 rfl (evn (ls_seq_k fun K3 hK3 => rn 1 rfl ?_)))
 obtain ⟨o1, hl, hr1⟩ := ob_some h
 have kXB1 : (.inl ()) = o1 → Jn K3 [(3, .box [.str a1.1, dL ci64 a1.2.1, nI a1.2.2]), (5, .box [nI v1.1.1, oL 31 c31_o v1.1.2]), (6, .bool v1.2)] := by
  intro h σ' hk
  subst h
  replace h := hr1
  try dsimp only at h
  refine hK3 _ (lh hk rfl (rk fun K20 hK20 => ?_))
  have kJ3 : ∀ {x21 : Bool}, spec_IsValidFD_J3 x21 = some r → Jn K20 [(4, .bool x21)] := by
   intro x21 h σ' hk
   unfold spec_IsValidFD_J3 at h
   exact hK20 _ (lh hk rfl (ls_ret ((by cases h; exact ⟨.inl rfl, rfl⟩))))
  refine sp 2 rfl (?_)
  rcases cond_some h with ⟨g22, h⟩ | ⟨g22, h⟩
  ·refine qg 51 g22 rfl (sp 5 rfl (?_))
   obtain ⟨v23, g24, h⟩ := ob_some h
   exact oGR rfl rfl (qC (qs rfl (qs rfl (qs rfl eran))) (spec_l1In_s g24) (sp 2 rfl (evn (kJ3 h _ (okr rfl)))))
  ·exact qg 51 g22 rfl (sp 8 rfl (evn (kJ3 h _ (okr rfl))))
 refine ls_rec (fun (y1 : Int) => [(3, .box [.str a1.1, dL ci64 a1.2.1, nI a1.2.2]), (5, .box [nI v1.1.1, oL 31 c31_o v1.1.2]), (6, .bool v1.2), (7, nI y1)]) _ _ _ _ hl (okr rfl) (fun _ => rfl) ?_
 rintro m y1 N h hN
 unfold spec_IsValidFD_B1 at h
 refine ls_seq_k fun K4 hK4 => rn 1 rfl ?_
 rcases cond_some h with ⟨g5, h⟩ | ⟨g5, h⟩
 ·refine qT rfl g5 (ls_skip (hK4 _ (ls_seq_k fun K6 hK6 => ls_blk (rdk (by kernel_rfl) fun K7 hK7 => ?_))))
  have kJ2 : ∀ {x8 : Bool}, spec_IsValidFD_J2 (loopF (spec_IsValidFD_B1 a1 v1) m) y1 x8 = some o1 → Jn K7 [(3, .box [.str a1.1, dL ci64 a1.2.1, nI a1.2.2]), (5, .box [nI v1.1.1, oL 31 c31_o v1.1.2]), (6, .bool v1.2), (7, nI y1), (49, .bool x8)] := by
   intro x8 h σ' hk
   unfold spec_IsValidFD_J2 at h
   refine hK7 _ (lh hk rfl ?_)
   rcases cond_some h with ⟨g9, h⟩ | ⟨g9, h⟩
   ·exact qT rfl g9 (rn 1 rfl (ls_ret ((by cases h; cases hr1; exact ⟨.inl rfl, rfl⟩))))
   ·exact qF rfl g9 (ls_skip (hK6 _ (rg (sp 3 rfl (evn (hN _ _ h (okr rfl)))))))
  refine sd 3 rfl (?_)
  obtain ⟨e10, g11, h⟩ := ob_some h
  refine ed rfl (qI rfl zci64 g11 (sd 4 rfl (?_)))
  obtain ⟨v12, g13, h⟩ := ob_some h
  refine ed rfl (qC (qs rfl (qs rfl (qs rfl eran))) (spec_l1In_s g13) (sd 2 rfl (?_)))
  rcases cond_some h with ⟨g14, h⟩ | ⟨g14, h⟩
  ·exact qgd 32 g14 rfl (sd 17 rfl (evdn (kJ2 h _ (okr rfl))))
  ·refine qgd 32 g14 rfl (sd 3 rfl (?_))
   rcases cond_some h with ⟨g15, h⟩ | ⟨g15, h⟩
   ·refine qgd 35 g15 rfl (sd 3 rfl (?_))
    obtain ⟨e16, g17, h⟩ := ob_some h
    refine ed rfl (oGR rfl rfl (qI rfl zci64 g17 (sd 5 rfl (?_))))
    obtain ⟨e18, g19, h⟩ := ob_some h
    exact ed rfl (oGR rfl rfl (qI rfl zci64 g19 (sd 4 rfl (evdn (kJ2 h _ (okr rfl))))))
   ·exact qgd 35 g15 rfl (sd 14 rfl (evdn (kJ2 h _ (okr rfl))))
 ·exact qF rfl g5 (ls_exit (kXB1 (Option.some.inj h) _ (okr rfl)))
def spec_l5Cols_B1 (a0 : List Int) (a1 : List Int) (rec : ((List Int) × Int) → Option ((List Int))) (s : (List Int) × Int) : Option ((List Int)) := match s with
  | (y1, y2) => cond (decide (y2 < (List.length a1 : Int))) (obind (geti a1 y2) fun e6 => obind (geti a0 e6) fun e8 => chk (List.length y1 + List.length [e8] ≤ lim) (rec ((y1 ++ [e8]), (IntKind.i64.wrap (y2 + 1))))) (some y1)
def spec_l5Cols (a0 : List Int) (a1 : List Int) : Option ((List Int)) := obind (loopF (spec_l5Cols_B1 a0 a1) fz (([] : List Int), 0)) fun z2 => some z2
theorem spec_l5Cols_s {a0 : List Int} {a1 : List Int} {r : (List Int)} (h : spec_l5Cols a0 a1 = some r) : SoundAt Try.prog 98 [dL ci64 a0, dL ci64 a1] (oL 3 ci64 r) := by
 unfold spec_l5Cols at h
 refine st lit98 rfl (rn 1 rfl (rs (qBs ci64 [] rfl rfl rfl zci64 (sp 1 rfl (evn (ls_seq_k fun K1 hK1 => rn 1 rfl ?_))))))
 obtain ⟨o1, hl, hr1⟩ := ob_some h
 have kXB1 : ∀ {z2 : List Int}, z2 = o1 → Jn K1 [(5, oL 3 ci64 z2)] := by
  intro z2 h σ' hk
  subst h
  replace h := hr1
  try dsimp only at h
  exact hK1 _ (lh hk rfl (rn 1 rfl (ls_ret ((by cases h; exact ⟨.inl rfl, rfl⟩)))))
 refine ls_rec (fun (s : (List Int) × Int) => match s with | (y1, y2) => [(0, dL ci64 a0), (1, dL ci64 a1), (5, oL 3 ci64 y1), (6, nI y2)]) _ _ _ _ hl (okr rfl) (fun _ => rfl) ?_
 rintro m ⟨y1, y2⟩ N h hN
 unfold spec_l5Cols_B1 at h
 dsimp only at h
 refine ls_seq_k fun K3 hK3 => rn 1 rfl ?_
 rcases cond_some h with ⟨g4, h⟩ | ⟨g4, h⟩
 ·refine qT rfl g4 (ls_skip (hK3 _ (ls_seq_k fun K5 hK5 => ls_blk (rg (sp 4 rfl (?_))))))
  obtain ⟨e6, g7, h⟩ := ob_some h
  refine qI rfl zci64 g7 (sp 1 rfl (?_))
  obtain ⟨e8, g9, h⟩ := ob_some h
  refine qI rfl zci64 g9 (sp 1 rfl (qBs ci64 [e8] rfl rfl rfl zci64 (?_)))
  obtain ⟨g10, h⟩ := chk_some h
  exact qA ci64 y1 [e8] rfl rfl (flat_len zci64 [e8]) rfl g10 (sp 1 rfl (evn (hK5 _ (rg (sp 3 rfl (evn (hN _ _ h (okr rfl))))))))
 ·exact qF rfl g4 (ls_exit (kXB1 (Option.some.inj h) _ (okr rfl)))
def spec_FDViolation_J3 (rec : Int → Option (Sum (Unit) ((List Int)))) (y2 : Int) (y4 : Int) (x14 : Bool) : Option (Sum (Unit) ((List Int))) := cond x14 (some (.inr [y4, y2])) (rec (IntKind.i64.wrap (y4 + 1)))
def spec_FDViolation_B2 (a1 : Y43) (v1 : Y25 × Bool) (y2 : Int) (rec : Int → Option (Sum (Unit) ((List Int)))) (y4 : Int) : Option (Sum (Unit) ((List Int))) := cond (decide (y4 < y2)) (obind (geti v1.1.2 y4) fun e16 => obind (spec_l5Cols e16 a1.2.1) fun v18 => obind (geti v1.1.2 y2) fun e20 => obind (spec_l5Cols e20 a1.2.1) fun v22 => obind (spec_CompareRows v18 v22) fun v24 => cond (v24 == 0) (obind (geti v1.1.2 y4) fun e27 => obind (geti e27 a1.2.2) fun e29 => obind (geti v1.1.2 y2) fun e31 => obind (geti e31 a1.2.2) fun e33 => spec_FDViolation_J3 rec y2 y4 (e29 != e33)) (spec_FDViolation_J3 rec y2 y4 false)) (some (.inl ()))
def spec_FDViolation_B1 (a0 : List Y106) (a1 : Y43) (v1 : Y25 × Bool) (rec : Int → Option (Sum (Unit) ((List Int)))) (y2 : Int) : Option (Sum (Unit) ((List Int))) := cond (decide (y2 < (List.length v1.1.2 : Int))) (obind (spec_IsValidFD a0 a1) fun v6 => cond v6 (obind (loopF (spec_FDViolation_B2 a1 v1 y2) fz 0) fun o2 => (match o2 with
  | .inl _ => (rec (IntKind.i64.wrap (y2 + 1)))
  | .inr r => some (.inr r))) (some (.inl ()))) (some (.inl ()))
def spec_FDViolation (a0 : List Y106) (a1 : Y43) : Option ((List Int)) := obind (spec_LookupRelation a0 a1.1) fun v1 => obind (loopF (spec_FDViolation_B1 a0 a1 v1) fz 0) fun o1 => (match o1 with
  | .inl _ => (some ([] : List Int))
  | .inr r => some r)
theorem spec_FDViolation_s {a0 : List Y106} {a1 : Y43} {r : (List Int)} (h : spec_FDViolation a0 a1 = some r) : SoundAt Try.prog 28 [.agg [dL c107_dd a0], .agg (c44_d a1)] (oL 3 ci64 r) := by
 unfold spec_FDViolation at h
 refine st lit28 rfl (rn 1 rfl (rs (sp 3 rfl (?_))))
 obtain ⟨v1, g2, h⟩ := ob_some h
 refine qC (qa rfl (erg (erc (erD ec107_dd _) rfl)) (qs rfl eran)) (spec_LookupRelation_s g2) (sp 6 rfl (evn (ls_seq_k fun K3 hK3 => rn 1 rfl ?_)))
 obtain ⟨o1, hl, hr1⟩ := ob_some h
 have kXB1 : (.inl ()) = o1 → Jn K3 [] := by
  intro h σ' hk
  subst h
  replace h := hr1
  try dsimp only at h
  exact hK3 _ (lh hk rfl (rs (qBs ci64 [] rfl rfl rfl zci64 (sp 1 rfl (evn (ls_ret ((by cases h; exact ⟨.inl rfl, rfl⟩))))))))
 refine ls_rec (fun (y2 : Int) => [(2, .box [dL c107_dd a0]), (3, .box [.str a1.1, dL ci64 a1.2.1, nI a1.2.2]), (5, .box [nI v1.1.1, oL 31 c31_o v1.1.2]), (7, nI y2)]) _ _ _ _ hl (okr rfl) (fun _ => rfl) ?_
 rintro m y2 N h hN
 unfold spec_FDViolation_B1 at h
 refine ls_seq_k fun K4 hK4 => rs (sp 6 rfl (?_))
 rcases cond_some h with ⟨g5, h⟩ | ⟨g5, h⟩
 ·refine qg 21 g5 rfl (sp 2 rfl (?_))
  obtain ⟨v6, g7, h⟩ := ob_some h
  refine oGR rfl rfl (qC (qa rfl (erg (erc (erD ec107_dd _) rfl)) (qa rfl (erg (erc rfl (erc (erD eci64 _) (erc rfl rfl)))) eran)) (spec_IsValidFD_s g7) (sp 1 rfl (evn ?_)))
  rcases cond_some h with ⟨g8, h⟩ | ⟨g8, h⟩
  ·refine qT rfl g8 (ls_skip (hK4 _ (ls_seq_k fun K9 hK9 => ls_blk (rn 1 rfl ?_))))
   obtain ⟨o2, hl, hr2⟩ := ob_some h
   have kXB2 : (.inl ()) = o2 → Jn K9 [(2, .box [dL c107_dd a0]), (3, .box [.str a1.1, dL ci64 a1.2.1, nI a1.2.2]), (5, .box [nI v1.1.1, oL 31 c31_o v1.1.2]), (7, nI y2)] := by
    intro h σ' hk
    subst h
    replace h := hr2
    try dsimp only at h
    exact hK9 _ (lh hk rfl (rg (sp 3 rfl (evn (hN _ _ h (okr rfl))))))
   refine ls_rec (fun (y4 : Int) => [(2, .box [dL c107_dd a0]), (3, .box [.str a1.1, dL ci64 a1.2.1, nI a1.2.2]), (5, .box [nI v1.1.1, oL 31 c31_o v1.1.2]), (7, nI y2), (8, nI y4)]) _ _ _ _ hl (okr rfl) (fun _ => rfl) ?_
   rintro m y4 N h hN
   unfold spec_FDViolation_B2 at h
   refine ls_seq_k fun K10 hK10 => rn 1 rfl ?_
   rcases cond_some h with ⟨g11, h⟩ | ⟨g11, h⟩
   ·refine qT rfl g11 (ls_skip (hK10 _ (ls_seq_k fun K12 hK12 => ls_blk (rdk (by kernel_rfl) fun K13 hK13 => ?_))))
    have kJ3 : ∀ {x14 : Bool}, spec_FDViolation_J3 (loopF (spec_FDViolation_B2 a1 v1 y2) m) y2 y4 x14 = some o2 → Jn K13 [(2, .box [dL c107_dd a0]), (3, .box [.str a1.1, dL ci64 a1.2.1, nI a1.2.2]), (5, .box [nI v1.1.1, oL 31 c31_o v1.1.2]), (7, nI y2), (8, nI y4), (71, .bool x14)] := by
     intro x14 h σ' hk
     unfold spec_FDViolation_J3 at h
     refine hK13 _ (lh hk rfl ?_)
     rcases cond_some h with ⟨g15, h⟩ | ⟨g15, h⟩
     ·exact qT rfl g15 (rs (sp 2 rfl (qBs ci64 [y4, y2] rfl rfl rfl zci64 (sp 1 rfl (evn (ls_ret ((by cases h; cases hr2; cases hr1; exact ⟨.inl rfl, rfl⟩))))))))
     ·exact qF rfl g15 (ls_skip (hK12 _ (rg (sp 3 rfl (evn (hN _ _ h (okr rfl)))))))
    refine sd 3 rfl (?_)
    obtain ⟨e16, g17, h⟩ := ob_some h
    refine ed rfl (qI rfl zc31_o g17 (sd 3 rfl (?_)))
    obtain ⟨v18, g19, h⟩ := ob_some h
    refine ed rfl (qC (qa rfl (erD eci64 _) (qa rfl (erD eci64 _) eran)) (spec_l5Cols_s g19) (sd 3 rfl (?_)))
    obtain ⟨e20, g21, h⟩ := ob_some h
    refine ed rfl (qI rfl zc31_o g21 (sd 3 rfl (?_)))
    obtain ⟨v22, g23, h⟩ := ob_some h
    refine ed rfl (qC (qa rfl (erD eci64 _) (qa rfl (erD eci64 _) eran)) (spec_l5Cols_s g23) (?_))
    obtain ⟨v24, g25, h⟩ := ob_some h
    refine ed rfl (qC (qa rfl (erO eci64 _) (qa rfl (erO eci64 _) eran)) (spec_CompareRows_s g25) (sd 2 rfl (?_)))
    rcases cond_some h with ⟨g26, h⟩ | ⟨g26, h⟩
    ·refine qgd 51 g26 rfl (sd 3 rfl (?_))
     obtain ⟨e27, g28, h⟩ := ob_some h
     refine ed rfl (oGR rfl rfl (qI rfl zc31_o g28 (sd 3 rfl (?_))))
     obtain ⟨e29, g30, h⟩ := ob_some h
     refine ed rfl (oGR rfl rfl (qI rfl zci64 g30 (sd 4 rfl (?_))))
     obtain ⟨e31, g32, h⟩ := ob_some h
     refine ed rfl (oGR rfl rfl (qI rfl zc31_o g32 (sd 3 rfl (?_))))
     obtain ⟨e33, g34, h⟩ := ob_some h
     exact ed rfl (oGR rfl rfl (qI rfl zci64 g34 (sd 3 rfl (evdn (kJ3 h _ (okr rfl))))))
    ·exact qgd 51 g26 rfl (sd 20 rfl (evdn (kJ3 h _ (okr rfl))))
   ·exact qF rfl g11 (ls_exit (kXB2 (Option.some.inj h) _ (okr rfl)))
  ·exact qF rfl g8 (ls_exit (kXB1 (Option.some.inj h) _ trivial))
 ·exact qg 21 g5 rfl (sp 4 rfl (evn (qk [2, 3, 5, 7, 25] rfl (qF rfl rfl (ls_exit (kXB1 (Option.some.inj h) _ trivial))))))
def spec_FDHolds_J1 (x2 : Bool) : Option (Bool) := some x2
def spec_FDHolds (a0 : List Y106) (a1 : Y43) : Option (Bool) := obind (spec_IsValidFD a0 a1) fun v3 => cond v3 (obind (spec_FDViolation a0 a1) fun v6 => spec_FDHolds_J1 ((List.length v6 : Int) == 0)) (spec_FDHolds_J1 false)
theorem spec_FDHolds_s {a0 : List Y106} {a1 : Y43} {r : Bool} (h : spec_FDHolds a0 a1 = some r) : SoundAt Try.prog 26 [.agg [dL c107_dd a0], .agg (c44_d a1)] (.bool r) := by
 unfold spec_FDHolds at h
 refine st lit26 rfl (rn 1 rfl (rk fun K1 hK1 => ?_))
 have kJ1 : ∀ {x2 : Bool}, spec_FDHolds_J1 x2 = some r → Jn K1 [(4, .bool x2)] := by
  intro x2 h σ' hk
  unfold spec_FDHolds_J1 at h
  exact hK1 _ (lh hk rfl (ls_ret ((by cases h; exact ⟨.inl rfl, rfl⟩))))
 refine sp 2 rfl (?_)
 obtain ⟨v3, g4, h⟩ := ob_some h
 refine qC (qa rfl (erg (erc (erD ec107_dd _) rfl)) (qa rfl (erg (erc rfl (erc (erD eci64 _) (erc rfl rfl)))) eran)) (spec_IsValidFD_s g4) (sp 1 rfl (?_))
 rcases cond_some h with ⟨g5, h⟩ | ⟨g5, h⟩
 ·refine qg 8 g5 rfl (sp 2 rfl (?_))
  obtain ⟨v6, g7, h⟩ := ob_some h
  exact oGR rfl rfl (qC (qa rfl (erg (erc (erD ec107_dd _) rfl)) (qa rfl (erg (erc rfl (erc (erD eci64 _) (erc rfl rfl)))) eran)) (spec_FDViolation_s g7) (sp 4 rfl (evn (kJ1 h _ (okr rfl)))))
 ·exact qg 8 g5 rfl (sp 7 rfl (evn (kJ1 h _ (okr rfl))))
def laws_sameInts_B1 (a0 : List Int) (a1 : List Int) (rec : Int → Option (Sum (Unit) (Bool))) (y1 : Int) : Option (Sum (Unit) (Bool)) := cond (decide (y1 < (List.length a0 : Int))) (obind (geti a0 y1) fun e7 => obind (geti a1 y1) fun e9 => cond (e7 != e9) (some (.inr false)) (rec (IntKind.i64.wrap (y1 + 1)))) (some (.inl ()))
def laws_sameInts (a0 : List Int) (a1 : List Int) : Option (Bool) := cond ((List.length a0 : Int) != (List.length a1 : Int)) (some false) (obind (loopF (laws_sameInts_B1 a0 a1) fz 0) fun o1 => (match o1 with
  | .inl _ => (some true)
  | .inr r => some r))
theorem laws_sameInts_s {a0 : List Int} {a1 : List Int} {r : Bool} (h : laws_sameInts a0 a1 = some r) : SoundAt Try.prog 27 [dL ci64 a0, dL ci64 a1] (.bool r) := by
 unfold laws_sameInts at h
 refine st lit27 rfl (rn 1 rfl (ls_seq_k fun K1 hK1 => rn 1 rfl ?_))
 rcases cond_some h with ⟨g2, h⟩ | ⟨g2, h⟩
 ·exact qT rfl g2 (rn 1 rfl (ls_ret ((by cases h; exact ⟨.inl rfl, rfl⟩))))
 ·refine qF rfl g2 (ls_skip (hK1 _ (ls_seq_k fun K3 hK3 => rn 1 rfl ?_)))
  obtain ⟨o1, hl, hr1⟩ := ob_some h
  have kXB1 : (.inl ()) = o1 → Jn K3 [] := by
   intro h σ' hk
   subst h
   replace h := hr1
   try dsimp only at h
   exact hK3 _ (lh hk rfl (rn 1 rfl (ls_ret ((by cases h; exact ⟨.inl rfl, rfl⟩)))))
  refine ls_rec (fun (y1 : Int) => [(0, dL ci64 a0), (1, dL ci64 a1), (5, nI y1)]) _ _ _ _ hl (okr rfl) (fun _ => rfl) ?_
  rintro m y1 N h hN
  unfold laws_sameInts_B1 at h
  refine ls_seq_k fun K4 hK4 => rn 1 rfl ?_
  rcases cond_some h with ⟨g5, h⟩ | ⟨g5, h⟩
  ·refine qT rfl g5 (ls_skip (hK4 _ (ls_seq_k fun K6 hK6 => ls_blk (rd (by kernel_rfl) (sd 2 rfl (?_))))))
   obtain ⟨e7, g8, h⟩ := ob_some h
   refine ed rfl (qI rfl zci64 g8 (sd 3 rfl (?_)))
   obtain ⟨e9, g10, h⟩ := ob_some h
   refine ed rfl (qI rfl zci64 g10 (sd 2 rfl (evdn ?_)))
   rcases cond_some h with ⟨g11, h⟩ | ⟨g11, h⟩
   ·exact qT rfl g11 (rn 1 rfl (ls_ret ((by cases h; cases hr1; exact ⟨.inl rfl, rfl⟩))))
   ·exact qF rfl g11 (ls_skip (hK6 _ (rg (sp 3 rfl (evn (hN _ _ h (okr rfl)))))))
  ·exact qF rfl g5 (ls_exit (kXB1 (Option.some.inj h) _ trivial))
def laws_FnDependencyViolation_J1 (x33 : Bool) : Option (Bool) := some x33
def laws_FnDependencyViolation (a0 : List Int) : Option (Bool) := obind (laws_big a0) fun v2 => cond v2 (some true) (obind (spec_DrawFDViolation a0) fun v5 => obind (impl_FDViolation v5.1 v5.2) fun v7 => obind (impl_FDHolds v5.1 v5.2) fun v9 => obind (impl_IsValidFD v5.1 v5.2) fun v12 => obind (spec_IsValidFD v5.1 v5.2) fun v14 => cond (!(v12 == v14)) (some false) (obind (spec_FDHolds v5.1 v5.2) fun v17 => cond (!(v9 == v17)) (some false) (obind (spec_FDViolation v5.1 v5.2) fun v20 => obind (laws_sameInts v7 v20) fun v22 => cond (!v22) (some false) (obind (spec_IsValidFD v5.1 v5.2) fun v26 => cond (!v26) (some ((List.length v7 : Int) == 0)) (cond v9 (some ((List.length v7 : Int) == 0)) (obind (spec_LookupRelation v5.1 v5.2.1) fun v30 => cond ((List.length v7 : Int) == 2) (obind (geti v7 0) fun e35 => obind (geti v7 1) fun e37 => cond (decide (e35 < e37)) (obind (geti v7 0) fun e40 => cond (decide (0 ≤ e40)) (obind (geti v7 1) fun e43 => cond (decide (e43 < (List.length v30.1.2 : Int))) (obind (geti v7 0) fun e46 => obind (geti v30.1.2 e46) fun e48 => obind (geti e48 v5.2.2.2) fun e50 => obind (geti v7 1) fun e52 => obind (geti v30.1.2 e52) fun e54 => obind (geti e54 v5.2.2.2) fun e56 => laws_FnDependencyViolation_J1 (e50 != e56)) (laws_FnDependencyViolation_J1 false)) (laws_FnDependencyViolation_J1 false)) (laws_FnDependencyViolation_J1 false)) (laws_FnDependencyViolation_J1 false)))))))
theorem laws_FnDependencyViolation_s {a0 : List Int} {r : Bool} (h : laws_FnDependencyViolation a0 = some r) : SoundAt Try.prog 4 [dL cu8 a0] (.bool r) := by
 unfold laws_FnDependencyViolation at h
 refine sta lit4 rfl (aall (ableD (fun _ => rfl) _) rfl) (mvv (argD (fun _ => rfl) _) rfl) rfl (rn 1 rfl (ls_seq_k fun K1 hK1 => rs (sp 1 rfl (?_))))
 obtain ⟨v2, g3, h⟩ := ob_some h
 refine qC (qa rfl (erG ecu8 _) eran) (laws_big_s g3) (evn ?_)
 rcases cond_some h with ⟨g4, h⟩ | ⟨g4, h⟩
 ·exact qT rfl g4 (rn 1 rfl (ls_ret ((by cases h; exact ⟨.inl rfl, rfl⟩))))
 ·refine qF rfl g4 (ls_skip (hK1 _ (rs (sp 1 rfl (?_)))))
  obtain ⟨v5, g6, h⟩ := ob_some h
  refine qCk rfl rfl (spec_DrawFDViolation_s g6) (sp 7 rfl (evn (rs (sp 2 rfl (?_)))))
  obtain ⟨v7, g8, h⟩ := ob_some h
  refine qC (qa rfl (erg (erc (erD ec107_oo _) rfl)) (qa rfl (erg (erc rfl (erc (erD eci64 _) (erc rfl rfl)))) eran)) (impl_FDViolation_s g8) (sp 1 rfl (evn (rs (sp 2 rfl (?_)))))
  obtain ⟨v9, g10, h⟩ := ob_some h
  refine qC (qa rfl (erg (erc (erD ec107_oo _) rfl)) (qa rfl (erg (erc rfl (erc (erD eci64 _) (erc rfl rfl)))) eran)) (impl_FDHolds_s g10) (sp 1 rfl (evn (qk [3, 4, 5, 6] rfl (ls_seq_k fun K11 hK11 => rd (by kernel_rfl) (sd 2 rfl (?_))))))
  obtain ⟨v12, g13, h⟩ := ob_some h
  refine ed rfl (qC (qa rfl (erg (erc (erD ec107_oo _) rfl)) (qa rfl (erg (erc rfl (erc (erD eci64 _) (erc rfl rfl)))) eran)) (impl_IsValidFD_s g13) (sd 2 rfl (?_)))
  obtain ⟨v14, g15, h⟩ := ob_some h
  refine ed rfl (qC (qa rfl (erg (erc (erD ec107_oo _) rfl)) (qa rfl (erg (erc rfl (erc (erD eci64 _) (erc rfl rfl)))) eran)) (spec_IsValidFD_s g15) (sd 2 rfl (?_)))
  rcases cond_some h with ⟨g16, h⟩ | ⟨g16, h⟩
  ·exact qgd 29 g16 rfl (sd 14 rfl (evdn (qT rfl rfl (rn 1 rfl (ls_ret ((by cases h; exact ⟨.inl rfl, rfl⟩)))))))
  ·refine qgd 29 g16 rfl (sd 3 rfl (?_))
   obtain ⟨v17, g18, h⟩ := ob_some h
   refine ed rfl (oGR rfl rfl (qC (qa rfl (erg (erc (erD ec107_oo _) rfl)) (qa rfl (erg (erc rfl (erc (erD eci64 _) (erc rfl rfl)))) eran)) (spec_FDHolds_s g18) (sd 3 rfl (?_))))
   rcases cond_some h with ⟨g19, h⟩ | ⟨g19, h⟩
   ·exact qgd 36 g19 rfl (sd 7 rfl (evdn (qk [3, 4, 5, 6, 43] rfl (qT rfl rfl (rn 1 rfl (ls_ret ((by cases h; exact ⟨.inl rfl, rfl⟩))))))))
   ·refine qgd 36 g19 rfl (sd 3 rfl (?_))
    obtain ⟨v20, g21, h⟩ := ob_some h
    refine ed rfl (oGR rfl rfl (qC (qa rfl (erg (erc (erD ec107_oo _) rfl)) (qa rfl (erg (erc rfl (erc (erD eci64 _) (erc rfl rfl)))) eran)) (spec_FDViolation_s g21) (?_)))
    obtain ⟨v22, g23, h⟩ := ob_some h
    refine ed rfl (oGR rfl rfl (qC (qa rfl (erD eci64 _) (qa rfl (erO eci64 _) eran)) (laws_sameInts_s g23) (sd 2 rfl (evdn ?_))))
    rcases cond_some h with ⟨g24, h⟩ | ⟨g24, h⟩
    ·exact qT rfl g24 (rn 1 rfl (ls_ret ((by cases h; exact ⟨.inl rfl, rfl⟩))))
    ·refine qF rfl g24 (ls_skip (hK11 _ (ls_seq_k fun K25 hK25 => rs (sp 2 rfl (?_)))))
     obtain ⟨v26, g27, h⟩ := ob_some h
     refine qC (qa rfl (erg (erc (erD ec107_oo _) rfl)) (qa rfl (erg (erc rfl (erc (erD eci64 _) (erc rfl rfl)))) eran)) (spec_IsValidFD_s g27) (sp 2 rfl (?_))
     rcases cond_some h with ⟨g28, h⟩ | ⟨g28, h⟩
     ·exact qg 48 g28 rfl (sp 2 rfl (evn (qT rfl rfl (rn 1 rfl (qk [2] rfl (ls_ret ((by cases h; exact ⟨.inl rfl, rfl⟩))))))))
     ·refine qg 48 g28 rfl (sp 2 rfl (evn ?_))
      rcases cond_some h with ⟨g29, h⟩ | ⟨g29, h⟩
      ·exact qT rfl g29 (rn 1 rfl (ls_ret ((by cases h; exact ⟨.inl rfl, rfl⟩))))
      ·refine qF rfl g29 (ls_skip (hK25 _ (rs (sp 3 rfl (?_)))))
       obtain ⟨v30, g31, h⟩ := ob_some h
       refine qC (qa rfl (erg (erc (erD ec107_oo _) rfl)) (qs rfl eran)) (spec_LookupRelation_s g31) (sp 6 rfl (evn (rdk (by kernel_rfl) fun K32 hK32 => ?_)))
       have kJ1 : ∀ {x33 : Bool}, laws_FnDependencyViolation_J1 x33 = some r → Jn K32 [(2, .bool x33)] := by
        intro x33 h σ' hk
        unfold laws_FnDependencyViolation_J1 at h
        exact hK32 _ (lh hk rfl (ls_ret ((by cases h; exact ⟨.inl rfl, rfl⟩))))
       refine sd 4 rfl (?_)
       rcases cond_some h with ⟨g34, h⟩ | ⟨g34, h⟩
       ·refine qgd 64 g34 rfl (sd 1 rfl (?_))
        obtain ⟨e35, g36, h⟩ := ob_some h
        refine ed rfl (oGR rfl rfl (qI rfl zci64 g36 (sd 2 rfl (?_))))
        obtain ⟨e37, g38, h⟩ := ob_some h
        refine ed rfl (oGR rfl rfl (qI rfl zci64 g38 (sd 4 rfl (?_))))
        rcases cond_some h with ⟨g39, h⟩ | ⟨g39, h⟩
        ·refine qgd 73 g39 rfl (sd 1 rfl (?_))
         obtain ⟨e40, g41, h⟩ := ob_some h
         refine ed rfl (oGR rfl rfl (qI rfl zci64 g41 (sd 4 rfl (?_))))
         rcases cond_some h with ⟨g42, h⟩ | ⟨g42, h⟩
         ·refine qgd 79 g42 rfl (sd 1 rfl (?_))
          obtain ⟨e43, g44, h⟩ := ob_some h
          refine ed rfl (oGR rfl rfl (qI rfl zci64 g44 (sd 7 rfl (?_))))
          rcases cond_some h with ⟨g45, h⟩ | ⟨g45, h⟩
          ·refine qgd 88 g45 rfl (sd 3 rfl (?_))
           obtain ⟨e46, g47, h⟩ := ob_some h
           refine ed rfl (oGR rfl rfl (qI rfl zci64 g47 (sd 1 rfl (?_))))
           obtain ⟨e48, g49, h⟩ := ob_some h
           refine ed rfl (oGR rfl rfl (qI rfl zc31_o g49 (sd 3 rfl (?_))))
           obtain ⟨e50, g51, h⟩ := ob_some h
           refine ed rfl (oGR rfl rfl (qI rfl zci64 g51 (sd 4 rfl (?_))))
           obtain ⟨e52, g53, h⟩ := ob_some h
           refine ed rfl (oGR rfl rfl (qI rfl zci64 g53 (sd 1 rfl (?_))))
           obtain ⟨e54, g55, h⟩ := ob_some h
           refine ed rfl (oGR rfl rfl (qI rfl zc31_o g55 (sd 3 rfl (?_))))
           obtain ⟨e56, g57, h⟩ := ob_some h
           exact ed rfl (oGR rfl rfl (qI rfl zci64 g57 (sd 4 rfl (evdn (kJ1 h _ (okr rfl))))))
          ·exact qgd 88 g45 rfl (sd 25 rfl (evdn (kJ1 h _ (okr rfl))))
         ·exact qgd 79 g42 rfl (sd 34 rfl (evdn (kJ1 h _ (okr rfl))))
        ·exact qgd 73 g39 rfl (sd 40 rfl (evdn (kJ1 h _ (okr rfl))))
       ·exact qgd 64 g34 rfl (sd 49 rfl (evdn (kJ1 h _ (okr rfl))))
end Go.Proofs.Ytmioifafgbjjhaa
