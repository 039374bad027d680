/-
  Functions of the program as typed functions, printed by gen.py, and that the program's functions do what they say. No conditions.
-/
import Derived.Test.YtmioifafgbjjhaaKb
import Derived.Test.YtmioifafgbjjhaaLit2CS1
namespace Go.Proofs.Ytmioifafgbjjhaa
open Go.RowKit
set_option linter.unusedVariables false
set_option maxRecDepth 100000
set_option maxHeartbeats 1000000
def laws_big (a0 : List Int) : Option (Bool) := some (decide (1048576 < (List.length a0 : Int)))
theorem laws_big_s {a0 : List Int} {r : Bool} (h : laws_big a0 = some r) : SoundAt Try.prog 11 [dL cu8 a0] (.bool r) := by
 unfold laws_big at h
 exact st lit11 rfl (rn 2 rfl (ls_ret ((by cases h; exact ⟨.inl rfl, rfl⟩))))
abbrev Y202 := (List Int) × Int × Int
def spec_l1New_B1 (a0 : List Int) (rec : (Int × Int) → Option (Int)) (s : Int × Int) : Option (Int) := match s with
  | (y1, y2) => cond (decide (y2 < (List.length a0 : Int))) (cond (decide (y2 < 4000)) (obind (geti a0 y2) fun e7 => rec ((andI (IntKind.i64.wrap ((IntKind.i64.wrap ((IntKind.i64.wrap (y1 * 131)) + (IntKind.i64.wrap e7))) + 7)) 1073741823), (IntKind.i64.wrap (y2 + 1)))) (some y1)) (some y1)
def spec_l1New (a0 : List Int) : Option (Y202) := obind (loopF (spec_l1New_B1 a0) fz ((IntKind.i64.wrap (10101 + (List.length a0 : Int))), 0)) fun z2 => some (a0, 0, z2)
theorem spec_l1New_s {a0 : List Int} {r : Y202} (h : spec_l1New a0 = some r) : NewAt Try.prog 81 [aL cu8 a0] [aL cu8 r.1, nI r.2.1, nI r.2.2] := by
 unfold spec_l1New at h
 refine stn lit81 rfl rfl (rn 2 rfl (ls_seq_k fun K1 hK1 => rn 1 rfl ?_))
 obtain ⟨o1, hl, hr1⟩ := ob_some h
 have kXB1 : ∀ {z2 : Int}, z2 = o1 → Jn K1 [(0, aL cu8 a0), (3, nI z2)] := by
  intro z2 h σ' hk
  subst h
  replace h := hr1
  try dsimp only at h
  exact hK1 _ (lh hk rfl (rn 1 rfl (ls_ret ((by cases h; exact ⟨.inl rfl, 31, rfl, rfl⟩)))))
 refine ls_rec (fun (s : Int × Int) => match s with | (y1, y2) => [(0, aL cu8 a0), (3, nI y1), (4, nI y2)]) _ _ _ _ hl (okr rfl) (fun _ => rfl) ?_
 rintro m ⟨y1, y2⟩ N h hN
 unfold spec_l1New_B1 at h
 dsimp only at h
 refine ls_seq_k fun K3 hK3 => rs (sp 5 rfl (?_))
 rcases cond_some h with ⟨g4, h⟩ | ⟨g4, h⟩
 ·refine qg 12 g4 rfl (sp 3 rfl (evn ?_))
  rcases cond_some h with ⟨g5, h⟩ | ⟨g5, h⟩
  ·refine qT rfl g5 (ls_skip (hK3 _ (ls_seq_k fun K6 hK6 => ls_blk (rg (sp 4 rfl (?_))))))
   obtain ⟨e7, g8, h⟩ := ob_some h
   exact qI rfl zcu8 g8 (sp 6 rfl (evn (hK6 _ (rg (sp 3 rfl (evn (hN _ _ h (okr rfl))))))))
  ·exact qF rfl g5 (ls_exit (kXB1 (Option.some.inj h) _ (okr rfl)))
 ·exact qg 12 g4 rfl (sp 3 rfl (evn (qF rfl rfl (ls_exit (kXB1 (Option.some.inj h) _ (okr rfl))))))
def spec_l1Byte_J1 (a0 : Y202) (x2 : Int) (x3 : Int) : Option (Int × Y202) := some (x3, (a0.1, x2, IntKind.i64.wrap ((IntKind.i64.wrap (a0.2.2 * 6364136223846793005)) + 1442695040888963407)))
def spec_l1Byte (a0 : Y202) : Option (Int × Y202) := cond (decide (a0.2.1 < (List.length a0.1 : Int))) (obind (geti a0.1 a0.2.1) fun e5 => spec_l1Byte_J1 a0 (IntKind.i64.wrap (a0.2.1 + 1)) (andI (IntKind.i64.wrap ((andI (xorI (shrI (IntKind.i64.wrap ((IntKind.i64.wrap (a0.2.2 * 6364136223846793005)) + 1442695040888963407)) 33) (shrI (IntKind.i64.wrap ((IntKind.i64.wrap (a0.2.2 * 6364136223846793005)) + 1442695040888963407)) 45)) 255) + (IntKind.i64.wrap e5))) 255)) (spec_l1Byte_J1 a0 a0.2.1 (andI (xorI (shrI (IntKind.i64.wrap ((IntKind.i64.wrap (a0.2.2 * 6364136223846793005)) + 1442695040888963407)) 33) (shrI (IntKind.i64.wrap ((IntKind.i64.wrap (a0.2.2 * 6364136223846793005)) + 1442695040888963407)) 45)) 255))
theorem spec_l1Byte_s {a0 : Y202} {r : Int × Y202} (h : spec_l1Byte a0 = some r) : PtrAt Try.prog 171 [aL cu8 a0.1, nI a0.2.1, nI a0.2.2] [] [aL cu8 r.2.1, nI r.2.2.1, nI r.2.2.2] (nI r.1) := by
 unfold spec_l1Byte at h
 refine stp lit171 rfl (rn 2 rfl (rd (by kernel_rfl) (sd 13 rfl (evdn (ls_seq_k fun K1 hK1 => rd (by kernel_rfl) (sd 10 rfl (evdn ?_)))))))
 have kJ1 : ∀ {x2 : Int} {x3 : Int}, spec_l1Byte_J1 a0 x2 x3 = some r → Jn K1 [(0, .box [aL cu8 a0.1, nI x2, nI (IntKind.i64.wrap ((IntKind.i64.wrap (a0.2.2 * 6364136223846793005)) + 1442695040888963407))]), (3, nI x3)] := by
  intro x2 x3 h σ' hk
  unfold spec_l1Byte_J1 at h
  exact hK1 _ (lh hk rfl (rn 1 rfl (ls_ret ((by cases h; exact ⟨.inl rfl, rfl, rfl⟩)))))
 rcases cond_some h with ⟨g4, h⟩ | ⟨g4, h⟩
 ·refine qT rfl g4 (rd (by kernel_rfl) (sd 9 rfl (?_)))
  obtain ⟨e5, g6, h⟩ := ob_some h
  exact ed rfl (qI rfl zcu8 g6 (sd 5 rfl (evdn (rg (sp 9 rfl (evn (kJ1 h _ (okr rfl))))))))
 ·exact qF rfl g4 (ls_skip (kJ1 h _ (okr rfl)))
def c203_d (x : Y202) : List V := [dL cu8 x.1, nI x.2.1, nI x.2.2]
theorem zc203_d (x : Y202) : (c203_d x).length = 3 := rfl
theorem ec203_d (x : Y202) : erL (c203_d x) = c203_d x := (erc (erD ecu8 _) (erc rfl (erc rfl rfl)))
def c203_a (x : Y202) : List V := [aL cu8 x.1, nI x.2.1, nI x.2.2]
theorem zc203_a (x : Y202) : (c203_a x).length = 3 := rfl
theorem ec203_a (x : Y202) : erL (c203_a x) = c203_d x := (erc (erG ecu8 _) (erc rfl (erc rfl rfl)))
def spec_l1Below (a0 : Y202) (a1 : Int) : Option (Int × Y202) := cond (decide (a1 ≤ 0)) (some (0, a0)) (cond (decide (a1 ≤ 256)) (obind (spec_l1Byte a0) fun v5 => chk (a1 ≠ 0) (some (Int.tmod v5.1 a1, v5.2))) (obind (spec_l1Byte a0) fun v8 => obind (spec_l1Byte v8.2) fun v10 => obind (spec_l1Byte v10.2) fun v12 => obind (spec_l1Byte v12.2) fun v14 => chk (a1 ≠ 0) (some (Int.tmod (IntKind.i64.wrap ((IntKind.i64.wrap ((IntKind.i64.wrap ((IntKind.i64.wrap (v8.1 * 16777216)) + (IntKind.i64.wrap (v10.1 * 65536)))) + (IntKind.i64.wrap (v12.1 * 256)))) + v14.1)) a1, v14.2))))
theorem spec_l1Below_s {a0 : Y202} {a1 : Int} {r : Int × Y202} (h : spec_l1Below a0 a1 = some r) : PtrAt Try.prog 84 [aL cu8 a0.1, nI a0.2.1, nI a0.2.2] [nI a1] [aL cu8 r.2.1, nI r.2.2.1, nI r.2.2.2] (nI r.1) := by
 unfold spec_l1Below at h
 refine stp lit84 rfl (rn 1 rfl (ls_seq_k fun K1 hK1 => rn 1 rfl ?_))
 rcases cond_some h with ⟨g2, h⟩ | ⟨g2, h⟩
 ·exact qT rfl g2 (rn 1 rfl (ls_ret ((by cases h; exact ⟨.inl rfl, rfl, rfl⟩))))
 ·refine qF rfl g2 (ls_skip (hK1 _ (ls_seq_k fun K3 hK3 => rn 1 rfl ?_)))
  rcases cond_some h with ⟨g4, h⟩ | ⟨g4, h⟩
  ·refine qT rfl g4 (rs (sp 1 rfl (?_)))
   obtain ⟨v5, g6, h⟩ := ob_some h
   refine qP rfl rfl rfl rfl eran (spec_l1Byte_s g6) (sp 1 rfl (?_))
   obtain ⟨g7, h⟩ := chk_some h
   exact qB rfl ⟨rfl, g7⟩ rfl (sp 1 rfl (evn (ls_ret ((by cases h; exact ⟨.inl rfl, rfl, rfl⟩)))))
  ·refine qF rfl g4 (ls_skip (hK3 _ (rs (sp 1 rfl (?_)))))
   obtain ⟨v8, g9, h⟩ := ob_some h
   refine qP rfl rfl rfl rfl eran (spec_l1Byte_s g9) (sp 1 rfl (evn (qk [0, 1, 5] rfl (rs (sp 1 rfl (?_))))))
   obtain ⟨v10, g11, h⟩ := ob_some h
   refine qP rfl rfl rfl rfl eran (spec_l1Byte_s g11) (sp 1 rfl (evn (rs (sp 1 rfl (?_)))))
   obtain ⟨v12, g13, h⟩ := ob_some h
   refine qP rfl rfl rfl rfl eran (spec_l1Byte_s g13) (sp 1 rfl (evn (rs (sp 1 rfl (?_)))))
   obtain ⟨v14, g15, h⟩ := ob_some h
   refine qP rfl rfl rfl rfl eran (spec_l1Byte_s g15) (sp 1 rfl (evn (rs (sp 11 rfl (?_)))))
   obtain ⟨g16, h⟩ := chk_some h
   exact qB rfl ⟨rfl, g16⟩ rfl (sp 1 rfl (evn (ls_ret ((by cases h; exact ⟨.inl rfl, rfl, rfl⟩)))))
def spec_l4Row_B1 (a1 : Int) (a2 : Int) (rec : ((List Int) × Int × Int × (List Int)) → Option ((List Int) × Int × Int × (List Int))) (s : (List Int) × Int × Int × (List Int)) : Option ((List Int) × Int × Int × (List Int)) := match s with
  | (y1, y2, y3, y4) => cond (decide ((List.length y4 : Int) < a1)) (obind (spec_l1Below (y1, y2, y3) a2) fun v8 => chk (List.length y4 + List.length [v8.1] ≤ lim) (rec (v8.2.1, v8.2.2.1, v8.2.2.2, (y4 ++ [v8.1])))) (some (y1, y2, y3, y4))
def spec_l4Row (a0 : Y202) (a1 : Int) (a2 : Int) : Option ((List Int) × Y202) := obind (loopF (spec_l4Row_B1 a1 a2) fz (a0.1, a0.2.1, a0.2.2, ([] : List Int))) fun o1 => (match o1 with
  | (z2, z3, z4, z5) => (some (z5, (z2, z3, z4))))
theorem spec_l4Row_s {a0 : Y202} {a1 : Int} {a2 : Int} {r : (List Int) × Y202} (h : spec_l4Row a0 a1 a2 = some r) : PtrAt Try.prog 155 [aL cu8 a0.1, nI a0.2.1, nI a0.2.2] [nI a1, nI a2] [aL cu8 r.2.1, nI r.2.2.1, nI r.2.2.2] (oL 3 ci64 r.1) := by
 unfold spec_l4Row at h
 refine stp lit155 rfl (rn 1 rfl (rs (qBs ci64 [] rfl rfl rfl zci64 (sp 1 rfl (evn (ls_seq_k fun K1 hK1 => ?_))))))
 obtain ⟨o1, hl, hr1⟩ := ob_some h
 have kXB1 : ∀ {z2 : List Int} {z3 : Int} {z4 : Int} {z5 : List Int}, (z2, z3, z4, z5) = o1 → Jn K1 [(0, .box [aL cu8 z2, nI z3, nI z4]), (7, oL 3 ci64 z5)] := by
  intro z2 z3 z4 z5 h σ' hk
  subst h
  replace h := hr1
  try dsimp only at h
  exact hK1 _ (lh hk rfl (rn 1 rfl (ls_ret ((by cases h; exact ⟨.inl rfl, rfl, rfl⟩)))))
 refine ls_rec (fun (s : (List Int) × Int × Int × (List Int)) => match s with | (y1, y2, y3, y4) => [(0, .box [aL cu8 y1, nI y2, nI y3]), (1, nI a1), (2, nI a2), (7, oL 3 ci64 y4)]) _ _ _ _ hl (okr rfl) (fun _ => rfl) ?_
 rintro m ⟨y1, y2, y3, y4⟩ N h hN
 unfold spec_l4Row_B1 at h
 dsimp only at h
 refine ls_seq_k fun K6 hK6 => rn 1 rfl ?_
 rcases cond_some h with ⟨g7, h⟩ | ⟨g7, h⟩
 ·refine qT rfl g7 (ls_skip (hK6 _ (ls_blk (rg (sp 3 rfl (?_))))))
  obtain ⟨v8, g9, h⟩ := ob_some h
  refine qP rfl rfl rfl rfl (qs rfl eran) (spec_l1Below_s g9) (qBs ci64 [v8.1] rfl rfl rfl zci64 (?_))
  obtain ⟨g10, h⟩ := chk_some h
  exact qA ci64 y4 [v8.1] rfl rfl (flat_len zci64 [v8.1]) rfl g10 (sp 1 rfl (evn (hN _ _ h (okr rfl))))
 ·exact qF rfl g7 (ls_exit (kXB1 (Option.some.inj h) _ (okr rfl)))
def spec_l1In_J1 (x2 : Bool) : Option (Bool) := some x2
def spec_l1In (a0 : Int) (a1 : Int) (a2 : Int) : Option (Bool) := cond (decide (a1 ≤ a0)) (spec_l1In_J1 (decide (a0 ≤ a2))) (spec_l1In_J1 false)
theorem spec_l1In_s {a0 : Int} {a1 : Int} {a2 : Int} {r : Bool} (h : spec_l1In a0 a1 a2 = some r) : SoundAt Try.prog 89 [nI a0, nI a1, nI a2] (.bool r) := by
 unfold spec_l1In at h
 refine st lit89 rfl (rn 1 rfl (rk fun K1 hK1 => ?_))
 have kJ1 : ∀ {x2 : Bool}, spec_l1In_J1 x2 = some r → Jn K1 [(6, .bool x2)] := by
  intro x2 h σ' hk
  unfold spec_l1In_J1 at h
  exact hK1 _ (lh hk rfl (ls_ret ((by cases h; exact ⟨.inl rfl, rfl⟩))))
 refine sp 4 rfl (?_)
 rcases cond_some h with ⟨g3, h⟩ | ⟨g3, h⟩
 ·exact qg 10 g3 rfl (sp 5 rfl (evn (kJ1 h _ (okr rfl))))
 ·exact qg 10 g3 rfl (sp 5 rfl (evn (kJ1 h _ (okr rfl))))
def spec_AreValidValues_B1 (a0 : List Int) (rec : Int → Option (Sum (Unit) (Bool))) (y1 : Int) : Option (Sum (Unit) (Bool)) := cond (decide (y1 < (List.length a0 : Int))) (obind (geti a0 y1) fun e5 => obind (spec_l1In e5 0 99) fun v7 => cond (!v7) (some (.inr false)) (rec (IntKind.i64.wrap (y1 + 1)))) (some (.inl ()))
def spec_AreValidValues (a0 : List Int) : Option (Bool) := obind (loopF (spec_AreValidValues_B1 a0) fz 0) fun o1 => (match o1 with
  | .inl _ => (some true)
  | .inr r => some r)
theorem spec_AreValidValues_s {a0 : List Int} {r : Bool} (h : spec_AreValidValues a0 = some r) : SoundAt Try.prog 90 [dL ci64 a0] (.bool r) := by
 unfold spec_AreValidValues at h
 refine st lit90 rfl (rn 1 rfl (ls_seq_k fun K1 hK1 => rn 1 rfl ?_))
 obtain ⟨o1, hl, hr1⟩ := ob_some h
 have kXB1 : (.inl ()) = o1 → Jn K1 [] := by
  intro h σ' hk
  subst h
  replace h := hr1
  try dsimp only at h
  exact hK1 _ (lh hk rfl (rn 1 rfl (ls_ret ((by cases h; exact ⟨.inl rfl, rfl⟩)))))
 refine ls_rec (fun (y1 : Int) => [(0, dL ci64 a0), (3, nI y1)]) _ _ _ _ hl (okr rfl) (fun _ => rfl) ?_
 rintro m y1 N h hN
 unfold spec_AreValidValues_B1 at h
 refine ls_seq_k fun K2 hK2 => rn 1 rfl ?_
 rcases cond_some h with ⟨g3, h⟩ | ⟨g3, h⟩
 ·refine qT rfl g3 (ls_skip (hK2 _ (ls_seq_k fun K4 hK4 => ls_blk (rs (sp 2 rfl (?_))))))
  obtain ⟨e5, g6, h⟩ := ob_some h
  refine qI rfl zci64 g6 (sp 1 rfl (?_))
  obtain ⟨v7, g8, h⟩ := ob_some h
  refine qC (qs rfl (qs rfl (qs rfl eran))) (spec_l1In_s g8) (sp 1 rfl (evn ?_))
  rcases cond_some h with ⟨g9, h⟩ | ⟨g9, h⟩
  ·exact qT rfl g9 (rn 1 rfl (ls_ret ((by cases h; cases hr1; exact ⟨.inl rfl, rfl⟩))))
  ·exact qF rfl g9 (ls_skip (hK4 _ (rg (sp 3 rfl (evn (hN _ _ h (okr rfl)))))))
 ·exact qF rfl g3 (ls_exit (kXB1 (Option.some.inj h) _ trivial))
def spec_CompareRows_B1 (a0 : List Int) (a1 : List Int) (rec : Int → Option (Sum (Unit) (Int))) (y1 : Int) : Option (Sum (Unit) (Int)) := cond (decide (y1 < (List.length a0 : Int))) (cond (decide (y1 < (List.length a1 : Int))) (obind (geti a0 y1) fun e7 => obind (geti a1 y1) fun e9 => cond (decide (e7 < e9)) (some (.inr (-1))) (obind (geti a0 y1) fun e12 => obind (geti a1 y1) fun e14 => cond (decide (e14 < e12)) (some (.inr 1)) (rec (IntKind.i64.wrap (y1 + 1))))) (some (.inl ()))) (some (.inl ()))
def spec_CompareRows (a0 : List Int) (a1 : List Int) : Option (Int) := obind (loopF (spec_CompareRows_B1 a0 a1) fz 0) fun o1 => (match o1 with
  | .inl _ => (cond (decide ((List.length a0 : Int) < (List.length a1 : Int))) (some (-1)) (cond (decide ((List.length a1 : Int) < (List.length a0 : Int))) (some 1) (some 0)))
  | .inr r => some r)
theorem spec_CompareRows_s {a0 : List Int} {a1 : List Int} {r : Int} (h : spec_CompareRows a0 a1 = some r) : SoundAt Try.prog 91 [dL ci64 a0, dL ci64 a1] (nI r) := by
 unfold spec_CompareRows at h
 refine st lit91 rfl (rn 1 rfl (ls_seq_k fun K1 hK1 => rn 1 rfl ?_))
 obtain ⟨o1, hl, hr1⟩ := ob_some h
 have kXB1 : (.inl ()) = o1 → Jn K1 [(0, dL ci64 a0), (1, dL ci64 a1)] := by
  intro h σ' hk
  subst h
  replace h := hr1
  try dsimp only at h
  refine hK1 _ (lh hk rfl (ls_seq_k fun K17 hK17 => rn 1 rfl ?_))
  rcases cond_some h with ⟨g18, h⟩ | ⟨g18, h⟩
  ·exact qT rfl g18 (rn 1 rfl (ls_ret ((by cases h; exact ⟨.inl rfl, rfl⟩))))
  ·refine qF rfl g18 (ls_skip (hK17 _ (ls_seq_k fun K19 hK19 => rn 1 rfl ?_)))
   rcases cond_some h with ⟨g20, h⟩ | ⟨g20, h⟩
   ·exact qT rfl g20 (rn 1 rfl (ls_ret ((by cases h; exact ⟨.inl rfl, rfl⟩))))
   ·exact qF rfl g20 (ls_skip (hK19 _ (rn 1 rfl (ls_ret ((by cases h; exact ⟨.inl rfl, rfl⟩))))))
 refine ls_rec (fun (y1 : Int) => [(0, dL ci64 a0), (1, dL ci64 a1), (5, nI y1)]) _ _ _ _ hl (okr rfl) (fun _ => rfl) ?_
 rintro m y1 N h hN
 unfold spec_CompareRows_B1 at h
 refine ls_seq_k fun K2 hK2 => rs (sp 5 rfl (?_))
 rcases cond_some h with ⟨g3, h⟩ | ⟨g3, h⟩
 ·refine qg 10 g3 rfl (sp 5 rfl (evn ?_))
  rcases cond_some h with ⟨g4, h⟩ | ⟨g4, h⟩
  ·refine qT rfl g4 (ls_skip (hK2 _ (ls_seq_k fun K5 hK5 => ls_blk (ls_seq_k fun K6 hK6 => rd (by kernel_rfl) (sd 2 rfl (?_))))))
   obtain ⟨e7, g8, h⟩ := ob_some h
   refine ed rfl (qI rfl zci64 g8 (sd 3 rfl (?_)))
   obtain ⟨e9, g10, h⟩ := ob_some h
   refine ed rfl (qI rfl zci64 g10 (sd 2 rfl (evdn ?_)))
   rcases cond_some h with ⟨g11, h⟩ | ⟨g11, h⟩
   ·exact qT rfl g11 (rn 1 rfl (ls_ret ((by cases h; cases hr1; exact ⟨.inl rfl, rfl⟩))))
   ·refine qF rfl g11 (ls_skip (hK6 _ (rd (by kernel_rfl) (sd 2 rfl (?_)))))
    obtain ⟨e12, g13, h⟩ := ob_some h
    refine ed rfl (qI rfl zci64 g13 (sd 3 rfl (?_)))
    obtain ⟨e14, g15, h⟩ := ob_some h
    refine ed rfl (qI rfl zci64 g15 (sd 2 rfl (evdn (qk [0, 1, 5, 35] rfl ?_))))
    rcases cond_some h with ⟨g16, h⟩ | ⟨g16, h⟩
    ·exact qT rfl g16 (rn 1 rfl (ls_ret ((by cases h; cases hr1; exact ⟨.inl rfl, rfl⟩))))
    ·exact qF rfl g16 (ls_skip (hK5 _ (rg (sp 3 rfl (evn (hN _ _ h (okr rfl)))))))
  ·exact qF rfl g4 (ls_exit (kXB1 (Option.some.inj h) _ (okr rfl)))
 ·exact qg 10 g3 rfl (sp 5 rfl (evn (qF rfl rfl (ls_exit (kXB1 (Option.some.inj h) _ (okr rfl))))))
abbrev Y25 := Int × (List (List Int))
def c31_d (x : List Int) : List V := [dL ci64 x]
theorem zc31_d (x : List Int) : (c31_d x).length = 1 := rfl
theorem ec31_d (x : List Int) : erL (c31_d x) = c31_d x := (erc (erD eci64 _) rfl)
def c26_dd (x : Y25) : List V := [nI x.1, dL c31_d x.2]
theorem zc26_dd (x : Y25) : (c26_dd x).length = 2 := rfl
theorem ec26_dd (x : Y25) : erL (c26_dd x) = c26_dd x := (erc rfl (erc (erD ec31_d _) rfl))
def spec_IsValidRelation_J2 (rec : Int → Option (Sum (Unit) (Bool))) (y1 : Int) (x11 : Bool) : Option (Sum (Unit) (Bool)) := cond x11 (some (.inr false)) (rec (IntKind.i64.wrap (y1 + 1)))
def spec_IsValidRelation_B1 (a0 : Y25) (rec : Int → Option (Sum (Unit) (Bool))) (y1 : Int) : Option (Sum (Unit) (Bool)) := cond (decide (y1 < (List.length a0.2 : Int))) (obind (geti a0.2 y1) fun e13 => cond ((List.length e13 : Int) != a0.1) (spec_IsValidRelation_J2 rec y1 true) (obind (geti a0.2 y1) fun e16 => obind (spec_AreValidValues e16) fun v18 => cond (!v18) (spec_IsValidRelation_J2 rec y1 true) (cond (decide (0 < y1)) (obind (geti a0.2 (IntKind.i64.wrap (y1 - 1))) fun e22 => obind (geti a0.2 y1) fun e24 => obind (spec_CompareRows e22 e24) fun v26 => spec_IsValidRelation_J2 rec y1 (decide (0 ≤ v26))) (spec_IsValidRelation_J2 rec y1 false)))) (some (.inl ()))
def spec_IsValidRelation (a0 : Y25) : Option (Bool) := obind (spec_l1In a0.1 0 5) fun v2 => cond (!v2) (some false) (cond (decide (4000 < (List.length a0.2 : Int))) (some false) (obind (loopF (spec_IsValidRelation_B1 a0) fz 0) fun o1 => (match o1 with
  | .inl _ => (some true)
  | .inr r => some r)))
theorem spec_IsValidRelation_s {a0 : Y25} {r : Bool} (h : spec_IsValidRelation a0 = some r) : SoundAt Try.prog 15 [.agg (c26_dd a0)] (.bool r) := by
 unfold spec_IsValidRelation at h
 refine st lit15 rfl (rn 1 rfl (ls_seq_k fun K1 hK1 => rs (sp 2 rfl (?_))))
 obtain ⟨v2, g3, h⟩ := ob_some h
 refine qC (qs rfl (qs rfl (qs rfl eran))) (spec_l1In_s g3) (sp 2 rfl (?_))
 rcases cond_some h with ⟨g4, h⟩ | ⟨g4, h⟩
 ·exact qg 8 g4 rfl (sp 5 rfl (evn (qT rfl rfl (rn 1 rfl (ls_ret ((by cases h; exact ⟨.inl rfl, rfl⟩)))))))
 ·refine qg 8 g4 rfl (sp 5 rfl (evn ?_))
  rcases cond_some h with ⟨g5, h⟩ | ⟨g5, h⟩
  ·exact qT rfl g5 (rn 1 rfl (ls_ret ((by cases h; exact ⟨.inl rfl, rfl⟩))))
  ·refine qF rfl g5 (ls_skip (hK1 _ (qk [1] rfl (ls_seq_k fun K6 hK6 => rn 1 rfl ?_))))
   obtain ⟨o1, hl, hr1⟩ := ob_some h
   have kXB1 : (.inl ()) = o1 → Jn K6 [] := by
    intro h σ' hk
    subst h
    replace h := hr1
    try dsimp only at h
    exact hK6 _ (lh hk rfl (rn 1 rfl (ls_ret ((by cases h; exact ⟨.inl rfl, rfl⟩)))))
   refine ls_rec (fun (y1 : Int) => [(1, .box [nI a0.1, dL c31_d a0.2]), (3, nI y1)]) _ _ _ _ hl (okr rfl) (fun _ => rfl) ?_
   rintro m y1 N h hN
   unfold spec_IsValidRelation_B1 at h
   refine ls_seq_k fun K7 hK7 => rn 1 rfl ?_
   rcases cond_some h with ⟨g8, h⟩ | ⟨g8, h⟩
   ·refine qT rfl g8 (ls_skip (hK7 _ (ls_seq_k fun K9 hK9 => ls_blk (rdk (by kernel_rfl) fun K10 hK10 => ?_))))
    have kJ2 : ∀ {x11 : Bool}, spec_IsValidRelation_J2 (loopF (spec_IsValidRelation_B1 a0) m) y1 x11 = some o1 → Jn K10 [(1, .box [nI a0.1, dL c31_d a0.2]), (3, nI y1), (57, .bool x11)] := by
     intro x11 h σ' hk
     unfold spec_IsValidRelation_J2 at h
     refine hK10 _ (lh hk rfl ?_)
     rcases cond_some h with ⟨g12, h⟩ | ⟨g12, h⟩
     ·exact qT rfl g12 (rn 1 rfl (ls_ret ((by cases h; cases hr1; exact ⟨.inl rfl, rfl⟩))))
     ·exact qF rfl g12 (ls_skip (hK9 _ (rg (sp 3 rfl (evn (hN _ _ h (okr rfl)))))))
    refine sd 3 rfl (?_)
    obtain ⟨e13, g14, h⟩ := ob_some h
    refine ed rfl (qI rfl zc31_d g14 (sd 6 rfl (?_)))
    rcases cond_some h with ⟨g15, h⟩ | ⟨g15, h⟩
    ·exact qgd 30 g15 rfl (sd 27 rfl (evdn (kJ2 h _ (okr rfl))))
    ·refine qgd 30 g15 rfl (sd 3 rfl (?_))
     obtain ⟨e16, g17, h⟩ := ob_some h
     refine ed rfl (oGR rfl rfl (qI rfl zc31_d g17 (sd 1 rfl (?_))))
     obtain ⟨v18, g19, h⟩ := ob_some h
     refine ed rfl (oGR rfl rfl (qC (qa rfl (erD eci64 _) eran) (spec_AreValidValues_s g19) (sd 3 rfl (?_))))
     rcases cond_some h with ⟨g20, h⟩ | ⟨g20, h⟩
     ·exact qgd 39 g20 rfl (sd 18 rfl (evdn (kJ2 h _ (okr rfl))))
     ·refine qgd 39 g20 rfl (sd 3 rfl (?_))
      rcases cond_some h with ⟨g21, h⟩ | ⟨g21, h⟩
      ·refine qgd 42 g21 rfl (sd 4 rfl (?_))
       obtain ⟨e22, g23, h⟩ := ob_some h
       refine ed rfl (oGR rfl rfl (qI rfl zc31_d g23 (sd 4 rfl (?_))))
       obtain ⟨e24, g25, h⟩ := ob_some h
       refine ed rfl (oGR rfl rfl (qI rfl zc31_d g25 (sd 1 rfl (?_))))
       obtain ⟨v26, g27, h⟩ := ob_some h
       exact ed rfl (oGR rfl rfl (qC (qa rfl (erD eci64 _) (qa rfl (erD eci64 _) eran)) (spec_CompareRows_s g27) (sd 3 rfl (evdn (kJ2 h _ (okr rfl))))))
      ·exact qgd 42 g21 rfl (sd 15 rfl (evdn (kJ2 h _ (okr rfl))))
   ·exact qF rfl g8 (ls_exit (kXB1 (Option.some.inj h) _ trivial))
def c31_o (x : List Int) : List V := [oL 3 ci64 x]
theorem zc31_o (x : List Int) : (c31_o x).length = 1 := rfl
theorem ec31_o (x : List Int) : erL (c31_o x) = c31_d x := (erc (erO eci64 _) rfl)
def c26_oo (x : Y25) : List V := [nI x.1, oL 31 c31_o x.2]
theorem zc26_oo (x : Y25) : (c26_oo x).length = 2 := rfl
theorem ec26_oo (x : Y25) : erL (c26_oo x) = c26_dd x := (erc rfl (erc (erO ec31_o _) rfl))
def spec_l5Copy_B1 (a0 : Y25) (rec : ((List (List Int)) × Int) → Option ((List (List Int)))) (s : (List (List Int)) × Int) : Option ((List (List Int))) := match s with
  | (y1, y2) => cond (decide (y2 < (List.length a0.2 : Int))) (obind (geti a0.2 y2) fun e6 => chk (List.length ([] : List Int) + List.length e6 ≤ lim) (chk (List.length y1 + List.length ([([] : List Int) ++ e6]) ≤ lim) (rec ((y1 ++ ([([] : List Int) ++ e6])), (IntKind.i64.wrap (y2 + 1)))))) (some y1)
def spec_l5Copy (a0 : Y25) : Option (Y25) := obind (loopF (spec_l5Copy_B1 a0) fz (([] : List (List Int)), 0)) fun z2 => some (a0.1, z2)
theorem spec_l5Copy_s {a0 : Y25} {r : Y25} (h : spec_l5Copy a0 = some r) : SoundAt Try.prog 100 [.agg (c26_dd a0)] (.agg (c26_oo r)) := by
 unfold spec_l5Copy at h
 refine st lit100 rfl (rn 2 rfl (ls_seq_k fun K1 hK1 => rn 1 rfl ?_))
 obtain ⟨o1, hl, hr1⟩ := ob_some h
 have kXB1 : ∀ {z2 : List (List Int)}, z2 = o1 → Jn K1 [(2, .box [nI 0, oL 31 c31_o []]), (3, .box [nI a0.1, oL 31 c31_o z2])] := by
  intro z2 h σ' hk
  subst h
  replace h := hr1
  try dsimp only at h
  exact hK1 _ (lh hk rfl (rn 1 rfl (ls_ret ((by cases h; exact ⟨.inl rfl, rfl⟩)))))
 refine ls_rec (fun (s : (List (List Int)) × Int) => match s with | (y1, y2) => [(1, .box [nI a0.1, dL c31_d a0.2]), (2, .box [nI 0, oL 31 c31_o []]), (3, .box [nI a0.1, oL 31 c31_o y1]), (4, nI y2)]) _ _ _ _ hl (okr rfl) (fun _ => rfl) ?_
 rintro m ⟨y1, y2⟩ N h hN
 unfold spec_l5Copy_B1 at h
 dsimp only at h
 refine ls_seq_k fun K3 hK3 => rn 1 rfl ?_
 rcases cond_some h with ⟨g4, h⟩ | ⟨g4, h⟩
 ·refine qT rfl g4 (ls_skip (hK3 _ (ls_seq_k fun K5 hK5 => ls_blk (rgd (by kernel_rfl) (sd 2 rfl (ed rfl (qBs ci64 [] rfl rfl rfl zci64 (sd 3 rfl (?_)))))))))
  obtain ⟨e6, g7, h⟩ := ob_some h
  refine ed rfl (qI rfl zc31_d g7 (sd 1 rfl (?_)))
  obtain ⟨g8, h⟩ := chk_some h
  refine ed rfl (qA ci64 ([] : List Int) e6 rfl rfl (flat_len zci64 e6) (map_dg (fun _ => rfl) _) g8 (ed rfl (qBs c31_o [([] : List Int) ++ e6] rfl rfl rfl zc31_o (?_))))
  obtain ⟨g9, h⟩ := chk_some h
  exact ed rfl (qA c31_o y1 ([([] : List Int) ++ e6]) rfl rfl (flat_len zc31_o ([([] : List Int) ++ e6])) rfl g9 (sd 2 rfl (evdn (hK5 _ (rg (sp 3 rfl (evn (hN _ _ h (okr rfl)))))))))
 ·exact qF rfl g4 (ls_exit (kXB1 (Option.some.inj h) _ (okr rfl)))
def spec_l5Sort_J5 (rec : ((List (List Int)) × (List (List Int)) × (List (List Int))) → Option ((List (List Int)))) (y3 : List (List Int)) (x18 : List (List Int)) (x19 : List (List Int)) (x20 : List Int) (x22 : Bool) : Option ((List (List Int))) := cond x22 (chk (List.length y3 + List.length [x20] ≤ lim) (rec (x18, x19, (y3 ++ [x20])))) (rec (x18, x19, y3))
def spec_l5Sort_J4 (rec : ((List (List Int)) × (List (List Int)) × (List (List Int))) → Option ((List (List Int)))) (y3 : List (List Int)) (x18 : List (List Int)) (x19 : List (List Int)) (x20 : List Int) : Option ((List (List Int))) := cond ((List.length y3 : Int) == 0) (spec_l5Sort_J5 rec y3 x18 x19 x20 true) (obind (geti y3 (IntKind.i64.wrap ((List.length y3 : Int) - 1))) fun e26 => obind (spec_CompareRows e26 x20) fun v28 => spec_l5Sort_J5 rec y3 x18 x19 x20 (v28 != 0))
def spec_l5Sort_J3 (rec : ((List (List Int)) × (List (List Int)) × (List (List Int))) → Option ((List (List Int)))) (y1 : List (List Int)) (y2 : List (List Int)) (y3 : List (List Int)) (x16 : Int) : Option ((List (List Int))) := cond (decide (0 < x16)) (obind (geti y2 0) fun e31 => chk ((0 : Int) ≤ 1 ∧ 1 ≤ (List.length y2 : Int) ∧ (List.length y2 : Int) ≤ (List.length y2 : Int)) (spec_l5Sort_J4 rec y3 y1 (subl y2 1 (List.length y2 : Int)) e31)) (obind (geti y1 0) fun e34 => chk ((0 : Int) ≤ 1 ∧ 1 ≤ (List.length y1 : Int) ∧ (List.length y1 : Int) ≤ (List.length y1 : Int)) (spec_l5Sort_J4 rec y3 (subl y1 1 (List.length y1 : Int)) y2 e34))
def spec_l5Sort_J2 (rec : ((List (List Int)) × (List (List Int)) × (List (List Int))) → Option ((List (List Int)))) (y1 : List (List Int)) (y2 : List (List Int)) (y3 : List (List Int)) (x13 : Bool) : Option ((List (List Int))) := cond x13 (cond ((List.length y1 : Int) == 0) (spec_l5Sort_J3 rec y1 y2 y3 1) (cond (decide (0 < (List.length y2 : Int))) (obind (geti y1 0) fun e39 => obind (geti y2 0) fun e41 => obind (spec_CompareRows e39 e41) fun v43 => spec_l5Sort_J3 rec y1 y2 y3 v43) (spec_l5Sort_J3 rec y1 y2 y3 (-1)))) (some y3)
def spec_l5Sort_B1  (rec : ((List (List Int)) × (List (List Int)) × (List (List Int))) → Option ((List (List Int)))) (s : (List (List Int)) × (List (List Int)) × (List (List Int))) : Option ((List (List Int))) := match s with
  | (y1, y2, y3) => cond (decide (0 < (List.length y1 : Int))) (spec_l5Sort_J2 rec y1 y2 y3 true) (spec_l5Sort_J2 rec y1 y2 y3 (decide (0 < (List.length y2 : Int))))
def spec_l5Sort_R (rec : ((List (List Int))) → Option ((List (List Int)))) (a0 : (List (List Int))) : Option ((List (List Int))) := cond (decide ((List.length a0 : Int) < 2)) (some a0) (chk ((0 : Int) ≤ 0 ∧ 0 ≤ IntKind.i64.wrap (Int.tdiv (List.length a0 : Int) 2) ∧ IntKind.i64.wrap (Int.tdiv (List.length a0 : Int) 2) ≤ (List.length a0 : Int)) (obind (rec (subl a0 0 (IntKind.i64.wrap (Int.tdiv (List.length a0 : Int) 2)))) fun v4 => chk ((0 : Int) ≤ IntKind.i64.wrap (Int.tdiv (List.length a0 : Int) 2) ∧ IntKind.i64.wrap (Int.tdiv (List.length a0 : Int) 2) ≤ (List.length a0 : Int) ∧ (List.length a0 : Int) ≤ (List.length a0 : Int)) (obind (rec (subl a0 (IntKind.i64.wrap (Int.tdiv (List.length a0 : Int) 2)) (List.length a0 : Int))) fun v7 => obind (loopF spec_l5Sort_B1 fz (v4, v7, ([] : List (List Int)))) fun z10 => some z10)))
def spec_l5Sort (a0 : List (List Int)) : Option ((List (List Int))) := loopF spec_l5Sort_R fz a0
theorem spec_l5Sort_s {a0 : List (List Int)} {r : (List (List Int))} (h : spec_l5Sort a0 = some r) : SoundAt Try.prog 222 [dL c31_d a0] (dL c31_d r) := by
 suffices key : ∀ m (a0 : List (List Int)) (r : (List (List Int))), loopF spec_l5Sort_R m a0 = some r → SoundAt Try.prog 222 [dL c31_d a0] (dL c31_d r) from key fz a0 r h
 intro m
 induction m with
 | zero => intro a0 r h; cases h
 | succ m ih0 =>
  intro a0 r h
  have ih : ∀ {a0 : List (List Int)} {r : (List (List Int))}, loopF spec_l5Sort_R m a0 = some r → SoundAt Try.prog 222 [dL c31_d a0] (dL c31_d r) := fun h => ih0 _ _ h
  change spec_l5Sort_R (loopF spec_l5Sort_R m) a0 = some r at h
  unfold spec_l5Sort_R at h
  try dsimp only at h
  refine st lit222 rfl (rn 1 rfl (ls_seq_k fun K1 hK1 => rn 1 rfl ?_))
  rcases cond_some h with ⟨g2, h⟩ | ⟨g2, h⟩
  ·exact qT rfl g2 (rn 1 rfl (ls_ret ((by cases h; exact ⟨.inl rfl, rfl⟩))))
  ·refine qF rfl g2 (ls_skip (hK1 _ (rn 1 rfl (rs (sp 2 rfl (?_))))))
   obtain ⟨g3, h⟩ := chk_some h
   refine qSl rfl zc31_d g3 (?_)
   obtain ⟨v4, g5, h⟩ := ob_some h
   refine qC (qa rfl (erD ec31_d _) eran) (ih g5) (sp 1 rfl (evn (rs (sp 2 rfl (?_)))))
   obtain ⟨g6, h⟩ := chk_some h
   refine qSl rfl zc31_d g6 (?_)
   obtain ⟨v7, g8, h⟩ := ob_some h
   refine qC (qa rfl (erD ec31_d _) eran) (ih g8) (sp 1 rfl (evn (qk [4, 5] rfl (rs (qBs c31_o [] rfl rfl rfl zc31_o (sp 1 rfl (evn (ls_seq_k fun K9 hK9 => ?_))))))))
   obtain ⟨o1, hl, hr1⟩ := ob_some h
   have kXB1 : ∀ {z10 : List (List Int)}, z10 = o1 → Jn K9 [(6, oL 31 c31_d z10)] := by
    intro z10 h σ' hk
    subst h
    replace h := hr1
    try dsimp only at h
    exact hK9 _ (lh hk rfl (rn 1 rfl (ls_keep [(2, dL c31_d z10)] ⟨(ke rfl (erO ec31_d _)), trivial⟩ rfl (ls_ret ((by cases h; exact ⟨.inl rfl, rfl⟩))))))
   refine ls_rec (fun (s : (List (List Int)) × (List (List Int)) × (List (List Int))) => match s with | (y1, y2, y3) => [(4, dL c31_d y1), (5, dL c31_d y2), (6, oL 31 c31_d y3)]) _ _ _ _ hl (okr rfl) (fun _ => rfl) ?_
   rintro m ⟨y1, y2, y3⟩ N h hN
   unfold spec_l5Sort_B1 at h
   dsimp only at h
   refine ls_seq_k fun K11 hK11 => rk fun K12 hK12 => ?_
   have kJ2 : ∀ {x13 : Bool}, spec_l5Sort_J2 (loopF spec_l5Sort_B1 m) y1 y2 y3 x13 = some o1 → Jn K12 [(4, dL c31_d y1), (5, dL c31_d y2), (6, oL 31 c31_d y3), (32, .bool x13)] := by
    intro x13 h σ' hk
    unfold spec_l5Sort_J2 at h
    refine hK12 _ (lh hk rfl ?_)
    rcases cond_some h with ⟨g14, h⟩ | ⟨g14, h⟩
    ·refine qT rfl g14 (ls_skip (hK11 _ (ls_blk (rn 1 rfl (ls_seq_k fun K15 hK15 => ls_blk (rn 1 rfl ?_))))))
     have kJ3 : ∀ {x16 : Int}, spec_l5Sort_J3 (loopF spec_l5Sort_B1 m) y1 y2 y3 x16 = some o1 → Jn K15 [(4, dL c31_d y1), (5, dL c31_d y2), (6, oL 31 c31_d y3), (7, nI x16)] := by
      intro x16 h σ' hk
      unfold spec_l5Sort_J3 at h
      refine hK15 _ (lh hk rfl (rs (qBs ci64 [] rfl rfl rfl zci64 (sp 1 rfl (evn (ls_seq_k fun K17 hK17 => rn 1 rfl ?_))))))
      have kJ4 : ∀ {x18 : List (List Int)} {x19 : List (List Int)} {x20 : List Int}, spec_l5Sort_J4 (loopF spec_l5Sort_B1 m) y3 x18 x19 x20 = some o1 → Jn K17 [(4, dL c31_d x18), (5, dL c31_d x19), (6, oL 31 c31_d y3), (8, dL ci64 x20)] := by
       intro x18 x19 x20 h σ' hk
       unfold spec_l5Sort_J4 at h
       refine hK17 _ (lh hk rfl (rk fun K21 hK21 => ?_))
       have kJ5 : ∀ {x22 : Bool}, spec_l5Sort_J5 (loopF spec_l5Sort_B1 m) y3 x18 x19 x20 x22 = some o1 → Jn K21 [(4, dL c31_d x18), (5, dL c31_d x19), (6, oL 31 c31_d y3), (8, dL ci64 x20), (74, .bool x22)] := by
        intro x22 h σ' hk
        unfold spec_l5Sort_J5 at h
        refine hK21 _ (lh hk rfl ?_)
        rcases cond_some h with ⟨g23, h⟩ | ⟨g23, h⟩
        ·refine qT rfl g23 (rg (sp 2 rfl (qBs c31_d [x20] rfl rfl rfl zc31_d (?_))))
         obtain ⟨g24, h⟩ := chk_some h
         exact qA c31_d y3 [x20] rfl rfl (flat_len zc31_d [x20]) rfl g24 (sp 1 rfl (evn (hN _ _ h (okr rfl))))
        ·exact qF rfl g23 (ls_skip (hN _ _ h (okr rfl)))
       refine sp 4 rfl (?_)
       rcases cond_some h with ⟨g25, h⟩ | ⟨g25, h⟩
       ·exact qg 64 g25 rfl (sp 10 rfl (evn (kJ5 h _ (okr rfl))))
       ·refine qg 64 g25 rfl (sp 4 rfl (?_))
        obtain ⟨e26, g27, h⟩ := ob_some h
        refine oGR rfl rfl (qI rfl zc31_d g27 (sp 2 rfl (?_)))
        obtain ⟨v28, g29, h⟩ := ob_some h
        exact oGR rfl rfl (qC (qa rfl (erD eci64 _) (qa rfl (erD eci64 _) eran)) (spec_CompareRows_s g29) (sp 2 rfl (evn (kJ5 h _ (okr rfl)))))
      rcases cond_some h with ⟨g30, h⟩ | ⟨g30, h⟩
      ·refine qT rfl g30 (rs (sp 1 rfl (?_)))
       obtain ⟨e31, g32, h⟩ := ob_some h
       refine qI rfl zc31_d g32 (sp 2 rfl (evn (qk [4, 5, 6, 8] rfl (rg (sp 1 rfl (?_))))))
       obtain ⟨g33, h⟩ := chk_some h
       exact qSl rfl zc31_d g33 (sp 1 rfl (evn (kJ4 h _ (okr rfl))))
      ·refine qF rfl g30 (rs (sp 1 rfl (?_)))
       obtain ⟨e34, g35, h⟩ := ob_some h
       refine qI rfl zc31_d g35 (sp 2 rfl (evn (rg (sp 1 rfl (?_)))))
       obtain ⟨g36, h⟩ := chk_some h
       exact qSl rfl zc31_d g36 (sp 1 rfl (evn (kJ4 h _ (okr rfl))))
     rcases cond_some h with ⟨g37, h⟩ | ⟨g37, h⟩
     ·exact qT rfl g37 (rg (sp 1 rfl (evn (kJ3 h _ (okr rfl)))))
     ·refine qF rfl g37 (rn 1 rfl ?_)
      rcases cond_some h with ⟨g38, h⟩ | ⟨g38, h⟩
      ·refine qT rfl g38 (rgd (by kernel_rfl) (sd 1 rfl (?_)))
       obtain ⟨e39, g40, h⟩ := ob_some h
       refine ed rfl (qI rfl zc31_d g40 (sd 2 rfl (?_)))
       obtain ⟨e41, g42, h⟩ := ob_some h
       refine ed rfl (qI rfl zc31_d g42 (sd 1 rfl (?_)))
       obtain ⟨v43, g44, h⟩ := ob_some h
       exact ed rfl (qC (qa rfl (erD eci64 _) (qa rfl (erD eci64 _) eran)) (spec_CompareRows_s g44) (sd 1 rfl (evdn (kJ3 h _ (okr rfl)))))
      ·exact qF rfl g38 (rg (sp 1 rfl (evn (kJ3 h _ (okr rfl)))))
    ·exact qF rfl g14 (ls_exit (kXB1 (Option.some.inj h) _ (okr rfl)))
   refine sp 4 rfl (?_)
   rcases cond_some h with ⟨g45, h⟩ | ⟨g45, h⟩
   ·exact qg 28 g45 rfl (sp 4 rfl (evn (kJ2 h _ (okr rfl))))
   ·exact qg 28 g45 rfl (sp 4 rfl (evn (kJ2 h _ (okr rfl))))
def spec_NewRelation_B1 (a0 : Int) (a1 : List (List Int)) (rec : Int → Option (Sum (Unit) (Y25 × Bool))) (y1 : Int) : Option (Sum (Unit) (Y25 × Bool)) := cond (decide (y1 < (List.length a1 : Int))) (obind (geti a1 y1) fun e5 => cond ((List.length e5 : Int) != a0) (some (.inr ((0, []), false))) (obind (geti a1 y1) fun e8 => obind (spec_AreValidValues e8) fun v10 => cond (!v10) (some (.inr ((0, []), false))) (rec (IntKind.i64.wrap (y1 + 1))))) (some (.inl ()))
def spec_NewRelation (a0 : Int) (a1 : List (List Int)) : Option (Y25 × Bool) := obind (loopF (spec_NewRelation_B1 a0 a1) fz 0) fun o1 => (match o1 with
  | .inl _ => (obind (spec_l5Sort a1) fun v13 => obind (spec_l5Copy (a0, v13)) fun v15 => obind (spec_IsValidRelation v15) fun v18 => cond (!v18) (some ((0, []), false)) (some (v15, true)))
  | .inr r => some r)
theorem spec_NewRelation_s {a0 : Int} {a1 : List (List Int)} {r : Y25 × Bool} (h : spec_NewRelation a0 a1 = some r) : SoundAt Try.prog 167 [nI a0, dL c31_d a1] (.tup [.agg (c26_oo r.1), .bool r.2]) := by
 unfold spec_NewRelation at h
 refine st lit167 rfl (rn 1 rfl (ls_seq_k fun K1 hK1 => rn 1 rfl ?_))
 obtain ⟨o1, hl, hr1⟩ := ob_some h
 have kXB1 : (.inl ()) = o1 → Jn K1 [(0, nI a0), (1, dL c31_d a1), (4, .box [nI 0, oL 31 c31_o []])] := by
  intro h σ' hk
  subst h
  replace h := hr1
  try dsimp only at h
  refine hK1 _ (lh hk rfl (rs (sp 2 rfl (?_))))
  obtain ⟨v13, g14, h⟩ := ob_some h
  refine qC (qa rfl (erD ec31_d _) eran) (spec_l5Sort_s g14) (sp 1 rfl (?_))
  obtain ⟨v15, g16, h⟩ := ob_some h
  refine qC (qa rfl (erg (erc rfl (erc (erD ec31_d _) rfl))) eran) (spec_l5Copy_s g16) (sp 2 rfl (evn (ls_seq_k fun K17 hK17 => rs (sp 1 rfl (?_)))))
  obtain ⟨v18, g19, h⟩ := ob_some h
  refine qC (qa rfl (erg (erc rfl (erc (erD ec31_o _) rfl))) eran) (spec_IsValidRelation_s g19) (sp 1 rfl (evn ?_))
  rcases cond_some h with ⟨g20, h⟩ | ⟨g20, h⟩
  ·exact qT rfl g20 (rn 1 rfl (ls_ret ((by cases h; exact ⟨.inl rfl, rfl⟩))))
  ·exact qF rfl g20 (ls_skip (hK17 _ (rn 1 rfl (ls_ret ((by cases h; exact ⟨.inl rfl, rfl⟩))))))
 refine ls_rec (fun (y1 : Int) => [(0, nI a0), (1, dL c31_d a1), (4, .box [nI 0, oL 31 c31_o []]), (6, nI y1)]) _ _ _ _ hl (okr rfl) (fun _ => rfl) ?_
 rintro m y1 N h hN
 unfold spec_NewRelation_B1 at h
 refine ls_seq_k fun K2 hK2 => rn 1 rfl ?_
 rcases cond_some h with ⟨g3, h⟩ | ⟨g3, h⟩
 ·refine qT rfl g3 (ls_skip (hK2 _ (ls_seq_k fun K4 hK4 => ls_blk (rs (sp 2 rfl (?_))))))
  obtain ⟨e5, g6, h⟩ := ob_some h
  refine qI rfl zc31_d g6 (sp 5 rfl (?_))
  rcases cond_some h with ⟨g7, h⟩ | ⟨g7, h⟩
  ·exact qg 21 g7 rfl (sp 7 rfl (evn (qT rfl rfl (rn 1 rfl (ls_ret ((by cases h; cases hr1; exact ⟨.inl rfl, rfl⟩)))))))
  ·refine qg 21 g7 rfl (sp 2 rfl (?_))
   obtain ⟨e8, g9, h⟩ := ob_some h
   refine oGR rfl rfl (qI rfl zc31_d g9 (sp 1 rfl (?_)))
   obtain ⟨v10, g11, h⟩ := ob_some h
   refine oGR rfl rfl (qC (qa rfl (erD eci64 _) eran) (spec_AreValidValues_s g11) (sp 2 rfl (evn (qk [0, 1, 4, 6, 28] rfl ?_))))
   rcases cond_some h with ⟨g12, h⟩ | ⟨g12, h⟩
   ·exact qT rfl g12 (rn 1 rfl (ls_ret ((by cases h; cases hr1; exact ⟨.inl rfl, rfl⟩))))
   ·exact qF rfl g12 (ls_skip (hK4 _ (rg (sp 3 rfl (evn (hN _ _ h (okr rfl)))))))
 ·exact qF rfl g3 (ls_exit (kXB1 (Option.some.inj h) _ (okr rfl)))
def spec_l5Rel_B1 (a1 : Int) (a3 : Int) (rec : ((List Int) × Int × Int × (List (List Int)) × Int) → Option ((List Int) × Int × Int × (List (List Int)))) (s : (List Int) × Int × Int × (List (List Int)) × Int) : Option ((List Int) × Int × Int × (List (List Int))) := match s with
  | (y1, y2, y3, y4, y5) => cond (decide (0 < y5)) (obind (spec_l4Row (y1, y2, y3) a1 a3) fun v11 => chk (List.length y4 + List.length [v11.1] ≤ lim) (rec (v11.2.1, v11.2.2.1, v11.2.2.2, (y4 ++ [v11.1]), (IntKind.i64.wrap (y5 - 1))))) (some (y1, y2, y3, y4))
def spec_l5Rel (a0 : Y202) (a1 : Int) (a2 : Int) (a3 : Int) : Option (Y25 × Y202) := obind (spec_l1Below a0 (IntKind.i64.wrap (a2 + 1))) fun v2 => obind (loopF (spec_l5Rel_B1 a1 a3) fz (v2.2.1, v2.2.2.1, v2.2.2.2, ([] : List (List Int)), v2.1)) fun o1 => (match o1 with
  | (z4, z5, z6, z7) => (obind (spec_NewRelation a1 z7) fun v14 => some (v14.1, (z4, z5, z6))))
theorem spec_l5Rel_s {a0 : Y202} {a1 : Int} {a2 : Int} {a3 : Int} {r : Y25 × Y202} (h : spec_l5Rel a0 a1 a2 a3 = some r) : PtrAt Try.prog 169 [aL cu8 a0.1, nI a0.2.1, nI a0.2.2] [nI a1, nI a2, nI a3] [aL cu8 r.2.1, nI r.2.2.1, nI r.2.2.2] (.agg (c26_oo r.1)) := by
 unfold spec_l5Rel at h
 refine stp lit169 rfl (rn 1 rfl (rs (qBs c31_o [] rfl rfl rfl zc31_o (sp 1 rfl (evn (ls_seq_k fun K1 hK1 => rs (sp 3 rfl (?_))))))))
 obtain ⟨v2, g3, h⟩ := ob_some h
 refine qP rfl rfl rfl rfl (qs rfl eran) (spec_l1Below_s g3) (sp 1 rfl (evn ?_))
 obtain ⟨o1, hl, hr1⟩ := ob_some h
 have kXB1 : ∀ {z4 : List Int} {z5 : Int} {z6 : Int} {z7 : List (List Int)}, (z4, z5, z6, z7) = o1 → Jn K1 [(0, .box [aL cu8 z4, nI z5, nI z6]), (1, nI a1), (8, .box [nI 0, oL 31 c31_o []]), (9, oL 31 c31_o z7)] := by
  intro z4 z5 z6 z7 h σ' hk
  subst h
  replace h := hr1
  try dsimp only at h
  refine hK1 _ (lh hk rfl (rs (sp 2 rfl (?_))))
  obtain ⟨v14, g15, h⟩ := ob_some h
  exact qC (qs rfl (qa rfl (erD ec31_o _) eran)) (spec_NewRelation_s g15) (sp 6 rfl (evn (rn 1 rfl (ls_ret ((by cases h; exact ⟨.inl rfl, rfl, rfl⟩))))))
 refine ls_rec (fun (s : (List Int) × Int × Int × (List (List Int)) × Int) => match s with | (y1, y2, y3, y4, y5) => [(0, .box [aL cu8 y1, nI y2, nI y3]), (1, nI a1), (3, nI a3), (8, .box [nI 0, oL 31 c31_o []]), (9, oL 31 c31_o y4), (10, nI y5)]) _ _ _ _ hl (okr rfl) (fun _ => rfl) ?_
 rintro m ⟨y1, y2, y3, y4, y5⟩ N h hN
 unfold spec_l5Rel_B1 at h
 dsimp only at h
 refine ls_seq_k fun K8 hK8 => rn 1 rfl ?_
 rcases cond_some h with ⟨g9, h⟩ | ⟨g9, h⟩
 ·refine qT rfl g9 (ls_skip (hK8 _ (ls_seq_k fun K10 hK10 => ls_blk (rg (sp 4 rfl (?_))))))
  obtain ⟨v11, g12, h⟩ := ob_some h
  refine qP rfl rfl rfl rfl (qs rfl (qs rfl eran)) (spec_l4Row_s g12) (qBs c31_o [v11.1] rfl rfl rfl zc31_o (?_))
  obtain ⟨g13, h⟩ := chk_some h
  exact qA c31_o y4 [v11.1] rfl rfl (flat_len zc31_o [v11.1]) rfl g13 (sp 1 rfl (evn (hK10 _ (rg (sp 3 rfl (evn (hN _ _ h (okr rfl))))))))
 ·exact qF rfl g9 (ls_exit (kXB1 (Option.some.inj h) _ (okr rfl)))
def spec_l1PickInt (a0 : Y202) (a1 : List Int) : Option (Int × Y202) := obind (spec_l1Below a0 (List.length a1 : Int)) fun v1 => obind (geti a1 v1.1) fun e3 => some (e3, v1.2)
theorem spec_l1PickInt_s {a0 : Y202} {a1 : List Int} {r : Int × Y202} (h : spec_l1PickInt a0 a1 = some r) : PtrAt Try.prog 170 [aL cu8 a0.1, nI a0.2.1, nI a0.2.2] [dL ci64 a1] [aL cu8 r.2.1, nI r.2.2.1, nI r.2.2.2] (nI r.1) := by
 unfold spec_l1PickInt at h
 refine stp lit170 rfl (rn 1 rfl (rs (sp 4 rfl (?_))))
 obtain ⟨v1, g2, h⟩ := ob_some h
 refine qP rfl rfl rfl rfl (qs rfl eran) (spec_l1Below_s g2) (?_)
 obtain ⟨e3, g4, h⟩ := ob_some h
 exact qI rfl zci64 g4 (sp 2 rfl (evn (ls_ret ((by cases h; exact ⟨.inl rfl, rfl, rfl⟩)))))
theorem dkc31_o (x : List Int) : deepL (c31_o x) = true := (dcc (dco (fun _ => rfl) _ _) dcn)
def spec_l5Any_J1 (x8 : List Int) (x9 : Int) (x10 : Int) (x11 : Int) (x12 : List (List Int)) : Option (Y25 × Y202) := some ((x11, x12), (x8, x9, x10))
def spec_l5Any_J2 (v3 : Y25 × Y202) (v6 : Int × Y202) (x23 : Bool) : Option (Y25 × Y202) := cond x23 (chk (0 < List.length v3.1.2) (obind (geti v3.1.2 0) fun e27 => chk (0 < List.length e27) (obind (geti v3.1.2 0) fun e31 => obind (spec_l1PickInt v6.2 [-1, 100, 99]) fun v33 => obind (geti e27 0) fun e35 => spec_l5Any_J1 v33.2.1 v33.2.2.1 v33.2.2.2 v3.1.1 (seti v3.1.2 0 (seti e27 0 v33.1))))) (spec_l5Any_J1 v6.2.1 v6.2.2.1 v6.2.2.2 v3.1.1 v3.1.2)
def spec_l5Any (a0 : Y202) : Option (Y25 × Y202) := obind (spec_l1Below a0 4) fun v1 => obind (spec_l5Rel v1.2 v1.1 6 4) fun v3 => obind (spec_l1Below v3.2 14) fun v6 => cond (v6.1 == 0) (obind (spec_l1PickInt v6.2 [-1, 6, IntKind.i64.wrap (v3.1.1 + 1)]) fun v14 => spec_l5Any_J1 v14.2.1 v14.2.2.1 v14.2.2.2 v14.1 v3.1.2) (cond (v6.1 == 1) (obind (spec_l4Row v6.2 (if 0 < v3.1.1 then v3.1.1 else 0) 4) fun v18 => chk (List.length v3.1.2 + List.length [v18.1] ≤ lim) (spec_l5Any_J1 v18.2.1 v18.2.2.1 v18.2.2.2 v3.1.1 (v3.1.2 ++ [v18.1]))) (cond (v6.1 == 2) (cond (decide (0 < (List.length v3.1.2 : Int))) (spec_l5Any_J2 v3 v6 (decide (0 < v3.1.1))) (spec_l5Any_J2 v3 v6 false)) (spec_l5Any_J1 v6.2.1 v6.2.2.1 v6.2.2.2 v3.1.1 v3.1.2)))
theorem spec_l5Any_s {a0 : Y202} {r : Y25 × Y202} (h : spec_l5Any a0 = some r) : PtrAt Try.prog 82 [aL cu8 a0.1, nI a0.2.1, nI a0.2.2] [] [aL cu8 r.2.1, nI r.2.2.1, nI r.2.2.2] (.agg (c26_oo r.1)) := by
 unfold spec_l5Any at h
 refine stp lit82 rfl (rn 1 rfl (rs (sp 2 rfl (?_))))
 obtain ⟨v1, g2, h⟩ := ob_some h
 refine qP rfl rfl rfl rfl (qs rfl eran) (spec_l1Below_s g2) (?_)
 obtain ⟨v3, g4, h⟩ := ob_some h
 refine qP rfl rfl rfl rfl (qs rfl (qs rfl (qs rfl eran))) (spec_l5Rel_s g4) (sp 2 rfl (evn (ls_seq_k fun K5 hK5 => rs (sp 1 rfl (?_)))))
 obtain ⟨v6, g7, h⟩ := ob_some h
 refine qP rfl rfl rfl rfl (qs rfl eran) (spec_l1Below_s g7) (evn (ls_blk (rn 1 rfl ?_)))
 have kJ1 : ∀ {x8 : List Int} {x9 : Int} {x10 : Int} {x11 : Int} {x12 : List (List Int)}, spec_l5Any_J1 x8 x9 x10 x11 x12 = some r → Jn K5 [(0, .box [aL cu8 x8, nI x9, nI x10]), (2, .box [nI 0, oL 31 c31_o []]), (3, .box [nI x11, oL 31 c31_o x12])] := by
  intro x8 x9 x10 x11 x12 h σ' hk
  unfold spec_l5Any_J1 at h
  exact hK5 _ (lh hk rfl (rn 1 rfl (ls_ret ((by cases h; exact ⟨.inl rfl, rfl, rfl⟩)))))
 rcases cond_some h with ⟨g13, h⟩ | ⟨g13, h⟩
 ·refine qT rfl g13 (rg (sp 4 rfl (qBs ci64 [-1, 6, IntKind.i64.wrap (v3.1.1 + 1)] rfl rfl rfl zci64 (?_))))
  obtain ⟨v14, g15, h⟩ := ob_some h
  exact qP rfl rfl rfl rfl (qa rfl (erO eci64 _) eran) (spec_l1PickInt_s g15) (sp 2 rfl (evn (kJ1 h _ (okr rfl))))
 ·refine qF rfl g13 (rn 1 rfl ?_)
  rcases cond_some h with ⟨g16, h⟩ | ⟨g16, h⟩
  ·refine qT rfl g16 (qk [0, 2, 3] rfl (ls_hg (gLb0 (q := 900003) (b := 3) [nI v3.1.1] [] rfl rfl rfl ?_)))
   intro gg17
   refine qk [0, 2, 3, 900003] rfl (rgt 8 (by kernel_rfl) (sd 6 rfl (?_)))
   obtain ⟨v18, g19, h⟩ := ob_some h
   refine ed rfl (qP rfl rfl rfl rfl (qs rfl (qs rfl eran)) (spec_l4Row_s g19) (ed rfl (qBs c31_o [v18.1] rfl rfl rfl zc31_o (evdn (gDs (q := 900003) (b := 22) rfl rfl rfl rfl ?_)))))
   obtain ⟨g20, h⟩ := chk_some h
   exact qA c31_o v3.1.2 [v18.1] rfl rfl (flat_len zc31_o [v18.1]) rfl g20 (sp 2 rfl (evn (kJ1 h _ (okr rfl))))
  ·refine qF rfl g16 (rn 1 rfl ?_)
   rcases cond_some h with ⟨g21, h⟩ | ⟨g21, h⟩
   ·refine qT rfl g21 (rk fun K22 hK22 => ?_)
    have kJ2 : ∀ {x23 : Bool}, spec_l5Any_J2 v3 v6 x23 = some r → Jn K22 [(0, .box (c203_a v6.2)), (2, .box [nI 0, oL 31 c31_o []]), (3, .box [nI v3.1.1, oL 31 c31_o v3.1.2]), (41, .bool x23)] := by
     intro x23 h σ' hk
     unfold spec_l5Any_J2 at h
     refine hK22 _ (lh hk rfl ?_)
     rcases cond_some h with ⟨g24, h⟩ | ⟨g24, h⟩
     ·refine qT rfl g24 (qk [0, 2, 3] rfl ?_)
      obtain ⟨g25, h⟩ := chk_some h
      refine ls_hg (gLb (q := 900004) (b := 3) [nI v3.1.1] [] rfl rfl rfl g25 ?_)
      intro gg26 mm26
      refine qk [0, 2, 3, 900004] rfl ?_
      obtain ⟨e27, g28, h⟩ := ob_some h
      obtain ⟨g29, h⟩ := chk_some h
      refine ls_hg (gLg (i := 0) (es := 1) 0 rfl rfl zc31_o g28 rfl rfl g29 ?_)
      intro gg30 mm30
      refine qk [0, 2, 3, 900003, 900004] rfl (ls_gh (ls_gh (rgt 7 (by kernel_rfl) (sd 2 rfl (?_)))))
      obtain ⟨e31, g32, h⟩ := ob_some h
      refine ed rfl (qIt rfl rfl rfl rfl g32 (?_))
      refine ed rfl (qLh rfl rfl rfl rfl rfl rfl (gk zc31_o g32 rfl) (?_))
      refine sd 1 rfl (ed rfl (qBs ci64 [-1, 100, 99] rfl rfl rfl zci64 (?_)))
      obtain ⟨v33, g34, h⟩ := ob_some h
      refine ed rfl (qP rfl rfl rfl rfl (qa rfl (erO eci64 _) eran) (spec_l1PickInt_s g34) (evdn (gh_k ?_)))
      obtain ⟨e35, g36, h⟩ := ob_some h
      refine qIt rfl rfl rfl rfl g36 (?_)
      refine qSt (y0 := e35) (i := 0) (es := 1) 0 v33.1 [0, 2, 3, 900004] rfl rfl rfl rfl rfl rfl rfl rfl rfl rfl zci64 g36 (fun _ => rfl) (dcc rfl dcn) (yc (snc (sA (aca (fun _ => rfl) _)) (snc rfl (snc rfl rfl))) (yc (snc rfl (snc (sO (dco dkc31_o _ _)) rfl)) (yc (snc rfl (snc rfl rfl)) (yc (sgh (dcf dkc31_o _)) yn)))) (?_)
      exact evn (gDg (i := 0) (es := 1) 0 (seti e27 0 v33.1) rfl rfl zc31_o g28 rfl (sl rfl) rfl (gDb (q := 900004) (b := 3) [nI v3.1.1] [] rfl rfl rfl (sl rfl) (kJ1 h _ (okr rfl))))
     ·exact qF rfl g24 (ls_skip (kJ1 h _ (okr rfl)))
    refine sp 5 rfl (?_)
    rcases cond_some h with ⟨g37, h⟩ | ⟨g37, h⟩
    ·exact qg 37 g37 rfl (sp 4 rfl (evn (kJ2 h _ (okr rfl))))
    ·exact qg 37 g37 rfl (sp 4 rfl (evn (kJ2 h _ (okr rfl))))
   ·exact qF rfl g21 (ls_skip (kJ1 h _ (okr rfl)))
def spec_l1Once (a0 : Y202) (a1 : Int) : Option (Bool × Y202) := obind (spec_l1Below a0 a1) fun v1 => some ((v1.1 == 0), v1.2)
theorem spec_l1Once_s {a0 : Y202} {a1 : Int} {r : Bool × Y202} (h : spec_l1Once a0 a1 = some r) : PtrAt Try.prog 161 [aL cu8 a0.1, nI a0.2.1, nI a0.2.2] [nI a1] [aL cu8 r.2.1, nI r.2.2.1, nI r.2.2.2] (.bool r.1) := by
 unfold spec_l1Once at h
 refine stp lit161 rfl (rn 1 rfl (rs (sp 2 rfl (?_))))
 obtain ⟨v1, g2, h⟩ := ob_some h
 exact qP rfl rfl rfl rfl (qs rfl eran) (spec_l1Below_s g2) (sp 2 rfl (evn (ls_ret ((by cases h; exact ⟨.inl rfl, rfl, rfl⟩)))))
def spec_l36Col (a0 : Y202) (a1 : Y25) : Option (Int × Y202) := obind (spec_l1Once a0 10) fun v2 => cond v2.1 (obind (spec_l1PickInt v2.2 [-1, a1.1]) fun v5 => some (v5.1, v5.2)) (obind (spec_l1Below v2.2 (if 1 < a1.1 then a1.1 else 1)) fun v7 => some (v7.1, v7.2))
theorem spec_l36Col_s {a0 : Y202} {a1 : Y25} {r : Int × Y202} (h : spec_l36Col a0 a1 = some r) : PtrAt Try.prog 83 [aL cu8 a0.1, nI a0.2.1, nI a0.2.2] [.agg (c26_dd a1)] [aL cu8 r.2.1, nI r.2.2.1, nI r.2.2.2] (nI r.1) := by
 unfold spec_l36Col at h
 refine stp lit83 rfl (rn 1 rfl (ls_seq_k fun K1 hK1 => rs (sp 1 rfl (?_))))
 obtain ⟨v2, g3, h⟩ := ob_some h
 refine qP rfl rfl rfl rfl (qs rfl eran) (spec_l1Once_s g3) (evn ?_)
 rcases cond_some h with ⟨g4, h⟩ | ⟨g4, h⟩
 ·refine qT rfl g4 (rs (sp 3 rfl (qBs ci64 [-1, a1.1] rfl rfl rfl zci64 (?_))))
  obtain ⟨v5, g6, h⟩ := ob_some h
  exact qP rfl rfl rfl rfl (qa rfl (erO eci64 _) eran) (spec_l1PickInt_s g6) (sp 1 rfl (evn (ls_ret ((by cases h; exact ⟨.inl rfl, rfl, rfl⟩)))))
 ·refine qF rfl g4 (ls_skip (hK1 _ (rs (sp 4 rfl (?_)))))
  obtain ⟨v7, g8, h⟩ := ob_some h
  exact qP rfl rfl rfl rfl (qs rfl eran) (spec_l1Below_s g8) (sp 1 rfl (evn (ls_ret ((by cases h; exact ⟨.inl rfl, rfl, rfl⟩)))))
def c26_do (x : Y25) : List V := [nI x.1, dL c31_o x.2]
theorem zc26_do (x : Y25) : (c26_do x).length = 2 := rfl
theorem ec26_do (x : Y25) : erL (c26_do x) = c26_dd x := (erc rfl (erc (erD ec31_o _) rfl))
def spec_DrawSplitHeavy (a0 : List Int) : Option (Y25 × Int × Int) := obind (spec_l1New a0) fun v1 => obind (spec_l5Any v1) fun v3 => obind (spec_l36Col v3.2 v3.1) fun v5 => obind (spec_l1Below v5.2 5) fun v7 => some (v3.1, v5.1, IntKind.i64.wrap (v7.1 - 1))
theorem spec_DrawSplitHeavy_s {a0 : List Int} {r : Y25 × Int × Int} (h : spec_DrawSplitHeavy a0 = some r) : SoundAt Try.prog 12 [aL cu8 a0] (.tup [.agg (c26_do r.1), nI r.2.1, nI r.2.2]) := by
 unfold spec_DrawSplitHeavy at h
 refine st lit12 rfl (rn 1 rfl (rs (sp 1 rfl (?_))))
 obtain ⟨v1, g2, h⟩ := ob_some h
 refine qN rfl rfl rfl rfl (spec_l1New_s g2) (sp 1 rfl (evn (rs (sp 1 rfl (?_)))))
 obtain ⟨v3, g4, h⟩ := ob_some h
 refine qP rfl rfl rfl rfl eran (spec_l5Any_s g4) (sp 2 rfl (evn (rd (by kernel_rfl) (sd 3 rfl (?_)))))
 obtain ⟨v5, g6, h⟩ := ob_some h
 refine ed rfl (qP rfl rfl rfl rfl (qa rfl (erg (erc rfl (erc (erD ec31_o _) rfl))) eran) (spec_l36Col_s g6) (sd 1 rfl (?_)))
 obtain ⟨v7, g8, h⟩ := ob_some h
 exact ed rfl (qP rfl rfl rfl rfl (qs rfl eran) (spec_l1Below_s g8) (sd 4 rfl (evdn (ls_ret ((by cases h; exact ⟨.inl rfl, rfl⟩))))))
def impl_within_J1 (x2 : Bool) : Option (Bool) := some x2
def impl_within (a0 : Int) (a1 : Int) (a2 : Int) : Option (Bool) := cond (decide (a1 ≤ a0)) (impl_within_J1 (decide (a0 ≤ a2))) (impl_within_J1 false)
theorem impl_within_s {a0 : Int} {a1 : Int} {a2 : Int} {r : Bool} (h : impl_within a0 a1 a2 = some r) : SoundAt Try.prog 86 [nI a0, nI a1, nI a2] (.bool r) := by
 unfold impl_within at h
 refine st lit86 rfl (rn 1 rfl (rk fun K1 hK1 => ?_))
 have kJ1 : ∀ {x2 : Bool}, impl_within_J1 x2 = some r → Jn K1 [(6, .bool x2)] := by
  intro x2 h σ' hk
  unfold impl_within_J1 at h
  exact hK1 _ (lh hk rfl (ls_ret ((by cases h; exact ⟨.inl rfl, rfl⟩))))
 refine sp 4 rfl (?_)
 rcases cond_some h with ⟨g3, h⟩ | ⟨g3, h⟩
 ·exact qg 10 g3 rfl (sp 5 rfl (evn (kJ1 h _ (okr rfl))))
 ·exact qg 10 g3 rfl (sp 5 rfl (evn (kJ1 h _ (okr rfl))))
def impl_AreValidValues_B1 (a0 : List Int) (rec : Int → Option (Sum (Unit) (Bool))) (y1 : Int) : Option (Sum (Unit) (Bool)) := cond (decide (y1 < (List.length a0 : Int))) (obind (geti a0 y1) fun e5 => obind (impl_within e5 0 99) fun v7 => cond (!v7) (some (.inr false)) (rec (IntKind.i64.wrap (y1 + 1)))) (some (.inl ()))
def impl_AreValidValues (a0 : List Int) : Option (Bool) := obind (loopF (impl_AreValidValues_B1 a0) fz 0) fun o1 => (match o1 with
  | .inl _ => (some true)
  | .inr r => some r)
theorem impl_AreValidValues_s {a0 : List Int} {r : Bool} (h : impl_AreValidValues a0 = some r) : SoundAt Try.prog 173 [dL ci64 a0] (.bool r) := by
 unfold impl_AreValidValues at h
 refine st lit173 rfl (rn 1 rfl (ls_seq_k fun K1 hK1 => rn 1 rfl ?_))
 obtain ⟨o1, hl, hr1⟩ := ob_some h
 have kXB1 : (.inl ()) = o1 → Jn K1 [] := by
  intro h σ' hk
  subst h
  replace h := hr1
  try dsimp only at h
  exact hK1 _ (lh hk rfl (rn 1 rfl (ls_ret ((by cases h; exact ⟨.inl rfl, rfl⟩)))))
 refine ls_rec (fun (y1 : Int) => [(5, dL ci64 a0), (6, nI (List.length a0 : Int)), (7, nI y1)]) _ _ _ _ hl (okr rfl) (fun _ => rfl) ?_
 rintro m y1 N h hN
 unfold impl_AreValidValues_B1 at h
 refine rn 1 rfl (ls_seq_k fun K2 hK2 => ?_)
 rcases cond_some h with ⟨g3, h⟩ | ⟨g3, h⟩
 ·refine qT rfl g3 (ls_skip (hK2 _ (ls_seq_k fun K4 hK4 => ls_blk (rs ?_))))
  obtain ⟨e5, g6, h⟩ := ob_some h
  refine qI rfl zci64 g6 (sp 2 rfl (evn (rs (sp 1 rfl (?_)))))
  obtain ⟨v7, g8, h⟩ := ob_some h
  refine qC (qs rfl (qs rfl (qs rfl eran))) (impl_within_s g8) (sp 1 rfl (evn ?_))
  rcases cond_some h with ⟨g9, h⟩ | ⟨g9, h⟩
  ·exact qT rfl g9 (rn 1 rfl (ls_ret ((by cases h; cases hr1; exact ⟨.inl rfl, rfl⟩))))
  ·exact qF rfl g9 (ls_skip (hK4 _ (rg (sp 2 rfl (evn (hN _ _ h (okr rfl)))))))
 ·exact qF rfl g3 (ls_exit (kXB1 (Option.some.inj h) _ trivial))
def impl_compareInts (a0 : Int) (a1 : Int) : Option (Int) := cond (decide (a0 < a1)) (some (-1)) (cond (decide (a1 < a0)) (some 1) (some 0))
theorem impl_compareInts_s {a0 : Int} {a1 : Int} {r : Int} (h : impl_compareInts a0 a1 = some r) : SoundAt Try.prog 238 [nI a0, nI a1] (nI r) := by
 unfold impl_compareInts at h
 refine st lit238 rfl (rn 1 rfl (ls_seq_k fun K1 hK1 => ls_blk (rn 1 rfl ?_)))
 rcases cond_some h with ⟨g2, h⟩ | ⟨g2, h⟩
 ·exact qT rfl g2 (rn 1 rfl (ls_ret ((by cases h; exact ⟨.inl rfl, rfl⟩))))
 ·refine qF rfl g2 (rn 1 rfl ?_)
  rcases cond_some h with ⟨g3, h⟩ | ⟨g3, h⟩
  ·exact qT rfl g3 (rn 1 rfl (ls_ret ((by cases h; exact ⟨.inl rfl, rfl⟩))))
  ·exact qF rfl g3 (ls_skip (hK1 _ (rn 1 rfl (qk [4] rfl (ls_ret ((by cases h; exact ⟨.inl rfl, rfl⟩)))))))
def impl_CompareRows_B1 (a0 : List Int) (a1 : List Int) (rec : Int → Option (Sum (Unit) (Int))) (y1 : Int) : Option (Sum (Unit) (Int)) := cond (decide (y1 < (List.length a0 : Int))) (cond (decide (y1 < (List.length a1 : Int))) (obind (geti a0 y1) fun e6 => obind (geti a1 y1) fun e8 => cond (e6 != e8) (obind (geti a0 y1) fun e11 => obind (geti a1 y1) fun e13 => obind (impl_compareInts e11 e13) fun v15 => some (.inr v15)) (rec (IntKind.i64.wrap (y1 + 1)))) (some (.inl ()))) (some (.inl ()))
def impl_CompareRows (a0 : List Int) (a1 : List Int) : Option (Int) := obind (loopF (impl_CompareRows_B1 a0 a1) fz 0) fun o1 => (match o1 with
  | .inl _ => (obind (impl_compareInts (List.length a0 : Int) (List.length a1 : Int)) fun v17 => some v17)
  | .inr r => some r)
theorem impl_CompareRows_s {a0 : List Int} {a1 : List Int} {r : Int} (h : impl_CompareRows a0 a1 = some r) : SoundAt Try.prog 223 [dL ci64 a0, dL ci64 a1] (nI r) := by
 unfold impl_CompareRows at h
 refine st lit223 rfl (rn 1 rfl (ls_seq_k fun K1 hK1 => rn 1 rfl ?_))
 obtain ⟨o1, hl, hr1⟩ := ob_some h
 have kXB1 : (.inl ()) = o1 → Jn K1 [(0, dL ci64 a0), (1, dL ci64 a1)] := by
  intro h σ' hk
  subst h
  replace h := hr1
  try dsimp only at h
  refine hK1 _ (lh hk rfl (rs (sp 4 rfl (?_))))
  obtain ⟨v17, g18, h⟩ := ob_some h
  exact qC (qs rfl (qs rfl eran)) (impl_compareInts_s g18) (sp 1 rfl (evn (ls_ret ((by cases h; exact ⟨.inl rfl, rfl⟩)))))
 refine ls_rec (fun (y1 : Int) => [(0, dL ci64 a0), (1, dL ci64 a1), (5, nI y1)]) _ _ _ _ hl (okr rfl) (fun _ => rfl) ?_
 rintro m y1 N h hN
 unfold impl_CompareRows_B1 at h
 refine ls_seq_k fun K2 hK2 => rs (sp 5 rfl (?_))
 rcases cond_some h with ⟨g3, h⟩ | ⟨g3, h⟩
 ·refine qg 10 g3 rfl (sp 5 rfl (evn ?_))
  rcases cond_some h with ⟨g4, h⟩ | ⟨g4, h⟩
  ·refine qT rfl g4 (ls_skip (hK2 _ (ls_seq_k fun K5 hK5 => ls_blk (rd (by kernel_rfl) (sd 2 rfl (?_))))))
   obtain ⟨e6, g7, h⟩ := ob_some h
   refine ed rfl (qI rfl zci64 g7 (sd 3 rfl (?_)))
   obtain ⟨e8, g9, h⟩ := ob_some h
   refine ed rfl (qI rfl zci64 g9 (sd 2 rfl (evdn ?_)))
   rcases cond_some h with ⟨g10, h⟩ | ⟨g10, h⟩
   ·refine qT rfl g10 (rd (by kernel_rfl) (sd 2 rfl (?_)))
    obtain ⟨e11, g12, h⟩ := ob_some h
    refine ed rfl (qI rfl zci64 g12 (sd 3 rfl (?_)))
    obtain ⟨e13, g14, h⟩ := ob_some h
    refine ed rfl (qI rfl zci64 g14 (sd 1 rfl (?_)))
    obtain ⟨v15, g16, h⟩ := ob_some h
    exact ed rfl (qC (qs rfl (qs rfl eran)) (impl_compareInts_s g16) (sd 1 rfl (evdn (qk [4] rfl (ls_ret ((by cases h; cases hr1; exact ⟨.inl rfl, rfl⟩)))))))
   ·exact qF rfl g10 (ls_skip (hK5 _ (rg (sp 3 rfl (evn (hN _ _ h (okr rfl)))))))
  ·exact qF rfl g4 (ls_exit (kXB1 (Option.some.inj h) _ (okr rfl)))
 ·exact qg 10 g3 rfl (sp 5 rfl (evn (qF rfl rfl (ls_exit (kXB1 (Option.some.inj h) _ (okr rfl))))))
def impl_rowsValid_J2 (rec : Int → Option (Sum (Unit) (Bool))) (y1 : Int) (x13 : Bool) : Option (Sum (Unit) (Bool)) := cond x13 (some (.inr false)) (rec (IntKind.i64.wrap (y1 + 1)))
def impl_rowsValid_B1 (a0 : Int) (a1 : List (List Int)) (rec : Int → Option (Sum (Unit) (Bool))) (y1 : Int) : Option (Sum (Unit) (Bool)) := cond (decide (y1 < (List.length a1 : Int))) (obind (geti a1 y1) fun e10 => cond ((List.length e10 : Int) != a0) (impl_rowsValid_J2 rec y1 true) (obind (impl_AreValidValues e10) fun v16 => cond (!v16) (impl_rowsValid_J2 rec y1 true) (cond (decide (0 < y1)) (obind (geti a1 (IntKind.i64.wrap (y1 - 1))) fun e20 => obind (impl_CompareRows e20 e10) fun v22 => impl_rowsValid_J2 rec y1 (decide (0 ≤ v22))) (impl_rowsValid_J2 rec y1 false)))) (some (.inl ()))
def impl_rowsValid (a0 : Int) (a1 : List (List Int)) : Option (Bool) := obind (impl_within a0 0 5) fun v2 => cond (!v2) (some false) (cond (decide (4000 < (List.length a1 : Int))) (some false) (obind (loopF (impl_rowsValid_B1 a0 a1) fz 0) fun o1 => (match o1 with
  | .inl _ => (some true)
  | .inr r => some r)))
theorem impl_rowsValid_s {a0 : Int} {a1 : List (List Int)} {r : Bool} (h : impl_rowsValid a0 a1 = some r) : SoundAt Try.prog 172 [nI a0, dL c31_d a1] (.bool r) := by
 unfold impl_rowsValid at h
 refine st lit172 rfl (rn 1 rfl (ls_seq_k fun K1 hK1 => rs (sp 1 rfl (?_))))
 obtain ⟨v2, g3, h⟩ := ob_some h
 refine qC (qs rfl (qs rfl (qs rfl eran))) (impl_within_s g3) (sp 2 rfl (?_))
 rcases cond_some h with ⟨g4, h⟩ | ⟨g4, h⟩
 ·exact qg 10 g4 rfl (sp 4 rfl (evn (qT rfl rfl (rn 1 rfl (ls_ret ((by cases h; exact ⟨.inl rfl, rfl⟩)))))))
 ·refine qg 10 g4 rfl (sp 4 rfl (evn ?_))
  rcases cond_some h with ⟨g5, h⟩ | ⟨g5, h⟩
  ·exact qT rfl g5 (rn 1 rfl (ls_ret ((by cases h; exact ⟨.inl rfl, rfl⟩))))
  ·refine qF rfl g5 (ls_skip (hK1 _ (ls_seq_k fun K6 hK6 => rn 1 rfl (qk [0, 1, 15, 16, 17] rfl ?_))))
   obtain ⟨o1, hl, hr1⟩ := ob_some h
   have kXB1 : (.inl ()) = o1 → Jn K6 [] := by
    intro h σ' hk
    subst h
    replace h := hr1
    try dsimp only at h
    exact hK6 _ (lh hk rfl (rn 1 rfl (ls_ret ((by cases h; exact ⟨.inl rfl, rfl⟩)))))
   refine ls_rec (fun (y1 : Int) => [(0, nI a0), (1, dL c31_d a1), (15, dL c31_d a1), (16, nI (List.length a1 : Int)), (17, nI y1)]) _ _ _ _ hl (okr rfl) (fun _ => rfl) ?_
   rintro m y1 N h hN
   unfold impl_rowsValid_B1 at h
   refine rn 1 rfl (ls_seq_k fun K7 hK7 => ?_)
   rcases cond_some h with ⟨g8, h⟩ | ⟨g8, h⟩
   ·refine qT rfl g8 (ls_skip (hK7 _ (ls_seq_k fun K9 hK9 => ls_blk (rs (sp 1 rfl (?_))))))
    obtain ⟨e10, g11, h⟩ := ob_some h
    refine qI rfl zc31_d g11 (sp 3 rfl (evn (rk fun K12 hK12 => ?_)))
    have kJ2 : ∀ {x13 : Bool}, impl_rowsValid_J2 (loopF (impl_rowsValid_B1 a0 a1) m) y1 x13 = some o1 → Jn K12 [(0, nI a0), (1, dL c31_d a1), (15, dL c31_d a1), (16, nI (List.length a1 : Int)), (17, nI y1), (44, .bool x13)] := by
     intro x13 h σ' hk
     unfold impl_rowsValid_J2 at h
     refine hK12 _ (lh hk rfl ?_)
     rcases cond_some h with ⟨g14, h⟩ | ⟨g14, h⟩
     ·exact qT rfl g14 (rn 1 rfl (ls_ret ((by cases h; cases hr1; exact ⟨.inl rfl, rfl⟩))))
     ·exact qF rfl g14 (ls_skip (hK9 _ (rg (sp 2 rfl (evn (hN _ _ h (okr rfl)))))))
    refine sp 5 rfl (?_)
    rcases cond_some h with ⟨g15, h⟩ | ⟨g15, h⟩
    ·exact qg 26 g15 rfl (sp 18 rfl (evn (kJ2 h _ (okr rfl))))
    ·refine qg 26 g15 rfl (sp 1 rfl (?_))
     obtain ⟨v16, g17, h⟩ := ob_some h
     refine oGR rfl rfl (qC (qa rfl (erD eci64 _) eran) (impl_AreValidValues_s g17) (sp 3 rfl (?_)))
     rcases cond_some h with ⟨g18, h⟩ | ⟨g18, h⟩
     ·exact qg 31 g18 rfl (sp 13 rfl (evn (kJ2 h _ (okr rfl))))
     ·refine qg 31 g18 rfl (sp 3 rfl (?_))
      rcases cond_some h with ⟨g19, h⟩ | ⟨g19, h⟩
      ·refine qg 34 g19 rfl (sp 3 rfl (?_))
       obtain ⟨e20, g21, h⟩ := ob_some h
       refine oGR rfl rfl (qI rfl zc31_d g21 (sp 2 rfl (?_)))
       obtain ⟨v22, g23, h⟩ := ob_some h
       exact oGR rfl rfl (qC (qa rfl (erD eci64 _) (qa rfl (erD eci64 _) eran)) (impl_CompareRows_s g23) (sp 3 rfl (evn (kJ2 h _ (okr rfl)))))
      ·exact qg 34 g19 rfl (sp 10 rfl (evn (kJ2 h _ (okr rfl))))
   ·exact qF rfl g8 (ls_exit (kXB1 (Option.some.inj h) _ trivial))
def impl_IsValidRelation (a0 : Y25) : Option (Bool) := obind (impl_rowsValid a0.1 a0.2) fun v1 => some v1
theorem impl_IsValidRelation_s {a0 : Y25} {r : Bool} (h : impl_IsValidRelation a0 = some r) : SoundAt Try.prog 85 [.agg (c26_dd a0)] (.bool r) := by
 unfold impl_IsValidRelation at h
 refine st lit85 rfl (rn 1 rfl (rs (sp 4 rfl (?_))))
 obtain ⟨v1, g2, h⟩ := ob_some h
 exact qC (qs rfl (qa rfl (erD ec31_d _) eran)) (impl_rowsValid_s g2) (sp 1 rfl (evn (ls_ret ((by cases h; exact ⟨.inl rfl, rfl⟩)))))
def impl_ColumnDegrees_B1 (a0 : Y25) (a1 : Int) (rec : ((List Int) × Int) → Option ((List Int))) (s : (List Int) × Int) : Option ((List Int)) := match s with
  | (y1, y2) => cond (decide (y2 < (List.length a0.2 : Int))) (obind (geti a0.2 y2) fun e14 => obind (geti e14 a1) fun e16 => obind (geti y1 e16) fun e18 => obind (geti y1 e16) fun e20 => rec ((seti y1 e16 (IntKind.i64.wrap (e18 + 1))), (IntKind.i64.wrap (y2 + 1)))) (some y1)
def impl_ColumnDegrees_J3 (rec : ((List Int) × (List Int) × Int) → Option ((List Int) × (List Int))) (y5 : Int) (x30 : List Int) (x31 : List Int) : Option ((List Int) × (List Int)) := rec (x30, x31, (IntKind.i64.wrap (y5 + 1)))
def impl_ColumnDegrees_B2 (z10 : List Int) (rec : ((List Int) × (List Int) × Int) → Option ((List Int) × (List Int))) (s : (List Int) × (List Int) × Int) : Option ((List Int) × (List Int)) := match s with
  | (y3, y4, y5) => cond (decide (y5 < (List.length z10 : Int))) (obind (geti z10 y5) fun e28 => cond (decide (0 < e28)) (chk (List.length y3 + List.length [y5] ≤ lim) (chk (List.length y4 + List.length [e28] ≤ lim) (impl_ColumnDegrees_J3 rec y5 (y3 ++ [y5]) (y4 ++ [e28])))) (impl_ColumnDegrees_J3 rec y5 y3 y4)) (some (y3, y4))
def impl_ColumnDegrees (a0 : Y25) (a1 : Int) : Option ((List Int) × (List Int)) := obind (impl_IsValidRelation a0) fun v2 => cond (!v2) (some (([] : List Int), ([] : List Int))) (obind (impl_within a1 0 (IntKind.i64.wrap (a0.1 - 1))) fun v5 => cond (!v5) (some (([] : List Int), ([] : List Int))) (chk ((0 : Int) ≤ 100 ∧ Int.toNat 100 ≤ lim) (obind (loopF (impl_ColumnDegrees_B1 a0 a1) fz ((List.replicate (Int.toNat 100) (0 : Int)), 0)) fun z10 => obind (loopF (impl_ColumnDegrees_B2 z10) fz (([] : List Int), ([] : List Int), 0)) fun o2 => (match o2 with
  | (z23, z24) => (some (z23, z24))))))
theorem impl_ColumnDegrees_s {a0 : Y25} {a1 : Int} {r : (List Int) × (List Int)} (h : impl_ColumnDegrees a0 a1 = some r) : SoundAt Try.prog 14 [.agg (c26_dd a0), nI a1] (.tup [oL 3 ci64 r.1, oL 3 ci64 r.2]) := by
 unfold impl_ColumnDegrees at h
 refine st lit14 rfl (rn 1 rfl (ls_seq_k fun K1 hK1 => rs (sp 1 rfl (?_))))
 obtain ⟨v2, g3, h⟩ := ob_some h
 refine qC (qa rfl (erg (erc rfl (erc (erD ec31_d _) rfl))) eran) (impl_IsValidRelation_s g3) (sp 2 rfl (?_))
 rcases cond_some h with ⟨g4, h⟩ | ⟨g4, h⟩
 ·exact qg 16 g4 rfl (sp 7 rfl (evn (qT rfl rfl (rn 1 rfl (ls_ret ((by cases h; exact ⟨.inl rfl, rfl⟩)))))))
 ·refine qg 16 g4 rfl (sp 4 rfl (?_))
  obtain ⟨v5, g6, h⟩ := ob_some h
  refine oGR rfl rfl (qC (qs rfl (qs rfl (qs rfl eran))) (impl_within_s g6) (sp 2 rfl (evn ?_)))
  rcases cond_some h with ⟨g7, h⟩ | ⟨g7, h⟩
  ·exact qT rfl g7 (rn 1 rfl (ls_ret ((by cases h; exact ⟨.inl rfl, rfl⟩))))
  ·refine qF rfl g7 (ls_skip (hK1 _ (qk [1, 2] rfl (rs ?_))))
   obtain ⟨g8, h⟩ := chk_some h
   refine qMu ci64 (0 : Int) rfl rfl rfl rfl g8 rfl (qAu rfl rfl rfl rfl (evn (ls_seq_k fun K9 hK9 => rn 1 rfl ?_)))
   obtain ⟨o1, hl, hr1⟩ := ob_some h
   have kXB1 : ∀ {z10 : List Int}, z10 = o1 → Jn K9 [(6, wL 3 ci64 z10)] := by
    intro z10 h σ' hk
    subst h
    replace h := hr1
    try dsimp only at h
    refine hK9 _ (lh hk rfl (rn 1 rfl (ls_seq_k fun K22 hK22 => rn 1 rfl ?_)))
    obtain ⟨o2, hl, hr2⟩ := ob_some h
    have kXB2 : ∀ {z23 : List Int} {z24 : List Int}, (z23, z24) = o2 → Jn K22 [(9, oL 3 ci64 z23), (10, oL 3 ci64 z24)] := by
     intro z23 z24 h σ' hk
     subst h
     replace h := hr2
     try dsimp only at h
     exact hK22 _ (lh hk rfl (rn 1 rfl (ls_ret ((by cases h; exact ⟨.inl rfl, rfl⟩)))))
    refine ls_rec (fun (s : (List Int) × (List Int) × Int) => match s with | (y3, y4, y5) => [(6, wL 3 ci64 z10), (9, oL 3 ci64 y3), (10, oL 3 ci64 y4), (42, .same 6), (43, nI (List.length z10 : Int)), (44, nI y5)]) _ _ _ _ hl (okr rfl) (fun _ => rfl) ?_
    rintro m ⟨y3, y4, y5⟩ N h hN
    unfold impl_ColumnDegrees_B2 at h
    dsimp only at h
    refine rn 1 rfl (ls_seq_k fun K25 hK25 => ?_)
    rcases cond_some h with ⟨g26, h⟩ | ⟨g26, h⟩
    ·refine qT rfl g26 (ls_skip (hK25 _ (ls_seq_k fun K27 hK27 => ls_blk (rs (sp 1 rfl (?_))))))
     obtain ⟨e28, g29, h⟩ := ob_some h
     refine qIu rfl ⟨(geti_some g29).1, (geti_some g29).2.1⟩ (qLu 0 rfl rfl rfl zci64 g29 rfl rfl rfl (sp 2 rfl (evn (rn 1 rfl ?_))))
     have kJ3 : ∀ {x30 : List Int} {x31 : List Int}, impl_ColumnDegrees_J3 (loopF (impl_ColumnDegrees_B2 z10) m) y5 x30 x31 = some o2 → Jn K27 [(6, wL 3 ci64 z10), (9, oL 3 ci64 x30), (10, oL 3 ci64 x31), (42, .same 6), (43, nI (List.length z10 : Int)), (44, nI y5)] := by
      intro x30 x31 h σ' hk
      unfold impl_ColumnDegrees_J3 at h
      exact hK27 _ (lh hk rfl (rg (sp 2 rfl (evn (hN _ _ h (okr rfl))))))
     rcases cond_some h with ⟨g32, h⟩ | ⟨g32, h⟩
     ·refine qT rfl g32 (rs (sp 2 rfl (qBs ci64 [y5] rfl rfl rfl zci64 (?_))))
      obtain ⟨g33, h⟩ := chk_some h
      refine qA ci64 y3 [y5] rfl rfl (flat_len zci64 [y5]) rfl g33 (sp 1 rfl (evn (rg (sp 2 rfl (qBs ci64 [e28] rfl rfl rfl zci64 (?_))))))
      obtain ⟨g34, h⟩ := chk_some h
      exact qA ci64 y4 [e28] rfl rfl (flat_len zci64 [e28]) rfl g34 (sp 1 rfl (evn (kJ3 h _ (okr rfl))))
     ·exact qF rfl g32 (ls_skip (kJ3 h _ (okr rfl)))
    ·exact qF rfl g26 (ls_exit (kXB2 (Option.some.inj h) _ (okr rfl)))
   refine ls_rec (fun (s : (List Int) × Int) => match s with | (y1, y2) => [(1, nI a1), (6, wL 3 ci64 y1), (26, dL c31_d a0.2), (27, nI (List.length a0.2 : Int)), (28, nI y2)]) _ _ _ _ hl (okr rfl) (fun _ => rfl) ?_
   rintro m ⟨y1, y2⟩ N h hN
   unfold impl_ColumnDegrees_B1 at h
   dsimp only at h
   refine rn 1 rfl (ls_seq_k fun K11 hK11 => ?_)
   rcases cond_some h with ⟨g12, h⟩ | ⟨g12, h⟩
   ·refine qT rfl g12 (ls_skip (hK11 _ (ls_seq_k fun K13 hK13 => ls_blk (rs ?_))))
    obtain ⟨e14, g15, h⟩ := ob_some h
    refine qI rfl zc31_d g15 (sp 2 rfl (evn (rg (sp 3 rfl (?_)))))
    obtain ⟨e16, g17, h⟩ := ob_some h
    refine qI rfl zci64 g17 (sp 1 rfl (?_))
    obtain ⟨e18, g19, h⟩ := ob_some h
    refine qIu rfl ⟨(geti_some g19).1, (geti_some g19).2.1⟩ (qLu 0 rfl rfl rfl zci64 g19 rfl rfl rfl (sp 1 rfl (?_)))
    obtain ⟨e20, g21, h⟩ := ob_some h
    exact qIu rfl ⟨(geti_some g21).1, (geti_some g21).2.1⟩ (qSu (IntKind.i64.wrap (e18 + 1)) rfl rfl zci64 ⟨(geti_some g21).1, (geti_some g21).2.1⟩ rfl rfl rfl rfl rfl rfl (evn (hK13 _ (rg (sp 2 rfl (evn (hN _ _ h (okr rfl))))))))
   ·exact qF rfl g12 (ls_exit (kXB1 (Option.some.inj h) _ (okr rfl)))
def impl_indexOf_B1 (a0 : List Int) (a1 : Int) (rec : Int → Option (Sum (Unit) (Int))) (y1 : Int) : Option (Sum (Unit) (Int)) := cond (decide (y1 < (List.length a0 : Int))) (obind (geti a0 y1) fun e5 => cond (e5 == a1) (some (.inr y1)) (rec (IntKind.i64.wrap (y1 + 1)))) (some (.inl ()))
def impl_indexOf (a0 : List Int) (a1 : Int) : Option (Int) := obind (loopF (impl_indexOf_B1 a0 a1) fz 0) fun o1 => (match o1 with
  | .inl _ => (some (-1))
  | .inr r => some r)
theorem impl_indexOf_s {a0 : List Int} {a1 : Int} {r : Int} (h : impl_indexOf a0 a1 = some r) : SoundAt Try.prog 87 [dL ci64 a0, nI a1] (nI r) := by
 unfold impl_indexOf at h
 refine st lit87 rfl (rn 1 rfl (ls_seq_k fun K1 hK1 => rn 1 rfl ?_))
 obtain ⟨o1, hl, hr1⟩ := ob_some h
 have kXB1 : (.inl ()) = o1 → Jn K1 [] := by
  intro h σ' hk
  subst h
  replace h := hr1
  try dsimp only at h
  exact hK1 _ (lh hk rfl (rn 1 rfl (ls_ret ((by cases h; exact ⟨.inl rfl, rfl⟩)))))
 refine ls_rec (fun (y1 : Int) => [(1, nI a1), (7, dL ci64 a0), (8, nI (List.length a0 : Int)), (9, nI y1)]) _ _ _ _ hl (okr rfl) (fun _ => rfl) ?_
 rintro m y1 N h hN
 unfold impl_indexOf_B1 at h
 refine rn 1 rfl (ls_seq_k fun K2 hK2 => ?_)
 rcases cond_some h with ⟨g3, h⟩ | ⟨g3, h⟩
 ·refine qT rfl g3 (ls_skip (hK2 _ (ls_seq_k fun K4 hK4 => ls_blk (rs (sp 1 rfl (?_))))))
  obtain ⟨e5, g6, h⟩ := ob_some h
  refine qI rfl zci64 g6 (sp 3 rfl (evn (rn 1 rfl ?_)))
  rcases cond_some h with ⟨g7, h⟩ | ⟨g7, h⟩
  ·exact qT rfl g7 (rn 1 rfl (ls_ret ((by cases h; cases hr1; exact ⟨.inl rfl, rfl⟩))))
  ·exact qF rfl g7 (ls_skip (hK4 _ (rg (sp 2 rfl (evn (hN _ _ h (okr rfl)))))))
 ·exact qF rfl g3 (ls_exit (kXB1 (Option.some.inj h) _ trivial))
def impl_copyInts (a0 : List Int) : Option ((List Int)) := chk (List.length ([] : List Int) + List.length a0 ≤ lim) (some (([] : List Int) ++ a0))
theorem impl_copyInts_s {a0 : List Int} {r : (List Int)} (h : impl_copyInts a0 = some r) : SoundAt Try.prog 88 [dL ci64 a0] (oL 3 ci64 r) := by
 unfold impl_copyInts at h
 refine st lit88 rfl (rn 1 rfl (rs (qBs ci64 [] rfl rfl rfl zci64 (sp 1 rfl (?_)))))
 obtain ⟨g1, h⟩ := chk_some h
 exact qA ci64 ([] : List Int) a0 rfl rfl (flat_len zci64 a0) (map_dg (fun _ => rfl) _) g1 (sp 1 rfl (evn (ls_ret ((by cases h; exact ⟨.inl rfl, rfl⟩)))))
def impl_SplitHeavy_J2 (rec : ((List (List Int)) × (List (List Int)) × Int) → Option ((List (List Int)) × (List (List Int)))) (y3 : Int) (x24 : List (List Int)) (x25 : List (List Int)) : Option ((List (List Int)) × (List (List Int))) := rec (x24, x25, (IntKind.i64.wrap (y3 + 1)))
def impl_SplitHeavy_B1 (a0 : Y25) (a1 : Int) (a2 : Int) (v8 : (List Int) × (List Int)) (rec : ((List (List Int)) × (List (List Int)) × Int) → Option ((List (List Int)) × (List (List Int)))) (s : (List (List Int)) × (List (List Int)) × Int) : Option ((List (List Int)) × (List (List Int))) := match s with
  | (y1, y2, y3) => cond (decide (y3 < (List.length a0.2 : Int))) (obind (geti a0.2 y3) fun e16 => obind (geti e16 a1) fun e18 => obind (impl_indexOf v8.1 e18) fun v20 => obind (geti v8.2 v20) fun e22 => cond (decide (a2 ≤ e22)) (obind (impl_copyInts e16) fun v27 => chk (List.length y1 + List.length [v27] ≤ lim) (impl_SplitHeavy_J2 rec y3 (y1 ++ [v27]) y2)) (obind (impl_copyInts e16) fun v30 => chk (List.length y2 + List.length [v30] ≤ lim) (impl_SplitHeavy_J2 rec y3 y1 (y2 ++ [v30])))) (some (y1, y2))
def impl_SplitHeavy (a0 : Y25) (a1 : Int) (a2 : Int) : Option (Y25 × Y25 × Bool) := obind (impl_IsValidRelation a0) fun v2 => cond (!v2) (some ((0, []), (0, []), false)) (obind (impl_within a1 0 (IntKind.i64.wrap (a0.1 - 1))) fun v5 => cond (!v5) (some ((0, []), (0, []), false)) (obind (impl_ColumnDegrees a0 a1) fun v8 => obind (loopF (impl_SplitHeavy_B1 a0 a1 a2 v8) fz (([] : List (List Int)), ([] : List (List Int)), 0)) fun o1 => (match o1 with
  | (z11, z12) => (some ((a0.1, z11), (a0.1, z12), true)))))
theorem impl_SplitHeavy_s {a0 : Y25} {a1 : Int} {a2 : Int} {r : Y25 × Y25 × Bool} (h : impl_SplitHeavy a0 a1 a2 = some r) : SoundAt Try.prog 13 [.agg (c26_dd a0), nI a1, nI a2] (.tup [.agg (c26_oo r.1), .agg (c26_oo r.2.1), .bool r.2.2]) := by
 unfold impl_SplitHeavy at h
 refine st lit13 rfl (rn 1 rfl (ls_seq_k fun K1 hK1 => rs (sp 1 rfl (?_))))
 obtain ⟨v2, g3, h⟩ := ob_some h
 refine qC (qa rfl (erg (erc rfl (erc (erD ec31_d _) rfl))) eran) (impl_IsValidRelation_s g3) (sp 2 rfl (?_))
 rcases cond_some h with ⟨g4, h⟩ | ⟨g4, h⟩
 ·exact qg 18 g4 rfl (sp 7 rfl (evn (qT rfl rfl (rn 1 rfl (ls_ret ((by cases h; exact ⟨.inl rfl, rfl⟩)))))))
 ·refine qg 18 g4 rfl (sp 4 rfl (?_))
  obtain ⟨v5, g6, h⟩ := ob_some h
  refine oGR rfl rfl (qC (qs rfl (qs rfl (qs rfl eran))) (impl_within_s g6) (sp 2 rfl (evn ?_)))
  rcases cond_some h with ⟨g7, h⟩ | ⟨g7, h⟩
  ·exact qT rfl g7 (rn 1 rfl (ls_ret ((by cases h; exact ⟨.inl rfl, rfl⟩))))
  ·refine qF rfl g7 (ls_skip (hK1 _ (qk [1, 2, 3, 6, 7] rfl (rs (sp 2 rfl (?_))))))
   obtain ⟨v8, g9, h⟩ := ob_some h
   refine qC (qa rfl (erg (erc rfl (erc (erD ec31_d _) rfl))) (qs rfl eran)) (impl_ColumnDegrees_s g9) (sp 5 rfl (evn (rn 2 rfl (ls_seq_k fun K10 hK10 => rn 1 rfl ?_))))
   obtain ⟨o1, hl, hr1⟩ := ob_some h
   have kXB1 : ∀ {z11 : List (List Int)} {z12 : List (List Int)}, (z11, z12) = o1 → Jn K10 [(6, .box [nI 0, oL 31 c31_o []]), (7, .box [nI 0, oL 31 c31_o []]), (11, .box [nI a0.1, oL 31 c31_o z11]), (12, .box [nI a0.1, oL 31 c31_o z12])] := by
    intro z11 z12 h σ' hk
    subst h
    replace h := hr1
    try dsimp only at h
    exact hK10 _ (lh hk rfl (rd (by kernel_rfl) (sd 5 rfl (evdn (ls_ret ((by cases h; exact ⟨.inl rfl, rfl⟩)))))))
   refine ls_rec (fun (s : (List (List Int)) × (List (List Int)) × Int) => match s with | (y1, y2, y3) => [(1, nI a1), (2, nI a2), (6, .box [nI 0, oL 31 c31_o []]), (7, .box [nI 0, oL 31 c31_o []]), (9, oL 3 ci64 v8.1), (10, oL 3 ci64 v8.2), (11, .box [nI a0.1, oL 31 c31_o y1]), (12, .box [nI a0.1, oL 31 c31_o y2]), (41, dL c31_d a0.2), (42, nI (List.length a0.2 : Int)), (43, nI y3)]) _ _ _ _ hl (okr rfl) (fun _ => rfl) ?_
   rintro m ⟨y1, y2, y3⟩ N h hN
   unfold impl_SplitHeavy_B1 at h
   dsimp only at h
   refine rn 1 rfl (ls_seq_k fun K13 hK13 => ?_)
   rcases cond_some h with ⟨g14, h⟩ | ⟨g14, h⟩
   ·refine qT rfl g14 (ls_skip (hK13 _ (ls_seq_k fun K15 hK15 => ls_blk (rs ?_))))
    obtain ⟨e16, g17, h⟩ := ob_some h
    refine qI rfl zc31_d g17 (sp 2 rfl (evn (rs (sp 4 rfl (?_)))))
    obtain ⟨e18, g19, h⟩ := ob_some h
    refine qI rfl zci64 g19 (sp 1 rfl (?_))
    obtain ⟨v20, g21, h⟩ := ob_some h
    refine qC (qa rfl (erD eci64 _) (qs rfl eran)) (impl_indexOf_s g21) (?_)
    obtain ⟨e22, g23, h⟩ := ob_some h
    refine qI rfl zci64 g23 (sp 3 rfl (evn ?_))
    have kJ2 : ∀ {x24 : List (List Int)} {x25 : List (List Int)}, impl_SplitHeavy_J2 (loopF (impl_SplitHeavy_B1 a0 a1 a2 v8) m) y3 x24 x25 = some o1 → Jn K15 [(1, nI a1), (2, nI a2), (6, .box [nI 0, oL 31 c31_o []]), (7, .box [nI 0, oL 31 c31_o []]), (9, oL 3 ci64 v8.1), (10, oL 3 ci64 v8.2), (11, .box [nI a0.1, oL 31 c31_o x24]), (12, .box [nI a0.1, oL 31 c31_o x25]), (41, dL c31_d a0.2), (42, nI (List.length a0.2 : Int)), (43, nI y3)] := by
     intro x24 x25 h σ' hk
     unfold impl_SplitHeavy_J2 at h
     exact hK15 _ (lh hk rfl (rg (sp 2 rfl (evn (hN _ _ h (okr rfl))))))
    rcases cond_some h with ⟨g26, h⟩ | ⟨g26, h⟩
    ·refine qT rfl g26 (rgd (by kernel_rfl) (sd 3 rfl (?_)))
     obtain ⟨v27, g28, h⟩ := ob_some h
     refine ed rfl (qC (qa rfl (erD eci64 _) eran) (impl_copyInts_s g28) (ed rfl (qBs c31_o [v27] rfl rfl rfl zc31_o (?_))))
     obtain ⟨g29, h⟩ := chk_some h
     exact ed rfl (qA c31_o y1 [v27] rfl rfl (flat_len zc31_o [v27]) rfl g29 (sd 2 rfl (evdn (kJ2 h _ (okr rfl)))))
    ·refine qF rfl g26 (rgd (by kernel_rfl) (sd 3 rfl (?_)))
     obtain ⟨v30, g31, h⟩ := ob_some h
     refine ed rfl (qC (qa rfl (erD eci64 _) eran) (impl_copyInts_s g31) (ed rfl (qBs c31_o [v30] rfl rfl rfl zc31_o (?_))))
     obtain ⟨g32, h⟩ := chk_some h
     exact ed rfl (qA c31_o y2 [v30] rfl rfl (flat_len zc31_o [v30]) rfl g32 (sd 2 rfl (evdn (kJ2 h _ (okr rfl)))))
   ·exact qF rfl g14 (ls_exit (kXB1 (Option.some.inj h) _ (okr rfl)))
def impl_IsStrictlyAscending_B1 (a0 : List Int) (rec : Int → Option (Sum (Unit) (Bool))) (y1 : Int) : Option (Sum (Unit) (Bool)) := cond (decide (y1 < (List.length a0 : Int))) (obind (geti a0 (IntKind.i64.wrap (y1 - 1))) fun e5 => obind (geti a0 y1) fun e7 => cond (decide (e7 ≤ e5)) (some (.inr false)) (rec (IntKind.i64.wrap (y1 + 1)))) (some (.inl ()))
def impl_IsStrictlyAscending (a0 : List Int) : Option (Bool) := obind (loopF (impl_IsStrictlyAscending_B1 a0) fz 1) fun o1 => (match o1 with
  | .inl _ => (some true)
  | .inr r => some r)
theorem impl_IsStrictlyAscending_s {a0 : List Int} {r : Bool} (h : impl_IsStrictlyAscending a0 = some r) : SoundAt Try.prog 16 [dL ci64 a0] (.bool r) := by
 unfold impl_IsStrictlyAscending at h
 refine st lit16 rfl (rn 1 rfl (ls_seq_k fun K1 hK1 => rn 1 rfl ?_))
 obtain ⟨o1, hl, hr1⟩ := ob_some h
 have kXB1 : (.inl ()) = o1 → Jn K1 [] := by
  intro h σ' hk
  subst h
  replace h := hr1
  try dsimp only at h
  exact hK1 _ (lh hk rfl (rn 1 rfl (ls_ret ((by cases h; exact ⟨.inl rfl, rfl⟩)))))
 refine ls_rec (fun (y1 : Int) => [(0, dL ci64 a0), (3, nI y1)]) _ _ _ _ hl (okr rfl) (fun _ => rfl) ?_
 rintro m y1 N h hN
 unfold impl_IsStrictlyAscending_B1 at h
 refine ls_seq_k fun K2 hK2 => rn 1 rfl ?_
 rcases cond_some h with ⟨g3, h⟩ | ⟨g3, h⟩
 ·refine qT rfl g3 (ls_skip (hK2 _ (ls_seq_k fun K4 hK4 => ls_blk (rd (by kernel_rfl) (sd 3 rfl (?_))))))
  obtain ⟨e5, g6, h⟩ := ob_some h
  refine ed rfl (qI rfl zci64 g6 (sd 3 rfl (?_)))
  obtain ⟨e7, g8, h⟩ := ob_some h
  refine ed rfl (qI rfl zci64 g8 (sd 2 rfl (evdn ?_)))
  rcases cond_some h with ⟨g9, h⟩ | ⟨g9, h⟩
  ·exact qT rfl g9 (rn 1 rfl (ls_ret ((by cases h; cases hr1; exact ⟨.inl rfl, rfl⟩))))
  ·exact qF rfl g9 (ls_skip (hK4 _ (rg (sp 3 rfl (evn (hN _ _ h (okr rfl)))))))
 ·exact qF rfl g3 (ls_exit (kXB1 (Option.some.inj h) _ trivial))
def impl_copyRows_B1 (a0 : List (List Int)) (rec : ((List (List Int)) × Int) → Option ((List (List Int)))) (s : (List (List Int)) × Int) : Option ((List (List Int))) := match s with
  | (y1, y2) => cond (decide (y2 < (List.length a0 : Int))) (obind (geti a0 y2) fun e6 => obind (impl_copyInts e6) fun v8 => chk (List.length y1 + List.length [v8] ≤ lim) (rec ((y1 ++ [v8]), (IntKind.i64.wrap (y2 + 1))))) (some y1)
def impl_copyRows (a0 : List (List Int)) : Option ((List (List Int))) := obind (loopF (impl_copyRows_B1 a0) fz (([] : List (List Int)), 0)) fun z2 => some z2
theorem impl_copyRows_s {a0 : List (List Int)} {r : (List (List Int))} (h : impl_copyRows a0 = some r) : SoundAt Try.prog 93 [dL c31_d a0] (oL 31 c31_o r) := by
 unfold impl_copyRows at h
 refine st lit93 rfl (rn 2 rfl (ls_seq_k fun K1 hK1 => rn 1 rfl ?_))
 obtain ⟨o1, hl, hr1⟩ := ob_some h
 have kXB1 : ∀ {z2 : List (List Int)}, z2 = o1 → Jn K1 [(3, oL 31 c31_o z2)] := by
  intro z2 h σ' hk
  subst h
  replace h := hr1
  try dsimp only at h
  exact hK1 _ (lh hk rfl (rn 1 rfl (ls_ret ((by cases h; exact ⟨.inl rfl, rfl⟩)))))
 refine ls_rec (fun (s : (List (List Int)) × Int) => match s with | (y1, y2) => [(3, oL 31 c31_o y1), (6, dL c31_d a0), (7, nI (List.length a0 : Int)), (8, nI y2)]) _ _ _ _ hl (okr rfl) (fun _ => rfl) ?_
 rintro m ⟨y1, y2⟩ N h hN
 unfold impl_copyRows_B1 at h
 dsimp only at h
 refine rn 1 rfl (ls_seq_k fun K3 hK3 => ?_)
 rcases cond_some h with ⟨g4, h⟩ | ⟨g4, h⟩
 ·refine qT rfl g4 (ls_skip (hK3 _ (ls_seq_k fun K5 hK5 => ls_blk (rs ?_))))
  obtain ⟨e6, g7, h⟩ := ob_some h
  refine qI rfl zc31_d g7 (sp 2 rfl (evn (rg (sp 2 rfl (?_)))))
  obtain ⟨v8, g9, h⟩ := ob_some h
  refine qC (qa rfl (erD eci64 _) eran) (impl_copyInts_s g9) (qBs c31_o [v8] rfl rfl rfl zc31_o (?_))
  obtain ⟨g10, h⟩ := chk_some h
  exact qA c31_o y1 [v8] rfl rfl (flat_len zc31_o [v8]) rfl g10 (sp 1 rfl (evn (hK5 _ (rg (sp 2 rfl (evn (hN _ _ h (okr rfl))))))))
 ·exact qF rfl g4 (ls_exit (kXB1 (Option.some.inj h) _ (okr rfl)))
def impl_sorted_J5 (rec : ((List (Nat × (List Int))) × (List (Nat × (List Int))) × (List (Nat × (List Int)))) → Option ((List (Nat × (List Int))))) (y2 : List (Nat × (List Int))) (x20 : List (Nat × (List Int))) (x24 : List (Nat × (List Int))) : Option ((List (Nat × (List Int)))) := chk ((0 : Int) ≤ 1 ∧ 1 ≤ (List.length y2 : Int) ∧ (List.length y2 : Int) ≤ (List.length y2 : Int)) (rec (x20, (subl y2 1 (List.length y2 : Int)), x24))
def impl_sorted_J4 (rec : ((List (Nat × (List Int))) × (List (Nat × (List Int))) × (List (Nat × (List Int)))) → Option ((List (Nat × (List Int))))) (y2 : List (Nat × (List Int))) (x18 : Int) (x20 : List (Nat × (List Int))) (x21 : List (Nat × (List Int))) : Option ((List (Nat × (List Int)))) := cond (decide (0 ≤ x18)) (cond (decide (0 < x18)) (obind (geti y2 0) fun e27 => chk (List.length x21 + List.length [e27] ≤ lim) (impl_sorted_J5 rec y2 x20 (x21 ++ [e27]))) (impl_sorted_J5 rec y2 x20 x21)) (rec (x20, y2, x21))
def impl_sorted_J3 (rec : ((List (Nat × (List Int))) × (List (Nat × (List Int))) × (List (Nat × (List Int)))) → Option ((List (Nat × (List Int))))) (y1 : List (Nat × (List Int))) (y2 : List (Nat × (List Int))) (y3 : List (Nat × (List Int))) (x18 : Int) : Option ((List (Nat × (List Int)))) := cond (decide (x18 ≤ 0)) (obind (geti y1 0) fun e31 => chk (List.length y3 + List.length [e31] ≤ lim) (chk ((0 : Int) ≤ 1 ∧ 1 ≤ (List.length y1 : Int) ∧ (List.length y1 : Int) ≤ (List.length y1 : Int)) (impl_sorted_J4 rec y2 x18 (subl y1 1 (List.length y1 : Int)) (y3 ++ [e31])))) (impl_sorted_J4 rec y2 x18 y1 y3)
def impl_sorted_J2 (rec : ((List (Nat × (List Int))) × (List (Nat × (List Int))) × (List (Nat × (List Int)))) → Option ((List (Nat × (List Int))))) (y1 : List (Nat × (List Int))) (y2 : List (Nat × (List Int))) (y3 : List (Nat × (List Int))) (x15 : Bool) : Option ((List (Nat × (List Int)))) := cond x15 (cond ((List.length y1 : Int) == 0) (impl_sorted_J3 rec y1 y2 y3 1) (cond (decide (0 < (List.length y2 : Int))) (obind (geti y1 0) fun e37 => obind (geti y2 0) fun e39 => obind (impl_CompareRows e37.2 e39.2) fun v41 => impl_sorted_J3 rec y1 y2 y3 v41) (impl_sorted_J3 rec y1 y2 y3 (-1)))) (some y3)
def impl_sorted_B1  (rec : ((List (Nat × (List Int))) × (List (Nat × (List Int))) × (List (Nat × (List Int)))) → Option ((List (Nat × (List Int))))) (s : (List (Nat × (List Int))) × (List (Nat × (List Int))) × (List (Nat × (List Int)))) : Option ((List (Nat × (List Int)))) := match s with
  | (y1, y2, y3) => cond (decide (0 < (List.length y1 : Int))) (impl_sorted_J2 rec y1 y2 y3 true) (impl_sorted_J2 rec y1 y2 y3 (decide (0 < (List.length y2 : Int))))
def impl_sorted_R (rec : ((List (List Int))) → Option ((List (List Int)))) (a0 : (List (List Int))) : Option ((List (List Int))) := cond (decide ((List.length a0 : Int) < 2)) (obind (impl_copyRows a0) fun v3 => some v3) (chk ((0 : Int) ≤ 0 ∧ 0 ≤ IntKind.i64.wrap (Int.tdiv (List.length a0 : Int) 2) ∧ IntKind.i64.wrap (Int.tdiv (List.length a0 : Int) 2) ≤ (List.length a0 : Int)) (obind (rec (subl a0 0 (IntKind.i64.wrap (Int.tdiv (List.length a0 : Int) 2)))) fun v6 => chk ((0 : Int) ≤ IntKind.i64.wrap (Int.tdiv (List.length a0 : Int) 2) ∧ IntKind.i64.wrap (Int.tdiv (List.length a0 : Int) 2) ≤ (List.length a0 : Int) ∧ (List.length a0 : Int) ≤ (List.length a0 : Int)) (obind (rec (subl a0 (IntKind.i64.wrap (Int.tdiv (List.length a0 : Int) 2)) (List.length a0 : Int))) fun v9 => obind (loopF impl_sorted_B1 fz ((enumP 0 v6), (enumP (List.length v6) v9), ([] : List (Nat × (List Int))))) fun z12 => chk (okJ (v6 ++ v9) (List.map Sum.inl z12) [] = true) (some (List.map getM (List.map Sum.inl z12))))))
def impl_sorted (a0 : List (List Int)) : Option ((List (List Int))) := loopF impl_sorted_R fz a0
theorem impl_sorted_s {a0 : List (List Int)} {r : (List (List Int))} (h : impl_sorted a0 = some r) : SoundAt Try.prog 174 [dL c31_d a0] (oL 31 c31_o r) := by
 suffices key : ∀ m (a0 : List (List Int)) (r : (List (List Int))), loopF impl_sorted_R m a0 = some r → SoundAt Try.prog 174 [dL c31_d a0] (oL 31 c31_o r) from key fz a0 r h
 intro m
 induction m with
 | zero => intro a0 r h; cases h
 | succ m ih0 =>
  intro a0 r h
  have ih : ∀ {a0 : List (List Int)} {r : (List (List Int))}, loopF impl_sorted_R m a0 = some r → SoundAt Try.prog 174 [dL c31_d a0] (oL 31 c31_o r) := fun h => ih0 _ _ h
  change impl_sorted_R (loopF impl_sorted_R m) a0 = some r at h
  unfold impl_sorted_R at h
  try dsimp only at h
  refine st lit174 rfl (rn 1 rfl (ls_seq_k fun K1 hK1 => rn 1 rfl ?_))
  rcases cond_some h with ⟨g2, h⟩ | ⟨g2, h⟩
  ·refine qT rfl g2 (rs (sp 1 rfl (?_)))
   obtain ⟨v3, g4, h⟩ := ob_some h
   exact qC (qa rfl (erD ec31_d _) eran) (impl_copyRows_s g4) (sp 1 rfl (evn (ls_ret ((by cases h; exact ⟨.inl rfl, rfl⟩)))))
  ·refine qF rfl g2 (ls_skip (hK1 _ (rn 1 rfl (rd (by kernel_rfl) (sd 2 rfl (?_))))))
   obtain ⟨g5, h⟩ := chk_some h
   refine ed rfl (qSl rfl zc31_d g5 (?_))
   obtain ⟨v6, g7, h⟩ := ob_some h
   refine ed rfl (qC (qa rfl (erD ec31_d _) eran) (ih g7) (sd 2 rfl (?_)))
   obtain ⟨g8, h⟩ := chk_some h
   refine ed rfl (qSl rfl zc31_d g8 (?_))
   obtain ⟨v9, g10, h⟩ := ob_some h
   refine ed rfl (qC (qa rfl (erD ec31_d _) eran) (ih g10) (sd 2 rfl (evdn (qk [4, 5] rfl (ls_split2 (f := c31_o) (s1 := 4) (s2 := 5) (g1 := 900001) (g2 := 900002) rfl rfl rfl rfl ⟨by decide, by decide, by decide, by decide, by decide, by decide⟩ (split_own (fun _ => rfl)) (split_own (fun _ => rfl)) (fun _ => rfl) (fun _ => rfl) (fun _ => rfl) (fun _ => rfl) ?_)))))
   intro U us1 us2 hu1 hu2 hU
   refine kp [(4, oL 31 (pE c31_o U) (enumP 0 v6)), (5, oL 31 (pE c31_o U) (enumP (List.length v6) v9)), (900001, .gh us1 (List.map (fun x => tokC (c31_o x)) v6)), (900002, .gh us2 (List.map (fun x => tokC (c31_o x)) v9))] rfl rfl (rn 1 rfl (ls_seq_k fun K11 hK11 => ?_))
   obtain ⟨o1, hl, hr1⟩ := ob_some h
   have kXB1 : ∀ {z12 : List (Nat × (List Int))}, z12 = o1 → Jn K11 [(6, oL 31 (pE c31_o U) z12), (900001, .gh us1 (List.map (fun x => tokC (c31_o x)) v6)), (900002, .gh us2 (List.map (fun x => tokC (c31_o x)) v9))] := by
    intro z12 h σ' hk
    subst h
    replace h := hr1
    try dsimp only at h
    refine hK11 _ (lh hk rfl (qk [6, 900001, 900002] rfl ?_))
    obtain ⟨g44, h⟩ := chk_some h
    exact ls_merge (g1 := 900001) (g2 := 900002) rfl rfl (by decide) (ls_join1 (f := c31_o) (s := 6) (q := 900001) (l := v6 ++ v9) (U := U) (L := List.map Sum.inl z12) own_inl rfl List.map_append.symm (by decide) (join_own (fun _ => rfl)) hU g44 rfl rfl (kp [(6, oL 31 c31_o (List.map getM (List.map Sum.inl z12)))] rfl rfl (rn 1 rfl (ls_ret ((by cases h; exact ⟨.inl rfl, rfl⟩))))))
   refine ls_rec (fun (s : (List (Nat × (List Int))) × (List (Nat × (List Int))) × (List (Nat × (List Int)))) => match s with | (y1, y2, y3) => [(4, dL (pE c31_o U) y1), (5, dL (pE c31_o U) y2), (6, oL 31 (pE c31_o U) y3), (900001, .gh us1 (List.map (fun x => tokC (c31_o x)) v6)), (900002, .gh us2 (List.map (fun x => tokC (c31_o x)) v9))]) _ _ _ _ hl ⟨(kd rfl rfl), (kd rfl rfl), kr, kr, kr, trivial⟩ (fun _ => rfl) ?_
   rintro m ⟨y1, y2, y3⟩ N h hN
   unfold impl_sorted_B1 at h
   dsimp only at h
   refine ls_seq_k fun K13 hK13 => rk fun K14 hK14 => ?_
   have kJ2 : ∀ {x15 : Bool}, impl_sorted_J2 (loopF impl_sorted_B1 m) y1 y2 y3 x15 = some o1 → Jn K14 [(4, dL (pE c31_o U) y1), (5, dL (pE c31_o U) y2), (6, oL 31 (pE c31_o U) y3), (31, .bool x15), (900001, .gh us1 (List.map (fun x => tokC (c31_o x)) v6)), (900002, .gh us2 (List.map (fun x => tokC (c31_o x)) v9))] := by
    intro x15 h σ' hk
    unfold impl_sorted_J2 at h
    refine hK14 _ (lh hk rfl ?_)
    rcases cond_some h with ⟨g16, h⟩ | ⟨g16, h⟩
    ·refine qT rfl g16 (ls_skip (hK13 _ (ls_blk (rn 1 rfl (ls_seq_k fun K17 hK17 => rn 1 rfl ?_)))))
     have kJ3 : ∀ {x18 : Int}, impl_sorted_J3 (loopF impl_sorted_B1 m) y1 y2 y3 x18 = some o1 → Jn K17 [(4, dL (pE c31_o U) y1), (5, dL (pE c31_o U) y2), (6, oL 31 (pE c31_o U) y3), (7, nI x18), (900001, .gh us1 (List.map (fun x => tokC (c31_o x)) v6)), (900002, .gh us2 (List.map (fun x => tokC (c31_o x)) v9))] := by
      intro x18 h σ' hk
      unfold impl_sorted_J3 at h
      refine hK17 _ (lh hk rfl (ls_seq_k fun K19 hK19 => rn 1 rfl ?_))
      have kJ4 : ∀ {x20 : List (Nat × (List Int))} {x21 : List (Nat × (List Int))}, impl_sorted_J4 (loopF impl_sorted_B1 m) y2 x18 x20 x21 = some o1 → Jn K19 [(4, dL (pE c31_o U) x20), (5, dL (pE c31_o U) y2), (6, oL 31 (pE c31_o U) x21), (7, nI x18), (900001, .gh us1 (List.map (fun x => tokC (c31_o x)) v6)), (900002, .gh us2 (List.map (fun x => tokC (c31_o x)) v9))] := by
       intro x20 x21 h σ' hk
       unfold impl_sorted_J4 at h
       refine hK19 _ (lh hk rfl (rn 1 rfl ?_))
       rcases cond_some h with ⟨g22, h⟩ | ⟨g22, h⟩
       ·refine qT rfl g22 (ls_seq_k fun K23 hK23 => rn 1 rfl ?_)
        have kJ5 : ∀ {x24 : List (Nat × (List Int))}, impl_sorted_J5 (loopF impl_sorted_B1 m) y2 x20 x24 = some o1 → Jn K23 [(4, dL (pE c31_o U) x20), (5, dL (pE c31_o U) y2), (6, oL 31 (pE c31_o U) x24), (900001, .gh us1 (List.map (fun x => tokC (c31_o x)) v6)), (900002, .gh us2 (List.map (fun x => tokC (c31_o x)) v9))] := by
         intro x24 h σ' hk
         unfold impl_sorted_J5 at h
         refine hK23 _ (lh hk rfl (rg (sp 1 rfl (?_))))
         obtain ⟨g25, h⟩ := chk_some h
         exact qSl rfl (zpE zc31_o) g25 (sp 1 rfl (evn (hN _ _ h (okr rfl))))
        rcases cond_some h with ⟨g26, h⟩ | ⟨g26, h⟩
        ·refine qT rfl g26 (rg (sp 2 rfl (?_)))
         obtain ⟨e27, g28, h⟩ := ob_some h
         refine qI rfl (zpE zc31_o) g28 (sp 1 rfl (qBs (pE c31_o U) [e27] rfl rfl rfl (zpE zc31_o) (?_)))
         obtain ⟨g29, h⟩ := chk_some h
         exact qA (pE c31_o U) x21 [e27] rfl rfl (flat_len (zpE zc31_o) [e27]) rfl g29 (sp 1 rfl (evn (kJ5 h _ (okr rfl))))
        ·exact qF rfl g26 (ls_skip (kJ5 h _ (okr rfl)))
       ·exact qF rfl g22 (ls_skip (hN _ _ h (okr rfl)))
      rcases cond_some h with ⟨g30, h⟩ | ⟨g30, h⟩
      ·refine qT rfl g30 (rs (sp 2 rfl (?_)))
       obtain ⟨e31, g32, h⟩ := ob_some h
       refine qI rfl (zpE zc31_o) g32 (sp 1 rfl (qBs (pE c31_o U) [e31] rfl rfl rfl (zpE zc31_o) (?_)))
       obtain ⟨g33, h⟩ := chk_some h
       refine qA (pE c31_o U) y3 [e31] rfl rfl (flat_len (zpE zc31_o) [e31]) rfl g33 (sp 1 rfl (evn (rg (sp 1 rfl (?_)))))
       obtain ⟨g34, h⟩ := chk_some h
       exact qSl rfl (zpE zc31_o) g34 (sp 1 rfl (evn (kJ4 h _ (okr rfl))))
      ·exact qF rfl g30 (ls_skip (kJ4 h _ (okr rfl)))
     rcases cond_some h with ⟨g35, h⟩ | ⟨g35, h⟩
     ·exact qT rfl g35 (rg (sp 1 rfl (evn (kJ3 h _ (okr rfl)))))
     ·refine qF rfl g35 (rn 1 rfl (qk [4, 5, 6, 7, 37, 900001, 900002] rfl ?_))
      rcases cond_some h with ⟨g36, h⟩ | ⟨g36, h⟩
      ·refine qT rfl g36 (rgd (by kernel_rfl) (sd 1 rfl (?_)))
       obtain ⟨e37, g38, h⟩ := ob_some h
       refine ed rfl (qI rfl (zpE zc31_o) g38 (sd 2 rfl (?_)))
       obtain ⟨e39, g40, h⟩ := ob_some h
       refine ed rfl (qI rfl (zpE zc31_o) g40 (sd 1 rfl (?_)))
       obtain ⟨v41, g42, h⟩ := ob_some h
       exact ed rfl (qC (qa rfl (erP eci64 eci64 _) (qa rfl (erP eci64 eci64 _) eran)) (impl_CompareRows_s g42) (sd 1 rfl (evdn (kJ3 h _ (okr rfl)))))
      ·exact qF rfl g36 (ls_skip (kJ3 h _ (okr rfl)))
    ·exact qF rfl g16 (ls_exit (kXB1 (Option.some.inj h) _ (okr rfl)))
   refine sp 4 rfl (?_)
   rcases cond_some h with ⟨g43, h⟩ | ⟨g43, h⟩
   ·exact qg 27 g43 rfl (sp 4 rfl (evn (kJ2 h _ (okr rfl))))
   ·exact qg 27 g43 rfl (sp 4 rfl (evn (kJ2 h _ (okr rfl))))
def impl_NewRelation_B1 (a0 : Int) (a1 : List (List Int)) (rec : Int → Option (Sum (Unit) (Y25 × Bool))) (y1 : Int) : Option (Sum (Unit) (Y25 × Bool)) := cond (decide (y1 < (List.length a1 : Int))) (obind (geti a1 y1) fun e5 => cond ((List.length e5 : Int) != a0) (some (.inr ((0, []), false))) (obind (impl_AreValidValues e5) fun v8 => cond (!v8) (some (.inr ((0, []), false))) (rec (IntKind.i64.wrap (y1 + 1))))) (some (.inl ()))
def impl_NewRelation (a0 : Int) (a1 : List (List Int)) : Option (Y25 × Bool) := obind (loopF (impl_NewRelation_B1 a0 a1) fz 0) fun o1 => (match o1 with
  | .inl _ => (obind (impl_sorted a1) fun v11 => obind (impl_IsValidRelation (a0, v11)) fun v14 => cond (!v14) (some ((0, []), false)) (some ((a0, v11), true)))
  | .inr r => some r)
theorem impl_NewRelation_s {a0 : Int} {a1 : List (List Int)} {r : Y25 × Bool} (h : impl_NewRelation a0 a1 = some r) : SoundAt Try.prog 92 [nI a0, dL c31_d a1] (.tup [.agg (c26_oo r.1), .bool r.2]) := by
 unfold impl_NewRelation at h
 refine st lit92 rfl (rn 1 rfl (ls_seq_k fun K1 hK1 => rn 1 rfl ?_))
 obtain ⟨o1, hl, hr1⟩ := ob_some h
 have kXB1 : (.inl ()) = o1 → Jn K1 [(0, nI a0), (1, dL c31_d a1), (4, .box [nI 0, oL 31 c31_o []])] := by
  intro h σ' hk
  subst h
  replace h := hr1
  try dsimp only at h
  refine hK1 _ (lh hk rfl (rs (sp 2 rfl (?_))))
  obtain ⟨v11, g12, h⟩ := ob_some h
  refine qC (qa rfl (erD ec31_d _) eran) (impl_sorted_s g12) (sp 3 rfl (evn (ls_seq_k fun K13 hK13 => rs (sp 1 rfl (?_)))))
  obtain ⟨v14, g15, h⟩ := ob_some h
  refine qC (qa rfl (erg (erc rfl (erc (erD ec31_o _) rfl))) eran) (impl_IsValidRelation_s g15) (sp 1 rfl (evn ?_))
  rcases cond_some h with ⟨g16, h⟩ | ⟨g16, h⟩
  ·exact qT rfl g16 (rn 1 rfl (ls_ret ((by cases h; exact ⟨.inl rfl, rfl⟩))))
  ·exact qF rfl g16 (ls_skip (hK13 _ (rn 1 rfl (ls_ret ((by cases h; exact ⟨.inl rfl, rfl⟩))))))
 refine ls_rec (fun (y1 : Int) => [(0, nI a0), (1, dL c31_d a1), (4, .box [nI 0, oL 31 c31_o []]), (9, dL c31_d a1), (10, nI (List.length a1 : Int)), (11, nI y1)]) _ _ _ _ hl (okr rfl) (fun _ => rfl) ?_
 rintro m y1 N h hN
 unfold impl_NewRelation_B1 at h
 refine rn 1 rfl (ls_seq_k fun K2 hK2 => ?_)
 rcases cond_some h with ⟨g3, h⟩ | ⟨g3, h⟩
 ·refine qT rfl g3 (ls_skip (hK2 _ (ls_seq_k fun K4 hK4 => ls_blk (rs ?_))))
  obtain ⟨e5, g6, h⟩ := ob_some h
  refine qI rfl zc31_d g6 (sp 2 rfl (evn (rs (sp 5 rfl (?_)))))
  rcases cond_some h with ⟨g7, h⟩ | ⟨g7, h⟩
  ·exact qg 19 g7 rfl (sp 4 rfl (evn (qT rfl rfl (rn 1 rfl (ls_ret ((by cases h; cases hr1; exact ⟨.inl rfl, rfl⟩)))))))
  ·refine qg 19 g7 rfl (sp 1 rfl (?_))
   obtain ⟨v8, g9, h⟩ := ob_some h
   refine oGR rfl rfl (qC (qa rfl (erD eci64 _) eran) (impl_AreValidValues_s g9) (sp 2 rfl (evn ?_)))
   rcases cond_some h with ⟨g10, h⟩ | ⟨g10, h⟩
   ·exact qT rfl g10 (rn 1 rfl (qk [4, 5] rfl (ls_ret ((by cases h; cases hr1; exact ⟨.inl rfl, rfl⟩)))))
   ·exact qF rfl g10 (ls_skip (hK4 _ (rg (sp 2 rfl (evn (hN _ _ h (okr rfl)))))))
 ·exact qF rfl g3 (ls_exit (kXB1 (Option.some.inj h) _ (okr rfl)))
def impl_Union (a0 : Y25) (a1 : Y25) : Option (Y25 × Bool) := obind (impl_IsValidRelation a0) fun v2 => cond (!v2) (some ((0, []), false)) (obind (impl_IsValidRelation a1) fun v5 => cond (!v5) (some ((0, []), false)) (cond (a0.1 != a1.1) (some ((0, []), false)) (obind (impl_copyRows a0.2) fun v9 => chk (List.length v9 + List.length a1.2 ≤ lim) (obind (impl_NewRelation a0.1 (v9 ++ a1.2)) fun v12 => some (v12.1, v12.2)))))
theorem impl_Union_s {a0 : Y25} {a1 : Y25} {r : Y25 × Bool} (h : impl_Union a0 a1 = some r) : SoundAt Try.prog 17 [.agg (c26_dd a0), .agg (c26_dd a1)] (.tup [.agg (c26_oo r.1), .bool r.2]) := by
 unfold impl_Union at h
 refine st lit17 rfl (rn 1 rfl (ls_seq_k fun K1 hK1 => rs (sp 1 rfl (?_))))
 obtain ⟨v2, g3, h⟩ := ob_some h
 refine qC (qa rfl (erg (erc rfl (erc (erD ec31_d _) rfl))) eran) (impl_IsValidRelation_s g3) (sp 2 rfl (?_))
 rcases cond_some h with ⟨g4, h⟩ | ⟨g4, h⟩
 ·exact qg 9 g4 rfl (sp 11 rfl (evn (qT rfl rfl (rn 1 rfl (ls_ret ((by cases h; exact ⟨.inl rfl, rfl⟩)))))))
 ·refine qg 9 g4 rfl (sp 1 rfl (?_))
  obtain ⟨v5, g6, h⟩ := ob_some h
  refine oGR rfl rfl (qC (qa rfl (erg (erc rfl (erc (erD ec31_d _) rfl))) eran) (impl_IsValidRelation_s g6) (sp 3 rfl (?_)))
  rcases cond_some h with ⟨g7, h⟩ | ⟨g7, h⟩
  ·exact qg 14 g7 rfl (sp 6 rfl (evn (qk [2, 3, 4, 20] rfl (qT rfl rfl (rn 1 rfl (ls_ret ((by cases h; exact ⟨.inl rfl, rfl⟩))))))))
  ·refine qg 14 g7 rfl (sp 6 rfl (evn ?_))
   rcases cond_some h with ⟨g8, h⟩ | ⟨g8, h⟩
   ·exact qT rfl g8 (rn 1 rfl (ls_ret ((by cases h; exact ⟨.inl rfl, rfl⟩))))
   ·refine qF rfl g8 (ls_skip (hK1 _ (rd (by kernel_rfl) (sd 4 rfl (?_)))))
    obtain ⟨v9, g10, h⟩ := ob_some h
    refine ed rfl (qC (qa rfl (erD ec31_d _) eran) (impl_copyRows_s g10) (sd 2 rfl (?_)))
    obtain ⟨g11, h⟩ := chk_some h
    refine ed rfl (qAd c31_o c31_d c31_d v9 a1.2 rfl rfl (flat_len zc31_d a1.2) (map_dg (fun _ => rfl) _) g11 (fun _ => rfl) (fun _ => rfl) (fun _ => rfl) (fun _ => rfl) (?_))
    obtain ⟨v12, g13, h⟩ := ob_some h
    exact ed rfl (qC (qs rfl (qa rfl (erO ec31_d _) eran)) (impl_NewRelation_s g13) (sd 4 rfl (evdn (ls_ret ((by cases h; exact ⟨.inl rfl, rfl⟩))))))
def spec_EqualRelations_B1 (a0 : Y25) (a1 : Y25) (rec : Int → Option (Sum (Unit) (Bool))) (y1 : Int) : Option (Sum (Unit) (Bool)) := cond (decide (y1 < (List.length a0.2 : Int))) (obind (geti a0.2 y1) fun e8 => obind (geti a1.2 y1) fun e10 => obind (spec_CompareRows e8 e10) fun v12 => cond (v12 != 0) (some (.inr false)) (rec (IntKind.i64.wrap (y1 + 1)))) (some (.inl ()))
def spec_EqualRelations (a0 : Y25) (a1 : Y25) : Option (Bool) := cond (a0.1 != a1.1) (some false) (cond ((List.length a0.2 : Int) != (List.length a1.2 : Int)) (some false) (obind (loopF (spec_EqualRelations_B1 a0 a1) fz 0) fun o1 => (match o1 with
  | .inl _ => (some true)
  | .inr r => some r)))
theorem spec_EqualRelations_s {a0 : Y25} {a1 : Y25} {r : Bool} (h : spec_EqualRelations a0 a1 = some r) : SoundAt Try.prog 18 [.agg (c26_dd a0), .agg (c26_dd a1)] (.bool r) := by
 unfold spec_EqualRelations at h
 refine st lit18 rfl (rn 1 rfl (ls_seq_k fun K1 hK1 => rs (sp 6 rfl (?_))))
 rcases cond_some h with ⟨g2, h⟩ | ⟨g2, h⟩
 ·exact qg 11 g2 rfl (sp 8 rfl (evn (qT rfl rfl (rn 1 rfl (ls_ret ((by cases h; exact ⟨.inl rfl, rfl⟩)))))))
 ·refine qg 11 g2 rfl (sp 8 rfl (evn ?_))
  rcases cond_some h with ⟨g3, h⟩ | ⟨g3, h⟩
  ·exact qT rfl g3 (rn 1 rfl (qk [4] rfl (ls_ret ((by cases h; exact ⟨.inl rfl, rfl⟩)))))
  ·refine qF rfl g3 (ls_skip (hK1 _ (ls_seq_k fun K4 hK4 => rn 1 rfl ?_)))
   obtain ⟨o1, hl, hr1⟩ := ob_some h
   have kXB1 : (.inl ()) = o1 → Jn K4 [] := by
    intro h σ' hk
    subst h
    replace h := hr1
    try dsimp only at h
    exact hK4 _ (lh hk rfl (rn 1 rfl (ls_ret ((by cases h; exact ⟨.inl rfl, rfl⟩)))))
   refine ls_rec (fun (y1 : Int) => [(2, .box [nI a0.1, dL c31_d a0.2]), (3, .box [nI a1.1, dL c31_d a1.2]), (5, nI y1)]) _ _ _ _ hl (okr rfl) (fun _ => rfl) ?_
   rintro m y1 N h hN
   unfold spec_EqualRelations_B1 at h
   refine ls_seq_k fun K5 hK5 => rn 1 rfl ?_
   rcases cond_some h with ⟨g6, h⟩ | ⟨g6, h⟩
   ·refine qT rfl g6 (ls_skip (hK5 _ (ls_seq_k fun K7 hK7 => ls_blk (rd (by kernel_rfl) (sd 3 rfl (?_))))))
    obtain ⟨e8, g9, h⟩ := ob_some h
    refine ed rfl (qI rfl zc31_d g9 (sd 4 rfl (?_)))
    obtain ⟨e10, g11, h⟩ := ob_some h
    refine ed rfl (qI rfl zc31_d g11 (sd 1 rfl (?_)))
    obtain ⟨v12, g13, h⟩ := ob_some h
    refine ed rfl (qC (qa rfl (erD eci64 _) (qa rfl (erD eci64 _) eran)) (spec_CompareRows_s g13) (sd 1 rfl (evdn ?_)))
    rcases cond_some h with ⟨g14, h⟩ | ⟨g14, h⟩
    ·exact qT rfl g14 (rn 1 rfl (ls_ret ((by cases h; cases hr1; exact ⟨.inl rfl, rfl⟩))))
    ·exact qF rfl g14 (ls_skip (hK7 _ (rg (sp 3 rfl (evn (hN _ _ h (okr rfl)))))))
   ·exact qF rfl g6 (ls_exit (kXB1 (Option.some.inj h) _ trivial))
def impl_MaxColumnDegree_B1 (v1 : (List Int) × (List Int)) (rec : (Int × Int) → Option (Int)) (s : Int × Int) : Option (Int) := match s with
  | (y1, y2) => cond (decide (y2 < (List.length v1.2 : Int))) (obind (geti v1.2 y2) fun e8 => rec ((if y1 < e8 then e8 else y1), (IntKind.i64.wrap (y2 + 1)))) (some y1)
def impl_MaxColumnDegree (a0 : Y25) (a1 : Int) : Option (Int) := obind (impl_ColumnDegrees a0 a1) fun v1 => obind (loopF (impl_MaxColumnDegree_B1 v1) fz (0, 0)) fun z4 => some z4
theorem impl_MaxColumnDegree_s {a0 : Y25} {a1 : Int} {r : Int} (h : impl_MaxColumnDegree a0 a1 = some r) : SoundAt Try.prog 19 [.agg (c26_dd a0), nI a1] (nI r) := by
 unfold impl_MaxColumnDegree at h
 refine st lit19 rfl (rn 1 rfl (rs (sp 2 rfl (?_))))
 obtain ⟨v1, g2, h⟩ := ob_some h
 refine qC (qa rfl (erg (erc rfl (erc (erD ec31_d _) rfl))) (qs rfl eran)) (impl_ColumnDegrees_s g2) (sp 5 rfl (evn (rn 1 rfl (ls_seq_k fun K3 hK3 => rn 1 rfl ?_))))
 obtain ⟨o1, hl, hr1⟩ := ob_some h
 have kXB1 : ∀ {z4 : Int}, z4 = o1 → Jn K3 [(7, nI z4)] := by
  intro z4 h σ' hk
  subst h
  replace h := hr1
  try dsimp only at h
  exact hK3 _ (lh hk rfl (rn 1 rfl (ls_ret ((by cases h; exact ⟨.inl rfl, rfl⟩)))))
 refine ls_rec (fun (s : Int × Int) => match s with | (y1, y2) => [(7, nI y1), (16, dL ci64 v1.2), (17, nI (List.length v1.2 : Int)), (18, nI y2)]) _ _ _ _ hl (okr rfl) (fun _ => rfl) ?_
 rintro m ⟨y1, y2⟩ N h hN
 unfold impl_MaxColumnDegree_B1 at h
 dsimp only at h
 refine rn 1 rfl (ls_seq_k fun K5 hK5 => ?_)
 rcases cond_some h with ⟨g6, h⟩ | ⟨g6, h⟩
 ·refine qT rfl g6 (ls_skip (hK5 _ (ls_seq_k fun K7 hK7 => ls_blk (rs ?_))))
  obtain ⟨e8, g9, h⟩ := ob_some h
  exact qI rfl zci64 g9 (sp 2 rfl (evn (rg (sp 4 rfl (evn (hK7 _ (rg (sp 2 rfl (evn (hN _ _ h (okr rfl)))))))))))
 ·exact qF rfl g6 (ls_exit (kXB1 (Option.some.inj h) _ (okr rfl)))
def impl_DistinctCount (a0 : Y25) (a1 : Int) : Option (Int) := obind (impl_ColumnDegrees a0 a1) fun v1 => some (List.length v1.1 : Int)
theorem impl_DistinctCount_s {a0 : Y25} {a1 : Int} {r : Int} (h : impl_DistinctCount a0 a1 = some r) : SoundAt Try.prog 20 [.agg (c26_dd a0), nI a1] (nI r) := by
 unfold impl_DistinctCount at h
 refine st lit20 rfl (rn 1 rfl (rs (sp 2 rfl (?_))))
 obtain ⟨v1, g2, h⟩ := ob_some h
 exact qC (qa rfl (erg (erc rfl (erc (erD ec31_d _) rfl))) (qs rfl eran)) (impl_ColumnDegrees_s g2) (sp 5 rfl (evn (rn 1 rfl (ls_ret ((by cases h; exact ⟨.inl rfl, rfl⟩))))))
def laws_FnColumnStatistics_B2 (v9 : (List Int) × (List Int)) (rec : (Int × Int × Int) → Option (Int × Int)) (s : Int × Int × Int) : Option (Int × Int) := match s with
  | (y1, y2, y3) => cond (decide (y3 < (List.length v9.2 : Int))) (obind (geti v9.2 y3) fun e23 => obind (geti v9.2 y3) fun e25 => rec ((IntKind.i64.wrap (y1 + e23)), (if y2 < e25 then e25 else y2), (IntKind.i64.wrap (y3 + 1)))) (some (y1, y2))
def laws_FnColumnStatistics_J3 (x43 : Bool) : Option (Bool) := some x43
def laws_FnColumnStatistics_J1 (v5 : Y25 × Int × Int) (v7 : Y25 × Y25 × Bool) (v9 : (List Int) × (List Int)) (x13 : Bool) : Option (Bool) := cond x13 (some false) (cond (!v7.2.2) (some ((List.length v9.1 : Int) == 0)) (obind (loopF (laws_FnColumnStatistics_B2 v9) fz (0, 0, 0)) fun o2 => (match o2 with
  | (z18, z19) => (obind (impl_Union v7.1 v7.2.1) fun v27 => cond (!v27.2) (some false) (obind (spec_EqualRelations v27.1 v5.1) fun v31 => cond (!v31) (some false) (cond ((IntKind.i64.wrap ((List.length v7.1.2 : Int) + (List.length v7.2.1.2 : Int))) != (List.length v5.1.2 : Int)) (some false) (cond (z18 != (List.length v5.1.2 : Int)) (some false) (obind (impl_MaxColumnDegree v5.1 v5.2.1) fun v36 => cond (v36 != z19) (some false) (obind (impl_DistinctCount v5.1 v5.2.1) fun v39 => cond (v39 != (List.length v9.1 : Int)) (some false) (obind (impl_MaxColumnDegree v7.2.1 v5.2.1) fun v44 => cond (decide (v44 < (if v5.2.2 < 1 then 1 else v5.2.2))) (laws_FnColumnStatistics_J3 true) (cond (decide (v5.2.2 < 1)) (laws_FnColumnStatistics_J3 ((List.length v7.2.1.2 : Int) == 0)) (laws_FnColumnStatistics_J3 false))))))))))))
def laws_FnColumnStatistics (a0 : List Int) : Option (Bool) := obind (laws_big a0) fun v2 => cond v2 (some true) (obind (spec_DrawSplitHeavy a0) fun v5 => obind (impl_SplitHeavy v5.1 v5.2.1 v5.2.2) fun v7 => obind (impl_ColumnDegrees v5.1 v5.2.1) fun v9 => obind (spec_IsValidRelation v5.1) fun v48 => cond v48 (cond (decide (0 ≤ v5.2.1)) (cond (!(v7.2.2 == (decide (v5.2.1 < v5.1.1)))) (laws_FnColumnStatistics_J1 v5 v7 v9 true) (cond ((List.length v9.1 : Int) != (List.length v9.2 : Int)) (laws_FnColumnStatistics_J1 v5 v7 v9 true) (obind (impl_IsStrictlyAscending v9.1) fun v54 => laws_FnColumnStatistics_J1 v5 v7 v9 (!v54)))) (cond (!(v7.2.2 == false)) (laws_FnColumnStatistics_J1 v5 v7 v9 true) (cond ((List.length v9.1 : Int) != (List.length v9.2 : Int)) (laws_FnColumnStatistics_J1 v5 v7 v9 true) (obind (impl_IsStrictlyAscending v9.1) fun v58 => laws_FnColumnStatistics_J1 v5 v7 v9 (!v58))))) (cond (!(v7.2.2 == false)) (laws_FnColumnStatistics_J1 v5 v7 v9 true) (cond ((List.length v9.1 : Int) != (List.length v9.2 : Int)) (laws_FnColumnStatistics_J1 v5 v7 v9 true) (obind (impl_IsStrictlyAscending v9.1) fun v62 => laws_FnColumnStatistics_J1 v5 v7 v9 (!v62)))))
theorem laws_FnColumnStatistics_s {a0 : List Int} {r : Bool} (h : laws_FnColumnStatistics a0 = some r) : SoundAt Try.prog 3 [dL cu8 a0] (.bool r) := by
 unfold laws_FnColumnStatistics at h
 refine sta lit3 rfl (aall (ableD (fun _ => rfl) _) rfl) (mvv (argD (fun _ => rfl) _) rfl) rfl (rn 1 rfl (ls_seq_k fun K1 hK1 => rs (sp 1 rfl (?_))))
 obtain ⟨v2, g3, h⟩ := ob_some h
 refine qC (qa rfl (erG ecu8 _) eran) (laws_big_s g3) (evn ?_)
 rcases cond_some h with ⟨g4, h⟩ | ⟨g4, h⟩
 ·exact qT rfl g4 (rn 1 rfl (ls_ret ((by cases h; exact ⟨.inl rfl, rfl⟩))))
 ·refine qF rfl g4 (ls_skip (hK1 _ (rs (sp 1 rfl (?_)))))
  obtain ⟨v5, g6, h⟩ := ob_some h
  refine qCk rfl rfl (spec_DrawSplitHeavy_s g6) (sp 8 rfl (evn (rs (sp 3 rfl (?_)))))
  obtain ⟨v7, g8, h⟩ := ob_some h
  refine qC (qa rfl (erg (erc rfl (erc (erD ec31_o _) rfl))) (qs rfl (qs rfl eran))) (impl_SplitHeavy_s g8) (sp 9 rfl (evn (qk [3, 4, 5, 6, 7, 8] rfl (rs (sp 2 rfl (?_))))))
  obtain ⟨v9, g10, h⟩ := ob_some h
  refine qC (qa rfl (erg (erc rfl (erc (erD ec31_o _) rfl))) (qs rfl eran)) (impl_ColumnDegrees_s g10) (sp 5 rfl (evn (ls_seq_k fun K11 hK11 => rk fun K12 hK12 => ?_)))
  have kJ1 : ∀ {x13 : Bool}, laws_FnColumnStatistics_J1 v5 v7 v9 x13 = some r → Jn K12 [(3, .box [nI v5.1.1, dL c31_o v5.1.2]), (4, nI v5.2.1), (5, nI v5.2.2), (6, .box [nI v7.1.1, oL 31 c31_o v7.1.2]), (7, .box [nI v7.2.1.1, oL 31 c31_o v7.2.1.2]), (8, .bool v7.2.2), (9, oL 3 ci64 v9.1), (10, oL 3 ci64 v9.2), (63, .bool x13)] := by
   intro x13 h σ' hk
   unfold laws_FnColumnStatistics_J1 at h
   refine hK12 _ (lh hk rfl ?_)
   rcases cond_some h with ⟨g14, h⟩ | ⟨g14, h⟩
   ·exact qT rfl g14 (rn 1 rfl (ls_ret ((by cases h; exact ⟨.inl rfl, rfl⟩))))
   ·refine qF rfl g14 (ls_skip (hK11 _ (ls_seq_k fun K15 hK15 => rn 1 rfl ?_)))
    rcases cond_some h with ⟨g16, h⟩ | ⟨g16, h⟩
    ·exact qT rfl g16 (rn 1 rfl (ls_ret ((by cases h; exact ⟨.inl rfl, rfl⟩))))
    ·refine qF rfl g16 (ls_skip (hK15 _ (rn 2 rfl (ls_seq_k fun K17 hK17 => rn 1 rfl (qk [3, 4, 5, 6, 7, 9, 10, 11, 12, 13] rfl ?_)))))
     obtain ⟨o2, hl, hr2⟩ := ob_some h
     have kXB2 : ∀ {z18 : Int} {z19 : Int}, (z18, z19) = o2 → Jn K17 [(3, .box [nI v5.1.1, dL c31_o v5.1.2]), (4, nI v5.2.1), (5, nI v5.2.2), (6, .box [nI v7.1.1, oL 31 c31_o v7.1.2]), (7, .box [nI v7.2.1.1, oL 31 c31_o v7.2.1.2]), (9, oL 3 ci64 v9.1), (11, nI z18), (12, nI z19)] := by
      intro z18 z19 h σ' hk
      subst h
      replace h := hr2
      try dsimp only at h
      refine hK17 _ (lh hk rfl (rs (sp 2 rfl (?_))))
      obtain ⟨v27, g28, h⟩ := ob_some h
      refine qC (qa rfl (erg (erc rfl (erc (erD ec31_o _) rfl))) (qa rfl (erg (erc rfl (erc (erD ec31_o _) rfl))) eran)) (impl_Union_s g28) (sp 6 rfl (evn (ls_seq_k fun K29 hK29 => rs (sp 3 rfl (?_)))))
      rcases cond_some h with ⟨g30, h⟩ | ⟨g30, h⟩
      ·exact qg 95 g30 rfl (sp 40 rfl (evn (qk [4, 5, 7, 135] rfl (qT rfl rfl (rn 1 rfl (ls_ret ((by cases h; exact ⟨.inl rfl, rfl⟩))))))))
      ·refine qg 95 g30 rfl (sp 2 rfl (?_))
       obtain ⟨v31, g32, h⟩ := ob_some h
       refine oGR rfl rfl (qC (qa rfl (erg (erc rfl (erc (erD ec31_o _) rfl))) (qa rfl (erg (erc rfl (erc (erD ec31_o _) rfl))) eran)) (spec_EqualRelations_s g32) (sp 3 rfl (?_)))
       rcases cond_some h with ⟨g33, h⟩ | ⟨g33, h⟩
       ·exact qg 101 g33 rfl (sp 34 rfl (evn (qk [4, 5, 7, 135] rfl (qT rfl rfl (rn 1 rfl (ls_ret ((by cases h; exact ⟨.inl rfl, rfl⟩))))))))
       ·refine qg 101 g33 rfl (sp 13 rfl (?_))
        rcases cond_some h with ⟨g34, h⟩ | ⟨g34, h⟩
        ·exact qg 114 g34 rfl (sp 21 rfl (evn (qT rfl rfl (rn 1 rfl (qk [2] rfl (ls_ret ((by cases h; exact ⟨.inl rfl, rfl⟩))))))))
        ·refine qg 114 g34 rfl (sp 7 rfl (?_))
         rcases cond_some h with ⟨g35, h⟩ | ⟨g35, h⟩
         ·exact qg 121 g35 rfl (sp 14 rfl (evn (qT rfl rfl (rn 1 rfl (ls_ret ((by cases h; exact ⟨.inl rfl, rfl⟩)))))))
         ·refine qg 121 g35 rfl (sp 2 rfl (?_))
          obtain ⟨v36, g37, h⟩ := ob_some h
          refine oGR rfl rfl (qC (qa rfl (erg (erc rfl (erc (erD ec31_o _) rfl))) (qs rfl eran)) (impl_MaxColumnDegree_s g37) (sp 4 rfl (?_)))
          rcases cond_some h with ⟨g38, h⟩ | ⟨g38, h⟩
          ·exact qg 128 g38 rfl (sp 7 rfl (evn (qk [4, 5, 7, 135] rfl (qT rfl rfl (rn 1 rfl (ls_ret ((by cases h; exact ⟨.inl rfl, rfl⟩))))))))
          ·refine qg 128 g38 rfl (sp 2 rfl (?_))
           obtain ⟨v39, g40, h⟩ := ob_some h
           refine oGR rfl rfl (qC (qa rfl (erg (erc rfl (erc (erD ec31_o _) rfl))) (qs rfl eran)) (impl_DistinctCount_s g40) (sp 4 rfl (evn ?_)))
           rcases cond_some h with ⟨g41, h⟩ | ⟨g41, h⟩
           ·exact qT rfl g41 (rn 1 rfl (ls_ret ((by cases h; exact ⟨.inl rfl, rfl⟩))))
           ·refine qF rfl g41 (ls_skip (hK29 _ (rk fun K42 hK42 => ?_)))
            have kJ3 : ∀ {x43 : Bool}, laws_FnColumnStatistics_J3 x43 = some r → Jn K42 [(2, .bool x43)] := by
             intro x43 h σ' hk
             unfold laws_FnColumnStatistics_J3 at h
             exact hK42 _ (lh hk rfl (ls_ret ((by cases h; exact ⟨.inl rfl, rfl⟩))))
            refine sp 2 rfl (?_)
            obtain ⟨v44, g45, h⟩ := ob_some h
            refine qC (qa rfl (erg (erc rfl (erc (erD ec31_o _) rfl))) (qs rfl eran)) (impl_MaxColumnDegree_s g45) (sp 4 rfl (?_))
            rcases cond_some h with ⟨g46, h⟩ | ⟨g46, h⟩
            ·exact qg 142 g46 rfl (sp 10 rfl (evn (kJ3 h _ (okr rfl))))
            ·refine qg 142 g46 rfl (sp 3 rfl (?_))
             rcases cond_some h with ⟨g47, h⟩ | ⟨g47, h⟩
             ·exact qg 145 g47 rfl (sp 7 rfl (evn (kJ3 h _ (okr rfl))))
             ·exact qg 145 g47 rfl (sp 7 rfl (evn (kJ3 h _ (okr rfl))))
     refine ls_rec (fun (s : Int × Int × Int) => match s with | (y1, y2, y3) => [(3, .box [nI v5.1.1, dL c31_o v5.1.2]), (4, nI v5.2.1), (5, nI v5.2.2), (6, .box [nI v7.1.1, oL 31 c31_o v7.1.2]), (7, .box [nI v7.2.1.1, oL 31 c31_o v7.2.1.2]), (9, oL 3 ci64 v9.1), (10, oL 3 ci64 v9.2), (11, nI y1), (12, nI y2), (13, nI y3)]) _ _ _ _ hl (okr rfl) (fun _ => rfl) ?_
     rintro m ⟨y1, y2, y3⟩ N h hN
     unfold laws_FnColumnStatistics_B2 at h
     dsimp only at h
     refine ls_seq_k fun K20 hK20 => rn 1 rfl ?_
     rcases cond_some h with ⟨g21, h⟩ | ⟨g21, h⟩
     ·refine qT rfl g21 (ls_skip (hK20 _ (ls_seq_k fun K22 hK22 => ls_blk (rs (sp 3 rfl (?_))))))
      obtain ⟨e23, g24, h⟩ := ob_some h
      refine qI rfl zci64 g24 (sp 3 rfl (evn (rg (sp 3 rfl (?_)))))
      obtain ⟨e25, g26, h⟩ := ob_some h
      exact qI rfl zci64 g26 (sp 3 rfl (evn (hK22 _ (rg (sp 3 rfl (evn (hN _ _ h (okr rfl))))))))
     ·exact qF rfl g21 (ls_exit (kXB2 (Option.some.inj h) _ (okr rfl)))
  refine sp 2 rfl (?_)
  obtain ⟨v48, g49, h⟩ := ob_some h
  refine qC (qa rfl (erg (erc rfl (erc (erD ec31_o _) rfl))) eran) (spec_IsValidRelation_s g49) (sp 1 rfl (?_))
  rcases cond_some h with ⟨g50, h⟩ | ⟨g50, h⟩
  ·refine qg 41 g50 rfl (sp 4 rfl (?_))
   rcases cond_some h with ⟨g51, h⟩ | ⟨g51, h⟩
   ·refine qg 45 g51 rfl (sp 7 rfl (?_))
    rcases cond_some h with ⟨g52, h⟩ | ⟨g52, h⟩
    ·exact qg 52 g52 rfl (sp 11 rfl (evn (kJ1 h _ (okr rfl))))
    ·refine qg 52 g52 rfl (sp 7 rfl (?_))
     rcases cond_some h with ⟨g53, h⟩ | ⟨g53, h⟩
     ·exact qg 59 g53 rfl (sp 4 rfl (evn (kJ1 h _ (okr rfl))))
     ·refine qg 59 g53 rfl (sp 1 rfl (?_))
      obtain ⟨v54, g55, h⟩ := ob_some h
      exact oGR rfl rfl (qC (qa rfl (erD eci64 _) eran) (impl_IsStrictlyAscending_s g55) (sp 2 rfl (evn (kJ1 h _ (okr rfl)))))
   ·refine qg 45 g51 rfl (sp 7 rfl (?_))
    rcases cond_some h with ⟨g56, h⟩ | ⟨g56, h⟩
    ·exact qg 52 g56 rfl (sp 11 rfl (evn (kJ1 h _ (okr rfl))))
    ·refine qg 52 g56 rfl (sp 7 rfl (?_))
     rcases cond_some h with ⟨g57, h⟩ | ⟨g57, h⟩
     ·exact qg 59 g57 rfl (sp 4 rfl (evn (kJ1 h _ (okr rfl))))
     ·refine qg 59 g57 rfl (sp 1 rfl (?_))
      obtain ⟨v58, g59, h⟩ := ob_some h
      exact oGR rfl rfl (qC (qa rfl (erD eci64 _) eran) (impl_IsStrictlyAscending_s g59) (sp 2 rfl (evn (kJ1 h _ (okr rfl)))))
  ·refine qg 41 g50 rfl (sp 11 rfl (?_))
   rcases cond_some h with ⟨g60, h⟩ | ⟨g60, h⟩
   ·exact qg 52 g60 rfl (sp 11 rfl (evn (kJ1 h _ (okr rfl))))
   ·refine qg 52 g60 rfl (sp 7 rfl (?_))
    rcases cond_some h with ⟨g61, h⟩ | ⟨g61, h⟩
    ·exact qg 59 g61 rfl (sp 4 rfl (evn (kJ1 h _ (okr rfl))))
    ·refine qg 59 g61 rfl (sp 1 rfl (?_))
     obtain ⟨v62, g63, h⟩ := ob_some h
     exact oGR rfl rfl (qC (qa rfl (erD eci64 _) eran) (impl_IsStrictlyAscending_s g63) (sp 2 rfl (evn (kJ1 h _ (okr rfl)))))
end Go.Proofs.Ytmioifafgbjjhaa
