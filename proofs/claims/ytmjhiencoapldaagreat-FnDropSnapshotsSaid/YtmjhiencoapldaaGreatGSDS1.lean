/-
  Functions of the program as typed functions, printed by gen.py, and that the program's functions do what they say. No conditions.
-/
import Derived.Test.YtmjhiencoapldaaGreatKb
import Derived.Test.YtmjhiencoapldaaGreatLit2DS1
namespace Go.Proofs.YtmjhiencoapldaaGreat
open Go.RowKit
set_option linter.unusedVariables false
set_option maxRecDepth 100000
set_option maxHeartbeats 1000000
def laws_big (a0 : List Int) : Option (Bool) := some (decide (1048576 < (List.length a0 : Int)))
theorem laws_big_s {a0 : List Int} {r : Bool} (h : laws_big a0 = some r) : SoundAt Tryz.prog 8 [dL cu8 a0] (.bool r) := by
 unfold laws_big at h
 exact st lit8 rfl (rn 2 rfl (ls_ret ((by cases h; exact ⟨.inl rfl, rfl⟩))))
abbrev Y163 := (List Int) × Int × Int
def spec_l1New_B1 (a0 : List Int) (rec : (Int × Int) → Option (Int)) (s : Int × Int) : Option (Int) := match s with
  | (y1, y2) => cond (decide (y2 < (List.length a0 : Int))) (cond (decide (y2 < 4000)) (obind (geti a0 y2) fun e7 => rec ((andI (IntKind.i64.wrap ((IntKind.i64.wrap ((IntKind.i64.wrap (y1 * 131)) + (IntKind.i64.wrap e7))) + 7)) 1073741823), (IntKind.i64.wrap (y2 + 1)))) (some y1)) (some y1)
def spec_l1New (a0 : List Int) : Option (Y163) := obind (loopF (spec_l1New_B1 a0) fz ((IntKind.i64.wrap (10101 + (List.length a0 : Int))), 0)) fun z2 => some (a0, 0, z2)
theorem spec_l1New_s {a0 : List Int} {r : Y163} (h : spec_l1New a0 = some r) : NewAt Tryz.prog 58 [aL cu8 a0] [aL cu8 r.1, nI r.2.1, nI r.2.2] := by
 unfold spec_l1New at h
 refine stn lit58 rfl rfl (rn 2 rfl (ls_seq_k fun K1 hK1 => rn 1 rfl ?_))
 obtain ⟨o1, hl, hr1⟩ := ob_some h
 have kXB1 : ∀ {z2 : Int}, z2 = o1 → Jn K1 [(0, aL cu8 a0), (3, nI z2)] := by
  intro z2 h σ' hk
  subst h
  replace h := hr1
  try dsimp only at h
  exact hK1 _ (lh hk rfl (rn 1 rfl (ls_ret ((by cases h; exact ⟨.inl rfl, 31, rfl, rfl⟩)))))
 refine ls_rec (fun (s : Int × Int) => match s with | (y1, y2) => [(0, aL cu8 a0), (3, nI y1), (4, nI y2)]) _ _ _ _ hl (okr rfl) (fun _ => rfl) ?_
 rintro m ⟨y1, y2⟩ N h hN
 unfold spec_l1New_B1 at h
 dsimp only at h
 refine ls_seq_k fun K3 hK3 => rs (sp 5 rfl (?_))
 rcases cond_some h with ⟨g4, h⟩ | ⟨g4, h⟩
 ·refine qg 12 g4 rfl (sp 3 rfl (evn ?_))
  rcases cond_some h with ⟨g5, h⟩ | ⟨g5, h⟩
  ·refine qT rfl g5 (ls_skip (hK3 _ (ls_seq_k fun K6 hK6 => ls_blk (rg (sp 4 rfl (?_))))))
   obtain ⟨e7, g8, h⟩ := ob_some h
   exact qI rfl zcu8 g8 (sp 6 rfl (evn (hK6 _ (rg (sp 3 rfl (evn (hN _ _ h (okr rfl))))))))
  ·exact qF rfl g5 (ls_exit (kXB1 (Option.some.inj h) _ (okr rfl)))
 ·exact qg 12 g4 rfl (sp 3 rfl (evn (qF rfl rfl (ls_exit (kXB1 (Option.some.inj h) _ (okr rfl))))))
def spec_l1Byte_J1 (a0 : Y163) (x2 : Int) (x3 : Int) : Option (Int × Y163) := some (x3, (a0.1, x2, IntKind.i64.wrap ((IntKind.i64.wrap (a0.2.2 * 6364136223846793005)) + 1442695040888963407)))
def spec_l1Byte (a0 : Y163) : Option (Int × Y163) := cond (decide (a0.2.1 < (List.length a0.1 : Int))) (obind (geti a0.1 a0.2.1) fun e5 => spec_l1Byte_J1 a0 (IntKind.i64.wrap (a0.2.1 + 1)) (andI (IntKind.i64.wrap ((andI (xorI (shrI (IntKind.i64.wrap ((IntKind.i64.wrap (a0.2.2 * 6364136223846793005)) + 1442695040888963407)) 33) (shrI (IntKind.i64.wrap ((IntKind.i64.wrap (a0.2.2 * 6364136223846793005)) + 1442695040888963407)) 45)) 255) + (IntKind.i64.wrap e5))) 255)) (spec_l1Byte_J1 a0 a0.2.1 (andI (xorI (shrI (IntKind.i64.wrap ((IntKind.i64.wrap (a0.2.2 * 6364136223846793005)) + 1442695040888963407)) 33) (shrI (IntKind.i64.wrap ((IntKind.i64.wrap (a0.2.2 * 6364136223846793005)) + 1442695040888963407)) 45)) 255))
theorem spec_l1Byte_s {a0 : Y163} {r : Int × Y163} (h : spec_l1Byte a0 = some r) : PtrAt Tryz.prog 156 [aL cu8 a0.1, nI a0.2.1, nI a0.2.2] [] [aL cu8 r.2.1, nI r.2.2.1, nI r.2.2.2] (nI r.1) := by
 unfold spec_l1Byte at h
 refine stp lit156 rfl (rn 2 rfl (rd (by kernel_rfl) (sd 13 rfl (evdn (ls_seq_k fun K1 hK1 => rd (by kernel_rfl) (sd 10 rfl (evdn ?_)))))))
 have kJ1 : ∀ {x2 : Int} {x3 : Int}, spec_l1Byte_J1 a0 x2 x3 = some r → Jn K1 [(0, .box [aL cu8 a0.1, nI x2, nI (IntKind.i64.wrap ((IntKind.i64.wrap (a0.2.2 * 6364136223846793005)) + 1442695040888963407))]), (3, nI x3)] := by
  intro x2 x3 h σ' hk
  unfold spec_l1Byte_J1 at h
  exact hK1 _ (lh hk rfl (rn 1 rfl (ls_ret ((by cases h; exact ⟨.inl rfl, rfl, rfl⟩)))))
 rcases cond_some h with ⟨g4, h⟩ | ⟨g4, h⟩
 ·refine qT rfl g4 (rd (by kernel_rfl) (sd 9 rfl (?_)))
  obtain ⟨e5, g6, h⟩ := ob_some h
  exact ed rfl (qI rfl zcu8 g6 (sd 5 rfl (evdn (rg (sp 9 rfl (evn (kJ1 h _ (okr rfl))))))))
 ·exact qF rfl g4 (ls_skip (kJ1 h _ (okr rfl)))
def c164_d (x : Y163) : List V := [dL cu8 x.1, nI x.2.1, nI x.2.2]
theorem zc164_d (x : Y163) : (c164_d x).length = 3 := rfl
theorem ec164_d (x : Y163) : erL (c164_d x) = c164_d x := (erc (erD ecu8 _) (erc rfl (erc rfl rfl)))
def c164_a (x : Y163) : List V := [aL cu8 x.1, nI x.2.1, nI x.2.2]
theorem zc164_a (x : Y163) : (c164_a x).length = 3 := rfl
theorem ec164_a (x : Y163) : erL (c164_a x) = c164_d x := (erc (erG ecu8 _) (erc rfl (erc rfl rfl)))
def spec_l1Below (a0 : Y163) (a1 : Int) : Option (Int × Y163) := cond (decide (a1 ≤ 0)) (some (0, a0)) (cond (decide (a1 ≤ 256)) (obind (spec_l1Byte a0) fun v5 => chk (a1 ≠ 0) (some (Int.tmod v5.1 a1, v5.2))) (obind (spec_l1Byte a0) fun v8 => obind (spec_l1Byte v8.2) fun v10 => obind (spec_l1Byte v10.2) fun v12 => obind (spec_l1Byte v12.2) fun v14 => chk (a1 ≠ 0) (some (Int.tmod (IntKind.i64.wrap ((IntKind.i64.wrap ((IntKind.i64.wrap ((IntKind.i64.wrap (v8.1 * 16777216)) + (IntKind.i64.wrap (v10.1 * 65536)))) + (IntKind.i64.wrap (v12.1 * 256)))) + v14.1)) a1, v14.2))))
theorem spec_l1Below_s {a0 : Y163} {a1 : Int} {r : Int × Y163} (h : spec_l1Below a0 a1 = some r) : PtrAt Tryz.prog 80 [aL cu8 a0.1, nI a0.2.1, nI a0.2.2] [nI a1] [aL cu8 r.2.1, nI r.2.2.1, nI r.2.2.2] (nI r.1) := by
 unfold spec_l1Below at h
 refine stp lit80 rfl (rn 1 rfl (ls_seq_k fun K1 hK1 => rn 1 rfl ?_))
 rcases cond_some h with ⟨g2, h⟩ | ⟨g2, h⟩
 ·exact qT rfl g2 (rn 1 rfl (ls_ret ((by cases h; exact ⟨.inl rfl, rfl, rfl⟩))))
 ·refine qF rfl g2 (ls_skip (hK1 _ (ls_seq_k fun K3 hK3 => rn 1 rfl ?_)))
  rcases cond_some h with ⟨g4, h⟩ | ⟨g4, h⟩
  ·refine qT rfl g4 (rs (sp 1 rfl (?_)))
   obtain ⟨v5, g6, h⟩ := ob_some h
   refine qP rfl rfl rfl rfl eran (spec_l1Byte_s g6) (sp 1 rfl (?_))
   obtain ⟨g7, h⟩ := chk_some h
   exact qB rfl ⟨rfl, g7⟩ rfl (sp 1 rfl (evn (ls_ret ((by cases h; exact ⟨.inl rfl, rfl, rfl⟩)))))
  ·refine qF rfl g4 (ls_skip (hK3 _ (rs (sp 1 rfl (?_)))))
   obtain ⟨v8, g9, h⟩ := ob_some h
   refine qP rfl rfl rfl rfl eran (spec_l1Byte_s g9) (sp 1 rfl (evn (qk [0, 1, 5] rfl (rs (sp 1 rfl (?_))))))
   obtain ⟨v10, g11, h⟩ := ob_some h
   refine qP rfl rfl rfl rfl eran (spec_l1Byte_s g11) (sp 1 rfl (evn (rs (sp 1 rfl (?_)))))
   obtain ⟨v12, g13, h⟩ := ob_some h
   refine qP rfl rfl rfl rfl eran (spec_l1Byte_s g13) (sp 1 rfl (evn (rs (sp 1 rfl (?_)))))
   obtain ⟨v14, g15, h⟩ := ob_some h
   refine qP rfl rfl rfl rfl eran (spec_l1Byte_s g15) (sp 1 rfl (evn (rs (sp 11 rfl (?_)))))
   obtain ⟨g16, h⟩ := chk_some h
   exact qB rfl ⟨rfl, g16⟩ rfl (sp 1 rfl (evn (ls_ret ((by cases h; exact ⟨.inl rfl, rfl, rfl⟩)))))
def spec_l1PickInt (a0 : Y163) (a1 : List Int) : Option (Int × Y163) := obind (spec_l1Below a0 (List.length a1 : Int)) fun v1 => obind (geti a1 v1.1) fun e3 => some (e3, v1.2)
theorem spec_l1PickInt_s {a0 : Y163} {a1 : List Int} {r : Int × Y163} (h : spec_l1PickInt a0 a1 = some r) : PtrAt Tryz.prog 155 [aL cu8 a0.1, nI a0.2.1, nI a0.2.2] [dL ci64 a1] [aL cu8 r.2.1, nI r.2.2.1, nI r.2.2.2] (nI r.1) := by
 unfold spec_l1PickInt at h
 refine stp lit155 rfl (rn 1 rfl (rs (sp 4 rfl (?_))))
 obtain ⟨v1, g2, h⟩ := ob_some h
 refine qP rfl rfl rfl rfl (qs rfl eran) (spec_l1Below_s g2) (?_)
 obtain ⟨e3, g4, h⟩ := ob_some h
 exact qI rfl zci64 g4 (sp 2 rfl (evn (ls_ret ((by cases h; exact ⟨.inl rfl, rfl, rfl⟩)))))
def spec_l1Once (a0 : Y163) (a1 : Int) : Option (Bool × Y163) := obind (spec_l1Below a0 a1) fun v1 => some ((v1.1 == 0), v1.2)
theorem spec_l1Once_s {a0 : Y163} {a1 : Int} {r : Bool × Y163} (h : spec_l1Once a0 a1 = some r) : PtrAt Tryz.prog 161 [aL cu8 a0.1, nI a0.2.1, nI a0.2.2] [nI a1] [aL cu8 r.2.1, nI r.2.2.1, nI r.2.2.2] (.bool r.1) := by
 unfold spec_l1Once at h
 refine stp lit161 rfl (rn 1 rfl (rs (sp 2 rfl (?_))))
 obtain ⟨v1, g2, h⟩ := ob_some h
 exact qP rfl rfl rfl rfl (qs rfl eran) (spec_l1Below_s g2) (sp 2 rfl (evn (ls_ret ((by cases h; exact ⟨.inl rfl, rfl, rfl⟩)))))
def spec_l1In_J1 (x2 : Bool) : Option (Bool) := some x2
def spec_l1In (a0 : Int) (a1 : Int) (a2 : Int) : Option (Bool) := cond (decide (a1 ≤ a0)) (spec_l1In_J1 (decide (a0 ≤ a2))) (spec_l1In_J1 false)
theorem spec_l1In_s {a0 : Int} {a1 : Int} {a2 : Int} {r : Bool} (h : spec_l1In a0 a1 a2 = some r) : SoundAt Tryz.prog 84 [nI a0, nI a1, nI a2] (.bool r) := by
 unfold spec_l1In at h
 refine st lit84 rfl (rn 1 rfl (rk fun K1 hK1 => ?_))
 have kJ1 : ∀ {x2 : Bool}, spec_l1In_J1 x2 = some r → Jn K1 [(6, .bool x2)] := by
  intro x2 h σ' hk
  unfold spec_l1In_J1 at h
  exact hK1 _ (lh hk rfl (ls_ret ((by cases h; exact ⟨.inl rfl, rfl⟩))))
 refine sp 4 rfl (?_)
 rcases cond_some h with ⟨g3, h⟩ | ⟨g3, h⟩
 ·exact qg 10 g3 rfl (sp 5 rfl (evn (kJ1 h _ (okr rfl))))
 ·exact qg 10 g3 rfl (sp 5 rfl (evn (kJ1 h _ (okr rfl))))
def spec_AreValidValues_B1 (a0 : List Int) (rec : Int → Option (Sum (Unit) (Bool))) (y1 : Int) : Option (Sum (Unit) (Bool)) := cond (decide (y1 < (List.length a0 : Int))) (obind (geti a0 y1) fun e5 => obind (spec_l1In e5 0 99) fun v7 => cond (!v7) (some (.inr false)) (rec (IntKind.i64.wrap (y1 + 1)))) (some (.inl ()))
def spec_AreValidValues (a0 : List Int) : Option (Bool) := obind (loopF (spec_AreValidValues_B1 a0) fz 0) fun o1 => (match o1 with
  | .inl _ => (some true)
  | .inr r => some r)
theorem spec_AreValidValues_s {a0 : List Int} {r : Bool} (h : spec_AreValidValues a0 = some r) : SoundAt Tryz.prog 134 [dL ci64 a0] (.bool r) := by
 unfold spec_AreValidValues at h
 refine st lit134 rfl (rn 1 rfl (ls_seq_k fun K1 hK1 => rn 1 rfl ?_))
 obtain ⟨o1, hl, hr1⟩ := ob_some h
 have kXB1 : (.inl ()) = o1 → Jn K1 [] := by
  intro h σ' hk
  subst h
  replace h := hr1
  try dsimp only at h
  exact hK1 _ (lh hk rfl (rn 1 rfl (ls_ret ((by cases h; exact ⟨.inl rfl, rfl⟩)))))
 refine ls_rec (fun (y1 : Int) => [(0, dL ci64 a0), (3, nI y1)]) _ _ _ _ hl (okr rfl) (fun _ => rfl) ?_
 rintro m y1 N h hN
 unfold spec_AreValidValues_B1 at h
 refine ls_seq_k fun K2 hK2 => rn 1 rfl ?_
 rcases cond_some h with ⟨g3, h⟩ | ⟨g3, h⟩
 ·refine qT rfl g3 (ls_skip (hK2 _ (ls_seq_k fun K4 hK4 => ls_blk (rs (sp 2 rfl (?_))))))
  obtain ⟨e5, g6, h⟩ := ob_some h
  refine qI rfl zci64 g6 (sp 1 rfl (?_))
  obtain ⟨v7, g8, h⟩ := ob_some h
  refine qC (qs rfl (qs rfl (qs rfl eran))) (spec_l1In_s g8) (sp 1 rfl (evn ?_))
  rcases cond_some h with ⟨g9, h⟩ | ⟨g9, h⟩
  ·exact qT rfl g9 (rn 1 rfl (ls_ret ((by cases h; cases hr1; exact ⟨.inl rfl, rfl⟩))))
  ·exact qF rfl g9 (ls_skip (hK4 _ (rg (sp 3 rfl (evn (hN _ _ h (okr rfl)))))))
 ·exact qF rfl g3 (ls_exit (kXB1 (Option.some.inj h) _ trivial))
abbrev Y37 := Int × (List (List Int))
def c28_d (x : List Int) : List V := [dL ci64 x]
theorem zc28_d (x : List Int) : (c28_d x).length = 1 := rfl
theorem ec28_d (x : List Int) : erL (c28_d x) = c28_d x := (erc (erD eci64 _) rfl)
def c28_o (x : List Int) : List V := [oL 3 ci64 x]
theorem zc28_o (x : List Int) : (c28_o x).length = 1 := rfl
theorem ec28_o (x : List Int) : erL (c28_o x) = c28_d x := (erc (erO eci64 _) rfl)
def c38_dd (x : Y37) : List V := [nI x.1, dL c28_d x.2]
theorem zc38_dd (x : Y37) : (c38_dd x).length = 2 := rfl
theorem ec38_dd (x : Y37) : erL (c38_dd x) = c38_dd x := (erc rfl (erc (erD ec28_d _) rfl))
def c38_oo (x : Y37) : List V := [nI x.1, oL 28 c28_o x.2]
theorem zc38_oo (x : Y37) : (c38_oo x).length = 2 := rfl
theorem ec38_oo (x : Y37) : erL (c38_oo x) = c38_dd x := (erc rfl (erc (erO ec28_o _) rfl))
def spec_l5Copy_B1 (a0 : Y37) (rec : ((List (List Int)) × Int) → Option ((List (List Int)))) (s : (List (List Int)) × Int) : Option ((List (List Int))) := match s with
  | (y1, y2) => cond (decide (y2 < (List.length a0.2 : Int))) (obind (geti a0.2 y2) fun e6 => chk (List.length ([] : List Int) + List.length e6 ≤ lim) (chk (List.length y1 + List.length ([([] : List Int) ++ e6]) ≤ lim) (rec ((y1 ++ ([([] : List Int) ++ e6])), (IntKind.i64.wrap (y2 + 1)))))) (some y1)
def spec_l5Copy (a0 : Y37) : Option (Y37) := obind (loopF (spec_l5Copy_B1 a0) fz (([] : List (List Int)), 0)) fun z2 => some (a0.1, z2)
theorem spec_l5Copy_s {a0 : Y37} {r : Y37} (h : spec_l5Copy a0 = some r) : SoundAt Tryz.prog 135 [.agg (c38_dd a0)] (.agg (c38_oo r)) := by
 unfold spec_l5Copy at h
 refine st lit135 rfl (rn 2 rfl (ls_seq_k fun K1 hK1 => rn 1 rfl ?_))
 obtain ⟨o1, hl, hr1⟩ := ob_some h
 have kXB1 : ∀ {z2 : List (List Int)}, z2 = o1 → Jn K1 [(2, .box [nI 0, oL 28 c28_o []]), (3, .box [nI a0.1, oL 28 c28_o z2])] := by
  intro z2 h σ' hk
  subst h
  replace h := hr1
  try dsimp only at h
  exact hK1 _ (lh hk rfl (rn 1 rfl (ls_ret ((by cases h; exact ⟨.inl rfl, rfl⟩)))))
 refine ls_rec (fun (s : (List (List Int)) × Int) => match s with | (y1, y2) => [(1, .box [nI a0.1, dL c28_d a0.2]), (2, .box [nI 0, oL 28 c28_o []]), (3, .box [nI a0.1, oL 28 c28_o y1]), (4, nI y2)]) _ _ _ _ hl (okr rfl) (fun _ => rfl) ?_
 rintro m ⟨y1, y2⟩ N h hN
 unfold spec_l5Copy_B1 at h
 dsimp only at h
 refine ls_seq_k fun K3 hK3 => rn 1 rfl ?_
 rcases cond_some h with ⟨g4, h⟩ | ⟨g4, h⟩
 ·refine qT rfl g4 (ls_skip (hK3 _ (ls_seq_k fun K5 hK5 => ls_blk (rgd (by kernel_rfl) (sd 2 rfl (ed rfl (qBs ci64 [] rfl rfl rfl zci64 (sd 3 rfl (?_)))))))))
  obtain ⟨e6, g7, h⟩ := ob_some h
  refine ed rfl (qI rfl zc28_d g7 (sd 1 rfl (?_)))
  obtain ⟨g8, h⟩ := chk_some h
  refine ed rfl (qA ci64 ([] : List Int) e6 rfl rfl (flat_len zci64 e6) (map_dg (fun _ => rfl) _) g8 (ed rfl (qBs c28_o [([] : List Int) ++ e6] rfl rfl rfl zc28_o (?_))))
  obtain ⟨g9, h⟩ := chk_some h
  exact ed rfl (qA c28_o y1 ([([] : List Int) ++ e6]) rfl rfl (flat_len zc28_o ([([] : List Int) ++ e6])) rfl g9 (sd 2 rfl (evdn (hK5 _ (rg (sp 3 rfl (evn (hN _ _ h (okr rfl)))))))))
 ·exact qF rfl g4 (ls_exit (kXB1 (Option.some.inj h) _ (okr rfl)))
def spec_CompareRows_B1 (a0 : List Int) (a1 : List Int) (rec : Int → Option (Sum (Unit) (Int))) (y1 : Int) : Option (Sum (Unit) (Int)) := cond (decide (y1 < (List.length a0 : Int))) (cond (decide (y1 < (List.length a1 : Int))) (obind (geti a0 y1) fun e7 => obind (geti a1 y1) fun e9 => cond (decide (e7 < e9)) (some (.inr (-1))) (obind (geti a0 y1) fun e12 => obind (geti a1 y1) fun e14 => cond (decide (e14 < e12)) (some (.inr 1)) (rec (IntKind.i64.wrap (y1 + 1))))) (some (.inl ()))) (some (.inl ()))
def spec_CompareRows (a0 : List Int) (a1 : List Int) : Option (Int) := obind (loopF (spec_CompareRows_B1 a0 a1) fz 0) fun o1 => (match o1 with
  | .inl _ => (cond (decide ((List.length a0 : Int) < (List.length a1 : Int))) (some (-1)) (cond (decide ((List.length a1 : Int) < (List.length a0 : Int))) (some 1) (some 0)))
  | .inr r => some r)
theorem spec_CompareRows_s {a0 : List Int} {a1 : List Int} {r : Int} (h : spec_CompareRows a0 a1 = some r) : SoundAt Tryz.prog 113 [dL ci64 a0, dL ci64 a1] (nI r) := by
 unfold spec_CompareRows at h
 refine st lit113 rfl (rn 1 rfl (ls_seq_k fun K1 hK1 => rn 1 rfl ?_))
 obtain ⟨o1, hl, hr1⟩ := ob_some h
 have kXB1 : (.inl ()) = o1 → Jn K1 [(0, dL ci64 a0), (1, dL ci64 a1)] := by
  intro h σ' hk
  subst h
  replace h := hr1
  try dsimp only at h
  refine hK1 _ (lh hk rfl (ls_seq_k fun K17 hK17 => rn 1 rfl ?_))
  rcases cond_some h with ⟨g18, h⟩ | ⟨g18, h⟩
  ·exact qT rfl g18 (rn 1 rfl (ls_ret ((by cases h; exact ⟨.inl rfl, rfl⟩))))
  ·refine qF rfl g18 (ls_skip (hK17 _ (ls_seq_k fun K19 hK19 => rn 1 rfl ?_)))
   rcases cond_some h with ⟨g20, h⟩ | ⟨g20, h⟩
   ·exact qT rfl g20 (rn 1 rfl (ls_ret ((by cases h; exact ⟨.inl rfl, rfl⟩))))
   ·exact qF rfl g20 (ls_skip (hK19 _ (rn 1 rfl (ls_ret ((by cases h; exact ⟨.inl rfl, rfl⟩))))))
 refine ls_rec (fun (y1 : Int) => [(0, dL ci64 a0), (1, dL ci64 a1), (5, nI y1)]) _ _ _ _ hl (okr rfl) (fun _ => rfl) ?_
 rintro m y1 N h hN
 unfold spec_CompareRows_B1 at h
 refine ls_seq_k fun K2 hK2 => rs (sp 5 rfl (?_))
 rcases cond_some h with ⟨g3, h⟩ | ⟨g3, h⟩
 ·refine qg 10 g3 rfl (sp 5 rfl (evn ?_))
  rcases cond_some h with ⟨g4, h⟩ | ⟨g4, h⟩
  ·refine qT rfl g4 (ls_skip (hK2 _ (ls_seq_k fun K5 hK5 => ls_blk (ls_seq_k fun K6 hK6 => rd (by kernel_rfl) (sd 2 rfl (?_))))))
   obtain ⟨e7, g8, h⟩ := ob_some h
   refine ed rfl (qI rfl zci64 g8 (sd 3 rfl (?_)))
   obtain ⟨e9, g10, h⟩ := ob_some h
   refine ed rfl (qI rfl zci64 g10 (sd 2 rfl (evdn ?_)))
   rcases cond_some h with ⟨g11, h⟩ | ⟨g11, h⟩
   ·exact qT rfl g11 (rn 1 rfl (ls_ret ((by cases h; cases hr1; exact ⟨.inl rfl, rfl⟩))))
   ·refine qF rfl g11 (ls_skip (hK6 _ (rd (by kernel_rfl) (sd 2 rfl (?_)))))
    obtain ⟨e12, g13, h⟩ := ob_some h
    refine ed rfl (qI rfl zci64 g13 (sd 3 rfl (?_)))
    obtain ⟨e14, g15, h⟩ := ob_some h
    refine ed rfl (qI rfl zci64 g15 (sd 2 rfl (evdn (qk [0, 1, 5, 35] rfl ?_))))
    rcases cond_some h with ⟨g16, h⟩ | ⟨g16, h⟩
    ·exact qT rfl g16 (rn 1 rfl (ls_ret ((by cases h; cases hr1; exact ⟨.inl rfl, rfl⟩))))
    ·exact qF rfl g16 (ls_skip (hK5 _ (rg (sp 3 rfl (evn (hN _ _ h (okr rfl)))))))
  ·exact qF rfl g4 (ls_exit (kXB1 (Option.some.inj h) _ (okr rfl)))
 ·exact qg 10 g3 rfl (sp 5 rfl (evn (qF rfl rfl (ls_exit (kXB1 (Option.some.inj h) _ (okr rfl))))))
def spec_l5Sort_J5 (rec : ((List (List Int)) × (List (List Int)) × (List (List Int))) → Option ((List (List Int)))) (y3 : List (List Int)) (x18 : List (List Int)) (x19 : List (List Int)) (x20 : List Int) (x22 : Bool) : Option ((List (List Int))) := cond x22 (chk (List.length y3 + List.length [x20] ≤ lim) (rec (x18, x19, (y3 ++ [x20])))) (rec (x18, x19, y3))
def spec_l5Sort_J4 (rec : ((List (List Int)) × (List (List Int)) × (List (List Int))) → Option ((List (List Int)))) (y3 : List (List Int)) (x18 : List (List Int)) (x19 : List (List Int)) (x20 : List Int) : Option ((List (List Int))) := cond ((List.length y3 : Int) == 0) (spec_l5Sort_J5 rec y3 x18 x19 x20 true) (obind (geti y3 (IntKind.i64.wrap ((List.length y3 : Int) - 1))) fun e26 => obind (spec_CompareRows e26 x20) fun v28 => spec_l5Sort_J5 rec y3 x18 x19 x20 (v28 != 0))
def spec_l5Sort_J3 (rec : ((List (List Int)) × (List (List Int)) × (List (List Int))) → Option ((List (List Int)))) (y1 : List (List Int)) (y2 : List (List Int)) (y3 : List (List Int)) (x16 : Int) : Option ((List (List Int))) := cond (decide (0 < x16)) (obind (geti y2 0) fun e31 => chk ((0 : Int) ≤ 1 ∧ 1 ≤ (List.length y2 : Int) ∧ (List.length y2 : Int) ≤ (List.length y2 : Int)) (spec_l5Sort_J4 rec y3 y1 (subl y2 1 (List.length y2 : Int)) e31)) (obind (geti y1 0) fun e34 => chk ((0 : Int) ≤ 1 ∧ 1 ≤ (List.length y1 : Int) ∧ (List.length y1 : Int) ≤ (List.length y1 : Int)) (spec_l5Sort_J4 rec y3 (subl y1 1 (List.length y1 : Int)) y2 e34))
def spec_l5Sort_J2 (rec : ((List (List Int)) × (List (List Int)) × (List (List Int))) → Option ((List (List Int)))) (y1 : List (List Int)) (y2 : List (List Int)) (y3 : List (List Int)) (x13 : Bool) : Option ((List (List Int))) := cond x13 (cond ((List.length y1 : Int) == 0) (spec_l5Sort_J3 rec y1 y2 y3 1) (cond (decide (0 < (List.length y2 : Int))) (obind (geti y1 0) fun e39 => obind (geti y2 0) fun e41 => obind (spec_CompareRows e39 e41) fun v43 => spec_l5Sort_J3 rec y1 y2 y3 v43) (spec_l5Sort_J3 rec y1 y2 y3 (-1)))) (some y3)
def spec_l5Sort_B1  (rec : ((List (List Int)) × (List (List Int)) × (List (List Int))) → Option ((List (List Int)))) (s : (List (List Int)) × (List (List Int)) × (List (List Int))) : Option ((List (List Int))) := match s with
  | (y1, y2, y3) => cond (decide (0 < (List.length y1 : Int))) (spec_l5Sort_J2 rec y1 y2 y3 true) (spec_l5Sort_J2 rec y1 y2 y3 (decide (0 < (List.length y2 : Int))))
def spec_l5Sort_R (rec : ((List (List Int))) → Option ((List (List Int)))) (a0 : (List (List Int))) : Option ((List (List Int))) := cond (decide ((List.length a0 : Int) < 2)) (some a0) (chk ((0 : Int) ≤ 0 ∧ 0 ≤ IntKind.i64.wrap (Int.tdiv (List.length a0 : Int) 2) ∧ IntKind.i64.wrap (Int.tdiv (List.length a0 : Int) 2) ≤ (List.length a0 : Int)) (obind (rec (subl a0 0 (IntKind.i64.wrap (Int.tdiv (List.length a0 : Int) 2)))) fun v4 => chk ((0 : Int) ≤ IntKind.i64.wrap (Int.tdiv (List.length a0 : Int) 2) ∧ IntKind.i64.wrap (Int.tdiv (List.length a0 : Int) 2) ≤ (List.length a0 : Int) ∧ (List.length a0 : Int) ≤ (List.length a0 : Int)) (obind (rec (subl a0 (IntKind.i64.wrap (Int.tdiv (List.length a0 : Int) 2)) (List.length a0 : Int))) fun v7 => obind (loopF spec_l5Sort_B1 fz (v4, v7, ([] : List (List Int)))) fun z10 => some z10)))
def spec_l5Sort (a0 : List (List Int)) : Option ((List (List Int))) := loopF spec_l5Sort_R fz a0
theorem spec_l5Sort_s {a0 : List (List Int)} {r : (List (List Int))} (h : spec_l5Sort a0 = some r) : SoundAt Tryz.prog 136 [dL c28_d a0] (dL c28_d r) := by
 suffices key : ∀ mF (a0 : List (List Int)) (r : (List (List Int))), loopF spec_l5Sort_R mF a0 = some r → SoundAt Tryz.prog 136 [dL c28_d a0] (dL c28_d r) from key fz a0 r h
 intro mF
 induction mF with
 | zero => intro a0 r h; cases h
 | succ mF ih0 =>
  intro a0 r h
  have ih : ∀ {a0 : List (List Int)} {r : (List (List Int))}, loopF spec_l5Sort_R mF a0 = some r → SoundAt Tryz.prog 136 [dL c28_d a0] (dL c28_d r) := fun h => ih0 _ _ h
  change spec_l5Sort_R (loopF spec_l5Sort_R mF) a0 = some r at h
  unfold spec_l5Sort_R at h
  try dsimp only at h
  refine st lit136 rfl (rn 1 rfl (ls_seq_k fun K1 hK1 => rn 1 rfl ?_))
  rcases cond_some h with ⟨g2, h⟩ | ⟨g2, h⟩
  ·exact qT rfl g2 (rn 1 rfl (ls_ret ((by cases h; exact ⟨.inl rfl, rfl⟩))))
  ·refine qF rfl g2 (ls_skip (hK1 _ (rn 1 rfl (rs (sp 2 rfl (?_))))))
   obtain ⟨g3, h⟩ := chk_some h
   refine qSl rfl zc28_d g3 (?_)
   obtain ⟨v4, g5, h⟩ := ob_some h
   refine qC (qa rfl (erD ec28_d _) eran) (ih g5) (sp 1 rfl (evn (rs (sp 2 rfl (?_)))))
   obtain ⟨g6, h⟩ := chk_some h
   refine qSl rfl zc28_d g6 (?_)
   obtain ⟨v7, g8, h⟩ := ob_some h
   refine qC (qa rfl (erD ec28_d _) eran) (ih g8) (sp 1 rfl (evn (qk [4, 5] rfl (rs (qBs c28_o [] rfl rfl rfl zc28_o (sp 1 rfl (evn (ls_seq_k fun K9 hK9 => ?_))))))))
   obtain ⟨o1, hl, hr1⟩ := ob_some h
   have kXB1 : ∀ {z10 : List (List Int)}, z10 = o1 → Jn K9 [(6, oL 28 c28_d z10)] := by
    intro z10 h σ' hk
    subst h
    replace h := hr1
    try dsimp only at h
    exact hK9 _ (lh hk rfl (rn 1 rfl (ls_keep [(2, dL c28_d z10)] ⟨(ke rfl (erO ec28_d _)), trivial⟩ rfl (ls_ret ((by cases h; exact ⟨.inl rfl, rfl⟩))))))
   refine ls_rec (fun (s : (List (List Int)) × (List (List Int)) × (List (List Int))) => match s with | (y1, y2, y3) => [(4, dL c28_d y1), (5, dL c28_d y2), (6, oL 28 c28_d y3)]) _ _ _ _ hl (okr rfl) (fun _ => rfl) ?_
   rintro m ⟨y1, y2, y3⟩ N h hN
   unfold spec_l5Sort_B1 at h
   dsimp only at h
   refine ls_seq_k fun K11 hK11 => rk fun K12 hK12 => ?_
   have kJ2 : ∀ {x13 : Bool}, spec_l5Sort_J2 (loopF spec_l5Sort_B1 m) y1 y2 y3 x13 = some o1 → Jn K12 [(4, dL c28_d y1), (5, dL c28_d y2), (6, oL 28 c28_d y3), (32, .bool x13)] := by
    intro x13 h σ' hk
    unfold spec_l5Sort_J2 at h
    refine hK12 _ (lh hk rfl ?_)
    rcases cond_some h with ⟨g14, h⟩ | ⟨g14, h⟩
    ·refine qT rfl g14 (ls_skip (hK11 _ (ls_blk (rn 1 rfl (ls_seq_k fun K15 hK15 => ls_blk (rn 1 rfl ?_))))))
     have kJ3 : ∀ {x16 : Int}, spec_l5Sort_J3 (loopF spec_l5Sort_B1 m) y1 y2 y3 x16 = some o1 → Jn K15 [(4, dL c28_d y1), (5, dL c28_d y2), (6, oL 28 c28_d y3), (7, nI x16)] := by
      intro x16 h σ' hk
      unfold spec_l5Sort_J3 at h
      refine hK15 _ (lh hk rfl (rs (qBs ci64 [] rfl rfl rfl zci64 (sp 1 rfl (evn (ls_seq_k fun K17 hK17 => rn 1 rfl ?_))))))
      have kJ4 : ∀ {x18 : List (List Int)} {x19 : List (List Int)} {x20 : List Int}, spec_l5Sort_J4 (loopF spec_l5Sort_B1 m) y3 x18 x19 x20 = some o1 → Jn K17 [(4, dL c28_d x18), (5, dL c28_d x19), (6, oL 28 c28_d y3), (8, dL ci64 x20)] := by
       intro x18 x19 x20 h σ' hk
       unfold spec_l5Sort_J4 at h
       refine hK17 _ (lh hk rfl (rk fun K21 hK21 => ?_))
       have kJ5 : ∀ {x22 : Bool}, spec_l5Sort_J5 (loopF spec_l5Sort_B1 m) y3 x18 x19 x20 x22 = some o1 → Jn K21 [(4, dL c28_d x18), (5, dL c28_d x19), (6, oL 28 c28_d y3), (8, dL ci64 x20), (74, .bool x22)] := by
        intro x22 h σ' hk
        unfold spec_l5Sort_J5 at h
        refine hK21 _ (lh hk rfl ?_)
        rcases cond_some h with ⟨g23, h⟩ | ⟨g23, h⟩
        ·refine qT rfl g23 (rg (sp 2 rfl (qBs c28_d [x20] rfl rfl rfl zc28_d (?_))))
         obtain ⟨g24, h⟩ := chk_some h
         exact qA c28_d y3 [x20] rfl rfl (flat_len zc28_d [x20]) rfl g24 (sp 1 rfl (evn (hN _ _ h (okr rfl))))
        ·exact qF rfl g23 (ls_skip (hN _ _ h (okr rfl)))
       refine sp 4 rfl (?_)
       rcases cond_some h with ⟨g25, h⟩ | ⟨g25, h⟩
       ·exact qg 64 g25 rfl (sp 10 rfl (evn (kJ5 h _ (okr rfl))))
       ·refine qg 64 g25 rfl (sp 4 rfl (?_))
        obtain ⟨e26, g27, h⟩ := ob_some h
        refine oGR rfl rfl (qI rfl zc28_d g27 (sp 2 rfl (?_)))
        obtain ⟨v28, g29, h⟩ := ob_some h
        exact oGR rfl rfl (qC (qa rfl (erD eci64 _) (qa rfl (erD eci64 _) eran)) (spec_CompareRows_s g29) (sp 2 rfl (evn (kJ5 h _ (okr rfl)))))
      rcases cond_some h with ⟨g30, h⟩ | ⟨g30, h⟩
      ·refine qT rfl g30 (rs (sp 1 rfl (?_)))
       obtain ⟨e31, g32, h⟩ := ob_some h
       refine qI rfl zc28_d g32 (sp 2 rfl (evn (qk [4, 5, 6, 8] rfl (rg (sp 1 rfl (?_))))))
       obtain ⟨g33, h⟩ := chk_some h
       exact qSl rfl zc28_d g33 (sp 1 rfl (evn (kJ4 h _ (okr rfl))))
      ·refine qF rfl g30 (rs (sp 1 rfl (?_)))
       obtain ⟨e34, g35, h⟩ := ob_some h
       refine qI rfl zc28_d g35 (sp 2 rfl (evn (rg (sp 1 rfl (?_)))))
       obtain ⟨g36, h⟩ := chk_some h
       exact qSl rfl zc28_d g36 (sp 1 rfl (evn (kJ4 h _ (okr rfl))))
     rcases cond_some h with ⟨g37, h⟩ | ⟨g37, h⟩
     ·exact qT rfl g37 (rg (sp 1 rfl (evn (kJ3 h _ (okr rfl)))))
     ·refine qF rfl g37 (rn 1 rfl ?_)
      rcases cond_some h with ⟨g38, h⟩ | ⟨g38, h⟩
      ·refine qT rfl g38 (rgd (by kernel_rfl) (sd 1 rfl (?_)))
       obtain ⟨e39, g40, h⟩ := ob_some h
       refine ed rfl (qI rfl zc28_d g40 (sd 2 rfl (?_)))
       obtain ⟨e41, g42, h⟩ := ob_some h
       refine ed rfl (qI rfl zc28_d g42 (sd 1 rfl (?_)))
       obtain ⟨v43, g44, h⟩ := ob_some h
       exact ed rfl (qC (qa rfl (erD eci64 _) (qa rfl (erD eci64 _) eran)) (spec_CompareRows_s g44) (sd 1 rfl (evdn (kJ3 h _ (okr rfl)))))
      ·exact qF rfl g38 (rg (sp 1 rfl (evn (kJ3 h _ (okr rfl)))))
    ·exact qF rfl g14 (ls_exit (kXB1 (Option.some.inj h) _ (okr rfl)))
   refine sp 4 rfl (?_)
   rcases cond_some h with ⟨g45, h⟩ | ⟨g45, h⟩
   ·exact qg 28 g45 rfl (sp 4 rfl (evn (kJ2 h _ (okr rfl))))
   ·exact qg 28 g45 rfl (sp 4 rfl (evn (kJ2 h _ (okr rfl))))
def spec_IsValidRelation_J2 (rec : Int → Option (Sum (Unit) (Bool))) (y1 : Int) (x11 : Bool) : Option (Sum (Unit) (Bool)) := cond x11 (some (.inr false)) (rec (IntKind.i64.wrap (y1 + 1)))
def spec_IsValidRelation_B1 (a0 : Y37) (rec : Int → Option (Sum (Unit) (Bool))) (y1 : Int) : Option (Sum (Unit) (Bool)) := cond (decide (y1 < (List.length a0.2 : Int))) (obind (geti a0.2 y1) fun e13 => cond ((List.length e13 : Int) != a0.1) (spec_IsValidRelation_J2 rec y1 true) (obind (geti a0.2 y1) fun e16 => obind (spec_AreValidValues e16) fun v18 => cond (!v18) (spec_IsValidRelation_J2 rec y1 true) (cond (decide (0 < y1)) (obind (geti a0.2 (IntKind.i64.wrap (y1 - 1))) fun e22 => obind (geti a0.2 y1) fun e24 => obind (spec_CompareRows e22 e24) fun v26 => spec_IsValidRelation_J2 rec y1 (decide (0 ≤ v26))) (spec_IsValidRelation_J2 rec y1 false)))) (some (.inl ()))
def spec_IsValidRelation (a0 : Y37) : Option (Bool) := obind (spec_l1In a0.1 0 5) fun v2 => cond (!v2) (some false) (cond (decide (4000 < (List.length a0.2 : Int))) (some false) (obind (loopF (spec_IsValidRelation_B1 a0) fz 0) fun o1 => (match o1 with
  | .inl _ => (some true)
  | .inr r => some r)))
theorem spec_IsValidRelation_s {a0 : Y37} {r : Bool} (h : spec_IsValidRelation a0 = some r) : SoundAt Tryz.prog 137 [.agg (c38_dd a0)] (.bool r) := by
 unfold spec_IsValidRelation at h
 refine st lit137 rfl (rn 1 rfl (ls_seq_k fun K1 hK1 => rs (sp 2 rfl (?_))))
 obtain ⟨v2, g3, h⟩ := ob_some h
 refine qC (qs rfl (qs rfl (qs rfl eran))) (spec_l1In_s g3) (sp 2 rfl (?_))
 rcases cond_some h with ⟨g4, h⟩ | ⟨g4, h⟩
 ·exact qg 8 g4 rfl (sp 5 rfl (evn (qT rfl rfl (rn 1 rfl (ls_ret ((by cases h; exact ⟨.inl rfl, rfl⟩)))))))
 ·refine qg 8 g4 rfl (sp 5 rfl (evn ?_))
  rcases cond_some h with ⟨g5, h⟩ | ⟨g5, h⟩
  ·exact qT rfl g5 (rn 1 rfl (ls_ret ((by cases h; exact ⟨.inl rfl, rfl⟩))))
  ·refine qF rfl g5 (ls_skip (hK1 _ (qk [1] rfl (ls_seq_k fun K6 hK6 => rn 1 rfl ?_))))
   obtain ⟨o1, hl, hr1⟩ := ob_some h
   have kXB1 : (.inl ()) = o1 → Jn K6 [] := by
    intro h σ' hk
    subst h
    replace h := hr1
    try dsimp only at h
    exact hK6 _ (lh hk rfl (rn 1 rfl (ls_ret ((by cases h; exact ⟨.inl rfl, rfl⟩)))))
   refine ls_rec (fun (y1 : Int) => [(1, .box [nI a0.1, dL c28_d a0.2]), (3, nI y1)]) _ _ _ _ hl (okr rfl) (fun _ => rfl) ?_
   rintro m y1 N h hN
   unfold spec_IsValidRelation_B1 at h
   refine ls_seq_k fun K7 hK7 => rn 1 rfl ?_
   rcases cond_some h with ⟨g8, h⟩ | ⟨g8, h⟩
   ·refine qT rfl g8 (ls_skip (hK7 _ (ls_seq_k fun K9 hK9 => ls_blk (rdk (by kernel_rfl) fun K10 hK10 => ?_))))
    have kJ2 : ∀ {x11 : Bool}, spec_IsValidRelation_J2 (loopF (spec_IsValidRelation_B1 a0) m) y1 x11 = some o1 → Jn K10 [(1, .box [nI a0.1, dL c28_d a0.2]), (3, nI y1), (57, .bool x11)] := by
     intro x11 h σ' hk
     unfold spec_IsValidRelation_J2 at h
     refine hK10 _ (lh hk rfl ?_)
     rcases cond_some h with ⟨g12, h⟩ | ⟨g12, h⟩
     ·exact qT rfl g12 (rn 1 rfl (ls_ret ((by cases h; cases hr1; exact ⟨.inl rfl, rfl⟩))))
     ·exact qF rfl g12 (ls_skip (hK9 _ (rg (sp 3 rfl (evn (hN _ _ h (okr rfl)))))))
    refine sd 3 rfl (?_)
    obtain ⟨e13, g14, h⟩ := ob_some h
    refine ed rfl (qI rfl zc28_d g14 (sd 6 rfl (?_)))
    rcases cond_some h with ⟨g15, h⟩ | ⟨g15, h⟩
    ·exact qgd 30 g15 rfl (sd 27 rfl (evdn (kJ2 h _ (okr rfl))))
    ·refine qgd 30 g15 rfl (sd 3 rfl (?_))
     obtain ⟨e16, g17, h⟩ := ob_some h
     refine ed rfl (oGR rfl rfl (qI rfl zc28_d g17 (sd 1 rfl (?_))))
     obtain ⟨v18, g19, h⟩ := ob_some h
     refine ed rfl (oGR rfl rfl (qC (qa rfl (erD eci64 _) eran) (spec_AreValidValues_s g19) (sd 3 rfl (?_))))
     rcases cond_some h with ⟨g20, h⟩ | ⟨g20, h⟩
     ·exact qgd 39 g20 rfl (sd 18 rfl (evdn (kJ2 h _ (okr rfl))))
     ·refine qgd 39 g20 rfl (sd 3 rfl (?_))
      rcases cond_some h with ⟨g21, h⟩ | ⟨g21, h⟩
      ·refine qgd 42 g21 rfl (sd 4 rfl (?_))
       obtain ⟨e22, g23, h⟩ := ob_some h
       refine ed rfl (oGR rfl rfl (qI rfl zc28_d g23 (sd 4 rfl (?_))))
       obtain ⟨e24, g25, h⟩ := ob_some h
       refine ed rfl (oGR rfl rfl (qI rfl zc28_d g25 (sd 1 rfl (?_))))
       obtain ⟨v26, g27, h⟩ := ob_some h
       exact ed rfl (oGR rfl rfl (qC (qa rfl (erD eci64 _) (qa rfl (erD eci64 _) eran)) (spec_CompareRows_s g27) (sd 3 rfl (evdn (kJ2 h _ (okr rfl))))))
      ·exact qgd 42 g21 rfl (sd 15 rfl (evdn (kJ2 h _ (okr rfl))))
   ·exact qF rfl g8 (ls_exit (kXB1 (Option.some.inj h) _ trivial))
def spec_NewRelation_B1 (a0 : Int) (a1 : List (List Int)) (rec : Int → Option (Sum (Unit) (Y37 × Bool))) (y1 : Int) : Option (Sum (Unit) (Y37 × Bool)) := cond (decide (y1 < (List.length a1 : Int))) (obind (geti a1 y1) fun e5 => cond ((List.length e5 : Int) != a0) (some (.inr ((0, []), false))) (obind (geti a1 y1) fun e8 => obind (spec_AreValidValues e8) fun v10 => cond (!v10) (some (.inr ((0, []), false))) (rec (IntKind.i64.wrap (y1 + 1))))) (some (.inl ()))
def spec_NewRelation (a0 : Int) (a1 : List (List Int)) : Option (Y37 × Bool) := obind (loopF (spec_NewRelation_B1 a0 a1) fz 0) fun o1 => (match o1 with
  | .inl _ => (obind (spec_l5Sort a1) fun v13 => obind (spec_l5Copy (a0, v13)) fun v15 => obind (spec_IsValidRelation v15) fun v18 => cond (!v18) (some ((0, []), false)) (some (v15, true)))
  | .inr r => some r)
theorem spec_NewRelation_s {a0 : Int} {a1 : List (List Int)} {r : Y37 × Bool} (h : spec_NewRelation a0 a1 = some r) : SoundAt Tryz.prog 60 [nI a0, dL c28_d a1] (.tup [.agg (c38_oo r.1), .bool r.2]) := by
 unfold spec_NewRelation at h
 refine st lit60 rfl (rn 1 rfl (ls_seq_k fun K1 hK1 => rn 1 rfl ?_))
 obtain ⟨o1, hl, hr1⟩ := ob_some h
 have kXB1 : (.inl ()) = o1 → Jn K1 [(0, nI a0), (1, dL c28_d a1), (4, .box [nI 0, oL 28 c28_o []])] := by
  intro h σ' hk
  subst h
  replace h := hr1
  try dsimp only at h
  refine hK1 _ (lh hk rfl (rs (sp 2 rfl (?_))))
  obtain ⟨v13, g14, h⟩ := ob_some h
  refine qC (qa rfl (erD ec28_d _) eran) (spec_l5Sort_s g14) (sp 1 rfl (?_))
  obtain ⟨v15, g16, h⟩ := ob_some h
  refine qC (qa rfl (erg (erc rfl (erc (erD ec28_d _) rfl))) eran) (spec_l5Copy_s g16) (sp 2 rfl (evn (ls_seq_k fun K17 hK17 => rs (sp 1 rfl (?_)))))
  obtain ⟨v18, g19, h⟩ := ob_some h
  refine qC (qa rfl (erg (erc rfl (erc (erD ec28_o _) rfl))) eran) (spec_IsValidRelation_s g19) (sp 1 rfl (evn ?_))
  rcases cond_some h with ⟨g20, h⟩ | ⟨g20, h⟩
  ·exact qT rfl g20 (rn 1 rfl (ls_ret ((by cases h; exact ⟨.inl rfl, rfl⟩))))
  ·exact qF rfl g20 (ls_skip (hK17 _ (rn 1 rfl (ls_ret ((by cases h; exact ⟨.inl rfl, rfl⟩))))))
 refine ls_rec (fun (y1 : Int) => [(0, nI a0), (1, dL c28_d a1), (4, .box [nI 0, oL 28 c28_o []]), (6, nI y1)]) _ _ _ _ hl (okr rfl) (fun _ => rfl) ?_
 rintro m y1 N h hN
 unfold spec_NewRelation_B1 at h
 refine ls_seq_k fun K2 hK2 => rn 1 rfl ?_
 rcases cond_some h with ⟨g3, h⟩ | ⟨g3, h⟩
 ·refine qT rfl g3 (ls_skip (hK2 _ (ls_seq_k fun K4 hK4 => ls_blk (rs (sp 2 rfl (?_))))))
  obtain ⟨e5, g6, h⟩ := ob_some h
  refine qI rfl zc28_d g6 (sp 5 rfl (?_))
  rcases cond_some h with ⟨g7, h⟩ | ⟨g7, h⟩
  ·exact qg 21 g7 rfl (sp 7 rfl (evn (qT rfl rfl (rn 1 rfl (ls_ret ((by cases h; cases hr1; exact ⟨.inl rfl, rfl⟩)))))))
  ·refine qg 21 g7 rfl (sp 2 rfl (?_))
   obtain ⟨e8, g9, h⟩ := ob_some h
   refine oGR rfl rfl (qI rfl zc28_d g9 (sp 1 rfl (?_)))
   obtain ⟨v10, g11, h⟩ := ob_some h
   refine oGR rfl rfl (qC (qa rfl (erD eci64 _) eran) (spec_AreValidValues_s g11) (sp 2 rfl (evn (qk [0, 1, 4, 6, 28] rfl ?_))))
   rcases cond_some h with ⟨g12, h⟩ | ⟨g12, h⟩
   ·exact qT rfl g12 (rn 1 rfl (ls_ret ((by cases h; cases hr1; exact ⟨.inl rfl, rfl⟩))))
   ·exact qF rfl g12 (ls_skip (hK4 _ (rg (sp 3 rfl (evn (hN _ _ h (okr rfl)))))))
 ·exact qF rfl g3 (ls_exit (kXB1 (Option.some.inj h) _ (okr rfl)))
def spec_l4Row_B1 (a1 : Int) (a2 : Int) (rec : ((List Int) × Int × Int × (List Int)) → Option ((List Int) × Int × Int × (List Int))) (s : (List Int) × Int × Int × (List Int)) : Option ((List Int) × Int × Int × (List Int)) := match s with
  | (y1, y2, y3, y4) => cond (decide ((List.length y4 : Int) < a1)) (obind (spec_l1Below (y1, y2, y3) a2) fun v8 => chk (List.length y4 + List.length [v8.1] ≤ lim) (rec (v8.2.1, v8.2.2.1, v8.2.2.2, (y4 ++ [v8.1])))) (some (y1, y2, y3, y4))
def spec_l4Row (a0 : Y163) (a1 : Int) (a2 : Int) : Option ((List Int) × Y163) := obind (loopF (spec_l4Row_B1 a1 a2) fz (a0.1, a0.2.1, a0.2.2, ([] : List Int))) fun o1 => (match o1 with
  | (z2, z3, z4, z5) => (some (z5, (z2, z3, z4))))
theorem spec_l4Row_s {a0 : Y163} {a1 : Int} {a2 : Int} {r : (List Int) × Y163} (h : spec_l4Row a0 a1 a2 = some r) : PtrAt Tryz.prog 198 [aL cu8 a0.1, nI a0.2.1, nI a0.2.2] [nI a1, nI a2] [aL cu8 r.2.1, nI r.2.2.1, nI r.2.2.2] (oL 3 ci64 r.1) := by
 unfold spec_l4Row at h
 refine stp lit198 rfl (rn 1 rfl (rs (qBs ci64 [] rfl rfl rfl zci64 (sp 1 rfl (evn (ls_seq_k fun K1 hK1 => ?_))))))
 obtain ⟨o1, hl, hr1⟩ := ob_some h
 have kXB1 : ∀ {z2 : List Int} {z3 : Int} {z4 : Int} {z5 : List Int}, (z2, z3, z4, z5) = o1 → Jn K1 [(0, .box [aL cu8 z2, nI z3, nI z4]), (7, oL 3 ci64 z5)] := by
  intro z2 z3 z4 z5 h σ' hk
  subst h
  replace h := hr1
  try dsimp only at h
  exact hK1 _ (lh hk rfl (rn 1 rfl (ls_ret ((by cases h; exact ⟨.inl rfl, rfl, rfl⟩)))))
 refine ls_rec (fun (s : (List Int) × Int × Int × (List Int)) => match s with | (y1, y2, y3, y4) => [(0, .box [aL cu8 y1, nI y2, nI y3]), (1, nI a1), (2, nI a2), (7, oL 3 ci64 y4)]) _ _ _ _ hl (okr rfl) (fun _ => rfl) ?_
 rintro m ⟨y1, y2, y3, y4⟩ N h hN
 unfold spec_l4Row_B1 at h
 dsimp only at h
 refine ls_seq_k fun K6 hK6 => rn 1 rfl ?_
 rcases cond_some h with ⟨g7, h⟩ | ⟨g7, h⟩
 ·refine qT rfl g7 (ls_skip (hK6 _ (ls_blk (rg (sp 3 rfl (?_))))))
  obtain ⟨v8, g9, h⟩ := ob_some h
  refine qP rfl rfl rfl rfl (qs rfl eran) (spec_l1Below_s g9) (qBs ci64 [v8.1] rfl rfl rfl zci64 (?_))
  obtain ⟨g10, h⟩ := chk_some h
  exact qA ci64 y4 [v8.1] rfl rfl (flat_len zci64 [v8.1]) rfl g10 (sp 1 rfl (evn (hN _ _ h (okr rfl))))
 ·exact qF rfl g7 (ls_exit (kXB1 (Option.some.inj h) _ (okr rfl)))
def spec_l5Rel_B1 (a1 : Int) (a3 : Int) (rec : ((List Int) × Int × Int × (List (List Int)) × Int) → Option ((List Int) × Int × Int × (List (List Int)))) (s : (List Int) × Int × Int × (List (List Int)) × Int) : Option ((List Int) × Int × Int × (List (List Int))) := match s with
  | (y1, y2, y3, y4, y5) => cond (decide (0 < y5)) (obind (spec_l4Row (y1, y2, y3) a1 a3) fun v11 => chk (List.length y4 + List.length [v11.1] ≤ lim) (rec (v11.2.1, v11.2.2.1, v11.2.2.2, (y4 ++ [v11.1]), (IntKind.i64.wrap (y5 - 1))))) (some (y1, y2, y3, y4))
def spec_l5Rel (a0 : Y163) (a1 : Int) (a2 : Int) (a3 : Int) : Option (Y37 × Y163) := obind (spec_l1Below a0 (IntKind.i64.wrap (a2 + 1))) fun v2 => obind (loopF (spec_l5Rel_B1 a1 a3) fz (v2.2.1, v2.2.2.1, v2.2.2.2, ([] : List (List Int)), v2.1)) fun o1 => (match o1 with
  | (z4, z5, z6, z7) => (obind (spec_NewRelation a1 z7) fun v14 => some (v14.1, (z4, z5, z6))))
theorem spec_l5Rel_s {a0 : Y163} {a1 : Int} {a2 : Int} {a3 : Int} {r : Y37 × Y163} (h : spec_l5Rel a0 a1 a2 a3 = some r) : PtrAt Tryz.prog 197 [aL cu8 a0.1, nI a0.2.1, nI a0.2.2] [nI a1, nI a2, nI a3] [aL cu8 r.2.1, nI r.2.2.1, nI r.2.2.2] (.agg (c38_oo r.1)) := by
 unfold spec_l5Rel at h
 refine stp lit197 rfl (rn 1 rfl (rs (qBs c28_o [] rfl rfl rfl zc28_o (sp 1 rfl (evn (ls_seq_k fun K1 hK1 => rs (sp 3 rfl (?_))))))))
 obtain ⟨v2, g3, h⟩ := ob_some h
 refine qP rfl rfl rfl rfl (qs rfl eran) (spec_l1Below_s g3) (sp 1 rfl (evn ?_))
 obtain ⟨o1, hl, hr1⟩ := ob_some h
 have kXB1 : ∀ {z4 : List Int} {z5 : Int} {z6 : Int} {z7 : List (List Int)}, (z4, z5, z6, z7) = o1 → Jn K1 [(0, .box [aL cu8 z4, nI z5, nI z6]), (1, nI a1), (8, .box [nI 0, oL 28 c28_o []]), (9, oL 28 c28_o z7)] := by
  intro z4 z5 z6 z7 h σ' hk
  subst h
  replace h := hr1
  try dsimp only at h
  refine hK1 _ (lh hk rfl (rs (sp 2 rfl (?_))))
  obtain ⟨v14, g15, h⟩ := ob_some h
  exact qC (qs rfl (qa rfl (erD ec28_o _) eran)) (spec_NewRelation_s g15) (sp 6 rfl (evn (rn 1 rfl (ls_ret ((by cases h; exact ⟨.inl rfl, rfl, rfl⟩))))))
 refine ls_rec (fun (s : (List Int) × Int × Int × (List (List Int)) × Int) => match s with | (y1, y2, y3, y4, y5) => [(0, .box [aL cu8 y1, nI y2, nI y3]), (1, nI a1), (3, nI a3), (8, .box [nI 0, oL 28 c28_o []]), (9, oL 28 c28_o y4), (10, nI y5)]) _ _ _ _ hl (okr rfl) (fun _ => rfl) ?_
 rintro m ⟨y1, y2, y3, y4, y5⟩ N h hN
 unfold spec_l5Rel_B1 at h
 dsimp only at h
 refine ls_seq_k fun K8 hK8 => rn 1 rfl ?_
 rcases cond_some h with ⟨g9, h⟩ | ⟨g9, h⟩
 ·refine qT rfl g9 (ls_skip (hK8 _ (ls_seq_k fun K10 hK10 => ls_blk (rg (sp 4 rfl (?_))))))
  obtain ⟨v11, g12, h⟩ := ob_some h
  refine qP rfl rfl rfl rfl (qs rfl (qs rfl eran)) (spec_l4Row_s g12) (qBs c28_o [v11.1] rfl rfl rfl zc28_o (?_))
  obtain ⟨g13, h⟩ := chk_some h
  exact qA c28_o y4 [v11.1] rfl rfl (flat_len zc28_o [v11.1]) rfl g13 (sp 1 rfl (evn (hK10 _ (rg (sp 3 rfl (evn (hN _ _ h (okr rfl))))))))
 ·exact qF rfl g9 (ls_exit (kXB1 (Option.some.inj h) _ (okr rfl)))
abbrev Y108 := (List UInt8) × Y37
def c109_dd (x : Y108) : List V := [.str x.1, nI x.2.1, dL c28_d x.2.2]
theorem zc109_dd (x : Y108) : (c109_dd x).length = 3 := rfl
theorem ec109_dd (x : Y108) : erL (c109_dd x) = c109_dd x := (erc rfl (erc rfl (erc (erD ec28_d _) rfl)))
def c109_oo (x : Y108) : List V := [.str x.1, nI x.2.1, oL 28 c28_o x.2.2]
theorem zc109_oo (x : Y108) : (c109_oo x).length = 3 := rfl
theorem ec109_oo (x : Y108) : erL (c109_oo x) = c109_dd x := (erc rfl (erc rfl (erc (erO ec28_o _) rfl)))
theorem dkc28_o (x : List Int) : deepL (c28_o x) = true := (dcc (dco (fun _ => rfl) 3 _) dcn)
theorem dkc109_oo (x : Y108) : deepL (c109_oo x) = true := (dcc rfl (dcc rfl (dcc (dco dkc28_o 28 _) dcn)))
def spec_l6Db_J2 (rec : ((List Int) × Int × Int × (List Y108) × Int) → Option ((List Int) × Int × Int × (List Y108))) (v1 : Int × Y163) (y1 : List Int) (y2 : Int) (y3 : Int) (y4 : List Y108) (y5 : Int) (e11 : List UInt8) (x14 : Int) : Option ((List Int) × Int × Int × (List Y108)) := obind (spec_l1PickInt (y1, y2, y3) [3, 6, 9]) fun v15 => obind (spec_l5Rel v15.2 x14 v15.1 v1.1) fun v17 => chk (List.length y4 + List.length [(e11, v17.1)] ≤ lim) (rec (v17.2.1, v17.2.2.1, v17.2.2.2, (y4 ++ [(e11, v17.1)]), (IntKind.i64.wrap (y5 + 1))))
def spec_l6Db_B1 (v1 : Int × Y163) (rec : ((List Int) × Int × Int × (List Y108) × Int) → Option ((List Int) × Int × Int × (List Y108))) (s : (List Int) × Int × Int × (List Y108) × Int) : Option ((List Int) × Int × Int × (List Y108)) := match s with
  | (y1, y2, y3, y4, y5) => cond (decide (y5 < (List.length ([[114], [115], [116], [117], [118]]) : Int))) (obind (geti ([[114], [115], [116], [117], [118]]) y5) fun e11 => cond (e11 == [118]) (spec_l6Db_J2 rec v1 y1 y2 y3 y4 y5 e11 3) (spec_l6Db_J2 rec v1 y1 y2 y3 y4 y5 e11 2)) (some (y1, y2, y3, y4))
def spec_l6Db_J3 (x24 : List Int) (x25 : Int) (x26 : Int) (x27 : List Y108) : Option ((List Y108) × Y163) := some (x27, (x24, x25, x26))
def spec_l6Db (a0 : Y163) : Option ((List Y108) × Y163) := obind (spec_l1PickInt a0 [2, 3, 4, 6]) fun v1 => obind (loopF (spec_l6Db_B1 v1) fz (v1.2.1, v1.2.2.1, v1.2.2.2, ([] : List Y108), 0)) fun o1 => (match o1 with
  | (z4, z5, z6, z7) => (obind (spec_l1Once (z4, z5, z6) 8) fun v22 => cond v22.1 (chk (0 < List.length z7) (obind (spec_l1Below v22.2 5) fun v31 => obind (geti z7 v31.1) fun e33 => spec_l6Db_J3 v31.2.1 v31.2.2.1 v31.2.2.2 (seti z7 v31.1 (e33.1, (e33.2.1, []))))) (spec_l6Db_J3 v22.2.1 v22.2.2.1 v22.2.2.2 z7)))
theorem spec_l6Db_s {a0 : Y163} {r : (List Y108) × Y163} (h : spec_l6Db a0 = some r) : PtrAt Tryz.prog 130 [aL cu8 a0.1, nI a0.2.1, nI a0.2.2] [] [aL cu8 r.2.1, nI r.2.2.1, nI r.2.2.2] (.agg [oL 109 c109_oo r.1]) := by
 unfold spec_l6Db at h
 refine stp lit130 rfl (rn 1 rfl (rs (sp 1 rfl (qBk ci64 [2, 3, 4, 6] 3 1 (by kernel_rfl) rfl zci64 (?_)))))
 obtain ⟨v1, g2, h⟩ := ob_some h
 refine qP rfl rfl rfl rfl (qa rfl (erO eci64 _) eran) (spec_l1PickInt_s g2) (sp 1 rfl (evn (rn 1 rfl (ls_seq_k fun K3 hK3 => rs (qBk cst [[114], [115], [116], [117], [118]] 9 1 (by kernel_rfl) rfl zcst (sp 2 rfl (evn ?_)))))))
 obtain ⟨o1, hl, hr1⟩ := ob_some h
 have kXB1 : ∀ {z4 : List Int} {z5 : Int} {z6 : Int} {z7 : List Y108}, (z4, z5, z6, z7) = o1 → Jn K3 [(0, .box [aL cu8 z4, nI z5, nI z6]), (2, .box [oL 109 c109_oo []]), (4, .box [oL 109 c109_oo z7])] := by
  intro z4 z5 z6 z7 h σ' hk
  subst h
  replace h := hr1
  try dsimp only at h
  refine hK3 _ (lh hk rfl (ls_seq_k fun K21 hK21 => rs (sp 1 rfl (?_))))
  obtain ⟨v22, g23, h⟩ := ob_some h
  refine qP rfl rfl rfl rfl (qs rfl eran) (spec_l1Once_s g23) (evn ?_)
  have kJ3 : ∀ {x24 : List Int} {x25 : Int} {x26 : Int} {x27 : List Y108}, spec_l6Db_J3 x24 x25 x26 x27 = some r → Jn K21 [(0, .box [aL cu8 x24, nI x25, nI x26]), (2, .box [oL 109 c109_oo []]), (4, .box [oL 109 c109_oo x27])] := by
   intro x24 x25 x26 x27 h σ' hk
   unfold spec_l6Db_J3 at h
   exact hK21 _ (lh hk rfl (rn 1 rfl (ls_ret ((by cases h; exact ⟨.inl rfl, rfl, rfl⟩)))))
  rcases cond_some h with ⟨g28, h⟩ | ⟨g28, h⟩
  ·refine qT rfl g28 (qk [0, 2, 4] rfl ?_)
   obtain ⟨g29, h⟩ := chk_some h
   refine ls_hg (gLb (q := 900003) (b := 4) [] [] rfl rfl rfl g29 ?_)
   intro gg30 mm30
   refine qk [0, 2, 4, 900003] rfl (ls_gh (rgt 4 (by kernel_rfl) (sd 3 rfl (?_))))
   obtain ⟨v31, g32, h⟩ := ob_some h
   refine ed rfl (qP rfl rfl rfl rfl (qs rfl eran) (spec_l1Below_s g32) (evdn (gh_k ?_)))
   obtain ⟨e33, g34, h⟩ := ob_some h
   refine qIt rfl rfl rfl rfl g34 (sp 2 rfl (?_))
   refine qSt0 (y0 := e33) (i := v31.1) (es := 3) (e2 := 28) 2 (e33.1, (e33.2.1, [])) [0, 2, 4] rfl rfl rfl rfl rfl rfl rfl rfl zc109_oo g34 (fun x => sdL (dkc109_oo x)) (yc (snc (sA (aca (fun _ => rfl) _)) (snc rfl (snc rfl rfl))) (yc (snc rfl rfl) (yc (snc rfl rfl) yn))) (?_)
   exact evn (gDb (q := 900003) (b := 4) [] [] rfl rfl rfl (sl rfl) (kJ3 h _ (okr rfl)))
  ·exact qF rfl g28 (ls_skip (kJ3 h _ (okr rfl)))
 refine ls_rec (fun (s : (List Int) × Int × Int × (List Y108) × Int) => match s with | (y1, y2, y3, y4, y5) => [(0, .box [aL cu8 y1, nI y2, nI y3]), (2, .box [oL 109 c109_oo []]), (3, nI v1.1), (4, .box [oL 109 c109_oo y4]), (13, oL 9 cst ([[114], [115], [116], [117], [118]])), (14, nI (List.length ([[114], [115], [116], [117], [118]]) : Int)), (15, nI y5)]) _ _ _ _ hl (okr rfl) (fun _ => rfl) ?_
 rintro m ⟨y1, y2, y3, y4, y5⟩ N h hN
 unfold spec_l6Db_B1 at h
 dsimp only at h
 refine rn 1 rfl (ls_seq_k fun K8 hK8 => ?_)
 rcases cond_some h with ⟨g9, h⟩ | ⟨g9, h⟩
 ·refine qT rfl g9 (ls_skip (hK8 _ (ls_seq_k fun K10 hK10 => ls_blk (rs ?_))))
  obtain ⟨e11, g12, h⟩ := ob_some h
  refine qI rfl zcst g12 (sp 2 rfl (evn (rn 1 rfl (ls_seq_k fun K13 hK13 => rn 1 rfl ?_))))
  have kJ2 : ∀ {x14 : Int}, spec_l6Db_J2 (loopF (spec_l6Db_B1 v1) m) v1 y1 y2 y3 y4 y5 e11 x14 = some o1 → Jn K13 [(0, .box [aL cu8 y1, nI y2, nI y3]), (2, .box [oL 109 c109_oo []]), (3, nI v1.1), (4, .box [oL 109 c109_oo y4]), (6, .str e11), (7, nI x14), (13, oL 9 cst ([[114], [115], [116], [117], [118]])), (14, nI (List.length ([[114], [115], [116], [117], [118]]) : Int)), (15, nI y5)] := by
   intro x14 h σ' hk
   unfold spec_l6Db_J2 at h
   refine hK13 _ (lh hk rfl (rs (sp 3 rfl (qBs ci64 [3, 6, 9] rfl rfl rfl zci64 (?_)))))
   obtain ⟨v15, g16, h⟩ := ob_some h
   refine qP rfl rfl rfl rfl (qa rfl (erO eci64 _) eran) (spec_l1PickInt_s g16) (sp 1 rfl (?_))
   obtain ⟨v17, g18, h⟩ := ob_some h
   refine qP rfl rfl rfl rfl (qs rfl (qs rfl (qs rfl eran))) (spec_l5Rel_s g18) (sp 2 rfl (evn (rg (sp 5 rfl (qBs c109_oo [(e11, v17.1)] rfl rfl rfl zc109_oo (?_))))))
   obtain ⟨g19, h⟩ := chk_some h
   exact qA c109_oo y4 [(e11, v17.1)] rfl rfl (flat_len zc109_oo [(e11, v17.1)]) rfl g19 (sp 2 rfl (evn (hK10 _ (rg (sp 2 rfl (evn (hN _ _ h (okr rfl))))))))
  rcases cond_some h with ⟨g20, h⟩ | ⟨g20, h⟩
  ·exact qT rfl g20 (rg (sp 1 rfl (evn (kJ2 h _ (okr rfl)))))
  ·exact qF rfl g20 (ls_skip (kJ2 h _ (okr rfl)))
 ·exact qF rfl g9 (ls_exit (kXB1 (Option.some.inj h) _ (okr rfl)))
def spec_l1Pick (a0 : Y163) (a1 : List (List UInt8)) : Option ((List UInt8) × Y163) := obind (spec_l1Below a0 (List.length a1 : Int)) fun v1 => obind (geti a1 v1.1) fun e3 => some (e3, v1.2)
theorem spec_l1Pick_s {a0 : Y163} {a1 : List (List UInt8)} {r : (List UInt8) × Y163} (h : spec_l1Pick a0 a1 = some r) : PtrAt Tryz.prog 131 [aL cu8 a0.1, nI a0.2.1, nI a0.2.2] [dL cst a1] [aL cu8 r.2.1, nI r.2.2.1, nI r.2.2.2] (.str r.1) := by
 unfold spec_l1Pick at h
 refine stp lit131 rfl (rn 1 rfl (rs (sp 4 rfl (?_))))
 obtain ⟨v1, g2, h⟩ := ob_some h
 refine qP rfl rfl rfl rfl (qs rfl eran) (spec_l1Below_s g2) (?_)
 obtain ⟨e3, g4, h⟩ := ob_some h
 exact qI rfl zcst g4 (sp 2 rfl (evn (ls_ret ((by cases h; exact ⟨.inl rfl, rfl, rfl⟩)))))
def spec_l5Any_J1 (x8 : List Int) (x9 : Int) (x10 : Int) (x11 : Int) (x12 : List (List Int)) : Option (Y37 × Y163) := some ((x11, x12), (x8, x9, x10))
def spec_l5Any_J2 (v3 : Y37 × Y163) (v6 : Int × Y163) (x23 : Bool) : Option (Y37 × Y163) := cond x23 (chk (0 < List.length v3.1.2) (obind (geti v3.1.2 0) fun e27 => chk (0 < List.length e27) (obind (geti v3.1.2 0) fun e31 => obind (spec_l1PickInt v6.2 [-1, 100, 99]) fun v33 => obind (geti e27 0) fun e35 => spec_l5Any_J1 v33.2.1 v33.2.2.1 v33.2.2.2 v3.1.1 (seti v3.1.2 0 (seti e27 0 v33.1))))) (spec_l5Any_J1 v6.2.1 v6.2.2.1 v6.2.2.2 v3.1.1 v3.1.2)
def spec_l5Any (a0 : Y163) : Option (Y37 × Y163) := obind (spec_l1Below a0 4) fun v1 => obind (spec_l5Rel v1.2 v1.1 6 4) fun v3 => obind (spec_l1Below v3.2 14) fun v6 => cond (v6.1 == 0) (obind (spec_l1PickInt v6.2 [-1, 6, IntKind.i64.wrap (v3.1.1 + 1)]) fun v14 => spec_l5Any_J1 v14.2.1 v14.2.2.1 v14.2.2.2 v14.1 v3.1.2) (cond (v6.1 == 1) (obind (spec_l4Row v6.2 (if 0 < v3.1.1 then v3.1.1 else 0) 4) fun v18 => chk (List.length v3.1.2 + List.length [v18.1] ≤ lim) (spec_l5Any_J1 v18.2.1 v18.2.2.1 v18.2.2.2 v3.1.1 (v3.1.2 ++ [v18.1]))) (cond (v6.1 == 2) (cond (decide (0 < (List.length v3.1.2 : Int))) (spec_l5Any_J2 v3 v6 (decide (0 < v3.1.1))) (spec_l5Any_J2 v3 v6 false)) (spec_l5Any_J1 v6.2.1 v6.2.2.1 v6.2.2.2 v3.1.1 v3.1.2)))
theorem spec_l5Any_s {a0 : Y163} {r : Y37 × Y163} (h : spec_l5Any a0 = some r) : PtrAt Tryz.prog 132 [aL cu8 a0.1, nI a0.2.1, nI a0.2.2] [] [aL cu8 r.2.1, nI r.2.2.1, nI r.2.2.2] (.agg (c38_oo r.1)) := by
 unfold spec_l5Any at h
 refine stp lit132 rfl (rn 1 rfl (rs (sp 2 rfl (?_))))
 obtain ⟨v1, g2, h⟩ := ob_some h
 refine qP rfl rfl rfl rfl (qs rfl eran) (spec_l1Below_s g2) (?_)
 obtain ⟨v3, g4, h⟩ := ob_some h
 refine qP rfl rfl rfl rfl (qs rfl (qs rfl (qs rfl eran))) (spec_l5Rel_s g4) (sp 2 rfl (evn (ls_seq_k fun K5 hK5 => rs (sp 1 rfl (?_)))))
 obtain ⟨v6, g7, h⟩ := ob_some h
 refine qP rfl rfl rfl rfl (qs rfl eran) (spec_l1Below_s g7) (evn (ls_blk (rn 1 rfl ?_)))
 have kJ1 : ∀ {x8 : List Int} {x9 : Int} {x10 : Int} {x11 : Int} {x12 : List (List Int)}, spec_l5Any_J1 x8 x9 x10 x11 x12 = some r → Jn K5 [(0, .box [aL cu8 x8, nI x9, nI x10]), (2, .box [nI 0, oL 28 c28_o []]), (3, .box [nI x11, oL 28 c28_o x12])] := by
  intro x8 x9 x10 x11 x12 h σ' hk
  unfold spec_l5Any_J1 at h
  exact hK5 _ (lh hk rfl (rn 1 rfl (ls_ret ((by cases h; exact ⟨.inl rfl, rfl, rfl⟩)))))
 rcases cond_some h with ⟨g13, h⟩ | ⟨g13, h⟩
 ·refine qT rfl g13 (rg (sp 4 rfl (qBs ci64 [-1, 6, IntKind.i64.wrap (v3.1.1 + 1)] rfl rfl rfl zci64 (?_))))
  obtain ⟨v14, g15, h⟩ := ob_some h
  exact qP rfl rfl rfl rfl (qa rfl (erO eci64 _) eran) (spec_l1PickInt_s g15) (sp 2 rfl (evn (kJ1 h _ (okr rfl))))
 ·refine qF rfl g13 (rn 1 rfl ?_)
  rcases cond_some h with ⟨g16, h⟩ | ⟨g16, h⟩
  ·refine qT rfl g16 (qk [0, 2, 3] rfl (ls_hg (gLb0 (q := 900003) (b := 3) [nI v3.1.1] [] rfl rfl rfl ?_)))
   intro gg17
   refine qk [0, 2, 3, 900003] rfl (rgt 8 (by kernel_rfl) (sd 6 rfl (?_)))
   obtain ⟨v18, g19, h⟩ := ob_some h
   refine ed rfl (qP rfl rfl rfl rfl (qs rfl (qs rfl eran)) (spec_l4Row_s g19) (ed rfl (qBs c28_o [v18.1] rfl rfl rfl zc28_o (evdn (gDs (q := 900003) (b := 22) rfl rfl rfl rfl ?_)))))
   obtain ⟨g20, h⟩ := chk_some h
   exact qA c28_o v3.1.2 [v18.1] rfl rfl (flat_len zc28_o [v18.1]) rfl g20 (sp 2 rfl (evn (kJ1 h _ (okr rfl))))
  ·refine qF rfl g16 (rn 1 rfl ?_)
   rcases cond_some h with ⟨g21, h⟩ | ⟨g21, h⟩
   ·refine qT rfl g21 (rk fun K22 hK22 => ?_)
    have kJ2 : ∀ {x23 : Bool}, spec_l5Any_J2 v3 v6 x23 = some r → Jn K22 [(0, .box (c164_a v6.2)), (2, .box [nI 0, oL 28 c28_o []]), (3, .box [nI v3.1.1, oL 28 c28_o v3.1.2]), (41, .bool x23)] := by
     intro x23 h σ' hk
     unfold spec_l5Any_J2 at h
     refine hK22 _ (lh hk rfl ?_)
     rcases cond_some h with ⟨g24, h⟩ | ⟨g24, h⟩
     ·refine qT rfl g24 (qk [0, 2, 3] rfl ?_)
      obtain ⟨g25, h⟩ := chk_some h
      refine ls_hg (gLb (q := 900004) (b := 3) [nI v3.1.1] [] rfl rfl rfl g25 ?_)
      intro gg26 mm26
      refine qk [0, 2, 3, 900004] rfl ?_
      obtain ⟨e27, g28, h⟩ := ob_some h
      obtain ⟨g29, h⟩ := chk_some h
      refine ls_hg (gLg (i := 0) (es := 1) 0 rfl rfl zc28_o g28 rfl rfl g29 ?_)
      intro gg30 mm30
      refine qk [0, 2, 3, 900003, 900004] rfl (ls_gh (ls_gh (rgt 7 (by kernel_rfl) (sd 2 rfl (?_)))))
      obtain ⟨e31, g32, h⟩ := ob_some h
      refine ed rfl (qIt rfl rfl rfl rfl g32 (?_))
      refine ed rfl (qLh rfl rfl rfl rfl rfl rfl (gk zc28_o g32 rfl) (?_))
      refine sd 1 rfl (ed rfl (qBs ci64 [-1, 100, 99] rfl rfl rfl zci64 (?_)))
      obtain ⟨v33, g34, h⟩ := ob_some h
      refine ed rfl (qP rfl rfl rfl rfl (qa rfl (erO eci64 _) eran) (spec_l1PickInt_s g34) (evdn (gh_k ?_)))
      obtain ⟨e35, g36, h⟩ := ob_some h
      refine qIt rfl rfl rfl rfl g36 (?_)
      refine qSt (y0 := e35) (i := 0) (es := 1) 0 v33.1 [0, 2, 3, 900004] rfl rfl rfl rfl rfl rfl rfl rfl rfl rfl zci64 g36 (fun _ => rfl) (sdL (dcc rfl dcn)) (yc (snc (sA (aca (fun _ => rfl) _)) (snc rfl (snc rfl rfl))) (yc (snc rfl (snc rfl rfl)) (yc (snc rfl (snc rfl rfl)) (yc (sgh (sdL (dcf dkc28_o _))) yn)))) (?_)
      exact evn (gDg (i := 0) (es := 1) 0 (seti e27 0 v33.1) rfl rfl zc28_o g28 rfl (sl rfl) rfl (gDb (q := 900004) (b := 3) [nI v3.1.1] [] rfl rfl rfl (sl rfl) (kJ1 h _ (okr rfl))))
     ·exact qF rfl g24 (ls_skip (kJ1 h _ (okr rfl)))
    refine sp 5 rfl (?_)
    rcases cond_some h with ⟨g37, h⟩ | ⟨g37, h⟩
    ·exact qg 37 g37 rfl (sp 4 rfl (evn (kJ2 h _ (okr rfl))))
    ·exact qg 37 g37 rfl (sp 4 rfl (evn (kJ2 h _ (okr rfl))))
   ·exact qF rfl g21 (ls_skip (kJ1 h _ (okr rfl)))
def c28_a (x : List Int) : List V := [aL ci64 x]
theorem zc28_a (x : List Int) : (c28_a x).length = 1 := rfl
theorem ec28_a (x : List Int) : erL (c28_a x) = c28_d x := (erc (erG eci64 _) rfl)
theorem zkc28_o (x : List Int) : frzL (c28_o x) = c28_a x := (fzc (fzO (fun _ => rfl) 3 _) rfl)
def c109_aa (x : Y108) : List V := [.str x.1, nI x.2.1, aL c28_a x.2.2]
theorem zc109_aa (x : Y108) : (c109_aa x).length = 3 := rfl
theorem ec109_aa (x : Y108) : erL (c109_aa x) = c109_dd x := (erc rfl (erc rfl (erc (erG ec28_a _) rfl)))
theorem zkc109_oo (x : Y108) : frzL (c109_oo x) = c109_aa x := (fzc rfl (fzc rfl (fzc (fzO zkc28_o 28 _) rfl)))
def spec_l6Any_J1 (x8 : List Int) (x9 : Int) (x10 : Int) (x11 : List Y108) : Option ((List Y108) × Y163) := some (x11, (x8, x9, x10))
def spec_l6Any (a0 : Y163) : Option ((List Y108) × Y163) := obind (spec_l6Db a0) fun v1 => obind (spec_l1Below v1.2 5) fun v3 => obind (spec_l1Below v3.2 14) fun v6 => cond (v6.1 == 0) (chk (0 < List.length v1.1) (obind (spec_l1Pick v6.2 ([[], [82], [97, 98, 99, 100, 101], [97], [122]])) fun v15 => obind (geti v1.1 v3.1) fun e17 => spec_l6Any_J1 v15.2.1 v15.2.2.1 v15.2.2.2 (seti v1.1 v3.1 (v15.1, e17.2)))) (cond (v6.1 == 1) (chk (0 < List.length v1.1) (obind (spec_l5Any v6.2) fun v22 => obind (geti v1.1 v3.1) fun e24 => spec_l6Any_J1 v22.2.1 v22.2.2.1 v22.2.2.2 (seti v1.1 v3.1 (e24.1, v22.1)))) (cond (v6.1 == 2) (chk (0 < List.length v1.1) (obind (geti v1.1 v3.1) fun e29 => chk (List.length v1.1 + List.length [e29] ≤ lim) (spec_l6Any_J1 v6.2.1 v6.2.2.1 v6.2.2.2 (v1.1 ++ [e29])))) (cond (v6.1 == 3) (chk ((0 : Int) ≤ 0 ∧ 0 ≤ v3.1 ∧ v3.1 ≤ (List.length v1.1 : Int)) (spec_l6Any_J1 v6.2.1 v6.2.2.1 v6.2.2.2 (subl v1.1 0 v3.1))) (spec_l6Any_J1 v6.2.1 v6.2.2.1 v6.2.2.2 v1.1))))
theorem spec_l6Any_s {a0 : Y163} {r : (List Y108) × Y163} (h : spec_l6Any a0 = some r) : PtrAt Tryz.prog 57 [aL cu8 a0.1, nI a0.2.1, nI a0.2.2] [] [aL cu8 r.2.1, nI r.2.2.1, nI r.2.2.2] (.agg [aL c109_aa r.1]) := by
 unfold spec_l6Any at h
 refine stp lit57 rfl (rn 1 rfl (rs (sp 1 rfl (?_))))
 obtain ⟨v1, g2, h⟩ := ob_some h
 refine qP rfl rfl rfl rfl eran (spec_l6Db_s g2) (sp 2 rfl (evn (rs (sp 1 rfl (?_)))))
 obtain ⟨v3, g4, h⟩ := ob_some h
 refine qP rfl rfl rfl rfl (qs rfl eran) (spec_l1Below_s g4) (sp 1 rfl (evn (ls_seq_k fun K5 hK5 => rs (sp 1 rfl (?_)))))
 obtain ⟨v6, g7, h⟩ := ob_some h
 refine qP rfl rfl rfl rfl (qs rfl eran) (spec_l1Below_s g7) (evn (ls_blk (rn 1 rfl ?_)))
 have kJ1 : ∀ {x8 : List Int} {x9 : Int} {x10 : Int} {x11 : List Y108}, spec_l6Any_J1 x8 x9 x10 x11 = some r → Jn K5 [(0, .box [aL cu8 x8, nI x9, nI x10]), (2, .box [oL 109 c109_oo []]), (3, .box [aL c109_aa x11])] := by
  intro x8 x9 x10 x11 h σ' hk
  unfold spec_l6Any_J1 at h
  exact hK5 _ (lh hk rfl (rn 1 rfl (ls_ret ((by cases h; exact ⟨.inl rfl, rfl, rfl⟩)))))
 rcases cond_some h with ⟨g12, h⟩ | ⟨g12, h⟩
 ·refine qT rfl g12 (qk [0, 2, 3, 4] rfl ?_)
  obtain ⟨g13, h⟩ := chk_some h
  refine ls_hg (gLb (q := 900003) (b := 3) [] [] rfl rfl rfl g13 ?_)
  intro gg14 mm14
  refine qk [0, 2, 3, 4, 900003] rfl (ls_gh (ls_gh (rgt 6 (by kernel_rfl) (sd 4 rfl (ed rfl (qBk cst [[], [82], [97, 98, 99, 100, 101], [97], [122]] 9 1 (by kernel_rfl) rfl zcst (?_)))))))
  obtain ⟨v15, g16, h⟩ := ob_some h
  refine ed rfl (qP rfl rfl rfl rfl (qa rfl (erO ecst _) eran) (spec_l1Pick_s g16) (evdn (gh_k ?_)))
  obtain ⟨e17, g18, h⟩ := ob_some h
  refine qIt rfl rfl rfl rfl g18 (sp 1 rfl (?_))
  refine qSt (y0 := e17) (i := v3.1) (es := 3) 0 (v15.1, e17.2) [0, 2, 3] rfl rfl rfl rfl rfl rfl rfl rfl rfl rfl zc109_oo g18 (fun x => sdL (dkc109_oo x)) (sdL (dcc rfl dcn)) (yc (snc (sA (aca (fun _ => rfl) _)) (snc rfl (snc rfl rfl))) (yc (snc rfl rfl) (yc (snc rfl rfl) yn))) (?_)
  exact evn (gDb (q := 900003) (b := 3) [] [] rfl rfl rfl (sl rfl) (gFb (b := 3) [] [] rfl zkc109_oo (kJ1 h _ (okr rfl))))
 ·refine qF rfl g12 (rn 1 rfl ?_)
  rcases cond_some h with ⟨g19, h⟩ | ⟨g19, h⟩
  ·refine qT rfl g19 (qk [0, 2, 3, 4] rfl ?_)
   obtain ⟨g20, h⟩ := chk_some h
   refine ls_hg (gLb (q := 900003) (b := 3) [] [] rfl rfl rfl g20 ?_)
   intro gg21 mm21
   refine qk [0, 2, 3, 4, 900003] rfl (ls_gh (ls_gh (rgt 5 (by kernel_rfl) (sd 4 rfl (?_)))))
   obtain ⟨v22, g23, h⟩ := ob_some h
   refine ed rfl (qP rfl rfl rfl rfl eran (spec_l5Any_s g23) (evdn (gh_k ?_)))
   obtain ⟨e24, g25, h⟩ := ob_some h
   refine qIt rfl rfl rfl rfl g25 (sp 1 rfl (?_))
   refine qSt (y0 := e24) (i := v3.1) (es := 3) 1 (e24.1, v22.1) [0, 2, 3] rfl rfl rfl rfl rfl rfl rfl rfl rfl rfl zc109_oo g25 (fun x => sdL (dkc109_oo x)) (sdL (dcc rfl (dcc (dco dkc28_o 28 _) dcn))) (yc (snc (sA (aca (fun _ => rfl) _)) (snc rfl (snc rfl rfl))) (yc (snc rfl rfl) (yc (snc rfl rfl) yn))) (?_)
   exact evn (gDb (q := 900003) (b := 3) [] [] rfl rfl rfl (sl rfl) (gFb (b := 3) [] [] rfl zkc109_oo (kJ1 h _ (okr rfl))))
  ·refine qF rfl g19 (rn 1 rfl ?_)
   rcases cond_some h with ⟨g26, h⟩ | ⟨g26, h⟩
   ·refine qT rfl g26 (qk [0, 2, 3, 4] rfl (ls_hg (gFi (b := 3) [] [] rfl zkc109_oo (qk [0, 2, 3, 4] rfl (qk [0, 2, 3, 4] rfl ?_)))))
    obtain ⟨g27, h⟩ := chk_some h
    refine ls_hg (gLb (q := 900003) (b := 3) [] [] rfl rfl rfl g27 ?_)
    intro gg28 mm28
    refine qk [0, 2, 3, 4, 900003] rfl (ls_gh (rgt 8 (by kernel_rfl) (sd 5 rfl (?_))))
    obtain ⟨e29, g30, h⟩ := ob_some h
    refine ed rfl (qIt rfl rfl rfl rfl g30 (?_))
    refine ed rfl (qLe (i := v3.1) (es := 3) (q := 900003) 0 rfl rfl rfl rfl rfl rfl zc109_aa g30 rfl rfl (?_))
    refine ed rfl (qBs c109_aa [e29] rfl rfl rfl zc109_aa (evdn (gDs (q := 900003) (b := 33) rfl rfl rfl rfl ?_)))
    obtain ⟨g31, h⟩ := chk_some h
    exact qA c109_aa v1.1 [e29] rfl rfl (flat_len zc109_aa [e29]) rfl g31 (sp 2 rfl (evn (gFb (b := 3) [] [] rfl (fun _ => rfl) (kJ1 h _ (okr rfl)))))
   ·refine qF rfl g26 (rn 1 rfl ?_)
    rcases cond_some h with ⟨g32, h⟩ | ⟨g32, h⟩
    ·refine qT rfl g32 (qk [0, 2, 3, 4] rfl (ls_hg (gFb (b := 3) [] [] rfl zkc109_oo (qk [0, 2, 3, 4] rfl (rg (sp 3 rfl (?_)))))))
     obtain ⟨g33, h⟩ := chk_some h
     exact qSa rfl zc109_aa g33 (sp 2 rfl (evn (kJ1 h _ (okr rfl))))
    ·exact qF rfl g32 (qk [0, 2, 3] rfl (ls_gh (ls_skip (gFb (b := 3) [] [] rfl zkc109_oo (kJ1 h _ (okr rfl))))))
def spec_IsValidName_B1 (a0 : List UInt8) (rec : Int → Option (Sum (Unit) (Bool))) (y1 : Int) : Option (Sum (Unit) (Bool)) := cond (decide (y1 < (List.length a0 : Int))) (obind (geti a0 y1) fun b5 => cond (decide ((UInt8.toNat b5 : Int) < 97)) (some (.inr false)) (obind (geti a0 y1) fun b8 => cond (decide (122 < (UInt8.toNat b8 : Int))) (some (.inr false)) (rec (IntKind.i64.wrap (y1 + 1))))) (some (.inl ()))
def spec_IsValidName (a0 : List UInt8) : Option (Bool) := obind (loopF (spec_IsValidName_B1 a0) fz 0) fun o1 => (match o1 with
  | .inl _ => (obind (spec_l1In (List.length a0 : Int) 1 4) fun v11 => some v11)
  | .inr r => some r)
theorem spec_IsValidName_s {a0 : List UInt8} {r : Bool} (h : spec_IsValidName a0 = some r) : SoundAt Tryz.prog 140 [.str a0] (.bool r) := by
 unfold spec_IsValidName at h
 refine st lit140 rfl (rn 1 rfl (ls_seq_k fun K1 hK1 => rn 1 rfl ?_))
 obtain ⟨o1, hl, hr1⟩ := ob_some h
 have kXB1 : (.inl ()) = o1 → Jn K1 [(0, .str a0)] := by
  intro h σ' hk
  subst h
  replace h := hr1
  try dsimp only at h
  refine hK1 _ (lh hk rfl (rs (sp 2 rfl (?_))))
  obtain ⟨v11, g12, h⟩ := ob_some h
  exact qC (qs rfl (qs rfl (qs rfl eran))) (spec_l1In_s g12) (sp 1 rfl (evn (ls_ret ((by cases h; exact ⟨.inl rfl, rfl⟩)))))
 refine ls_rec (fun (y1 : Int) => [(0, .str a0), (3, nI y1)]) _ _ _ _ hl (okr rfl) (fun _ => rfl) ?_
 rintro m y1 N h hN
 unfold spec_IsValidName_B1 at h
 refine ls_seq_k fun K2 hK2 => rn 1 rfl ?_
 rcases cond_some h with ⟨g3, h⟩ | ⟨g3, h⟩
 ·refine qT rfl g3 (ls_skip (hK2 _ (ls_seq_k fun K4 hK4 => ls_blk (rs (sp 2 rfl (?_))))))
  obtain ⟨b5, g6, h⟩ := ob_some h
  refine qX rfl g6 (sp 2 rfl (?_))
  rcases cond_some h with ⟨g7, h⟩ | ⟨g7, h⟩
  ·exact qg 14 g7 rfl (sp 5 rfl (evn (qT rfl rfl (rn 1 rfl (ls_ret ((by cases h; cases hr1; exact ⟨.inl rfl, rfl⟩)))))))
  ·refine qg 14 g7 rfl (sp 2 rfl (?_))
   obtain ⟨b8, g9, h⟩ := ob_some h
   refine oGR rfl rfl (qX rfl g9 (sp 2 rfl (evn ?_)))
   rcases cond_some h with ⟨g10, h⟩ | ⟨g10, h⟩
   ·exact qT rfl g10 (rn 1 rfl (qk [2] rfl (ls_ret ((by cases h; cases hr1; exact ⟨.inl rfl, rfl⟩)))))
   ·exact qF rfl g10 (ls_skip (hK4 _ (rg (sp 3 rfl (evn (hN _ _ h (okr rfl)))))))
 ·exact qF rfl g3 (ls_exit (kXB1 (Option.some.inj h) _ (okr rfl)))
def spec_IsValidDatabase_J2 (rec : Int → Option (Sum (Unit) (Bool))) (y1 : Int) (x8 : Bool) : Option (Sum (Unit) (Bool)) := cond x8 (some (.inr false)) (rec (IntKind.i64.wrap (y1 + 1)))
def spec_IsValidDatabase_B1 (a0 : List Y108) (rec : Int → Option (Sum (Unit) (Bool))) (y1 : Int) : Option (Sum (Unit) (Bool)) := cond (decide (y1 < (List.length a0 : Int))) (obind (geti a0 y1) fun e5 => obind (spec_IsValidName e5.1) fun v10 => cond (!v10) (spec_IsValidDatabase_J2 rec y1 true) (cond (decide (0 < y1)) (obind (geti a0 (IntKind.i64.wrap (y1 - 1))) fun e14 => cond (!Op.bytesLess e14.1 e5.1) (spec_IsValidDatabase_J2 rec y1 true) (obind (spec_IsValidRelation e5.2) fun v17 => cond (!v17) (spec_IsValidDatabase_J2 rec y1 true) (cond (decide (16 < (List.length e5.2.2 : Int))) (spec_IsValidDatabase_J2 rec y1 true) (spec_IsValidDatabase_J2 rec y1 (decide (e5.2.1 < 1)))))) (obind (spec_IsValidRelation e5.2) fun v21 => cond (!v21) (spec_IsValidDatabase_J2 rec y1 true) (cond (decide (16 < (List.length e5.2.2 : Int))) (spec_IsValidDatabase_J2 rec y1 true) (spec_IsValidDatabase_J2 rec y1 (decide (e5.2.1 < 1))))))) (some (.inl ()))
def spec_IsValidDatabase (a0 : List Y108) : Option (Bool) := obind (loopF (spec_IsValidDatabase_B1 a0) fz 0) fun o1 => (match o1 with
  | .inl _ => (some (decide ((List.length a0 : Int) ≤ 6)))
  | .inr r => some r)
theorem spec_IsValidDatabase_s {a0 : List Y108} {r : Bool} (h : spec_IsValidDatabase a0 = some r) : SoundAt Tryz.prog 64 [.agg [dL c109_dd a0]] (.bool r) := by
 unfold spec_IsValidDatabase at h
 refine st lit64 rfl (rn 1 rfl (ls_seq_k fun K1 hK1 => rn 1 rfl ?_))
 obtain ⟨o1, hl, hr1⟩ := ob_some h
 have kXB1 : (.inl ()) = o1 → Jn K1 [(1, .box [dL c109_dd a0])] := by
  intro h σ' hk
  subst h
  replace h := hr1
  try dsimp only at h
  exact hK1 _ (lh hk rfl (rn 1 rfl (ls_ret ((by cases h; exact ⟨.inl rfl, rfl⟩)))))
 refine ls_rec (fun (y1 : Int) => [(1, .box [dL c109_dd a0]), (3, nI y1)]) _ _ _ _ hl (okr rfl) (fun _ => rfl) ?_
 rintro m y1 N h hN
 unfold spec_IsValidDatabase_B1 at h
 refine ls_seq_k fun K2 hK2 => rn 1 rfl ?_
 rcases cond_some h with ⟨g3, h⟩ | ⟨g3, h⟩
 ·refine qT rfl g3 (ls_skip (hK2 _ (ls_seq_k fun K4 hK4 => ls_blk (rs (sp 3 rfl (?_))))))
  obtain ⟨e5, g6, h⟩ := ob_some h
  refine qI rfl zc109_dd g6 (sp 3 rfl (evn (rdk (by kernel_rfl) fun K7 hK7 => ?_)))
  have kJ2 : ∀ {x8 : Bool}, spec_IsValidDatabase_J2 (loopF (spec_IsValidDatabase_B1 a0) m) y1 x8 = some o1 → Jn K7 [(1, .box [dL c109_dd a0]), (3, nI y1), (55, .bool x8)] := by
   intro x8 h σ' hk
   unfold spec_IsValidDatabase_J2 at h
   refine hK7 _ (lh hk rfl ?_)
   rcases cond_some h with ⟨g9, h⟩ | ⟨g9, h⟩
   ·exact qT rfl g9 (rn 1 rfl (ls_ret ((by cases h; cases hr1; exact ⟨.inl rfl, rfl⟩))))
   ·exact qF rfl g9 (ls_skip (hK4 _ (rg (sp 3 rfl (evn (hN _ _ h (okr rfl)))))))
  refine sd 2 rfl (?_)
  obtain ⟨v10, g11, h⟩ := ob_some h
  refine ed rfl (qC (qs rfl eran) (spec_IsValidName_s g11) (sd 2 rfl (?_)))
  rcases cond_some h with ⟨g12, h⟩ | ⟨g12, h⟩
  ·exact qgd 21 g12 rfl (sd 34 rfl (evdn (kJ2 h _ (okr rfl))))
  ·refine qgd 21 g12 rfl (sd 3 rfl (?_))
   rcases cond_some h with ⟨g13, h⟩ | ⟨g13, h⟩
   ·refine qgd 24 g13 rfl (sd 4 rfl (?_))
    obtain ⟨e14, g15, h⟩ := ob_some h
    refine ed rfl (oGR rfl rfl (qI rfl zc109_dd g15 (sd 8 rfl (?_))))
    rcases cond_some h with ⟨g16, h⟩ | ⟨g16, h⟩
    ·exact qgd 37 g16 rfl (sd 18 rfl (evdn (kJ2 h _ (okr rfl))))
    ·refine qgd 37 g16 rfl (sd 2 rfl (?_))
     obtain ⟨v17, g18, h⟩ := ob_some h
     refine ed rfl (oGR rfl rfl (qC (qa rfl (erg (erc rfl (erc (erD ec28_d _) rfl))) eran) (spec_IsValidRelation_s g18) (sd 3 rfl (?_))))
     rcases cond_some h with ⟨g19, h⟩ | ⟨g19, h⟩
     ·exact qgd 43 g19 rfl (sd 12 rfl (evdn (kJ2 h _ (okr rfl))))
     ·refine qgd 43 g19 rfl (sd 7 rfl (?_))
      rcases cond_some h with ⟨g20, h⟩ | ⟨g20, h⟩
      ·exact qgd 50 g20 rfl (sd 5 rfl (evdn (kJ2 h _ (okr rfl))))
      ·exact qgd 50 g20 rfl (sd 5 rfl (evdn (kJ2 h _ (okr rfl))))
   ·refine qgd 24 g13 rfl (sd 15 rfl (?_))
    obtain ⟨v21, g22, h⟩ := ob_some h
    refine ed rfl (oGR rfl rfl (qC (qa rfl (erg (erc rfl (erc (erD ec28_d _) rfl))) eran) (spec_IsValidRelation_s g22) (sd 3 rfl (?_))))
    rcases cond_some h with ⟨g23, h⟩ | ⟨g23, h⟩
    ·exact qgd 43 g23 rfl (sd 12 rfl (evdn (kJ2 h _ (okr rfl))))
    ·refine qgd 43 g23 rfl (sd 7 rfl (?_))
     rcases cond_some h with ⟨g24, h⟩ | ⟨g24, h⟩
     ·exact qgd 50 g24 rfl (sd 5 rfl (evdn (kJ2 h _ (okr rfl))))
     ·exact qgd 50 g24 rfl (sd 5 rfl (evdn (kJ2 h _ (okr rfl))))
 ·exact qF rfl g3 (ls_exit (kXB1 (Option.some.inj h) _ (okr rfl)))
abbrev Y59 := Int × (List (List Y108))
def c26_ddd (x : List Y108) : List V := [dL c109_dd x]
theorem zc26_ddd (x : List Y108) : (c26_ddd x).length = 1 := rfl
theorem ec26_ddd (x : List Y108) : erL (c26_ddd x) = c26_ddd x := (erc (erD ec109_dd _) rfl)
def c60_dddd (x : Y59) : List V := [nI x.1, dL c26_ddd x.2]
theorem zc60_dddd (x : Y59) : (c60_dddd x).length = 2 := rfl
theorem ec60_dddd (x : Y59) : erL (c60_dddd x) = c60_dddd x := (erc rfl (erc (erD ec26_ddd _) rfl))
def spec_IsValidHistory_B1 (a0 : Y59) (rec : Int → Option (Sum (Unit) (Bool))) (y1 : Int) : Option (Sum (Unit) (Bool)) := cond (decide (y1 < (List.length a0.2 : Int))) (obind (geti a0.2 y1) fun e5 => obind (spec_IsValidDatabase e5) fun v7 => cond (!v7) (some (.inr false)) (rec (IntKind.i64.wrap (y1 + 1)))) (some (.inl ()))
def spec_IsValidHistory_J2 (x11 : Bool) : Option (Bool) := some x11
def spec_IsValidHistory (a0 : Y59) : Option (Bool) := obind (loopF (spec_IsValidHistory_B1 a0) fz 0) fun o1 => (match o1 with
  | .inl _ => (obind (spec_l1In (List.length a0.2 : Int) 1 6) fun v12 => cond v12 (obind (spec_l1In a0.1 1 (IntKind.i64.wrap ((IntKind.i64.wrap (99 - (List.length a0.2 : Int))) + 1))) fun v15 => spec_IsValidHistory_J2 v15) (spec_IsValidHistory_J2 false))
  | .inr r => some r)
theorem spec_IsValidHistory_s {a0 : Y59} {r : Bool} (h : spec_IsValidHistory a0 = some r) : SoundAt Tryz.prog 24 [.agg (c60_dddd a0)] (.bool r) := by
 unfold spec_IsValidHistory at h
 refine st lit24 rfl (rn 1 rfl (ls_seq_k fun K1 hK1 => rn 1 rfl ?_))
 obtain ⟨o1, hl, hr1⟩ := ob_some h
 have kXB1 : (.inl ()) = o1 → Jn K1 [(1, .box [nI a0.1, dL c26_ddd a0.2])] := by
  intro h σ' hk
  subst h
  replace h := hr1
  try dsimp only at h
  refine hK1 _ (lh hk rfl (rk fun K10 hK10 => ?_))
  have kJ2 : ∀ {x11 : Bool}, spec_IsValidHistory_J2 x11 = some r → Jn K10 [(2, .bool x11)] := by
   intro x11 h σ' hk
   unfold spec_IsValidHistory_J2 at h
   exact hK10 _ (lh hk rfl (ls_ret ((by cases h; exact ⟨.inl rfl, rfl⟩))))
  refine sp 3 rfl (?_)
  obtain ⟨v12, g13, h⟩ := ob_some h
  refine qC (qs rfl (qs rfl (qs rfl eran))) (spec_l1In_s g13) (sp 1 rfl (?_))
  rcases cond_some h with ⟨g14, h⟩ | ⟨g14, h⟩
  ·refine qg 22 g14 rfl (sp 7 rfl (?_))
   obtain ⟨v15, g16, h⟩ := ob_some h
   exact oGR rfl rfl (qC (qs rfl (qs rfl (qs rfl eran))) (spec_l1In_s g16) (sp 2 rfl (evn (kJ2 h _ (okr rfl)))))
  ·exact qg 22 g14 rfl (sp 10 rfl (evn (kJ2 h _ (okr rfl))))
 refine ls_rec (fun (y1 : Int) => [(1, .box [nI a0.1, dL c26_ddd a0.2]), (3, nI y1)]) _ _ _ _ hl (okr rfl) (fun _ => rfl) ?_
 rintro m y1 N h hN
 unfold spec_IsValidHistory_B1 at h
 refine ls_seq_k fun K2 hK2 => rn 1 rfl ?_
 rcases cond_some h with ⟨g3, h⟩ | ⟨g3, h⟩
 ·refine qT rfl g3 (ls_skip (hK2 _ (ls_seq_k fun K4 hK4 => ls_blk (rs (sp 3 rfl (?_))))))
  obtain ⟨e5, g6, h⟩ := ob_some h
  refine qI rfl zc26_ddd g6 (sp 1 rfl (?_))
  obtain ⟨v7, g8, h⟩ := ob_some h
  refine qC (qa rfl (erg (erc (erD ec109_dd _) rfl)) eran) (spec_IsValidDatabase_s g8) (sp 1 rfl (evn ?_))
  rcases cond_some h with ⟨g9, h⟩ | ⟨g9, h⟩
  ·exact qT rfl g9 (rn 1 rfl (ls_ret ((by cases h; cases hr1; exact ⟨.inl rfl, rfl⟩))))
  ·exact qF rfl g9 (ls_skip (hK4 _ (rg (sp 3 rfl (evn (hN _ _ h (okr rfl)))))))
 ·exact qF rfl g3 (ls_exit (kXB1 (Option.some.inj h) _ (okr rfl)))
def spec_l6Copy_B1 (a0 : List Y108) (rec : ((List Y108) × Int) → Option ((List Y108))) (s : (List Y108) × Int) : Option ((List Y108)) := match s with
  | (y1, y2) => cond (decide (y2 < (List.length a0 : Int))) (obind (geti a0 y2) fun e6 => obind (spec_l5Copy e6.2) fun v8 => obind (geti a0 y2) fun e10 => chk (List.length y1 + List.length [(e10.1, v8)] ≤ lim) (rec ((y1 ++ [(e10.1, v8)]), (IntKind.i64.wrap (y2 + 1))))) (some y1)
def spec_l6Copy (a0 : List Y108) : Option ((List Y108)) := obind (loopF (spec_l6Copy_B1 a0) fz (([] : List Y108), 0)) fun z2 => some z2
theorem spec_l6Copy_s {a0 : List Y108} {r : (List Y108)} (h : spec_l6Copy a0 = some r) : SoundAt Tryz.prog 85 [.agg [dL c109_dd a0]] (.agg [oL 109 c109_oo r]) := by
 unfold spec_l6Copy at h
 refine st lit85 rfl (rn 2 rfl (ls_seq_k fun K1 hK1 => rn 1 rfl ?_))
 obtain ⟨o1, hl, hr1⟩ := ob_some h
 have kXB1 : ∀ {z2 : List Y108}, z2 = o1 → Jn K1 [(2, .box [oL 109 c109_oo []]), (3, .box [oL 109 c109_oo z2])] := by
  intro z2 h σ' hk
  subst h
  replace h := hr1
  try dsimp only at h
  exact hK1 _ (lh hk rfl (rn 1 rfl (ls_ret ((by cases h; exact ⟨.inl rfl, rfl⟩)))))
 refine ls_rec (fun (s : (List Y108) × Int) => match s with | (y1, y2) => [(1, .box [dL c109_dd a0]), (2, .box [oL 109 c109_oo []]), (3, .box [oL 109 c109_oo y1]), (4, nI y2)]) _ _ _ _ hl (okr rfl) (fun _ => rfl) ?_
 rintro m ⟨y1, y2⟩ N h hN
 unfold spec_l6Copy_B1 at h
 dsimp only at h
 refine ls_seq_k fun K3 hK3 => rn 1 rfl ?_
 rcases cond_some h with ⟨g4, h⟩ | ⟨g4, h⟩
 ·refine qT rfl g4 (ls_skip (hK3 _ (ls_seq_k fun K5 hK5 => ls_blk (rs (sp 3 rfl (?_))))))
  obtain ⟨e6, g7, h⟩ := ob_some h
  refine qI rfl zc109_dd g7 (sp 2 rfl (?_))
  obtain ⟨v8, g9, h⟩ := ob_some h
  refine qC (qa rfl (erg (erc rfl (erc (erD ec28_d _) rfl))) eran) (spec_l5Copy_s g9) (sp 2 rfl (evn (rgd (by kernel_rfl) (sd 5 rfl (?_)))))
  obtain ⟨e10, g11, h⟩ := ob_some h
  refine ed rfl (qI rfl zc109_dd g11 (sd 4 rfl (ed rfl (qBs c109_oo [(e10.1, v8)] rfl rfl rfl zc109_oo (?_)))))
  obtain ⟨g12, h⟩ := chk_some h
  exact ed rfl (qA c109_oo y1 [(e10.1, v8)] rfl rfl (flat_len zc109_oo [(e10.1, v8)]) rfl g12 (sd 2 rfl (evdn (hK5 _ (rg (sp 3 rfl (evn (hN _ _ h (okr rfl)))))))))
 ·exact qF rfl g4 (ls_exit (kXB1 (Option.some.inj h) _ (okr rfl)))
def c26_ooo (x : List Y108) : List V := [oL 109 c109_oo x]
theorem zc26_ooo (x : List Y108) : (c26_ooo x).length = 1 := rfl
theorem ec26_ooo (x : List Y108) : erL (c26_ooo x) = c26_ddd x := (erc (erO ec109_oo _) rfl)
def c60_oooo (x : Y59) : List V := [nI x.1, oL 26 c26_ooo x.2]
theorem zc60_oooo (x : Y59) : (c60_oooo x).length = 2 := rfl
theorem ec60_oooo (x : Y59) : erL (c60_oooo x) = c60_dddd x := (erc rfl (erc (erO ec26_ooo _) rfl))
def spec_l33Copy_B1 (a0 : Y59) (rec : ((List (List Y108)) × Int) → Option ((List (List Y108)))) (s : (List (List Y108)) × Int) : Option ((List (List Y108))) := match s with
  | (y1, y2) => cond (decide (y2 < (List.length a0.2 : Int))) (obind (geti a0.2 y2) fun e6 => obind (spec_l6Copy e6) fun v8 => chk (List.length y1 + List.length [v8] ≤ lim) (rec ((y1 ++ [v8]), (IntKind.i64.wrap (y2 + 1))))) (some y1)
def spec_l33Copy (a0 : Y59) : Option (Y59) := obind (loopF (spec_l33Copy_B1 a0) fz (([] : List (List Y108)), 0)) fun z2 => some (a0.1, z2)
theorem spec_l33Copy_s {a0 : Y59} {r : Y59} (h : spec_l33Copy a0 = some r) : SoundAt Tryz.prog 94 [.agg (c60_dddd a0)] (.agg (c60_oooo r)) := by
 unfold spec_l33Copy at h
 refine st lit94 rfl (rn 2 rfl (ls_seq_k fun K1 hK1 => rn 1 rfl ?_))
 obtain ⟨o1, hl, hr1⟩ := ob_some h
 have kXB1 : ∀ {z2 : List (List Y108)}, z2 = o1 → Jn K1 [(2, .box [nI 0, oL 26 c26_ooo []]), (3, .box [nI a0.1, oL 26 c26_ooo z2])] := by
  intro z2 h σ' hk
  subst h
  replace h := hr1
  try dsimp only at h
  exact hK1 _ (lh hk rfl (rn 1 rfl (ls_ret ((by cases h; exact ⟨.inl rfl, rfl⟩)))))
 refine ls_rec (fun (s : (List (List Y108)) × Int) => match s with | (y1, y2) => [(1, .box [nI a0.1, dL c26_ddd a0.2]), (2, .box [nI 0, oL 26 c26_ooo []]), (3, .box [nI a0.1, oL 26 c26_ooo y1]), (4, nI y2)]) _ _ _ _ hl (okr rfl) (fun _ => rfl) ?_
 rintro m ⟨y1, y2⟩ N h hN
 unfold spec_l33Copy_B1 at h
 dsimp only at h
 refine ls_seq_k fun K3 hK3 => rn 1 rfl ?_
 rcases cond_some h with ⟨g4, h⟩ | ⟨g4, h⟩
 ·refine qT rfl g4 (ls_skip (hK3 _ (ls_seq_k fun K5 hK5 => ls_blk (rs (sp 3 rfl (?_))))))
  obtain ⟨e6, g7, h⟩ := ob_some h
  refine qI rfl zc26_ddd g7 (sp 1 rfl (?_))
  obtain ⟨v8, g9, h⟩ := ob_some h
  refine qC (qa rfl (erg (erc (erD ec109_dd _) rfl)) eran) (spec_l6Copy_s g9) (sp 2 rfl (evn (rg (sp 3 rfl (qBs c26_ooo [v8] rfl rfl rfl zc26_ooo (?_))))))
  obtain ⟨g10, h⟩ := chk_some h
  exact qA c26_ooo y1 [v8] rfl rfl (flat_len zc26_ooo [v8]) rfl g10 (sp 2 rfl (evn (hK5 _ (rg (sp 3 rfl (evn (hN _ _ h (okr rfl))))))))
 ·exact qF rfl g4 (ls_exit (kXB1 (Option.some.inj h) _ (okr rfl)))
def spec_LookupRelation_B1 (a0 : List Y108) (a1 : List UInt8) (rec : Int → Option (Sum (Unit) (Y37 × Bool))) (y1 : Int) : Option (Sum (Unit) (Y37 × Bool)) := cond (decide (y1 < (List.length a0 : Int))) (obind (spec_IsValidDatabase a0) fun v4 => cond v4 (obind (geti a0 y1) fun e8 => cond (e8.1 == a1) (obind (geti a0 y1) fun e11 => obind (spec_l5Copy e11.2) fun v13 => some (.inr (v13, true))) (rec (IntKind.i64.wrap (y1 + 1)))) (some (.inl ()))) (some (.inl ()))
def spec_LookupRelation (a0 : List Y108) (a1 : List UInt8) : Option (Y37 × Bool) := obind (loopF (spec_LookupRelation_B1 a0 a1) fz 0) fun o1 => (match o1 with
  | .inl _ => (some ((0, []), false))
  | .inr r => some r)
theorem spec_LookupRelation_s {a0 : List Y108} {a1 : List UInt8} {r : Y37 × Bool} (h : spec_LookupRelation a0 a1 = some r) : SoundAt Tryz.prog 133 [.agg [dL c109_dd a0], .str a1] (.tup [.agg (c38_oo r.1), .bool r.2]) := by
 unfold spec_LookupRelation at h
 refine st lit133 rfl (rn 1 rfl (ls_seq_k fun K1 hK1 => rn 1 rfl ?_))
 obtain ⟨o1, hl, hr1⟩ := ob_some h
 have kXB1 : (.inl ()) = o1 → Jn K1 [(4, .box [nI 0, oL 28 c28_o []])] := by
  intro h σ' hk
  subst h
  replace h := hr1
  try dsimp only at h
  exact hK1 _ (lh hk rfl (rn 1 rfl (ls_ret ((by cases h; exact ⟨.inl rfl, rfl⟩)))))
 refine ls_rec (fun (y1 : Int) => [(1, .str a1), (2, .box [dL c109_dd a0]), (4, .box [nI 0, oL 28 c28_o []]), (6, nI y1)]) _ _ _ _ hl (okr rfl) (fun _ => rfl) ?_
 rintro m y1 N h hN
 unfold spec_LookupRelation_B1 at h
 refine ls_seq_k fun K2 hK2 => rs (sp 6 rfl (?_))
 rcases cond_some h with ⟨g3, h⟩ | ⟨g3, h⟩
 ·refine qg 12 g3 rfl (sp 1 rfl (?_))
  obtain ⟨v4, g5, h⟩ := ob_some h
  refine oGR rfl rfl (qC (qa rfl (erg (erc (erD ec109_dd _) rfl)) eran) (spec_IsValidDatabase_s g5) (sp 1 rfl (evn ?_)))
  rcases cond_some h with ⟨g6, h⟩ | ⟨g6, h⟩
  ·refine qT rfl g6 (ls_skip (hK2 _ (ls_seq_k fun K7 hK7 => ls_blk (rs (sp 3 rfl (?_))))))
   obtain ⟨e8, g9, h⟩ := ob_some h
   refine qI rfl zc109_dd g9 (sp 4 rfl (evn ?_))
   rcases cond_some h with ⟨g10, h⟩ | ⟨g10, h⟩
   ·refine qT rfl g10 (rs (sp 3 rfl (?_)))
    obtain ⟨e11, g12, h⟩ := ob_some h
    refine qI rfl zc109_dd g12 (sp 2 rfl (?_))
    obtain ⟨v13, g14, h⟩ := ob_some h
    exact qC (qa rfl (erg (erc rfl (erc (erD ec28_d _) rfl))) eran) (spec_l5Copy_s g14) (sp 2 rfl (evn (ls_ret ((by cases h; cases hr1; exact ⟨.inl rfl, rfl⟩)))))
   ·exact qF rfl g10 (ls_skip (hK7 _ (qk [1, 2, 4, 6] rfl (rg (sp 3 rfl (evn (hN _ _ h (okr rfl))))))))
  ·exact qF rfl g6 (ls_exit (kXB1 (Option.some.inj h) _ (okr rfl)))
 ·exact qg 12 g3 rfl (sp 3 rfl (evn (qF rfl rfl (ls_exit (kXB1 (Option.some.inj h) _ (okr rfl))))))
def spec_l5Place_B1 (a0 : Y37) (a1 : List Int) (rec : (Int × Int) → Option (Int)) (s : Int × Int) : Option (Int) := match s with
  | (y1, y2) => cond (decide (y1 < y2)) (obind (geti a0.2 (IntKind.i64.wrap (Int.tdiv (IntKind.i64.wrap (y1 + y2)) 2))) fun e5 => obind (spec_CompareRows e5 a1) fun v7 => cond (decide (v7 < 0)) (rec ((IntKind.i64.wrap ((IntKind.i64.wrap (Int.tdiv (IntKind.i64.wrap (y1 + y2)) 2)) + 1)), y2)) (rec (y1, (IntKind.i64.wrap (Int.tdiv (IntKind.i64.wrap (y1 + y2)) 2))))) (some y1)
def spec_l5Place_J2 (z2 : Int) (x11 : Bool) : Option (Int × Bool) := some (z2, x11)
def spec_l5Place (a0 : Y37) (a1 : List Int) : Option (Int × Bool) := obind (loopF (spec_l5Place_B1 a0 a1) fz (0, (List.length a0.2 : Int))) fun z2 => cond (decide (z2 < (List.length a0.2 : Int))) (obind (geti a0.2 z2) fun e13 => obind (spec_CompareRows e13 a1) fun v15 => spec_l5Place_J2 z2 (v15 == 0)) (spec_l5Place_J2 z2 false)
theorem spec_l5Place_s {a0 : Y37} {a1 : List Int} {r : Int × Bool} (h : spec_l5Place a0 a1 = some r) : SoundAt Tryz.prog 241 [.agg (c38_dd a0), dL ci64 a1] (.tup [nI r.1, .bool r.2]) := by
 unfold spec_l5Place at h
 refine st lit241 rfl (rn 3 rfl (ls_seq_k fun K1 hK1 => ?_))
 obtain ⟨o1, hl, hr1⟩ := ob_some h
 have kXB1 : ∀ {z2 : Int}, z2 = o1 → Jn K1 [(1, dL ci64 a1), (2, .box [nI a0.1, dL c28_d a0.2]), (6, nI z2)] := by
  intro z2 h σ' hk
  subst h
  replace h := hr1
  try dsimp only at h
  refine hK1 _ (lh hk rfl (rk fun K10 hK10 => ?_))
  have kJ2 : ∀ {x11 : Bool}, spec_l5Place_J2 z2 x11 = some r → Jn K10 [(4, nI z2), (5, .bool x11)] := by
   intro x11 h σ' hk
   unfold spec_l5Place_J2 at h
   exact hK10 _ (lh hk rfl (ls_ret ((by cases h; exact ⟨.inl rfl, rfl⟩))))
  refine sp 7 rfl (?_)
  rcases cond_some h with ⟨g12, h⟩ | ⟨g12, h⟩
  ·refine qg 36 g12 rfl (sp 3 rfl (?_))
   obtain ⟨e13, g14, h⟩ := ob_some h
   refine oGR rfl rfl (qI rfl zc28_d g14 (sp 2 rfl (?_)))
   obtain ⟨v15, g16, h⟩ := ob_some h
   exact oGR rfl rfl (qC (qa rfl (erD eci64 _) (qa rfl (erD eci64 _) eran)) (spec_CompareRows_s g16) (sp 4 rfl (evn (kJ2 h _ (okr rfl)))))
  ·exact qg 36 g12 rfl (sp 11 rfl (evn (kJ2 h _ (okr rfl))))
 refine ls_rec (fun (s : Int × Int) => match s with | (y1, y2) => [(1, dL ci64 a1), (2, .box [nI a0.1, dL c28_d a0.2]), (6, nI y1), (7, nI y2)]) _ _ _ _ hl (okr rfl) (fun _ => rfl) ?_
 rintro m ⟨y1, y2⟩ N h hN
 unfold spec_l5Place_B1 at h
 dsimp only at h
 refine ls_seq_k fun K3 hK3 => rn 1 rfl ?_
 rcases cond_some h with ⟨g4, h⟩ | ⟨g4, h⟩
 ·refine qT rfl g4 (ls_skip (hK3 _ (ls_blk (rn 1 rfl (rs (sp 3 rfl (?_)))))))
  obtain ⟨e5, g6, h⟩ := ob_some h
  refine qI rfl zc28_d g6 (sp 2 rfl (?_))
  obtain ⟨v7, g8, h⟩ := ob_some h
  refine qC (qa rfl (erD eci64 _) (qa rfl (erD eci64 _) eran)) (spec_CompareRows_s g8) (sp 1 rfl (evn ?_))
  rcases cond_some h with ⟨g9, h⟩ | ⟨g9, h⟩
  ·exact qT rfl g9 (rg (sp 3 rfl (evn (hN _ _ h (okr rfl)))))
  ·exact qF rfl g9 (rg (sp 2 rfl (evn (hN _ _ h (okr rfl)))))
 ·exact qF rfl g4 (ls_exit (kXB1 (Option.some.inj h) _ (okr rfl)))
def spec_Difference_J2 (rec : ((List (List Int)) × Int) → Option ((List (List Int)))) (y2 : Int) (x18 : List (List Int)) : Option ((List (List Int))) := rec (x18, (IntKind.i64.wrap (y2 + 1)))
def spec_Difference_B1 (a0 : Y37) (a1 : Y37) (rec : ((List (List Int)) × Int) → Option ((List (List Int)))) (s : (List (List Int)) × Int) : Option ((List (List Int))) := match s with
  | (y1, y2) => cond (decide (y2 < (List.length a0.2 : Int))) (obind (geti a0.2 y2) fun e14 => obind (spec_l5Place a1 e14) fun v16 => cond (!v16.2) (obind (geti a0.2 y2) fun e20 => chk (List.length ([] : List Int) + List.length e20 ≤ lim) (chk (List.length y1 + List.length ([([] : List Int) ++ e20]) ≤ lim) (spec_Difference_J2 rec y2 (y1 ++ ([([] : List Int) ++ e20]))))) (spec_Difference_J2 rec y2 y1)) (some y1)
def spec_Difference (a0 : Y37) (a1 : Y37) : Option (Y37 × Bool) := obind (spec_IsValidRelation a0) fun v2 => cond (!v2) (some ((0, []), false)) (obind (spec_IsValidRelation a1) fun v5 => cond (!v5) (some ((0, []), false)) (cond (a0.1 != a1.1) (some ((0, []), false)) (obind (loopF (spec_Difference_B1 a0 a1) fz (([] : List (List Int)), 0)) fun z10 => some ((a0.1, z10), true))))
theorem spec_Difference_s {a0 : Y37} {a1 : Y37} {r : Y37 × Bool} (h : spec_Difference a0 a1 = some r) : SoundAt Tryz.prog 224 [.agg (c38_dd a0), .agg (c38_dd a1)] (.tup [.agg (c38_oo r.1), .bool r.2]) := by
 unfold spec_Difference at h
 refine st lit224 rfl (rn 1 rfl (ls_seq_k fun K1 hK1 => rs (sp 1 rfl (?_))))
 obtain ⟨v2, g3, h⟩ := ob_some h
 refine qC (qa rfl (erg (erc rfl (erc (erD ec28_d _) rfl))) eran) (spec_IsValidRelation_s g3) (sp 2 rfl (?_))
 rcases cond_some h with ⟨g4, h⟩ | ⟨g4, h⟩
 ·exact qg 13 g4 rfl (sp 11 rfl (evn (qT rfl rfl (rn 1 rfl (ls_ret ((by cases h; exact ⟨.inl rfl, rfl⟩)))))))
 ·refine qg 13 g4 rfl (sp 1 rfl (?_))
  obtain ⟨v5, g6, h⟩ := ob_some h
  refine oGR rfl rfl (qC (qa rfl (erg (erc rfl (erc (erD ec28_d _) rfl))) eran) (spec_IsValidRelation_s g6) (sp 3 rfl (?_)))
  rcases cond_some h with ⟨g7, h⟩ | ⟨g7, h⟩
  ·exact qg 18 g7 rfl (sp 6 rfl (evn (qk [2, 3, 4, 24] rfl (qT rfl rfl (rn 1 rfl (ls_ret ((by cases h; exact ⟨.inl rfl, rfl⟩))))))))
  ·refine qg 18 g7 rfl (sp 6 rfl (evn ?_))
   rcases cond_some h with ⟨g8, h⟩ | ⟨g8, h⟩
   ·exact qT rfl g8 (rn 1 rfl (ls_ret ((by cases h; exact ⟨.inl rfl, rfl⟩))))
   ·refine qF rfl g8 (ls_skip (hK1 _ (rn 1 rfl (ls_seq_k fun K9 hK9 => rn 1 rfl ?_))))
    obtain ⟨o1, hl, hr1⟩ := ob_some h
    have kXB1 : ∀ {z10 : List (List Int)}, z10 = o1 → Jn K9 [(4, .box [nI 0, oL 28 c28_o []]), (6, .box [nI a0.1, oL 28 c28_o z10])] := by
     intro z10 h σ' hk
     subst h
     replace h := hr1
     try dsimp only at h
     exact hK9 _ (lh hk rfl (rn 1 rfl (ls_ret ((by cases h; exact ⟨.inl rfl, rfl⟩)))))
    refine ls_rec (fun (s : (List (List Int)) × Int) => match s with | (y1, y2) => [(2, .box [nI a0.1, dL c28_d a0.2]), (3, .box [nI a1.1, dL c28_d a1.2]), (4, .box [nI 0, oL 28 c28_o []]), (6, .box [nI a0.1, oL 28 c28_o y1]), (7, nI y2)]) _ _ _ _ hl (okr rfl) (fun _ => rfl) ?_
    rintro m ⟨y1, y2⟩ N h hN
    unfold spec_Difference_B1 at h
    dsimp only at h
    refine ls_seq_k fun K11 hK11 => rn 1 rfl ?_
    rcases cond_some h with ⟨g12, h⟩ | ⟨g12, h⟩
    ·refine qT rfl g12 (ls_skip (hK11 _ (ls_seq_k fun K13 hK13 => ls_blk (rd (by kernel_rfl) (sd 4 rfl (?_))))))
     obtain ⟨e14, g15, h⟩ := ob_some h
     refine ed rfl (qI rfl zc28_d g15 (sd 1 rfl (?_)))
     obtain ⟨v16, g17, h⟩ := ob_some h
     refine ed rfl (qC (qa rfl (erg (erc rfl (erc (erD ec28_d _) rfl))) (qa rfl (erD eci64 _) eran)) (spec_l5Place_s g17) (sd 5 rfl (evdn (rn 1 rfl ?_))))
     have kJ2 : ∀ {x18 : List (List Int)}, spec_Difference_J2 (loopF (spec_Difference_B1 a0 a1) m) y2 x18 = some o1 → Jn K13 [(2, .box [nI a0.1, dL c28_d a0.2]), (3, .box [nI a1.1, dL c28_d a1.2]), (4, .box [nI 0, oL 28 c28_o []]), (6, .box [nI a0.1, oL 28 c28_o x18]), (7, nI y2)] := by
      intro x18 h σ' hk
      unfold spec_Difference_J2 at h
      exact hK13 _ (lh hk rfl (rg (sp 3 rfl (evn (hN _ _ h (okr rfl))))))
     rcases cond_some h with ⟨g19, h⟩ | ⟨g19, h⟩
     ·refine qT rfl g19 (rgd (by kernel_rfl) (sd 2 rfl (ed rfl (qBs ci64 [] rfl rfl rfl zci64 (sd 3 rfl (?_))))))
      obtain ⟨e20, g21, h⟩ := ob_some h
      refine ed rfl (qI rfl zc28_d g21 (sd 1 rfl (?_)))
      obtain ⟨g22, h⟩ := chk_some h
      refine ed rfl (qA ci64 ([] : List Int) e20 rfl rfl (flat_len zci64 e20) (map_dg (fun _ => rfl) _) g22 (ed rfl (qBs c28_o [([] : List Int) ++ e20] rfl rfl rfl zc28_o (?_))))
      obtain ⟨g23, h⟩ := chk_some h
      exact ed rfl (qA c28_o y1 ([([] : List Int) ++ e20]) rfl rfl (flat_len zc28_o ([([] : List Int) ++ e20])) rfl g23 (sd 2 rfl (evdn (kJ2 h _ (okr rfl)))))
     ·exact qF rfl g19 (ls_skip (kJ2 h _ (okr rfl)))
    ·exact qF rfl g12 (ls_exit (kXB1 (Option.some.inj h) _ (okr rfl)))
abbrev Y189 := (List UInt8) × Y37 × Y37
def c190_dddd (x : Y189) : List V := [.str x.1, nI x.2.1.1, dL c28_d x.2.1.2, nI x.2.2.1, dL c28_d x.2.2.2]
theorem zc190_dddd (x : Y189) : (c190_dddd x).length = 5 := rfl
theorem ec190_dddd (x : Y189) : erL (c190_dddd x) = c190_dddd x := (erc rfl (erc rfl (erc (erD ec28_d _) (erc rfl (erc (erD ec28_d _) rfl)))))
def spec_l26Fits_J1 (x4 : Bool) : Option (Bool) := some x4
def spec_l26Fits (a0 : List Y108) (a1 : Y189) : Option (Bool) := obind (spec_LookupRelation a0 a1.1) fun v1 => cond v1.2 (obind (spec_IsValidRelation a1.2.1) fun v6 => cond v6 (obind (spec_IsValidRelation a1.2.2) fun v9 => cond v9 (cond (a1.2.1.1 == v1.1.1) (spec_l26Fits_J1 (a1.2.2.1 == v1.1.1)) (spec_l26Fits_J1 false)) (spec_l26Fits_J1 false)) (spec_l26Fits_J1 false)) (spec_l26Fits_J1 false)
theorem spec_l26Fits_s {a0 : List Y108} {a1 : Y189} {r : Bool} (h : spec_l26Fits a0 a1 = some r) : SoundAt Tryz.prog 247 [.agg [dL c109_dd a0], .agg (c190_dddd a1)] (.bool r) := by
 unfold spec_l26Fits at h
 refine st lit247 rfl (rn 1 rfl (rs (sp 3 rfl (?_))))
 obtain ⟨v1, g2, h⟩ := ob_some h
 refine qC (qa rfl (erg (erc (erD ec109_dd _) rfl)) (qs rfl eran)) (spec_LookupRelation_s g2) (sp 6 rfl (evn (rk fun K3 hK3 => ?_)))
 have kJ1 : ∀ {x4 : Bool}, spec_l26Fits_J1 x4 = some r → Jn K3 [(4, .bool x4)] := by
  intro x4 h σ' hk
  unfold spec_l26Fits_J1 at h
  exact hK3 _ (lh hk rfl (ls_ret ((by cases h; exact ⟨.inl rfl, rfl⟩))))
 refine sp 2 rfl (?_)
 rcases cond_some h with ⟨g5, h⟩ | ⟨g5, h⟩
 ·refine qg 15 g5 rfl (sp 2 rfl (?_))
  obtain ⟨v6, g7, h⟩ := ob_some h
  refine oGR rfl rfl (qC (qa rfl (erg (erc rfl (erc (erD ec28_d _) rfl))) eran) (spec_IsValidRelation_s g7) (sp 2 rfl (?_)))
  rcases cond_some h with ⟨g8, h⟩ | ⟨g8, h⟩
  ·refine qg 20 g8 rfl (sp 2 rfl (?_))
   obtain ⟨v9, g10, h⟩ := ob_some h
   refine oGR rfl rfl (qC (qa rfl (erg (erc rfl (erc (erD ec28_d _) rfl))) eran) (spec_IsValidRelation_s g10) (sp 2 rfl (?_)))
   rcases cond_some h with ⟨g11, h⟩ | ⟨g11, h⟩
   ·refine qg 25 g11 rfl (sp 8 rfl (?_))
    rcases cond_some h with ⟨g12, h⟩ | ⟨g12, h⟩
    ·exact qg 33 g12 rfl (sp 8 rfl (evn (kJ1 h _ (okr rfl))))
    ·exact qg 33 g12 rfl (sp 8 rfl (evn (kJ1 h _ (okr rfl))))
   ·exact qg 25 g11 rfl (sp 16 rfl (evn (kJ1 h _ (okr rfl))))
  ·exact qg 20 g8 rfl (sp 21 rfl (evn (kJ1 h _ (okr rfl))))
 ·exact qg 15 g5 rfl (sp 26 rfl (evn (kJ1 h _ (okr rfl))))
def c190_oooo (x : Y189) : List V := [.str x.1, nI x.2.1.1, oL 28 c28_o x.2.1.2, nI x.2.2.1, oL 28 c28_o x.2.2.2]
theorem zc190_oooo (x : Y189) : (c190_oooo x).length = 5 := rfl
theorem ec190_oooo (x : Y189) : erL (c190_oooo x) = c190_dddd x := (erc rfl (erc rfl (erc (erO ec28_o _) (erc rfl (erc (erO ec28_o _) rfl)))))
def spec_NormalizeDelta (a0 : List Y108) (a1 : Y189) : Option (Y189 × Bool) := obind (spec_l26Fits a0 a1) fun v2 => cond (!v2) (some (([], (0, []), (0, [])), false)) (obind (spec_LookupRelation a0 a1.1) fun v5 => obind (spec_Difference a1.2.1 v5.1) fun v7 => obind (spec_Difference a1.2.2 a1.2.1) fun v9 => obind (spec_Difference v9.1 v5.1) fun v11 => obind (spec_Difference v9.1 v11.1) fun v13 => some ((a1.1, v7.1, v13.1), true))
theorem spec_NormalizeDelta_s {a0 : List Y108} {a1 : Y189} {r : Y189 × Bool} (h : spec_NormalizeDelta a0 a1 = some r) : SoundAt Tryz.prog 223 [.agg [dL c109_dd a0], .agg (c190_dddd a1)] (.tup [.agg (c190_oooo r.1), .bool r.2]) := by
 unfold spec_NormalizeDelta at h
 refine st lit223 rfl (rn 1 rfl (ls_seq_k fun K1 hK1 => rs (sp 2 rfl (?_))))
 obtain ⟨v2, g3, h⟩ := ob_some h
 refine qC (qa rfl (erg (erc (erD ec109_dd _) rfl)) (qa rfl (erg (erc rfl (erc rfl (erc (erD ec28_d _) (erc rfl (erc (erD ec28_d _) rfl)))))) eran)) (spec_l26Fits_s g3) (sp 1 rfl (evn ?_))
 rcases cond_some h with ⟨g4, h⟩ | ⟨g4, h⟩
 ·exact qT rfl g4 (rn 1 rfl (ls_ret ((by cases h; exact ⟨.inl rfl, rfl⟩))))
 ·refine qF rfl g4 (ls_skip (hK1 _ (rs (sp 3 rfl (?_)))))
  obtain ⟨v5, g6, h⟩ := ob_some h
  refine qC (qa rfl (erg (erc (erD ec109_dd _) rfl)) (qs rfl eran)) (spec_LookupRelation_s g6) (sp 6 rfl (evn (rs (sp 3 rfl (?_)))))
  obtain ⟨v7, g8, h⟩ := ob_some h
  refine qC (qa rfl (erg (erc rfl (erc (erD ec28_d _) rfl))) (qa rfl (erg (erc rfl (erc (erD ec28_o _) rfl))) eran)) (spec_Difference_s g8) (sp 6 rfl (evn (qk [3, 4, 6, 8] rfl (rs (sp 4 rfl (?_))))))
  obtain ⟨v9, g10, h⟩ := ob_some h
  refine qC (qa rfl (erg (erc rfl (erc (erD ec28_d _) rfl))) (qa rfl (erg (erc rfl (erc (erD ec28_d _) rfl))) eran)) (spec_Difference_s g10) (sp 6 rfl (evn (rs (sp 2 rfl (?_)))))
  obtain ⟨v11, g12, h⟩ := ob_some h
  refine qC (qa rfl (erg (erc rfl (erc (erD ec28_o _) rfl))) (qa rfl (erg (erc rfl (erc (erD ec28_o _) rfl))) eran)) (spec_Difference_s g12) (sp 6 rfl (evn (rs (sp 2 rfl (?_)))))
  obtain ⟨v13, g14, h⟩ := ob_some h
  exact qC (qa rfl (erg (erc rfl (erc (erD ec28_o _) rfl))) (qa rfl (erg (erc rfl (erc (erD ec28_o _) rfl))) eran)) (spec_Difference_s g14) (sp 6 rfl (evn (rn 1 rfl (ls_ret ((by cases h; exact ⟨.inl rfl, rfl⟩))))))
def spec_Union (a0 : Y37) (a1 : Y37) : Option (Y37 × Bool) := obind (spec_IsValidRelation a0) fun v2 => cond (!v2) (some ((0, []), false)) (obind (spec_IsValidRelation a1) fun v5 => cond (!v5) (some ((0, []), false)) (cond (a0.1 != a1.1) (some ((0, []), false)) (chk (List.length ([] : List (List Int)) + List.length a0.2 ≤ lim) (chk (List.length (([] : List (List Int)) ++ a0.2) + List.length a1.2 ≤ lim) (obind (spec_NewRelation a0.1 ((([] : List (List Int)) ++ a0.2) ++ a1.2)) fun v11 => some (v11.1, v11.2))))))
theorem spec_Union_s {a0 : Y37} {a1 : Y37} {r : Y37 × Bool} (h : spec_Union a0 a1 = some r) : SoundAt Tryz.prog 225 [.agg (c38_dd a0), .agg (c38_dd a1)] (.tup [.agg (c38_oo r.1), .bool r.2]) := by
 unfold spec_Union at h
 refine st lit225 rfl (rn 1 rfl (ls_seq_k fun K1 hK1 => rs (sp 1 rfl (?_))))
 obtain ⟨v2, g3, h⟩ := ob_some h
 refine qC (qa rfl (erg (erc rfl (erc (erD ec28_d _) rfl))) eran) (spec_IsValidRelation_s g3) (sp 2 rfl (?_))
 rcases cond_some h with ⟨g4, h⟩ | ⟨g4, h⟩
 ·exact qg 11 g4 rfl (sp 11 rfl (evn (qT rfl rfl (rn 1 rfl (ls_ret ((by cases h; exact ⟨.inl rfl, rfl⟩)))))))
 ·refine qg 11 g4 rfl (sp 1 rfl (?_))
  obtain ⟨v5, g6, h⟩ := ob_some h
  refine oGR rfl rfl (qC (qa rfl (erg (erc rfl (erc (erD ec28_d _) rfl))) eran) (spec_IsValidRelation_s g6) (sp 3 rfl (?_)))
  rcases cond_some h with ⟨g7, h⟩ | ⟨g7, h⟩
  ·exact qg 16 g7 rfl (sp 6 rfl (evn (qk [2, 3, 4, 22] rfl (qT rfl rfl (rn 1 rfl (ls_ret ((by cases h; exact ⟨.inl rfl, rfl⟩))))))))
  ·refine qg 16 g7 rfl (sp 6 rfl (evn ?_))
   rcases cond_some h with ⟨g8, h⟩ | ⟨g8, h⟩
   ·exact qT rfl g8 (rn 1 rfl (ls_ret ((by cases h; exact ⟨.inl rfl, rfl⟩))))
   ·refine qF rfl g8 (ls_skip (hK1 _ (rd (by kernel_rfl) (sd 2 rfl (ed rfl (qBs c28_o [] rfl rfl rfl zc28_o (sd 2 rfl (?_))))))))
    obtain ⟨g9, h⟩ := chk_some h
    refine ed rfl (qA c28_d ([] : List (List Int)) a0.2 rfl rfl (flat_len zc28_d a0.2) (map_dg (fun _ => rfl) _) g9 (sd 2 rfl (?_)))
    obtain ⟨g10, h⟩ := chk_some h
    refine ed rfl (qA c28_d (([] : List (List Int)) ++ a0.2) a1.2 rfl rfl (flat_len zc28_d a1.2) (map_dg (fun _ => rfl) _) g10 (?_))
    obtain ⟨v11, g12, h⟩ := ob_some h
    exact ed rfl (qC (qs rfl (qa rfl (erO ec28_d _) eran)) (spec_NewRelation_s g12) (sd 6 rfl (evdn (rn 1 rfl (qk [4, 5] rfl (ls_ret ((by cases h; exact ⟨.inl rfl, rfl⟩))))))))
def spec_SetRelation_J4 (rec : ((List Y108) × Bool × Int) → Option ((List Y108) × Bool)) (y3 : Int) (x13 : Bool) (x14 : List Y108) : Option ((List Y108) × Bool) := rec (x14, x13, (IntKind.i64.wrap (y3 + 1)))
def spec_SetRelation_J3 (rec : ((List Y108) × Bool × Int) → Option ((List Y108) × Bool)) (a1 : List UInt8) (y3 : Int) (e7 : Y108) (x12 : List Y108) (x13 : Bool) : Option ((List Y108) × Bool) := cond (!(e7.1 == a1)) (chk (List.length x12 + List.length [e7] ≤ lim) (spec_SetRelation_J4 rec y3 x13 (x12 ++ [e7]))) (spec_SetRelation_J4 rec y3 x13 x12)
def spec_SetRelation_J2 (rec : ((List Y108) × Bool × Int) → Option ((List Y108) × Bool)) (a1 : List UInt8) (a2 : Y37) (y1 : List Y108) (y2 : Bool) (y3 : Int) (e7 : Y108) (x11 : Bool) : Option ((List Y108) × Bool) := cond x11 (chk (List.length y1 + List.length [(a1, a2)] ≤ lim) (spec_SetRelation_J3 rec a1 y3 e7 (y1 ++ [(a1, a2)]) true)) (spec_SetRelation_J3 rec a1 y3 e7 y1 y2)
def spec_SetRelation_B1 (a0 : List Y108) (a1 : List UInt8) (a2 : Y37) (rec : ((List Y108) × Bool × Int) → Option ((List Y108) × Bool)) (s : (List Y108) × Bool × Int) : Option ((List Y108) × Bool) := match s with
  | (y1, y2, y3) => cond (decide (y3 < (List.length a0 : Int))) (obind (geti a0 y3) fun e7 => cond (!y2) (spec_SetRelation_J2 rec a1 a2 y1 y2 y3 e7 (!Op.bytesLess e7.1 a1)) (spec_SetRelation_J2 rec a1 a2 y1 y2 y3 e7 false)) (some (y1, y2))
def spec_SetRelation_J6 (a0 : List Y108) (x21 : List Y108) (x24 : Bool) : Option ((List Y108) × Bool) := cond x24 (obind (spec_l6Copy a0) fun v26 => some (v26, false)) (obind (spec_l6Copy x21) fun v28 => some (v28, true))
def spec_SetRelation_J5 (a0 : List Y108) (x21 : List Y108) : Option ((List Y108) × Bool) := obind (spec_IsValidDatabase a0) fun v30 => cond (!v30) (spec_SetRelation_J6 a0 x21 true) (obind (spec_IsValidDatabase x21) fun v33 => spec_SetRelation_J6 a0 x21 (!v33))
def spec_SetRelation (a0 : List Y108) (a1 : List UInt8) (a2 : Y37) : Option ((List Y108) × Bool) := obind (loopF (spec_SetRelation_B1 a0 a1 a2) fz (([] : List Y108), false, 0)) fun o1 => (match o1 with
  | (z2, z3) => (cond (!z3) (chk (List.length z2 + List.length [(a1, a2)] ≤ lim) (spec_SetRelation_J5 a0 (z2 ++ [(a1, a2)]))) (spec_SetRelation_J5 a0 z2)))
theorem spec_SetRelation_s {a0 : List Y108} {a1 : List UInt8} {a2 : Y37} {r : (List Y108) × Bool} (h : spec_SetRelation a0 a1 a2 = some r) : SoundAt Tryz.prog 226 [.agg [dL c109_dd a0], .str a1, .agg (c38_dd a2)] (.tup [.agg [oL 109 c109_oo r.1], .bool r.2]) := by
 unfold spec_SetRelation at h
 refine st lit226 rfl (rn 3 rfl (ls_seq_k fun K1 hK1 => rn 1 rfl ?_))
 obtain ⟨o1, hl, hr1⟩ := ob_some h
 have kXB1 : ∀ {z2 : List Y108} {z3 : Bool}, (z2, z3) = o1 → Jn K1 [(1, .str a1), (3, .box [dL c109_dd a0]), (5, .box [nI a2.1, dL c28_d a2.2]), (6, .box [oL 109 c109_oo []]), (8, .box [oL 109 c109_dd z2]), (9, .bool z3)] := by
  intro z2 z3 h σ' hk
  subst h
  replace h := hr1
  try dsimp only at h
  refine hK1 _ (lh hk rfl (ls_seq_k fun K20 hK20 => rn 1 rfl ?_))
  have kJ5 : ∀ {x21 : List Y108}, spec_SetRelation_J5 a0 x21 = some r → Jn K20 [(3, .box [dL c109_dd a0]), (6, .box [oL 109 c109_oo []]), (8, .box [oL 109 c109_dd x21])] := by
   intro x21 h σ' hk
   unfold spec_SetRelation_J5 at h
   refine hK20 _ (lh hk rfl (ls_seq_k fun K22 hK22 => rk fun K23 hK23 => ?_))
   have kJ6 : ∀ {x24 : Bool}, spec_SetRelation_J6 a0 x21 x24 = some r → Jn K23 [(3, .box [dL c109_dd a0]), (6, .box [oL 109 c109_oo []]), (8, .box [oL 109 c109_dd x21]), (68, .bool x24)] := by
    intro x24 h σ' hk
    unfold spec_SetRelation_J6 at h
    refine hK23 _ (lh hk rfl ?_)
    rcases cond_some h with ⟨g25, h⟩ | ⟨g25, h⟩
    ·refine qT rfl g25 (rs (sp 1 rfl (?_)))
     obtain ⟨v26, g27, h⟩ := ob_some h
     exact qC (qa rfl (erg (erc (erD ec109_dd _) rfl)) eran) (spec_l6Copy_s g27) (sp 2 rfl (evn (ls_ret ((by cases h; exact ⟨.inl rfl, rfl⟩)))))
    ·refine qF rfl g25 (ls_skip (hK22 _ (rs (sp 1 rfl (?_)))))
     obtain ⟨v28, g29, h⟩ := ob_some h
     exact qC (qa rfl (erg (erc (erD ec109_dd _) rfl)) eran) (spec_l6Copy_s g29) (sp 2 rfl (evn (ls_ret ((by cases h; exact ⟨.inl rfl, rfl⟩)))))
   refine sp 1 rfl (?_)
   obtain ⟨v30, g31, h⟩ := ob_some h
   refine qC (qa rfl (erg (erc (erD ec109_dd _) rfl)) eran) (spec_IsValidDatabase_s g31) (sp 2 rfl (?_))
   rcases cond_some h with ⟨g32, h⟩ | ⟨g32, h⟩
   ·exact qg 64 g32 rfl (sp 4 rfl (evn (kJ6 h _ (okr rfl))))
   ·refine qg 64 g32 rfl (sp 1 rfl (?_))
    obtain ⟨v33, g34, h⟩ := ob_some h
    exact oGR rfl rfl (qC (qa rfl (erg (erc (erD ec109_dd _) rfl)) eran) (spec_IsValidDatabase_s g34) (sp 2 rfl (evn (kJ6 h _ (okr rfl)))))
  rcases cond_some h with ⟨g35, h⟩ | ⟨g35, h⟩
  ·refine qT rfl g35 (rg (sp 5 rfl (qBs c109_dd [(a1, a2)] rfl rfl rfl zc109_dd (?_))))
   obtain ⟨g36, h⟩ := chk_some h
   exact qA c109_dd z2 [(a1, a2)] rfl rfl (flat_len zc109_dd [(a1, a2)]) rfl g36 (sp 2 rfl (evn (kJ5 h _ (okr rfl))))
  ·exact qF rfl g35 (ls_skip (kJ5 h _ (okr rfl)))
 refine ls_rec (fun (s : (List Y108) × Bool × Int) => match s with | (y1, y2, y3) => [(1, .str a1), (3, .box [dL c109_dd a0]), (5, .box [nI a2.1, dL c28_d a2.2]), (6, .box [oL 109 c109_oo []]), (8, .box [oL 109 c109_dd y1]), (9, .bool y2), (10, nI y3)]) _ _ _ _ hl (okr rfl) (fun _ => rfl) ?_
 rintro m ⟨y1, y2, y3⟩ N h hN
 unfold spec_SetRelation_B1 at h
 dsimp only at h
 refine ls_seq_k fun K4 hK4 => rn 1 rfl ?_
 rcases cond_some h with ⟨g5, h⟩ | ⟨g5, h⟩
 ·refine qT rfl g5 (ls_skip (hK4 _ (ls_seq_k fun K6 hK6 => ls_blk (rs (sp 3 rfl (?_))))))
  obtain ⟨e7, g8, h⟩ := ob_some h
  refine qI rfl zc109_dd g8 (sp 3 rfl (evn (ls_seq_k fun K9 hK9 => rk fun K10 hK10 => ?_)))
  have kJ2 : ∀ {x11 : Bool}, spec_SetRelation_J2 (loopF (spec_SetRelation_B1 a0 a1 a2) m) a1 a2 y1 y2 y3 e7 x11 = some o1 → Jn K10 [(1, .str a1), (3, .box [dL c109_dd a0]), (5, .box [nI a2.1, dL c28_d a2.2]), (6, .box [oL 109 c109_oo []]), (8, .box [oL 109 c109_dd y1]), (9, .bool y2), (10, nI y3), (11, .box [.str e7.1, nI e7.2.1, dL c28_d e7.2.2]), (32, .bool x11)] := by
   intro x11 h σ' hk
   unfold spec_SetRelation_J2 at h
   refine hK10 _ (lh hk rfl ?_)
   have kJ3 : ∀ {x12 : List Y108} {x13 : Bool}, spec_SetRelation_J3 (loopF (spec_SetRelation_B1 a0 a1 a2) m) a1 y3 e7 x12 x13 = some o1 → Jn K9 [(1, .str a1), (3, .box [dL c109_dd a0]), (5, .box [nI a2.1, dL c28_d a2.2]), (6, .box [oL 109 c109_oo []]), (8, .box [oL 109 c109_dd x12]), (9, .bool x13), (10, nI y3), (11, .box [.str e7.1, nI e7.2.1, dL c28_d e7.2.2])] := by
    intro x12 x13 h σ' hk
    unfold spec_SetRelation_J3 at h
    refine hK9 _ (lh hk rfl (rn 1 rfl ?_))
    have kJ4 : ∀ {x14 : List Y108}, spec_SetRelation_J4 (loopF (spec_SetRelation_B1 a0 a1 a2) m) y3 x13 x14 = some o1 → Jn K6 [(1, .str a1), (3, .box [dL c109_dd a0]), (5, .box [nI a2.1, dL c28_d a2.2]), (6, .box [oL 109 c109_oo []]), (8, .box [oL 109 c109_dd x14]), (9, .bool x13), (10, nI y3)] := by
     intro x14 h σ' hk
     unfold spec_SetRelation_J4 at h
     exact hK6 _ (lh hk rfl (rg (sp 3 rfl (evn (hN _ _ h (okr rfl))))))
    rcases cond_some h with ⟨g15, h⟩ | ⟨g15, h⟩
    ·refine qT rfl g15 (rg (sp 3 rfl (qBs c109_dd [e7] rfl rfl rfl zc109_dd (?_))))
     obtain ⟨g16, h⟩ := chk_some h
     exact qA c109_dd x12 [e7] rfl rfl (flat_len zc109_dd [e7]) rfl g16 (sp 2 rfl (evn (kJ4 h _ (okr rfl))))
    ·exact qF rfl g15 (ls_skip (kJ4 h _ (okr rfl)))
   rcases cond_some h with ⟨g17, h⟩ | ⟨g17, h⟩
   ·refine qT rfl g17 (rs (sp 5 rfl (qBs c109_dd [(a1, a2)] rfl rfl rfl zc109_dd (?_))))
    obtain ⟨g18, h⟩ := chk_some h
    exact qA c109_dd y1 [(a1, a2)] rfl rfl (flat_len zc109_dd [(a1, a2)]) rfl g18 (sp 2 rfl (evn (rg (sp 1 rfl (evn (kJ3 h _ (okr rfl)))))))
   ·exact qF rfl g17 (ls_skip (kJ3 h _ (okr rfl)))
  refine sp 3 rfl (?_)
  rcases cond_some h with ⟨g19, h⟩ | ⟨g19, h⟩
  ·exact qg 27 g19 rfl (sp 5 rfl (evn (kJ2 h _ (okr rfl))))
  ·exact qg 27 g19 rfl (sp 5 rfl (evn (kJ2 h _ (okr rfl))))
 ·exact qF rfl g5 (ls_exit (kXB1 (Option.some.inj h) _ (okr rfl)))
def spec_ApplyDelta (a0 : List Y108) (a1 : Y189) : Option ((List Y108) × Bool) := obind (spec_NormalizeDelta a0 a1) fun v1 => cond (!v1.2) (obind (spec_l6Copy a0) fun v5 => some (v5, false)) (obind (spec_LookupRelation a0 a1.1) fun v7 => obind (spec_Difference v7.1 v1.1.2.2) fun v9 => obind (spec_Union v9.1 v1.1.2.1) fun v11 => cond (!v11.2) (obind (spec_l6Copy a0) fun v15 => some (v15, false)) (obind (spec_SetRelation a0 a1.1 v11.1) fun v17 => some (v17.1, v17.2)))
theorem spec_ApplyDelta_s {a0 : List Y108} {a1 : Y189} {r : (List Y108) × Bool} (h : spec_ApplyDelta a0 a1 = some r) : SoundAt Tryz.prog 176 [.agg [dL c109_dd a0], .agg (c190_dddd a1)] (.tup [.agg [oL 109 c109_oo r.1], .bool r.2]) := by
 unfold spec_ApplyDelta at h
 refine st lit176 rfl (rn 1 rfl (rs (sp 2 rfl (?_))))
 obtain ⟨v1, g2, h⟩ := ob_some h
 refine qC (qa rfl (erg (erc (erD ec109_dd _) rfl)) (qa rfl (erg (erc rfl (erc rfl (erc (erD ec28_d _) (erc rfl (erc (erD ec28_d _) rfl)))))) eran)) (spec_NormalizeDelta_s g2) (sp 6 rfl (evn (ls_seq_k fun K3 hK3 => rn 1 rfl ?_)))
 rcases cond_some h with ⟨g4, h⟩ | ⟨g4, h⟩
 ·refine qT rfl g4 (rs (sp 1 rfl (?_)))
  obtain ⟨v5, g6, h⟩ := ob_some h
  exact qC (qa rfl (erg (erc (erD ec109_dd _) rfl)) eran) (spec_l6Copy_s g6) (sp 2 rfl (evn (ls_ret ((by cases h; exact ⟨.inl rfl, rfl⟩)))))
 ·refine qF rfl g4 (ls_skip (hK3 _ (rs (sp 3 rfl (?_)))))
  obtain ⟨v7, g8, h⟩ := ob_some h
  refine qC (qa rfl (erg (erc (erD ec109_dd _) rfl)) (qs rfl eran)) (spec_LookupRelation_s g8) (sp 6 rfl (evn (qk [2, 3, 4, 6, 8] rfl (rs (sp 3 rfl (?_))))))
  obtain ⟨v9, g10, h⟩ := ob_some h
  refine qC (qa rfl (erg (erc rfl (erc (erD ec28_o _) rfl))) (qa rfl (erg (erc rfl (erc (erD ec28_o _) rfl))) eran)) (spec_Difference_s g10) (sp 6 rfl (evn (rs (sp 3 rfl (?_)))))
  obtain ⟨v11, g12, h⟩ := ob_some h
  refine qC (qa rfl (erg (erc rfl (erc (erD ec28_o _) rfl))) (qa rfl (erg (erc rfl (erc (erD ec28_o _) rfl))) eran)) (spec_Union_s g12) (sp 6 rfl (evn (ls_seq_k fun K13 hK13 => rn 1 rfl ?_)))
  rcases cond_some h with ⟨g14, h⟩ | ⟨g14, h⟩
  ·refine qT rfl g14 (rs (sp 1 rfl (?_)))
   obtain ⟨v15, g16, h⟩ := ob_some h
   exact qC (qa rfl (erg (erc (erD ec109_dd _) rfl)) eran) (spec_l6Copy_s g16) (sp 2 rfl (evn (ls_ret ((by cases h; exact ⟨.inl rfl, rfl⟩)))))
  ·refine qF rfl g14 (ls_skip (hK13 _ (rs (sp 4 rfl (?_)))))
   obtain ⟨v17, g18, h⟩ := ob_some h
   exact qC (qa rfl (erg (erc (erD ec109_dd _) rfl)) (qs rfl (qa rfl (erg (erc rfl (erc (erD ec28_o _) rfl))) eran))) (spec_SetRelation_s g18) (sp 6 rfl (evn (qk [4, 14, 15] rfl (rn 1 rfl (ls_ret ((by cases h; exact ⟨.inl rfl, rfl⟩)))))))
def spec_AppendSnapshot (a0 : Y59) (a1 : Y189) : Option (Y59 × Bool) := obind (spec_l33Copy a0) fun v1 => obind (spec_IsValidHistory a0) fun v4 => cond (!v4) (some (v1, false)) (cond ((List.length a0.2 : Int) == 6) (some (v1, false)) (cond (decide (99 < (IntKind.i64.wrap (a0.1 + (List.length a0.2 : Int))))) (some (v1, false)) (obind (geti a0.2 (IntKind.i64.wrap ((List.length a0.2 : Int) - 1))) fun e9 => obind (spec_ApplyDelta e9 a1) fun v11 => cond (!v11.2) (some (v1, false)) (chk (List.length v1.2 + List.length [v11.1] ≤ lim) (some ((v1.1, v1.2 ++ [v11.1]), true))))))
theorem spec_AppendSnapshot_s {a0 : Y59} {a1 : Y189} {r : Y59 × Bool} (h : spec_AppendSnapshot a0 a1 = some r) : SoundAt Tryz.prog 153 [.agg (c60_dddd a0), .agg (c190_dddd a1)] (.tup [.agg (c60_oooo r.1), .bool r.2]) := by
 unfold spec_AppendSnapshot at h
 refine st lit153 rfl (rn 1 rfl (rs (sp 1 rfl (?_))))
 obtain ⟨v1, g2, h⟩ := ob_some h
 refine qC (qa rfl (erg (erc rfl (erc (erD ec26_ddd _) rfl))) eran) (spec_l33Copy_s g2) (sp 2 rfl (evn (ls_seq_k fun K3 hK3 => rs (sp 1 rfl (?_)))))
 obtain ⟨v4, g5, h⟩ := ob_some h
 refine qC (qa rfl (erg (erc rfl (erc (erD ec26_ddd _) rfl))) eran) (spec_IsValidHistory_s g5) (sp 2 rfl (?_))
 rcases cond_some h with ⟨g6, h⟩ | ⟨g6, h⟩
 ·exact qg 14 g6 rfl (sp 14 rfl (evn (qT rfl rfl (rn 1 rfl (ls_ret ((by cases h; exact ⟨.inl rfl, rfl⟩)))))))
 ·refine qg 14 g6 rfl (sp 6 rfl (?_))
  rcases cond_some h with ⟨g7, h⟩ | ⟨g7, h⟩
  ·exact qg 20 g7 rfl (sp 8 rfl (evn (qk [2, 3, 4, 6, 28] rfl (qT rfl rfl (rn 1 rfl (ls_ret ((by cases h; exact ⟨.inl rfl, rfl⟩))))))))
  ·refine qg 20 g7 rfl (sp 8 rfl (evn ?_))
   rcases cond_some h with ⟨g8, h⟩ | ⟨g8, h⟩
   ·exact qT rfl g8 (rn 1 rfl (ls_ret ((by cases h; exact ⟨.inl rfl, rfl⟩))))
   ·refine qF rfl g8 (ls_skip (hK3 _ (rd (by kernel_rfl) (sd 6 rfl (?_)))))
    obtain ⟨e9, g10, h⟩ := ob_some h
    refine ed rfl (qI rfl zc26_ddd g10 (sd 2 rfl (?_)))
    obtain ⟨v11, g12, h⟩ := ob_some h
    refine ed rfl (qC (qa rfl (erg (erc (erD ec109_dd _) rfl)) (qa rfl (erg (erc rfl (erc rfl (erc (erD ec28_d _) (erc rfl (erc (erD ec28_d _) rfl)))))) eran)) (spec_ApplyDelta_s g12) (sd 6 rfl (evdn (qk [4, 6, 7, 8] rfl (ls_seq_k fun K13 hK13 => rn 1 rfl ?_)))))
    rcases cond_some h with ⟨g14, h⟩ | ⟨g14, h⟩
    ·exact qT rfl g14 (rn 1 rfl (ls_ret ((by cases h; exact ⟨.inl rfl, rfl⟩))))
    ·refine qF rfl g14 (ls_skip (hK13 _ (rs (sp 3 rfl (qBs c26_ooo [v11.1] rfl rfl rfl zc26_ooo (?_))))))
     obtain ⟨g15, h⟩ := chk_some h
     exact qA c26_ooo v1.2 [v11.1] rfl rfl (flat_len zc26_ooo [v11.1]) rfl g15 (sp 2 rfl (evn (rn 1 rfl (ls_ret ((by cases h; exact ⟨.inl rfl, rfl⟩))))))
def spec_InsertRow (a0 : Y37) (a1 : List Int) : Option (Y37 × Bool) := obind (spec_l5Copy a0) fun v1 => obind (spec_IsValidRelation a0) fun v4 => cond (!v4) (some (v1, false)) (cond ((List.length a1 : Int) != a0.1) (some (v1, false)) (obind (spec_AreValidValues a1) fun v8 => cond (!v8) (some (v1, false)) (obind (spec_l5Place a0 a1) fun v11 => cond v11.2 (some (v1, false)) (cond ((List.length a0.2 : Int) == 4000) (some (v1, false)) (chk (List.length ([] : List Int) + List.length a1 ≤ lim) (chk ((0 : Int) ≤ v11.1 ∧ v11.1 ≤ (List.length v1.2 : Int) ∧ (List.length v1.2 : Int) ≤ (List.length v1.2 : Int)) (chk (List.length ([([] : List Int) ++ a1]) + List.length (subl v1.2 v11.1 (List.length v1.2 : Int)) ≤ lim) (chk ((0 : Int) ≤ 0 ∧ 0 ≤ v11.1 ∧ v11.1 ≤ (List.length v1.2 : Int)) (chk (List.length ([] : List (List Int)) + List.length (subl v1.2 0 v11.1) ≤ lim) (chk (List.length (([] : List (List Int)) ++ (subl v1.2 0 v11.1)) + List.length (([([] : List Int) ++ a1]) ++ (subl v1.2 v11.1 (List.length v1.2 : Int))) ≤ lim) (some ((v1.1, (([] : List (List Int)) ++ (subl v1.2 0 v11.1)) ++ (([([] : List Int) ++ a1]) ++ (subl v1.2 v11.1 (List.length v1.2 : Int)))), true))))))))))))
theorem spec_InsertRow_s {a0 : Y37} {a1 : List Int} {r : Y37 × Bool} (h : spec_InsertRow a0 a1 = some r) : SoundAt Tryz.prog 213 [.agg (c38_dd a0), dL ci64 a1] (.tup [.agg (c38_dd r.1), .bool r.2]) := by
 unfold spec_InsertRow at h
 refine st lit213 rfl (rn 1 rfl (rs (sp 1 rfl (?_))))
 obtain ⟨v1, g2, h⟩ := ob_some h
 refine qC (qa rfl (erg (erc rfl (erc (erD ec28_d _) rfl))) eran) (spec_l5Copy_s g2) (sp 2 rfl (evn (ls_seq_k fun K3 hK3 => rs (sp 1 rfl (?_)))))
 obtain ⟨v4, g5, h⟩ := ob_some h
 refine qC (qa rfl (erg (erc rfl (erc (erD ec28_d _) rfl))) eran) (spec_IsValidRelation_s g5) (sp 2 rfl (?_))
 rcases cond_some h with ⟨g6, h⟩ | ⟨g6, h⟩
 ·exact qg 15 g6 rfl (sp 11 rfl (evn (qT rfl rfl (rn 1 rfl (ls_keep [(4, .box [nI v1.1, dL c28_d v1.2]), (5, .bool false)] ⟨(kb (cwr (cwe rfl (erO ec28_o _) cwn))), kr, trivial⟩ rfl (ls_ret ((by cases h; exact ⟨.inl rfl, rfl⟩))))))))
 ·refine qg 15 g6 rfl (sp 7 rfl (?_))
  rcases cond_some h with ⟨g7, h⟩ | ⟨g7, h⟩
  ·exact qg 22 g7 rfl (sp 4 rfl (evn (qT rfl rfl (rn 1 rfl (ls_keep [(4, .box [nI v1.1, dL c28_d v1.2]), (5, .bool false)] ⟨(kb (cwr (cwe rfl (erO ec28_o _) cwn))), kr, trivial⟩ rfl (ls_ret ((by cases h; exact ⟨.inl rfl, rfl⟩))))))))
  ·refine qg 22 g7 rfl (sp 1 rfl (?_))
   obtain ⟨v8, g9, h⟩ := ob_some h
   refine oGR rfl rfl (qC (qa rfl (erD eci64 _) eran) (spec_AreValidValues_s g9) (sp 2 rfl (evn ?_)))
   rcases cond_some h with ⟨g10, h⟩ | ⟨g10, h⟩
   ·exact qT rfl g10 (rn 1 rfl (ls_keep [(4, .box [nI v1.1, dL c28_d v1.2]), (5, .bool false)] ⟨(kb (cwr (cwe rfl (erO ec28_o _) cwn))), kr, trivial⟩ rfl (ls_ret ((by cases h; exact ⟨.inl rfl, rfl⟩)))))
   ·refine qF rfl g10 (ls_skip (hK3 _ (rs (sp 2 rfl (?_)))))
    obtain ⟨v11, g12, h⟩ := ob_some h
    refine qC (qa rfl (erg (erc rfl (erc (erD ec28_d _) rfl))) (qa rfl (erD eci64 _) eran)) (spec_l5Place_s g12) (sp 5 rfl (evn (ls_seq_k fun K13 hK13 => rs (sp 2 rfl (?_)))))
    rcases cond_some h with ⟨g14, h⟩ | ⟨g14, h⟩
    ·exact qg 35 g14 rfl (sp 5 rfl (evn (qT rfl rfl (rn 1 rfl (ls_keep [(4, .box [nI v1.1, dL c28_d v1.2]), (5, .bool false)] ⟨(kb (cwr (cwe rfl (erO ec28_o _) cwn))), kr, trivial⟩ rfl (ls_ret ((by cases h; exact ⟨.inl rfl, rfl⟩))))))))
    ·refine qg 35 g14 rfl (sp 5 rfl (evn ?_))
     rcases cond_some h with ⟨g15, h⟩ | ⟨g15, h⟩
     ·exact qT rfl g15 (rn 1 rfl (ls_keep [(4, .box [nI v1.1, dL c28_d v1.2]), (5, .bool false)] ⟨(kb (cwr (cwe rfl (erO ec28_o _) cwn))), kr, trivial⟩ rfl (ls_ret ((by cases h; exact ⟨.inl rfl, rfl⟩)))))
     ·refine qF rfl g15 (ls_skip (hK13 _ (rd (by kernel_rfl) (ed rfl (qBs ci64 [] rfl rfl rfl zci64 (sd 1 rfl (?_)))))))
      obtain ⟨g16, h⟩ := chk_some h
      refine ed rfl (qA ci64 ([] : List Int) a1 rfl rfl (flat_len zci64 a1) (map_dg (fun _ => rfl) _) g16 (ed rfl (qBs c28_o [([] : List Int) ++ a1] rfl rfl rfl zc28_o (sd 3 rfl (?_)))))
      obtain ⟨g17, h⟩ := chk_some h
      refine ed rfl (qSl rfl zc28_o g17 (?_))
      obtain ⟨g18, h⟩ := chk_some h
      refine ed rfl (qAd c28_o c28_d c28_d ([([] : List Int) ++ a1]) (subl v1.2 v11.1 (List.length v1.2 : Int)) rfl rfl (flat_len zc28_o (subl v1.2 v11.1 (List.length v1.2 : Int))) (map_dg (fun _ => rfl) _) g18 (fun _ => rfl) (fun _ => rfl) (fun _ => rfl) (fun _ => rfl) (sd 1 rfl (evdn (rs (qBs c28_o [] rfl rfl rfl zc28_o (sp 3 rfl (?_)))))))
      obtain ⟨g19, h⟩ := chk_some h
      refine qSl rfl zc28_o g19 (?_)
      obtain ⟨g20, h⟩ := chk_some h
      refine qA c28_d ([] : List (List Int)) (subl v1.2 0 v11.1) rfl rfl (flat_len zc28_o (subl v1.2 0 v11.1)) (map_dg (fun _ => rfl) _) g20 (sp 1 rfl (?_))
      obtain ⟨g21, h⟩ := chk_some h
      exact qA c28_d (([] : List (List Int)) ++ (subl v1.2 0 v11.1)) (([([] : List Int) ++ a1]) ++ (subl v1.2 v11.1 (List.length v1.2 : Int))) rfl rfl (flat_len zc28_d (([([] : List Int) ++ a1]) ++ (subl v1.2 v11.1 (List.length v1.2 : Int)))) rfl g21 (sp 2 rfl (evn (rn 1 rfl (ls_keep [(4, .box [nI v1.1, dL c28_d ((([] : List (List Int)) ++ (subl v1.2 0 v11.1)) ++ (([([] : List Int) ++ a1]) ++ (subl v1.2 v11.1 (List.length v1.2 : Int))))]), (5, .bool true)] ⟨(kb (cwr (cwe rfl (erO ec28_d _) cwn))), kr, trivial⟩ rfl (ls_ret ((by cases h; exact ⟨.inl rfl, rfl⟩)))))))
def c190_oodd (x : Y189) : List V := [.str x.1, nI x.2.1.1, oL 28 c28_o x.2.1.2, nI x.2.2.1, dL c28_d x.2.2.2]
theorem zc190_oodd (x : Y189) : (c190_oodd x).length = 5 := rfl
theorem ec190_oodd (x : Y189) : erL (c190_oodd x) = c190_dddd x := (erc rfl (erc rfl (erc (erO ec28_o _) (erc rfl (erc (erD ec28_d _) rfl)))))
def spec_l26Delta_J3 (rec : ((List Int) × Int × Int × Int × (List (List Int)) × Int) → Option ((List Int) × Int × Int × Int × (List (List Int)))) (y6 : Int) (x21 : List Int) (x22 : Int) (x23 : Int) (x25 : Int) (x26 : List (List Int)) : Option ((List Int) × Int × Int × Int × (List (List Int))) := rec (x21, x22, x23, x25, x26, (IntKind.i64.wrap (y6 + 1)))
def spec_l26Delta_J2 (rec : ((List Int) × Int × Int × Int × (List (List Int)) × Int) → Option ((List Int) × Int × Int × Int × (List (List Int)))) (e5 : Y108) (y4 : Int) (y5 : List (List Int)) (y6 : Int) (x21 : List Int) (x22 : Int) (x23 : Int) (x24 : Bool) : Option ((List Int) × Int × Int × Int × (List (List Int))) := cond x24 (obind (geti e5.2.2 y6) fun e28 => obind (spec_InsertRow (y4, y5) e28) fun v30 => spec_l26Delta_J3 rec y6 x21 x22 x23 v30.1.1 v30.1.2) (spec_l26Delta_J3 rec y6 x21 x22 x23 y4 y5)
def spec_l26Delta_B1 (e5 : Y108) (rec : ((List Int) × Int × Int × Int × (List (List Int)) × Int) → Option ((List Int) × Int × Int × Int × (List (List Int)))) (s : (List Int) × Int × Int × Int × (List (List Int)) × Int) : Option ((List Int) × Int × Int × Int × (List (List Int))) := match s with
  | (y1, y2, y3, y4, y5, y6) => cond (decide (y6 < (List.length e5.2.2 : Int))) (obind (spec_l1Once (y1, y2, y3) 3) fun v32 => cond v32.1 (obind (geti e5.2.2 y6) fun e35 => spec_l26Delta_J2 rec e5 y4 y5 y6 v32.2.1 v32.2.2.1 v32.2.2.2 ((List.length e35 : Int) == (if 0 < (if e5.2.1 < 5 then e5.2.1 else 5) then (if e5.2.1 < 5 then e5.2.1 else 5) else 0))) (spec_l26Delta_J2 rec e5 y4 y5 y6 v32.2.1 v32.2.2.1 v32.2.2.2 false)) (some (y1, y2, y3, y4, y5))
def spec_l26Delta_J4 (z15 : Int) (z16 : List (List Int)) (x40 : List Int) (x41 : Int) (x42 : Int) (x43 : List UInt8) (x44 : Int) (x45 : List (List Int)) : Option (Y189 × Y163) := some ((x43, (x44, x45), (z15, z16)), (x40, x41, x42))
def spec_l26Delta (a0 : Y163) (a1 : List Y108) : Option (Y189 × Y163) := cond ((List.length a1 : Int) == 0) (some (([114], (0, []), (0, [])), a0)) (obind (spec_l1Below a0 (List.length a1 : Int)) fun v3 => obind (geti a1 v3.1) fun e5 => obind (spec_l5Rel v3.2 (if 0 < (if e5.2.1 < 5 then e5.2.1 else 5) then (if e5.2.1 < 5 then e5.2.1 else 5) else 0) 3 4) fun v7 => obind (spec_l5Rel v7.2 (if 0 < (if e5.2.1 < 5 then e5.2.1 else 5) then (if e5.2.1 < 5 then e5.2.1 else 5) else 0) 2 4) fun v9 => obind (loopF (spec_l26Delta_B1 e5) fz (v9.2.1, v9.2.2.1, v9.2.2.2, v9.1.1, v9.1.2, 0)) fun o1 => (match o1 with
  | (z12, z13, z14, z15, z16) => (obind (spec_l1Below (z12, z13, z14) 14) fun v38 => cond (v38.1 == 0) (obind (spec_l1Pick v38.2 ([[], [119], [115]])) fun v47 => spec_l26Delta_J4 z15 z16 v47.2.1 v47.2.2.1 v47.2.2.2 v47.1 v7.1.1 v7.1.2) (cond (v38.1 == 1) (obind (spec_l5Any v38.2) fun v50 => spec_l26Delta_J4 z15 z16 v50.2.1 v50.2.2.1 v50.2.2.2 e5.1 v50.1.1 v50.1.2) (spec_l26Delta_J4 z15 z16 v38.2.1 v38.2.2.1 v38.2.2.2 e5.1 v7.1.1 v7.1.2)))))
theorem spec_l26Delta_s {a0 : Y163} {a1 : List Y108} {r : Y189 × Y163} (h : spec_l26Delta a0 a1 = some r) : PtrAt Tryz.prog 154 [aL cu8 a0.1, nI a0.2.1, nI a0.2.2] [.agg [dL c109_dd a1]] [aL cu8 r.2.1, nI r.2.2.1, nI r.2.2.2] (.agg (c190_oodd r.1)) := by
 unfold spec_l26Delta at h
 refine stp lit154 rfl (rn 1 rfl (ls_seq_k fun K1 hK1 => rn 1 rfl ?_))
 rcases cond_some h with ⟨g2, h⟩ | ⟨g2, h⟩
 ·exact qT rfl g2 (rn 1 rfl (ls_keep [(0, .box (c164_a a0)), (4, .box [.str [114], nI 0, oL 28 c28_o [], nI 0, dL c28_d []])] ⟨kr, (kb (cwr (cwr (cwr (cwr (cwe rfl rfl cwn)))))), trivial⟩ rfl (ls_ret ((by cases h; exact ⟨.inl rfl, rfl, rfl⟩)))))
 ·refine qF rfl g2 (ls_skip (hK1 _ (rd (by kernel_rfl) (sd 6 rfl (?_)))))
  obtain ⟨v3, g4, h⟩ := ob_some h
  refine ed rfl (qP rfl rfl rfl rfl (qs rfl eran) (spec_l1Below_s g4) (?_))
  obtain ⟨e5, g6, h⟩ := ob_some h
  refine ed rfl (qI rfl zc109_dd g6 (sd 3 rfl (evdn (rn 1 rfl (rd (by kernel_rfl) (sd 4 rfl (?_)))))))
  obtain ⟨v7, g8, h⟩ := ob_some h
  refine ed rfl (qP rfl rfl rfl rfl (qs rfl (qs rfl (qs rfl eran))) (spec_l5Rel_s g8) (sd 2 rfl (?_)))
  obtain ⟨v9, g10, h⟩ := ob_some h
  refine ed rfl (qP rfl rfl rfl rfl (qs rfl (qs rfl (qs rfl eran))) (spec_l5Rel_s g10) (sd 3 rfl (evdn (ls_seq_k fun K11 hK11 => rn 1 rfl ?_))))
  obtain ⟨o1, hl, hr1⟩ := ob_some h
  have kXB1 : ∀ {z12 : List Int} {z13 : Int} {z14 : Int} {z15 : Int} {z16 : List (List Int)}, (z12, z13, z14, z15, z16) = o1 → Jn K11 [(0, .box [aL cu8 z12, nI z13, nI z14]), (4, .box [.str [], nI 0, oL 28 c28_o [], nI 0, oL 28 c28_o []]), (7, .box [.str e5.1, nI v7.1.1, oL 28 c28_o v7.1.2, nI z15, dL c28_d z16])] := by
   intro z12 z13 z14 z15 z16 h σ' hk
   subst h
   replace h := hr1
   try dsimp only at h
   refine hK11 _ (lh hk rfl (ls_seq_k fun K37 hK37 => rs (sp 1 rfl (?_))))
   obtain ⟨v38, g39, h⟩ := ob_some h
   refine qP rfl rfl rfl rfl (qs rfl eran) (spec_l1Below_s g39) (evn (ls_blk (rn 1 rfl ?_)))
   have kJ4 : ∀ {x40 : List Int} {x41 : Int} {x42 : Int} {x43 : List UInt8} {x44 : Int} {x45 : List (List Int)}, spec_l26Delta_J4 z15 z16 x40 x41 x42 x43 x44 x45 = some r → Jn K37 [(0, .box [aL cu8 x40, nI x41, nI x42]), (4, .box [.str [], nI 0, oL 28 c28_o [], nI 0, oL 28 c28_o []]), (7, .box [.str x43, nI x44, oL 28 c28_o x45, nI z15, dL c28_d z16])] := by
    intro x40 x41 x42 x43 x44 x45 h σ' hk
    unfold spec_l26Delta_J4 at h
    exact hK37 _ (lh hk rfl (rn 1 rfl (ls_ret ((by cases h; exact ⟨.inl rfl, rfl, rfl⟩)))))
   rcases cond_some h with ⟨g46, h⟩ | ⟨g46, h⟩
   ·refine qT rfl g46 (rg (sp 1 rfl (qBs cst [[], [119], [115]] rfl rfl rfl zcst (?_))))
    obtain ⟨v47, g48, h⟩ := ob_some h
    exact qP rfl rfl rfl rfl (qa rfl (erO ecst _) eran) (spec_l1Pick_s g48) (sp 2 rfl (evn (kJ4 h _ (okr rfl))))
   ·refine qF rfl g46 (rn 1 rfl ?_)
    rcases cond_some h with ⟨g49, h⟩ | ⟨g49, h⟩
    ·refine qT rfl g49 (rg (sp 1 rfl (?_)))
     obtain ⟨v50, g51, h⟩ := ob_some h
     exact qP rfl rfl rfl rfl eran (spec_l5Any_s g51) (sp 2 rfl (evn (kJ4 h _ (okr rfl))))
    ·exact qF rfl g49 (ls_skip (kJ4 h _ (okr rfl)))
  refine ls_rec (fun (s : (List Int) × Int × Int × Int × (List (List Int)) × Int) => match s with | (y1, y2, y3, y4, y5, y6) => [(0, .box [aL cu8 y1, nI y2, nI y3]), (4, .box [.str [], nI 0, oL 28 c28_o [], nI 0, oL 28 c28_o []]), (5, .box [.str e5.1, nI e5.2.1, dL c28_d e5.2.2]), (6, nI (if 0 < (if e5.2.1 < 5 then e5.2.1 else 5) then (if e5.2.1 < 5 then e5.2.1 else 5) else 0)), (7, .box [.str e5.1, nI v7.1.1, oL 28 c28_o v7.1.2, nI y4, dL c28_d y5]), (8, nI y6)]) _ _ _ _ hl ⟨kr, kr, kr, kr, (kb (cwr (cwr (cwr (cwr (cwe rfl (erO ec28_o _) cwn)))))), kr, trivial⟩ (fun _ => rfl) ?_
  rintro m ⟨y1, y2, y3, y4, y5, y6⟩ N h hN
  unfold spec_l26Delta_B1 at h
  dsimp only at h
  refine ls_seq_k fun K17 hK17 => rn 1 rfl ?_
  rcases cond_some h with ⟨g18, h⟩ | ⟨g18, h⟩
  ·refine qT rfl g18 (ls_skip (hK17 _ (ls_seq_k fun K19 hK19 => ls_blk (rk fun K20 hK20 => ?_))))
   have kJ2 : ∀ {x21 : List Int} {x22 : Int} {x23 : Int} {x24 : Bool}, spec_l26Delta_J2 (loopF (spec_l26Delta_B1 e5) m) e5 y4 y5 y6 x21 x22 x23 x24 = some o1 → Jn K20 [(0, .box [aL cu8 x21, nI x22, nI x23]), (4, .box [.str [], nI 0, oL 28 c28_o [], nI 0, oL 28 c28_o []]), (5, .box [.str e5.1, nI e5.2.1, dL c28_d e5.2.2]), (6, nI (if 0 < (if e5.2.1 < 5 then e5.2.1 else 5) then (if e5.2.1 < 5 then e5.2.1 else 5) else 0)), (7, .box [.str e5.1, nI v7.1.1, oL 28 c28_o v7.1.2, nI y4, dL c28_d y5]), (8, nI y6), (57, .bool x24)] := by
    intro x21 x22 x23 x24 h σ' hk
    unfold spec_l26Delta_J2 at h
    refine hK20 _ (lh hk rfl ?_)
    have kJ3 : ∀ {x25 : Int} {x26 : List (List Int)}, spec_l26Delta_J3 (loopF (spec_l26Delta_B1 e5) m) y6 x21 x22 x23 x25 x26 = some o1 → Jn K19 [(0, .box [aL cu8 x21, nI x22, nI x23]), (4, .box [.str [], nI 0, oL 28 c28_o [], nI 0, oL 28 c28_o []]), (5, .box [.str e5.1, nI e5.2.1, dL c28_d e5.2.2]), (6, nI (if 0 < (if e5.2.1 < 5 then e5.2.1 else 5) then (if e5.2.1 < 5 then e5.2.1 else 5) else 0)), (7, .box [.str e5.1, nI v7.1.1, oL 28 c28_o v7.1.2, nI x25, dL c28_d x26]), (8, nI y6)] := by
     intro x25 x26 h σ' hk
     unfold spec_l26Delta_J3 at h
     exact hK19 _ (lh hk rfl (rg (sp 3 rfl (evn (hN _ _ h (okr rfl))))))
    rcases cond_some h with ⟨g27, h⟩ | ⟨g27, h⟩
    ·refine qT rfl g27 (rgd (by kernel_rfl) (sd 6 rfl (?_)))
     obtain ⟨e28, g29, h⟩ := ob_some h
     refine ed rfl (qI rfl zc28_d g29 (sd 1 rfl (?_)))
     obtain ⟨v30, g31, h⟩ := ob_some h
     exact ed rfl (qC (qa rfl (erg (erc rfl (erc (erD ec28_d _) rfl))) (qa rfl (erD eci64 _) eran)) (spec_InsertRow_s g31) (sd 5 rfl (evdn (kJ3 h _ (okr rfl)))))
    ·exact qF rfl g27 (ls_skip (kJ3 h _ (okr rfl)))
   refine sp 1 rfl (?_)
   obtain ⟨v32, g33, h⟩ := ob_some h
   refine qP rfl rfl rfl rfl (qs rfl eran) (spec_l1Once_s g33) (sp 1 rfl (?_))
   rcases cond_some h with ⟨g34, h⟩ | ⟨g34, h⟩
   ·refine qg 47 g34 rfl (sp 4 rfl (?_))
    obtain ⟨e35, g36, h⟩ := ob_some h
    exact oGR rfl rfl (qI rfl zc28_d g36 (sp 5 rfl (evn (kJ2 h _ (okr rfl)))))
   ·exact qg 47 g34 rfl (sp 10 rfl (evn (kJ2 h _ (okr rfl))))
  ·exact qF rfl g18 (ls_exit (kXB1 (Option.some.inj h) _ (okr rfl)))
def c26_aaa (x : List Y108) : List V := [aL c109_aa x]
theorem zc26_aaa (x : List Y108) : (c26_aaa x).length = 1 := rfl
theorem ec26_aaa (x : List Y108) : erL (c26_aaa x) = c26_ddd x := (erc (erG ec109_aa _) rfl)
theorem zkc26_ooo (x : List Y108) : frzL (c26_ooo x) = c26_aaa x := (fzc (fzO zkc109_oo 109 _) rfl)
theorem gkc28_a (x : List Int) : argdL (c28_a x) = true := (acc (aca (fun _ => rfl) _) rfl)
theorem gkc109_aa (x : Y108) : argdL (c109_aa x) = true := (acc rfl (acc rfl (acc (aca gkc28_a _) rfl)))
theorem gkc26_aaa (x : List Y108) : argdL (c26_aaa x) = true := (acc (aca gkc109_aa _) rfl)
def c60_oaaa (x : Y59) : List V := [nI x.1, oL 26 c26_aaa x.2]
theorem zc60_oaaa (x : Y59) : (c60_oaaa x).length = 2 := rfl
theorem ec60_oaaa (x : Y59) : erL (c60_oaaa x) = c60_dddd x := (erc rfl (erc (erO ec26_aaa _) rfl))
def spec_l33Hist_B1  (rec : ((List Int) × Int × Int × Int × (List (List Y108)) × Int) → Option ((List Int) × Int × Int × Int × (List (List Y108)))) (s : (List Int) × Int × Int × Int × (List (List Y108)) × Int) : Option ((List Int) × Int × Int × Int × (List (List Y108))) := match s with
  | (y1, y2, y3, y4, y5, y6) => cond (decide (0 < y6)) (obind (geti y5 (IntKind.i64.wrap ((List.length y5 : Int) - 1))) fun e16 => obind (spec_l26Delta (y1, y2, y3) e16) fun v18 => obind (spec_AppendSnapshot (y4, y5) v18.1) fun v20 => rec (v18.2.1, v18.2.2.1, v18.2.2.2, v20.1.1, v20.1.2, (IntKind.i64.wrap (y6 - 1)))) (some (y1, y2, y3, y4, y5))
def spec_l33Hist_J2 (x25 : List Int) (x26 : Int) (x27 : Int) (x28 : Int) (x29 : List (List Y108)) : Option (Y59 × Y163) := some ((x28, x29), (x25, x26, x27))
def spec_l33Hist (a0 : Y163) : Option (Y59 × Y163) := obind (spec_l1Below a0 3) fun v1 => obind (spec_l6Db v1.2) fun v3 => obind (spec_l1Below v3.2 4) fun v6 => obind (loopF spec_l33Hist_B1 fz (v6.2.1, v6.2.2.1, v6.2.2.2, (IntKind.i64.wrap (1 + v1.1)), [v3.1], v6.1)) fun o1 => (match o1 with
  | (z8, z9, z10, z11, z12) => (obind (spec_l1Below (z8, z9, z10) 16) fun v23 => cond (v23.1 == 0) (obind (spec_l1PickInt v23.2 [0, 99, 100]) fun v31 => spec_l33Hist_J2 v31.2.1 v31.2.2.1 v31.2.2.2 v31.1 z12) (cond (v23.1 == 1) (chk (0 < List.length z12) (obind (spec_l6Any v23.2) fun v36 => obind (geti z12 0) fun e38 => spec_l33Hist_J2 v36.2.1 v36.2.2.1 v36.2.2.2 z11 (seti z12 0 v36.1))) (spec_l33Hist_J2 v23.2.1 v23.2.2.1 v23.2.2.2 z11 z12))))
theorem spec_l33Hist_s {a0 : Y163} {r : Y59 × Y163} (h : spec_l33Hist a0 = some r) : PtrAt Tryz.prog 79 [aL cu8 a0.1, nI a0.2.1, nI a0.2.2] [] [aL cu8 r.2.1, nI r.2.2.1, nI r.2.2.2] (.agg (c60_oaaa r.1)) := by
 unfold spec_l33Hist at h
 refine stp lit79 rfl (rn 1 rfl (rs (sp 1 rfl (?_))))
 obtain ⟨v1, g2, h⟩ := ob_some h
 refine qP rfl rfl rfl rfl (qs rfl eran) (spec_l1Below_s g2) (sp 2 rfl (?_))
 obtain ⟨v3, g4, h⟩ := ob_some h
 refine qP rfl rfl rfl rfl eran (spec_l6Db_s g4) (qBs c26_ooo [v3.1] rfl rfl rfl zc26_ooo (sp 3 rfl (evn (ls_seq_k fun K5 hK5 => rs (sp 1 rfl (?_))))))
 obtain ⟨v6, g7, h⟩ := ob_some h
 refine qP rfl rfl rfl rfl (qs rfl eran) (spec_l1Below_s g7) (sp 1 rfl (evn ?_))
 obtain ⟨o1, hl, hr1⟩ := ob_some h
 have kXB1 : ∀ {z8 : List Int} {z9 : Int} {z10 : Int} {z11 : Int} {z12 : List (List Y108)}, (z8, z9, z10, z11, z12) = o1 → Jn K5 [(0, .box [aL cu8 z8, nI z9, nI z10]), (2, .box [nI 0, oL 26 c26_ooo []]), (3, .box [nI z11, oL 26 c26_ooo z12])] := by
  intro z8 z9 z10 z11 z12 h σ' hk
  subst h
  replace h := hr1
  try dsimp only at h
  refine hK5 _ (lh hk rfl (ls_seq_k fun K22 hK22 => rs (sp 1 rfl (?_))))
  obtain ⟨v23, g24, h⟩ := ob_some h
  refine qP rfl rfl rfl rfl (qs rfl eran) (spec_l1Below_s g24) (evn (ls_blk (qk [0, 2, 3, 34] rfl (ls_hg (gFi (b := 3) [nI z11] [] rfl zkc26_ooo (qk [0, 2, 3, 34] rfl (rn 1 rfl ?_)))))))
  have kJ2 : ∀ {x25 : List Int} {x26 : Int} {x27 : Int} {x28 : Int} {x29 : List (List Y108)}, spec_l33Hist_J2 x25 x26 x27 x28 x29 = some r → Jn K22 [(0, .box [aL cu8 x25, nI x26, nI x27]), (2, .box [nI 0, oL 26 c26_ooo []]), (3, .box [nI x28, oL 26 c26_aaa x29])] := by
   intro x25 x26 x27 x28 x29 h σ' hk
   unfold spec_l33Hist_J2 at h
   exact hK22 _ (lh hk rfl (rn 1 rfl (ls_ret ((by cases h; exact ⟨.inl rfl, rfl, rfl⟩)))))
  rcases cond_some h with ⟨g30, h⟩ | ⟨g30, h⟩
  ·refine qT rfl g30 (rg (sp 1 rfl (qBs ci64 [0, 99, 100] rfl rfl rfl zci64 (?_))))
   obtain ⟨v31, g32, h⟩ := ob_some h
   exact qP rfl rfl rfl rfl (qa rfl (erO eci64 _) eran) (spec_l1PickInt_s g32) (sp 2 rfl (evn (kJ2 h _ (okr rfl))))
  ·refine qF rfl g30 (rn 1 rfl ?_)
   rcases cond_some h with ⟨g33, h⟩ | ⟨g33, h⟩
   ·refine qT rfl g33 (qk [0, 2, 3] rfl ?_)
    obtain ⟨g34, h⟩ := chk_some h
    refine ls_hg (gLb (q := 900003) (b := 3) [nI z11] [] rfl rfl rfl g34 ?_)
    intro gg35 mm35
    refine qk [0, 2, 3, 900003] rfl (ls_gh (rgt 4 (by kernel_rfl) (sd 3 rfl (?_))))
    obtain ⟨v36, g37, h⟩ := ob_some h
    refine ed rfl (qP rfl rfl rfl rfl eran (spec_l6Any_s g37) (evdn (gh_k ?_)))
    obtain ⟨e38, g39, h⟩ := ob_some h
    refine qIt rfl rfl rfl rfl g39 (?_)
    refine qSt (y0 := e38) (i := 0) (es := 1) 0 v36.1 [0, 2, 3] rfl rfl rfl rfl rfl rfl rfl rfl rfl rfl zc26_aaa g39 (fun x => sdA (gkc26_aaa x)) (sdA (acc (aca gkc109_aa _) rfl)) (yc (snc (sA (aca (fun _ => rfl) _)) (snc rfl (snc rfl rfl))) (yc (snc rfl (snc rfl rfl)) (yc (snc rfl (snc rfl rfl)) yn))) (?_)
    exact evn (gDb (q := 900003) (b := 3) [nI z11] [] rfl rfl rfl (sl rfl) (kJ2 h _ (okr rfl)))
   ·exact qF rfl g33 (ls_skip (kJ2 h _ (okr rfl)))
 refine ls_rec (fun (s : (List Int) × Int × Int × Int × (List (List Y108)) × Int) => match s with | (y1, y2, y3, y4, y5, y6) => [(0, .box [aL cu8 y1, nI y2, nI y3]), (2, .box [nI 0, oL 26 c26_ooo []]), (3, .box [nI y4, oL 26 c26_ooo y5]), (4, nI y6)]) _ _ _ _ hl (okr rfl) (fun _ => rfl) ?_
 rintro m ⟨y1, y2, y3, y4, y5, y6⟩ N h hN
 unfold spec_l33Hist_B1 at h
 dsimp only at h
 refine ls_seq_k fun K13 hK13 => rn 1 rfl ?_
 rcases cond_some h with ⟨g14, h⟩ | ⟨g14, h⟩
 ·refine qT rfl g14 (ls_skip (hK13 _ (ls_seq_k fun K15 hK15 => ls_blk (rgd (by kernel_rfl) (sd 8 rfl (?_))))))
  obtain ⟨e16, g17, h⟩ := ob_some h
  refine ed rfl (qI rfl zc26_ooo g17 (sd 1 rfl (?_)))
  obtain ⟨v18, g19, h⟩ := ob_some h
  refine ed rfl (qP rfl rfl rfl rfl (qa rfl (erg (erc (erD ec109_oo _) rfl)) eran) (spec_l26Delta_s g19) (?_))
  obtain ⟨v20, g21, h⟩ := ob_some h
  exact ed rfl (qC (qa rfl (erg (erc rfl (erc (erD ec26_ooo _) rfl))) (qa rfl (erg (erc rfl (erc rfl (erc (erO ec28_o _) (erc rfl (erc (erD ec28_d _) rfl)))))) eran)) (spec_AppendSnapshot_s g21) (sd 4 rfl (evdn (hK15 _ (rg (sp 3 rfl (evn (hN _ _ h (okr rfl)))))))))
 ·exact qF rfl g14 (ls_exit (kXB1 (Option.some.inj h) _ (okr rfl)))
abbrev Y95 := (List UInt8) × (List Int)
def c96_d (x : Y95) : List V := [.str x.1, dL ci64 x.2]
theorem zc96_d (x : Y95) : (c96_d x).length = 2 := rfl
theorem ec96_d (x : Y95) : erL (c96_d x) = c96_d x := (erc rfl (erc (erD eci64 _) rfl))
def spec_ContainsVariable_B1 (a0 : Y95) (a1 : Int) (rec : Int → Option (Sum (Unit) (Bool))) (y1 : Int) : Option (Sum (Unit) (Bool)) := cond (decide (y1 < (List.length a0.2 : Int))) (obind (geti a0.2 y1) fun e5 => cond (e5 == a1) (some (.inr true)) (rec (IntKind.i64.wrap (y1 + 1)))) (some (.inl ()))
def spec_ContainsVariable (a0 : Y95) (a1 : Int) : Option (Bool) := obind (loopF (spec_ContainsVariable_B1 a0 a1) fz 0) fun o1 => (match o1 with
  | .inl _ => (some false)
  | .inr r => some r)
theorem spec_ContainsVariable_s {a0 : Y95} {a1 : Int} {r : Bool} (h : spec_ContainsVariable a0 a1 = some r) : SoundAt Tryz.prog 55 [.agg (c96_d a0), nI a1] (.bool r) := by
 unfold spec_ContainsVariable at h
 refine st lit55 rfl (rn 1 rfl (ls_seq_k fun K1 hK1 => rn 1 rfl ?_))
 obtain ⟨o1, hl, hr1⟩ := ob_some h
 have kXB1 : (.inl ()) = o1 → Jn K1 [] := by
  intro h σ' hk
  subst h
  replace h := hr1
  try dsimp only at h
  exact hK1 _ (lh hk rfl (rn 1 rfl (ls_ret ((by cases h; exact ⟨.inl rfl, rfl⟩)))))
 refine ls_rec (fun (y1 : Int) => [(1, nI a1), (2, .box [.str a0.1, dL ci64 a0.2]), (5, nI y1)]) _ _ _ _ hl (okr rfl) (fun _ => rfl) ?_
 rintro m y1 N h hN
 unfold spec_ContainsVariable_B1 at h
 refine ls_seq_k fun K2 hK2 => rn 1 rfl ?_
 rcases cond_some h with ⟨g3, h⟩ | ⟨g3, h⟩
 ·refine qT rfl g3 (ls_skip (hK2 _ (ls_seq_k fun K4 hK4 => ls_blk (rs (sp 3 rfl (?_))))))
  obtain ⟨e5, g6, h⟩ := ob_some h
  refine qI rfl zci64 g6 (sp 3 rfl (evn ?_))
  rcases cond_some h with ⟨g7, h⟩ | ⟨g7, h⟩
  ·exact qT rfl g7 (rn 1 rfl (ls_ret ((by cases h; cases hr1; exact ⟨.inl rfl, rfl⟩))))
  ·exact qF rfl g7 (ls_skip (hK4 _ (rg (sp 3 rfl (evn (hN _ _ h (okr rfl)))))))
 ·exact qF rfl g3 (ls_exit (kXB1 (Option.some.inj h) _ trivial))
def spec_l7Find_B1 (a0 : List Int) (a1 : Int) (rec : Int → Option (Sum (Unit) (Int))) (y1 : Int) : Option (Sum (Unit) (Int)) := cond (decide (y1 < (List.length a0 : Int))) (obind (geti a0 y1) fun e5 => cond (e5 == a1) (some (.inr y1)) (rec (IntKind.i64.wrap (y1 + 1)))) (some (.inl ()))
def spec_l7Find (a0 : List Int) (a1 : Int) : Option (Int) := obind (loopF (spec_l7Find_B1 a0 a1) fz 0) fun o1 => (match o1 with
  | .inl _ => (some (-1))
  | .inr r => some r)
theorem spec_l7Find_s {a0 : List Int} {a1 : Int} {r : Int} (h : spec_l7Find a0 a1 = some r) : SoundAt Tryz.prog 65 [dL ci64 a0, nI a1] (nI r) := by
 unfold spec_l7Find at h
 refine st lit65 rfl (rn 1 rfl (ls_seq_k fun K1 hK1 => rn 1 rfl ?_))
 obtain ⟨o1, hl, hr1⟩ := ob_some h
 have kXB1 : (.inl ()) = o1 → Jn K1 [] := by
  intro h σ' hk
  subst h
  replace h := hr1
  try dsimp only at h
  exact hK1 _ (lh hk rfl (rn 1 rfl (ls_ret ((by cases h; exact ⟨.inl rfl, rfl⟩)))))
 refine ls_rec (fun (y1 : Int) => [(0, dL ci64 a0), (1, nI a1), (5, nI y1)]) _ _ _ _ hl (okr rfl) (fun _ => rfl) ?_
 rintro m y1 N h hN
 unfold spec_l7Find_B1 at h
 refine ls_seq_k fun K2 hK2 => rn 1 rfl ?_
 rcases cond_some h with ⟨g3, h⟩ | ⟨g3, h⟩
 ·refine qT rfl g3 (ls_skip (hK2 _ (ls_seq_k fun K4 hK4 => ls_blk (rs (sp 2 rfl (?_))))))
  obtain ⟨e5, g6, h⟩ := ob_some h
  refine qI rfl zci64 g6 (sp 3 rfl (evn ?_))
  rcases cond_some h with ⟨g7, h⟩ | ⟨g7, h⟩
  ·exact qT rfl g7 (rn 1 rfl (ls_ret ((by cases h; cases hr1; exact ⟨.inl rfl, rfl⟩))))
  ·exact qF rfl g7 (ls_skip (hK4 _ (rg (sp 3 rfl (evn (hN _ _ h (okr rfl)))))))
 ·exact qF rfl g3 (ls_exit (kXB1 (Option.some.inj h) _ trivial))
abbrev Y29 := Int × (List Y95) × (List Int)
def c30_ddd (x : Y29) : List V := [nI x.1, dL c96_d x.2.1, dL ci64 x.2.2]
theorem zc30_ddd (x : Y29) : (c30_ddd x).length = 3 := rfl
theorem ec30_ddd (x : Y29) : erL (c30_ddd x) = c30_ddd x := (erc rfl (erc (erD ec96_d _) (erc (erD eci64 _) rfl)))
def spec_IsValidQuery_B2 (a0 : Y29) (y2 : Int) (rec : Int → Option (Sum (Unit) (Bool))) (y4 : Int) : Option (Sum (Unit) (Bool)) := obind (geti a0.2.1 y2) fun e25 => cond (decide (y4 < (List.length e25.2 : Int))) (obind (geti a0.2.1 y2) fun e29 => obind (geti e29.2 y4) fun e31 => obind (spec_l1In e31 0 (IntKind.i64.wrap (a0.1 - 1))) fun v33 => cond (!v33) (some (.inr false)) (rec (IntKind.i64.wrap (y4 + 1)))) (some (.inl ()))
def spec_IsValidQuery_B1 (a0 : Y29) (rec : Int → Option (Sum (Unit) (Bool))) (y2 : Int) : Option (Sum (Unit) (Bool)) := cond (decide (y2 < (List.length a0.2.1 : Int))) (obind (geti a0.2.1 y2) fun e14 => obind (spec_IsValidName e14.1) fun v16 => cond (!v16) (some (.inr false)) (obind (geti a0.2.1 y2) fun e19 => obind (spec_l1In (List.length e19.2 : Int) 1 5) fun v21 => cond (!v21) (some (.inr false)) (obind (loopF (spec_IsValidQuery_B2 a0 y2) fz 0) fun o2 => (match o2 with
  | .inl _ => (rec (IntKind.i64.wrap (y2 + 1)))
  | .inr r => some (.inr r))))) (some (.inl ()))
def spec_IsValidQuery_J5 (rec : (Bool × Int) → Option (Bool)) (y11 : Int) (x45 : Bool) : Option (Bool) := rec (x45, (IntKind.i64.wrap (y11 + 1)))
def spec_IsValidQuery_B4 (a0 : Y29) (y7 : Int) (rec : (Bool × Int) → Option (Bool)) (s : Bool × Int) : Option (Bool) := match s with
  | (y10, y11) => cond (decide (y11 < (List.length a0.2.1 : Int))) (cond y10 (spec_IsValidQuery_J5 rec y11 true) (obind (geti a0.2.1 y11) fun e47 => obind (spec_ContainsVariable e47 y7) fun v49 => spec_IsValidQuery_J5 rec y11 v49)) (some y10)
def spec_IsValidQuery_B3 (a0 : Y29) (rec : Int → Option (Sum (Unit) (Bool))) (y7 : Int) : Option (Sum (Unit) (Bool)) := cond (decide (y7 < a0.1)) (obind (loopF (spec_IsValidQuery_B4 a0 y7) fz (false, 0)) fun z41 => cond (!z41) (some (.inr false)) (rec (IntKind.i64.wrap (y7 + 1)))) (some (.inl ()))
def spec_IsValidQuery_B6 (a0 : Y29) (rec : Int → Option (Sum (Unit) (Bool))) (y12 : Int) : Option (Sum (Unit) (Bool)) := cond (decide (y12 < (List.length a0.2.2 : Int))) (obind (geti a0.2.2 y12) fun e56 => obind (spec_l1In e56 0 (IntKind.i64.wrap (a0.1 - 1))) fun v58 => cond (!v58) (some (.inr false)) (chk ((0 : Int) ≤ 0 ∧ 0 ≤ y12 ∧ y12 ≤ (List.length a0.2.2 : Int)) (obind (geti a0.2.2 y12) fun e62 => obind (spec_l7Find (subl a0.2.2 0 y12) e62) fun v64 => cond (decide (0 ≤ v64)) (some (.inr false)) (rec (IntKind.i64.wrap (y12 + 1)))))) (some (.inl ()))
def spec_IsValidQuery (a0 : Y29) : Option (Bool) := obind (spec_l1In a0.1 1 5) fun v2 => cond (!v2) (some false) (obind (spec_l1In (List.length a0.2.1 : Int) 1 4) fun v5 => cond (!v5) (some false) (cond (decide (a0.1 < (List.length a0.2.2 : Int))) (some false) (obind (loopF (spec_IsValidQuery_B1 a0) fz 0) fun o1 => (match o1 with
  | .inl _ => (obind (loopF (spec_IsValidQuery_B3 a0) fz 0) fun o3 => (match o3 with
  | .inl _ => (obind (loopF (spec_IsValidQuery_B6 a0) fz 0) fun o6 => (match o6 with
  | .inl _ => (some true)
  | .inr r => some r))
  | .inr r => some r))
  | .inr r => some r))))
theorem spec_IsValidQuery_s {a0 : Y29} {r : Bool} (h : spec_IsValidQuery a0 = some r) : SoundAt Tryz.prog 128 [.agg (c30_ddd a0)] (.bool r) := by
 unfold spec_IsValidQuery at h
 refine st lit128 rfl (rn 1 rfl (ls_seq_k fun K1 hK1 => rs (sp 2 rfl (?_))))
 obtain ⟨v2, g3, h⟩ := ob_some h
 refine qC (qs rfl (qs rfl (qs rfl eran))) (spec_l1In_s g3) (sp 2 rfl (?_))
 rcases cond_some h with ⟨g4, h⟩ | ⟨g4, h⟩
 ·exact qg 13 g4 rfl (sp 14 rfl (evn (qT rfl rfl (rn 1 rfl (ls_ret ((by cases h; exact ⟨.inl rfl, rfl⟩)))))))
 ·refine qg 13 g4 rfl (sp 3 rfl (?_))
  obtain ⟨v5, g6, h⟩ := ob_some h
  refine oGR rfl rfl (qC (qs rfl (qs rfl (qs rfl eran))) (spec_l1In_s g6) (sp 3 rfl (?_)))
  rcases cond_some h with ⟨g7, h⟩ | ⟨g7, h⟩
  ·exact qg 20 g7 rfl (sp 7 rfl (evn (qk [1, 27] rfl (qT rfl rfl (rn 1 rfl (ls_ret ((by cases h; exact ⟨.inl rfl, rfl⟩))))))))
  ·refine qg 20 g7 rfl (sp 7 rfl (evn ?_))
   rcases cond_some h with ⟨g8, h⟩ | ⟨g8, h⟩
   ·exact qT rfl g8 (rn 1 rfl (ls_ret ((by cases h; exact ⟨.inl rfl, rfl⟩))))
   ·refine qF rfl g8 (ls_skip (hK1 _ (ls_seq_k fun K9 hK9 => rn 1 rfl ?_)))
    obtain ⟨o1, hl, hr1⟩ := ob_some h
    have kXB1 : (.inl ()) = o1 → Jn K9 [(1, .box [nI a0.1, dL c96_d a0.2.1, dL ci64 a0.2.2])] := by
     intro h σ' hk
     subst h
     replace h := hr1
     try dsimp only at h
     refine hK9 _ (lh hk rfl (ls_seq_k fun K36 hK36 => rn 1 rfl ?_))
     obtain ⟨o3, hl, hr3⟩ := ob_some h
     have kXB3 : (.inl ()) = o3 → Jn K36 [(1, .box [nI a0.1, dL c96_d a0.2.1, dL ci64 a0.2.2])] := by
      intro h σ' hk
      subst h
      replace h := hr3
      try dsimp only at h
      refine hK36 _ (lh hk rfl (ls_seq_k fun K52 hK52 => rn 1 rfl ?_))
      obtain ⟨o6, hl, hr6⟩ := ob_some h
      have kXB6 : (.inl ()) = o6 → Jn K52 [] := by
       intro h σ' hk
       subst h
       replace h := hr6
       try dsimp only at h
       exact hK52 _ (lh hk rfl (rn 1 rfl (ls_ret ((by cases h; exact ⟨.inl rfl, rfl⟩)))))
      refine ls_rec (fun (y12 : Int) => [(1, .box [nI a0.1, dL c96_d a0.2.1, dL ci64 a0.2.2]), (8, nI y12)]) _ _ _ _ hl (okr rfl) (fun _ => rfl) ?_
      rintro m y12 N h hN
      unfold spec_IsValidQuery_B6 at h
      refine ls_seq_k fun K53 hK53 => rn 1 rfl ?_
      rcases cond_some h with ⟨g54, h⟩ | ⟨g54, h⟩
      ·refine qT rfl g54 (ls_skip (hK53 _ (ls_seq_k fun K55 hK55 => ls_blk (rd (by kernel_rfl) (sd 3 rfl (?_))))))
       obtain ⟨e56, g57, h⟩ := ob_some h
       refine ed rfl (qI rfl zci64 g57 (sd 4 rfl (?_)))
       obtain ⟨v58, g59, h⟩ := ob_some h
       refine ed rfl (qC (qs rfl (qs rfl (qs rfl eran))) (spec_l1In_s g59) (sd 2 rfl (?_)))
       rcases cond_some h with ⟨g60, h⟩ | ⟨g60, h⟩
       ·exact qgd 121 g60 rfl (sd 12 rfl (evdn (qT rfl rfl (rn 1 rfl (qk [2] rfl (ls_ret ((by cases h; cases hr6; exact ⟨.inl rfl, rfl⟩))))))))
       ·refine qgd 121 g60 rfl (sd 3 rfl (?_))
        obtain ⟨g61, h⟩ := chk_some h
        refine ed rfl (oGR rfl rfl (qSl rfl zci64 g61 (sd 3 rfl (?_))))
        obtain ⟨e62, g63, h⟩ := ob_some h
        refine ed rfl (oGR rfl rfl (qI rfl zci64 g63 (sd 1 rfl (?_))))
        obtain ⟨v64, g65, h⟩ := ob_some h
        refine ed rfl (oGR rfl rfl (qC (qa rfl (erD eci64 _) (qs rfl eran)) (spec_l7Find_s g65) (sd 2 rfl (evdn ?_))))
        rcases cond_some h with ⟨g66, h⟩ | ⟨g66, h⟩
        ·exact qT rfl g66 (rn 1 rfl (ls_ret ((by cases h; cases hr6; exact ⟨.inl rfl, rfl⟩))))
        ·exact qF rfl g66 (ls_skip (hK55 _ (rg (sp 3 rfl (evn (hN _ _ h (okr rfl)))))))
      ·exact qF rfl g54 (ls_exit (kXB6 (Option.some.inj h) _ trivial))
     refine ls_rec (fun (y7 : Int) => [(1, .box [nI a0.1, dL c96_d a0.2.1, dL ci64 a0.2.2]), (5, nI y7)]) _ _ _ _ hl (okr rfl) (fun _ => rfl) ?_
     rintro m y7 N h hN
     unfold spec_IsValidQuery_B3 at h
     refine ls_seq_k fun K37 hK37 => rn 1 rfl ?_
     rcases cond_some h with ⟨g38, h⟩ | ⟨g38, h⟩
     ·refine qT rfl g38 (ls_skip (hK37 _ (ls_seq_k fun K39 hK39 => ls_blk (rn 1 rfl (ls_seq_k fun K40 hK40 => rn 1 rfl ?_)))))
      obtain ⟨o4, hl, hr4⟩ := ob_some h
      have kXB4 : ∀ {z41 : Bool}, z41 = o4 → Jn K40 [(1, .box [nI a0.1, dL c96_d a0.2.1, dL ci64 a0.2.2]), (5, nI y7), (6, .bool z41)] := by
       intro z41 h σ' hk
       subst h
       replace h := hr4
       try dsimp only at h
       refine hK40 _ (lh hk rfl (rn 1 rfl ?_))
       rcases cond_some h with ⟨g51, h⟩ | ⟨g51, h⟩
       ·exact qT rfl g51 (rn 1 rfl (ls_ret ((by cases h; cases hr3; exact ⟨.inl rfl, rfl⟩))))
       ·exact qF rfl g51 (ls_skip (hK39 _ (rg (sp 3 rfl (evn (hN _ _ h (okr rfl)))))))
      refine ls_rec (fun (s : Bool × Int) => match s with | (y10, y11) => [(1, .box [nI a0.1, dL c96_d a0.2.1, dL ci64 a0.2.2]), (5, nI y7), (6, .bool y10), (7, nI y11)]) _ _ _ _ hl (okr rfl) (fun _ => rfl) ?_
      rintro m ⟨y10, y11⟩ N h hN
      unfold spec_IsValidQuery_B4 at h
      dsimp only at h
      refine ls_seq_k fun K42 hK42 => rn 1 rfl ?_
      rcases cond_some h with ⟨g43, h⟩ | ⟨g43, h⟩
      ·refine qT rfl g43 (ls_skip (hK42 _ (ls_seq_k fun K44 hK44 => ls_blk ?_)))
       have kJ5 : ∀ {x45 : Bool}, spec_IsValidQuery_J5 (loopF (spec_IsValidQuery_B4 a0 y7) m) y11 x45 = some o4 → Jn K44 [(1, .box [nI a0.1, dL c96_d a0.2.1, dL ci64 a0.2.2]), (5, nI y7), (6, .bool x45), (7, nI y11)] := by
        intro x45 h σ' hk
        unfold spec_IsValidQuery_J5 at h
        exact hK44 _ (lh hk rfl (rg (sp 3 rfl (evn (hN _ _ h (okr rfl))))))
       refine rg (sp 2 rfl (?_))
       rcases cond_some h with ⟨g46, h⟩ | ⟨g46, h⟩
       ·exact qg 93 g46 rfl (sp 9 rfl (evn (kJ5 h _ (okr rfl))))
       ·refine qg 93 g46 rfl (sp 3 rfl (?_))
        obtain ⟨e47, g48, h⟩ := ob_some h
        refine oGR rfl rfl (qI rfl zc96_d g48 (sp 2 rfl (?_)))
        obtain ⟨v49, g50, h⟩ := ob_some h
        exact oGR rfl rfl (qC (qa rfl (erg (erc rfl (erc (erD eci64 _) rfl))) (qs rfl eran)) (spec_ContainsVariable_s g50) (sp 2 rfl (evn (kJ5 h _ (okr rfl)))))
      ·exact qF rfl g43 (ls_exit (kXB4 (Option.some.inj h) _ (okr rfl)))
     ·exact qF rfl g38 (ls_exit (kXB3 (Option.some.inj h) _ (okr rfl)))
    refine ls_rec (fun (y2 : Int) => [(1, .box [nI a0.1, dL c96_d a0.2.1, dL ci64 a0.2.2]), (3, nI y2)]) _ _ _ _ hl (okr rfl) (fun _ => rfl) ?_
    rintro m y2 N h hN
    unfold spec_IsValidQuery_B1 at h
    refine ls_seq_k fun K10 hK10 => rn 1 rfl ?_
    rcases cond_some h with ⟨g11, h⟩ | ⟨g11, h⟩
    ·refine qT rfl g11 (ls_skip (hK10 _ (ls_seq_k fun K12 hK12 => ls_blk (ls_seq_k fun K13 hK13 => rs (sp 3 rfl (?_))))))
     obtain ⟨e14, g15, h⟩ := ob_some h
     refine qI rfl zc96_d g15 (sp 2 rfl (?_))
     obtain ⟨v16, g17, h⟩ := ob_some h
     refine qC (qs rfl eran) (spec_IsValidName_s g17) (sp 2 rfl (?_))
     rcases cond_some h with ⟨g18, h⟩ | ⟨g18, h⟩
     ·exact qg 43 g18 rfl (sp 10 rfl (evn (qT rfl rfl (rn 1 rfl (ls_ret ((by cases h; cases hr1; exact ⟨.inl rfl, rfl⟩)))))))
     ·refine qg 43 g18 rfl (sp 3 rfl (?_))
      obtain ⟨e19, g20, h⟩ := ob_some h
      refine oGR rfl rfl (qI rfl zc96_d g20 (sp 3 rfl (?_)))
      obtain ⟨v21, g22, h⟩ := ob_some h
      refine oGR rfl rfl (qC (qs rfl (qs rfl (qs rfl eran))) (spec_l1In_s g22) (sp 2 rfl (evn (qk [1, 3, 53] rfl ?_))))
      rcases cond_some h with ⟨g23, h⟩ | ⟨g23, h⟩
      ·exact qT rfl g23 (rn 1 rfl (ls_ret ((by cases h; cases hr1; exact ⟨.inl rfl, rfl⟩))))
      ·refine qF rfl g23 (ls_skip (hK13 _ (rn 1 rfl ?_)))
       obtain ⟨o2, hl, hr2⟩ := ob_some h
       have kXB2 : (.inl ()) = o2 → Jn K12 [(1, .box [nI a0.1, dL c96_d a0.2.1, dL ci64 a0.2.2]), (3, nI y2)] := by
        intro h σ' hk
        subst h
        replace h := hr2
        try dsimp only at h
        exact hK12 _ (lh hk rfl (rg (sp 3 rfl (evn (hN _ _ h (okr rfl))))))
       refine ls_rec (fun (y4 : Int) => [(1, .box [nI a0.1, dL c96_d a0.2.1, dL ci64 a0.2.2]), (3, nI y2), (4, nI y4)]) _ _ _ _ hl (okr rfl) (fun _ => rfl) ?_
       rintro m y4 N h hN
       unfold spec_IsValidQuery_B2 at h
       refine ls_seq_k fun K24 hK24 => rs (sp 4 rfl (?_))
       obtain ⟨e25, g26, h⟩ := ob_some h
       refine qI rfl zc96_d g26 (sp 4 rfl (evn ?_))
       rcases cond_some h with ⟨g27, h⟩ | ⟨g27, h⟩
       ·refine qT rfl g27 (ls_skip (hK24 _ (ls_seq_k fun K28 hK28 => ls_blk (rd (by kernel_rfl) (sd 3 rfl (?_))))))
        obtain ⟨e29, g30, h⟩ := ob_some h
        refine ed rfl (qI rfl zc96_d g30 (sd 3 rfl (?_)))
        obtain ⟨e31, g32, h⟩ := ob_some h
        refine ed rfl (qI rfl zci64 g32 (sd 4 rfl (?_)))
        obtain ⟨v33, g34, h⟩ := ob_some h
        refine ed rfl (qC (qs rfl (qs rfl (qs rfl eran))) (spec_l1In_s g34) (sd 1 rfl (evdn ?_)))
        rcases cond_some h with ⟨g35, h⟩ | ⟨g35, h⟩
        ·exact qT rfl g35 (rn 1 rfl (ls_ret ((by cases h; cases hr2; cases hr1; exact ⟨.inl rfl, rfl⟩))))
        ·exact qF rfl g35 (ls_skip (hK28 _ (qk [1, 3, 4] rfl (rg (sp 3 rfl (evn (hN _ _ h (okr rfl))))))))
       ·exact qF rfl g27 (ls_exit (kXB2 (Option.some.inj h) _ (okr rfl)))
    ·exact qF rfl g11 (ls_exit (kXB1 (Option.some.inj h) _ (okr rfl)))
def spec_l5Cut_J2 (rec : ((List (List UInt8)) × Int × Int) → Option ((List (List UInt8)) × Int)) (y3 : Int) (x9 : List (List UInt8)) (x10 : Int) : Option ((List (List UInt8)) × Int) := rec (x9, x10, (IntKind.i64.wrap (y3 + 1)))
def spec_l5Cut_B1 (a0 : List UInt8) (a1 : Int) (rec : ((List (List UInt8)) × Int × Int) → Option ((List (List UInt8)) × Int)) (s : (List (List UInt8)) × Int × Int) : Option ((List (List UInt8)) × Int) := match s with
  | (y1, y2, y3) => cond (decide (y3 < (List.length a0 : Int))) (obind (geti a0 y3) fun b7 => cond ((UInt8.toNat b7 : Int) == a1) (chk ((0 : Int) ≤ y2 ∧ y2 ≤ y3 ∧ y3 ≤ (List.length a0 : Int)) (chk (List.length y1 + List.length [subl a0 y2 y3] ≤ lim) (spec_l5Cut_J2 rec y3 (y1 ++ [subl a0 y2 y3]) (IntKind.i64.wrap (y3 + 1))))) (spec_l5Cut_J2 rec y3 y1 y2)) (some (y1, y2))
def spec_l5Cut (a0 : List UInt8) (a1 : Int) : Option ((List (List UInt8))) := obind (loopF (spec_l5Cut_B1 a0 a1) fz (([] : List (List UInt8)), 0, 0)) fun o1 => (match o1 with
  | (z2, z3) => (chk ((0 : Int) ≤ z3 ∧ z3 ≤ (List.length a0 : Int) ∧ (List.length a0 : Int) ≤ (List.length a0 : Int)) (chk (List.length z2 + List.length [subl a0 z3 (List.length a0 : Int)] ≤ lim) (some (z2 ++ [subl a0 z3 (List.length a0 : Int)])))))
theorem spec_l5Cut_s {a0 : List UInt8} {a1 : Int} {r : (List (List UInt8))} (h : spec_l5Cut a0 a1 = some r) : SoundAt Tryz.prog 242 [.str a0, .int .u8 a1] (oL 9 cst r) := by
 unfold spec_l5Cut at h
 refine st lit242 rfl (rn 1 rfl (rs (qBs cst [] rfl rfl rfl zcst (sp 1 rfl (evn (rn 1 rfl (ls_seq_k fun K1 hK1 => rn 1 rfl ?_)))))))
 obtain ⟨o1, hl, hr1⟩ := ob_some h
 have kXB1 : ∀ {z2 : List (List UInt8)} {z3 : Int}, (z2, z3) = o1 → Jn K1 [(0, .str a0), (5, oL 9 cst z2), (6, nI z3)] := by
  intro z2 z3 h σ' hk
  subst h
  replace h := hr1
  try dsimp only at h
  refine hK1 _ (lh hk rfl (rs (sp 3 rfl (?_))))
  obtain ⟨g14, h⟩ := chk_some h
  refine qSs rfl g14 (qBs cst [subl a0 z3 (List.length a0 : Int)] rfl rfl rfl zcst (?_))
  obtain ⟨g15, h⟩ := chk_some h
  exact qA cst z2 [subl a0 z3 (List.length a0 : Int)] rfl rfl (flat_len zcst [subl a0 z3 (List.length a0 : Int)]) rfl g15 (sp 1 rfl (evn (ls_ret ((by cases h; exact ⟨.inl rfl, rfl⟩)))))
 refine ls_rec (fun (s : (List (List UInt8)) × Int × Int) => match s with | (y1, y2, y3) => [(0, .str a0), (1, .int .u8 a1), (5, oL 9 cst y1), (6, nI y2), (7, nI y3)]) _ _ _ _ hl (okr rfl) (fun _ => rfl) ?_
 rintro m ⟨y1, y2, y3⟩ N h hN
 unfold spec_l5Cut_B1 at h
 dsimp only at h
 refine ls_seq_k fun K4 hK4 => rn 1 rfl ?_
 rcases cond_some h with ⟨g5, h⟩ | ⟨g5, h⟩
 ·refine qT rfl g5 (ls_skip (hK4 _ (ls_seq_k fun K6 hK6 => ls_blk (rs (sp 2 rfl (?_))))))
  obtain ⟨b7, g8, h⟩ := ob_some h
  refine qX rfl g8 (sp 2 rfl (evn ?_))
  have kJ2 : ∀ {x9 : List (List UInt8)} {x10 : Int}, spec_l5Cut_J2 (loopF (spec_l5Cut_B1 a0 a1) m) y3 x9 x10 = some o1 → Jn K6 [(0, .str a0), (1, .int .u8 a1), (5, oL 9 cst x9), (6, nI x10), (7, nI y3)] := by
   intro x9 x10 h σ' hk
   unfold spec_l5Cut_J2 at h
   exact hK6 _ (lh hk rfl (rg (sp 3 rfl (evn (hN _ _ h (okr rfl))))))
  rcases cond_some h with ⟨g11, h⟩ | ⟨g11, h⟩
  ·refine qT rfl g11 (rs (sp 4 rfl (?_)))
   obtain ⟨g12, h⟩ := chk_some h
   refine qSs rfl g12 (qBs cst [subl a0 y2 y3] rfl rfl rfl zcst (?_))
   obtain ⟨g13, h⟩ := chk_some h
   exact qA cst y1 [subl a0 y2 y3] rfl rfl (flat_len zcst [subl a0 y2 y3]) rfl g13 (sp 1 rfl (evn (rg (sp 3 rfl (evn (kJ2 h _ (okr rfl)))))))
  ·exact qF rfl g11 (ls_skip (kJ2 h _ (okr rfl)))
 ·exact qF rfl g5 (ls_exit (kXB1 (Option.some.inj h) _ (okr rfl)))
end Go.Proofs.YtmjhiencoapldaaGreat
