/-
  Functions of the program as typed functions, printed by gen.py, and that the program's functions do what they say. No conditions.
-/
import Derived.Test.YtmjhiencoapldaaGreatKb
import Derived.Test.YtmjhiencoapldaaGreatLit2DG1
namespace Go.Proofs.YtmjhiencoapldaaGreat
open Go.RowKit
set_option linter.unusedVariables false
set_option maxRecDepth 100000
set_option maxHeartbeats 1000000
def laws_big (a0 : List Int) : Option (Bool) := some (decide (1048576 < (List.length a0 : Int)))
theorem laws_big_s {a0 : List Int} {r : Bool} (h : laws_big a0 = some r) : SoundAt Tryz.prog 8 [dL cu8 a0] (.bool r) := by
 unfold laws_big at h
 exact st lit8 rfl (rn 2 rfl (ls_ret ((by cases h; exact ⟨.inl rfl, rfl⟩))))
abbrev Y163 := (List Int) × Int × Int
def spec_l1New_B1 (a0 : List Int) (rec : (Int × Int) → Option (Int)) (s : Int × Int) : Option (Int) := match s with
  | (y1, y2) => cond (decide (y2 < (List.length a0 : Int))) (cond (decide (y2 < 4000)) (obind (geti a0 y2) fun e7 => rec ((andI (IntKind.i64.wrap ((IntKind.i64.wrap ((IntKind.i64.wrap (y1 * 131)) + (IntKind.i64.wrap e7))) + 7)) 1073741823), (IntKind.i64.wrap (y2 + 1)))) (some y1)) (some y1)
def spec_l1New (a0 : List Int) : Option (Y163) := obind (loopF (spec_l1New_B1 a0) fz ((IntKind.i64.wrap (10101 + (List.length a0 : Int))), 0)) fun z2 => some (a0, 0, z2)
theorem spec_l1New_s {a0 : List Int} {r : Y163} (h : spec_l1New a0 = some r) : NewAt Tryz.prog 58 [aL cu8 a0] [aL cu8 r.1, nI r.2.1, nI r.2.2] := by
 unfold spec_l1New at h
 refine stn lit58 rfl rfl (rn 2 rfl (ls_seq_k fun K1 hK1 => rn 1 rfl ?_))
 obtain ⟨o1, hl, hr1⟩ := ob_some h
 have kXB1 : ∀ {z2 : Int}, z2 = o1 → Jn K1 [(0, aL cu8 a0), (3, nI z2)] := by
  intro z2 h σ' hk
  subst h
  replace h := hr1
  try dsimp only at h
  exact hK1 _ (lh hk rfl (rn 1 rfl (ls_ret ((by cases h; exact ⟨.inl rfl, 31, rfl, rfl⟩)))))
 refine ls_rec (fun (s : Int × Int) => match s with | (y1, y2) => [(0, aL cu8 a0), (3, nI y1), (4, nI y2)]) _ _ _ _ hl (okr rfl) (fun _ => rfl) ?_
 rintro m ⟨y1, y2⟩ N h hN
 unfold spec_l1New_B1 at h
 dsimp only at h
 refine ls_seq_k fun K3 hK3 => rs (sp 5 rfl (?_))
 rcases cond_some h with ⟨g4, h⟩ | ⟨g4, h⟩
 ·refine qg 12 g4 rfl (sp 3 rfl (evn ?_))
  rcases cond_some h with ⟨g5, h⟩ | ⟨g5, h⟩
  ·refine qT rfl g5 (ls_skip (hK3 _ (ls_seq_k fun K6 hK6 => ls_blk (rg (sp 4 rfl (?_))))))
   obtain ⟨e7, g8, h⟩ := ob_some h
   exact qI rfl zcu8 g8 (sp 6 rfl (evn (hK6 _ (rg (sp 3 rfl (evn (hN _ _ h (okr rfl))))))))
  ·exact qF rfl g5 (ls_exit (kXB1 (Option.some.inj h) _ (okr rfl)))
 ·exact qg 12 g4 rfl (sp 3 rfl (evn (qF rfl rfl (ls_exit (kXB1 (Option.some.inj h) _ (okr rfl))))))
def spec_l1Byte_J1 (a0 : Y163) (x2 : Int) (x3 : Int) : Option (Int × Y163) := some (x3, (a0.1, x2, IntKind.i64.wrap ((IntKind.i64.wrap (a0.2.2 * 6364136223846793005)) + 1442695040888963407)))
def spec_l1Byte (a0 : Y163) : Option (Int × Y163) := cond (decide (a0.2.1 < (List.length a0.1 : Int))) (obind (geti a0.1 a0.2.1) fun e5 => spec_l1Byte_J1 a0 (IntKind.i64.wrap (a0.2.1 + 1)) (andI (IntKind.i64.wrap ((andI (xorI (shrI (IntKind.i64.wrap ((IntKind.i64.wrap (a0.2.2 * 6364136223846793005)) + 1442695040888963407)) 33) (shrI (IntKind.i64.wrap ((IntKind.i64.wrap (a0.2.2 * 6364136223846793005)) + 1442695040888963407)) 45)) 255) + (IntKind.i64.wrap e5))) 255)) (spec_l1Byte_J1 a0 a0.2.1 (andI (xorI (shrI (IntKind.i64.wrap ((IntKind.i64.wrap (a0.2.2 * 6364136223846793005)) + 1442695040888963407)) 33) (shrI (IntKind.i64.wrap ((IntKind.i64.wrap (a0.2.2 * 6364136223846793005)) + 1442695040888963407)) 45)) 255))
theorem spec_l1Byte_s {a0 : Y163} {r : Int × Y163} (h : spec_l1Byte a0 = some r) : PtrAt Tryz.prog 156 [aL cu8 a0.1, nI a0.2.1, nI a0.2.2] [] [aL cu8 r.2.1, nI r.2.2.1, nI r.2.2.2] (nI r.1) := by
 unfold spec_l1Byte at h
 refine stp lit156 rfl (rn 2 rfl (rd (by kernel_rfl) (sd 13 rfl (evdn (ls_seq_k fun K1 hK1 => rd (by kernel_rfl) (sd 10 rfl (evdn ?_)))))))
 have kJ1 : ∀ {x2 : Int} {x3 : Int}, spec_l1Byte_J1 a0 x2 x3 = some r → Jn K1 [(0, .box [aL cu8 a0.1, nI x2, nI (IntKind.i64.wrap ((IntKind.i64.wrap (a0.2.2 * 6364136223846793005)) + 1442695040888963407))]), (3, nI x3)] := by
  intro x2 x3 h σ' hk
  unfold spec_l1Byte_J1 at h
  exact hK1 _ (lh hk rfl (rn 1 rfl (ls_ret ((by cases h; exact ⟨.inl rfl, rfl, rfl⟩)))))
 rcases cond_some h with ⟨g4, h⟩ | ⟨g4, h⟩
 ·refine qT rfl g4 (rd (by kernel_rfl) (sd 9 rfl (?_)))
  obtain ⟨e5, g6, h⟩ := ob_some h
  exact ed rfl (qI rfl zcu8 g6 (sd 5 rfl (evdn (rg (sp 9 rfl (evn (kJ1 h _ (okr rfl))))))))
 ·exact qF rfl g4 (ls_skip (kJ1 h _ (okr rfl)))
def c164_d (x : Y163) : List V := [dL cu8 x.1, nI x.2.1, nI x.2.2]
theorem zc164_d (x : Y163) : (c164_d x).length = 3 := rfl
theorem ec164_d (x : Y163) : erL (c164_d x) = c164_d x := (erc (erD ecu8 _) (erc rfl (erc rfl rfl)))
def c164_a (x : Y163) : List V := [aL cu8 x.1, nI x.2.1, nI x.2.2]
theorem zc164_a (x : Y163) : (c164_a x).length = 3 := rfl
theorem ec164_a (x : Y163) : erL (c164_a x) = c164_d x := (erc (erG ecu8 _) (erc rfl (erc rfl rfl)))
def spec_l1Below (a0 : Y163) (a1 : Int) : Option (Int × Y163) := cond (decide (a1 ≤ 0)) (some (0, a0)) (cond (decide (a1 ≤ 256)) (obind (spec_l1Byte a0) fun v5 => chk (a1 ≠ 0) (some (Int.tmod v5.1 a1, v5.2))) (obind (spec_l1Byte a0) fun v8 => obind (spec_l1Byte v8.2) fun v10 => obind (spec_l1Byte v10.2) fun v12 => obind (spec_l1Byte v12.2) fun v14 => chk (a1 ≠ 0) (some (Int.tmod (IntKind.i64.wrap ((IntKind.i64.wrap ((IntKind.i64.wrap ((IntKind.i64.wrap (v8.1 * 16777216)) + (IntKind.i64.wrap (v10.1 * 65536)))) + (IntKind.i64.wrap (v12.1 * 256)))) + v14.1)) a1, v14.2))))
theorem spec_l1Below_s {a0 : Y163} {a1 : Int} {r : Int × Y163} (h : spec_l1Below a0 a1 = some r) : PtrAt Tryz.prog 80 [aL cu8 a0.1, nI a0.2.1, nI a0.2.2] [nI a1] [aL cu8 r.2.1, nI r.2.2.1, nI r.2.2.2] (nI r.1) := by
 unfold spec_l1Below at h
 refine stp lit80 rfl (rn 1 rfl (ls_seq_k fun K1 hK1 => rn 1 rfl ?_))
 rcases cond_some h with ⟨g2, h⟩ | ⟨g2, h⟩
 ·exact qT rfl g2 (rn 1 rfl (ls_ret ((by cases h; exact ⟨.inl rfl, rfl, rfl⟩))))
 ·refine qF rfl g2 (ls_skip (hK1 _ (ls_seq_k fun K3 hK3 => rn 1 rfl ?_)))
  rcases cond_some h with ⟨g4, h⟩ | ⟨g4, h⟩
  ·refine qT rfl g4 (rs (sp 1 rfl (?_)))
   obtain ⟨v5, g6, h⟩ := ob_some h
   refine qP rfl rfl rfl rfl eran (spec_l1Byte_s g6) (sp 1 rfl (?_))
   obtain ⟨g7, h⟩ := chk_some h
   exact qB rfl ⟨rfl, g7⟩ rfl (sp 1 rfl (evn (ls_ret ((by cases h; exact ⟨.inl rfl, rfl, rfl⟩)))))
  ·refine qF rfl g4 (ls_skip (hK3 _ (rs (sp 1 rfl (?_)))))
   obtain ⟨v8, g9, h⟩ := ob_some h
   refine qP rfl rfl rfl rfl eran (spec_l1Byte_s g9) (sp 1 rfl (evn (qk [0, 1, 5] rfl (rs (sp 1 rfl (?_))))))
   obtain ⟨v10, g11, h⟩ := ob_some h
   refine qP rfl rfl rfl rfl eran (spec_l1Byte_s g11) (sp 1 rfl (evn (rs (sp 1 rfl (?_)))))
   obtain ⟨v12, g13, h⟩ := ob_some h
   refine qP rfl rfl rfl rfl eran (spec_l1Byte_s g13) (sp 1 rfl (evn (rs (sp 1 rfl (?_)))))
   obtain ⟨v14, g15, h⟩ := ob_some h
   refine qP rfl rfl rfl rfl eran (spec_l1Byte_s g15) (sp 1 rfl (evn (rs (sp 11 rfl (?_)))))
   obtain ⟨g16, h⟩ := chk_some h
   exact qB rfl ⟨rfl, g16⟩ rfl (sp 1 rfl (evn (ls_ret ((by cases h; exact ⟨.inl rfl, rfl, rfl⟩)))))
def spec_l1Once (a0 : Y163) (a1 : Int) : Option (Bool × Y163) := obind (spec_l1Below a0 a1) fun v1 => some ((v1.1 == 0), v1.2)
theorem spec_l1Once_s {a0 : Y163} {a1 : Int} {r : Bool × Y163} (h : spec_l1Once a0 a1 = some r) : PtrAt Tryz.prog 161 [aL cu8 a0.1, nI a0.2.1, nI a0.2.2] [nI a1] [aL cu8 r.2.1, nI r.2.2.1, nI r.2.2.2] (.bool r.1) := by
 unfold spec_l1Once at h
 refine stp lit161 rfl (rn 1 rfl (rs (sp 2 rfl (?_))))
 obtain ⟨v1, g2, h⟩ := ob_some h
 exact qP rfl rfl rfl rfl (qs rfl eran) (spec_l1Below_s g2) (sp 2 rfl (evn (ls_ret ((by cases h; exact ⟨.inl rfl, rfl, rfl⟩)))))
def spec_l7Find_B1 (a0 : List Int) (a1 : Int) (rec : Int → Option (Sum (Unit) (Int))) (y1 : Int) : Option (Sum (Unit) (Int)) := cond (decide (y1 < (List.length a0 : Int))) (obind (geti a0 y1) fun e5 => cond (e5 == a1) (some (.inr y1)) (rec (IntKind.i64.wrap (y1 + 1)))) (some (.inl ()))
def spec_l7Find (a0 : List Int) (a1 : Int) : Option (Int) := obind (loopF (spec_l7Find_B1 a0 a1) fz 0) fun o1 => (match o1 with
  | .inl _ => (some (-1))
  | .inr r => some r)
theorem spec_l7Find_s {a0 : List Int} {a1 : Int} {r : Int} (h : spec_l7Find a0 a1 = some r) : SoundAt Tryz.prog 65 [dL ci64 a0, nI a1] (nI r) := by
 unfold spec_l7Find at h
 refine st lit65 rfl (rn 1 rfl (ls_seq_k fun K1 hK1 => rn 1 rfl ?_))
 obtain ⟨o1, hl, hr1⟩ := ob_some h
 have kXB1 : (.inl ()) = o1 → Jn K1 [] := by
  intro h σ' hk
  subst h
  replace h := hr1
  try dsimp only at h
  exact hK1 _ (lh hk rfl (rn 1 rfl (ls_ret ((by cases h; exact ⟨.inl rfl, rfl⟩)))))
 refine ls_rec (fun (y1 : Int) => [(0, dL ci64 a0), (1, nI a1), (5, nI y1)]) _ _ _ _ hl (okr rfl) (fun _ => rfl) ?_
 rintro m y1 N h hN
 unfold spec_l7Find_B1 at h
 refine ls_seq_k fun K2 hK2 => rn 1 rfl ?_
 rcases cond_some h with ⟨g3, h⟩ | ⟨g3, h⟩
 ·refine qT rfl g3 (ls_skip (hK2 _ (ls_seq_k fun K4 hK4 => ls_blk (rs (sp 2 rfl (?_))))))
  obtain ⟨e5, g6, h⟩ := ob_some h
  refine qI rfl zci64 g6 (sp 3 rfl (evn ?_))
  rcases cond_some h with ⟨g7, h⟩ | ⟨g7, h⟩
  ·exact qT rfl g7 (rn 1 rfl (ls_ret ((by cases h; cases hr1; exact ⟨.inl rfl, rfl⟩))))
  ·exact qF rfl g7 (ls_skip (hK4 _ (rg (sp 3 rfl (evn (hN _ _ h (okr rfl)))))))
 ·exact qF rfl g3 (ls_exit (kXB1 (Option.some.inj h) _ trivial))
def spec_l16Cols_B2 (a1 : Int) (y5 : List Int) (rec : Int → Option (Int)) (y7 : Int) : Option (Int) := obind (spec_l7Find y5 y7) fun v13 => cond (decide (0 ≤ v13)) (chk (a1 ≠ 0) (rec (Int.tmod (IntKind.i64.wrap (y7 + 1)) a1))) (some y7)
def spec_l16Cols_B1 (a1 : Int) (rec : ((List Int) × Int × Int × (List Int)) → Option ((List Int) × Int × Int × (List Int))) (s : (List Int) × Int × Int × (List Int)) : Option ((List Int) × Int × Int × (List Int)) := match s with
  | (y2, y3, y4, y5) => cond (decide ((List.length y5 : Int) < a1)) (obind (spec_l1Below (y2, y3, y4) a1) fun v8 => obind (loopF (spec_l16Cols_B2 a1 y5) fz v8.1) fun z11 => chk (List.length y5 + List.length [z11] ≤ lim) (rec (v8.2.1, v8.2.2.1, v8.2.2.2, (y5 ++ [z11])))) (some (y2, y3, y4, y5))
def spec_l16Cols (a0 : Y163) (a1 : Int) : Option ((List Int) × Y163) := obind (loopF (spec_l16Cols_B1 a1) fz (a0.1, a0.2.1, a0.2.2, ([] : List Int))) fun o1 => (match o1 with
  | (z2, z3, z4, z5) => (some (z5, (z2, z3, z4))))
theorem spec_l16Cols_s {a0 : Y163} {a1 : Int} {r : (List Int) × Y163} (h : spec_l16Cols a0 a1 = some r) : PtrAt Tryz.prog 163 [aL cu8 a0.1, nI a0.2.1, nI a0.2.2] [nI a1] [aL cu8 r.2.1, nI r.2.2.1, nI r.2.2.2] (oL 3 ci64 r.1) := by
 unfold spec_l16Cols at h
 refine stp lit163 rfl (rn 1 rfl (rs (qBs ci64 [] rfl rfl rfl zci64 (sp 1 rfl (evn (ls_seq_k fun K1 hK1 => ?_))))))
 obtain ⟨o1, hl, hr1⟩ := ob_some h
 have kXB1 : ∀ {z2 : List Int} {z3 : Int} {z4 : Int} {z5 : List Int}, (z2, z3, z4, z5) = o1 → Jn K1 [(0, .box [aL cu8 z2, nI z3, nI z4]), (5, oL 3 ci64 z5)] := by
  intro z2 z3 z4 z5 h σ' hk
  subst h
  replace h := hr1
  try dsimp only at h
  exact hK1 _ (lh hk rfl (rn 1 rfl (ls_ret ((by cases h; exact ⟨.inl rfl, rfl, rfl⟩)))))
 refine ls_rec (fun (s : (List Int) × Int × Int × (List Int)) => match s with | (y2, y3, y4, y5) => [(0, .box [aL cu8 y2, nI y3, nI y4]), (1, nI a1), (5, oL 3 ci64 y5)]) _ _ _ _ hl (okr rfl) (fun _ => rfl) ?_
 rintro m ⟨y2, y3, y4, y5⟩ N h hN
 unfold spec_l16Cols_B1 at h
 dsimp only at h
 refine ls_seq_k fun K6 hK6 => rn 1 rfl ?_
 rcases cond_some h with ⟨g7, h⟩ | ⟨g7, h⟩
 ·refine qT rfl g7 (ls_skip (hK6 _ (ls_blk (rs (sp 2 rfl (?_))))))
  obtain ⟨v8, g9, h⟩ := ob_some h
  refine qP rfl rfl rfl rfl (qs rfl eran) (spec_l1Below_s g9) (sp 1 rfl (evn (ls_seq_k fun K10 hK10 => ?_)))
  obtain ⟨o2, hl, hr2⟩ := ob_some h
  have kXB2 : ∀ {z11 : Int}, z11 = o2 → Jn K10 [(0, .box (c164_a v8.2)), (1, nI a1), (5, oL 3 ci64 y5), (6, nI z11)] := by
   intro z11 h σ' hk
   subst h
   replace h := hr2
   try dsimp only at h
   refine hK10 _ (lh hk rfl (rg (sp 2 rfl (qBs ci64 [z11] rfl rfl rfl zci64 (?_)))))
   obtain ⟨g17, h⟩ := chk_some h
   exact qA ci64 y5 [z11] rfl rfl (flat_len zci64 [z11]) rfl g17 (sp 1 rfl (evn (hN _ _ h (okr rfl))))
  refine ls_rec (fun (y7 : Int) => [(0, .box (c164_a v8.2)), (1, nI a1), (5, oL 3 ci64 y5), (6, nI y7)]) _ _ _ _ hl (okr rfl) (fun _ => rfl) ?_
  rintro m y7 N h hN
  unfold spec_l16Cols_B2 at h
  refine ls_seq_k fun K12 hK12 => rs (sp 2 rfl (?_))
  obtain ⟨v13, g14, h⟩ := ob_some h
  refine qC (qa rfl (erD eci64 _) (qs rfl eran)) (spec_l7Find_s g14) (sp 1 rfl (evn ?_))
  rcases cond_some h with ⟨g15, h⟩ | ⟨g15, h⟩
  ·refine qT rfl g15 (ls_skip (hK12 _ (ls_blk (rg (sp 3 rfl (?_))))))
   obtain ⟨g16, h⟩ := chk_some h
   exact qB rfl ⟨rfl, g16⟩ rfl (sp 1 rfl (evn (hN _ _ h (okr rfl))))
  ·exact qF rfl g15 (ls_exit (kXB2 (Option.some.inj h) _ (okr rfl)))
 ·exact qF rfl g7 (ls_exit (kXB1 (Option.some.inj h) _ (okr rfl)))
abbrev Y95 := (List UInt8) × (List Int)
abbrev Y29 := Int × (List Y95) × (List Int)
def c96_d (x : Y95) : List V := [.str x.1, dL ci64 x.2]
theorem zc96_d (x : Y95) : (c96_d x).length = 2 := rfl
theorem ec96_d (x : Y95) : erL (c96_d x) = c96_d x := (erc rfl (erc (erD eci64 _) rfl))
def c30_ddd (x : Y29) : List V := [nI x.1, dL c96_d x.2.1, dL ci64 x.2.2]
theorem zc30_ddd (x : Y29) : (c30_ddd x).length = 3 := rfl
theorem ec30_ddd (x : Y29) : erL (c30_ddd x) = c30_ddd x := (erc rfl (erc (erD ec96_d _) (erc (erD eci64 _) rfl)))
def spec_l19Order_J2 (x9 : List Int) (x10 : Int) (x11 : Int) (x12 : List Int) : Option ((List Int) × Y163) := some (x12, (x9, x10, x11))
def spec_l19Order_J1 (v1 : (List Int) × Y163) (x5 : List Int) (x6 : Int) (x7 : Int) (x8 : Bool) : Option ((List Int) × Y163) := cond x8 (chk (0 < List.length v1.1) (obind (spec_l1Below (x5, x6, x7) 6) fun v16 => obind (geti v1.1 0) fun e18 => spec_l19Order_J2 v16.2.1 v16.2.2.1 v16.2.2.2 (seti v1.1 0 v16.1))) (spec_l19Order_J2 x5 x6 x7 v1.1)
def spec_l19Order (a0 : Y163) (a1 : Y29) : Option ((List Int) × Y163) := obind (spec_l16Cols a0 (if 0 < (if a1.1 < 5 then a1.1 else 5) then (if a1.1 < 5 then a1.1 else 5) else 0)) fun v1 => cond (decide (0 < (List.length v1.1 : Int))) (obind (spec_l1Once v1.2 14) fun v21 => spec_l19Order_J1 v1 v21.2.1 v21.2.2.1 v21.2.2.2 v21.1) (spec_l19Order_J1 v1 v1.2.1 v1.2.2.1 v1.2.2.2 false)
theorem spec_l19Order_s {a0 : Y163} {a1 : Y29} {r : (List Int) × Y163} (h : spec_l19Order a0 a1 = some r) : PtrAt Tryz.prog 89 [aL cu8 a0.1, nI a0.2.1, nI a0.2.2] [.agg (c30_ddd a1)] [aL cu8 r.2.1, nI r.2.2.1, nI r.2.2.2] (oL 3 ci64 r.1) := by
 unfold spec_l19Order at h
 refine stp lit89 rfl (rn 1 rfl (rs (sp 5 rfl (?_))))
 obtain ⟨v1, g2, h⟩ := ob_some h
 refine qP rfl rfl rfl rfl (qs rfl eran) (spec_l16Cols_s g2) (sp 1 rfl (evn (ls_seq_k fun K3 hK3 => rk fun K4 hK4 => ?_)))
 have kJ1 : ∀ {x5 : List Int} {x6 : Int} {x7 : Int} {x8 : Bool}, spec_l19Order_J1 v1 x5 x6 x7 x8 = some r → Jn K4 [(0, .box [aL cu8 x5, nI x6, nI x7]), (5, oL 3 ci64 v1.1), (18, .bool x8)] := by
  intro x5 x6 x7 x8 h σ' hk
  unfold spec_l19Order_J1 at h
  refine hK4 _ (lh hk rfl ?_)
  have kJ2 : ∀ {x9 : List Int} {x10 : Int} {x11 : Int} {x12 : List Int}, spec_l19Order_J2 x9 x10 x11 x12 = some r → Jn K3 [(0, .box [aL cu8 x9, nI x10, nI x11]), (5, oL 3 ci64 x12)] := by
   intro x9 x10 x11 x12 h σ' hk
   unfold spec_l19Order_J2 at h
   exact hK3 _ (lh hk rfl (rn 1 rfl (ls_ret ((by cases h; exact ⟨.inl rfl, rfl, rfl⟩)))))
  rcases cond_some h with ⟨g13, h⟩ | ⟨g13, h⟩
  ·refine qT rfl g13 (qk [0, 5] rfl ?_)
   obtain ⟨g14, h⟩ := chk_some h
   refine ls_hg (gLs (q := 900003) (b := 5) rfl rfl rfl g14 ?_)
   intro gg15 mm15
   refine qk [0, 5, 900003] rfl (ls_gh (rg (sp 2 rfl (?_))))
   obtain ⟨v16, g17, h⟩ := ob_some h
   refine qP rfl rfl rfl rfl (qs rfl eran) (spec_l1Below_s g17) (?_)
   obtain ⟨e18, g19, h⟩ := ob_some h
   refine qIt rfl rfl rfl rfl g19 (?_)
   refine qSt (y0 := e18) (i := 0) (es := 1) 0 v16.1 [0, 5] rfl rfl rfl rfl rfl rfl rfl rfl rfl rfl zci64 g19 (fun _ => rfl) (dcc rfl dcn) (yc (snc (sA (aca (fun _ => rfl) _)) (snc rfl (snc rfl rfl))) (yc rfl yn)) (?_)
   exact evn (gDs (q := 900003) (b := 5) rfl rfl rfl (sl rfl) (kJ2 h _ (okr rfl)))
  ·exact qF rfl g13 (ls_skip (kJ2 h _ (okr rfl)))
 refine sp 4 rfl (?_)
 rcases cond_some h with ⟨g20, h⟩ | ⟨g20, h⟩
 ·refine qg 15 g20 rfl (sp 1 rfl (?_))
  obtain ⟨v21, g22, h⟩ := ob_some h
  exact oGR rfl rfl (qP rfl rfl rfl rfl (qs rfl eran) (spec_l1Once_s g22) (sp 1 rfl (evn (kJ1 h _ (okr rfl)))))
 ·exact qg 15 g20 rfl (sp 3 rfl (evn (kJ1 h _ (okr rfl))))
def spec_l1PickInt (a0 : Y163) (a1 : List Int) : Option (Int × Y163) := obind (spec_l1Below a0 (List.length a1 : Int)) fun v1 => obind (geti a1 v1.1) fun e3 => some (e3, v1.2)
theorem spec_l1PickInt_s {a0 : Y163} {a1 : List Int} {r : Int × Y163} (h : spec_l1PickInt a0 a1 = some r) : PtrAt Tryz.prog 155 [aL cu8 a0.1, nI a0.2.1, nI a0.2.2] [dL ci64 a1] [aL cu8 r.2.1, nI r.2.2.1, nI r.2.2.2] (nI r.1) := by
 unfold spec_l1PickInt at h
 refine stp lit155 rfl (rn 1 rfl (rs (sp 4 rfl (?_))))
 obtain ⟨v1, g2, h⟩ := ob_some h
 refine qP rfl rfl rfl rfl (qs rfl eran) (spec_l1Below_s g2) (?_)
 obtain ⟨e3, g4, h⟩ := ob_some h
 exact qI rfl zci64 g4 (sp 2 rfl (evn (ls_ret ((by cases h; exact ⟨.inl rfl, rfl, rfl⟩)))))
def spec_l1In_J1 (x2 : Bool) : Option (Bool) := some x2
def spec_l1In (a0 : Int) (a1 : Int) (a2 : Int) : Option (Bool) := cond (decide (a1 ≤ a0)) (spec_l1In_J1 (decide (a0 ≤ a2))) (spec_l1In_J1 false)
theorem spec_l1In_s {a0 : Int} {a1 : Int} {a2 : Int} {r : Bool} (h : spec_l1In a0 a1 a2 = some r) : SoundAt Tryz.prog 84 [nI a0, nI a1, nI a2] (.bool r) := by
 unfold spec_l1In at h
 refine st lit84 rfl (rn 1 rfl (rk fun K1 hK1 => ?_))
 have kJ1 : ∀ {x2 : Bool}, spec_l1In_J1 x2 = some r → Jn K1 [(6, .bool x2)] := by
  intro x2 h σ' hk
  unfold spec_l1In_J1 at h
  exact hK1 _ (lh hk rfl (ls_ret ((by cases h; exact ⟨.inl rfl, rfl⟩))))
 refine sp 4 rfl (?_)
 rcases cond_some h with ⟨g3, h⟩ | ⟨g3, h⟩
 ·exact qg 10 g3 rfl (sp 5 rfl (evn (kJ1 h _ (okr rfl))))
 ·exact qg 10 g3 rfl (sp 5 rfl (evn (kJ1 h _ (okr rfl))))
def spec_AreValidValues_B1 (a0 : List Int) (rec : Int → Option (Sum (Unit) (Bool))) (y1 : Int) : Option (Sum (Unit) (Bool)) := cond (decide (y1 < (List.length a0 : Int))) (obind (geti a0 y1) fun e5 => obind (spec_l1In e5 0 99) fun v7 => cond (!v7) (some (.inr false)) (rec (IntKind.i64.wrap (y1 + 1)))) (some (.inl ()))
def spec_AreValidValues (a0 : List Int) : Option (Bool) := obind (loopF (spec_AreValidValues_B1 a0) fz 0) fun o1 => (match o1 with
  | .inl _ => (some true)
  | .inr r => some r)
theorem spec_AreValidValues_s {a0 : List Int} {r : Bool} (h : spec_AreValidValues a0 = some r) : SoundAt Tryz.prog 134 [dL ci64 a0] (.bool r) := by
 unfold spec_AreValidValues at h
 refine st lit134 rfl (rn 1 rfl (ls_seq_k fun K1 hK1 => rn 1 rfl ?_))
 obtain ⟨o1, hl, hr1⟩ := ob_some h
 have kXB1 : (.inl ()) = o1 → Jn K1 [] := by
  intro h σ' hk
  subst h
  replace h := hr1
  try dsimp only at h
  exact hK1 _ (lh hk rfl (rn 1 rfl (ls_ret ((by cases h; exact ⟨.inl rfl, rfl⟩)))))
 refine ls_rec (fun (y1 : Int) => [(0, dL ci64 a0), (3, nI y1)]) _ _ _ _ hl (okr rfl) (fun _ => rfl) ?_
 rintro m y1 N h hN
 unfold spec_AreValidValues_B1 at h
 refine ls_seq_k fun K2 hK2 => rn 1 rfl ?_
 rcases cond_some h with ⟨g3, h⟩ | ⟨g3, h⟩
 ·refine qT rfl g3 (ls_skip (hK2 _ (ls_seq_k fun K4 hK4 => ls_blk (rs (sp 2 rfl (?_))))))
  obtain ⟨e5, g6, h⟩ := ob_some h
  refine qI rfl zci64 g6 (sp 1 rfl (?_))
  obtain ⟨v7, g8, h⟩ := ob_some h
  refine qC (qs rfl (qs rfl (qs rfl eran))) (spec_l1In_s g8) (sp 1 rfl (evn ?_))
  rcases cond_some h with ⟨g9, h⟩ | ⟨g9, h⟩
  ·exact qT rfl g9 (rn 1 rfl (ls_ret ((by cases h; cases hr1; exact ⟨.inl rfl, rfl⟩))))
  ·exact qF rfl g9 (ls_skip (hK4 _ (rg (sp 3 rfl (evn (hN _ _ h (okr rfl)))))))
 ·exact qF rfl g3 (ls_exit (kXB1 (Option.some.inj h) _ trivial))
abbrev Y37 := Int × (List (List Int))
def c28_d (x : List Int) : List V := [dL ci64 x]
theorem zc28_d (x : List Int) : (c28_d x).length = 1 := rfl
theorem ec28_d (x : List Int) : erL (c28_d x) = c28_d x := (erc (erD eci64 _) rfl)
def c28_o (x : List Int) : List V := [oL 3 ci64 x]
theorem zc28_o (x : List Int) : (c28_o x).length = 1 := rfl
theorem ec28_o (x : List Int) : erL (c28_o x) = c28_d x := (erc (erO eci64 _) rfl)
def c38_dd (x : Y37) : List V := [nI x.1, dL c28_d x.2]
theorem zc38_dd (x : Y37) : (c38_dd x).length = 2 := rfl
theorem ec38_dd (x : Y37) : erL (c38_dd x) = c38_dd x := (erc rfl (erc (erD ec28_d _) rfl))
def c38_oo (x : Y37) : List V := [nI x.1, oL 28 c28_o x.2]
theorem zc38_oo (x : Y37) : (c38_oo x).length = 2 := rfl
theorem ec38_oo (x : Y37) : erL (c38_oo x) = c38_dd x := (erc rfl (erc (erO ec28_o _) rfl))
def spec_l5Copy_B1 (a0 : Y37) (rec : ((List (List Int)) × Int) → Option ((List (List Int)))) (s : (List (List Int)) × Int) : Option ((List (List Int))) := match s with
  | (y1, y2) => cond (decide (y2 < (List.length a0.2 : Int))) (obind (geti a0.2 y2) fun e6 => chk (List.length ([] : List Int) + List.length e6 ≤ lim) (chk (List.length y1 + List.length ([([] : List Int) ++ e6]) ≤ lim) (rec ((y1 ++ ([([] : List Int) ++ e6])), (IntKind.i64.wrap (y2 + 1)))))) (some y1)
def spec_l5Copy (a0 : Y37) : Option (Y37) := obind (loopF (spec_l5Copy_B1 a0) fz (([] : List (List Int)), 0)) fun z2 => some (a0.1, z2)
theorem spec_l5Copy_s {a0 : Y37} {r : Y37} (h : spec_l5Copy a0 = some r) : SoundAt Tryz.prog 135 [.agg (c38_dd a0)] (.agg (c38_oo r)) := by
 unfold spec_l5Copy at h
 refine st lit135 rfl (rn 2 rfl (ls_seq_k fun K1 hK1 => rn 1 rfl ?_))
 obtain ⟨o1, hl, hr1⟩ := ob_some h
 have kXB1 : ∀ {z2 : List (List Int)}, z2 = o1 → Jn K1 [(2, .box [nI 0, oL 28 c28_o []]), (3, .box [nI a0.1, oL 28 c28_o z2])] := by
  intro z2 h σ' hk
  subst h
  replace h := hr1
  try dsimp only at h
  exact hK1 _ (lh hk rfl (rn 1 rfl (ls_ret ((by cases h; exact ⟨.inl rfl, rfl⟩)))))
 refine ls_rec (fun (s : (List (List Int)) × Int) => match s with | (y1, y2) => [(1, .box [nI a0.1, dL c28_d a0.2]), (2, .box [nI 0, oL 28 c28_o []]), (3, .box [nI a0.1, oL 28 c28_o y1]), (4, nI y2)]) _ _ _ _ hl (okr rfl) (fun _ => rfl) ?_
 rintro m ⟨y1, y2⟩ N h hN
 unfold spec_l5Copy_B1 at h
 dsimp only at h
 refine ls_seq_k fun K3 hK3 => rn 1 rfl ?_
 rcases cond_some h with ⟨g4, h⟩ | ⟨g4, h⟩
 ·refine qT rfl g4 (ls_skip (hK3 _ (ls_seq_k fun K5 hK5 => ls_blk (rgd (by kernel_rfl) (sd 2 rfl (ed rfl (qBs ci64 [] rfl rfl rfl zci64 (sd 3 rfl (?_)))))))))
  obtain ⟨e6, g7, h⟩ := ob_some h
  refine ed rfl (qI rfl zc28_d g7 (sd 1 rfl (?_)))
  obtain ⟨g8, h⟩ := chk_some h
  refine ed rfl (qA ci64 ([] : List Int) e6 rfl rfl (flat_len zci64 e6) (map_dg (fun _ => rfl) _) g8 (ed rfl (qBs c28_o [([] : List Int) ++ e6] rfl rfl rfl zc28_o (?_))))
  obtain ⟨g9, h⟩ := chk_some h
  exact ed rfl (qA c28_o y1 ([([] : List Int) ++ e6]) rfl rfl (flat_len zc28_o ([([] : List Int) ++ e6])) rfl g9 (sd 2 rfl (evdn (hK5 _ (rg (sp 3 rfl (evn (hN _ _ h (okr rfl)))))))))
 ·exact qF rfl g4 (ls_exit (kXB1 (Option.some.inj h) _ (okr rfl)))
def spec_CompareRows_B1 (a0 : List Int) (a1 : List Int) (rec : Int → Option (Sum (Unit) (Int))) (y1 : Int) : Option (Sum (Unit) (Int)) := cond (decide (y1 < (List.length a0 : Int))) (cond (decide (y1 < (List.length a1 : Int))) (obind (geti a0 y1) fun e7 => obind (geti a1 y1) fun e9 => cond (decide (e7 < e9)) (some (.inr (-1))) (obind (geti a0 y1) fun e12 => obind (geti a1 y1) fun e14 => cond (decide (e14 < e12)) (some (.inr 1)) (rec (IntKind.i64.wrap (y1 + 1))))) (some (.inl ()))) (some (.inl ()))
def spec_CompareRows (a0 : List Int) (a1 : List Int) : Option (Int) := obind (loopF (spec_CompareRows_B1 a0 a1) fz 0) fun o1 => (match o1 with
  | .inl _ => (cond (decide ((List.length a0 : Int) < (List.length a1 : Int))) (some (-1)) (cond (decide ((List.length a1 : Int) < (List.length a0 : Int))) (some 1) (some 0)))
  | .inr r => some r)
theorem spec_CompareRows_s {a0 : List Int} {a1 : List Int} {r : Int} (h : spec_CompareRows a0 a1 = some r) : SoundAt Tryz.prog 113 [dL ci64 a0, dL ci64 a1] (nI r) := by
 unfold spec_CompareRows at h
 refine st lit113 rfl (rn 1 rfl (ls_seq_k fun K1 hK1 => rn 1 rfl ?_))
 obtain ⟨o1, hl, hr1⟩ := ob_some h
 have kXB1 : (.inl ()) = o1 → Jn K1 [(0, dL ci64 a0), (1, dL ci64 a1)] := by
  intro h σ' hk
  subst h
  replace h := hr1
  try dsimp only at h
  refine hK1 _ (lh hk rfl (ls_seq_k fun K17 hK17 => rn 1 rfl ?_))
  rcases cond_some h with ⟨g18, h⟩ | ⟨g18, h⟩
  ·exact qT rfl g18 (rn 1 rfl (ls_ret ((by cases h; exact ⟨.inl rfl, rfl⟩))))
  ·refine qF rfl g18 (ls_skip (hK17 _ (ls_seq_k fun K19 hK19 => rn 1 rfl ?_)))
   rcases cond_some h with ⟨g20, h⟩ | ⟨g20, h⟩
   ·exact qT rfl g20 (rn 1 rfl (ls_ret ((by cases h; exact ⟨.inl rfl, rfl⟩))))
   ·exact qF rfl g20 (ls_skip (hK19 _ (rn 1 rfl (ls_ret ((by cases h; exact ⟨.inl rfl, rfl⟩))))))
 refine ls_rec (fun (y1 : Int) => [(0, dL ci64 a0), (1, dL ci64 a1), (5, nI y1)]) _ _ _ _ hl (okr rfl) (fun _ => rfl) ?_
 rintro m y1 N h hN
 unfold spec_CompareRows_B1 at h
 refine ls_seq_k fun K2 hK2 => rs (sp 5 rfl (?_))
 rcases cond_some h with ⟨g3, h⟩ | ⟨g3, h⟩
 ·refine qg 10 g3 rfl (sp 5 rfl (evn ?_))
  rcases cond_some h with ⟨g4, h⟩ | ⟨g4, h⟩
  ·refine qT rfl g4 (ls_skip (hK2 _ (ls_seq_k fun K5 hK5 => ls_blk (ls_seq_k fun K6 hK6 => rd (by kernel_rfl) (sd 2 rfl (?_))))))
   obtain ⟨e7, g8, h⟩ := ob_some h
   refine ed rfl (qI rfl zci64 g8 (sd 3 rfl (?_)))
   obtain ⟨e9, g10, h⟩ := ob_some h
   refine ed rfl (qI rfl zci64 g10 (sd 2 rfl (evdn ?_)))
   rcases cond_some h with ⟨g11, h⟩ | ⟨g11, h⟩
   ·exact qT rfl g11 (rn 1 rfl (ls_ret ((by cases h; cases hr1; exact ⟨.inl rfl, rfl⟩))))
   ·refine qF rfl g11 (ls_skip (hK6 _ (rd (by kernel_rfl) (sd 2 rfl (?_)))))
    obtain ⟨e12, g13, h⟩ := ob_some h
    refine ed rfl (qI rfl zci64 g13 (sd 3 rfl (?_)))
    obtain ⟨e14, g15, h⟩ := ob_some h
    refine ed rfl (qI rfl zci64 g15 (sd 2 rfl (evdn (qk [0, 1, 5, 35] rfl ?_))))
    rcases cond_some h with ⟨g16, h⟩ | ⟨g16, h⟩
    ·exact qT rfl g16 (rn 1 rfl (ls_ret ((by cases h; cases hr1; exact ⟨.inl rfl, rfl⟩))))
    ·exact qF rfl g16 (ls_skip (hK5 _ (rg (sp 3 rfl (evn (hN _ _ h (okr rfl)))))))
  ·exact qF rfl g4 (ls_exit (kXB1 (Option.some.inj h) _ (okr rfl)))
 ·exact qg 10 g3 rfl (sp 5 rfl (evn (qF rfl rfl (ls_exit (kXB1 (Option.some.inj h) _ (okr rfl))))))
def spec_l5Sort_J5 (rec : ((List (List Int)) × (List (List Int)) × (List (List Int))) → Option ((List (List Int)))) (y3 : List (List Int)) (x18 : List (List Int)) (x19 : List (List Int)) (x20 : List Int) (x22 : Bool) : Option ((List (List Int))) := cond x22 (chk (List.length y3 + List.length [x20] ≤ lim) (rec (x18, x19, (y3 ++ [x20])))) (rec (x18, x19, y3))
def spec_l5Sort_J4 (rec : ((List (List Int)) × (List (List Int)) × (List (List Int))) → Option ((List (List Int)))) (y3 : List (List Int)) (x18 : List (List Int)) (x19 : List (List Int)) (x20 : List Int) : Option ((List (List Int))) := cond ((List.length y3 : Int) == 0) (spec_l5Sort_J5 rec y3 x18 x19 x20 true) (obind (geti y3 (IntKind.i64.wrap ((List.length y3 : Int) - 1))) fun e26 => obind (spec_CompareRows e26 x20) fun v28 => spec_l5Sort_J5 rec y3 x18 x19 x20 (v28 != 0))
def spec_l5Sort_J3 (rec : ((List (List Int)) × (List (List Int)) × (List (List Int))) → Option ((List (List Int)))) (y1 : List (List Int)) (y2 : List (List Int)) (y3 : List (List Int)) (x16 : Int) : Option ((List (List Int))) := cond (decide (0 < x16)) (obind (geti y2 0) fun e31 => chk ((0 : Int) ≤ 1 ∧ 1 ≤ (List.length y2 : Int) ∧ (List.length y2 : Int) ≤ (List.length y2 : Int)) (spec_l5Sort_J4 rec y3 y1 (subl y2 1 (List.length y2 : Int)) e31)) (obind (geti y1 0) fun e34 => chk ((0 : Int) ≤ 1 ∧ 1 ≤ (List.length y1 : Int) ∧ (List.length y1 : Int) ≤ (List.length y1 : Int)) (spec_l5Sort_J4 rec y3 (subl y1 1 (List.length y1 : Int)) y2 e34))
def spec_l5Sort_J2 (rec : ((List (List Int)) × (List (List Int)) × (List (List Int))) → Option ((List (List Int)))) (y1 : List (List Int)) (y2 : List (List Int)) (y3 : List (List Int)) (x13 : Bool) : Option ((List (List Int))) := cond x13 (cond ((List.length y1 : Int) == 0) (spec_l5Sort_J3 rec y1 y2 y3 1) (cond (decide (0 < (List.length y2 : Int))) (obind (geti y1 0) fun e39 => obind (geti y2 0) fun e41 => obind (spec_CompareRows e39 e41) fun v43 => spec_l5Sort_J3 rec y1 y2 y3 v43) (spec_l5Sort_J3 rec y1 y2 y3 (-1)))) (some y3)
def spec_l5Sort_B1  (rec : ((List (List Int)) × (List (List Int)) × (List (List Int))) → Option ((List (List Int)))) (s : (List (List Int)) × (List (List Int)) × (List (List Int))) : Option ((List (List Int))) := match s with
  | (y1, y2, y3) => cond (decide (0 < (List.length y1 : Int))) (spec_l5Sort_J2 rec y1 y2 y3 true) (spec_l5Sort_J2 rec y1 y2 y3 (decide (0 < (List.length y2 : Int))))
def spec_l5Sort_R (rec : ((List (List Int))) → Option ((List (List Int)))) (a0 : (List (List Int))) : Option ((List (List Int))) := cond (decide ((List.length a0 : Int) < 2)) (some a0) (chk ((0 : Int) ≤ 0 ∧ 0 ≤ IntKind.i64.wrap (Int.tdiv (List.length a0 : Int) 2) ∧ IntKind.i64.wrap (Int.tdiv (List.length a0 : Int) 2) ≤ (List.length a0 : Int)) (obind (rec (subl a0 0 (IntKind.i64.wrap (Int.tdiv (List.length a0 : Int) 2)))) fun v4 => chk ((0 : Int) ≤ IntKind.i64.wrap (Int.tdiv (List.length a0 : Int) 2) ∧ IntKind.i64.wrap (Int.tdiv (List.length a0 : Int) 2) ≤ (List.length a0 : Int) ∧ (List.length a0 : Int) ≤ (List.length a0 : Int)) (obind (rec (subl a0 (IntKind.i64.wrap (Int.tdiv (List.length a0 : Int) 2)) (List.length a0 : Int))) fun v7 => obind (loopF spec_l5Sort_B1 fz (v4, v7, ([] : List (List Int)))) fun z10 => some z10)))
def spec_l5Sort (a0 : List (List Int)) : Option ((List (List Int))) := loopF spec_l5Sort_R fz a0
theorem spec_l5Sort_s {a0 : List (List Int)} {r : (List (List Int))} (h : spec_l5Sort a0 = some r) : SoundAt Tryz.prog 136 [dL c28_d a0] (dL c28_d r) := by
 suffices key : ∀ mF (a0 : List (List Int)) (r : (List (List Int))), loopF spec_l5Sort_R mF a0 = some r → SoundAt Tryz.prog 136 [dL c28_d a0] (dL c28_d r) from key fz a0 r h
 intro mF
 induction mF with
 | zero => intro a0 r h; cases h
 | succ mF ih0 =>
  intro a0 r h
  have ih : ∀ {a0 : List (List Int)} {r : (List (List Int))}, loopF spec_l5Sort_R mF a0 = some r → SoundAt Tryz.prog 136 [dL c28_d a0] (dL c28_d r) := fun h => ih0 _ _ h
  change spec_l5Sort_R (loopF spec_l5Sort_R mF) a0 = some r at h
  unfold spec_l5Sort_R at h
  try dsimp only at h
  refine st lit136 rfl (rn 1 rfl (ls_seq_k fun K1 hK1 => rn 1 rfl ?_))
  rcases cond_some h with ⟨g2, h⟩ | ⟨g2, h⟩
  ·exact qT rfl g2 (rn 1 rfl (ls_ret ((by cases h; exact ⟨.inl rfl, rfl⟩))))
  ·refine qF rfl g2 (ls_skip (hK1 _ (rn 1 rfl (rs (sp 2 rfl (?_))))))
   obtain ⟨g3, h⟩ := chk_some h
   refine qSl rfl zc28_d g3 (?_)
   obtain ⟨v4, g5, h⟩ := ob_some h
   refine qC (qa rfl (erD ec28_d _) eran) (ih g5) (sp 1 rfl (evn (rs (sp 2 rfl (?_)))))
   obtain ⟨g6, h⟩ := chk_some h
   refine qSl rfl zc28_d g6 (?_)
   obtain ⟨v7, g8, h⟩ := ob_some h
   refine qC (qa rfl (erD ec28_d _) eran) (ih g8) (sp 1 rfl (evn (qk [4, 5] rfl (rs (qBs c28_o [] rfl rfl rfl zc28_o (sp 1 rfl (evn (ls_seq_k fun K9 hK9 => ?_))))))))
   obtain ⟨o1, hl, hr1⟩ := ob_some h
   have kXB1 : ∀ {z10 : List (List Int)}, z10 = o1 → Jn K9 [(6, oL 28 c28_d z10)] := by
    intro z10 h σ' hk
    subst h
    replace h := hr1
    try dsimp only at h
    exact hK9 _ (lh hk rfl (rn 1 rfl (ls_keep [(2, dL c28_d z10)] ⟨(ke rfl (erO ec28_d _)), trivial⟩ rfl (ls_ret ((by cases h; exact ⟨.inl rfl, rfl⟩))))))
   refine ls_rec (fun (s : (List (List Int)) × (List (List Int)) × (List (List Int))) => match s with | (y1, y2, y3) => [(4, dL c28_d y1), (5, dL c28_d y2), (6, oL 28 c28_d y3)]) _ _ _ _ hl (okr rfl) (fun _ => rfl) ?_
   rintro m ⟨y1, y2, y3⟩ N h hN
   unfold spec_l5Sort_B1 at h
   dsimp only at h
   refine ls_seq_k fun K11 hK11 => rk fun K12 hK12 => ?_
   have kJ2 : ∀ {x13 : Bool}, spec_l5Sort_J2 (loopF spec_l5Sort_B1 m) y1 y2 y3 x13 = some o1 → Jn K12 [(4, dL c28_d y1), (5, dL c28_d y2), (6, oL 28 c28_d y3), (32, .bool x13)] := by
    intro x13 h σ' hk
    unfold spec_l5Sort_J2 at h
    refine hK12 _ (lh hk rfl ?_)
    rcases cond_some h with ⟨g14, h⟩ | ⟨g14, h⟩
    ·refine qT rfl g14 (ls_skip (hK11 _ (ls_blk (rn 1 rfl (ls_seq_k fun K15 hK15 => ls_blk (rn 1 rfl ?_))))))
     have kJ3 : ∀ {x16 : Int}, spec_l5Sort_J3 (loopF spec_l5Sort_B1 m) y1 y2 y3 x16 = some o1 → Jn K15 [(4, dL c28_d y1), (5, dL c28_d y2), (6, oL 28 c28_d y3), (7, nI x16)] := by
      intro x16 h σ' hk
      unfold spec_l5Sort_J3 at h
      refine hK15 _ (lh hk rfl (rs (qBs ci64 [] rfl rfl rfl zci64 (sp 1 rfl (evn (ls_seq_k fun K17 hK17 => rn 1 rfl ?_))))))
      have kJ4 : ∀ {x18 : List (List Int)} {x19 : List (List Int)} {x20 : List Int}, spec_l5Sort_J4 (loopF spec_l5Sort_B1 m) y3 x18 x19 x20 = some o1 → Jn K17 [(4, dL c28_d x18), (5, dL c28_d x19), (6, oL 28 c28_d y3), (8, dL ci64 x20)] := by
       intro x18 x19 x20 h σ' hk
       unfold spec_l5Sort_J4 at h
       refine hK17 _ (lh hk rfl (rk fun K21 hK21 => ?_))
       have kJ5 : ∀ {x22 : Bool}, spec_l5Sort_J5 (loopF spec_l5Sort_B1 m) y3 x18 x19 x20 x22 = some o1 → Jn K21 [(4, dL c28_d x18), (5, dL c28_d x19), (6, oL 28 c28_d y3), (8, dL ci64 x20), (74, .bool x22)] := by
        intro x22 h σ' hk
        unfold spec_l5Sort_J5 at h
        refine hK21 _ (lh hk rfl ?_)
        rcases cond_some h with ⟨g23, h⟩ | ⟨g23, h⟩
        ·refine qT rfl g23 (rg (sp 2 rfl (qBs c28_d [x20] rfl rfl rfl zc28_d (?_))))
         obtain ⟨g24, h⟩ := chk_some h
         exact qA c28_d y3 [x20] rfl rfl (flat_len zc28_d [x20]) rfl g24 (sp 1 rfl (evn (hN _ _ h (okr rfl))))
        ·exact qF rfl g23 (ls_skip (hN _ _ h (okr rfl)))
       refine sp 4 rfl (?_)
       rcases cond_some h with ⟨g25, h⟩ | ⟨g25, h⟩
       ·exact qg 64 g25 rfl (sp 10 rfl (evn (kJ5 h _ (okr rfl))))
       ·refine qg 64 g25 rfl (sp 4 rfl (?_))
        obtain ⟨e26, g27, h⟩ := ob_some h
        refine oGR rfl rfl (qI rfl zc28_d g27 (sp 2 rfl (?_)))
        obtain ⟨v28, g29, h⟩ := ob_some h
        exact oGR rfl rfl (qC (qa rfl (erD eci64 _) (qa rfl (erD eci64 _) eran)) (spec_CompareRows_s g29) (sp 2 rfl (evn (kJ5 h _ (okr rfl)))))
      rcases cond_some h with ⟨g30, h⟩ | ⟨g30, h⟩
      ·refine qT rfl g30 (rs (sp 1 rfl (?_)))
       obtain ⟨e31, g32, h⟩ := ob_some h
       refine qI rfl zc28_d g32 (sp 2 rfl (evn (qk [4, 5, 6, 8] rfl (rg (sp 1 rfl (?_))))))
       obtain ⟨g33, h⟩ := chk_some h
       exact qSl rfl zc28_d g33 (sp 1 rfl (evn (kJ4 h _ (okr rfl))))
      ·refine qF rfl g30 (rs (sp 1 rfl (?_)))
       obtain ⟨e34, g35, h⟩ := ob_some h
       refine qI rfl zc28_d g35 (sp 2 rfl (evn (rg (sp 1 rfl (?_)))))
       obtain ⟨g36, h⟩ := chk_some h
       exact qSl rfl zc28_d g36 (sp 1 rfl (evn (kJ4 h _ (okr rfl))))
     rcases cond_some h with ⟨g37, h⟩ | ⟨g37, h⟩
     ·exact qT rfl g37 (rg (sp 1 rfl (evn (kJ3 h _ (okr rfl)))))
     ·refine qF rfl g37 (rn 1 rfl ?_)
      rcases cond_some h with ⟨g38, h⟩ | ⟨g38, h⟩
      ·refine qT rfl g38 (rgd (by kernel_rfl) (sd 1 rfl (?_)))
       obtain ⟨e39, g40, h⟩ := ob_some h
       refine ed rfl (qI rfl zc28_d g40 (sd 2 rfl (?_)))
       obtain ⟨e41, g42, h⟩ := ob_some h
       refine ed rfl (qI rfl zc28_d g42 (sd 1 rfl (?_)))
       obtain ⟨v43, g44, h⟩ := ob_some h
       exact ed rfl (qC (qa rfl (erD eci64 _) (qa rfl (erD eci64 _) eran)) (spec_CompareRows_s g44) (sd 1 rfl (evdn (kJ3 h _ (okr rfl)))))
      ·exact qF rfl g38 (rg (sp 1 rfl (evn (kJ3 h _ (okr rfl)))))
    ·exact qF rfl g14 (ls_exit (kXB1 (Option.some.inj h) _ (okr rfl)))
   refine sp 4 rfl (?_)
   rcases cond_some h with ⟨g45, h⟩ | ⟨g45, h⟩
   ·exact qg 28 g45 rfl (sp 4 rfl (evn (kJ2 h _ (okr rfl))))
   ·exact qg 28 g45 rfl (sp 4 rfl (evn (kJ2 h _ (okr rfl))))
def spec_IsValidRelation_J2 (rec : Int → Option (Sum (Unit) (Bool))) (y1 : Int) (x11 : Bool) : Option (Sum (Unit) (Bool)) := cond x11 (some (.inr false)) (rec (IntKind.i64.wrap (y1 + 1)))
def spec_IsValidRelation_B1 (a0 : Y37) (rec : Int → Option (Sum (Unit) (Bool))) (y1 : Int) : Option (Sum (Unit) (Bool)) := cond (decide (y1 < (List.length a0.2 : Int))) (obind (geti a0.2 y1) fun e13 => cond ((List.length e13 : Int) != a0.1) (spec_IsValidRelation_J2 rec y1 true) (obind (geti a0.2 y1) fun e16 => obind (spec_AreValidValues e16) fun v18 => cond (!v18) (spec_IsValidRelation_J2 rec y1 true) (cond (decide (0 < y1)) (obind (geti a0.2 (IntKind.i64.wrap (y1 - 1))) fun e22 => obind (geti a0.2 y1) fun e24 => obind (spec_CompareRows e22 e24) fun v26 => spec_IsValidRelation_J2 rec y1 (decide (0 ≤ v26))) (spec_IsValidRelation_J2 rec y1 false)))) (some (.inl ()))
def spec_IsValidRelation (a0 : Y37) : Option (Bool) := obind (spec_l1In a0.1 0 5) fun v2 => cond (!v2) (some false) (cond (decide (4000 < (List.length a0.2 : Int))) (some false) (obind (loopF (spec_IsValidRelation_B1 a0) fz 0) fun o1 => (match o1 with
  | .inl _ => (some true)
  | .inr r => some r)))
theorem spec_IsValidRelation_s {a0 : Y37} {r : Bool} (h : spec_IsValidRelation a0 = some r) : SoundAt Tryz.prog 137 [.agg (c38_dd a0)] (.bool r) := by
 unfold spec_IsValidRelation at h
 refine st lit137 rfl (rn 1 rfl (ls_seq_k fun K1 hK1 => rs (sp 2 rfl (?_))))
 obtain ⟨v2, g3, h⟩ := ob_some h
 refine qC (qs rfl (qs rfl (qs rfl eran))) (spec_l1In_s g3) (sp 2 rfl (?_))
 rcases cond_some h with ⟨g4, h⟩ | ⟨g4, h⟩
 ·exact qg 8 g4 rfl (sp 5 rfl (evn (qT rfl rfl (rn 1 rfl (ls_ret ((by cases h; exact ⟨.inl rfl, rfl⟩)))))))
 ·refine qg 8 g4 rfl (sp 5 rfl (evn ?_))
  rcases cond_some h with ⟨g5, h⟩ | ⟨g5, h⟩
  ·exact qT rfl g5 (rn 1 rfl (ls_ret ((by cases h; exact ⟨.inl rfl, rfl⟩))))
  ·refine qF rfl g5 (ls_skip (hK1 _ (qk [1] rfl (ls_seq_k fun K6 hK6 => rn 1 rfl ?_))))
   obtain ⟨o1, hl, hr1⟩ := ob_some h
   have kXB1 : (.inl ()) = o1 → Jn K6 [] := by
    intro h σ' hk
    subst h
    replace h := hr1
    try dsimp only at h
    exact hK6 _ (lh hk rfl (rn 1 rfl (ls_ret ((by cases h; exact ⟨.inl rfl, rfl⟩)))))
   refine ls_rec (fun (y1 : Int) => [(1, .box [nI a0.1, dL c28_d a0.2]), (3, nI y1)]) _ _ _ _ hl (okr rfl) (fun _ => rfl) ?_
   rintro m y1 N h hN
   unfold spec_IsValidRelation_B1 at h
   refine ls_seq_k fun K7 hK7 => rn 1 rfl ?_
   rcases cond_some h with ⟨g8, h⟩ | ⟨g8, h⟩
   ·refine qT rfl g8 (ls_skip (hK7 _ (ls_seq_k fun K9 hK9 => ls_blk (rdk (by kernel_rfl) fun K10 hK10 => ?_))))
    have kJ2 : ∀ {x11 : Bool}, spec_IsValidRelation_J2 (loopF (spec_IsValidRelation_B1 a0) m) y1 x11 = some o1 → Jn K10 [(1, .box [nI a0.1, dL c28_d a0.2]), (3, nI y1), (57, .bool x11)] := by
     intro x11 h σ' hk
     unfold spec_IsValidRelation_J2 at h
     refine hK10 _ (lh hk rfl ?_)
     rcases cond_some h with ⟨g12, h⟩ | ⟨g12, h⟩
     ·exact qT rfl g12 (rn 1 rfl (ls_ret ((by cases h; cases hr1; exact ⟨.inl rfl, rfl⟩))))
     ·exact qF rfl g12 (ls_skip (hK9 _ (rg (sp 3 rfl (evn (hN _ _ h (okr rfl)))))))
    refine sd 3 rfl (?_)
    obtain ⟨e13, g14, h⟩ := ob_some h
    refine ed rfl (qI rfl zc28_d g14 (sd 6 rfl (?_)))
    rcases cond_some h with ⟨g15, h⟩ | ⟨g15, h⟩
    ·exact qgd 30 g15 rfl (sd 27 rfl (evdn (kJ2 h _ (okr rfl))))
    ·refine qgd 30 g15 rfl (sd 3 rfl (?_))
     obtain ⟨e16, g17, h⟩ := ob_some h
     refine ed rfl (oGR rfl rfl (qI rfl zc28_d g17 (sd 1 rfl (?_))))
     obtain ⟨v18, g19, h⟩ := ob_some h
     refine ed rfl (oGR rfl rfl (qC (qa rfl (erD eci64 _) eran) (spec_AreValidValues_s g19) (sd 3 rfl (?_))))
     rcases cond_some h with ⟨g20, h⟩ | ⟨g20, h⟩
     ·exact qgd 39 g20 rfl (sd 18 rfl (evdn (kJ2 h _ (okr rfl))))
     ·refine qgd 39 g20 rfl (sd 3 rfl (?_))
      rcases cond_some h with ⟨g21, h⟩ | ⟨g21, h⟩
      ·refine qgd 42 g21 rfl (sd 4 rfl (?_))
       obtain ⟨e22, g23, h⟩ := ob_some h
       refine ed rfl (oGR rfl rfl (qI rfl zc28_d g23 (sd 4 rfl (?_))))
       obtain ⟨e24, g25, h⟩ := ob_some h
       refine ed rfl (oGR rfl rfl (qI rfl zc28_d g25 (sd 1 rfl (?_))))
       obtain ⟨v26, g27, h⟩ := ob_some h
       exact ed rfl (oGR rfl rfl (qC (qa rfl (erD eci64 _) (qa rfl (erD eci64 _) eran)) (spec_CompareRows_s g27) (sd 3 rfl (evdn (kJ2 h _ (okr rfl))))))
      ·exact qgd 42 g21 rfl (sd 15 rfl (evdn (kJ2 h _ (okr rfl))))
   ·exact qF rfl g8 (ls_exit (kXB1 (Option.some.inj h) _ trivial))
def spec_NewRelation_B1 (a0 : Int) (a1 : List (List Int)) (rec : Int → Option (Sum (Unit) (Y37 × Bool))) (y1 : Int) : Option (Sum (Unit) (Y37 × Bool)) := cond (decide (y1 < (List.length a1 : Int))) (obind (geti a1 y1) fun e5 => cond ((List.length e5 : Int) != a0) (some (.inr ((0, []), false))) (obind (geti a1 y1) fun e8 => obind (spec_AreValidValues e8) fun v10 => cond (!v10) (some (.inr ((0, []), false))) (rec (IntKind.i64.wrap (y1 + 1))))) (some (.inl ()))
def spec_NewRelation (a0 : Int) (a1 : List (List Int)) : Option (Y37 × Bool) := obind (loopF (spec_NewRelation_B1 a0 a1) fz 0) fun o1 => (match o1 with
  | .inl _ => (obind (spec_l5Sort a1) fun v13 => obind (spec_l5Copy (a0, v13)) fun v15 => obind (spec_IsValidRelation v15) fun v18 => cond (!v18) (some ((0, []), false)) (some (v15, true)))
  | .inr r => some r)
theorem spec_NewRelation_s {a0 : Int} {a1 : List (List Int)} {r : Y37 × Bool} (h : spec_NewRelation a0 a1 = some r) : SoundAt Tryz.prog 60 [nI a0, dL c28_d a1] (.tup [.agg (c38_oo r.1), .bool r.2]) := by
 unfold spec_NewRelation at h
 refine st lit60 rfl (rn 1 rfl (ls_seq_k fun K1 hK1 => rn 1 rfl ?_))
 obtain ⟨o1, hl, hr1⟩ := ob_some h
 have kXB1 : (.inl ()) = o1 → Jn K1 [(0, nI a0), (1, dL c28_d a1), (4, .box [nI 0, oL 28 c28_o []])] := by
  intro h σ' hk
  subst h
  replace h := hr1
  try dsimp only at h
  refine hK1 _ (lh hk rfl (rs (sp 2 rfl (?_))))
  obtain ⟨v13, g14, h⟩ := ob_some h
  refine qC (qa rfl (erD ec28_d _) eran) (spec_l5Sort_s g14) (sp 1 rfl (?_))
  obtain ⟨v15, g16, h⟩ := ob_some h
  refine qC (qa rfl (erg (erc rfl (erc (erD ec28_d _) rfl))) eran) (spec_l5Copy_s g16) (sp 2 rfl (evn (ls_seq_k fun K17 hK17 => rs (sp 1 rfl (?_)))))
  obtain ⟨v18, g19, h⟩ := ob_some h
  refine qC (qa rfl (erg (erc rfl (erc (erD ec28_o _) rfl))) eran) (spec_IsValidRelation_s g19) (sp 1 rfl (evn ?_))
  rcases cond_some h with ⟨g20, h⟩ | ⟨g20, h⟩
  ·exact qT rfl g20 (rn 1 rfl (ls_ret ((by cases h; exact ⟨.inl rfl, rfl⟩))))
  ·exact qF rfl g20 (ls_skip (hK17 _ (rn 1 rfl (ls_ret ((by cases h; exact ⟨.inl rfl, rfl⟩))))))
 refine ls_rec (fun (y1 : Int) => [(0, nI a0), (1, dL c28_d a1), (4, .box [nI 0, oL 28 c28_o []]), (6, nI y1)]) _ _ _ _ hl (okr rfl) (fun _ => rfl) ?_
 rintro m y1 N h hN
 unfold spec_NewRelation_B1 at h
 refine ls_seq_k fun K2 hK2 => rn 1 rfl ?_
 rcases cond_some h with ⟨g3, h⟩ | ⟨g3, h⟩
 ·refine qT rfl g3 (ls_skip (hK2 _ (ls_seq_k fun K4 hK4 => ls_blk (rs (sp 2 rfl (?_))))))
  obtain ⟨e5, g6, h⟩ := ob_some h
  refine qI rfl zc28_d g6 (sp 5 rfl (?_))
  rcases cond_some h with ⟨g7, h⟩ | ⟨g7, h⟩
  ·exact qg 21 g7 rfl (sp 7 rfl (evn (qT rfl rfl (rn 1 rfl (ls_ret ((by cases h; cases hr1; exact ⟨.inl rfl, rfl⟩)))))))
  ·refine qg 21 g7 rfl (sp 2 rfl (?_))
   obtain ⟨e8, g9, h⟩ := ob_some h
   refine oGR rfl rfl (qI rfl zc28_d g9 (sp 1 rfl (?_)))
   obtain ⟨v10, g11, h⟩ := ob_some h
   refine oGR rfl rfl (qC (qa rfl (erD eci64 _) eran) (spec_AreValidValues_s g11) (sp 2 rfl (evn (qk [0, 1, 4, 6, 28] rfl ?_))))
   rcases cond_some h with ⟨g12, h⟩ | ⟨g12, h⟩
   ·exact qT rfl g12 (rn 1 rfl (ls_ret ((by cases h; cases hr1; exact ⟨.inl rfl, rfl⟩))))
   ·exact qF rfl g12 (ls_skip (hK4 _ (rg (sp 3 rfl (evn (hN _ _ h (okr rfl)))))))
 ·exact qF rfl g3 (ls_exit (kXB1 (Option.some.inj h) _ (okr rfl)))
def spec_l4Row_B1 (a1 : Int) (a2 : Int) (rec : ((List Int) × Int × Int × (List Int)) → Option ((List Int) × Int × Int × (List Int))) (s : (List Int) × Int × Int × (List Int)) : Option ((List Int) × Int × Int × (List Int)) := match s with
  | (y1, y2, y3, y4) => cond (decide ((List.length y4 : Int) < a1)) (obind (spec_l1Below (y1, y2, y3) a2) fun v8 => chk (List.length y4 + List.length [v8.1] ≤ lim) (rec (v8.2.1, v8.2.2.1, v8.2.2.2, (y4 ++ [v8.1])))) (some (y1, y2, y3, y4))
def spec_l4Row (a0 : Y163) (a1 : Int) (a2 : Int) : Option ((List Int) × Y163) := obind (loopF (spec_l4Row_B1 a1 a2) fz (a0.1, a0.2.1, a0.2.2, ([] : List Int))) fun o1 => (match o1 with
  | (z2, z3, z4, z5) => (some (z5, (z2, z3, z4))))
theorem spec_l4Row_s {a0 : Y163} {a1 : Int} {a2 : Int} {r : (List Int) × Y163} (h : spec_l4Row a0 a1 a2 = some r) : PtrAt Tryz.prog 198 [aL cu8 a0.1, nI a0.2.1, nI a0.2.2] [nI a1, nI a2] [aL cu8 r.2.1, nI r.2.2.1, nI r.2.2.2] (oL 3 ci64 r.1) := by
 unfold spec_l4Row at h
 refine stp lit198 rfl (rn 1 rfl (rs (qBs ci64 [] rfl rfl rfl zci64 (sp 1 rfl (evn (ls_seq_k fun K1 hK1 => ?_))))))
 obtain ⟨o1, hl, hr1⟩ := ob_some h
 have kXB1 : ∀ {z2 : List Int} {z3 : Int} {z4 : Int} {z5 : List Int}, (z2, z3, z4, z5) = o1 → Jn K1 [(0, .box [aL cu8 z2, nI z3, nI z4]), (7, oL 3 ci64 z5)] := by
  intro z2 z3 z4 z5 h σ' hk
  subst h
  replace h := hr1
  try dsimp only at h
  exact hK1 _ (lh hk rfl (rn 1 rfl (ls_ret ((by cases h; exact ⟨.inl rfl, rfl, rfl⟩)))))
 refine ls_rec (fun (s : (List Int) × Int × Int × (List Int)) => match s with | (y1, y2, y3, y4) => [(0, .box [aL cu8 y1, nI y2, nI y3]), (1, nI a1), (2, nI a2), (7, oL 3 ci64 y4)]) _ _ _ _ hl (okr rfl) (fun _ => rfl) ?_
 rintro m ⟨y1, y2, y3, y4⟩ N h hN
 unfold spec_l4Row_B1 at h
 dsimp only at h
 refine ls_seq_k fun K6 hK6 => rn 1 rfl ?_
 rcases cond_some h with ⟨g7, h⟩ | ⟨g7, h⟩
 ·refine qT rfl g7 (ls_skip (hK6 _ (ls_blk (rg (sp 3 rfl (?_))))))
  obtain ⟨v8, g9, h⟩ := ob_some h
  refine qP rfl rfl rfl rfl (qs rfl eran) (spec_l1Below_s g9) (qBs ci64 [v8.1] rfl rfl rfl zci64 (?_))
  obtain ⟨g10, h⟩ := chk_some h
  exact qA ci64 y4 [v8.1] rfl rfl (flat_len zci64 [v8.1]) rfl g10 (sp 1 rfl (evn (hN _ _ h (okr rfl))))
 ·exact qF rfl g7 (ls_exit (kXB1 (Option.some.inj h) _ (okr rfl)))
def spec_l5Rel_B1 (a1 : Int) (a3 : Int) (rec : ((List Int) × Int × Int × (List (List Int)) × Int) → Option ((List Int) × Int × Int × (List (List Int)))) (s : (List Int) × Int × Int × (List (List Int)) × Int) : Option ((List Int) × Int × Int × (List (List Int))) := match s with
  | (y1, y2, y3, y4, y5) => cond (decide (0 < y5)) (obind (spec_l4Row (y1, y2, y3) a1 a3) fun v11 => chk (List.length y4 + List.length [v11.1] ≤ lim) (rec (v11.2.1, v11.2.2.1, v11.2.2.2, (y4 ++ [v11.1]), (IntKind.i64.wrap (y5 - 1))))) (some (y1, y2, y3, y4))
def spec_l5Rel (a0 : Y163) (a1 : Int) (a2 : Int) (a3 : Int) : Option (Y37 × Y163) := obind (spec_l1Below a0 (IntKind.i64.wrap (a2 + 1))) fun v2 => obind (loopF (spec_l5Rel_B1 a1 a3) fz (v2.2.1, v2.2.2.1, v2.2.2.2, ([] : List (List Int)), v2.1)) fun o1 => (match o1 with
  | (z4, z5, z6, z7) => (obind (spec_NewRelation a1 z7) fun v14 => some (v14.1, (z4, z5, z6))))
theorem spec_l5Rel_s {a0 : Y163} {a1 : Int} {a2 : Int} {a3 : Int} {r : Y37 × Y163} (h : spec_l5Rel a0 a1 a2 a3 = some r) : PtrAt Tryz.prog 197 [aL cu8 a0.1, nI a0.2.1, nI a0.2.2] [nI a1, nI a2, nI a3] [aL cu8 r.2.1, nI r.2.2.1, nI r.2.2.2] (.agg (c38_oo r.1)) := by
 unfold spec_l5Rel at h
 refine stp lit197 rfl (rn 1 rfl (rs (qBs c28_o [] rfl rfl rfl zc28_o (sp 1 rfl (evn (ls_seq_k fun K1 hK1 => rs (sp 3 rfl (?_))))))))
 obtain ⟨v2, g3, h⟩ := ob_some h
 refine qP rfl rfl rfl rfl (qs rfl eran) (spec_l1Below_s g3) (sp 1 rfl (evn ?_))
 obtain ⟨o1, hl, hr1⟩ := ob_some h
 have kXB1 : ∀ {z4 : List Int} {z5 : Int} {z6 : Int} {z7 : List (List Int)}, (z4, z5, z6, z7) = o1 → Jn K1 [(0, .box [aL cu8 z4, nI z5, nI z6]), (1, nI a1), (8, .box [nI 0, oL 28 c28_o []]), (9, oL 28 c28_o z7)] := by
  intro z4 z5 z6 z7 h σ' hk
  subst h
  replace h := hr1
  try dsimp only at h
  refine hK1 _ (lh hk rfl (rs (sp 2 rfl (?_))))
  obtain ⟨v14, g15, h⟩ := ob_some h
  exact qC (qs rfl (qa rfl (erD ec28_o _) eran)) (spec_NewRelation_s g15) (sp 6 rfl (evn (rn 1 rfl (ls_ret ((by cases h; exact ⟨.inl rfl, rfl, rfl⟩))))))
 refine ls_rec (fun (s : (List Int) × Int × Int × (List (List Int)) × Int) => match s with | (y1, y2, y3, y4, y5) => [(0, .box [aL cu8 y1, nI y2, nI y3]), (1, nI a1), (3, nI a3), (8, .box [nI 0, oL 28 c28_o []]), (9, oL 28 c28_o y4), (10, nI y5)]) _ _ _ _ hl (okr rfl) (fun _ => rfl) ?_
 rintro m ⟨y1, y2, y3, y4, y5⟩ N h hN
 unfold spec_l5Rel_B1 at h
 dsimp only at h
 refine ls_seq_k fun K8 hK8 => rn 1 rfl ?_
 rcases cond_some h with ⟨g9, h⟩ | ⟨g9, h⟩
 ·refine qT rfl g9 (ls_skip (hK8 _ (ls_seq_k fun K10 hK10 => ls_blk (rg (sp 4 rfl (?_))))))
  obtain ⟨v11, g12, h⟩ := ob_some h
  refine qP rfl rfl rfl rfl (qs rfl (qs rfl eran)) (spec_l4Row_s g12) (qBs c28_o [v11.1] rfl rfl rfl zc28_o (?_))
  obtain ⟨g13, h⟩ := chk_some h
  exact qA c28_o y4 [v11.1] rfl rfl (flat_len zc28_o [v11.1]) rfl g13 (sp 1 rfl (evn (hK10 _ (rg (sp 3 rfl (evn (hN _ _ h (okr rfl))))))))
 ·exact qF rfl g9 (ls_exit (kXB1 (Option.some.inj h) _ (okr rfl)))
abbrev Y108 := (List UInt8) × Y37
def c109_dd (x : Y108) : List V := [.str x.1, nI x.2.1, dL c28_d x.2.2]
theorem zc109_dd (x : Y108) : (c109_dd x).length = 3 := rfl
theorem ec109_dd (x : Y108) : erL (c109_dd x) = c109_dd x := (erc rfl (erc rfl (erc (erD ec28_d _) rfl)))
def c109_oo (x : Y108) : List V := [.str x.1, nI x.2.1, oL 28 c28_o x.2.2]
theorem zc109_oo (x : Y108) : (c109_oo x).length = 3 := rfl
theorem ec109_oo (x : Y108) : erL (c109_oo x) = c109_dd x := (erc rfl (erc rfl (erc (erO ec28_o _) rfl)))
theorem dkc28_o (x : List Int) : deepL (c28_o x) = true := (dcc (dco (fun _ => rfl) 3 _) dcn)
theorem dkc109_oo (x : Y108) : deepL (c109_oo x) = true := (dcc rfl (dcc rfl (dcc (dco dkc28_o 28 _) dcn)))
def spec_l6Db_J2 (rec : ((List Int) × Int × Int × (List Y108) × Int) → Option ((List Int) × Int × Int × (List Y108))) (v1 : Int × Y163) (y1 : List Int) (y2 : Int) (y3 : Int) (y4 : List Y108) (y5 : Int) (e11 : List UInt8) (x14 : Int) : Option ((List Int) × Int × Int × (List Y108)) := obind (spec_l1PickInt (y1, y2, y3) [3, 6, 9]) fun v15 => obind (spec_l5Rel v15.2 x14 v15.1 v1.1) fun v17 => chk (List.length y4 + List.length [(e11, v17.1)] ≤ lim) (rec (v17.2.1, v17.2.2.1, v17.2.2.2, (y4 ++ [(e11, v17.1)]), (IntKind.i64.wrap (y5 + 1))))
def spec_l6Db_B1 (v1 : Int × Y163) (rec : ((List Int) × Int × Int × (List Y108) × Int) → Option ((List Int) × Int × Int × (List Y108))) (s : (List Int) × Int × Int × (List Y108) × Int) : Option ((List Int) × Int × Int × (List Y108)) := match s with
  | (y1, y2, y3, y4, y5) => cond (decide (y5 < (List.length ([[114], [115], [116], [117], [118]]) : Int))) (obind (geti ([[114], [115], [116], [117], [118]]) y5) fun e11 => cond (e11 == [118]) (spec_l6Db_J2 rec v1 y1 y2 y3 y4 y5 e11 3) (spec_l6Db_J2 rec v1 y1 y2 y3 y4 y5 e11 2)) (some (y1, y2, y3, y4))
def spec_l6Db_J3 (x24 : List Int) (x25 : Int) (x26 : Int) (x27 : List Y108) : Option ((List Y108) × Y163) := some (x27, (x24, x25, x26))
def spec_l6Db (a0 : Y163) : Option ((List Y108) × Y163) := obind (spec_l1PickInt a0 [2, 3, 4, 6]) fun v1 => obind (loopF (spec_l6Db_B1 v1) fz (v1.2.1, v1.2.2.1, v1.2.2.2, ([] : List Y108), 0)) fun o1 => (match o1 with
  | (z4, z5, z6, z7) => (obind (spec_l1Once (z4, z5, z6) 8) fun v22 => cond v22.1 (chk (0 < List.length z7) (obind (spec_l1Below v22.2 5) fun v31 => obind (geti z7 v31.1) fun e33 => spec_l6Db_J3 v31.2.1 v31.2.2.1 v31.2.2.2 (seti z7 v31.1 (e33.1, (e33.2.1, []))))) (spec_l6Db_J3 v22.2.1 v22.2.2.1 v22.2.2.2 z7)))
theorem spec_l6Db_s {a0 : Y163} {r : (List Y108) × Y163} (h : spec_l6Db a0 = some r) : PtrAt Tryz.prog 130 [aL cu8 a0.1, nI a0.2.1, nI a0.2.2] [] [aL cu8 r.2.1, nI r.2.2.1, nI r.2.2.2] (.agg [oL 109 c109_oo r.1]) := by
 unfold spec_l6Db at h
 refine stp lit130 rfl (rn 1 rfl (rs (sp 1 rfl (qBk ci64 [2, 3, 4, 6] 3 1 (by kernel_rfl) rfl zci64 (?_)))))
 obtain ⟨v1, g2, h⟩ := ob_some h
 refine qP rfl rfl rfl rfl (qa rfl (erO eci64 _) eran) (spec_l1PickInt_s g2) (sp 1 rfl (evn (rn 1 rfl (ls_seq_k fun K3 hK3 => rs (qBk cst [[114], [115], [116], [117], [118]] 9 1 (by kernel_rfl) rfl zcst (sp 2 rfl (evn ?_)))))))
 obtain ⟨o1, hl, hr1⟩ := ob_some h
 have kXB1 : ∀ {z4 : List Int} {z5 : Int} {z6 : Int} {z7 : List Y108}, (z4, z5, z6, z7) = o1 → Jn K3 [(0, .box [aL cu8 z4, nI z5, nI z6]), (2, .box [oL 109 c109_oo []]), (4, .box [oL 109 c109_oo z7])] := by
  intro z4 z5 z6 z7 h σ' hk
  subst h
  replace h := hr1
  try dsimp only at h
  refine hK3 _ (lh hk rfl (ls_seq_k fun K21 hK21 => rs (sp 1 rfl (?_))))
  obtain ⟨v22, g23, h⟩ := ob_some h
  refine qP rfl rfl rfl rfl (qs rfl eran) (spec_l1Once_s g23) (evn ?_)
  have kJ3 : ∀ {x24 : List Int} {x25 : Int} {x26 : Int} {x27 : List Y108}, spec_l6Db_J3 x24 x25 x26 x27 = some r → Jn K21 [(0, .box [aL cu8 x24, nI x25, nI x26]), (2, .box [oL 109 c109_oo []]), (4, .box [oL 109 c109_oo x27])] := by
   intro x24 x25 x26 x27 h σ' hk
   unfold spec_l6Db_J3 at h
   exact hK21 _ (lh hk rfl (rn 1 rfl (ls_ret ((by cases h; exact ⟨.inl rfl, rfl, rfl⟩)))))
  rcases cond_some h with ⟨g28, h⟩ | ⟨g28, h⟩
  ·refine qT rfl g28 (qk [0, 2, 4] rfl ?_)
   obtain ⟨g29, h⟩ := chk_some h
   refine ls_hg (gLb (q := 900003) (b := 4) [] [] rfl rfl rfl g29 ?_)
   intro gg30 mm30
   refine qk [0, 2, 4, 900003] rfl (ls_gh (rgt 4 (by kernel_rfl) (sd 3 rfl (?_))))
   obtain ⟨v31, g32, h⟩ := ob_some h
   refine ed rfl (qP rfl rfl rfl rfl (qs rfl eran) (spec_l1Below_s g32) (evdn (gh_k ?_)))
   obtain ⟨e33, g34, h⟩ := ob_some h
   refine qIt rfl rfl rfl rfl g34 (sp 2 rfl (?_))
   refine qSt0 (y0 := e33) (i := v31.1) (es := 3) (e2 := 28) 2 (e33.1, (e33.2.1, [])) [0, 2, 4] rfl rfl rfl rfl rfl rfl rfl rfl zc109_oo g34 dkc109_oo (yc (snc (sA (aca (fun _ => rfl) _)) (snc rfl (snc rfl rfl))) (yc (snc rfl rfl) (yc (snc rfl rfl) yn))) (?_)
   exact evn (gDb (q := 900003) (b := 4) [] [] rfl rfl rfl (sl rfl) (kJ3 h _ (okr rfl)))
  ·exact qF rfl g28 (ls_skip (kJ3 h _ (okr rfl)))
 refine ls_rec (fun (s : (List Int) × Int × Int × (List Y108) × Int) => match s with | (y1, y2, y3, y4, y5) => [(0, .box [aL cu8 y1, nI y2, nI y3]), (2, .box [oL 109 c109_oo []]), (3, nI v1.1), (4, .box [oL 109 c109_oo y4]), (13, oL 9 cst ([[114], [115], [116], [117], [118]])), (14, nI (List.length ([[114], [115], [116], [117], [118]]) : Int)), (15, nI y5)]) _ _ _ _ hl (okr rfl) (fun _ => rfl) ?_
 rintro m ⟨y1, y2, y3, y4, y5⟩ N h hN
 unfold spec_l6Db_B1 at h
 dsimp only at h
 refine rn 1 rfl (ls_seq_k fun K8 hK8 => ?_)
 rcases cond_some h with ⟨g9, h⟩ | ⟨g9, h⟩
 ·refine qT rfl g9 (ls_skip (hK8 _ (ls_seq_k fun K10 hK10 => ls_blk (rs ?_))))
  obtain ⟨e11, g12, h⟩ := ob_some h
  refine qI rfl zcst g12 (sp 2 rfl (evn (rn 1 rfl (ls_seq_k fun K13 hK13 => rn 1 rfl ?_))))
  have kJ2 : ∀ {x14 : Int}, spec_l6Db_J2 (loopF (spec_l6Db_B1 v1) m) v1 y1 y2 y3 y4 y5 e11 x14 = some o1 → Jn K13 [(0, .box [aL cu8 y1, nI y2, nI y3]), (2, .box [oL 109 c109_oo []]), (3, nI v1.1), (4, .box [oL 109 c109_oo y4]), (6, .str e11), (7, nI x14), (13, oL 9 cst ([[114], [115], [116], [117], [118]])), (14, nI (List.length ([[114], [115], [116], [117], [118]]) : Int)), (15, nI y5)] := by
   intro x14 h σ' hk
   unfold spec_l6Db_J2 at h
   refine hK13 _ (lh hk rfl (rs (sp 3 rfl (qBs ci64 [3, 6, 9] rfl rfl rfl zci64 (?_)))))
   obtain ⟨v15, g16, h⟩ := ob_some h
   refine qP rfl rfl rfl rfl (qa rfl (erO eci64 _) eran) (spec_l1PickInt_s g16) (sp 1 rfl (?_))
   obtain ⟨v17, g18, h⟩ := ob_some h
   refine qP rfl rfl rfl rfl (qs rfl (qs rfl (qs rfl eran))) (spec_l5Rel_s g18) (sp 2 rfl (evn (rg (sp 5 rfl (qBs c109_oo [(e11, v17.1)] rfl rfl rfl zc109_oo (?_))))))
   obtain ⟨g19, h⟩ := chk_some h
   exact qA c109_oo y4 [(e11, v17.1)] rfl rfl (flat_len zc109_oo [(e11, v17.1)]) rfl g19 (sp 2 rfl (evn (hK10 _ (rg (sp 2 rfl (evn (hN _ _ h (okr rfl))))))))
  rcases cond_some h with ⟨g20, h⟩ | ⟨g20, h⟩
  ·exact qT rfl g20 (rg (sp 1 rfl (evn (kJ2 h _ (okr rfl)))))
  ·exact qF rfl g20 (ls_skip (kJ2 h _ (okr rfl)))
 ·exact qF rfl g9 (ls_exit (kXB1 (Option.some.inj h) _ (okr rfl)))
def spec_l1Pick (a0 : Y163) (a1 : List (List UInt8)) : Option ((List UInt8) × Y163) := obind (spec_l1Below a0 (List.length a1 : Int)) fun v1 => obind (geti a1 v1.1) fun e3 => some (e3, v1.2)
theorem spec_l1Pick_s {a0 : Y163} {a1 : List (List UInt8)} {r : (List UInt8) × Y163} (h : spec_l1Pick a0 a1 = some r) : PtrAt Tryz.prog 131 [aL cu8 a0.1, nI a0.2.1, nI a0.2.2] [dL cst a1] [aL cu8 r.2.1, nI r.2.2.1, nI r.2.2.2] (.str r.1) := by
 unfold spec_l1Pick at h
 refine stp lit131 rfl (rn 1 rfl (rs (sp 4 rfl (?_))))
 obtain ⟨v1, g2, h⟩ := ob_some h
 refine qP rfl rfl rfl rfl (qs rfl eran) (spec_l1Below_s g2) (?_)
 obtain ⟨e3, g4, h⟩ := ob_some h
 exact qI rfl zcst g4 (sp 2 rfl (evn (ls_ret ((by cases h; exact ⟨.inl rfl, rfl, rfl⟩)))))
def spec_l5Any_J1 (x8 : List Int) (x9 : Int) (x10 : Int) (x11 : Int) (x12 : List (List Int)) : Option (Y37 × Y163) := some ((x11, x12), (x8, x9, x10))
def spec_l5Any_J2 (v3 : Y37 × Y163) (v6 : Int × Y163) (x23 : Bool) : Option (Y37 × Y163) := cond x23 (chk (0 < List.length v3.1.2) (obind (geti v3.1.2 0) fun e27 => chk (0 < List.length e27) (obind (geti v3.1.2 0) fun e31 => obind (spec_l1PickInt v6.2 [-1, 100, 99]) fun v33 => obind (geti e27 0) fun e35 => spec_l5Any_J1 v33.2.1 v33.2.2.1 v33.2.2.2 v3.1.1 (seti v3.1.2 0 (seti e27 0 v33.1))))) (spec_l5Any_J1 v6.2.1 v6.2.2.1 v6.2.2.2 v3.1.1 v3.1.2)
def spec_l5Any (a0 : Y163) : Option (Y37 × Y163) := obind (spec_l1Below a0 4) fun v1 => obind (spec_l5Rel v1.2 v1.1 6 4) fun v3 => obind (spec_l1Below v3.2 14) fun v6 => cond (v6.1 == 0) (obind (spec_l1PickInt v6.2 [-1, 6, IntKind.i64.wrap (v3.1.1 + 1)]) fun v14 => spec_l5Any_J1 v14.2.1 v14.2.2.1 v14.2.2.2 v14.1 v3.1.2) (cond (v6.1 == 1) (obind (spec_l4Row v6.2 (if 0 < v3.1.1 then v3.1.1 else 0) 4) fun v18 => chk (List.length v3.1.2 + List.length [v18.1] ≤ lim) (spec_l5Any_J1 v18.2.1 v18.2.2.1 v18.2.2.2 v3.1.1 (v3.1.2 ++ [v18.1]))) (cond (v6.1 == 2) (cond (decide (0 < (List.length v3.1.2 : Int))) (spec_l5Any_J2 v3 v6 (decide (0 < v3.1.1))) (spec_l5Any_J2 v3 v6 false)) (spec_l5Any_J1 v6.2.1 v6.2.2.1 v6.2.2.2 v3.1.1 v3.1.2)))
theorem spec_l5Any_s {a0 : Y163} {r : Y37 × Y163} (h : spec_l5Any a0 = some r) : PtrAt Tryz.prog 132 [aL cu8 a0.1, nI a0.2.1, nI a0.2.2] [] [aL cu8 r.2.1, nI r.2.2.1, nI r.2.2.2] (.agg (c38_oo r.1)) := by
 unfold spec_l5Any at h
 refine stp lit132 rfl (rn 1 rfl (rs (sp 2 rfl (?_))))
 obtain ⟨v1, g2, h⟩ := ob_some h
 refine qP rfl rfl rfl rfl (qs rfl eran) (spec_l1Below_s g2) (?_)
 obtain ⟨v3, g4, h⟩ := ob_some h
 refine qP rfl rfl rfl rfl (qs rfl (qs rfl (qs rfl eran))) (spec_l5Rel_s g4) (sp 2 rfl (evn (ls_seq_k fun K5 hK5 => rs (sp 1 rfl (?_)))))
 obtain ⟨v6, g7, h⟩ := ob_some h
 refine qP rfl rfl rfl rfl (qs rfl eran) (spec_l1Below_s g7) (evn (ls_blk (rn 1 rfl ?_)))
 have kJ1 : ∀ {x8 : List Int} {x9 : Int} {x10 : Int} {x11 : Int} {x12 : List (List Int)}, spec_l5Any_J1 x8 x9 x10 x11 x12 = some r → Jn K5 [(0, .box [aL cu8 x8, nI x9, nI x10]), (2, .box [nI 0, oL 28 c28_o []]), (3, .box [nI x11, oL 28 c28_o x12])] := by
  intro x8 x9 x10 x11 x12 h σ' hk
  unfold spec_l5Any_J1 at h
  exact hK5 _ (lh hk rfl (rn 1 rfl (ls_ret ((by cases h; exact ⟨.inl rfl, rfl, rfl⟩)))))
 rcases cond_some h with ⟨g13, h⟩ | ⟨g13, h⟩
 ·refine qT rfl g13 (rg (sp 4 rfl (qBs ci64 [-1, 6, IntKind.i64.wrap (v3.1.1 + 1)] rfl rfl rfl zci64 (?_))))
  obtain ⟨v14, g15, h⟩ := ob_some h
  exact qP rfl rfl rfl rfl (qa rfl (erO eci64 _) eran) (spec_l1PickInt_s g15) (sp 2 rfl (evn (kJ1 h _ (okr rfl))))
 ·refine qF rfl g13 (rn 1 rfl ?_)
  rcases cond_some h with ⟨g16, h⟩ | ⟨g16, h⟩
  ·refine qT rfl g16 (qk [0, 2, 3] rfl (ls_hg (gLb0 (q := 900003) (b := 3) [nI v3.1.1] [] rfl rfl rfl ?_)))
   intro gg17
   refine qk [0, 2, 3, 900003] rfl (rgt 8 (by kernel_rfl) (sd 6 rfl (?_)))
   obtain ⟨v18, g19, h⟩ := ob_some h
   refine ed rfl (qP rfl rfl rfl rfl (qs rfl (qs rfl eran)) (spec_l4Row_s g19) (ed rfl (qBs c28_o [v18.1] rfl rfl rfl zc28_o (evdn (gDs (q := 900003) (b := 22) rfl rfl rfl rfl ?_)))))
   obtain ⟨g20, h⟩ := chk_some h
   exact qA c28_o v3.1.2 [v18.1] rfl rfl (flat_len zc28_o [v18.1]) rfl g20 (sp 2 rfl (evn (kJ1 h _ (okr rfl))))
  ·refine qF rfl g16 (rn 1 rfl ?_)
   rcases cond_some h with ⟨g21, h⟩ | ⟨g21, h⟩
   ·refine qT rfl g21 (rk fun K22 hK22 => ?_)
    have kJ2 : ∀ {x23 : Bool}, spec_l5Any_J2 v3 v6 x23 = some r → Jn K22 [(0, .box (c164_a v6.2)), (2, .box [nI 0, oL 28 c28_o []]), (3, .box [nI v3.1.1, oL 28 c28_o v3.1.2]), (41, .bool x23)] := by
     intro x23 h σ' hk
     unfold spec_l5Any_J2 at h
     refine hK22 _ (lh hk rfl ?_)
     rcases cond_some h with ⟨g24, h⟩ | ⟨g24, h⟩
     ·refine qT rfl g24 (qk [0, 2, 3] rfl ?_)
      obtain ⟨g25, h⟩ := chk_some h
      refine ls_hg (gLb (q := 900004) (b := 3) [nI v3.1.1] [] rfl rfl rfl g25 ?_)
      intro gg26 mm26
      refine qk [0, 2, 3, 900004] rfl ?_
      obtain ⟨e27, g28, h⟩ := ob_some h
      obtain ⟨g29, h⟩ := chk_some h
      refine ls_hg (gLg (i := 0) (es := 1) 0 rfl rfl zc28_o g28 rfl rfl g29 ?_)
      intro gg30 mm30
      refine qk [0, 2, 3, 900003, 900004] rfl (ls_gh (ls_gh (rgt 7 (by kernel_rfl) (sd 2 rfl (?_)))))
      obtain ⟨e31, g32, h⟩ := ob_some h
      refine ed rfl (qIt rfl rfl rfl rfl g32 (?_))
      refine ed rfl (qLh rfl rfl rfl rfl rfl rfl (gk zc28_o g32 rfl) (?_))
      refine sd 1 rfl (ed rfl (qBs ci64 [-1, 100, 99] rfl rfl rfl zci64 (?_)))
      obtain ⟨v33, g34, h⟩ := ob_some h
      refine ed rfl (qP rfl rfl rfl rfl (qa rfl (erO eci64 _) eran) (spec_l1PickInt_s g34) (evdn (gh_k ?_)))
      obtain ⟨e35, g36, h⟩ := ob_some h
      refine qIt rfl rfl rfl rfl g36 (?_)
      refine qSt (y0 := e35) (i := 0) (es := 1) 0 v33.1 [0, 2, 3, 900004] rfl rfl rfl rfl rfl rfl rfl rfl rfl rfl zci64 g36 (fun _ => rfl) (dcc rfl dcn) (yc (snc (sA (aca (fun _ => rfl) _)) (snc rfl (snc rfl rfl))) (yc (snc rfl (snc rfl rfl)) (yc (snc rfl (snc rfl rfl)) (yc (sgh (dcf dkc28_o _)) yn)))) (?_)
      exact evn (gDg (i := 0) (es := 1) 0 (seti e27 0 v33.1) rfl rfl zc28_o g28 rfl (sl rfl) rfl (gDb (q := 900004) (b := 3) [nI v3.1.1] [] rfl rfl rfl (sl rfl) (kJ1 h _ (okr rfl))))
     ·exact qF rfl g24 (ls_skip (kJ1 h _ (okr rfl)))
    refine sp 5 rfl (?_)
    rcases cond_some h with ⟨g37, h⟩ | ⟨g37, h⟩
    ·exact qg 37 g37 rfl (sp 4 rfl (evn (kJ2 h _ (okr rfl))))
    ·exact qg 37 g37 rfl (sp 4 rfl (evn (kJ2 h _ (okr rfl))))
   ·exact qF rfl g21 (ls_skip (kJ1 h _ (okr rfl)))
def c109_do (x : Y108) : List V := [.str x.1, nI x.2.1, dL c28_o x.2.2]
theorem zc109_do (x : Y108) : (c109_do x).length = 3 := rfl
theorem ec109_do (x : Y108) : erL (c109_do x) = c109_dd x := (erc rfl (erc rfl (erc (erD ec28_o _) rfl)))
def spec_l6Any_J1 (x8 : List Int) (x9 : Int) (x10 : Int) (x11 : List Y108) : Option ((List Y108) × Y163) := some (x11, (x8, x9, x10))
def spec_l6Any (a0 : Y163) : Option ((List Y108) × Y163) := obind (spec_l6Db a0) fun v1 => obind (spec_l1Below v1.2 5) fun v3 => obind (spec_l1Below v3.2 14) fun v6 => cond (v6.1 == 0) (chk (0 < List.length v1.1) (obind (spec_l1Pick v6.2 ([[], [82], [97, 98, 99, 100, 101], [97], [122]])) fun v15 => obind (geti v1.1 v3.1) fun e17 => spec_l6Any_J1 v15.2.1 v15.2.2.1 v15.2.2.2 (seti v1.1 v3.1 (v15.1, e17.2)))) (cond (v6.1 == 1) (chk (0 < List.length v1.1) (obind (spec_l5Any v6.2) fun v22 => obind (geti v1.1 v3.1) fun e24 => spec_l6Any_J1 v22.2.1 v22.2.2.1 v22.2.2.2 (seti v1.1 v3.1 (e24.1, v22.1)))) (cond (v6.1 == 2) (chk (0 < List.length v1.1) (obind (geti v1.1 v3.1) fun e29 => chk (List.length v1.1 + List.length [e29] ≤ lim) (spec_l6Any_J1 v6.2.1 v6.2.2.1 v6.2.2.2 (v1.1 ++ [e29])))) (cond (v6.1 == 3) (chk ((0 : Int) ≤ 0 ∧ 0 ≤ v3.1 ∧ v3.1 ≤ (List.length v1.1 : Int)) (spec_l6Any_J1 v6.2.1 v6.2.2.1 v6.2.2.2 (subl v1.1 0 v3.1))) (spec_l6Any_J1 v6.2.1 v6.2.2.1 v6.2.2.2 v1.1))))
theorem spec_l6Any_s {a0 : Y163} {r : (List Y108) × Y163} (h : spec_l6Any a0 = some r) : PtrAt Tryz.prog 57 [aL cu8 a0.1, nI a0.2.1, nI a0.2.2] [] [aL cu8 r.2.1, nI r.2.2.1, nI r.2.2.2] (.agg [dL c109_dd r.1]) := by
 unfold spec_l6Any at h
 refine stp lit57 rfl (rn 1 rfl (rs (sp 1 rfl (?_))))
 obtain ⟨v1, g2, h⟩ := ob_some h
 refine qP rfl rfl rfl rfl eran (spec_l6Db_s g2) (sp 2 rfl (evn (rs (sp 1 rfl (?_)))))
 obtain ⟨v3, g4, h⟩ := ob_some h
 refine qP rfl rfl rfl rfl (qs rfl eran) (spec_l1Below_s g4) (sp 1 rfl (evn (ls_seq_k fun K5 hK5 => rs (sp 1 rfl (?_)))))
 obtain ⟨v6, g7, h⟩ := ob_some h
 refine qP rfl rfl rfl rfl (qs rfl eran) (spec_l1Below_s g7) (evn (ls_blk (rn 1 rfl ?_)))
 have kJ1 : ∀ {x8 : List Int} {x9 : Int} {x10 : Int} {x11 : List Y108}, spec_l6Any_J1 x8 x9 x10 x11 = some r → Jn K5 [(0, .box [aL cu8 x8, nI x9, nI x10]), (2, .box [oL 109 c109_oo []]), (3, .box [dL c109_dd x11])] := by
  intro x8 x9 x10 x11 h σ' hk
  unfold spec_l6Any_J1 at h
  exact hK5 _ (lh hk rfl (rn 1 rfl (ls_ret ((by cases h; exact ⟨.inl rfl, rfl, rfl⟩)))))
 rcases cond_some h with ⟨g12, h⟩ | ⟨g12, h⟩
 ·refine qT rfl g12 (qk [0, 2, 3, 4] rfl ?_)
  obtain ⟨g13, h⟩ := chk_some h
  refine ls_hg (gLb (q := 900003) (b := 3) [] [] rfl rfl rfl g13 ?_)
  intro gg14 mm14
  refine qk [0, 2, 3, 4, 900003] rfl (ls_gh (rgt 6 (by kernel_rfl) (sd 4 rfl (ed rfl (qBk cst [[], [82], [97, 98, 99, 100, 101], [97], [122]] 9 1 (by kernel_rfl) rfl zcst (?_))))))
  obtain ⟨v15, g16, h⟩ := ob_some h
  refine ed rfl (qP rfl rfl rfl rfl (qa rfl (erO ecst _) eran) (spec_l1Pick_s g16) (evdn (gh_k ?_)))
  obtain ⟨e17, g18, h⟩ := ob_some h
  refine qIt rfl rfl rfl rfl g18 (sp 1 rfl (?_))
  refine qSt (y0 := e17) (i := v3.1) (es := 3) 0 (v15.1, e17.2) [0, 2, 3] rfl rfl rfl rfl rfl rfl rfl rfl rfl rfl zc109_oo g18 dkc109_oo (dcc rfl dcn) (yc (snc (sA (aca (fun _ => rfl) _)) (snc rfl (snc rfl rfl))) (yc (snc rfl rfl) (yc (snc rfl rfl) yn))) (?_)
  exact evn (gDb (q := 900003) (b := 3) [] [] rfl rfl rfl (sl rfl) (kJ1 h _ ⟨kr, kr, (kb (cwe rfl (erO ec109_oo _) cwn)), trivial⟩))
 ·refine qF rfl g12 (rn 1 rfl ?_)
  rcases cond_some h with ⟨g19, h⟩ | ⟨g19, h⟩
  ·refine qT rfl g19 (qk [0, 2, 3, 4] rfl ?_)
   obtain ⟨g20, h⟩ := chk_some h
   refine ls_hg (gLb (q := 900003) (b := 3) [] [] rfl rfl rfl g20 ?_)
   intro gg21 mm21
   refine qk [0, 2, 3, 4, 900003] rfl (ls_gh (rgt 5 (by kernel_rfl) (sd 4 rfl (?_))))
   obtain ⟨v22, g23, h⟩ := ob_some h
   refine ed rfl (qP rfl rfl rfl rfl eran (spec_l5Any_s g23) (evdn (gh_k ?_)))
   obtain ⟨e24, g25, h⟩ := ob_some h
   refine qIt rfl rfl rfl rfl g25 (sp 1 rfl (?_))
   refine qSt (y0 := e24) (i := v3.1) (es := 3) 1 (e24.1, v22.1) [0, 2, 3] rfl rfl rfl rfl rfl rfl rfl rfl rfl rfl zc109_oo g25 dkc109_oo (dcc rfl (dcc (dco dkc28_o 28 _) dcn)) (yc (snc (sA (aca (fun _ => rfl) _)) (snc rfl (snc rfl rfl))) (yc (snc rfl rfl) (yc (snc rfl rfl) yn))) (?_)
   exact evn (gDb (q := 900003) (b := 3) [] [] rfl rfl rfl (sl rfl) (kJ1 h _ ⟨kr, kr, (kb (cwe rfl (erO ec109_oo _) cwn)), trivial⟩))
  ·refine qF rfl g19 (rn 1 rfl ?_)
   rcases cond_some h with ⟨g26, h⟩ | ⟨g26, h⟩
   ·refine qT rfl g26 (qk [0, 2, 3, 4] rfl ?_)
    obtain ⟨g27, h⟩ := chk_some h
    refine ls_hg (gLb (q := 900003) (b := 3) [] [] rfl rfl rfl g27 ?_)
    intro gg28 mm28
    refine qk [0, 2, 3, 4, 900003] rfl (rgt 8 (by kernel_rfl) (sd 5 rfl (?_)))
    obtain ⟨e29, g30, h⟩ := ob_some h
    refine ed rfl (qIt rfl rfl rfl rfl g30 (?_))
    refine ed rfl (qLe (i := v3.1) (es := 3) (q := 900003) 0 rfl rfl rfl rfl rfl rfl zc109_oo g30 rfl rfl (?_))
    refine ed rfl (qBs c109_do [e29] rfl rfl rfl zc109_do (evdn (gDs (q := 900003) (b := 33) rfl rfl rfl rfl ?_)))
    obtain ⟨g31, h⟩ := chk_some h
    exact qAd c109_oo c109_do c109_do v1.1 [e29] rfl rfl (flat_len zc109_do [e29]) rfl g31 (fun _ => rfl) (fun _ => rfl) (fun _ => rfl) (fun _ => rfl) (sp 2 rfl (evn (kJ1 h _ ⟨kr, kr, (kb (cwe rfl (erO ec109_do _) cwn)), trivial⟩)))
   ·refine qF rfl g26 (rn 1 rfl ?_)
    rcases cond_some h with ⟨g32, h⟩ | ⟨g32, h⟩
    ·refine qT rfl g32 (rg (sp 3 rfl (?_)))
     obtain ⟨g33, h⟩ := chk_some h
     exact qSl rfl zc109_oo g33 (sp 2 rfl (evn (kJ1 h _ ⟨kr, kr, (kb (cwe rfl (erD ec109_oo _) cwn)), trivial⟩)))
    ·exact qF rfl g32 (ls_skip (kJ1 h _ ⟨kr, kr, (kb (cwe rfl (erO ec109_oo _) cwn)), trivial⟩))
def spec_ContainsVariable_B1 (a0 : Y95) (a1 : Int) (rec : Int → Option (Sum (Unit) (Bool))) (y1 : Int) : Option (Sum (Unit) (Bool)) := cond (decide (y1 < (List.length a0.2 : Int))) (obind (geti a0.2 y1) fun e5 => cond (e5 == a1) (some (.inr true)) (rec (IntKind.i64.wrap (y1 + 1)))) (some (.inl ()))
def spec_ContainsVariable (a0 : Y95) (a1 : Int) : Option (Bool) := obind (loopF (spec_ContainsVariable_B1 a0 a1) fz 0) fun o1 => (match o1 with
  | .inl _ => (some false)
  | .inr r => some r)
theorem spec_ContainsVariable_s {a0 : Y95} {a1 : Int} {r : Bool} (h : spec_ContainsVariable a0 a1 = some r) : SoundAt Tryz.prog 55 [.agg (c96_d a0), nI a1] (.bool r) := by
 unfold spec_ContainsVariable at h
 refine st lit55 rfl (rn 1 rfl (ls_seq_k fun K1 hK1 => rn 1 rfl ?_))
 obtain ⟨o1, hl, hr1⟩ := ob_some h
 have kXB1 : (.inl ()) = o1 → Jn K1 [] := by
  intro h σ' hk
  subst h
  replace h := hr1
  try dsimp only at h
  exact hK1 _ (lh hk rfl (rn 1 rfl (ls_ret ((by cases h; exact ⟨.inl rfl, rfl⟩)))))
 refine ls_rec (fun (y1 : Int) => [(1, nI a1), (2, .box [.str a0.1, dL ci64 a0.2]), (5, nI y1)]) _ _ _ _ hl (okr rfl) (fun _ => rfl) ?_
 rintro m y1 N h hN
 unfold spec_ContainsVariable_B1 at h
 refine ls_seq_k fun K2 hK2 => rn 1 rfl ?_
 rcases cond_some h with ⟨g3, h⟩ | ⟨g3, h⟩
 ·refine qT rfl g3 (ls_skip (hK2 _ (ls_seq_k fun K4 hK4 => ls_blk (rs (sp 3 rfl (?_))))))
  obtain ⟨e5, g6, h⟩ := ob_some h
  refine qI rfl zci64 g6 (sp 3 rfl (evn ?_))
  rcases cond_some h with ⟨g7, h⟩ | ⟨g7, h⟩
  ·exact qT rfl g7 (rn 1 rfl (ls_ret ((by cases h; cases hr1; exact ⟨.inl rfl, rfl⟩))))
  ·exact qF rfl g7 (ls_skip (hK4 _ (rg (sp 3 rfl (evn (hN _ _ h (okr rfl)))))))
 ·exact qF rfl g3 (ls_exit (kXB1 (Option.some.inj h) _ trivial))
def spec_IsValidName_B1 (a0 : List UInt8) (rec : Int → Option (Sum (Unit) (Bool))) (y1 : Int) : Option (Sum (Unit) (Bool)) := cond (decide (y1 < (List.length a0 : Int))) (obind (geti a0 y1) fun b5 => cond (decide ((UInt8.toNat b5 : Int) < 97)) (some (.inr false)) (obind (geti a0 y1) fun b8 => cond (decide (122 < (UInt8.toNat b8 : Int))) (some (.inr false)) (rec (IntKind.i64.wrap (y1 + 1))))) (some (.inl ()))
def spec_IsValidName (a0 : List UInt8) : Option (Bool) := obind (loopF (spec_IsValidName_B1 a0) fz 0) fun o1 => (match o1 with
  | .inl _ => (obind (spec_l1In (List.length a0 : Int) 1 4) fun v11 => some v11)
  | .inr r => some r)
theorem spec_IsValidName_s {a0 : List UInt8} {r : Bool} (h : spec_IsValidName a0 = some r) : SoundAt Tryz.prog 140 [.str a0] (.bool r) := by
 unfold spec_IsValidName at h
 refine st lit140 rfl (rn 1 rfl (ls_seq_k fun K1 hK1 => rn 1 rfl ?_))
 obtain ⟨o1, hl, hr1⟩ := ob_some h
 have kXB1 : (.inl ()) = o1 → Jn K1 [(0, .str a0)] := by
  intro h σ' hk
  subst h
  replace h := hr1
  try dsimp only at h
  refine hK1 _ (lh hk rfl (rs (sp 2 rfl (?_))))
  obtain ⟨v11, g12, h⟩ := ob_some h
  exact qC (qs rfl (qs rfl (qs rfl eran))) (spec_l1In_s g12) (sp 1 rfl (evn (ls_ret ((by cases h; exact ⟨.inl rfl, rfl⟩)))))
 refine ls_rec (fun (y1 : Int) => [(0, .str a0), (3, nI y1)]) _ _ _ _ hl (okr rfl) (fun _ => rfl) ?_
 rintro m y1 N h hN
 unfold spec_IsValidName_B1 at h
 refine ls_seq_k fun K2 hK2 => rn 1 rfl ?_
 rcases cond_some h with ⟨g3, h⟩ | ⟨g3, h⟩
 ·refine qT rfl g3 (ls_skip (hK2 _ (ls_seq_k fun K4 hK4 => ls_blk (rs (sp 2 rfl (?_))))))
  obtain ⟨b5, g6, h⟩ := ob_some h
  refine qX rfl g6 (sp 2 rfl (?_))
  rcases cond_some h with ⟨g7, h⟩ | ⟨g7, h⟩
  ·exact qg 14 g7 rfl (sp 5 rfl (evn (qT rfl rfl (rn 1 rfl (ls_ret ((by cases h; cases hr1; exact ⟨.inl rfl, rfl⟩)))))))
  ·refine qg 14 g7 rfl (sp 2 rfl (?_))
   obtain ⟨b8, g9, h⟩ := ob_some h
   refine oGR rfl rfl (qX rfl g9 (sp 2 rfl (evn ?_)))
   rcases cond_some h with ⟨g10, h⟩ | ⟨g10, h⟩
   ·exact qT rfl g10 (rn 1 rfl (qk [2] rfl (ls_ret ((by cases h; cases hr1; exact ⟨.inl rfl, rfl⟩)))))
   ·exact qF rfl g10 (ls_skip (hK4 _ (rg (sp 3 rfl (evn (hN _ _ h (okr rfl)))))))
 ·exact qF rfl g3 (ls_exit (kXB1 (Option.some.inj h) _ (okr rfl)))
def spec_IsValidQuery_B2 (a0 : Y29) (y2 : Int) (rec : Int → Option (Sum (Unit) (Bool))) (y4 : Int) : Option (Sum (Unit) (Bool)) := obind (geti a0.2.1 y2) fun e25 => cond (decide (y4 < (List.length e25.2 : Int))) (obind (geti a0.2.1 y2) fun e29 => obind (geti e29.2 y4) fun e31 => obind (spec_l1In e31 0 (IntKind.i64.wrap (a0.1 - 1))) fun v33 => cond (!v33) (some (.inr false)) (rec (IntKind.i64.wrap (y4 + 1)))) (some (.inl ()))
def spec_IsValidQuery_B1 (a0 : Y29) (rec : Int → Option (Sum (Unit) (Bool))) (y2 : Int) : Option (Sum (Unit) (Bool)) := cond (decide (y2 < (List.length a0.2.1 : Int))) (obind (geti a0.2.1 y2) fun e14 => obind (spec_IsValidName e14.1) fun v16 => cond (!v16) (some (.inr false)) (obind (geti a0.2.1 y2) fun e19 => obind (spec_l1In (List.length e19.2 : Int) 1 5) fun v21 => cond (!v21) (some (.inr false)) (obind (loopF (spec_IsValidQuery_B2 a0 y2) fz 0) fun o2 => (match o2 with
  | .inl _ => (rec (IntKind.i64.wrap (y2 + 1)))
  | .inr r => some (.inr r))))) (some (.inl ()))
def spec_IsValidQuery_J5 (rec : (Bool × Int) → Option (Bool)) (y11 : Int) (x45 : Bool) : Option (Bool) := rec (x45, (IntKind.i64.wrap (y11 + 1)))
def spec_IsValidQuery_B4 (a0 : Y29) (y7 : Int) (rec : (Bool × Int) → Option (Bool)) (s : Bool × Int) : Option (Bool) := match s with
  | (y10, y11) => cond (decide (y11 < (List.length a0.2.1 : Int))) (cond y10 (spec_IsValidQuery_J5 rec y11 true) (obind (geti a0.2.1 y11) fun e47 => obind (spec_ContainsVariable e47 y7) fun v49 => spec_IsValidQuery_J5 rec y11 v49)) (some y10)
def spec_IsValidQuery_B3 (a0 : Y29) (rec : Int → Option (Sum (Unit) (Bool))) (y7 : Int) : Option (Sum (Unit) (Bool)) := cond (decide (y7 < a0.1)) (obind (loopF (spec_IsValidQuery_B4 a0 y7) fz (false, 0)) fun z41 => cond (!z41) (some (.inr false)) (rec (IntKind.i64.wrap (y7 + 1)))) (some (.inl ()))
def spec_IsValidQuery_B6 (a0 : Y29) (rec : Int → Option (Sum (Unit) (Bool))) (y12 : Int) : Option (Sum (Unit) (Bool)) := cond (decide (y12 < (List.length a0.2.2 : Int))) (obind (geti a0.2.2 y12) fun e56 => obind (spec_l1In e56 0 (IntKind.i64.wrap (a0.1 - 1))) fun v58 => cond (!v58) (some (.inr false)) (chk ((0 : Int) ≤ 0 ∧ 0 ≤ y12 ∧ y12 ≤ (List.length a0.2.2 : Int)) (obind (geti a0.2.2 y12) fun e62 => obind (spec_l7Find (subl a0.2.2 0 y12) e62) fun v64 => cond (decide (0 ≤ v64)) (some (.inr false)) (rec (IntKind.i64.wrap (y12 + 1)))))) (some (.inl ()))
def spec_IsValidQuery (a0 : Y29) : Option (Bool) := obind (spec_l1In a0.1 1 5) fun v2 => cond (!v2) (some false) (obind (spec_l1In (List.length a0.2.1 : Int) 1 4) fun v5 => cond (!v5) (some false) (cond (decide (a0.1 < (List.length a0.2.2 : Int))) (some false) (obind (loopF (spec_IsValidQuery_B1 a0) fz 0) fun o1 => (match o1 with
  | .inl _ => (obind (loopF (spec_IsValidQuery_B3 a0) fz 0) fun o3 => (match o3 with
  | .inl _ => (obind (loopF (spec_IsValidQuery_B6 a0) fz 0) fun o6 => (match o6 with
  | .inl _ => (some true)
  | .inr r => some r))
  | .inr r => some r))
  | .inr r => some r))))
theorem spec_IsValidQuery_s {a0 : Y29} {r : Bool} (h : spec_IsValidQuery a0 = some r) : SoundAt Tryz.prog 128 [.agg (c30_ddd a0)] (.bool r) := by
 unfold spec_IsValidQuery at h
 refine st lit128 rfl (rn 1 rfl (ls_seq_k fun K1 hK1 => rs (sp 2 rfl (?_))))
 obtain ⟨v2, g3, h⟩ := ob_some h
 refine qC (qs rfl (qs rfl (qs rfl eran))) (spec_l1In_s g3) (sp 2 rfl (?_))
 rcases cond_some h with ⟨g4, h⟩ | ⟨g4, h⟩
 ·exact qg 13 g4 rfl (sp 14 rfl (evn (qT rfl rfl (rn 1 rfl (ls_ret ((by cases h; exact ⟨.inl rfl, rfl⟩)))))))
 ·refine qg 13 g4 rfl (sp 3 rfl (?_))
  obtain ⟨v5, g6, h⟩ := ob_some h
  refine oGR rfl rfl (qC (qs rfl (qs rfl (qs rfl eran))) (spec_l1In_s g6) (sp 3 rfl (?_)))
  rcases cond_some h with ⟨g7, h⟩ | ⟨g7, h⟩
  ·exact qg 20 g7 rfl (sp 7 rfl (evn (qk [1, 27] rfl (qT rfl rfl (rn 1 rfl (ls_ret ((by cases h; exact ⟨.inl rfl, rfl⟩))))))))
  ·refine qg 20 g7 rfl (sp 7 rfl (evn ?_))
   rcases cond_some h with ⟨g8, h⟩ | ⟨g8, h⟩
   ·exact qT rfl g8 (rn 1 rfl (ls_ret ((by cases h; exact ⟨.inl rfl, rfl⟩))))
   ·refine qF rfl g8 (ls_skip (hK1 _ (ls_seq_k fun K9 hK9 => rn 1 rfl ?_)))
    obtain ⟨o1, hl, hr1⟩ := ob_some h
    have kXB1 : (.inl ()) = o1 → Jn K9 [(1, .box [nI a0.1, dL c96_d a0.2.1, dL ci64 a0.2.2])] := by
     intro h σ' hk
     subst h
     replace h := hr1
     try dsimp only at h
     refine hK9 _ (lh hk rfl (ls_seq_k fun K36 hK36 => rn 1 rfl ?_))
     obtain ⟨o3, hl, hr3⟩ := ob_some h
     have kXB3 : (.inl ()) = o3 → Jn K36 [(1, .box [nI a0.1, dL c96_d a0.2.1, dL ci64 a0.2.2])] := by
      intro h σ' hk
      subst h
      replace h := hr3
      try dsimp only at h
      refine hK36 _ (lh hk rfl (ls_seq_k fun K52 hK52 => rn 1 rfl ?_))
      obtain ⟨o6, hl, hr6⟩ := ob_some h
      have kXB6 : (.inl ()) = o6 → Jn K52 [] := by
       intro h σ' hk
       subst h
       replace h := hr6
       try dsimp only at h
       exact hK52 _ (lh hk rfl (rn 1 rfl (ls_ret ((by cases h; exact ⟨.inl rfl, rfl⟩)))))
      refine ls_rec (fun (y12 : Int) => [(1, .box [nI a0.1, dL c96_d a0.2.1, dL ci64 a0.2.2]), (8, nI y12)]) _ _ _ _ hl (okr rfl) (fun _ => rfl) ?_
      rintro m y12 N h hN
      unfold spec_IsValidQuery_B6 at h
      refine ls_seq_k fun K53 hK53 => rn 1 rfl ?_
      rcases cond_some h with ⟨g54, h⟩ | ⟨g54, h⟩
      ·refine qT rfl g54 (ls_skip (hK53 _ (ls_seq_k fun K55 hK55 => ls_blk (rd (by kernel_rfl) (sd 3 rfl (?_))))))
       obtain ⟨e56, g57, h⟩ := ob_some h
       refine ed rfl (qI rfl zci64 g57 (sd 4 rfl (?_)))
       obtain ⟨v58, g59, h⟩ := ob_some h
       refine ed rfl (qC (qs rfl (qs rfl (qs rfl eran))) (spec_l1In_s g59) (sd 2 rfl (?_)))
       rcases cond_some h with ⟨g60, h⟩ | ⟨g60, h⟩
       ·exact qgd 121 g60 rfl (sd 12 rfl (evdn (qT rfl rfl (rn 1 rfl (qk [2] rfl (ls_ret ((by cases h; cases hr6; exact ⟨.inl rfl, rfl⟩))))))))
       ·refine qgd 121 g60 rfl (sd 3 rfl (?_))
        obtain ⟨g61, h⟩ := chk_some h
        refine ed rfl (oGR rfl rfl (qSl rfl zci64 g61 (sd 3 rfl (?_))))
        obtain ⟨e62, g63, h⟩ := ob_some h
        refine ed rfl (oGR rfl rfl (qI rfl zci64 g63 (sd 1 rfl (?_))))
        obtain ⟨v64, g65, h⟩ := ob_some h
        refine ed rfl (oGR rfl rfl (qC (qa rfl (erD eci64 _) (qs rfl eran)) (spec_l7Find_s g65) (sd 2 rfl (evdn ?_))))
        rcases cond_some h with ⟨g66, h⟩ | ⟨g66, h⟩
        ·exact qT rfl g66 (rn 1 rfl (ls_ret ((by cases h; cases hr6; exact ⟨.inl rfl, rfl⟩))))
        ·exact qF rfl g66 (ls_skip (hK55 _ (rg (sp 3 rfl (evn (hN _ _ h (okr rfl)))))))
      ·exact qF rfl g54 (ls_exit (kXB6 (Option.some.inj h) _ trivial))
     refine ls_rec (fun (y7 : Int) => [(1, .box [nI a0.1, dL c96_d a0.2.1, dL ci64 a0.2.2]), (5, nI y7)]) _ _ _ _ hl (okr rfl) (fun _ => rfl) ?_
     rintro m y7 N h hN
     unfold spec_IsValidQuery_B3 at h
     refine ls_seq_k fun K37 hK37 => rn 1 rfl ?_
     rcases cond_some h with ⟨g38, h⟩ | ⟨g38, h⟩
     ·refine qT rfl g38 (ls_skip (hK37 _ (ls_seq_k fun K39 hK39 => ls_blk (rn 1 rfl (ls_seq_k fun K40 hK40 => rn 1 rfl ?_)))))
      obtain ⟨o4, hl, hr4⟩ := ob_some h
      have kXB4 : ∀ {z41 : Bool}, z41 = o4 → Jn K40 [(1, .box [nI a0.1, dL c96_d a0.2.1, dL ci64 a0.2.2]), (5, nI y7), (6, .bool z41)] := by
       intro z41 h σ' hk
       subst h
       replace h := hr4
       try dsimp only at h
       refine hK40 _ (lh hk rfl (rn 1 rfl ?_))
       rcases cond_some h with ⟨g51, h⟩ | ⟨g51, h⟩
       ·exact qT rfl g51 (rn 1 rfl (ls_ret ((by cases h; cases hr3; exact ⟨.inl rfl, rfl⟩))))
       ·exact qF rfl g51 (ls_skip (hK39 _ (rg (sp 3 rfl (evn (hN _ _ h (okr rfl)))))))
      refine ls_rec (fun (s : Bool × Int) => match s with | (y10, y11) => [(1, .box [nI a0.1, dL c96_d a0.2.1, dL ci64 a0.2.2]), (5, nI y7), (6, .bool y10), (7, nI y11)]) _ _ _ _ hl (okr rfl) (fun _ => rfl) ?_
      rintro m ⟨y10, y11⟩ N h hN
      unfold spec_IsValidQuery_B4 at h
      dsimp only at h
      refine ls_seq_k fun K42 hK42 => rn 1 rfl ?_
      rcases cond_some h with ⟨g43, h⟩ | ⟨g43, h⟩
      ·refine qT rfl g43 (ls_skip (hK42 _ (ls_seq_k fun K44 hK44 => ls_blk ?_)))
       have kJ5 : ∀ {x45 : Bool}, spec_IsValidQuery_J5 (loopF (spec_IsValidQuery_B4 a0 y7) m) y11 x45 = some o4 → Jn K44 [(1, .box [nI a0.1, dL c96_d a0.2.1, dL ci64 a0.2.2]), (5, nI y7), (6, .bool x45), (7, nI y11)] := by
        intro x45 h σ' hk
        unfold spec_IsValidQuery_J5 at h
        exact hK44 _ (lh hk rfl (rg (sp 3 rfl (evn (hN _ _ h (okr rfl))))))
       refine rg (sp 2 rfl (?_))
       rcases cond_some h with ⟨g46, h⟩ | ⟨g46, h⟩
       ·exact qg 93 g46 rfl (sp 9 rfl (evn (kJ5 h _ (okr rfl))))
       ·refine qg 93 g46 rfl (sp 3 rfl (?_))
        obtain ⟨e47, g48, h⟩ := ob_some h
        refine oGR rfl rfl (qI rfl zc96_d g48 (sp 2 rfl (?_)))
        obtain ⟨v49, g50, h⟩ := ob_some h
        exact oGR rfl rfl (qC (qa rfl (erg (erc rfl (erc (erD eci64 _) rfl))) (qs rfl eran)) (spec_ContainsVariable_s g50) (sp 2 rfl (evn (kJ5 h _ (okr rfl)))))
      ·exact qF rfl g43 (ls_exit (kXB4 (Option.some.inj h) _ (okr rfl)))
     ·exact qF rfl g38 (ls_exit (kXB3 (Option.some.inj h) _ (okr rfl)))
    refine ls_rec (fun (y2 : Int) => [(1, .box [nI a0.1, dL c96_d a0.2.1, dL ci64 a0.2.2]), (3, nI y2)]) _ _ _ _ hl (okr rfl) (fun _ => rfl) ?_
    rintro m y2 N h hN
    unfold spec_IsValidQuery_B1 at h
    refine ls_seq_k fun K10 hK10 => rn 1 rfl ?_
    rcases cond_some h with ⟨g11, h⟩ | ⟨g11, h⟩
    ·refine qT rfl g11 (ls_skip (hK10 _ (ls_seq_k fun K12 hK12 => ls_blk (ls_seq_k fun K13 hK13 => rs (sp 3 rfl (?_))))))
     obtain ⟨e14, g15, h⟩ := ob_some h
     refine qI rfl zc96_d g15 (sp 2 rfl (?_))
     obtain ⟨v16, g17, h⟩ := ob_some h
     refine qC (qs rfl eran) (spec_IsValidName_s g17) (sp 2 rfl (?_))
     rcases cond_some h with ⟨g18, h⟩ | ⟨g18, h⟩
     ·exact qg 43 g18 rfl (sp 10 rfl (evn (qT rfl rfl (rn 1 rfl (ls_ret ((by cases h; cases hr1; exact ⟨.inl rfl, rfl⟩)))))))
     ·refine qg 43 g18 rfl (sp 3 rfl (?_))
      obtain ⟨e19, g20, h⟩ := ob_some h
      refine oGR rfl rfl (qI rfl zc96_d g20 (sp 3 rfl (?_)))
      obtain ⟨v21, g22, h⟩ := ob_some h
      refine oGR rfl rfl (qC (qs rfl (qs rfl (qs rfl eran))) (spec_l1In_s g22) (sp 2 rfl (evn (qk [1, 3, 53] rfl ?_))))
      rcases cond_some h with ⟨g23, h⟩ | ⟨g23, h⟩
      ·exact qT rfl g23 (rn 1 rfl (ls_ret ((by cases h; cases hr1; exact ⟨.inl rfl, rfl⟩))))
      ·refine qF rfl g23 (ls_skip (hK13 _ (rn 1 rfl ?_)))
       obtain ⟨o2, hl, hr2⟩ := ob_some h
       have kXB2 : (.inl ()) = o2 → Jn K12 [(1, .box [nI a0.1, dL c96_d a0.2.1, dL ci64 a0.2.2]), (3, nI y2)] := by
        intro h σ' hk
        subst h
        replace h := hr2
        try dsimp only at h
        exact hK12 _ (lh hk rfl (rg (sp 3 rfl (evn (hN _ _ h (okr rfl))))))
       refine ls_rec (fun (y4 : Int) => [(1, .box [nI a0.1, dL c96_d a0.2.1, dL ci64 a0.2.2]), (3, nI y2), (4, nI y4)]) _ _ _ _ hl (okr rfl) (fun _ => rfl) ?_
       rintro m y4 N h hN
       unfold spec_IsValidQuery_B2 at h
       refine ls_seq_k fun K24 hK24 => rs (sp 4 rfl (?_))
       obtain ⟨e25, g26, h⟩ := ob_some h
       refine qI rfl zc96_d g26 (sp 4 rfl (evn ?_))
       rcases cond_some h with ⟨g27, h⟩ | ⟨g27, h⟩
       ·refine qT rfl g27 (ls_skip (hK24 _ (ls_seq_k fun K28 hK28 => ls_blk (rd (by kernel_rfl) (sd 3 rfl (?_))))))
        obtain ⟨e29, g30, h⟩ := ob_some h
        refine ed rfl (qI rfl zc96_d g30 (sd 3 rfl (?_)))
        obtain ⟨e31, g32, h⟩ := ob_some h
        refine ed rfl (qI rfl zci64 g32 (sd 4 rfl (?_)))
        obtain ⟨v33, g34, h⟩ := ob_some h
        refine ed rfl (qC (qs rfl (qs rfl (qs rfl eran))) (spec_l1In_s g34) (sd 1 rfl (evdn ?_)))
        rcases cond_some h with ⟨g35, h⟩ | ⟨g35, h⟩
        ·exact qT rfl g35 (rn 1 rfl (ls_ret ((by cases h; cases hr2; cases hr1; exact ⟨.inl rfl, rfl⟩))))
        ·exact qF rfl g35 (ls_skip (hK28 _ (qk [1, 3, 4] rfl (rg (sp 3 rfl (evn (hN _ _ h (okr rfl))))))))
       ·exact qF rfl g27 (ls_exit (kXB2 (Option.some.inj h) _ (okr rfl)))
    ·exact qF rfl g11 (ls_exit (kXB1 (Option.some.inj h) _ (okr rfl)))
def spec_l5Cut_J2 (rec : ((List (List UInt8)) × Int × Int) → Option ((List (List UInt8)) × Int)) (y3 : Int) (x9 : List (List UInt8)) (x10 : Int) : Option ((List (List UInt8)) × Int) := rec (x9, x10, (IntKind.i64.wrap (y3 + 1)))
def spec_l5Cut_B1 (a0 : List UInt8) (a1 : Int) (rec : ((List (List UInt8)) × Int × Int) → Option ((List (List UInt8)) × Int)) (s : (List (List UInt8)) × Int × Int) : Option ((List (List UInt8)) × Int) := match s with
  | (y1, y2, y3) => cond (decide (y3 < (List.length a0 : Int))) (obind (geti a0 y3) fun b7 => cond ((UInt8.toNat b7 : Int) == a1) (chk ((0 : Int) ≤ y2 ∧ y2 ≤ y3 ∧ y3 ≤ (List.length a0 : Int)) (chk (List.length y1 + List.length [subl a0 y2 y3] ≤ lim) (spec_l5Cut_J2 rec y3 (y1 ++ [subl a0 y2 y3]) (IntKind.i64.wrap (y3 + 1))))) (spec_l5Cut_J2 rec y3 y1 y2)) (some (y1, y2))
def spec_l5Cut (a0 : List UInt8) (a1 : Int) : Option ((List (List UInt8))) := obind (loopF (spec_l5Cut_B1 a0 a1) fz (([] : List (List UInt8)), 0, 0)) fun o1 => (match o1 with
  | (z2, z3) => (chk ((0 : Int) ≤ z3 ∧ z3 ≤ (List.length a0 : Int) ∧ (List.length a0 : Int) ≤ (List.length a0 : Int)) (chk (List.length z2 + List.length [subl a0 z3 (List.length a0 : Int)] ≤ lim) (some (z2 ++ [subl a0 z3 (List.length a0 : Int)])))))
theorem spec_l5Cut_s {a0 : List UInt8} {a1 : Int} {r : (List (List UInt8))} (h : spec_l5Cut a0 a1 = some r) : SoundAt Tryz.prog 242 [.str a0, .int .u8 a1] (oL 9 cst r) := by
 unfold spec_l5Cut at h
 refine st lit242 rfl (rn 1 rfl (rs (qBs cst [] rfl rfl rfl zcst (sp 1 rfl (evn (rn 1 rfl (ls_seq_k fun K1 hK1 => rn 1 rfl ?_)))))))
 obtain ⟨o1, hl, hr1⟩ := ob_some h
 have kXB1 : ∀ {z2 : List (List UInt8)} {z3 : Int}, (z2, z3) = o1 → Jn K1 [(0, .str a0), (5, oL 9 cst z2), (6, nI z3)] := by
  intro z2 z3 h σ' hk
  subst h
  replace h := hr1
  try dsimp only at h
  refine hK1 _ (lh hk rfl (rs (sp 3 rfl (?_))))
  obtain ⟨g14, h⟩ := chk_some h
  refine qSs rfl g14 (qBs cst [subl a0 z3 (List.length a0 : Int)] rfl rfl rfl zcst (?_))
  obtain ⟨g15, h⟩ := chk_some h
  exact qA cst z2 [subl a0 z3 (List.length a0 : Int)] rfl rfl (flat_len zcst [subl a0 z3 (List.length a0 : Int)]) rfl g15 (sp 1 rfl (evn (ls_ret ((by cases h; exact ⟨.inl rfl, rfl⟩)))))
 refine ls_rec (fun (s : (List (List UInt8)) × Int × Int) => match s with | (y1, y2, y3) => [(0, .str a0), (1, .int .u8 a1), (5, oL 9 cst y1), (6, nI y2), (7, nI y3)]) _ _ _ _ hl (okr rfl) (fun _ => rfl) ?_
 rintro m ⟨y1, y2, y3⟩ N h hN
 unfold spec_l5Cut_B1 at h
 dsimp only at h
 refine ls_seq_k fun K4 hK4 => rn 1 rfl ?_
 rcases cond_some h with ⟨g5, h⟩ | ⟨g5, h⟩
 ·refine qT rfl g5 (ls_skip (hK4 _ (ls_seq_k fun K6 hK6 => ls_blk (rs (sp 2 rfl (?_))))))
  obtain ⟨b7, g8, h⟩ := ob_some h
  refine qX rfl g8 (sp 2 rfl (evn ?_))
  have kJ2 : ∀ {x9 : List (List UInt8)} {x10 : Int}, spec_l5Cut_J2 (loopF (spec_l5Cut_B1 a0 a1) m) y3 x9 x10 = some o1 → Jn K6 [(0, .str a0), (1, .int .u8 a1), (5, oL 9 cst x9), (6, nI x10), (7, nI y3)] := by
   intro x9 x10 h σ' hk
   unfold spec_l5Cut_J2 at h
   exact hK6 _ (lh hk rfl (rg (sp 3 rfl (evn (hN _ _ h (okr rfl))))))
  rcases cond_some h with ⟨g11, h⟩ | ⟨g11, h⟩
  ·refine qT rfl g11 (rs (sp 4 rfl (?_)))
   obtain ⟨g12, h⟩ := chk_some h
   refine qSs rfl g12 (qBs cst [subl a0 y2 y3] rfl rfl rfl zcst (?_))
   obtain ⟨g13, h⟩ := chk_some h
   exact qA cst y1 [subl a0 y2 y3] rfl rfl (flat_len zcst [subl a0 y2 y3]) rfl g13 (sp 1 rfl (evn (rg (sp 3 rfl (evn (kJ2 h _ (okr rfl)))))))
  ·exact qF rfl g11 (ls_skip (kJ2 h _ (okr rfl)))
 ·exact qF rfl g5 (ls_exit (kXB1 (Option.some.inj h) _ (okr rfl)))
def spec_VariableName (a0 : Int) : Option ((List UInt8)) := obind (spec_l1In a0 0 4) fun v2 => cond (!v2) (some []) (chk ((0 : Int) ≤ a0 ∧ a0 ≤ IntKind.i64.wrap (a0 + 1) ∧ IntKind.i64.wrap (a0 + 1) ≤ (List.length [88, 89, 90, 85, 86] : Int)) (some (subl [88, 89, 90, 85, 86] a0 (IntKind.i64.wrap (a0 + 1)))))
theorem spec_VariableName_s {a0 : Int} {r : (List UInt8)} (h : spec_VariableName a0 = some r) : SoundAt Tryz.prog 244 [nI a0] (.str r) := by
 unfold spec_VariableName at h
 refine st lit244 rfl (rn 1 rfl (ls_seq_k fun K1 hK1 => rs (sp 1 rfl (?_))))
 obtain ⟨v2, g3, h⟩ := ob_some h
 refine qC (qs rfl (qs rfl (qs rfl eran))) (spec_l1In_s g3) (sp 1 rfl (evn ?_))
 rcases cond_some h with ⟨g4, h⟩ | ⟨g4, h⟩
 ·exact qT rfl g4 (rn 1 rfl (ls_ret ((by cases h; exact ⟨.inl rfl, rfl⟩))))
 ·refine qF rfl g4 (ls_skip (hK1 _ (rs (sp 3 rfl (?_)))))
  obtain ⟨g5, h⟩ := chk_some h
  exact qSs rfl g5 (sp 1 rfl (evn (ls_ret ((by cases h; exact ⟨.inl rfl, rfl⟩)))))
def spec_l7List_J3 (rec : ((List Int) × Int) → Option ((List Int))) (y8 : Int) (x13 : List Int) : Option ((List Int)) := rec (x13, (IntKind.i64.wrap (y8 + 1)))
def spec_l7List_B2 (a0 : List UInt8) (y4 : Int) (rec : ((List Int) × Int) → Option ((List Int))) (s : (List Int) × Int) : Option ((List Int)) := match s with
  | (y7, y8) => cond (decide (y8 < 5)) (obind (spec_VariableName y8) fun v10 => chk ((0 : Int) ≤ y4 ∧ y4 ≤ IntKind.i64.wrap (y4 + 1) ∧ IntKind.i64.wrap (y4 + 1) ≤ (List.length a0 : Int)) (cond (v10 == (subl a0 y4 (IntKind.i64.wrap (y4 + 1)))) (chk (List.length y7 + List.length [y8] ≤ lim) (spec_l7List_J3 rec y8 (y7 ++ [y8]))) (spec_l7List_J3 rec y8 y7))) (some y7)
def spec_l7List_B1 (a0 : List UInt8) (rec : ((List Int) × Int) → Option ((List Int))) (s : (List Int) × Int) : Option ((List Int)) := match s with
  | (y3, y4) => cond (decide (y4 < (List.length a0 : Int))) (obind (loopF (spec_l7List_B2 a0 y4) fz (y3, 0)) fun z6 => rec (z6, (IntKind.i64.wrap (y4 + 1)))) (some y3)
def spec_l7List (a0 : List UInt8) : Option ((List Int)) := obind (loopF (spec_l7List_B1 a0) fz (([] : List Int), 0)) fun z2 => some z2
theorem spec_l7List_s {a0 : List UInt8} {r : (List Int)} (h : spec_l7List a0 = some r) : SoundAt Tryz.prog 243 [.str a0] (oL 3 ci64 r) := by
 unfold spec_l7List at h
 refine st lit243 rfl (rn 1 rfl (rs (qBs ci64 [] rfl rfl rfl zci64 (sp 1 rfl (evn (ls_seq_k fun K1 hK1 => rn 1 rfl ?_))))))
 obtain ⟨o1, hl, hr1⟩ := ob_some h
 have kXB1 : ∀ {z2 : List Int}, z2 = o1 → Jn K1 [(3, oL 3 ci64 z2)] := by
  intro z2 h σ' hk
  subst h
  replace h := hr1
  try dsimp only at h
  exact hK1 _ (lh hk rfl (rn 1 rfl (ls_ret ((by cases h; exact ⟨.inl rfl, rfl⟩)))))
 refine ls_rec (fun (s : (List Int) × Int) => match s with | (y3, y4) => [(0, .str a0), (3, oL 3 ci64 y3), (4, nI y4)]) _ _ _ _ hl (okr rfl) (fun _ => rfl) ?_
 rintro m ⟨y3, y4⟩ N h hN
 unfold spec_l7List_B1 at h
 dsimp only at h
 refine ls_seq_k fun K3 hK3 => rn 1 rfl ?_
 rcases cond_some h with ⟨g4, h⟩ | ⟨g4, h⟩
 ·refine qT rfl g4 (ls_skip (hK3 _ (ls_seq_k fun K5 hK5 => ls_blk (rn 1 rfl ?_))))
  obtain ⟨o2, hl, hr2⟩ := ob_some h
  have kXB2 : ∀ {z6 : List Int}, z6 = o2 → Jn K5 [(0, .str a0), (3, oL 3 ci64 z6), (4, nI y4)] := by
   intro z6 h σ' hk
   subst h
   replace h := hr2
   try dsimp only at h
   exact hK5 _ (lh hk rfl (rg (sp 3 rfl (evn (hN _ _ h (okr rfl))))))
  refine ls_rec (fun (s : (List Int) × Int) => match s with | (y7, y8) => [(0, .str a0), (3, oL 3 ci64 y7), (4, nI y4), (5, nI y8)]) _ _ _ _ hl (okr rfl) (fun _ => rfl) ?_
  rintro m ⟨y7, y8⟩ N h hN
  unfold spec_l7List_B2 at h
  dsimp only at h
  refine ls_seq_k fun K7 hK7 => rn 1 rfl ?_
  rcases cond_some h with ⟨g8, h⟩ | ⟨g8, h⟩
  ·refine qT rfl g8 (ls_skip (hK7 _ (ls_seq_k fun K9 hK9 => ls_blk (rd (by kernel_rfl) (sd 1 rfl (?_))))))
   obtain ⟨v10, g11, h⟩ := ob_some h
   refine ed rfl (qC (qs rfl eran) (spec_VariableName_s g11) (sd 4 rfl (?_)))
   obtain ⟨g12, h⟩ := chk_some h
   refine ed rfl (qSs rfl g12 (sd 1 rfl (evdn ?_)))
   have kJ3 : ∀ {x13 : List Int}, spec_l7List_J3 (loopF (spec_l7List_B2 a0 y4) m) y8 x13 = some o2 → Jn K9 [(0, .str a0), (3, oL 3 ci64 x13), (4, nI y4), (5, nI y8)] := by
    intro x13 h σ' hk
    unfold spec_l7List_J3 at h
    exact hK9 _ (lh hk rfl (rg (sp 3 rfl (evn (hN _ _ h (okr rfl))))))
   rcases cond_some h with ⟨g14, h⟩ | ⟨g14, h⟩
   ·refine qT rfl g14 (rg (sp 2 rfl (qBs ci64 [y8] rfl rfl rfl zci64 (?_))))
    obtain ⟨g15, h⟩ := chk_some h
    exact qA ci64 y7 [y8] rfl rfl (flat_len zci64 [y8]) rfl g15 (sp 1 rfl (evn (kJ3 h _ (okr rfl))))
   ·exact qF rfl g14 (ls_skip (kJ3 h _ (okr rfl)))
  ·exact qF rfl g8 (ls_exit (kXB2 (Option.some.inj h) _ (okr rfl)))
 ·exact qF rfl g4 (ls_exit (kXB1 (Option.some.inj h) _ (okr rfl)))
def spec_l7Vars_B1 (a0 : List Int) (rec : ((List UInt8) × Int) → Option ((List UInt8))) (s : (List UInt8) × Int) : Option ((List UInt8)) := match s with
  | (y1, y2) => cond (decide (y2 < (List.length a0 : Int))) (obind (geti a0 y2) fun e6 => obind (spec_VariableName e6) fun v8 => chk (List.length y1 + List.length v8 ≤ lim) (rec ((y1 ++ v8), (IntKind.i64.wrap (y2 + 1))))) (some y1)
def spec_l7Vars (a0 : List Int) : Option ((List UInt8)) := obind (loopF (spec_l7Vars_B1 a0) fz ([40], 0)) fun z2 => chk (List.length z2 + List.length [41] ≤ lim) (some (z2 ++ [41]))
theorem spec_l7Vars_s {a0 : List Int} {r : (List UInt8)} (h : spec_l7Vars a0 = some r) : SoundAt Tryz.prog 253 [dL ci64 a0] (.str r) := by
 unfold spec_l7Vars at h
 refine st lit253 rfl (rn 2 rfl (ls_seq_k fun K1 hK1 => rn 1 rfl ?_))
 obtain ⟨o1, hl, hr1⟩ := ob_some h
 have kXB1 : ∀ {z2 : List UInt8}, z2 = o1 → Jn K1 [(3, .str z2)] := by
  intro z2 h σ' hk
  subst h
  replace h := hr1
  try dsimp only at h
  refine hK1 _ (lh hk rfl (rs (sp 1 rfl (?_))))
  obtain ⟨g11, h⟩ := chk_some h
  exact qB rfl g11 rfl (sp 1 rfl (evn (ls_ret ((by cases h; exact ⟨.inl rfl, rfl⟩)))))
 refine ls_rec (fun (s : (List UInt8) × Int) => match s with | (y1, y2) => [(0, dL ci64 a0), (3, .str y1), (4, nI y2)]) _ _ _ _ hl (okr rfl) (fun _ => rfl) ?_
 rintro m ⟨y1, y2⟩ N h hN
 unfold spec_l7Vars_B1 at h
 dsimp only at h
 refine ls_seq_k fun K3 hK3 => rn 1 rfl ?_
 rcases cond_some h with ⟨g4, h⟩ | ⟨g4, h⟩
 ·refine qT rfl g4 (ls_skip (hK3 _ (ls_seq_k fun K5 hK5 => ls_blk (rg (sp 3 rfl (?_))))))
  obtain ⟨e6, g7, h⟩ := ob_some h
  refine qI rfl zci64 g7 (sp 1 rfl (?_))
  obtain ⟨v8, g9, h⟩ := ob_some h
  refine qC (qs rfl eran) (spec_VariableName_s g9) (?_)
  obtain ⟨g10, h⟩ := chk_some h
  exact qB rfl g10 rfl (sp 1 rfl (evn (hK5 _ (rg (sp 3 rfl (evn (hN _ _ h (okr rfl))))))))
 ·exact qF rfl g4 (ls_exit (kXB1 (Option.some.inj h) _ (okr rfl)))
def spec_FormatQuery_J2 (rec : ((List UInt8) × Int) → Option ((List UInt8))) (a0 : Y29) (y2 : Int) (x14 : List UInt8) : Option ((List UInt8)) := obind (geti a0.2.1 y2) fun e15 => chk (List.length x14 + List.length e15.1 ≤ lim) (obind (geti a0.2.1 y2) fun e18 => obind (spec_l7Vars e18.2) fun v20 => chk (List.length (x14 ++ e15.1) + List.length v20 ≤ lim) (rec (((x14 ++ e15.1) ++ v20), (IntKind.i64.wrap (y2 + 1)))))
def spec_FormatQuery_B1 (a0 : Y29) (rec : ((List UInt8) × Int) → Option ((List UInt8))) (s : (List UInt8) × Int) : Option ((List UInt8)) := match s with
  | (y1, y2) => cond (decide (y2 < (List.length a0.2.1 : Int))) (cond (decide (0 < y2)) (chk (List.length y1 + List.length [44] ≤ lim) (spec_FormatQuery_J2 rec a0 y2 (y1 ++ [44]))) (spec_FormatQuery_J2 rec a0 y2 y1)) (some y1)
def spec_FormatQuery (a0 : Y29) : Option ((List UInt8)) := obind (spec_IsValidQuery a0) fun v2 => cond (!v2) (some []) (obind (spec_l7Vars a0.2.2) fun v5 => chk (List.length v5 + List.length [61] ≤ lim) (obind (loopF (spec_FormatQuery_B1 a0) fz ((v5 ++ [61]), 0)) fun z9 => some z9))
theorem spec_FormatQuery_s {a0 : Y29} {r : (List UInt8)} (h : spec_FormatQuery a0 = some r) : SoundAt Tryz.prog 245 [.agg (c30_ddd a0)] (.str r) := by
 unfold spec_FormatQuery at h
 refine st lit245 rfl (rn 1 rfl (ls_seq_k fun K1 hK1 => rs (sp 1 rfl (?_))))
 obtain ⟨v2, g3, h⟩ := ob_some h
 refine qC (qa rfl (erg (erc rfl (erc (erD ec96_d _) (erc (erD eci64 _) rfl)))) eran) (spec_IsValidQuery_s g3) (sp 1 rfl (evn ?_))
 rcases cond_some h with ⟨g4, h⟩ | ⟨g4, h⟩
 ·exact qT rfl g4 (rn 1 rfl (ls_ret ((by cases h; exact ⟨.inl rfl, rfl⟩))))
 ·refine qF rfl g4 (ls_skip (hK1 _ (rs (sp 2 rfl (?_)))))
  obtain ⟨v5, g6, h⟩ := ob_some h
  refine qC (qa rfl (erD eci64 _) eran) (spec_l7Vars_s g6) (?_)
  obtain ⟨g7, h⟩ := chk_some h
  refine qB rfl g7 rfl (sp 1 rfl (evn (ls_seq_k fun K8 hK8 => rn 1 rfl ?_)))
  obtain ⟨o1, hl, hr1⟩ := ob_some h
  have kXB1 : ∀ {z9 : List UInt8}, z9 = o1 → Jn K8 [(3, .str z9)] := by
   intro z9 h σ' hk
   subst h
   replace h := hr1
   try dsimp only at h
   exact hK8 _ (lh hk rfl (rn 1 rfl (ls_ret ((by cases h; exact ⟨.inl rfl, rfl⟩)))))
  refine ls_rec (fun (s : (List UInt8) × Int) => match s with | (y1, y2) => [(1, .box [nI a0.1, dL c96_d a0.2.1, dL ci64 a0.2.2]), (3, .str y1), (4, nI y2)]) _ _ _ _ hl (okr rfl) (fun _ => rfl) ?_
  rintro m ⟨y1, y2⟩ N h hN
  unfold spec_FormatQuery_B1 at h
  dsimp only at h
  refine ls_seq_k fun K10 hK10 => rn 1 rfl ?_
  rcases cond_some h with ⟨g11, h⟩ | ⟨g11, h⟩
  ·refine qT rfl g11 (ls_skip (hK10 _ (ls_seq_k fun K12 hK12 => ls_blk (ls_seq_k fun K13 hK13 => rn 1 rfl ?_))))
   have kJ2 : ∀ {x14 : List UInt8}, spec_FormatQuery_J2 (loopF (spec_FormatQuery_B1 a0) m) a0 y2 x14 = some o1 → Jn K13 [(1, .box [nI a0.1, dL c96_d a0.2.1, dL ci64 a0.2.2]), (3, .str x14), (4, nI y2)] := by
    intro x14 h σ' hk
    unfold spec_FormatQuery_J2 at h
    refine hK13 _ (lh hk rfl (rgd (by kernel_rfl) (sd 4 rfl (?_))))
    obtain ⟨e15, g16, h⟩ := ob_some h
    refine ed rfl (qI rfl zc96_d g16 (sd 2 rfl (?_)))
    obtain ⟨g17, h⟩ := chk_some h
    refine ed rfl (qB rfl g17 rfl (sd 3 rfl (?_)))
    obtain ⟨e18, g19, h⟩ := ob_some h
    refine ed rfl (qI rfl zc96_d g19 (sd 2 rfl (?_)))
    obtain ⟨v20, g21, h⟩ := ob_some h
    refine ed rfl (qC (qa rfl (erD eci64 _) eran) (spec_l7Vars_s g21) (?_))
    obtain ⟨g22, h⟩ := chk_some h
    exact ed rfl (qB rfl g22 rfl (sd 1 rfl (evdn (hK12 _ (rg (sp 3 rfl (evn (hN _ _ h (okr rfl)))))))))
   rcases cond_some h with ⟨g23, h⟩ | ⟨g23, h⟩
   ·refine qT rfl g23 (rg (sp 1 rfl (?_)))
    obtain ⟨g24, h⟩ := chk_some h
    exact qB rfl g24 rfl (sp 1 rfl (evn (kJ2 h _ (okr rfl))))
   ·exact qF rfl g23 (ls_skip (kJ2 h _ (okr rfl)))
  ·exact qF rfl g11 (ls_exit (kXB1 (Option.some.inj h) _ (okr rfl)))
def c96_o (x : Y95) : List V := [.str x.1, oL 3 ci64 x.2]
theorem zc96_o (x : Y95) : (c96_o x).length = 2 := rfl
theorem ec96_o (x : Y95) : erL (c96_o x) = c96_d x := (erc rfl (erc (erO eci64 _) rfl))
def c30_ooo (x : Y29) : List V := [nI x.1, oL 96 c96_o x.2.1, oL 3 ci64 x.2.2]
theorem zc30_ooo (x : Y29) : (c30_ooo x).length = 3 := rfl
theorem ec30_ooo (x : Y29) : erL (c30_ooo x) = c30_ddd x := (erc rfl (erc (erO ec96_o _) (erc (erO eci64 _) rfl)))
def spec_ParseQuery_J4 (rec : (Int × Int) → Option (Int)) (y27 : Int) (x45 : Int) : Option (Int) := rec (x45, (IntKind.i64.wrap (y27 + 1)))
def spec_ParseQuery_B3 (v11 : (List (List UInt8))) (y11 : Int) (y23 : Int) (rec : (Int × Int) → Option (Int)) (s : Int × Int) : Option (Int) := match s with
  | (y26, y27) => cond (decide (y27 < 5)) (obind (spec_VariableName y27) fun v40 => obind (geti v11 y11) fun e42 => chk ((0 : Int) ≤ y23 ∧ y23 ≤ IntKind.i64.wrap (y23 + 1) ∧ IntKind.i64.wrap (y23 + 1) ≤ (List.length e42 : Int)) (cond (v40 == (subl e42 y23 (IntKind.i64.wrap (y23 + 1)))) (spec_ParseQuery_J4 rec y27 (IntKind.i64.wrap (y27 + 1))) (spec_ParseQuery_J4 rec y27 y26))) (some y26)
def spec_ParseQuery_B2 (v11 : (List (List UInt8))) (y11 : Int) (rec : (Int × Int) → Option (Int)) (s : Int × Int) : Option (Int) := match s with
  | (y22, y23) => obind (geti v11 y11) fun e32 => cond (decide (y23 < (List.length e32 : Int))) (obind (loopF (spec_ParseQuery_B3 v11 y11 y23) fz (y22, y22)) fun z36 => rec (z36, (IntKind.i64.wrap (y23 + 1)))) (some y22)
def spec_ParseQuery_B1 (v11 : (List (List UInt8))) (rec : (Int × (List Y95) × Int) → Option (Int × (List Y95))) (s : Int × (List Y95) × Int) : Option (Int × (List Y95)) := match s with
  | (y9, y10, y11) => cond (decide (y11 < (List.length v11 : Int))) (obind (geti v11 y11) fun e19 => obind (spec_l5Cut e19 40) fun v21 => obind (geti v21 0) fun e23 => obind (geti v11 y11) fun e25 => obind (spec_l7List e25) fun v27 => chk (List.length y10 + List.length [(e23, v27)] ≤ lim) (obind (loopF (spec_ParseQuery_B2 v11 y11) fz (y9, 0)) fun z30 => rec (z30, (y10 ++ [(e23, v27)]), (IntKind.i64.wrap (y11 + 1))))) (some (y9, y10))
def spec_ParseQuery (a0 : List UInt8) : Option (Y29 × Bool) := obind (spec_l5Cut a0 61) fun v1 => cond ((List.length v1 : Int) != 2) (some ((0, [], []), false)) (obind (geti v1 0) fun e5 => obind (spec_l7List e5) fun v7 => obind (geti v1 1) fun e9 => obind (spec_l5Cut e9 44) fun v11 => obind (loopF (spec_ParseQuery_B1 v11) fz (0, ([] : List Y95), 0)) fun o1 => (match o1 with
  | (z14, z15) => (obind (spec_FormatQuery (z14, z15, v7)) fun v48 => cond (!(v48 == a0)) (some ((0, [], []), false)) (cond (a0 == []) (some ((0, [], []), false)) (some ((z14, z15, v7), true))))))
theorem spec_ParseQuery_s {a0 : List UInt8} {r : Y29 × Bool} (h : spec_ParseQuery a0 = some r) : SoundAt Tryz.prog 214 [.str a0] (.tup [.agg (c30_ooo r.1), .bool r.2]) := by
 unfold spec_ParseQuery at h
 refine st lit214 rfl (rn 1 rfl (rs (sp 1 rfl (?_))))
 obtain ⟨v1, g2, h⟩ := ob_some h
 refine qC (qs rfl (qs rfl eran)) (spec_l5Cut_s g2) (sp 1 rfl (evn (ls_seq_k fun K3 hK3 => rn 1 rfl ?_)))
 rcases cond_some h with ⟨g4, h⟩ | ⟨g4, h⟩
 ·exact qT rfl g4 (rn 1 rfl (ls_ret ((by cases h; exact ⟨.inl rfl, rfl⟩))))
 ·refine qF rfl g4 (ls_skip (hK3 _ (rs (sp 1 rfl (?_)))))
  obtain ⟨e5, g6, h⟩ := ob_some h
  refine qI rfl zcst g6 (sp 1 rfl (?_))
  obtain ⟨v7, g8, h⟩ := ob_some h
  refine qC (qs rfl eran) (spec_l7List_s g8) (sp 3 rfl (evn (rs (sp 1 rfl (?_)))))
  obtain ⟨e9, g10, h⟩ := ob_some h
  refine qI rfl zcst g10 (sp 1 rfl (?_))
  obtain ⟨v11, g12, h⟩ := ob_some h
  refine qC (qs rfl (qs rfl eran)) (spec_l5Cut_s g12) (sp 1 rfl (evn (qk [0, 2, 5, 6] rfl (ls_seq_k fun K13 hK13 => rn 1 rfl ?_))))
  obtain ⟨o1, hl, hr1⟩ := ob_some h
  have kXB1 : ∀ {z14 : Int} {z15 : List Y95}, (z14, z15) = o1 → Jn K13 [(0, .str a0), (2, .box [nI 0, oL 96 c96_o [], oL 3 ci64 []]), (5, .box [nI z14, oL 96 c96_o z15, oL 3 ci64 v7])] := by
   intro z14 z15 h σ' hk
   subst h
   replace h := hr1
   try dsimp only at h
   refine hK13 _ (lh hk rfl (ls_seq_k fun K47 hK47 => rs (sp 1 rfl (?_))))
   obtain ⟨v48, g49, h⟩ := ob_some h
   refine qC (qa rfl (erg (erc rfl (erc (erD ec96_o _) (erc (erD eci64 _) rfl)))) eran) (spec_FormatQuery_s g49) (sp 3 rfl (?_))
   rcases cond_some h with ⟨g50, h⟩ | ⟨g50, h⟩
   ·exact qg 84 g50 rfl (sp 3 rfl (evn (qT rfl rfl (rn 1 rfl (ls_ret ((by cases h; exact ⟨.inl rfl, rfl⟩)))))))
   ·refine qg 84 g50 rfl (sp 3 rfl (evn ?_))
    rcases cond_some h with ⟨g51, h⟩ | ⟨g51, h⟩
    ·exact qT rfl g51 (rn 1 rfl (ls_ret ((by cases h; exact ⟨.inl rfl, rfl⟩))))
    ·exact qF rfl g51 (ls_skip (hK47 _ (rn 1 rfl (ls_ret ((by cases h; exact ⟨.inl rfl, rfl⟩))))))
  refine ls_rec (fun (s : Int × (List Y95) × Int) => match s with | (y9, y10, y11) => [(0, .str a0), (2, .box [nI 0, oL 96 c96_o [], oL 3 ci64 []]), (5, .box [nI y9, oL 96 c96_o y10, oL 3 ci64 v7]), (6, oL 9 cst v11), (7, nI y11)]) _ _ _ _ hl (okr rfl) (fun _ => rfl) ?_
  rintro m ⟨y9, y10, y11⟩ N h hN
  unfold spec_ParseQuery_B1 at h
  dsimp only at h
  refine ls_seq_k fun K16 hK16 => rn 1 rfl ?_
  rcases cond_some h with ⟨g17, h⟩ | ⟨g17, h⟩
  ·refine qT rfl g17 (ls_skip (hK16 _ (ls_seq_k fun K18 hK18 => ls_blk (rs (sp 2 rfl (?_))))))
   obtain ⟨e19, g20, h⟩ := ob_some h
   refine qI rfl zcst g20 (sp 1 rfl (?_))
   obtain ⟨v21, g22, h⟩ := ob_some h
   refine qC (qs rfl (qs rfl eran)) (spec_l5Cut_s g22) (sp 1 rfl (evn (rd (by kernel_rfl) (sd 3 rfl (?_)))))
   obtain ⟨e23, g24, h⟩ := ob_some h
   refine ed rfl (qI rfl zcst g24 (sd 3 rfl (?_)))
   obtain ⟨e25, g26, h⟩ := ob_some h
   refine ed rfl (qI rfl zcst g26 (sd 1 rfl (?_)))
   obtain ⟨v27, g28, h⟩ := ob_some h
   refine ed rfl (qC (qs rfl eran) (spec_l7List_s g28) (sd 1 rfl (ed rfl (qBs c96_o [(e23, v27)] rfl rfl rfl zc96_o (?_)))))
   obtain ⟨g29, h⟩ := chk_some h
   refine ed rfl (qA c96_o y10 [(e23, v27)] rfl rfl (flat_len zc96_o [(e23, v27)]) rfl g29 (sd 2 rfl (evdn (rn 1 rfl (qk [0, 2, 5, 6, 7, 9] rfl ?_)))))
   obtain ⟨o2, hl, hr2⟩ := ob_some h
   have kXB2 : ∀ {z30 : Int}, z30 = o2 → Jn K18 [(0, .str a0), (2, .box [nI 0, oL 96 c96_o [], oL 3 ci64 []]), (5, .box [nI z30, oL 96 c96_o (y10 ++ [(e23, v27)]), oL 3 ci64 v7]), (6, oL 9 cst v11), (7, nI y11)] := by
    intro z30 h σ' hk
    subst h
    replace h := hr2
    try dsimp only at h
    exact hK18 _ (lh hk rfl (rg (sp 3 rfl (evn (hN _ _ h (okr rfl))))))
   refine ls_rec (fun (s : Int × Int) => match s with | (y22, y23) => [(0, .str a0), (2, .box [nI 0, oL 96 c96_o [], oL 3 ci64 []]), (5, .box [nI y22, oL 96 c96_o (y10 ++ [(e23, v27)]), oL 3 ci64 v7]), (6, oL 9 cst v11), (7, nI y11), (9, nI y23)]) _ _ _ _ hl (okr rfl) (fun _ => rfl) ?_
   rintro m ⟨y22, y23⟩ N h hN
   unfold spec_ParseQuery_B2 at h
   dsimp only at h
   refine ls_seq_k fun K31 hK31 => rs (sp 3 rfl (?_))
   obtain ⟨e32, g33, h⟩ := ob_some h
   refine qI rfl zcst g33 (sp 3 rfl (evn ?_))
   rcases cond_some h with ⟨g34, h⟩ | ⟨g34, h⟩
   ·refine qT rfl g34 (ls_skip (hK31 _ (ls_seq_k fun K35 hK35 => ls_blk (rn 1 rfl ?_))))
    obtain ⟨o3, hl, hr3⟩ := ob_some h
    have kXB3 : ∀ {z36 : Int}, z36 = o3 → Jn K35 [(0, .str a0), (2, .box [nI 0, oL 96 c96_o [], oL 3 ci64 []]), (5, .box [nI z36, oL 96 c96_o (y10 ++ [(e23, v27)]), oL 3 ci64 v7]), (6, oL 9 cst v11), (7, nI y11), (9, nI y23)] := by
     intro z36 h σ' hk
     subst h
     replace h := hr3
     try dsimp only at h
     exact hK35 _ (lh hk rfl (rg (sp 3 rfl (evn (hN _ _ h (okr rfl))))))
    refine ls_rec (fun (s : Int × Int) => match s with | (y26, y27) => [(0, .str a0), (2, .box [nI 0, oL 96 c96_o [], oL 3 ci64 []]), (5, .box [nI y26, oL 96 c96_o (y10 ++ [(e23, v27)]), oL 3 ci64 v7]), (6, oL 9 cst v11), (7, nI y11), (9, nI y23), (10, nI y27)]) _ _ _ _ hl (okr rfl) (fun _ => rfl) ?_
    rintro m ⟨y26, y27⟩ N h hN
    unfold spec_ParseQuery_B3 at h
    dsimp only at h
    refine ls_seq_k fun K37 hK37 => rn 1 rfl ?_
    rcases cond_some h with ⟨g38, h⟩ | ⟨g38, h⟩
    ·refine qT rfl g38 (ls_skip (hK37 _ (ls_seq_k fun K39 hK39 => ls_blk (rd (by kernel_rfl) (sd 1 rfl (?_))))))
     obtain ⟨v40, g41, h⟩ := ob_some h
     refine ed rfl (qC (qs rfl eran) (spec_VariableName_s g41) (sd 2 rfl (?_)))
     obtain ⟨e42, g43, h⟩ := ob_some h
     refine ed rfl (qI rfl zcst g43 (sd 4 rfl (?_)))
     obtain ⟨g44, h⟩ := chk_some h
     refine ed rfl (qSs rfl g44 (sd 1 rfl (evdn ?_)))
     have kJ4 : ∀ {x45 : Int}, spec_ParseQuery_J4 (loopF (spec_ParseQuery_B3 v11 y11 y23) m) y27 x45 = some o3 → Jn K39 [(0, .str a0), (2, .box [nI 0, oL 96 c96_o [], oL 3 ci64 []]), (5, .box [nI x45, oL 96 c96_o (y10 ++ [(e23, v27)]), oL 3 ci64 v7]), (6, oL 9 cst v11), (7, nI y11), (9, nI y23), (10, nI y27)] := by
      intro x45 h σ' hk
      unfold spec_ParseQuery_J4 at h
      exact hK39 _ (lh hk rfl (rg (sp 3 rfl (evn (hN _ _ h (okr rfl))))))
     rcases cond_some h with ⟨g46, h⟩ | ⟨g46, h⟩
     ·exact qT rfl g46 (rg (sp 4 rfl (evn (kJ4 h _ (okr rfl)))))
     ·exact qF rfl g46 (ls_skip (kJ4 h _ (okr rfl)))
    ·exact qF rfl g38 (ls_exit (kXB3 (Option.some.inj h) _ (okr rfl)))
   ·exact qF rfl g34 (ls_exit (kXB2 (Option.some.inj h) _ (okr rfl)))
  ·exact qF rfl g17 (ls_exit (kXB1 (Option.some.inj h) _ (okr rfl)))
def spec_l7Query_B2 (v9 : Int × Y163) (rec : ((List Int) × Int × Int × (List Int) × Int) → Option ((List Int) × Int × Int × (List Int))) (s : (List Int) × Int × Int × (List Int) × Int) : Option ((List Int) × Int × Int × (List Int)) := match s with
  | (y16, y17, y18, y19, y20) => cond (decide (0 < y20)) (obind (spec_l1Below (y16, y17, y18) (IntKind.i64.wrap (1 + v9.1))) fun v33 => chk (List.length y19 + List.length [v33.1] ≤ lim) (rec (v33.2.1, v33.2.2.1, v33.2.2.2, (y19 ++ [v33.1]), (IntKind.i64.wrap (y20 - 1))))) (some (y16, y17, y18, y19))
def spec_l7Query_B1 (v9 : Int × Y163) (rec : ((List Int) × Int × Int × (List Y95) × Int) → Option ((List Int) × Int × Int × (List Y95))) (s : (List Int) × Int × Int × (List Y95) × Int) : Option ((List Int) × Int × Int × (List Y95)) := match s with
  | (y6, y7, y8, y9, y10) => cond (decide (0 < y10)) (obind (spec_l1Below (y6, y7, y8) 5) fun v21 => obind (geti ([[114], [115], [116], [117], [118]]) v21.1) fun e23 => obind (loopF (spec_l7Query_B2 v9) fz (v21.2.1, v21.2.2.1, v21.2.2.2, ([] : List Int), (IntKind.i64.wrap (2 + (IntKind.i64.wrap (Int.tdiv v21.1 4)))))) fun o2 => (match o2 with
  | (z26, z27, z28, z29) => (chk (List.length y9 + List.length [(e23, z29)] ≤ lim) (rec (z26, z27, z28, (y9 ++ [(e23, z29)]), (IntKind.i64.wrap (y10 - 1))))))) (some (y6, y7, y8, y9))
def spec_l7Query_J4 (rec : ((List Int) × Int × Int × (List Int) × Int) → Option ((List Int) × Int × Int × (List Int))) (y25 : Int) (v45 : Bool × Y163) (x47 : List Int) : Option ((List Int) × Int × Int × (List Int)) := rec (v45.2.1, v45.2.2.1, v45.2.2.2, x47, (IntKind.i64.wrap (y25 + 1)))
def spec_l7Query_B3 (v9 : Int × Y163) (rec : ((List Int) × Int × Int × (List Int) × Int) → Option ((List Int) × Int × Int × (List Int))) (s : (List Int) × Int × Int × (List Int) × Int) : Option ((List Int) × Int × Int × (List Int)) := match s with
  | (y21, y22, y23, y24, y25) => cond (decide (y25 < (IntKind.i64.wrap (1 + v9.1)))) (obind (spec_l1Once (y21, y22, y23) 2) fun v45 => cond v45.1 (chk (List.length [y25] + List.length y24 ≤ lim) (spec_l7Query_J4 rec y25 v45 ([y25] ++ y24))) (spec_l7Query_J4 rec y25 v45 y24)) (some (y21, y22, y23, y24))
def spec_l7Query (a0 : Y163) : Option (Y29 × Y163) := obind (spec_l1Pick a0 ([[40, 88, 89, 90, 41, 61, 114, 40, 88, 89, 41, 44, 115, 40, 89, 90, 41, 44, 116, 40, 90, 88, 41], [40, 88, 89, 90, 85, 41, 61, 114, 40, 88, 89, 41, 44, 115, 40, 89, 90, 41, 44, 116, 40, 90, 85, 41, 44, 117, 40, 85, 88, 41], [40, 88, 89, 90, 41, 61, 114, 40, 88, 89, 41, 44, 115, 40, 89, 90, 41], [40, 88, 41, 61, 114, 40, 88, 89, 41, 44, 115, 40, 89, 90, 41, 44, 116, 40, 90, 85, 41], [40, 88, 89, 90, 41, 61, 118, 40, 88, 89, 90, 41, 44, 114, 40, 88, 89, 41], [40, 88, 89, 41, 61, 114, 40, 88, 89, 41, 44, 114, 40, 89, 88, 41], [40, 88, 89, 90, 85, 41, 61, 118, 40, 88, 89, 90, 41, 44, 115, 40, 90, 85, 41, 44, 116, 40, 85, 88, 41], [40, 88, 41, 61, 114, 40, 88, 88, 41], [40, 88, 89, 41, 61, 114, 40, 88, 90, 41, 44, 115, 40, 90, 89, 41, 44, 114, 40, 88, 85, 41, 44, 115, 40, 85, 89, 41], [40, 41, 61, 114, 40, 88, 89, 41, 44, 115, 40, 89, 88, 41], [40, 88, 89, 90, 85, 86, 41, 61, 114, 40, 88, 89, 41, 44, 115, 40, 89, 90, 41, 44, 116, 40, 90, 85, 41, 44, 117, 40, 85, 86, 41]])) fun v1 => obind (spec_ParseQuery v1.1) fun v3 => obind (spec_l1Once v1.2 3) fun v6 => cond (!v6.1) (some (v3.1, v6.2)) (obind (spec_l1Below v6.2 4) fun v9 => obind (spec_l1Below v9.2 4) fun v12 => obind (loopF (spec_l7Query_B1 v9) fz (v12.2.1, v12.2.2.1, v12.2.2.2, ([] : List Y95), (IntKind.i64.wrap (1 + v12.1)))) fun o1 => (match o1 with
  | (z14, z15, z16, z17) => (obind (loopF (spec_l7Query_B3 v9) fz (z14, z15, z16, ([] : List Int), 0)) fun o3 => (match o3 with
  | (z38, z39, z40, z41) => (obind (spec_IsValidQuery (IntKind.i64.wrap (1 + v9.1), z17, z41)) fun v51 => cond (!v51) (some (v3.1, (z38, z39, z40))) (some ((IntKind.i64.wrap (1 + v9.1), z17, z41), (z38, z39, z40))))))))
theorem spec_l7Query_s {a0 : Y163} {r : Y29 × Y163} (h : spec_l7Query a0 = some r) : PtrAt Tryz.prog 157 [aL cu8 a0.1, nI a0.2.1, nI a0.2.2] [] [aL cu8 r.2.1, nI r.2.2.1, nI r.2.2.2] (.agg (c30_ooo r.1)) := by
 unfold spec_l7Query at h
 generalize hkk0 : ([[40, 88, 89, 90, 41, 61, 114, 40, 88, 89, 41, 44, 115, 40, 89, 90, 41, 44, 116, 40, 90, 88, 41], [40, 88, 89, 90, 85, 41, 61, 114, 40, 88, 89, 41, 44, 115, 40, 89, 90, 41, 44, 116, 40, 90, 85, 41, 44, 117, 40, 85, 88, 41], [40, 88, 89, 90, 41, 61, 114, 40, 88, 89, 41, 44, 115, 40, 89, 90, 41], [40, 88, 41, 61, 114, 40, 88, 89, 41, 44, 115, 40, 89, 90, 41, 44, 116, 40, 90, 85, 41], [40, 88, 89, 90, 41, 61, 118, 40, 88, 89, 90, 41, 44, 114, 40, 88, 89, 41], [40, 88, 89, 41, 61, 114, 40, 88, 89, 41, 44, 114, 40, 89, 88, 41], [40, 88, 89, 90, 85, 41, 61, 118, 40, 88, 89, 90, 41, 44, 115, 40, 90, 85, 41, 44, 116, 40, 85, 88, 41], [40, 88, 41, 61, 114, 40, 88, 88, 41], [40, 88, 89, 41, 61, 114, 40, 88, 90, 41, 44, 115, 40, 90, 89, 41, 44, 114, 40, 88, 85, 41, 44, 115, 40, 85, 89, 41], [40, 41, 61, 114, 40, 88, 89, 41, 44, 115, 40, 89, 88, 41], [40, 88, 89, 90, 85, 86, 41, 61, 114, 40, 88, 89, 41, 44, 115, 40, 89, 90, 41, 44, 116, 40, 90, 85, 41, 44, 117, 40, 85, 86, 41]] : List (List UInt8)) = kk0 at h
 refine stp lit157 rfl (rn 1 rfl ((rsB cst kk0 9 1 (by subst hkk0; kernel_rfl) (by subst hkk0; rfl) zcst (sp 1 rfl (evn (rs (sp 2 rfl (?_))))))))
 obtain ⟨v1, g2, h⟩ := ob_some h
 refine qP rfl rfl rfl rfl (qa rfl (erD ecst _) eran) (spec_l1Pick_s g2) (?_)
 obtain ⟨v3, g4, h⟩ := ob_some h
 refine qC (qs rfl eran) (spec_ParseQuery_s g4) (sp 6 rfl (evn (ls_seq_k fun K5 hK5 => rs (sp 1 rfl (?_)))))
 obtain ⟨v6, g7, h⟩ := ob_some h
 refine qP rfl rfl rfl rfl (qs rfl eran) (spec_l1Once_s g7) (sp 1 rfl (evn ?_))
 rcases cond_some h with ⟨g8, h⟩ | ⟨g8, h⟩
 ·exact qT rfl g8 (rn 1 rfl (ls_ret ((by cases h; exact ⟨.inl rfl, rfl, rfl⟩))))
 ·refine qF rfl g8 (ls_skip (hK5 _ (rs (sp 1 rfl (?_)))))
  obtain ⟨v9, g10, h⟩ := ob_some h
  refine qP rfl rfl rfl rfl (qs rfl eran) (spec_l1Below_s g10) (sp 4 rfl (evn (qk [0, 2, 4, 6] rfl (ls_seq_k fun K11 hK11 => rs (sp 1 rfl (?_))))))
  obtain ⟨v12, g13, h⟩ := ob_some h
  refine qP rfl rfl rfl rfl (qs rfl eran) (spec_l1Below_s g13) (sp 2 rfl (evn ?_))
  obtain ⟨o1, hl, hr1⟩ := ob_some h
  have kXB1 : ∀ {z14 : List Int} {z15 : Int} {z16 : Int} {z17 : List Y95}, (z14, z15, z16, z17) = o1 → Jn K11 [(0, .box [aL cu8 z14, nI z15, nI z16]), (2, .box [nI 0, oL 96 c96_o [], oL 3 ci64 []]), (4, .box [nI v3.1.1, oL 96 c96_o v3.1.2.1, oL 3 ci64 v3.1.2.2]), (6, .box [nI (IntKind.i64.wrap (1 + v9.1)), oL 96 c96_o z17, oL 3 ci64 []])] := by
   intro z14 z15 z16 z17 h σ' hk
   subst h
   replace h := hr1
   try dsimp only at h
   refine hK11 _ (lh hk rfl (ls_seq_k fun K37 hK37 => rn 1 rfl ?_))
   obtain ⟨o3, hl, hr3⟩ := ob_some h
   have kXB3 : ∀ {z38 : List Int} {z39 : Int} {z40 : Int} {z41 : List Int}, (z38, z39, z40, z41) = o3 → Jn K37 [(0, .box [aL cu8 z38, nI z39, nI z40]), (2, .box [nI 0, oL 96 c96_o [], oL 3 ci64 []]), (4, .box [nI v3.1.1, oL 96 c96_o v3.1.2.1, oL 3 ci64 v3.1.2.2]), (6, .box [nI (IntKind.i64.wrap (1 + v9.1)), oL 96 c96_o z17, oL 3 ci64 z41])] := by
    intro z38 z39 z40 z41 h σ' hk
    subst h
    replace h := hr3
    try dsimp only at h
    refine hK37 _ (lh hk rfl (ls_seq_k fun K50 hK50 => rs (sp 1 rfl (?_))))
    obtain ⟨v51, g52, h⟩ := ob_some h
    refine qC (qa rfl (erg (erc rfl (erc (erD ec96_o _) (erc (erD eci64 _) rfl)))) eran) (spec_IsValidQuery_s g52) (sp 1 rfl (evn ?_))
    rcases cond_some h with ⟨g53, h⟩ | ⟨g53, h⟩
    ·exact qT rfl g53 (rn 1 rfl (ls_ret ((by cases h; exact ⟨.inl rfl, rfl, rfl⟩))))
    ·exact qF rfl g53 (ls_skip (hK50 _ (rn 1 rfl (ls_ret ((by cases h; exact ⟨.inl rfl, rfl, rfl⟩))))))
   refine ls_rec (fun (s : (List Int) × Int × Int × (List Int) × Int) => match s with | (y21, y22, y23, y24, y25) => [(0, .box [aL cu8 y21, nI y22, nI y23]), (2, .box [nI 0, oL 96 c96_o [], oL 3 ci64 []]), (4, .box [nI v3.1.1, oL 96 c96_o v3.1.2.1, oL 3 ci64 v3.1.2.2]), (6, .box [nI (IntKind.i64.wrap (1 + v9.1)), oL 96 c96_o z17, oL 3 ci64 y24]), (11, nI y25)]) _ _ _ _ hl (okr rfl) (fun _ => rfl) ?_
   rintro m ⟨y21, y22, y23, y24, y25⟩ N h hN
   unfold spec_l7Query_B3 at h
   dsimp only at h
   refine ls_seq_k fun K42 hK42 => rn 1 rfl ?_
   rcases cond_some h with ⟨g43, h⟩ | ⟨g43, h⟩
   ·refine qT rfl g43 (ls_skip (hK42 _ (ls_seq_k fun K44 hK44 => ls_blk (rs (sp 1 rfl (?_))))))
    obtain ⟨v45, g46, h⟩ := ob_some h
    refine qP rfl rfl rfl rfl (qs rfl eran) (spec_l1Once_s g46) (evn ?_)
    have kJ4 : ∀ {x47 : List Int}, spec_l7Query_J4 (loopF (spec_l7Query_B3 v9) m) y25 v45 x47 = some o3 → Jn K44 [(0, .box (c164_a v45.2)), (2, .box [nI 0, oL 96 c96_o [], oL 3 ci64 []]), (4, .box [nI v3.1.1, oL 96 c96_o v3.1.2.1, oL 3 ci64 v3.1.2.2]), (6, .box [nI (IntKind.i64.wrap (1 + v9.1)), oL 96 c96_o z17, oL 3 ci64 x47]), (11, nI y25)] := by
     intro x47 h σ' hk
     unfold spec_l7Query_J4 at h
     exact hK44 _ (lh hk rfl (rg (sp 3 rfl (evn (hN _ _ h (okr rfl))))))
    rcases cond_some h with ⟨g48, h⟩ | ⟨g48, h⟩
    ·refine qT rfl g48 (rg (sp 1 rfl (qBs ci64 [y25] rfl rfl rfl zci64 (sp 2 rfl (?_)))))
     obtain ⟨g49, h⟩ := chk_some h
     exact qA ci64 [y25] y24 rfl rfl (flat_len zci64 y24) rfl g49 (sp 2 rfl (evn (kJ4 h _ (okr rfl))))
    ·exact qF rfl g48 (ls_skip (kJ4 h _ (okr rfl)))
   ·exact qF rfl g43 (ls_exit (kXB3 (Option.some.inj h) _ (okr rfl)))
  refine ls_rec (fun (s : (List Int) × Int × Int × (List Y95) × Int) => match s with | (y6, y7, y8, y9, y10) => [(0, .box [aL cu8 y6, nI y7, nI y8]), (2, .box [nI 0, oL 96 c96_o [], oL 3 ci64 []]), (4, .box [nI v3.1.1, oL 96 c96_o v3.1.2.1, oL 3 ci64 v3.1.2.2]), (6, .box [nI (IntKind.i64.wrap (1 + v9.1)), oL 96 c96_o y9, oL 3 ci64 []]), (7, nI y10)]) _ _ _ _ hl (okr rfl) (fun _ => rfl) ?_
  rintro m ⟨y6, y7, y8, y9, y10⟩ N h hN
  unfold spec_l7Query_B1 at h
  dsimp only at h
  refine ls_seq_k fun K18 hK18 => rn 1 rfl ?_
  rcases cond_some h with ⟨g19, h⟩ | ⟨g19, h⟩
  ·refine qT rfl g19 (ls_skip (hK18 _ (ls_seq_k fun K20 hK20 => ls_blk (rs (sp 1 rfl (?_))))))
   obtain ⟨v21, g22, h⟩ := ob_some h
   refine qP rfl rfl rfl rfl (qs rfl eran) (spec_l1Below_s g22) (sp 1 rfl (evn (rs (qBk cst [[114], [115], [116], [117], [118]] 9 1 (by kernel_rfl) rfl zcst (sp 1 rfl (?_))))))
   obtain ⟨e23, g24, h⟩ := ob_some h
   refine qI rfl zcst g24 (sp 4 rfl (evn (ls_seq_k fun K25 hK25 => rn 1 rfl ?_)))
   obtain ⟨o2, hl, hr2⟩ := ob_some h
   have kXB2 : ∀ {z26 : List Int} {z27 : Int} {z28 : Int} {z29 : List Int}, (z26, z27, z28, z29) = o2 → Jn K25 [(0, .box [aL cu8 z26, nI z27, nI z28]), (2, .box [nI 0, oL 96 c96_o [], oL 3 ci64 []]), (4, .box [nI v3.1.1, oL 96 c96_o v3.1.2.1, oL 3 ci64 v3.1.2.2]), (6, .box [nI (IntKind.i64.wrap (1 + v9.1)), oL 96 c96_o y9, oL 3 ci64 []]), (7, nI y10), (9, .box [.str e23, oL 3 ci64 z29])] := by
    intro z26 z27 z28 z29 h σ' hk
    subst h
    replace h := hr2
    try dsimp only at h
    refine hK25 _ (lh hk rfl (rg (sp 3 rfl (qBs c96_o [(e23, z29)] rfl rfl rfl zc96_o (?_)))))
    obtain ⟨g36, h⟩ := chk_some h
    exact qA c96_o y9 [(e23, z29)] rfl rfl (flat_len zc96_o [(e23, z29)]) rfl g36 (sp 2 rfl (evn (hK20 _ (rg (sp 3 rfl (evn (hN _ _ h (okr rfl))))))))
   refine ls_rec (fun (s : (List Int) × Int × Int × (List Int) × Int) => match s with | (y16, y17, y18, y19, y20) => [(0, .box [aL cu8 y16, nI y17, nI y18]), (2, .box [nI 0, oL 96 c96_o [], oL 3 ci64 []]), (4, .box [nI v3.1.1, oL 96 c96_o v3.1.2.1, oL 3 ci64 v3.1.2.2]), (6, .box [nI (IntKind.i64.wrap (1 + v9.1)), oL 96 c96_o y9, oL 3 ci64 []]), (7, nI y10), (9, .box [.str e23, oL 3 ci64 y19]), (10, nI y20)]) _ _ _ _ hl (okr rfl) (fun _ => rfl) ?_
   rintro m ⟨y16, y17, y18, y19, y20⟩ N h hN
   unfold spec_l7Query_B2 at h
   dsimp only at h
   refine ls_seq_k fun K30 hK30 => rn 1 rfl ?_
   rcases cond_some h with ⟨g31, h⟩ | ⟨g31, h⟩
   ·refine qT rfl g31 (ls_skip (hK30 _ (ls_seq_k fun K32 hK32 => ls_blk (rgd (by kernel_rfl) (sd 5 rfl (?_))))))
    obtain ⟨v33, g34, h⟩ := ob_some h
    refine ed rfl (qP rfl rfl rfl rfl (qs rfl eran) (spec_l1Below_s g34) (ed rfl (qBs ci64 [v33.1] rfl rfl rfl zci64 (?_))))
    obtain ⟨g35, h⟩ := chk_some h
    exact ed rfl (qA ci64 y19 [v33.1] rfl rfl (flat_len zci64 [v33.1]) rfl g35 (sd 2 rfl (evdn (hK32 _ (rg (sp 3 rfl (evn (hN _ _ h (okr rfl)))))))))
   ·exact qF rfl g31 (ls_exit (kXB2 (Option.some.inj h) _ (okr rfl)))
  ·exact qF rfl g19 (ls_exit (kXB1 (Option.some.inj h) _ (okr rfl)))
theorem dkc96_o (x : Y95) : deepL (c96_o x) = true := (dcc rfl (dcc (dco (fun _ => rfl) 3 _) dcn))
def spec_l7Any_J1 (x6 : List Int) (x7 : Int) (x8 : Int) (x9 : Int) (x10 : List Y95) (x11 : List Int) : Option (Y29 × Y163) := some ((x9, x10, x11), (x6, x7, x8))
def spec_l7Any (a0 : Y163) : Option (Y29 × Y163) := obind (spec_l7Query a0) fun v1 => obind (spec_l1Below v1.2 14) fun v4 => cond (v4.1 == 0) (obind (spec_l1PickInt v4.2 [0, 6, IntKind.i64.wrap (v1.1.1 + 1)]) fun v13 => spec_l7Any_J1 v13.2.1 v13.2.2.1 v13.2.2.2 v13.1 v1.1.2.1 v1.1.2.2) (cond (v4.1 == 1) (obind (spec_l1Pick v4.2 ([[], [119], [114]])) fun v16 => chk (List.length v1.1.2.1 + List.length ([(v16.1, [0])]) ≤ lim) (spec_l7Any_J1 v16.2.1 v16.2.2.1 v16.2.2.2 v1.1.1 (v1.1.2.1 ++ ([(v16.1, [0])])) v1.1.2.2)) (cond (v4.1 == 2) (obind (spec_l1Below v4.2 6) fun v20 => chk (List.length v1.1.2.2 + List.length [IntKind.i64.wrap (v20.1 - 1)] ≤ lim) (spec_l7Any_J1 v20.2.1 v20.2.2.1 v20.2.2.2 v1.1.1 v1.1.2.1 (v1.1.2.2 ++ [IntKind.i64.wrap (v20.1 - 1)]))) (cond (v4.1 == 3) (chk (0 < List.length v1.1.2.1) (obind (geti v1.1.2.1 0) fun e26 => spec_l7Any_J1 v4.2.1 v4.2.2.1 v4.2.2.2 v1.1.1 (seti v1.1.2.1 0 (e26.1, [])) v1.1.2.2)) (cond (v4.1 == 4) (chk (0 < List.length v1.1.2.1) (obind (geti v1.1.2.1 0) fun e31 => chk (0 < List.length e31.2) (obind (geti v1.1.2.1 0) fun e35 => obind (spec_l1PickInt v4.2 [-1, 5]) fun v37 => obind (geti e31.2 0) fun e39 => spec_l7Any_J1 v37.2.1 v37.2.2.1 v37.2.2.2 v1.1.1 (seti v1.1.2.1 0 (e31.1, seti e31.2 0 v37.1)) v1.1.2.2))) (spec_l7Any_J1 v4.2.1 v4.2.2.1 v4.2.2.2 v1.1.1 v1.1.2.1 v1.1.2.2)))))
theorem spec_l7Any_s {a0 : Y163} {r : Y29 × Y163} (h : spec_l7Any a0 = some r) : PtrAt Tryz.prog 88 [aL cu8 a0.1, nI a0.2.1, nI a0.2.2] [] [aL cu8 r.2.1, nI r.2.2.1, nI r.2.2.2] (.agg (c30_ooo r.1)) := by
 unfold spec_l7Any at h
 refine stp lit88 rfl (rn 1 rfl (rs (sp 1 rfl (?_))))
 obtain ⟨v1, g2, h⟩ := ob_some h
 refine qP rfl rfl rfl rfl eran (spec_l7Query_s g2) (sp 2 rfl (evn (ls_seq_k fun K3 hK3 => rs (sp 1 rfl (?_)))))
 obtain ⟨v4, g5, h⟩ := ob_some h
 refine qP rfl rfl rfl rfl (qs rfl eran) (spec_l1Below_s g5) (evn (ls_blk (rn 1 rfl ?_)))
 have kJ1 : ∀ {x6 : List Int} {x7 : Int} {x8 : Int} {x9 : Int} {x10 : List Y95} {x11 : List Int}, spec_l7Any_J1 x6 x7 x8 x9 x10 x11 = some r → Jn K3 [(0, .box [aL cu8 x6, nI x7, nI x8]), (2, .box [nI 0, oL 96 c96_o [], oL 3 ci64 []]), (3, .box [nI x9, oL 96 c96_o x10, oL 3 ci64 x11])] := by
  intro x6 x7 x8 x9 x10 x11 h σ' hk
  unfold spec_l7Any_J1 at h
  exact hK3 _ (lh hk rfl (rn 1 rfl (ls_ret ((by cases h; exact ⟨.inl rfl, rfl, rfl⟩)))))
 rcases cond_some h with ⟨g12, h⟩ | ⟨g12, h⟩
 ·refine qT rfl g12 (rg (sp 4 rfl (qBs ci64 [0, 6, IntKind.i64.wrap (v1.1.1 + 1)] rfl rfl rfl zci64 (?_))))
  obtain ⟨v13, g14, h⟩ := ob_some h
  exact qP rfl rfl rfl rfl (qa rfl (erO eci64 _) eran) (spec_l1PickInt_s g14) (sp 2 rfl (evn (kJ1 h _ (okr rfl))))
 ·refine qF rfl g12 (rn 1 rfl ?_)
  rcases cond_some h with ⟨g15, h⟩ | ⟨g15, h⟩
  ·refine qT rfl g15 (rgd (by kernel_rfl) (sd 3 rfl (ed rfl (qBs cst [[], [119], [114]] rfl rfl rfl zcst (?_)))))
   obtain ⟨v16, g17, h⟩ := ob_some h
   refine ed rfl (qP rfl rfl rfl rfl (qa rfl (erO ecst _) eran) (spec_l1Pick_s g17) (ed rfl (qBs ci64 [0] rfl rfl rfl zci64 (sd 1 rfl (ed rfl (qBs c96_o [(v16.1, [0])] rfl rfl rfl zc96_o (?_)))))))
   obtain ⟨g18, h⟩ := chk_some h
   exact ed rfl (qA c96_o v1.1.2.1 ([(v16.1, [0])]) rfl rfl (flat_len zc96_o ([(v16.1, [0])])) rfl g18 (sd 2 rfl (evdn (kJ1 h _ (okr rfl)))))
  ·refine qF rfl g15 (rn 1 rfl ?_)
   rcases cond_some h with ⟨g19, h⟩ | ⟨g19, h⟩
   ·refine qT rfl g19 (rgd (by kernel_rfl) (sd 3 rfl (?_)))
    obtain ⟨v20, g21, h⟩ := ob_some h
    refine ed rfl (qP rfl rfl rfl rfl (qs rfl eran) (spec_l1Below_s g21) (sd 1 rfl (ed rfl (qBs ci64 [IntKind.i64.wrap (v20.1 - 1)] rfl rfl rfl zci64 (?_)))))
    obtain ⟨g22, h⟩ := chk_some h
    exact ed rfl (qA ci64 v1.1.2.2 [IntKind.i64.wrap (v20.1 - 1)] rfl rfl (flat_len zci64 [IntKind.i64.wrap (v20.1 - 1)]) rfl g22 (sd 2 rfl (evdn (kJ1 h _ (okr rfl)))))
   ·refine qF rfl g19 (rn 1 rfl (qk [0, 2, 3, 7, 39] rfl ?_))
    rcases cond_some h with ⟨g23, h⟩ | ⟨g23, h⟩
    ·refine qT rfl g23 (qk [0, 2, 3] rfl ?_)
     obtain ⟨g24, h⟩ := chk_some h
     refine ls_hg (gLb (q := 900003) (b := 3) [nI v1.1.1] [oL 3 ci64 v1.1.2.2] rfl rfl rfl g24 ?_)
     intro gg25 mm25
     refine qk [0, 2, 3, 900003] rfl (ls_gh (rg (sp 2 rfl (?_))))
     obtain ⟨e26, g27, h⟩ := ob_some h
     refine qIt rfl rfl rfl rfl g27 (sp 1 rfl (?_))
     refine qSt0 (y0 := e26) (i := 0) (es := 2) (e2 := 3) 1 (e26.1, []) [0, 2, 3] rfl rfl rfl rfl rfl rfl rfl rfl zc96_o g27 dkc96_o (yc (snc (sA (aca (fun _ => rfl) _)) (snc rfl (snc rfl rfl))) (yc (snc rfl (snc rfl (snc rfl rfl))) (yc (snc rfl (snc rfl (snc (sO (dco (fun _ => rfl) 3 _)) rfl))) yn))) (?_)
     exact evn (gDb (q := 900003) (b := 3) [nI v1.1.1] [oL 3 ci64 v1.1.2.2] rfl rfl rfl (sl rfl) (kJ1 h _ (okr rfl)))
    ·refine qF rfl g23 (rn 1 rfl ?_)
     rcases cond_some h with ⟨g28, h⟩ | ⟨g28, h⟩
     ·refine qT rfl g28 (qk [0, 2, 3] rfl ?_)
      obtain ⟨g29, h⟩ := chk_some h
      refine ls_hg (gLb (q := 900004) (b := 3) [nI v1.1.1] [oL 3 ci64 v1.1.2.2] rfl rfl rfl g29 ?_)
      intro gg30 mm30
      refine qk [0, 2, 3, 900004] rfl ?_
      obtain ⟨e31, g32, h⟩ := ob_some h
      obtain ⟨g33, h⟩ := chk_some h
      refine ls_hg (gLg (i := 0) (es := 2) 1 rfl rfl zc96_o g32 rfl rfl g33 ?_)
      intro gg34 mm34
      refine qk [0, 2, 3, 900003, 900004] rfl (ls_gh (ls_gh (rgt 8 (by kernel_rfl) (sd 2 rfl (?_)))))
      obtain ⟨e35, g36, h⟩ := ob_some h
      refine ed rfl (qIt rfl rfl rfl rfl g36 (sd 1 rfl (?_)))
      refine ed rfl (qLh rfl rfl rfl rfl rfl rfl (gk zc96_o g36 rfl) (?_))
      refine sd 1 rfl (ed rfl (qBs ci64 [-1, 5] rfl rfl rfl zci64 (?_)))
      obtain ⟨v37, g38, h⟩ := ob_some h
      refine ed rfl (qP rfl rfl rfl rfl (qa rfl (erO eci64 _) eran) (spec_l1PickInt_s g38) (evdn (gh_k ?_)))
      obtain ⟨e39, g40, h⟩ := ob_some h
      refine qIt rfl rfl rfl rfl g40 (?_)
      refine qSt (y0 := e39) (i := 0) (es := 1) 0 v37.1 [0, 2, 3, 900004] rfl rfl rfl rfl rfl rfl rfl rfl rfl rfl zci64 g40 (fun _ => rfl) (dcc rfl dcn) (yc (snc (sA (aca (fun _ => rfl) _)) (snc rfl (snc rfl rfl))) (yc (snc rfl (snc rfl (snc rfl rfl))) (yc (snc rfl (snc rfl (snc (sO (dco (fun _ => rfl) 3 _)) rfl))) (yc (sgh (dcf dkc96_o _)) yn)))) (?_)
      exact evn (gDg (i := 0) (es := 2) 1 (e31.1, seti e31.2 0 v37.1) rfl rfl zc96_o g32 rfl (sl rfl) rfl (gDb (q := 900004) (b := 3) [nI v1.1.1] [oL 3 ci64 v1.1.2.2] rfl rfl rfl (sl rfl) (kJ1 h _ (okr rfl))))
     ·exact qF rfl g28 (ls_skip (kJ1 h _ (okr rfl)))
def spec_l7Both (a0 : Y163) : Option ((List Y108) × Y29 × Y163) := obind (spec_l6Db a0) fun v1 => obind (spec_l7Query v1.2) fun v3 => obind (spec_l1Below v3.2 24) fun v6 => cond (v6.1 == 0) (obind (spec_l6Any v6.2) fun v9 => some (v9.1, v3.1, v9.2)) (cond (v6.1 == 1) (obind (spec_l7Any v6.2) fun v12 => some (v1.1, v12.1, v12.2)) (some (v1.1, v3.1, v6.2)))
theorem spec_l7Both_s {a0 : Y163} {r : (List Y108) × Y29 × Y163} (h : spec_l7Both a0 = some r) : PtrAt Tryz.prog 186 [aL cu8 a0.1, nI a0.2.1, nI a0.2.2] [] [aL cu8 r.2.2.1, nI r.2.2.2.1, nI r.2.2.2.2] (.tup [.agg [dL c109_dd r.1], .agg (c30_ooo r.2.1)]) := by
 unfold spec_l7Both at h
 refine stp lit186 rfl (rn 1 rfl (rs (sp 1 rfl (?_))))
 obtain ⟨v1, g2, h⟩ := ob_some h
 refine qP rfl rfl rfl rfl eran (spec_l6Db_s g2) (sp 2 rfl (evn (rs (sp 1 rfl (?_)))))
 obtain ⟨v3, g4, h⟩ := ob_some h
 refine qP rfl rfl rfl rfl eran (spec_l7Query_s g4) (sp 2 rfl (evn (ls_seq_k fun K5 hK5 => rs (sp 1 rfl (?_)))))
 obtain ⟨v6, g7, h⟩ := ob_some h
 refine qP rfl rfl rfl rfl (qs rfl eran) (spec_l1Below_s g7) (evn (ls_blk (rn 1 rfl ?_)))
 rcases cond_some h with ⟨g8, h⟩ | ⟨g8, h⟩
 ·refine qT rfl g8 (rd (by kernel_rfl) (sd 1 rfl (?_)))
  obtain ⟨v9, g10, h⟩ := ob_some h
  exact ed rfl (qP rfl rfl rfl rfl eran (spec_l6Any_s g10) (sd 3 rfl (evdn (ls_ret ((by cases h; exact ⟨.inl rfl, rfl, rfl⟩))))))
 ·refine qF rfl g8 (rn 1 rfl (qk [0, 2, 3, 4, 5, 17] rfl ?_))
  rcases cond_some h with ⟨g11, h⟩ | ⟨g11, h⟩
  ·refine qT rfl g11 (rd (by kernel_rfl) (sd 2 rfl (?_)))
   obtain ⟨v12, g13, h⟩ := ob_some h
   exact ed rfl (qP rfl rfl rfl rfl eran (spec_l7Any_s g13) (sd 2 rfl (evdn (ls_keep [(0, .box (c164_a v12.2)), (2, .box [dL c109_dd v1.1]), (3, .box [nI v12.1.1, oL 96 c96_o v12.1.2.1, oL 3 ci64 v12.1.2.2])] ⟨kr, (kb (cwe rfl (erO ec109_oo _) cwn)), kr, trivial⟩ rfl (ls_ret ((by cases h; exact ⟨.inl rfl, rfl, rfl⟩)))))))
  ·exact qF rfl g11 (ls_skip (hK5 _ (rd (by kernel_rfl) (sd 4 rfl (evdn (ls_keep [(0, .box (c164_a v6.2)), (2, .box [dL c109_dd v1.1]), (3, .box [nI v3.1.1, oL 96 c96_o v3.1.2.1, oL 3 ci64 v3.1.2.2])] ⟨kr, (kb (cwe rfl (erO ec109_oo _) cwn)), kr, trivial⟩ rfl (ls_ret ((by cases h; exact ⟨.inl rfl, rfl, rfl⟩)))))))))
def c30_dod (x : Y29) : List V := [nI x.1, dL c96_o x.2.1, dL ci64 x.2.2]
theorem zc30_dod (x : Y29) : (c30_dod x).length = 3 := rfl
theorem ec30_dod (x : Y29) : erL (c30_dod x) = c30_ddd x := (erc rfl (erc (erD ec96_o _) (erc (erD eci64 _) rfl)))
def spec_l20Draw (a0 : Y163) : Option ((List Y108) × Y29 × (List Int) × Y163) := obind (spec_l7Both a0) fun v1 => obind (spec_l19Order v1.2.2 v1.2.1) fun v3 => some (v1.1, v1.2.1, v3.1, v3.2)
theorem spec_l20Draw_s {a0 : Y163} {r : (List Y108) × Y29 × (List Int) × Y163} (h : spec_l20Draw a0 = some r) : PtrAt Tryz.prog 116 [aL cu8 a0.1, nI a0.2.1, nI a0.2.2] [] [aL cu8 r.2.2.2.1, nI r.2.2.2.2.1, nI r.2.2.2.2.2] (.tup [.agg [dL c109_dd r.1], .agg (c30_dod r.2.1), oL 3 ci64 r.2.2.1]) := by
 unfold spec_l20Draw at h
 refine stp lit116 rfl (rn 1 rfl (rs (sp 1 rfl (?_))))
 obtain ⟨v1, g2, h⟩ := ob_some h
 refine qP rfl rfl rfl rfl eran (spec_l7Both_s g2) (sp 7 rfl (evn (rd (by kernel_rfl) (sd 4 rfl (?_)))))
 obtain ⟨v3, g4, h⟩ := ob_some h
 exact ed rfl (qP rfl rfl rfl rfl (qa rfl (erg (erc rfl (erc (erD ec96_o _) (erc (erD eci64 _) rfl)))) eran) (spec_l19Order_s g4) (sd 3 rfl (evdn (ls_ret ((by cases h; exact ⟨.inl rfl, rfl, rfl⟩))))))
def spec_DrawBuildTries (a0 : List Int) : Option ((List Y108) × Y29 × (List Int)) := obind (spec_l1New a0) fun v1 => obind (spec_l20Draw v1) fun v3 => some (v3.1, v3.2.1, v3.2.2.1)
theorem spec_DrawBuildTries_s {a0 : List Int} {r : (List Y108) × Y29 × (List Int)} (h : spec_DrawBuildTries a0 = some r) : SoundAt Tryz.prog 47 [aL cu8 a0] (.tup [.agg [dL c109_dd r.1], .agg (c30_dod r.2.1), oL 3 ci64 r.2.2]) := by
 unfold spec_DrawBuildTries at h
 refine st lit47 rfl (rn 1 rfl (rs (sp 1 rfl (?_))))
 obtain ⟨v1, g2, h⟩ := ob_some h
 refine qN rfl rfl rfl rfl (spec_l1New_s g2) (?_)
 obtain ⟨v3, g4, h⟩ := ob_some h
 exact qP rfl rfl rfl rfl eran (spec_l20Draw_s g4) (sp 9 rfl (evn (rd (by kernel_rfl) (sd 6 rfl (evdn (ls_ret ((by cases h; exact ⟨.inl rfl, rfl⟩))))))))
def spec_DrawDegreeBound (a0 : List Int) : Option ((List Y108) × Y29 × (List Int)) := obind (spec_DrawBuildTries a0) fun v1 => some (v1.1, v1.2.1, v1.2.2)
theorem spec_DrawDegreeBound_s {a0 : List Int} {r : (List Y108) × Y29 × (List Int)} (h : spec_DrawDegreeBound a0 = some r) : SoundAt Tryz.prog 9 [aL cu8 a0] (.tup [.agg [dL c109_dd r.1], .agg (c30_dod r.2.1), oL 3 ci64 r.2.2]) := by
 unfold spec_DrawDegreeBound at h
 refine st lit9 rfl (rn 1 rfl (rs (sp 1 rfl (?_))))
 obtain ⟨v1, g2, h⟩ := ob_some h
 exact qCk rfl rfl (spec_DrawBuildTries_s g2) (sp 6 rfl (evn (ls_ret ((by cases h; exact ⟨.inl rfl, rfl⟩)))))
def impl_isLetters_B1 (a0 : List UInt8) (rec : Int → Option (Sum (Unit) (Bool))) (y1 : Int) : Option (Sum (Unit) (Bool)) := cond (decide (y1 < (List.length a0 : Int))) (obind (geti a0 y1) fun b8 => cond (decide ((UInt8.toNat b8 : Int) < 97)) (some (.inr false)) (obind (geti a0 y1) fun b11 => cond (decide (122 < (UInt8.toNat b11 : Int))) (some (.inr false)) (rec (IntKind.i64.wrap (y1 + 1))))) (some (.inl ()))
def impl_isLetters (a0 : List UInt8) (a1 : Int) : Option (Bool) := cond (decide ((List.length a0 : Int) < 1)) (some false) (cond (decide (a1 < (List.length a0 : Int))) (some false) (obind (loopF (impl_isLetters_B1 a0) fz 0) fun o1 => (match o1 with
  | .inl _ => (some true)
  | .inr r => some r)))
theorem impl_isLetters_s {a0 : List UInt8} {a1 : Int} {r : Bool} (h : impl_isLetters a0 a1 = some r) : SoundAt Tryz.prog 199 [.str a0, nI a1] (.bool r) := by
 unfold impl_isLetters at h
 refine st lit199 rfl (rn 1 rfl (ls_seq_k fun K1 hK1 => rs (sp 4 rfl (?_))))
 rcases cond_some h with ⟨g2, h⟩ | ⟨g2, h⟩
 ·exact qg 9 g2 rfl (sp 5 rfl (evn (qT rfl rfl (rn 1 rfl (ls_ret ((by cases h; exact ⟨.inl rfl, rfl⟩)))))))
 ·refine qg 9 g2 rfl (sp 5 rfl (evn ?_))
  rcases cond_some h with ⟨g3, h⟩ | ⟨g3, h⟩
  ·exact qT rfl g3 (rn 1 rfl (ls_ret ((by cases h; exact ⟨.inl rfl, rfl⟩))))
  ·refine qF rfl g3 (ls_skip (hK1 _ (ls_seq_k fun K4 hK4 => rn 1 rfl (qk [0, 5] rfl ?_))))
   obtain ⟨o1, hl, hr1⟩ := ob_some h
   have kXB1 : (.inl ()) = o1 → Jn K4 [] := by
    intro h σ' hk
    subst h
    replace h := hr1
    try dsimp only at h
    exact hK4 _ (lh hk rfl (rn 1 rfl (ls_ret ((by cases h; exact ⟨.inl rfl, rfl⟩)))))
   refine ls_rec (fun (y1 : Int) => [(0, .str a0), (5, nI y1)]) _ _ _ _ hl (okr rfl) (fun _ => rfl) ?_
   rintro m y1 N h hN
   unfold impl_isLetters_B1 at h
   refine ls_seq_k fun K5 hK5 => rn 1 rfl ?_
   rcases cond_some h with ⟨g6, h⟩ | ⟨g6, h⟩
   ·refine qT rfl g6 (ls_skip (hK5 _ (ls_seq_k fun K7 hK7 => ls_blk (rs (sp 2 rfl (?_))))))
    obtain ⟨b8, g9, h⟩ := ob_some h
    refine qX rfl g9 (sp 2 rfl (?_))
    rcases cond_some h with ⟨g10, h⟩ | ⟨g10, h⟩
    ·exact qg 25 g10 rfl (sp 5 rfl (evn (qT rfl rfl (rn 1 rfl (ls_ret ((by cases h; cases hr1; exact ⟨.inl rfl, rfl⟩)))))))
    ·refine qg 25 g10 rfl (sp 2 rfl (?_))
     obtain ⟨b11, g12, h⟩ := ob_some h
     refine oGR rfl rfl (qX rfl g12 (sp 2 rfl (evn ?_)))
     rcases cond_some h with ⟨g13, h⟩ | ⟨g13, h⟩
     ·exact qT rfl g13 (rn 1 rfl (qk [4] rfl (ls_ret ((by cases h; cases hr1; exact ⟨.inl rfl, rfl⟩)))))
     ·exact qF rfl g13 (ls_skip (hK7 _ (rg (sp 3 rfl (evn (hN _ _ h (okr rfl)))))))
   ·exact qF rfl g6 (ls_exit (kXB1 (Option.some.inj h) _ trivial))
def impl_IsValidName (a0 : List UInt8) : Option (Bool) := obind (impl_isLetters a0 4) fun v1 => some v1
theorem impl_IsValidName_s {a0 : List UInt8} {r : Bool} (h : impl_IsValidName a0 = some r) : SoundAt Tryz.prog 138 [.str a0] (.bool r) := by
 unfold impl_IsValidName at h
 refine st lit138 rfl (rn 1 rfl (rs (sp 1 rfl (?_))))
 obtain ⟨v1, g2, h⟩ := ob_some h
 exact qC (qs rfl (qs rfl eran)) (impl_isLetters_s g2) (sp 1 rfl (evn (ls_ret ((by cases h; exact ⟨.inl rfl, rfl⟩)))))
def impl_within_J1 (x2 : Bool) : Option (Bool) := some x2
def impl_within (a0 : Int) (a1 : Int) (a2 : Int) : Option (Bool) := cond (decide (a1 ≤ a0)) (impl_within_J1 (decide (a0 ≤ a2))) (impl_within_J1 false)
theorem impl_within_s {a0 : Int} {a1 : Int} {a2 : Int} {r : Bool} (h : impl_within a0 a1 a2 = some r) : SoundAt Tryz.prog 86 [nI a0, nI a1, nI a2] (.bool r) := by
 unfold impl_within at h
 refine st lit86 rfl (rn 1 rfl (rk fun K1 hK1 => ?_))
 have kJ1 : ∀ {x2 : Bool}, impl_within_J1 x2 = some r → Jn K1 [(6, .bool x2)] := by
  intro x2 h σ' hk
  unfold impl_within_J1 at h
  exact hK1 _ (lh hk rfl (ls_ret ((by cases h; exact ⟨.inl rfl, rfl⟩))))
 refine sp 4 rfl (?_)
 rcases cond_some h with ⟨g3, h⟩ | ⟨g3, h⟩
 ·exact qg 10 g3 rfl (sp 5 rfl (evn (kJ1 h _ (okr rfl))))
 ·exact qg 10 g3 rfl (sp 5 rfl (evn (kJ1 h _ (okr rfl))))
def impl_compareInts (a0 : Int) (a1 : Int) : Option (Int) := cond (decide (a0 < a1)) (some (-1)) (cond (decide (a1 < a0)) (some 1) (some 0))
theorem impl_compareInts_s {a0 : Int} {a1 : Int} {r : Int} (h : impl_compareInts a0 a1 = some r) : SoundAt Tryz.prog 232 [nI a0, nI a1] (nI r) := by
 unfold impl_compareInts at h
 refine st lit232 rfl (rn 1 rfl (ls_seq_k fun K1 hK1 => ls_blk (rn 1 rfl ?_)))
 rcases cond_some h with ⟨g2, h⟩ | ⟨g2, h⟩
 ·exact qT rfl g2 (rn 1 rfl (ls_ret ((by cases h; exact ⟨.inl rfl, rfl⟩))))
 ·refine qF rfl g2 (rn 1 rfl ?_)
  rcases cond_some h with ⟨g3, h⟩ | ⟨g3, h⟩
  ·exact qT rfl g3 (rn 1 rfl (ls_ret ((by cases h; exact ⟨.inl rfl, rfl⟩))))
  ·exact qF rfl g3 (ls_skip (hK1 _ (rn 1 rfl (qk [4] rfl (ls_ret ((by cases h; exact ⟨.inl rfl, rfl⟩)))))))
def impl_CompareRows_B1 (a0 : List Int) (a1 : List Int) (rec : Int → Option (Sum (Unit) (Int))) (y1 : Int) : Option (Sum (Unit) (Int)) := cond (decide (y1 < (List.length a0 : Int))) (cond (decide (y1 < (List.length a1 : Int))) (obind (geti a0 y1) fun e6 => obind (geti a1 y1) fun e8 => cond (e6 != e8) (obind (geti a0 y1) fun e11 => obind (geti a1 y1) fun e13 => obind (impl_compareInts e11 e13) fun v15 => some (.inr v15)) (rec (IntKind.i64.wrap (y1 + 1)))) (some (.inl ()))) (some (.inl ()))
def impl_CompareRows (a0 : List Int) (a1 : List Int) : Option (Int) := obind (loopF (impl_CompareRows_B1 a0 a1) fz 0) fun o1 => (match o1 with
  | .inl _ => (obind (impl_compareInts (List.length a0 : Int) (List.length a1 : Int)) fun v17 => some v17)
  | .inr r => some r)
theorem impl_CompareRows_s {a0 : List Int} {a1 : List Int} {r : Int} (h : impl_CompareRows a0 a1 = some r) : SoundAt Tryz.prog 194 [dL ci64 a0, dL ci64 a1] (nI r) := by
 unfold impl_CompareRows at h
 refine st lit194 rfl (rn 1 rfl (ls_seq_k fun K1 hK1 => rn 1 rfl ?_))
 obtain ⟨o1, hl, hr1⟩ := ob_some h
 have kXB1 : (.inl ()) = o1 → Jn K1 [(0, dL ci64 a0), (1, dL ci64 a1)] := by
  intro h σ' hk
  subst h
  replace h := hr1
  try dsimp only at h
  refine hK1 _ (lh hk rfl (rs (sp 4 rfl (?_))))
  obtain ⟨v17, g18, h⟩ := ob_some h
  exact qC (qs rfl (qs rfl eran)) (impl_compareInts_s g18) (sp 1 rfl (evn (ls_ret ((by cases h; exact ⟨.inl rfl, rfl⟩)))))
 refine ls_rec (fun (y1 : Int) => [(0, dL ci64 a0), (1, dL ci64 a1), (5, nI y1)]) _ _ _ _ hl (okr rfl) (fun _ => rfl) ?_
 rintro m y1 N h hN
 unfold impl_CompareRows_B1 at h
 refine ls_seq_k fun K2 hK2 => rs (sp 5 rfl (?_))
 rcases cond_some h with ⟨g3, h⟩ | ⟨g3, h⟩
 ·refine qg 10 g3 rfl (sp 5 rfl (evn ?_))
  rcases cond_some h with ⟨g4, h⟩ | ⟨g4, h⟩
  ·refine qT rfl g4 (ls_skip (hK2 _ (ls_seq_k fun K5 hK5 => ls_blk (rd (by kernel_rfl) (sd 2 rfl (?_))))))
   obtain ⟨e6, g7, h⟩ := ob_some h
   refine ed rfl (qI rfl zci64 g7 (sd 3 rfl (?_)))
   obtain ⟨e8, g9, h⟩ := ob_some h
   refine ed rfl (qI rfl zci64 g9 (sd 2 rfl (evdn ?_)))
   rcases cond_some h with ⟨g10, h⟩ | ⟨g10, h⟩
   ·refine qT rfl g10 (rd (by kernel_rfl) (sd 2 rfl (?_)))
    obtain ⟨e11, g12, h⟩ := ob_some h
    refine ed rfl (qI rfl zci64 g12 (sd 3 rfl (?_)))
    obtain ⟨e13, g14, h⟩ := ob_some h
    refine ed rfl (qI rfl zci64 g14 (sd 1 rfl (?_)))
    obtain ⟨v15, g16, h⟩ := ob_some h
    exact ed rfl (qC (qs rfl (qs rfl eran)) (impl_compareInts_s g16) (sd 1 rfl (evdn (qk [4] rfl (ls_ret ((by cases h; cases hr1; exact ⟨.inl rfl, rfl⟩)))))))
   ·exact qF rfl g10 (ls_skip (hK5 _ (rg (sp 3 rfl (evn (hN _ _ h (okr rfl)))))))
  ·exact qF rfl g4 (ls_exit (kXB1 (Option.some.inj h) _ (okr rfl)))
 ·exact qg 10 g3 rfl (sp 5 rfl (evn (qF rfl rfl (ls_exit (kXB1 (Option.some.inj h) _ (okr rfl))))))
def impl_AreValidValues_B1 (a0 : List Int) (rec : Int → Option (Sum (Unit) (Bool))) (y1 : Int) : Option (Sum (Unit) (Bool)) := cond (decide (y1 < (List.length a0 : Int))) (obind (geti a0 y1) fun e5 => obind (impl_within e5 0 99) fun v7 => cond (!v7) (some (.inr false)) (rec (IntKind.i64.wrap (y1 + 1)))) (some (.inl ()))
def impl_AreValidValues (a0 : List Int) : Option (Bool) := obind (loopF (impl_AreValidValues_B1 a0) fz 0) fun o1 => (match o1 with
  | .inl _ => (some true)
  | .inr r => some r)
theorem impl_AreValidValues_s {a0 : List Int} {r : Bool} (h : impl_AreValidValues a0 = some r) : SoundAt Tryz.prog 234 [dL ci64 a0] (.bool r) := by
 unfold impl_AreValidValues at h
 refine st lit234 rfl (rn 1 rfl (ls_seq_k fun K1 hK1 => rn 1 rfl ?_))
 obtain ⟨o1, hl, hr1⟩ := ob_some h
 have kXB1 : (.inl ()) = o1 → Jn K1 [] := by
  intro h σ' hk
  subst h
  replace h := hr1
  try dsimp only at h
  exact hK1 _ (lh hk rfl (rn 1 rfl (ls_ret ((by cases h; exact ⟨.inl rfl, rfl⟩)))))
 refine ls_rec (fun (y1 : Int) => [(5, dL ci64 a0), (6, nI (List.length a0 : Int)), (7, nI y1)]) _ _ _ _ hl (okr rfl) (fun _ => rfl) ?_
 rintro m y1 N h hN
 unfold impl_AreValidValues_B1 at h
 refine rn 1 rfl (ls_seq_k fun K2 hK2 => ?_)
 rcases cond_some h with ⟨g3, h⟩ | ⟨g3, h⟩
 ·refine qT rfl g3 (ls_skip (hK2 _ (ls_seq_k fun K4 hK4 => ls_blk (rs ?_))))
  obtain ⟨e5, g6, h⟩ := ob_some h
  refine qI rfl zci64 g6 (sp 2 rfl (evn (rs (sp 1 rfl (?_)))))
  obtain ⟨v7, g8, h⟩ := ob_some h
  refine qC (qs rfl (qs rfl (qs rfl eran))) (impl_within_s g8) (sp 1 rfl (evn ?_))
  rcases cond_some h with ⟨g9, h⟩ | ⟨g9, h⟩
  ·exact qT rfl g9 (rn 1 rfl (ls_ret ((by cases h; cases hr1; exact ⟨.inl rfl, rfl⟩))))
  ·exact qF rfl g9 (ls_skip (hK4 _ (rg (sp 2 rfl (evn (hN _ _ h (okr rfl)))))))
 ·exact qF rfl g3 (ls_exit (kXB1 (Option.some.inj h) _ trivial))
def impl_rowsValid_J2 (rec : Int → Option (Sum (Unit) (Bool))) (y1 : Int) (x13 : Bool) : Option (Sum (Unit) (Bool)) := cond x13 (some (.inr false)) (rec (IntKind.i64.wrap (y1 + 1)))
def impl_rowsValid_B1 (a0 : Int) (a1 : List (List Int)) (rec : Int → Option (Sum (Unit) (Bool))) (y1 : Int) : Option (Sum (Unit) (Bool)) := cond (decide (y1 < (List.length a1 : Int))) (obind (geti a1 y1) fun e10 => cond ((List.length e10 : Int) != a0) (impl_rowsValid_J2 rec y1 true) (obind (impl_AreValidValues e10) fun v16 => cond (!v16) (impl_rowsValid_J2 rec y1 true) (cond (decide (0 < y1)) (obind (geti a1 (IntKind.i64.wrap (y1 - 1))) fun e20 => obind (impl_CompareRows e20 e10) fun v22 => impl_rowsValid_J2 rec y1 (decide (0 ≤ v22))) (impl_rowsValid_J2 rec y1 false)))) (some (.inl ()))
def impl_rowsValid (a0 : Int) (a1 : List (List Int)) : Option (Bool) := obind (impl_within a0 0 5) fun v2 => cond (!v2) (some false) (cond (decide (4000 < (List.length a1 : Int))) (some false) (obind (loopF (impl_rowsValid_B1 a0 a1) fz 0) fun o1 => (match o1 with
  | .inl _ => (some true)
  | .inr r => some r)))
theorem impl_rowsValid_s {a0 : Int} {a1 : List (List Int)} {r : Bool} (h : impl_rowsValid a0 a1 = some r) : SoundAt Tryz.prog 200 [nI a0, dL c28_d a1] (.bool r) := by
 unfold impl_rowsValid at h
 refine st lit200 rfl (rn 1 rfl (ls_seq_k fun K1 hK1 => rs (sp 1 rfl (?_))))
 obtain ⟨v2, g3, h⟩ := ob_some h
 refine qC (qs rfl (qs rfl (qs rfl eran))) (impl_within_s g3) (sp 2 rfl (?_))
 rcases cond_some h with ⟨g4, h⟩ | ⟨g4, h⟩
 ·exact qg 10 g4 rfl (sp 4 rfl (evn (qT rfl rfl (rn 1 rfl (ls_ret ((by cases h; exact ⟨.inl rfl, rfl⟩)))))))
 ·refine qg 10 g4 rfl (sp 4 rfl (evn ?_))
  rcases cond_some h with ⟨g5, h⟩ | ⟨g5, h⟩
  ·exact qT rfl g5 (rn 1 rfl (ls_ret ((by cases h; exact ⟨.inl rfl, rfl⟩))))
  ·refine qF rfl g5 (ls_skip (hK1 _ (ls_seq_k fun K6 hK6 => rn 1 rfl (qk [0, 1, 15, 16, 17] rfl ?_))))
   obtain ⟨o1, hl, hr1⟩ := ob_some h
   have kXB1 : (.inl ()) = o1 → Jn K6 [] := by
    intro h σ' hk
    subst h
    replace h := hr1
    try dsimp only at h
    exact hK6 _ (lh hk rfl (rn 1 rfl (ls_ret ((by cases h; exact ⟨.inl rfl, rfl⟩)))))
   refine ls_rec (fun (y1 : Int) => [(0, nI a0), (1, dL c28_d a1), (15, dL c28_d a1), (16, nI (List.length a1 : Int)), (17, nI y1)]) _ _ _ _ hl (okr rfl) (fun _ => rfl) ?_
   rintro m y1 N h hN
   unfold impl_rowsValid_B1 at h
   refine rn 1 rfl (ls_seq_k fun K7 hK7 => ?_)
   rcases cond_some h with ⟨g8, h⟩ | ⟨g8, h⟩
   ·refine qT rfl g8 (ls_skip (hK7 _ (ls_seq_k fun K9 hK9 => ls_blk (rs (sp 1 rfl (?_))))))
    obtain ⟨e10, g11, h⟩ := ob_some h
    refine qI rfl zc28_d g11 (sp 3 rfl (evn (rk fun K12 hK12 => ?_)))
    have kJ2 : ∀ {x13 : Bool}, impl_rowsValid_J2 (loopF (impl_rowsValid_B1 a0 a1) m) y1 x13 = some o1 → Jn K12 [(0, nI a0), (1, dL c28_d a1), (15, dL c28_d a1), (16, nI (List.length a1 : Int)), (17, nI y1), (44, .bool x13)] := by
     intro x13 h σ' hk
     unfold impl_rowsValid_J2 at h
     refine hK12 _ (lh hk rfl ?_)
     rcases cond_some h with ⟨g14, h⟩ | ⟨g14, h⟩
     ·exact qT rfl g14 (rn 1 rfl (ls_ret ((by cases h; cases hr1; exact ⟨.inl rfl, rfl⟩))))
     ·exact qF rfl g14 (ls_skip (hK9 _ (rg (sp 2 rfl (evn (hN _ _ h (okr rfl)))))))
    refine sp 5 rfl (?_)
    rcases cond_some h with ⟨g15, h⟩ | ⟨g15, h⟩
    ·exact qg 26 g15 rfl (sp 18 rfl (evn (kJ2 h _ (okr rfl))))
    ·refine qg 26 g15 rfl (sp 1 rfl (?_))
     obtain ⟨v16, g17, h⟩ := ob_some h
     refine oGR rfl rfl (qC (qa rfl (erD eci64 _) eran) (impl_AreValidValues_s g17) (sp 3 rfl (?_)))
     rcases cond_some h with ⟨g18, h⟩ | ⟨g18, h⟩
     ·exact qg 31 g18 rfl (sp 13 rfl (evn (kJ2 h _ (okr rfl))))
     ·refine qg 31 g18 rfl (sp 3 rfl (?_))
      rcases cond_some h with ⟨g19, h⟩ | ⟨g19, h⟩
      ·refine qg 34 g19 rfl (sp 3 rfl (?_))
       obtain ⟨e20, g21, h⟩ := ob_some h
       refine oGR rfl rfl (qI rfl zc28_d g21 (sp 2 rfl (?_)))
       obtain ⟨v22, g23, h⟩ := ob_some h
       exact oGR rfl rfl (qC (qa rfl (erD eci64 _) (qa rfl (erD eci64 _) eran)) (impl_CompareRows_s g23) (sp 3 rfl (evn (kJ2 h _ (okr rfl)))))
      ·exact qg 34 g19 rfl (sp 10 rfl (evn (kJ2 h _ (okr rfl))))
   ·exact qF rfl g8 (ls_exit (kXB1 (Option.some.inj h) _ trivial))
def impl_IsValidRelation (a0 : Y37) : Option (Bool) := obind (impl_rowsValid a0.1 a0.2) fun v1 => some v1
theorem impl_IsValidRelation_s {a0 : Y37} {r : Bool} (h : impl_IsValidRelation a0 = some r) : SoundAt Tryz.prog 139 [.agg (c38_dd a0)] (.bool r) := by
 unfold impl_IsValidRelation at h
 refine st lit139 rfl (rn 1 rfl (rs (sp 4 rfl (?_))))
 obtain ⟨v1, g2, h⟩ := ob_some h
 exact qC (qs rfl (qa rfl (erD ec28_d _) eran)) (impl_rowsValid_s g2) (sp 1 rfl (evn (ls_ret ((by cases h; exact ⟨.inl rfl, rfl⟩)))))
end Go.Proofs.YtmjhiencoapldaaGreat
