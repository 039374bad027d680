/-
  Functions of the program as typed functions, printed by gen.py, and that the program's functions do what they say. No conditions.
-/
import Derived.Test.YtcoalfphehhadaaKb
import Derived.Test.YtcoalfphehhadaaLit2FB1
namespace Go.Proofs.Ytcoalfphehhadaa
open Go.RowKit
set_option linter.unusedVariables false
set_option maxRecDepth 100000
set_option maxHeartbeats 1000000
def laws_big (a0 : List Int) : Option (Bool) := some (decide (1048576 < (List.length a0 : Int)))
theorem laws_big_s {a0 : List Int} {r : Bool} (h : laws_big a0 = some r) : SoundAt Try.prog 6 [dL cu8 a0] (.bool r) := by
 unfold laws_big at h
 exact st lit6 rfl (rn 2 rfl (ls_ret ((by cases h; exact ⟨.inl rfl, rfl⟩))))
abbrev Y130 := (List Int) × Int × Int
def spec_l1New_B1 (a0 : List Int) (rec : (Int × Int) → Option (Int)) (s : Int × Int) : Option (Int) := match s with
  | (y1, y2) => cond (decide (y2 < (List.length a0 : Int))) (cond (decide (y2 < 4000)) (obind (geti a0 y2) fun e7 => rec ((andI (IntKind.i64.wrap ((IntKind.i64.wrap ((IntKind.i64.wrap (y1 * 131)) + (IntKind.i64.wrap e7))) + 7)) 1073741823), (IntKind.i64.wrap (y2 + 1)))) (some y1)) (some y1)
def spec_l1New (a0 : List Int) : Option (Y130) := obind (loopF (spec_l1New_B1 a0) fz ((IntKind.i64.wrap (10101 + (List.length a0 : Int))), 0)) fun z2 => some (a0, 0, z2)
theorem spec_l1New_s {a0 : List Int} {r : Y130} (h : spec_l1New a0 = some r) : NewAt Try.prog 37 [aL cu8 a0] [aL cu8 r.1, nI r.2.1, nI r.2.2] := by
 unfold spec_l1New at h
 refine stn lit37 rfl rfl (rn 2 rfl (ls_seq_k fun K1 hK1 => rn 1 rfl ?_))
 obtain ⟨o1, hl, hr1⟩ := ob_some h
 have kXB1 : ∀ {z2 : Int}, z2 = o1 → Jn K1 [(0, aL cu8 a0), (3, nI z2)] := by
  intro z2 h σ' hk
  subst h
  replace h := hr1
  try dsimp only at h
  exact hK1 _ (lh hk rfl (rn 1 rfl (ls_ret ((by cases h; exact ⟨.inl rfl, 31, rfl, rfl⟩)))))
 refine ls_rec (fun (s : Int × Int) => match s with | (y1, y2) => [(0, aL cu8 a0), (3, nI y1), (4, nI y2)]) _ _ _ _ hl (okr rfl) (fun _ => rfl) ?_
 rintro m ⟨y1, y2⟩ N h hN
 unfold spec_l1New_B1 at h
 dsimp only at h
 refine ls_seq_k fun K3 hK3 => rs (sp 5 rfl (?_))
 rcases cond_some h with ⟨g4, h⟩ | ⟨g4, h⟩
 ·refine qg 12 g4 rfl (sp 3 rfl (evn ?_))
  rcases cond_some h with ⟨g5, h⟩ | ⟨g5, h⟩
  ·refine qT rfl g5 (ls_skip (hK3 _ (ls_seq_k fun K6 hK6 => ls_blk (rg (sp 4 rfl (?_))))))
   obtain ⟨e7, g8, h⟩ := ob_some h
   exact qI rfl zcu8 g8 (sp 6 rfl (evn (hK6 _ (rg (sp 3 rfl (evn (hN _ _ h (okr rfl))))))))
  ·exact qF rfl g5 (ls_exit (kXB1 (Option.some.inj h) _ (okr rfl)))
 ·exact qg 12 g4 rfl (sp 3 rfl (evn (qF rfl rfl (ls_exit (kXB1 (Option.some.inj h) _ (okr rfl))))))
def spec_l1Byte_J1 (a0 : Y130) (x2 : Int) (x3 : Int) : Option (Int × Y130) := some (x3, (a0.1, x2, IntKind.i64.wrap ((IntKind.i64.wrap (a0.2.2 * 6364136223846793005)) + 1442695040888963407)))
def spec_l1Byte (a0 : Y130) : Option (Int × Y130) := cond (decide (a0.2.1 < (List.length a0.1 : Int))) (obind (geti a0.1 a0.2.1) fun e5 => spec_l1Byte_J1 a0 (IntKind.i64.wrap (a0.2.1 + 1)) (andI (IntKind.i64.wrap ((andI (xorI (shrI (IntKind.i64.wrap ((IntKind.i64.wrap (a0.2.2 * 6364136223846793005)) + 1442695040888963407)) 33) (shrI (IntKind.i64.wrap ((IntKind.i64.wrap (a0.2.2 * 6364136223846793005)) + 1442695040888963407)) 45)) 255) + (IntKind.i64.wrap e5))) 255)) (spec_l1Byte_J1 a0 a0.2.1 (andI (xorI (shrI (IntKind.i64.wrap ((IntKind.i64.wrap (a0.2.2 * 6364136223846793005)) + 1442695040888963407)) 33) (shrI (IntKind.i64.wrap ((IntKind.i64.wrap (a0.2.2 * 6364136223846793005)) + 1442695040888963407)) 45)) 255))
theorem spec_l1Byte_s {a0 : Y130} {r : Int × Y130} (h : spec_l1Byte a0 = some r) : PtrAt Try.prog 118 [aL cu8 a0.1, nI a0.2.1, nI a0.2.2] [] [aL cu8 r.2.1, nI r.2.2.1, nI r.2.2.2] (nI r.1) := by
 unfold spec_l1Byte at h
 refine stp lit118 rfl (rn 2 rfl (rd (by kernel_rfl) (sd 13 rfl (evdn (ls_seq_k fun K1 hK1 => rd (by kernel_rfl) (sd 10 rfl (evdn ?_)))))))
 have kJ1 : ∀ {x2 : Int} {x3 : Int}, spec_l1Byte_J1 a0 x2 x3 = some r → Jn K1 [(0, .box [aL cu8 a0.1, nI x2, nI (IntKind.i64.wrap ((IntKind.i64.wrap (a0.2.2 * 6364136223846793005)) + 1442695040888963407))]), (3, nI x3)] := by
  intro x2 x3 h σ' hk
  unfold spec_l1Byte_J1 at h
  exact hK1 _ (lh hk rfl (rn 1 rfl (ls_ret ((by cases h; exact ⟨.inl rfl, rfl, rfl⟩)))))
 rcases cond_some h with ⟨g4, h⟩ | ⟨g4, h⟩
 ·refine qT rfl g4 (rd (by kernel_rfl) (sd 9 rfl (?_)))
  obtain ⟨e5, g6, h⟩ := ob_some h
  exact ed rfl (qI rfl zcu8 g6 (sd 5 rfl (evdn (rg (sp 9 rfl (evn (kJ1 h _ (okr rfl))))))))
 ·exact qF rfl g4 (ls_skip (kJ1 h _ (okr rfl)))
def c131_d (x : Y130) : List V := [dL cu8 x.1, nI x.2.1, nI x.2.2]
theorem zc131_d (x : Y130) : (c131_d x).length = 3 := rfl
theorem ec131_d (x : Y130) : erL (c131_d x) = c131_d x := (erc (erD ecu8 _) (erc rfl (erc rfl rfl)))
def c131_a (x : Y130) : List V := [aL cu8 x.1, nI x.2.1, nI x.2.2]
theorem zc131_a (x : Y130) : (c131_a x).length = 3 := rfl
theorem ec131_a (x : Y130) : erL (c131_a x) = c131_d x := (erc (erG ecu8 _) (erc rfl (erc rfl rfl)))
def spec_l1Below (a0 : Y130) (a1 : Int) : Option (Int × Y130) := cond (decide (a1 ≤ 0)) (some (0, a0)) (cond (decide (a1 ≤ 256)) (obind (spec_l1Byte a0) fun v5 => chk (a1 ≠ 0) (some (Int.tmod v5.1 a1, v5.2))) (obind (spec_l1Byte a0) fun v8 => obind (spec_l1Byte v8.2) fun v10 => obind (spec_l1Byte v10.2) fun v12 => obind (spec_l1Byte v12.2) fun v14 => chk (a1 ≠ 0) (some (Int.tmod (IntKind.i64.wrap ((IntKind.i64.wrap ((IntKind.i64.wrap ((IntKind.i64.wrap (v8.1 * 16777216)) + (IntKind.i64.wrap (v10.1 * 65536)))) + (IntKind.i64.wrap (v12.1 * 256)))) + v14.1)) a1, v14.2))))
theorem spec_l1Below_s {a0 : Y130} {a1 : Int} {r : Int × Y130} (h : spec_l1Below a0 a1 = some r) : PtrAt Try.prog 68 [aL cu8 a0.1, nI a0.2.1, nI a0.2.2] [nI a1] [aL cu8 r.2.1, nI r.2.2.1, nI r.2.2.2] (nI r.1) := by
 unfold spec_l1Below at h
 refine stp lit68 rfl (rn 1 rfl (ls_seq_k fun K1 hK1 => rn 1 rfl ?_))
 rcases cond_some h with ⟨g2, h⟩ | ⟨g2, h⟩
 ·exact qT rfl g2 (rn 1 rfl (ls_ret ((by cases h; exact ⟨.inl rfl, rfl, rfl⟩))))
 ·refine qF rfl g2 (ls_skip (hK1 _ (ls_seq_k fun K3 hK3 => rn 1 rfl ?_)))
  rcases cond_some h with ⟨g4, h⟩ | ⟨g4, h⟩
  ·refine qT rfl g4 (rs (sp 1 rfl (?_)))
   obtain ⟨v5, g6, h⟩ := ob_some h
   refine qP rfl rfl rfl rfl eran (spec_l1Byte_s g6) (sp 1 rfl (?_))
   obtain ⟨g7, h⟩ := chk_some h
   exact qB rfl ⟨rfl, g7⟩ rfl (sp 1 rfl (evn (ls_ret ((by cases h; exact ⟨.inl rfl, rfl, rfl⟩)))))
  ·refine qF rfl g4 (ls_skip (hK3 _ (rs (sp 1 rfl (?_)))))
   obtain ⟨v8, g9, h⟩ := ob_some h
   refine qP rfl rfl rfl rfl eran (spec_l1Byte_s g9) (sp 1 rfl (evn (qk [0, 1, 5] rfl (rs (sp 1 rfl (?_))))))
   obtain ⟨v10, g11, h⟩ := ob_some h
   refine qP rfl rfl rfl rfl eran (spec_l1Byte_s g11) (sp 1 rfl (evn (rs (sp 1 rfl (?_)))))
   obtain ⟨v12, g13, h⟩ := ob_some h
   refine qP rfl rfl rfl rfl eran (spec_l1Byte_s g13) (sp 1 rfl (evn (rs (sp 1 rfl (?_)))))
   obtain ⟨v14, g15, h⟩ := ob_some h
   refine qP rfl rfl rfl rfl eran (spec_l1Byte_s g15) (sp 1 rfl (evn (rs (sp 11 rfl (?_)))))
   obtain ⟨g16, h⟩ := chk_some h
   exact qB rfl ⟨rfl, g16⟩ rfl (sp 1 rfl (evn (ls_ret ((by cases h; exact ⟨.inl rfl, rfl, rfl⟩)))))
def spec_l1In_J1 (x2 : Bool) : Option (Bool) := some x2
def spec_l1In (a0 : Int) (a1 : Int) (a2 : Int) : Option (Bool) := cond (decide (a1 ≤ a0)) (spec_l1In_J1 (decide (a0 ≤ a2))) (spec_l1In_J1 false)
theorem spec_l1In_s {a0 : Int} {a1 : Int} {a2 : Int} {r : Bool} (h : spec_l1In a0 a1 a2 = some r) : SoundAt Try.prog 46 [nI a0, nI a1, nI a2] (.bool r) := by
 unfold spec_l1In at h
 refine st lit46 rfl (rn 1 rfl (rk fun K1 hK1 => ?_))
 have kJ1 : ∀ {x2 : Bool}, spec_l1In_J1 x2 = some r → Jn K1 [(6, .bool x2)] := by
  intro x2 h σ' hk
  unfold spec_l1In_J1 at h
  exact hK1 _ (lh hk rfl (ls_ret ((by cases h; exact ⟨.inl rfl, rfl⟩))))
 refine sp 4 rfl (?_)
 rcases cond_some h with ⟨g3, h⟩ | ⟨g3, h⟩
 ·exact qg 10 g3 rfl (sp 5 rfl (evn (kJ1 h _ (okr rfl))))
 ·exact qg 10 g3 rfl (sp 5 rfl (evn (kJ1 h _ (okr rfl))))
def spec_IsValidName_B1 (a0 : List UInt8) (rec : Int → Option (Sum (Unit) (Bool))) (y1 : Int) : Option (Sum (Unit) (Bool)) := cond (decide (y1 < (List.length a0 : Int))) (obind (geti a0 y1) fun b5 => cond (decide ((UInt8.toNat b5 : Int) < 97)) (some (.inr false)) (obind (geti a0 y1) fun b8 => cond (decide (122 < (UInt8.toNat b8 : Int))) (some (.inr false)) (rec (IntKind.i64.wrap (y1 + 1))))) (some (.inl ()))
def spec_IsValidName (a0 : List UInt8) : Option (Bool) := obind (loopF (spec_IsValidName_B1 a0) fz 0) fun o1 => (match o1 with
  | .inl _ => (obind (spec_l1In (List.length a0 : Int) 1 4) fun v11 => some v11)
  | .inr r => some r)
theorem spec_IsValidName_s {a0 : List UInt8} {r : Bool} (h : spec_IsValidName a0 = some r) : SoundAt Try.prog 104 [.str a0] (.bool r) := by
 unfold spec_IsValidName at h
 refine st lit104 rfl (rn 1 rfl (ls_seq_k fun K1 hK1 => rn 1 rfl ?_))
 obtain ⟨o1, hl, hr1⟩ := ob_some h
 have kXB1 : (.inl ()) = o1 → Jn K1 [(0, .str a0)] := by
  intro h σ' hk
  subst h
  replace h := hr1
  try dsimp only at h
  refine hK1 _ (lh hk rfl (rs (sp 2 rfl (?_))))
  obtain ⟨v11, g12, h⟩ := ob_some h
  exact qC (qs rfl (qs rfl (qs rfl eran))) (spec_l1In_s g12) (sp 1 rfl (evn (ls_ret ((by cases h; exact ⟨.inl rfl, rfl⟩)))))
 refine ls_rec (fun (y1 : Int) => [(0, .str a0), (3, nI y1)]) _ _ _ _ hl (okr rfl) (fun _ => rfl) ?_
 rintro m y1 N h hN
 unfold spec_IsValidName_B1 at h
 refine ls_seq_k fun K2 hK2 => rn 1 rfl ?_
 rcases cond_some h with ⟨g3, h⟩ | ⟨g3, h⟩
 ·refine qT rfl g3 (ls_skip (hK2 _ (ls_seq_k fun K4 hK4 => ls_blk (rs (sp 2 rfl (?_))))))
  obtain ⟨b5, g6, h⟩ := ob_some h
  refine qX rfl g6 (sp 2 rfl (?_))
  rcases cond_some h with ⟨g7, h⟩ | ⟨g7, h⟩
  ·exact qg 14 g7 rfl (sp 5 rfl (evn (qT rfl rfl (rn 1 rfl (ls_ret ((by cases h; cases hr1; exact ⟨.inl rfl, rfl⟩)))))))
  ·refine qg 14 g7 rfl (sp 2 rfl (?_))
   obtain ⟨b8, g9, h⟩ := ob_some h
   refine oGR rfl rfl (qX rfl g9 (sp 2 rfl (evn ?_)))
   rcases cond_some h with ⟨g10, h⟩ | ⟨g10, h⟩
   ·exact qT rfl g10 (rn 1 rfl (qk [2] rfl (ls_ret ((by cases h; cases hr1; exact ⟨.inl rfl, rfl⟩)))))
   ·exact qF rfl g10 (ls_skip (hK4 _ (rg (sp 3 rfl (evn (hN _ _ h (okr rfl)))))))
 ·exact qF rfl g3 (ls_exit (kXB1 (Option.some.inj h) _ (okr rfl)))
abbrev Y123 := (List UInt8) × (List Int)
def c124_d (x : Y123) : List V := [.str x.1, dL ci64 x.2]
theorem zc124_d (x : Y123) : (c124_d x).length = 2 := rfl
theorem ec124_d (x : Y123) : erL (c124_d x) = c124_d x := (erc rfl (erc (erD eci64 _) rfl))
def spec_ContainsVariable_B1 (a0 : Y123) (a1 : Int) (rec : Int → Option (Sum (Unit) (Bool))) (y1 : Int) : Option (Sum (Unit) (Bool)) := cond (decide (y1 < (List.length a0.2 : Int))) (obind (geti a0.2 y1) fun e5 => cond (e5 == a1) (some (.inr true)) (rec (IntKind.i64.wrap (y1 + 1)))) (some (.inl ()))
def spec_ContainsVariable (a0 : Y123) (a1 : Int) : Option (Bool) := obind (loopF (spec_ContainsVariable_B1 a0 a1) fz 0) fun o1 => (match o1 with
  | .inl _ => (some false)
  | .inr r => some r)
theorem spec_ContainsVariable_s {a0 : Y123} {a1 : Int} {r : Bool} (h : spec_ContainsVariable a0 a1 = some r) : SoundAt Try.prog 121 [.agg (c124_d a0), nI a1] (.bool r) := by
 unfold spec_ContainsVariable at h
 refine st lit121 rfl (rn 1 rfl (ls_seq_k fun K1 hK1 => rn 1 rfl ?_))
 obtain ⟨o1, hl, hr1⟩ := ob_some h
 have kXB1 : (.inl ()) = o1 → Jn K1 [] := by
  intro h σ' hk
  subst h
  replace h := hr1
  try dsimp only at h
  exact hK1 _ (lh hk rfl (rn 1 rfl (ls_ret ((by cases h; exact ⟨.inl rfl, rfl⟩)))))
 refine ls_rec (fun (y1 : Int) => [(1, nI a1), (2, .box [.str a0.1, dL ci64 a0.2]), (5, nI y1)]) _ _ _ _ hl (okr rfl) (fun _ => rfl) ?_
 rintro m y1 N h hN
 unfold spec_ContainsVariable_B1 at h
 refine ls_seq_k fun K2 hK2 => rn 1 rfl ?_
 rcases cond_some h with ⟨g3, h⟩ | ⟨g3, h⟩
 ·refine qT rfl g3 (ls_skip (hK2 _ (ls_seq_k fun K4 hK4 => ls_blk (rs (sp 3 rfl (?_))))))
  obtain ⟨e5, g6, h⟩ := ob_some h
  refine qI rfl zci64 g6 (sp 3 rfl (evn ?_))
  rcases cond_some h with ⟨g7, h⟩ | ⟨g7, h⟩
  ·exact qT rfl g7 (rn 1 rfl (ls_ret ((by cases h; cases hr1; exact ⟨.inl rfl, rfl⟩))))
  ·exact qF rfl g7 (ls_skip (hK4 _ (rg (sp 3 rfl (evn (hN _ _ h (okr rfl)))))))
 ·exact qF rfl g3 (ls_exit (kXB1 (Option.some.inj h) _ trivial))
def spec_l7Find_B1 (a0 : List Int) (a1 : Int) (rec : Int → Option (Sum (Unit) (Int))) (y1 : Int) : Option (Sum (Unit) (Int)) := cond (decide (y1 < (List.length a0 : Int))) (obind (geti a0 y1) fun e5 => cond (e5 == a1) (some (.inr y1)) (rec (IntKind.i64.wrap (y1 + 1)))) (some (.inl ()))
def spec_l7Find (a0 : List Int) (a1 : Int) : Option (Int) := obind (loopF (spec_l7Find_B1 a0 a1) fz 0) fun o1 => (match o1 with
  | .inl _ => (some (-1))
  | .inr r => some r)
theorem spec_l7Find_s {a0 : List Int} {a1 : Int} {r : Int} (h : spec_l7Find a0 a1 = some r) : SoundAt Try.prog 122 [dL ci64 a0, nI a1] (nI r) := by
 unfold spec_l7Find at h
 refine st lit122 rfl (rn 1 rfl (ls_seq_k fun K1 hK1 => rn 1 rfl ?_))
 obtain ⟨o1, hl, hr1⟩ := ob_some h
 have kXB1 : (.inl ()) = o1 → Jn K1 [] := by
  intro h σ' hk
  subst h
  replace h := hr1
  try dsimp only at h
  exact hK1 _ (lh hk rfl (rn 1 rfl (ls_ret ((by cases h; exact ⟨.inl rfl, rfl⟩)))))
 refine ls_rec (fun (y1 : Int) => [(0, dL ci64 a0), (1, nI a1), (5, nI y1)]) _ _ _ _ hl (okr rfl) (fun _ => rfl) ?_
 rintro m y1 N h hN
 unfold spec_l7Find_B1 at h
 refine ls_seq_k fun K2 hK2 => rn 1 rfl ?_
 rcases cond_some h with ⟨g3, h⟩ | ⟨g3, h⟩
 ·refine qT rfl g3 (ls_skip (hK2 _ (ls_seq_k fun K4 hK4 => ls_blk (rs (sp 2 rfl (?_))))))
  obtain ⟨e5, g6, h⟩ := ob_some h
  refine qI rfl zci64 g6 (sp 3 rfl (evn ?_))
  rcases cond_some h with ⟨g7, h⟩ | ⟨g7, h⟩
  ·exact qT rfl g7 (rn 1 rfl (ls_ret ((by cases h; cases hr1; exact ⟨.inl rfl, rfl⟩))))
  ·exact qF rfl g7 (ls_skip (hK4 _ (rg (sp 3 rfl (evn (hN _ _ h (okr rfl)))))))
 ·exact qF rfl g3 (ls_exit (kXB1 (Option.some.inj h) _ trivial))
abbrev Y61 := Int × (List Y123) × (List Int)
def c62_ddd (x : Y61) : List V := [nI x.1, dL c124_d x.2.1, dL ci64 x.2.2]
theorem zc62_ddd (x : Y61) : (c62_ddd x).length = 3 := rfl
theorem ec62_ddd (x : Y61) : erL (c62_ddd x) = c62_ddd x := (erc rfl (erc (erD ec124_d _) (erc (erD eci64 _) rfl)))
def spec_IsValidQuery_B2 (a0 : Y61) (y2 : Int) (rec : Int → Option (Sum (Unit) (Bool))) (y4 : Int) : Option (Sum (Unit) (Bool)) := obind (geti a0.2.1 y2) fun e25 => cond (decide (y4 < (List.length e25.2 : Int))) (obind (geti a0.2.1 y2) fun e29 => obind (geti e29.2 y4) fun e31 => obind (spec_l1In e31 0 (IntKind.i64.wrap (a0.1 - 1))) fun v33 => cond (!v33) (some (.inr false)) (rec (IntKind.i64.wrap (y4 + 1)))) (some (.inl ()))
def spec_IsValidQuery_B1 (a0 : Y61) (rec : Int → Option (Sum (Unit) (Bool))) (y2 : Int) : Option (Sum (Unit) (Bool)) := cond (decide (y2 < (List.length a0.2.1 : Int))) (obind (geti a0.2.1 y2) fun e14 => obind (spec_IsValidName e14.1) fun v16 => cond (!v16) (some (.inr false)) (obind (geti a0.2.1 y2) fun e19 => obind (spec_l1In (List.length e19.2 : Int) 1 5) fun v21 => cond (!v21) (some (.inr false)) (obind (loopF (spec_IsValidQuery_B2 a0 y2) fz 0) fun o2 => (match o2 with
  | .inl _ => (rec (IntKind.i64.wrap (y2 + 1)))
  | .inr r => some (.inr r))))) (some (.inl ()))
def spec_IsValidQuery_J5 (rec : (Bool × Int) → Option (Bool)) (y11 : Int) (x45 : Bool) : Option (Bool) := rec (x45, (IntKind.i64.wrap (y11 + 1)))
def spec_IsValidQuery_B4 (a0 : Y61) (y7 : Int) (rec : (Bool × Int) → Option (Bool)) (s : Bool × Int) : Option (Bool) := match s with
  | (y10, y11) => cond (decide (y11 < (List.length a0.2.1 : Int))) (cond y10 (spec_IsValidQuery_J5 rec y11 true) (obind (geti a0.2.1 y11) fun e47 => obind (spec_ContainsVariable e47 y7) fun v49 => spec_IsValidQuery_J5 rec y11 v49)) (some y10)
def spec_IsValidQuery_B3 (a0 : Y61) (rec : Int → Option (Sum (Unit) (Bool))) (y7 : Int) : Option (Sum (Unit) (Bool)) := cond (decide (y7 < a0.1)) (obind (loopF (spec_IsValidQuery_B4 a0 y7) fz (false, 0)) fun z41 => cond (!z41) (some (.inr false)) (rec (IntKind.i64.wrap (y7 + 1)))) (some (.inl ()))
def spec_IsValidQuery_B6 (a0 : Y61) (rec : Int → Option (Sum (Unit) (Bool))) (y12 : Int) : Option (Sum (Unit) (Bool)) := cond (decide (y12 < (List.length a0.2.2 : Int))) (obind (geti a0.2.2 y12) fun e56 => obind (spec_l1In e56 0 (IntKind.i64.wrap (a0.1 - 1))) fun v58 => cond (!v58) (some (.inr false)) (chk ((0 : Int) ≤ 0 ∧ 0 ≤ y12 ∧ y12 ≤ (List.length a0.2.2 : Int)) (obind (geti a0.2.2 y12) fun e62 => obind (spec_l7Find (subl a0.2.2 0 y12) e62) fun v64 => cond (decide (0 ≤ v64)) (some (.inr false)) (rec (IntKind.i64.wrap (y12 + 1)))))) (some (.inl ()))
def spec_IsValidQuery (a0 : Y61) : Option (Bool) := obind (spec_l1In a0.1 1 5) fun v2 => cond (!v2) (some false) (obind (spec_l1In (List.length a0.2.1 : Int) 1 4) fun v5 => cond (!v5) (some false) (cond (decide (a0.1 < (List.length a0.2.2 : Int))) (some false) (obind (loopF (spec_IsValidQuery_B1 a0) fz 0) fun o1 => (match o1 with
  | .inl _ => (obind (loopF (spec_IsValidQuery_B3 a0) fz 0) fun o3 => (match o3 with
  | .inl _ => (obind (loopF (spec_IsValidQuery_B6 a0) fz 0) fun o6 => (match o6 with
  | .inl _ => (some true)
  | .inr r => some r))
  | .inr r => some r))
  | .inr r => some r))))
theorem spec_IsValidQuery_s {a0 : Y61} {r : Bool} (h : spec_IsValidQuery a0 = some r) : SoundAt Try.prog 71 [.agg (c62_ddd a0)] (.bool r) := by
 unfold spec_IsValidQuery at h
 refine st lit71 rfl (rn 1 rfl (ls_seq_k fun K1 hK1 => rs (sp 2 rfl (?_))))
 obtain ⟨v2, g3, h⟩ := ob_some h
 refine qC (qs rfl (qs rfl (qs rfl eran))) (spec_l1In_s g3) (sp 2 rfl (?_))
 rcases cond_some h with ⟨g4, h⟩ | ⟨g4, h⟩
 ·exact qg 13 g4 rfl (sp 14 rfl (evn (qT rfl rfl (rn 1 rfl (ls_ret ((by cases h; exact ⟨.inl rfl, rfl⟩)))))))
 ·refine qg 13 g4 rfl (sp 3 rfl (?_))
  obtain ⟨v5, g6, h⟩ := ob_some h
  refine oGR rfl rfl (qC (qs rfl (qs rfl (qs rfl eran))) (spec_l1In_s g6) (sp 3 rfl (?_)))
  rcases cond_some h with ⟨g7, h⟩ | ⟨g7, h⟩
  ·exact qg 20 g7 rfl (sp 7 rfl (evn (qk [1, 27] rfl (qT rfl rfl (rn 1 rfl (ls_ret ((by cases h; exact ⟨.inl rfl, rfl⟩))))))))
  ·refine qg 20 g7 rfl (sp 7 rfl (evn ?_))
   rcases cond_some h with ⟨g8, h⟩ | ⟨g8, h⟩
   ·exact qT rfl g8 (rn 1 rfl (ls_ret ((by cases h; exact ⟨.inl rfl, rfl⟩))))
   ·refine qF rfl g8 (ls_skip (hK1 _ (ls_seq_k fun K9 hK9 => rn 1 rfl ?_)))
    obtain ⟨o1, hl, hr1⟩ := ob_some h
    have kXB1 : (.inl ()) = o1 → Jn K9 [(1, .box [nI a0.1, dL c124_d a0.2.1, dL ci64 a0.2.2])] := by
     intro h σ' hk
     subst h
     replace h := hr1
     try dsimp only at h
     refine hK9 _ (lh hk rfl (ls_seq_k fun K36 hK36 => rn 1 rfl ?_))
     obtain ⟨o3, hl, hr3⟩ := ob_some h
     have kXB3 : (.inl ()) = o3 → Jn K36 [(1, .box [nI a0.1, dL c124_d a0.2.1, dL ci64 a0.2.2])] := by
      intro h σ' hk
      subst h
      replace h := hr3
      try dsimp only at h
      refine hK36 _ (lh hk rfl (ls_seq_k fun K52 hK52 => rn 1 rfl ?_))
      obtain ⟨o6, hl, hr6⟩ := ob_some h
      have kXB6 : (.inl ()) = o6 → Jn K52 [] := by
       intro h σ' hk
       subst h
       replace h := hr6
       try dsimp only at h
       exact hK52 _ (lh hk rfl (rn 1 rfl (ls_ret ((by cases h; exact ⟨.inl rfl, rfl⟩)))))
      refine ls_rec (fun (y12 : Int) => [(1, .box [nI a0.1, dL c124_d a0.2.1, dL ci64 a0.2.2]), (8, nI y12)]) _ _ _ _ hl (okr rfl) (fun _ => rfl) ?_
      rintro m y12 N h hN
      unfold spec_IsValidQuery_B6 at h
      refine ls_seq_k fun K53 hK53 => rn 1 rfl ?_
      rcases cond_some h with ⟨g54, h⟩ | ⟨g54, h⟩
      ·refine qT rfl g54 (ls_skip (hK53 _ (ls_seq_k fun K55 hK55 => ls_blk (rd (by kernel_rfl) (sd 3 rfl (?_))))))
       obtain ⟨e56, g57, h⟩ := ob_some h
       refine ed rfl (qI rfl zci64 g57 (sd 4 rfl (?_)))
       obtain ⟨v58, g59, h⟩ := ob_some h
       refine ed rfl (qC (qs rfl (qs rfl (qs rfl eran))) (spec_l1In_s g59) (sd 2 rfl (?_)))
       rcases cond_some h with ⟨g60, h⟩ | ⟨g60, h⟩
       ·exact qgd 121 g60 rfl (sd 12 rfl (evdn (qT rfl rfl (rn 1 rfl (qk [2] rfl (ls_ret ((by cases h; cases hr6; exact ⟨.inl rfl, rfl⟩))))))))
       ·refine qgd 121 g60 rfl (sd 3 rfl (?_))
        obtain ⟨g61, h⟩ := chk_some h
        refine ed rfl (oGR rfl rfl (qSl rfl zci64 g61 (sd 3 rfl (?_))))
        obtain ⟨e62, g63, h⟩ := ob_some h
        refine ed rfl (oGR rfl rfl (qI rfl zci64 g63 (sd 1 rfl (?_))))
        obtain ⟨v64, g65, h⟩ := ob_some h
        refine ed rfl (oGR rfl rfl (qC (qa rfl (erD eci64 _) (qs rfl eran)) (spec_l7Find_s g65) (sd 2 rfl (evdn ?_))))
        rcases cond_some h with ⟨g66, h⟩ | ⟨g66, h⟩
        ·exact qT rfl g66 (rn 1 rfl (ls_ret ((by cases h; cases hr6; exact ⟨.inl rfl, rfl⟩))))
        ·exact qF rfl g66 (ls_skip (hK55 _ (rg (sp 3 rfl (evn (hN _ _ h (okr rfl)))))))
      ·exact qF rfl g54 (ls_exit (kXB6 (Option.some.inj h) _ trivial))
     refine ls_rec (fun (y7 : Int) => [(1, .box [nI a0.1, dL c124_d a0.2.1, dL ci64 a0.2.2]), (5, nI y7)]) _ _ _ _ hl (okr rfl) (fun _ => rfl) ?_
     rintro m y7 N h hN
     unfold spec_IsValidQuery_B3 at h
     refine ls_seq_k fun K37 hK37 => rn 1 rfl ?_
     rcases cond_some h with ⟨g38, h⟩ | ⟨g38, h⟩
     ·refine qT rfl g38 (ls_skip (hK37 _ (ls_seq_k fun K39 hK39 => ls_blk (rn 1 rfl (ls_seq_k fun K40 hK40 => rn 1 rfl ?_)))))
      obtain ⟨o4, hl, hr4⟩ := ob_some h
      have kXB4 : ∀ {z41 : Bool}, z41 = o4 → Jn K40 [(1, .box [nI a0.1, dL c124_d a0.2.1, dL ci64 a0.2.2]), (5, nI y7), (6, .bool z41)] := by
       intro z41 h σ' hk
       subst h
       replace h := hr4
       try dsimp only at h
       refine hK40 _ (lh hk rfl (rn 1 rfl ?_))
       rcases cond_some h with ⟨g51, h⟩ | ⟨g51, h⟩
       ·exact qT rfl g51 (rn 1 rfl (ls_ret ((by cases h; cases hr3; exact ⟨.inl rfl, rfl⟩))))
       ·exact qF rfl g51 (ls_skip (hK39 _ (rg (sp 3 rfl (evn (hN _ _ h (okr rfl)))))))
      refine ls_rec (fun (s : Bool × Int) => match s with | (y10, y11) => [(1, .box [nI a0.1, dL c124_d a0.2.1, dL ci64 a0.2.2]), (5, nI y7), (6, .bool y10), (7, nI y11)]) _ _ _ _ hl (okr rfl) (fun _ => rfl) ?_
      rintro m ⟨y10, y11⟩ N h hN
      unfold spec_IsValidQuery_B4 at h
      dsimp only at h
      refine ls_seq_k fun K42 hK42 => rn 1 rfl ?_
      rcases cond_some h with ⟨g43, h⟩ | ⟨g43, h⟩
      ·refine qT rfl g43 (ls_skip (hK42 _ (ls_seq_k fun K44 hK44 => ls_blk ?_)))
       have kJ5 : ∀ {x45 : Bool}, spec_IsValidQuery_J5 (loopF (spec_IsValidQuery_B4 a0 y7) m) y11 x45 = some o4 → Jn K44 [(1, .box [nI a0.1, dL c124_d a0.2.1, dL ci64 a0.2.2]), (5, nI y7), (6, .bool x45), (7, nI y11)] := by
        intro x45 h σ' hk
        unfold spec_IsValidQuery_J5 at h
        exact hK44 _ (lh hk rfl (rg (sp 3 rfl (evn (hN _ _ h (okr rfl))))))
       refine rg (sp 2 rfl (?_))
       rcases cond_some h with ⟨g46, h⟩ | ⟨g46, h⟩
       ·exact qg 93 g46 rfl (sp 9 rfl (evn (kJ5 h _ (okr rfl))))
       ·refine qg 93 g46 rfl (sp 3 rfl (?_))
        obtain ⟨e47, g48, h⟩ := ob_some h
        refine oGR rfl rfl (qI rfl zc124_d g48 (sp 2 rfl (?_)))
        obtain ⟨v49, g50, h⟩ := ob_some h
        exact oGR rfl rfl (qC (qa rfl (erg (erc rfl (erc (erD eci64 _) rfl))) (qs rfl eran)) (spec_ContainsVariable_s g50) (sp 2 rfl (evn (kJ5 h _ (okr rfl)))))
      ·exact qF rfl g43 (ls_exit (kXB4 (Option.some.inj h) _ (okr rfl)))
     ·exact qF rfl g38 (ls_exit (kXB3 (Option.some.inj h) _ (okr rfl)))
    refine ls_rec (fun (y2 : Int) => [(1, .box [nI a0.1, dL c124_d a0.2.1, dL ci64 a0.2.2]), (3, nI y2)]) _ _ _ _ hl (okr rfl) (fun _ => rfl) ?_
    rintro m y2 N h hN
    unfold spec_IsValidQuery_B1 at h
    refine ls_seq_k fun K10 hK10 => rn 1 rfl ?_
    rcases cond_some h with ⟨g11, h⟩ | ⟨g11, h⟩
    ·refine qT rfl g11 (ls_skip (hK10 _ (ls_seq_k fun K12 hK12 => ls_blk (ls_seq_k fun K13 hK13 => rs (sp 3 rfl (?_))))))
     obtain ⟨e14, g15, h⟩ := ob_some h
     refine qI rfl zc124_d g15 (sp 2 rfl (?_))
     obtain ⟨v16, g17, h⟩ := ob_some h
     refine qC (qs rfl eran) (spec_IsValidName_s g17) (sp 2 rfl (?_))
     rcases cond_some h with ⟨g18, h⟩ | ⟨g18, h⟩
     ·exact qg 43 g18 rfl (sp 10 rfl (evn (qT rfl rfl (rn 1 rfl (ls_ret ((by cases h; cases hr1; exact ⟨.inl rfl, rfl⟩)))))))
     ·refine qg 43 g18 rfl (sp 3 rfl (?_))
      obtain ⟨e19, g20, h⟩ := ob_some h
      refine oGR rfl rfl (qI rfl zc124_d g20 (sp 3 rfl (?_)))
      obtain ⟨v21, g22, h⟩ := ob_some h
      refine oGR rfl rfl (qC (qs rfl (qs rfl (qs rfl eran))) (spec_l1In_s g22) (sp 2 rfl (evn (qk [1, 3, 53] rfl ?_))))
      rcases cond_some h with ⟨g23, h⟩ | ⟨g23, h⟩
      ·exact qT rfl g23 (rn 1 rfl (ls_ret ((by cases h; cases hr1; exact ⟨.inl rfl, rfl⟩))))
      ·refine qF rfl g23 (ls_skip (hK13 _ (rn 1 rfl ?_)))
       obtain ⟨o2, hl, hr2⟩ := ob_some h
       have kXB2 : (.inl ()) = o2 → Jn K12 [(1, .box [nI a0.1, dL c124_d a0.2.1, dL ci64 a0.2.2]), (3, nI y2)] := by
        intro h σ' hk
        subst h
        replace h := hr2
        try dsimp only at h
        exact hK12 _ (lh hk rfl (rg (sp 3 rfl (evn (hN _ _ h (okr rfl))))))
       refine ls_rec (fun (y4 : Int) => [(1, .box [nI a0.1, dL c124_d a0.2.1, dL ci64 a0.2.2]), (3, nI y2), (4, nI y4)]) _ _ _ _ hl (okr rfl) (fun _ => rfl) ?_
       rintro m y4 N h hN
       unfold spec_IsValidQuery_B2 at h
       refine ls_seq_k fun K24 hK24 => rs (sp 4 rfl (?_))
       obtain ⟨e25, g26, h⟩ := ob_some h
       refine qI rfl zc124_d g26 (sp 4 rfl (evn ?_))
       rcases cond_some h with ⟨g27, h⟩ | ⟨g27, h⟩
       ·refine qT rfl g27 (ls_skip (hK24 _ (ls_seq_k fun K28 hK28 => ls_blk (rd (by kernel_rfl) (sd 3 rfl (?_))))))
        obtain ⟨e29, g30, h⟩ := ob_some h
        refine ed rfl (qI rfl zc124_d g30 (sd 3 rfl (?_)))
        obtain ⟨e31, g32, h⟩ := ob_some h
        refine ed rfl (qI rfl zci64 g32 (sd 4 rfl (?_)))
        obtain ⟨v33, g34, h⟩ := ob_some h
        refine ed rfl (qC (qs rfl (qs rfl (qs rfl eran))) (spec_l1In_s g34) (sd 1 rfl (evdn ?_)))
        rcases cond_some h with ⟨g35, h⟩ | ⟨g35, h⟩
        ·exact qT rfl g35 (rn 1 rfl (ls_ret ((by cases h; cases hr2; cases hr1; exact ⟨.inl rfl, rfl⟩))))
        ·exact qF rfl g35 (ls_skip (hK28 _ (qk [1, 3, 4] rfl (rg (sp 3 rfl (evn (hN _ _ h (okr rfl))))))))
       ·exact qF rfl g27 (ls_exit (kXB2 (Option.some.inj h) _ (okr rfl)))
    ·exact qF rfl g11 (ls_exit (kXB1 (Option.some.inj h) _ (okr rfl)))
def spec_l1Once (a0 : Y130) (a1 : Int) : Option (Bool × Y130) := obind (spec_l1Below a0 a1) fun v1 => some ((v1.1 == 0), v1.2)
theorem spec_l1Once_s {a0 : Y130} {a1 : Int} {r : Bool × Y130} (h : spec_l1Once a0 a1 = some r) : PtrAt Try.prog 76 [aL cu8 a0.1, nI a0.2.1, nI a0.2.2] [nI a1] [aL cu8 r.2.1, nI r.2.2.1, nI r.2.2.2] (.bool r.1) := by
 unfold spec_l1Once at h
 refine stp lit76 rfl (rn 1 rfl (rs (sp 2 rfl (?_))))
 obtain ⟨v1, g2, h⟩ := ob_some h
 exact qP rfl rfl rfl rfl (qs rfl eran) (spec_l1Below_s g2) (sp 2 rfl (evn (ls_ret ((by cases h; exact ⟨.inl rfl, rfl, rfl⟩)))))
def spec_l1Pick (a0 : Y130) (a1 : List (List UInt8)) : Option ((List UInt8) × Y130) := obind (spec_l1Below a0 (List.length a1 : Int)) fun v1 => obind (geti a1 v1.1) fun e3 => some (e3, v1.2)
theorem spec_l1Pick_s {a0 : Y130} {a1 : List (List UInt8)} {r : (List UInt8) × Y130} (h : spec_l1Pick a0 a1 = some r) : PtrAt Try.prog 90 [aL cu8 a0.1, nI a0.2.1, nI a0.2.2] [dL cst a1] [aL cu8 r.2.1, nI r.2.2.1, nI r.2.2.2] (.str r.1) := by
 unfold spec_l1Pick at h
 refine stp lit90 rfl (rn 1 rfl (rs (sp 4 rfl (?_))))
 obtain ⟨v1, g2, h⟩ := ob_some h
 refine qP rfl rfl rfl rfl (qs rfl eran) (spec_l1Below_s g2) (?_)
 obtain ⟨e3, g4, h⟩ := ob_some h
 exact qI rfl zcst g4 (sp 2 rfl (evn (ls_ret ((by cases h; exact ⟨.inl rfl, rfl, rfl⟩)))))
def spec_l5Cut_J2 (rec : ((List (List UInt8)) × Int × Int) → Option ((List (List UInt8)) × Int)) (y3 : Int) (x9 : List (List UInt8)) (x10 : Int) : Option ((List (List UInt8)) × Int) := rec (x9, x10, (IntKind.i64.wrap (y3 + 1)))
def spec_l5Cut_B1 (a0 : List UInt8) (a1 : Int) (rec : ((List (List UInt8)) × Int × Int) → Option ((List (List UInt8)) × Int)) (s : (List (List UInt8)) × Int × Int) : Option ((List (List UInt8)) × Int) := match s with
  | (y1, y2, y3) => cond (decide (y3 < (List.length a0 : Int))) (obind (geti a0 y3) fun b7 => cond ((UInt8.toNat b7 : Int) == a1) (chk ((0 : Int) ≤ y2 ∧ y2 ≤ y3 ∧ y3 ≤ (List.length a0 : Int)) (chk (List.length y1 + List.length [subl a0 y2 y3] ≤ lim) (spec_l5Cut_J2 rec y3 (y1 ++ [subl a0 y2 y3]) (IntKind.i64.wrap (y3 + 1))))) (spec_l5Cut_J2 rec y3 y1 y2)) (some (y1, y2))
def spec_l5Cut (a0 : List UInt8) (a1 : Int) : Option ((List (List UInt8))) := obind (loopF (spec_l5Cut_B1 a0 a1) fz (([] : List (List UInt8)), 0, 0)) fun o1 => (match o1 with
  | (z2, z3) => (chk ((0 : Int) ≤ z3 ∧ z3 ≤ (List.length a0 : Int) ∧ (List.length a0 : Int) ≤ (List.length a0 : Int)) (chk (List.length z2 + List.length [subl a0 z3 (List.length a0 : Int)] ≤ lim) (some (z2 ++ [subl a0 z3 (List.length a0 : Int)])))))
theorem spec_l5Cut_s {a0 : List UInt8} {a1 : Int} {r : (List (List UInt8))} (h : spec_l5Cut a0 a1 = some r) : SoundAt Try.prog 150 [.str a0, .int .u8 a1] (oL 9 cst r) := by
 unfold spec_l5Cut at h
 refine st lit150 rfl (rn 1 rfl (rs (qBs cst [] rfl rfl rfl zcst (sp 1 rfl (evn (rn 1 rfl (ls_seq_k fun K1 hK1 => rn 1 rfl ?_)))))))
 obtain ⟨o1, hl, hr1⟩ := ob_some h
 have kXB1 : ∀ {z2 : List (List UInt8)} {z3 : Int}, (z2, z3) = o1 → Jn K1 [(0, .str a0), (5, oL 9 cst z2), (6, nI z3)] := by
  intro z2 z3 h σ' hk
  subst h
  replace h := hr1
  try dsimp only at h
  refine hK1 _ (lh hk rfl (rs (sp 3 rfl (?_))))
  obtain ⟨g14, h⟩ := chk_some h
  refine qSs rfl g14 (qBs cst [subl a0 z3 (List.length a0 : Int)] rfl rfl rfl zcst (?_))
  obtain ⟨g15, h⟩ := chk_some h
  exact qA cst z2 [subl a0 z3 (List.length a0 : Int)] rfl rfl (flat_len zcst [subl a0 z3 (List.length a0 : Int)]) rfl g15 (sp 1 rfl (evn (ls_ret ((by cases h; exact ⟨.inl rfl, rfl⟩)))))
 refine ls_rec (fun (s : (List (List UInt8)) × Int × Int) => match s with | (y1, y2, y3) => [(0, .str a0), (1, .int .u8 a1), (5, oL 9 cst y1), (6, nI y2), (7, nI y3)]) _ _ _ _ hl (okr rfl) (fun _ => rfl) ?_
 rintro m ⟨y1, y2, y3⟩ N h hN
 unfold spec_l5Cut_B1 at h
 dsimp only at h
 refine ls_seq_k fun K4 hK4 => rn 1 rfl ?_
 rcases cond_some h with ⟨g5, h⟩ | ⟨g5, h⟩
 ·refine qT rfl g5 (ls_skip (hK4 _ (ls_seq_k fun K6 hK6 => ls_blk (rs (sp 2 rfl (?_))))))
  obtain ⟨b7, g8, h⟩ := ob_some h
  refine qX rfl g8 (sp 2 rfl (evn ?_))
  have kJ2 : ∀ {x9 : List (List UInt8)} {x10 : Int}, spec_l5Cut_J2 (loopF (spec_l5Cut_B1 a0 a1) m) y3 x9 x10 = some o1 → Jn K6 [(0, .str a0), (1, .int .u8 a1), (5, oL 9 cst x9), (6, nI x10), (7, nI y3)] := by
   intro x9 x10 h σ' hk
   unfold spec_l5Cut_J2 at h
   exact hK6 _ (lh hk rfl (rg (sp 3 rfl (evn (hN _ _ h (okr rfl))))))
  rcases cond_some h with ⟨g11, h⟩ | ⟨g11, h⟩
  ·refine qT rfl g11 (rs (sp 4 rfl (?_)))
   obtain ⟨g12, h⟩ := chk_some h
   refine qSs rfl g12 (qBs cst [subl a0 y2 y3] rfl rfl rfl zcst (?_))
   obtain ⟨g13, h⟩ := chk_some h
   exact qA cst y1 [subl a0 y2 y3] rfl rfl (flat_len zcst [subl a0 y2 y3]) rfl g13 (sp 1 rfl (evn (rg (sp 3 rfl (evn (kJ2 h _ (okr rfl)))))))
  ·exact qF rfl g11 (ls_skip (kJ2 h _ (okr rfl)))
 ·exact qF rfl g5 (ls_exit (kXB1 (Option.some.inj h) _ (okr rfl)))
def spec_VariableName (a0 : Int) : Option ((List UInt8)) := obind (spec_l1In a0 0 4) fun v2 => cond (!v2) (some []) (chk ((0 : Int) ≤ a0 ∧ a0 ≤ IntKind.i64.wrap (a0 + 1) ∧ IntKind.i64.wrap (a0 + 1) ≤ (List.length [88, 89, 90, 85, 86] : Int)) (some (subl [88, 89, 90, 85, 86] a0 (IntKind.i64.wrap (a0 + 1)))))
theorem spec_VariableName_s {a0 : Int} {r : (List UInt8)} (h : spec_VariableName a0 = some r) : SoundAt Try.prog 152 [nI a0] (.str r) := by
 unfold spec_VariableName at h
 refine st lit152 rfl (rn 1 rfl (ls_seq_k fun K1 hK1 => rs (sp 1 rfl (?_))))
 obtain ⟨v2, g3, h⟩ := ob_some h
 refine qC (qs rfl (qs rfl (qs rfl eran))) (spec_l1In_s g3) (sp 1 rfl (evn ?_))
 rcases cond_some h with ⟨g4, h⟩ | ⟨g4, h⟩
 ·exact qT rfl g4 (rn 1 rfl (ls_ret ((by cases h; exact ⟨.inl rfl, rfl⟩))))
 ·refine qF rfl g4 (ls_skip (hK1 _ (rs (sp 3 rfl (?_)))))
  obtain ⟨g5, h⟩ := chk_some h
  exact qSs rfl g5 (sp 1 rfl (evn (ls_ret ((by cases h; exact ⟨.inl rfl, rfl⟩)))))
def spec_l7List_J3 (rec : ((List Int) × Int) → Option ((List Int))) (y8 : Int) (x13 : List Int) : Option ((List Int)) := rec (x13, (IntKind.i64.wrap (y8 + 1)))
def spec_l7List_B2 (a0 : List UInt8) (y4 : Int) (rec : ((List Int) × Int) → Option ((List Int))) (s : (List Int) × Int) : Option ((List Int)) := match s with
  | (y7, y8) => cond (decide (y8 < 5)) (obind (spec_VariableName y8) fun v10 => chk ((0 : Int) ≤ y4 ∧ y4 ≤ IntKind.i64.wrap (y4 + 1) ∧ IntKind.i64.wrap (y4 + 1) ≤ (List.length a0 : Int)) (cond (v10 == (subl a0 y4 (IntKind.i64.wrap (y4 + 1)))) (chk (List.length y7 + List.length [y8] ≤ lim) (spec_l7List_J3 rec y8 (y7 ++ [y8]))) (spec_l7List_J3 rec y8 y7))) (some y7)
def spec_l7List_B1 (a0 : List UInt8) (rec : ((List Int) × Int) → Option ((List Int))) (s : (List Int) × Int) : Option ((List Int)) := match s with
  | (y3, y4) => cond (decide (y4 < (List.length a0 : Int))) (obind (loopF (spec_l7List_B2 a0 y4) fz (y3, 0)) fun z6 => rec (z6, (IntKind.i64.wrap (y4 + 1)))) (some y3)
def spec_l7List (a0 : List UInt8) : Option ((List Int)) := obind (loopF (spec_l7List_B1 a0) fz (([] : List Int), 0)) fun z2 => some z2
theorem spec_l7List_s {a0 : List UInt8} {r : (List Int)} (h : spec_l7List a0 = some r) : SoundAt Try.prog 151 [.str a0] (oL 3 ci64 r) := by
 unfold spec_l7List at h
 refine st lit151 rfl (rn 1 rfl (rs (qBs ci64 [] rfl rfl rfl zci64 (sp 1 rfl (evn (ls_seq_k fun K1 hK1 => rn 1 rfl ?_))))))
 obtain ⟨o1, hl, hr1⟩ := ob_some h
 have kXB1 : ∀ {z2 : List Int}, z2 = o1 → Jn K1 [(3, oL 3 ci64 z2)] := by
  intro z2 h σ' hk
  subst h
  replace h := hr1
  try dsimp only at h
  exact hK1 _ (lh hk rfl (rn 1 rfl (ls_ret ((by cases h; exact ⟨.inl rfl, rfl⟩)))))
 refine ls_rec (fun (s : (List Int) × Int) => match s with | (y3, y4) => [(0, .str a0), (3, oL 3 ci64 y3), (4, nI y4)]) _ _ _ _ hl (okr rfl) (fun _ => rfl) ?_
 rintro m ⟨y3, y4⟩ N h hN
 unfold spec_l7List_B1 at h
 dsimp only at h
 refine ls_seq_k fun K3 hK3 => rn 1 rfl ?_
 rcases cond_some h with ⟨g4, h⟩ | ⟨g4, h⟩
 ·refine qT rfl g4 (ls_skip (hK3 _ (ls_seq_k fun K5 hK5 => ls_blk (rn 1 rfl ?_))))
  obtain ⟨o2, hl, hr2⟩ := ob_some h
  have kXB2 : ∀ {z6 : List Int}, z6 = o2 → Jn K5 [(0, .str a0), (3, oL 3 ci64 z6), (4, nI y4)] := by
   intro z6 h σ' hk
   subst h
   replace h := hr2
   try dsimp only at h
   exact hK5 _ (lh hk rfl (rg (sp 3 rfl (evn (hN _ _ h (okr rfl))))))
  refine ls_rec (fun (s : (List Int) × Int) => match s with | (y7, y8) => [(0, .str a0), (3, oL 3 ci64 y7), (4, nI y4), (5, nI y8)]) _ _ _ _ hl (okr rfl) (fun _ => rfl) ?_
  rintro m ⟨y7, y8⟩ N h hN
  unfold spec_l7List_B2 at h
  dsimp only at h
  refine ls_seq_k fun K7 hK7 => rn 1 rfl ?_
  rcases cond_some h with ⟨g8, h⟩ | ⟨g8, h⟩
  ·refine qT rfl g8 (ls_skip (hK7 _ (ls_seq_k fun K9 hK9 => ls_blk (rd (by kernel_rfl) (sd 1 rfl (?_))))))
   obtain ⟨v10, g11, h⟩ := ob_some h
   refine ed rfl (qC (qs rfl eran) (spec_VariableName_s g11) (sd 4 rfl (?_)))
   obtain ⟨g12, h⟩ := chk_some h
   refine ed rfl (qSs rfl g12 (sd 1 rfl (evdn ?_)))
   have kJ3 : ∀ {x13 : List Int}, spec_l7List_J3 (loopF (spec_l7List_B2 a0 y4) m) y8 x13 = some o2 → Jn K9 [(0, .str a0), (3, oL 3 ci64 x13), (4, nI y4), (5, nI y8)] := by
    intro x13 h σ' hk
    unfold spec_l7List_J3 at h
    exact hK9 _ (lh hk rfl (rg (sp 3 rfl (evn (hN _ _ h (okr rfl))))))
   rcases cond_some h with ⟨g14, h⟩ | ⟨g14, h⟩
   ·refine qT rfl g14 (rg (sp 2 rfl (qBs ci64 [y8] rfl rfl rfl zci64 (?_))))
    obtain ⟨g15, h⟩ := chk_some h
    exact qA ci64 y7 [y8] rfl rfl (flat_len zci64 [y8]) rfl g15 (sp 1 rfl (evn (kJ3 h _ (okr rfl))))
   ·exact qF rfl g14 (ls_skip (kJ3 h _ (okr rfl)))
  ·exact qF rfl g8 (ls_exit (kXB2 (Option.some.inj h) _ (okr rfl)))
 ·exact qF rfl g4 (ls_exit (kXB1 (Option.some.inj h) _ (okr rfl)))
def spec_l7Vars_B1 (a0 : List Int) (rec : ((List UInt8) × Int) → Option ((List UInt8))) (s : (List UInt8) × Int) : Option ((List UInt8)) := match s with
  | (y1, y2) => cond (decide (y2 < (List.length a0 : Int))) (obind (geti a0 y2) fun e6 => obind (spec_VariableName e6) fun v8 => chk (List.length y1 + List.length v8 ≤ lim) (rec ((y1 ++ v8), (IntKind.i64.wrap (y2 + 1))))) (some y1)
def spec_l7Vars (a0 : List Int) : Option ((List UInt8)) := obind (loopF (spec_l7Vars_B1 a0) fz ([40], 0)) fun z2 => chk (List.length z2 + List.length [41] ≤ lim) (some (z2 ++ [41]))
theorem spec_l7Vars_s {a0 : List Int} {r : (List UInt8)} (h : spec_l7Vars a0 = some r) : SoundAt Try.prog 172 [dL ci64 a0] (.str r) := by
 unfold spec_l7Vars at h
 refine st lit172 rfl (rn 2 rfl (ls_seq_k fun K1 hK1 => rn 1 rfl ?_))
 obtain ⟨o1, hl, hr1⟩ := ob_some h
 have kXB1 : ∀ {z2 : List UInt8}, z2 = o1 → Jn K1 [(3, .str z2)] := by
  intro z2 h σ' hk
  subst h
  replace h := hr1
  try dsimp only at h
  refine hK1 _ (lh hk rfl (rs (sp 1 rfl (?_))))
  obtain ⟨g11, h⟩ := chk_some h
  exact qB rfl g11 rfl (sp 1 rfl (evn (ls_ret ((by cases h; exact ⟨.inl rfl, rfl⟩)))))
 refine ls_rec (fun (s : (List UInt8) × Int) => match s with | (y1, y2) => [(0, dL ci64 a0), (3, .str y1), (4, nI y2)]) _ _ _ _ hl (okr rfl) (fun _ => rfl) ?_
 rintro m ⟨y1, y2⟩ N h hN
 unfold spec_l7Vars_B1 at h
 dsimp only at h
 refine ls_seq_k fun K3 hK3 => rn 1 rfl ?_
 rcases cond_some h with ⟨g4, h⟩ | ⟨g4, h⟩
 ·refine qT rfl g4 (ls_skip (hK3 _ (ls_seq_k fun K5 hK5 => ls_blk (rg (sp 3 rfl (?_))))))
  obtain ⟨e6, g7, h⟩ := ob_some h
  refine qI rfl zci64 g7 (sp 1 rfl (?_))
  obtain ⟨v8, g9, h⟩ := ob_some h
  refine qC (qs rfl eran) (spec_VariableName_s g9) (?_)
  obtain ⟨g10, h⟩ := chk_some h
  exact qB rfl g10 rfl (sp 1 rfl (evn (hK5 _ (rg (sp 3 rfl (evn (hN _ _ h (okr rfl))))))))
 ·exact qF rfl g4 (ls_exit (kXB1 (Option.some.inj h) _ (okr rfl)))
def spec_FormatQuery_J2 (rec : ((List UInt8) × Int) → Option ((List UInt8))) (a0 : Y61) (y2 : Int) (x14 : List UInt8) : Option ((List UInt8)) := obind (geti a0.2.1 y2) fun e15 => chk (List.length x14 + List.length e15.1 ≤ lim) (obind (geti a0.2.1 y2) fun e18 => obind (spec_l7Vars e18.2) fun v20 => chk (List.length (x14 ++ e15.1) + List.length v20 ≤ lim) (rec (((x14 ++ e15.1) ++ v20), (IntKind.i64.wrap (y2 + 1)))))
def spec_FormatQuery_B1 (a0 : Y61) (rec : ((List UInt8) × Int) → Option ((List UInt8))) (s : (List UInt8) × Int) : Option ((List UInt8)) := match s with
  | (y1, y2) => cond (decide (y2 < (List.length a0.2.1 : Int))) (cond (decide (0 < y2)) (chk (List.length y1 + List.length [44] ≤ lim) (spec_FormatQuery_J2 rec a0 y2 (y1 ++ [44]))) (spec_FormatQuery_J2 rec a0 y2 y1)) (some y1)
def spec_FormatQuery (a0 : Y61) : Option ((List UInt8)) := obind (spec_IsValidQuery a0) fun v2 => cond (!v2) (some []) (obind (spec_l7Vars a0.2.2) fun v5 => chk (List.length v5 + List.length [61] ≤ lim) (obind (loopF (spec_FormatQuery_B1 a0) fz ((v5 ++ [61]), 0)) fun z9 => some z9))
theorem spec_FormatQuery_s {a0 : Y61} {r : (List UInt8)} (h : spec_FormatQuery a0 = some r) : SoundAt Try.prog 153 [.agg (c62_ddd a0)] (.str r) := by
 unfold spec_FormatQuery at h
 refine st lit153 rfl (rn 1 rfl (ls_seq_k fun K1 hK1 => rs (sp 1 rfl (?_))))
 obtain ⟨v2, g3, h⟩ := ob_some h
 refine qC (qa rfl (erg (erc rfl (erc (erD ec124_d _) (erc (erD eci64 _) rfl)))) eran) (spec_IsValidQuery_s g3) (sp 1 rfl (evn ?_))
 rcases cond_some h with ⟨g4, h⟩ | ⟨g4, h⟩
 ·exact qT rfl g4 (rn 1 rfl (ls_ret ((by cases h; exact ⟨.inl rfl, rfl⟩))))
 ·refine qF rfl g4 (ls_skip (hK1 _ (rs (sp 2 rfl (?_)))))
  obtain ⟨v5, g6, h⟩ := ob_some h
  refine qC (qa rfl (erD eci64 _) eran) (spec_l7Vars_s g6) (?_)
  obtain ⟨g7, h⟩ := chk_some h
  refine qB rfl g7 rfl (sp 1 rfl (evn (ls_seq_k fun K8 hK8 => rn 1 rfl ?_)))
  obtain ⟨o1, hl, hr1⟩ := ob_some h
  have kXB1 : ∀ {z9 : List UInt8}, z9 = o1 → Jn K8 [(3, .str z9)] := by
   intro z9 h σ' hk
   subst h
   replace h := hr1
   try dsimp only at h
   exact hK8 _ (lh hk rfl (rn 1 rfl (ls_ret ((by cases h; exact ⟨.inl rfl, rfl⟩)))))
  refine ls_rec (fun (s : (List UInt8) × Int) => match s with | (y1, y2) => [(1, .box [nI a0.1, dL c124_d a0.2.1, dL ci64 a0.2.2]), (3, .str y1), (4, nI y2)]) _ _ _ _ hl (okr rfl) (fun _ => rfl) ?_
  rintro m ⟨y1, y2⟩ N h hN
  unfold spec_FormatQuery_B1 at h
  dsimp only at h
  refine ls_seq_k fun K10 hK10 => rn 1 rfl ?_
  rcases cond_some h with ⟨g11, h⟩ | ⟨g11, h⟩
  ·refine qT rfl g11 (ls_skip (hK10 _ (ls_seq_k fun K12 hK12 => ls_blk (ls_seq_k fun K13 hK13 => rn 1 rfl ?_))))
   have kJ2 : ∀ {x14 : List UInt8}, spec_FormatQuery_J2 (loopF (spec_FormatQuery_B1 a0) m) a0 y2 x14 = some o1 → Jn K13 [(1, .box [nI a0.1, dL c124_d a0.2.1, dL ci64 a0.2.2]), (3, .str x14), (4, nI y2)] := by
    intro x14 h σ' hk
    unfold spec_FormatQuery_J2 at h
    refine hK13 _ (lh hk rfl (rgd (by kernel_rfl) (sd 4 rfl (?_))))
    obtain ⟨e15, g16, h⟩ := ob_some h
    refine ed rfl (qI rfl zc124_d g16 (sd 2 rfl (?_)))
    obtain ⟨g17, h⟩ := chk_some h
    refine ed rfl (qB rfl g17 rfl (sd 3 rfl (?_)))
    obtain ⟨e18, g19, h⟩ := ob_some h
    refine ed rfl (qI rfl zc124_d g19 (sd 2 rfl (?_)))
    obtain ⟨v20, g21, h⟩ := ob_some h
    refine ed rfl (qC (qa rfl (erD eci64 _) eran) (spec_l7Vars_s g21) (?_))
    obtain ⟨g22, h⟩ := chk_some h
    exact ed rfl (qB rfl g22 rfl (sd 1 rfl (evdn (hK12 _ (rg (sp 3 rfl (evn (hN _ _ h (okr rfl)))))))))
   rcases cond_some h with ⟨g23, h⟩ | ⟨g23, h⟩
   ·refine qT rfl g23 (rg (sp 1 rfl (?_)))
    obtain ⟨g24, h⟩ := chk_some h
    exact qB rfl g24 rfl (sp 1 rfl (evn (kJ2 h _ (okr rfl))))
   ·exact qF rfl g23 (ls_skip (kJ2 h _ (okr rfl)))
  ·exact qF rfl g11 (ls_exit (kXB1 (Option.some.inj h) _ (okr rfl)))
def c124_o (x : Y123) : List V := [.str x.1, oL 3 ci64 x.2]
theorem zc124_o (x : Y123) : (c124_o x).length = 2 := rfl
theorem ec124_o (x : Y123) : erL (c124_o x) = c124_d x := (erc rfl (erc (erO eci64 _) rfl))
def c62_ooo (x : Y61) : List V := [nI x.1, oL 124 c124_o x.2.1, oL 3 ci64 x.2.2]
theorem zc62_ooo (x : Y61) : (c62_ooo x).length = 3 := rfl
theorem ec62_ooo (x : Y61) : erL (c62_ooo x) = c62_ddd x := (erc rfl (erc (erO ec124_o _) (erc (erO eci64 _) rfl)))
def spec_ParseQuery_J4 (rec : (Int × Int) → Option (Int)) (y27 : Int) (x45 : Int) : Option (Int) := rec (x45, (IntKind.i64.wrap (y27 + 1)))
def spec_ParseQuery_B3 (v11 : (List (List UInt8))) (y11 : Int) (y23 : Int) (rec : (Int × Int) → Option (Int)) (s : Int × Int) : Option (Int) := match s with
  | (y26, y27) => cond (decide (y27 < 5)) (obind (spec_VariableName y27) fun v40 => obind (geti v11 y11) fun e42 => chk ((0 : Int) ≤ y23 ∧ y23 ≤ IntKind.i64.wrap (y23 + 1) ∧ IntKind.i64.wrap (y23 + 1) ≤ (List.length e42 : Int)) (cond (v40 == (subl e42 y23 (IntKind.i64.wrap (y23 + 1)))) (spec_ParseQuery_J4 rec y27 (IntKind.i64.wrap (y27 + 1))) (spec_ParseQuery_J4 rec y27 y26))) (some y26)
def spec_ParseQuery_B2 (v11 : (List (List UInt8))) (y11 : Int) (rec : (Int × Int) → Option (Int)) (s : Int × Int) : Option (Int) := match s with
  | (y22, y23) => obind (geti v11 y11) fun e32 => cond (decide (y23 < (List.length e32 : Int))) (obind (loopF (spec_ParseQuery_B3 v11 y11 y23) fz (y22, y22)) fun z36 => rec (z36, (IntKind.i64.wrap (y23 + 1)))) (some y22)
def spec_ParseQuery_B1 (v11 : (List (List UInt8))) (rec : (Int × (List Y123) × Int) → Option (Int × (List Y123))) (s : Int × (List Y123) × Int) : Option (Int × (List Y123)) := match s with
  | (y9, y10, y11) => cond (decide (y11 < (List.length v11 : Int))) (obind (geti v11 y11) fun e19 => obind (spec_l5Cut e19 40) fun v21 => obind (geti v21 0) fun e23 => obind (geti v11 y11) fun e25 => obind (spec_l7List e25) fun v27 => chk (List.length y10 + List.length [(e23, v27)] ≤ lim) (obind (loopF (spec_ParseQuery_B2 v11 y11) fz (y9, 0)) fun z30 => rec (z30, (y10 ++ [(e23, v27)]), (IntKind.i64.wrap (y11 + 1))))) (some (y9, y10))
def spec_ParseQuery (a0 : List UInt8) : Option (Y61 × Bool) := obind (spec_l5Cut a0 61) fun v1 => cond ((List.length v1 : Int) != 2) (some ((0, [], []), false)) (obind (geti v1 0) fun e5 => obind (spec_l7List e5) fun v7 => obind (geti v1 1) fun e9 => obind (spec_l5Cut e9 44) fun v11 => obind (loopF (spec_ParseQuery_B1 v11) fz (0, ([] : List Y123), 0)) fun o1 => (match o1 with
  | (z14, z15) => (obind (spec_FormatQuery (z14, z15, v7)) fun v48 => cond (!(v48 == a0)) (some ((0, [], []), false)) (cond (a0 == []) (some ((0, [], []), false)) (some ((z14, z15, v7), true))))))
theorem spec_ParseQuery_s {a0 : List UInt8} {r : Y61 × Bool} (h : spec_ParseQuery a0 = some r) : SoundAt Try.prog 123 [.str a0] (.tup [.agg (c62_ooo r.1), .bool r.2]) := by
 unfold spec_ParseQuery at h
 refine st lit123 rfl (rn 1 rfl (rs (sp 1 rfl (?_))))
 obtain ⟨v1, g2, h⟩ := ob_some h
 refine qC (qs rfl (qs rfl eran)) (spec_l5Cut_s g2) (sp 1 rfl (evn (ls_seq_k fun K3 hK3 => rn 1 rfl ?_)))
 rcases cond_some h with ⟨g4, h⟩ | ⟨g4, h⟩
 ·exact qT rfl g4 (rn 1 rfl (ls_ret ((by cases h; exact ⟨.inl rfl, rfl⟩))))
 ·refine qF rfl g4 (ls_skip (hK3 _ (rs (sp 1 rfl (?_)))))
  obtain ⟨e5, g6, h⟩ := ob_some h
  refine qI rfl zcst g6 (sp 1 rfl (?_))
  obtain ⟨v7, g8, h⟩ := ob_some h
  refine qC (qs rfl eran) (spec_l7List_s g8) (sp 3 rfl (evn (rs (sp 1 rfl (?_)))))
  obtain ⟨e9, g10, h⟩ := ob_some h
  refine qI rfl zcst g10 (sp 1 rfl (?_))
  obtain ⟨v11, g12, h⟩ := ob_some h
  refine qC (qs rfl (qs rfl eran)) (spec_l5Cut_s g12) (sp 1 rfl (evn (qk [0, 2, 5, 6] rfl (ls_seq_k fun K13 hK13 => rn 1 rfl ?_))))
  obtain ⟨o1, hl, hr1⟩ := ob_some h
  have kXB1 : ∀ {z14 : Int} {z15 : List Y123}, (z14, z15) = o1 → Jn K13 [(0, .str a0), (2, .box [nI 0, oL 124 c124_o [], oL 3 ci64 []]), (5, .box [nI z14, oL 124 c124_o z15, oL 3 ci64 v7])] := by
   intro z14 z15 h σ' hk
   subst h
   replace h := hr1
   try dsimp only at h
   refine hK13 _ (lh hk rfl (ls_seq_k fun K47 hK47 => rs (sp 1 rfl (?_))))
   obtain ⟨v48, g49, h⟩ := ob_some h
   refine qC (qa rfl (erg (erc rfl (erc (erD ec124_o _) (erc (erD eci64 _) rfl)))) eran) (spec_FormatQuery_s g49) (sp 3 rfl (?_))
   rcases cond_some h with ⟨g50, h⟩ | ⟨g50, h⟩
   ·exact qg 84 g50 rfl (sp 3 rfl (evn (qT rfl rfl (rn 1 rfl (ls_ret ((by cases h; exact ⟨.inl rfl, rfl⟩)))))))
   ·refine qg 84 g50 rfl (sp 3 rfl (evn ?_))
    rcases cond_some h with ⟨g51, h⟩ | ⟨g51, h⟩
    ·exact qT rfl g51 (rn 1 rfl (ls_ret ((by cases h; exact ⟨.inl rfl, rfl⟩))))
    ·exact qF rfl g51 (ls_skip (hK47 _ (rn 1 rfl (ls_ret ((by cases h; exact ⟨.inl rfl, rfl⟩))))))
  refine ls_rec (fun (s : Int × (List Y123) × Int) => match s with | (y9, y10, y11) => [(0, .str a0), (2, .box [nI 0, oL 124 c124_o [], oL 3 ci64 []]), (5, .box [nI y9, oL 124 c124_o y10, oL 3 ci64 v7]), (6, oL 9 cst v11), (7, nI y11)]) _ _ _ _ hl (okr rfl) (fun _ => rfl) ?_
  rintro m ⟨y9, y10, y11⟩ N h hN
  unfold spec_ParseQuery_B1 at h
  dsimp only at h
  refine ls_seq_k fun K16 hK16 => rn 1 rfl ?_
  rcases cond_some h with ⟨g17, h⟩ | ⟨g17, h⟩
  ·refine qT rfl g17 (ls_skip (hK16 _ (ls_seq_k fun K18 hK18 => ls_blk (rs (sp 2 rfl (?_))))))
   obtain ⟨e19, g20, h⟩ := ob_some h
   refine qI rfl zcst g20 (sp 1 rfl (?_))
   obtain ⟨v21, g22, h⟩ := ob_some h
   refine qC (qs rfl (qs rfl eran)) (spec_l5Cut_s g22) (sp 1 rfl (evn (rd (by kernel_rfl) (sd 3 rfl (?_)))))
   obtain ⟨e23, g24, h⟩ := ob_some h
   refine ed rfl (qI rfl zcst g24 (sd 3 rfl (?_)))
   obtain ⟨e25, g26, h⟩ := ob_some h
   refine ed rfl (qI rfl zcst g26 (sd 1 rfl (?_)))
   obtain ⟨v27, g28, h⟩ := ob_some h
   refine ed rfl (qC (qs rfl eran) (spec_l7List_s g28) (sd 1 rfl (ed rfl (qBs c124_o [(e23, v27)] rfl rfl rfl zc124_o (?_)))))
   obtain ⟨g29, h⟩ := chk_some h
   refine ed rfl (qA c124_o y10 [(e23, v27)] rfl rfl (flat_len zc124_o [(e23, v27)]) rfl g29 (sd 2 rfl (evdn (rn 1 rfl (qk [0, 2, 5, 6, 7, 9] rfl ?_)))))
   obtain ⟨o2, hl, hr2⟩ := ob_some h
   have kXB2 : ∀ {z30 : Int}, z30 = o2 → Jn K18 [(0, .str a0), (2, .box [nI 0, oL 124 c124_o [], oL 3 ci64 []]), (5, .box [nI z30, oL 124 c124_o (y10 ++ [(e23, v27)]), oL 3 ci64 v7]), (6, oL 9 cst v11), (7, nI y11)] := by
    intro z30 h σ' hk
    subst h
    replace h := hr2
    try dsimp only at h
    exact hK18 _ (lh hk rfl (rg (sp 3 rfl (evn (hN _ _ h (okr rfl))))))
   refine ls_rec (fun (s : Int × Int) => match s with | (y22, y23) => [(0, .str a0), (2, .box [nI 0, oL 124 c124_o [], oL 3 ci64 []]), (5, .box [nI y22, oL 124 c124_o (y10 ++ [(e23, v27)]), oL 3 ci64 v7]), (6, oL 9 cst v11), (7, nI y11), (9, nI y23)]) _ _ _ _ hl (okr rfl) (fun _ => rfl) ?_
   rintro m ⟨y22, y23⟩ N h hN
   unfold spec_ParseQuery_B2 at h
   dsimp only at h
   refine ls_seq_k fun K31 hK31 => rs (sp 3 rfl (?_))
   obtain ⟨e32, g33, h⟩ := ob_some h
   refine qI rfl zcst g33 (sp 3 rfl (evn ?_))
   rcases cond_some h with ⟨g34, h⟩ | ⟨g34, h⟩
   ·refine qT rfl g34 (ls_skip (hK31 _ (ls_seq_k fun K35 hK35 => ls_blk (rn 1 rfl ?_))))
    obtain ⟨o3, hl, hr3⟩ := ob_some h
    have kXB3 : ∀ {z36 : Int}, z36 = o3 → Jn K35 [(0, .str a0), (2, .box [nI 0, oL 124 c124_o [], oL 3 ci64 []]), (5, .box [nI z36, oL 124 c124_o (y10 ++ [(e23, v27)]), oL 3 ci64 v7]), (6, oL 9 cst v11), (7, nI y11), (9, nI y23)] := by
     intro z36 h σ' hk
     subst h
     replace h := hr3
     try dsimp only at h
     exact hK35 _ (lh hk rfl (rg (sp 3 rfl (evn (hN _ _ h (okr rfl))))))
    refine ls_rec (fun (s : Int × Int) => match s with | (y26, y27) => [(0, .str a0), (2, .box [nI 0, oL 124 c124_o [], oL 3 ci64 []]), (5, .box [nI y26, oL 124 c124_o (y10 ++ [(e23, v27)]), oL 3 ci64 v7]), (6, oL 9 cst v11), (7, nI y11), (9, nI y23), (10, nI y27)]) _ _ _ _ hl (okr rfl) (fun _ => rfl) ?_
    rintro m ⟨y26, y27⟩ N h hN
    unfold spec_ParseQuery_B3 at h
    dsimp only at h
    refine ls_seq_k fun K37 hK37 => rn 1 rfl ?_
    rcases cond_some h with ⟨g38, h⟩ | ⟨g38, h⟩
    ·refine qT rfl g38 (ls_skip (hK37 _ (ls_seq_k fun K39 hK39 => ls_blk (rd (by kernel_rfl) (sd 1 rfl (?_))))))
     obtain ⟨v40, g41, h⟩ := ob_some h
     refine ed rfl (qC (qs rfl eran) (spec_VariableName_s g41) (sd 2 rfl (?_)))
     obtain ⟨e42, g43, h⟩ := ob_some h
     refine ed rfl (qI rfl zcst g43 (sd 4 rfl (?_)))
     obtain ⟨g44, h⟩ := chk_some h
     refine ed rfl (qSs rfl g44 (sd 1 rfl (evdn ?_)))
     have kJ4 : ∀ {x45 : Int}, spec_ParseQuery_J4 (loopF (spec_ParseQuery_B3 v11 y11 y23) m) y27 x45 = some o3 → Jn K39 [(0, .str a0), (2, .box [nI 0, oL 124 c124_o [], oL 3 ci64 []]), (5, .box [nI x45, oL 124 c124_o (y10 ++ [(e23, v27)]), oL 3 ci64 v7]), (6, oL 9 cst v11), (7, nI y11), (9, nI y23), (10, nI y27)] := by
      intro x45 h σ' hk
      unfold spec_ParseQuery_J4 at h
      exact hK39 _ (lh hk rfl (rg (sp 3 rfl (evn (hN _ _ h (okr rfl))))))
     rcases cond_some h with ⟨g46, h⟩ | ⟨g46, h⟩
     ·exact qT rfl g46 (rg (sp 4 rfl (evn (kJ4 h _ (okr rfl)))))
     ·exact qF rfl g46 (ls_skip (kJ4 h _ (okr rfl)))
    ·exact qF rfl g38 (ls_exit (kXB3 (Option.some.inj h) _ (okr rfl)))
   ·exact qF rfl g34 (ls_exit (kXB2 (Option.some.inj h) _ (okr rfl)))
  ·exact qF rfl g17 (ls_exit (kXB1 (Option.some.inj h) _ (okr rfl)))
def spec_l7Query_B2 (v9 : Int × Y130) (rec : ((List Int) × Int × Int × (List Int) × Int) → Option ((List Int) × Int × Int × (List Int))) (s : (List Int) × Int × Int × (List Int) × Int) : Option ((List Int) × Int × Int × (List Int)) := match s with
  | (y16, y17, y18, y19, y20) => cond (decide (0 < y20)) (obind (spec_l1Below (y16, y17, y18) (IntKind.i64.wrap (1 + v9.1))) fun v33 => chk (List.length y19 + List.length [v33.1] ≤ lim) (rec (v33.2.1, v33.2.2.1, v33.2.2.2, (y19 ++ [v33.1]), (IntKind.i64.wrap (y20 - 1))))) (some (y16, y17, y18, y19))
def spec_l7Query_B1 (v9 : Int × Y130) (rec : ((List Int) × Int × Int × (List Y123) × Int) → Option ((List Int) × Int × Int × (List Y123))) (s : (List Int) × Int × Int × (List Y123) × Int) : Option ((List Int) × Int × Int × (List Y123)) := match s with
  | (y6, y7, y8, y9, y10) => cond (decide (0 < y10)) (obind (spec_l1Below (y6, y7, y8) 5) fun v21 => obind (geti ([[114], [115], [116], [117], [118]]) v21.1) fun e23 => obind (loopF (spec_l7Query_B2 v9) fz (v21.2.1, v21.2.2.1, v21.2.2.2, ([] : List Int), (IntKind.i64.wrap (2 + (IntKind.i64.wrap (Int.tdiv v21.1 4)))))) fun o2 => (match o2 with
  | (z26, z27, z28, z29) => (chk (List.length y9 + List.length [(e23, z29)] ≤ lim) (rec (z26, z27, z28, (y9 ++ [(e23, z29)]), (IntKind.i64.wrap (y10 - 1))))))) (some (y6, y7, y8, y9))
def spec_l7Query_J4 (rec : ((List Int) × Int × Int × (List Int) × Int) → Option ((List Int) × Int × Int × (List Int))) (y25 : Int) (v45 : Bool × Y130) (x47 : List Int) : Option ((List Int) × Int × Int × (List Int)) := rec (v45.2.1, v45.2.2.1, v45.2.2.2, x47, (IntKind.i64.wrap (y25 + 1)))
def spec_l7Query_B3 (v9 : Int × Y130) (rec : ((List Int) × Int × Int × (List Int) × Int) → Option ((List Int) × Int × Int × (List Int))) (s : (List Int) × Int × Int × (List Int) × Int) : Option ((List Int) × Int × Int × (List Int)) := match s with
  | (y21, y22, y23, y24, y25) => cond (decide (y25 < (IntKind.i64.wrap (1 + v9.1)))) (obind (spec_l1Once (y21, y22, y23) 2) fun v45 => cond v45.1 (chk (List.length [y25] + List.length y24 ≤ lim) (spec_l7Query_J4 rec y25 v45 ([y25] ++ y24))) (spec_l7Query_J4 rec y25 v45 y24)) (some (y21, y22, y23, y24))
def spec_l7Query (a0 : Y130) : Option (Y61 × Y130) := obind (spec_l1Pick a0 ([[40, 88, 89, 90, 41, 61, 114, 40, 88, 89, 41, 44, 115, 40, 89, 90, 41, 44, 116, 40, 90, 88, 41], [40, 88, 89, 90, 85, 41, 61, 114, 40, 88, 89, 41, 44, 115, 40, 89, 90, 41, 44, 116, 40, 90, 85, 41, 44, 117, 40, 85, 88, 41], [40, 88, 89, 90, 41, 61, 114, 40, 88, 89, 41, 44, 115, 40, 89, 90, 41], [40, 88, 41, 61, 114, 40, 88, 89, 41, 44, 115, 40, 89, 90, 41, 44, 116, 40, 90, 85, 41], [40, 88, 89, 90, 41, 61, 118, 40, 88, 89, 90, 41, 44, 114, 40, 88, 89, 41], [40, 88, 89, 41, 61, 114, 40, 88, 89, 41, 44, 114, 40, 89, 88, 41], [40, 88, 89, 90, 85, 41, 61, 118, 40, 88, 89, 90, 41, 44, 115, 40, 90, 85, 41, 44, 116, 40, 85, 88, 41], [40, 88, 41, 61, 114, 40, 88, 88, 41], [40, 88, 89, 41, 61, 114, 40, 88, 90, 41, 44, 115, 40, 90, 89, 41, 44, 114, 40, 88, 85, 41, 44, 115, 40, 85, 89, 41], [40, 41, 61, 114, 40, 88, 89, 41, 44, 115, 40, 89, 88, 41], [40, 88, 89, 90, 85, 86, 41, 61, 114, 40, 88, 89, 41, 44, 115, 40, 89, 90, 41, 44, 116, 40, 90, 85, 41, 44, 117, 40, 85, 86, 41]])) fun v1 => obind (spec_ParseQuery v1.1) fun v3 => obind (spec_l1Once v1.2 3) fun v6 => cond (!v6.1) (some (v3.1, v6.2)) (obind (spec_l1Below v6.2 4) fun v9 => obind (spec_l1Below v9.2 4) fun v12 => obind (loopF (spec_l7Query_B1 v9) fz (v12.2.1, v12.2.2.1, v12.2.2.2, ([] : List Y123), (IntKind.i64.wrap (1 + v12.1)))) fun o1 => (match o1 with
  | (z14, z15, z16, z17) => (obind (loopF (spec_l7Query_B3 v9) fz (z14, z15, z16, ([] : List Int), 0)) fun o3 => (match o3 with
  | (z38, z39, z40, z41) => (obind (spec_IsValidQuery (IntKind.i64.wrap (1 + v9.1), z17, z41)) fun v51 => cond (!v51) (some (v3.1, (z38, z39, z40))) (some ((IntKind.i64.wrap (1 + v9.1), z17, z41), (z38, z39, z40))))))))
theorem spec_l7Query_s {a0 : Y130} {r : Y61 × Y130} (h : spec_l7Query a0 = some r) : PtrAt Try.prog 74 [aL cu8 a0.1, nI a0.2.1, nI a0.2.2] [] [aL cu8 r.2.1, nI r.2.2.1, nI r.2.2.2] (.agg (c62_ooo r.1)) := by
 unfold spec_l7Query at h
 generalize hkk0 : ([[40, 88, 89, 90, 41, 61, 114, 40, 88, 89, 41, 44, 115, 40, 89, 90, 41, 44, 116, 40, 90, 88, 41], [40, 88, 89, 90, 85, 41, 61, 114, 40, 88, 89, 41, 44, 115, 40, 89, 90, 41, 44, 116, 40, 90, 85, 41, 44, 117, 40, 85, 88, 41], [40, 88, 89, 90, 41, 61, 114, 40, 88, 89, 41, 44, 115, 40, 89, 90, 41], [40, 88, 41, 61, 114, 40, 88, 89, 41, 44, 115, 40, 89, 90, 41, 44, 116, 40, 90, 85, 41], [40, 88, 89, 90, 41, 61, 118, 40, 88, 89, 90, 41, 44, 114, 40, 88, 89, 41], [40, 88, 89, 41, 61, 114, 40, 88, 89, 41, 44, 114, 40, 89, 88, 41], [40, 88, 89, 90, 85, 41, 61, 118, 40, 88, 89, 90, 41, 44, 115, 40, 90, 85, 41, 44, 116, 40, 85, 88, 41], [40, 88, 41, 61, 114, 40, 88, 88, 41], [40, 88, 89, 41, 61, 114, 40, 88, 90, 41, 44, 115, 40, 90, 89, 41, 44, 114, 40, 88, 85, 41, 44, 115, 40, 85, 89, 41], [40, 41, 61, 114, 40, 88, 89, 41, 44, 115, 40, 89, 88, 41], [40, 88, 89, 90, 85, 86, 41, 61, 114, 40, 88, 89, 41, 44, 115, 40, 89, 90, 41, 44, 116, 40, 90, 85, 41, 44, 117, 40, 85, 86, 41]] : List (List UInt8)) = kk0 at h
 refine stp lit74 rfl (rn 1 rfl ((rsB cst kk0 9 1 (by subst hkk0; kernel_rfl) (by subst hkk0; rfl) zcst (sp 1 rfl (evn (rs (sp 2 rfl (?_))))))))
 obtain ⟨v1, g2, h⟩ := ob_some h
 refine qP rfl rfl rfl rfl (qa rfl (erD ecst _) eran) (spec_l1Pick_s g2) (?_)
 obtain ⟨v3, g4, h⟩ := ob_some h
 refine qC (qs rfl eran) (spec_ParseQuery_s g4) (sp 6 rfl (evn (ls_seq_k fun K5 hK5 => rs (sp 1 rfl (?_)))))
 obtain ⟨v6, g7, h⟩ := ob_some h
 refine qP rfl rfl rfl rfl (qs rfl eran) (spec_l1Once_s g7) (sp 1 rfl (evn ?_))
 rcases cond_some h with ⟨g8, h⟩ | ⟨g8, h⟩
 ·exact qT rfl g8 (rn 1 rfl (ls_ret ((by cases h; exact ⟨.inl rfl, rfl, rfl⟩))))
 ·refine qF rfl g8 (ls_skip (hK5 _ (rs (sp 1 rfl (?_)))))
  obtain ⟨v9, g10, h⟩ := ob_some h
  refine qP rfl rfl rfl rfl (qs rfl eran) (spec_l1Below_s g10) (sp 4 rfl (evn (qk [0, 2, 4, 6] rfl (ls_seq_k fun K11 hK11 => rs (sp 1 rfl (?_))))))
  obtain ⟨v12, g13, h⟩ := ob_some h
  refine qP rfl rfl rfl rfl (qs rfl eran) (spec_l1Below_s g13) (sp 2 rfl (evn ?_))
  obtain ⟨o1, hl, hr1⟩ := ob_some h
  have kXB1 : ∀ {z14 : List Int} {z15 : Int} {z16 : Int} {z17 : List Y123}, (z14, z15, z16, z17) = o1 → Jn K11 [(0, .box [aL cu8 z14, nI z15, nI z16]), (2, .box [nI 0, oL 124 c124_o [], oL 3 ci64 []]), (4, .box [nI v3.1.1, oL 124 c124_o v3.1.2.1, oL 3 ci64 v3.1.2.2]), (6, .box [nI (IntKind.i64.wrap (1 + v9.1)), oL 124 c124_o z17, oL 3 ci64 []])] := by
   intro z14 z15 z16 z17 h σ' hk
   subst h
   replace h := hr1
   try dsimp only at h
   refine hK11 _ (lh hk rfl (ls_seq_k fun K37 hK37 => rn 1 rfl ?_))
   obtain ⟨o3, hl, hr3⟩ := ob_some h
   have kXB3 : ∀ {z38 : List Int} {z39 : Int} {z40 : Int} {z41 : List Int}, (z38, z39, z40, z41) = o3 → Jn K37 [(0, .box [aL cu8 z38, nI z39, nI z40]), (2, .box [nI 0, oL 124 c124_o [], oL 3 ci64 []]), (4, .box [nI v3.1.1, oL 124 c124_o v3.1.2.1, oL 3 ci64 v3.1.2.2]), (6, .box [nI (IntKind.i64.wrap (1 + v9.1)), oL 124 c124_o z17, oL 3 ci64 z41])] := by
    intro z38 z39 z40 z41 h σ' hk
    subst h
    replace h := hr3
    try dsimp only at h
    refine hK37 _ (lh hk rfl (ls_seq_k fun K50 hK50 => rs (sp 1 rfl (?_))))
    obtain ⟨v51, g52, h⟩ := ob_some h
    refine qC (qa rfl (erg (erc rfl (erc (erD ec124_o _) (erc (erD eci64 _) rfl)))) eran) (spec_IsValidQuery_s g52) (sp 1 rfl (evn ?_))
    rcases cond_some h with ⟨g53, h⟩ | ⟨g53, h⟩
    ·exact qT rfl g53 (rn 1 rfl (ls_ret ((by cases h; exact ⟨.inl rfl, rfl, rfl⟩))))
    ·exact qF rfl g53 (ls_skip (hK50 _ (rn 1 rfl (ls_ret ((by cases h; exact ⟨.inl rfl, rfl, rfl⟩))))))
   refine ls_rec (fun (s : (List Int) × Int × Int × (List Int) × Int) => match s with | (y21, y22, y23, y24, y25) => [(0, .box [aL cu8 y21, nI y22, nI y23]), (2, .box [nI 0, oL 124 c124_o [], oL 3 ci64 []]), (4, .box [nI v3.1.1, oL 124 c124_o v3.1.2.1, oL 3 ci64 v3.1.2.2]), (6, .box [nI (IntKind.i64.wrap (1 + v9.1)), oL 124 c124_o z17, oL 3 ci64 y24]), (11, nI y25)]) _ _ _ _ hl (okr rfl) (fun _ => rfl) ?_
   rintro m ⟨y21, y22, y23, y24, y25⟩ N h hN
   unfold spec_l7Query_B3 at h
   dsimp only at h
   refine ls_seq_k fun K42 hK42 => rn 1 rfl ?_
   rcases cond_some h with ⟨g43, h⟩ | ⟨g43, h⟩
   ·refine qT rfl g43 (ls_skip (hK42 _ (ls_seq_k fun K44 hK44 => ls_blk (rs (sp 1 rfl (?_))))))
    obtain ⟨v45, g46, h⟩ := ob_some h
    refine qP rfl rfl rfl rfl (qs rfl eran) (spec_l1Once_s g46) (evn ?_)
    have kJ4 : ∀ {x47 : List Int}, spec_l7Query_J4 (loopF (spec_l7Query_B3 v9) m) y25 v45 x47 = some o3 → Jn K44 [(0, .box (c131_a v45.2)), (2, .box [nI 0, oL 124 c124_o [], oL 3 ci64 []]), (4, .box [nI v3.1.1, oL 124 c124_o v3.1.2.1, oL 3 ci64 v3.1.2.2]), (6, .box [nI (IntKind.i64.wrap (1 + v9.1)), oL 124 c124_o z17, oL 3 ci64 x47]), (11, nI y25)] := by
     intro x47 h σ' hk
     unfold spec_l7Query_J4 at h
     exact hK44 _ (lh hk rfl (rg (sp 3 rfl (evn (hN _ _ h (okr rfl))))))
    rcases cond_some h with ⟨g48, h⟩ | ⟨g48, h⟩
    ·refine qT rfl g48 (rg (sp 1 rfl (qBs ci64 [y25] rfl rfl rfl zci64 (sp 2 rfl (?_)))))
     obtain ⟨g49, h⟩ := chk_some h
     exact qA ci64 [y25] y24 rfl rfl (flat_len zci64 y24) rfl g49 (sp 2 rfl (evn (kJ4 h _ (okr rfl))))
    ·exact qF rfl g48 (ls_skip (kJ4 h _ (okr rfl)))
   ·exact qF rfl g43 (ls_exit (kXB3 (Option.some.inj h) _ (okr rfl)))
  refine ls_rec (fun (s : (List Int) × Int × Int × (List Y123) × Int) => match s with | (y6, y7, y8, y9, y10) => [(0, .box [aL cu8 y6, nI y7, nI y8]), (2, .box [nI 0, oL 124 c124_o [], oL 3 ci64 []]), (4, .box [nI v3.1.1, oL 124 c124_o v3.1.2.1, oL 3 ci64 v3.1.2.2]), (6, .box [nI (IntKind.i64.wrap (1 + v9.1)), oL 124 c124_o y9, oL 3 ci64 []]), (7, nI y10)]) _ _ _ _ hl (okr rfl) (fun _ => rfl) ?_
  rintro m ⟨y6, y7, y8, y9, y10⟩ N h hN
  unfold spec_l7Query_B1 at h
  dsimp only at h
  refine ls_seq_k fun K18 hK18 => rn 1 rfl ?_
  rcases cond_some h with ⟨g19, h⟩ | ⟨g19, h⟩
  ·refine qT rfl g19 (ls_skip (hK18 _ (ls_seq_k fun K20 hK20 => ls_blk (rs (sp 1 rfl (?_))))))
   obtain ⟨v21, g22, h⟩ := ob_some h
   refine qP rfl rfl rfl rfl (qs rfl eran) (spec_l1Below_s g22) (sp 1 rfl (evn (rs (qBk cst [[114], [115], [116], [117], [118]] 9 1 (by kernel_rfl) rfl zcst (sp 1 rfl (?_))))))
   obtain ⟨e23, g24, h⟩ := ob_some h
   refine qI rfl zcst g24 (sp 4 rfl (evn (ls_seq_k fun K25 hK25 => rn 1 rfl ?_)))
   obtain ⟨o2, hl, hr2⟩ := ob_some h
   have kXB2 : ∀ {z26 : List Int} {z27 : Int} {z28 : Int} {z29 : List Int}, (z26, z27, z28, z29) = o2 → Jn K25 [(0, .box [aL cu8 z26, nI z27, nI z28]), (2, .box [nI 0, oL 124 c124_o [], oL 3 ci64 []]), (4, .box [nI v3.1.1, oL 124 c124_o v3.1.2.1, oL 3 ci64 v3.1.2.2]), (6, .box [nI (IntKind.i64.wrap (1 + v9.1)), oL 124 c124_o y9, oL 3 ci64 []]), (7, nI y10), (9, .box [.str e23, oL 3 ci64 z29])] := by
    intro z26 z27 z28 z29 h σ' hk
    subst h
    replace h := hr2
    try dsimp only at h
    refine hK25 _ (lh hk rfl (rg (sp 3 rfl (qBs c124_o [(e23, z29)] rfl rfl rfl zc124_o (?_)))))
    obtain ⟨g36, h⟩ := chk_some h
    exact qA c124_o y9 [(e23, z29)] rfl rfl (flat_len zc124_o [(e23, z29)]) rfl g36 (sp 2 rfl (evn (hK20 _ (rg (sp 3 rfl (evn (hN _ _ h (okr rfl))))))))
   refine ls_rec (fun (s : (List Int) × Int × Int × (List Int) × Int) => match s with | (y16, y17, y18, y19, y20) => [(0, .box [aL cu8 y16, nI y17, nI y18]), (2, .box [nI 0, oL 124 c124_o [], oL 3 ci64 []]), (4, .box [nI v3.1.1, oL 124 c124_o v3.1.2.1, oL 3 ci64 v3.1.2.2]), (6, .box [nI (IntKind.i64.wrap (1 + v9.1)), oL 124 c124_o y9, oL 3 ci64 []]), (7, nI y10), (9, .box [.str e23, oL 3 ci64 y19]), (10, nI y20)]) _ _ _ _ hl (okr rfl) (fun _ => rfl) ?_
   rintro m ⟨y16, y17, y18, y19, y20⟩ N h hN
   unfold spec_l7Query_B2 at h
   dsimp only at h
   refine ls_seq_k fun K30 hK30 => rn 1 rfl ?_
   rcases cond_some h with ⟨g31, h⟩ | ⟨g31, h⟩
   ·refine qT rfl g31 (ls_skip (hK30 _ (ls_seq_k fun K32 hK32 => ls_blk (rgd (by kernel_rfl) (sd 5 rfl (?_))))))
    obtain ⟨v33, g34, h⟩ := ob_some h
    refine ed rfl (qP rfl rfl rfl rfl (qs rfl eran) (spec_l1Below_s g34) (ed rfl (qBs ci64 [v33.1] rfl rfl rfl zci64 (?_))))
    obtain ⟨g35, h⟩ := chk_some h
    exact ed rfl (qA ci64 y19 [v33.1] rfl rfl (flat_len zci64 [v33.1]) rfl g35 (sd 2 rfl (evdn (hK32 _ (rg (sp 3 rfl (evn (hN _ _ h (okr rfl)))))))))
   ·exact qF rfl g31 (ls_exit (kXB2 (Option.some.inj h) _ (okr rfl)))
  ·exact qF rfl g19 (ls_exit (kXB1 (Option.some.inj h) _ (okr rfl)))
def spec_l1PickInt (a0 : Y130) (a1 : List Int) : Option (Int × Y130) := obind (spec_l1Below a0 (List.length a1 : Int)) fun v1 => obind (geti a1 v1.1) fun e3 => some (e3, v1.2)
theorem spec_l1PickInt_s {a0 : Y130} {a1 : List Int} {r : Int × Y130} (h : spec_l1PickInt a0 a1 = some r) : PtrAt Try.prog 86 [aL cu8 a0.1, nI a0.2.1, nI a0.2.2] [dL ci64 a1] [aL cu8 r.2.1, nI r.2.2.1, nI r.2.2.2] (nI r.1) := by
 unfold spec_l1PickInt at h
 refine stp lit86 rfl (rn 1 rfl (rs (sp 4 rfl (?_))))
 obtain ⟨v1, g2, h⟩ := ob_some h
 refine qP rfl rfl rfl rfl (qs rfl eran) (spec_l1Below_s g2) (?_)
 obtain ⟨e3, g4, h⟩ := ob_some h
 exact qI rfl zci64 g4 (sp 2 rfl (evn (ls_ret ((by cases h; exact ⟨.inl rfl, rfl, rfl⟩)))))
theorem dkc124_o (x : Y123) : deepL (c124_o x) = true := (dcc rfl (dcc (dco (fun _ => rfl) 3 _) dcn))
def spec_l7Any_J1 (x6 : List Int) (x7 : Int) (x8 : Int) (x9 : Int) (x10 : List Y123) (x11 : List Int) : Option (Y61 × Y130) := some ((x9, x10, x11), (x6, x7, x8))
def spec_l7Any (a0 : Y130) : Option (Y61 × Y130) := obind (spec_l7Query a0) fun v1 => obind (spec_l1Below v1.2 14) fun v4 => cond (v4.1 == 0) (obind (spec_l1PickInt v4.2 [0, 6, IntKind.i64.wrap (v1.1.1 + 1)]) fun v13 => spec_l7Any_J1 v13.2.1 v13.2.2.1 v13.2.2.2 v13.1 v1.1.2.1 v1.1.2.2) (cond (v4.1 == 1) (obind (spec_l1Pick v4.2 ([[], [119], [114]])) fun v16 => chk (List.length v1.1.2.1 + List.length ([(v16.1, [0])]) ≤ lim) (spec_l7Any_J1 v16.2.1 v16.2.2.1 v16.2.2.2 v1.1.1 (v1.1.2.1 ++ ([(v16.1, [0])])) v1.1.2.2)) (cond (v4.1 == 2) (obind (spec_l1Below v4.2 6) fun v20 => chk (List.length v1.1.2.2 + List.length [IntKind.i64.wrap (v20.1 - 1)] ≤ lim) (spec_l7Any_J1 v20.2.1 v20.2.2.1 v20.2.2.2 v1.1.1 v1.1.2.1 (v1.1.2.2 ++ [IntKind.i64.wrap (v20.1 - 1)]))) (cond (v4.1 == 3) (chk (0 < List.length v1.1.2.1) (obind (geti v1.1.2.1 0) fun e26 => spec_l7Any_J1 v4.2.1 v4.2.2.1 v4.2.2.2 v1.1.1 (seti v1.1.2.1 0 (e26.1, [])) v1.1.2.2)) (cond (v4.1 == 4) (chk (0 < List.length v1.1.2.1) (obind (geti v1.1.2.1 0) fun e31 => chk (0 < List.length e31.2) (obind (geti v1.1.2.1 0) fun e35 => obind (spec_l1PickInt v4.2 [-1, 5]) fun v37 => obind (geti e31.2 0) fun e39 => spec_l7Any_J1 v37.2.1 v37.2.2.1 v37.2.2.2 v1.1.1 (seti v1.1.2.1 0 (e31.1, seti e31.2 0 v37.1)) v1.1.2.2))) (spec_l7Any_J1 v4.2.1 v4.2.2.1 v4.2.2.2 v1.1.1 v1.1.2.1 v1.1.2.2)))))
theorem spec_l7Any_s {a0 : Y130} {r : Y61 × Y130} (h : spec_l7Any a0 = some r) : PtrAt Try.prog 65 [aL cu8 a0.1, nI a0.2.1, nI a0.2.2] [] [aL cu8 r.2.1, nI r.2.2.1, nI r.2.2.2] (.agg (c62_ooo r.1)) := by
 unfold spec_l7Any at h
 refine stp lit65 rfl (rn 1 rfl (rs (sp 1 rfl (?_))))
 obtain ⟨v1, g2, h⟩ := ob_some h
 refine qP rfl rfl rfl rfl eran (spec_l7Query_s g2) (sp 2 rfl (evn (ls_seq_k fun K3 hK3 => rs (sp 1 rfl (?_)))))
 obtain ⟨v4, g5, h⟩ := ob_some h
 refine qP rfl rfl rfl rfl (qs rfl eran) (spec_l1Below_s g5) (evn (ls_blk (rn 1 rfl ?_)))
 have kJ1 : ∀ {x6 : List Int} {x7 : Int} {x8 : Int} {x9 : Int} {x10 : List Y123} {x11 : List Int}, spec_l7Any_J1 x6 x7 x8 x9 x10 x11 = some r → Jn K3 [(0, .box [aL cu8 x6, nI x7, nI x8]), (2, .box [nI 0, oL 124 c124_o [], oL 3 ci64 []]), (3, .box [nI x9, oL 124 c124_o x10, oL 3 ci64 x11])] := by
  intro x6 x7 x8 x9 x10 x11 h σ' hk
  unfold spec_l7Any_J1 at h
  exact hK3 _ (lh hk rfl (rn 1 rfl (ls_ret ((by cases h; exact ⟨.inl rfl, rfl, rfl⟩)))))
 rcases cond_some h with ⟨g12, h⟩ | ⟨g12, h⟩
 ·refine qT rfl g12 (rg (sp 4 rfl (qBs ci64 [0, 6, IntKind.i64.wrap (v1.1.1 + 1)] rfl rfl rfl zci64 (?_))))
  obtain ⟨v13, g14, h⟩ := ob_some h
  exact qP rfl rfl rfl rfl (qa rfl (erO eci64 _) eran) (spec_l1PickInt_s g14) (sp 2 rfl (evn (kJ1 h _ (okr rfl))))
 ·refine qF rfl g12 (rn 1 rfl ?_)
  rcases cond_some h with ⟨g15, h⟩ | ⟨g15, h⟩
  ·refine qT rfl g15 (rgd (by kernel_rfl) (sd 3 rfl (ed rfl (qBs cst [[], [119], [114]] rfl rfl rfl zcst (?_)))))
   obtain ⟨v16, g17, h⟩ := ob_some h
   refine ed rfl (qP rfl rfl rfl rfl (qa rfl (erO ecst _) eran) (spec_l1Pick_s g17) (ed rfl (qBs ci64 [0] rfl rfl rfl zci64 (sd 1 rfl (ed rfl (qBs c124_o [(v16.1, [0])] rfl rfl rfl zc124_o (?_)))))))
   obtain ⟨g18, h⟩ := chk_some h
   exact ed rfl (qA c124_o v1.1.2.1 ([(v16.1, [0])]) rfl rfl (flat_len zc124_o ([(v16.1, [0])])) rfl g18 (sd 2 rfl (evdn (kJ1 h _ (okr rfl)))))
  ·refine qF rfl g15 (rn 1 rfl ?_)
   rcases cond_some h with ⟨g19, h⟩ | ⟨g19, h⟩
   ·refine qT rfl g19 (rgd (by kernel_rfl) (sd 3 rfl (?_)))
    obtain ⟨v20, g21, h⟩ := ob_some h
    refine ed rfl (qP rfl rfl rfl rfl (qs rfl eran) (spec_l1Below_s g21) (sd 1 rfl (ed rfl (qBs ci64 [IntKind.i64.wrap (v20.1 - 1)] rfl rfl rfl zci64 (?_)))))
    obtain ⟨g22, h⟩ := chk_some h
    exact ed rfl (qA ci64 v1.1.2.2 [IntKind.i64.wrap (v20.1 - 1)] rfl rfl (flat_len zci64 [IntKind.i64.wrap (v20.1 - 1)]) rfl g22 (sd 2 rfl (evdn (kJ1 h _ (okr rfl)))))
   ·refine qF rfl g19 (rn 1 rfl (qk [0, 2, 3, 7, 39] rfl ?_))
    rcases cond_some h with ⟨g23, h⟩ | ⟨g23, h⟩
    ·refine qT rfl g23 (qk [0, 2, 3] rfl ?_)
     obtain ⟨g24, h⟩ := chk_some h
     refine ls_hg (gLb (q := 900003) (b := 3) [nI v1.1.1] [oL 3 ci64 v1.1.2.2] rfl rfl rfl g24 ?_)
     intro gg25 mm25
     refine qk [0, 2, 3, 900003] rfl (ls_gh (rg (sp 2 rfl (?_))))
     obtain ⟨e26, g27, h⟩ := ob_some h
     refine qIt rfl rfl rfl rfl g27 (sp 1 rfl (?_))
     refine qSt0 (y0 := e26) (i := 0) (es := 2) (e2 := 3) 1 (e26.1, []) [0, 2, 3] rfl rfl rfl rfl rfl rfl rfl rfl zc124_o g27 dkc124_o (yc (snc (sA (aca (fun _ => rfl) _)) (snc rfl (snc rfl rfl))) (yc (snc rfl (snc rfl (snc rfl rfl))) (yc (snc rfl (snc rfl (snc (sO (dco (fun _ => rfl) 3 _)) rfl))) yn))) (?_)
     exact evn (gDb (q := 900003) (b := 3) [nI v1.1.1] [oL 3 ci64 v1.1.2.2] rfl rfl rfl (sl rfl) (kJ1 h _ (okr rfl)))
    ·refine qF rfl g23 (rn 1 rfl ?_)
     rcases cond_some h with ⟨g28, h⟩ | ⟨g28, h⟩
     ·refine qT rfl g28 (qk [0, 2, 3] rfl ?_)
      obtain ⟨g29, h⟩ := chk_some h
      refine ls_hg (gLb (q := 900004) (b := 3) [nI v1.1.1] [oL 3 ci64 v1.1.2.2] rfl rfl rfl g29 ?_)
      intro gg30 mm30
      refine qk [0, 2, 3, 900004] rfl ?_
      obtain ⟨e31, g32, h⟩ := ob_some h
      obtain ⟨g33, h⟩ := chk_some h
      refine ls_hg (gLg (i := 0) (es := 2) 1 rfl rfl zc124_o g32 rfl rfl g33 ?_)
      intro gg34 mm34
      refine qk [0, 2, 3, 900003, 900004] rfl (ls_gh (ls_gh (rgt 8 (by kernel_rfl) (sd 2 rfl (?_)))))
      obtain ⟨e35, g36, h⟩ := ob_some h
      refine ed rfl (qIt rfl rfl rfl rfl g36 (sd 1 rfl (?_)))
      refine ed rfl (qLh rfl rfl rfl rfl rfl rfl (gk zc124_o g36 rfl) (?_))
      refine sd 1 rfl (ed rfl (qBs ci64 [-1, 5] rfl rfl rfl zci64 (?_)))
      obtain ⟨v37, g38, h⟩ := ob_some h
      refine ed rfl (qP rfl rfl rfl rfl (qa rfl (erO eci64 _) eran) (spec_l1PickInt_s g38) (evdn (gh_k ?_)))
      obtain ⟨e39, g40, h⟩ := ob_some h
      refine qIt rfl rfl rfl rfl g40 (?_)
      refine qSt (y0 := e39) (i := 0) (es := 1) 0 v37.1 [0, 2, 3, 900004] rfl rfl rfl rfl rfl rfl rfl rfl rfl rfl zci64 g40 (fun _ => rfl) (dcc rfl dcn) (yc (snc (sA (aca (fun _ => rfl) _)) (snc rfl (snc rfl rfl))) (yc (snc rfl (snc rfl (snc rfl rfl))) (yc (snc rfl (snc rfl (snc (sO (dco (fun _ => rfl) 3 _)) rfl))) (yc (sgh (dcf dkc124_o _)) yn)))) (?_)
      exact evn (gDg (i := 0) (es := 2) 1 (e31.1, seti e31.2 0 v37.1) rfl rfl zc124_o g32 rfl (sl rfl) rfl (gDb (q := 900004) (b := 3) [nI v1.1.1] [oL 3 ci64 v1.1.2.2] rfl rfl rfl (sl rfl) (kJ1 h _ (okr rfl))))
     ·exact qF rfl g28 (ls_skip (kJ1 h _ (okr rfl)))
abbrev Y114 := (List UInt8) × (List Int) × Int
def c115_d (x : Y114) : List V := [.str x.1, dL ci64 x.2.1, nI x.2.2]
theorem zc115_d (x : Y114) : (c115_d x).length = 3 := rfl
theorem ec115_d (x : Y114) : erL (c115_d x) = c115_d x := (erc rfl (erc (erD eci64 _) (erc rfl rfl)))
def c115_o (x : Y114) : List V := [.str x.1, oL 3 ci64 x.2.1, nI x.2.2]
theorem zc115_o (x : Y114) : (c115_o x).length = 3 := rfl
theorem ec115_o (x : Y114) : erL (c115_o x) = c115_d x := (erc rfl (erc (erO eci64 _) (erc rfl rfl)))
def spec_l37Fd_J1 (x10 : List Int) (x11 : Int) (x12 : Int) (x13 : List UInt8) (x14 : List Int) (x15 : Int) : Option (Y114 × Y130) := some ((x13, x14, x15), (x10, x11, x12))
def spec_l37Fd (a0 : Y130) : Option (Y114 × Y130) := obind (spec_l1Pick a0 ([[114], [115], [116], [117], [118]])) fun v1 => obind (spec_l1Below v1.2 2) fun v3 => obind (spec_l1Below v3.2 2) fun v5 => obind (spec_l1Below v5.2 12) fun v8 => cond (v8.1 == 0) (spec_l37Fd_J1 v8.2.1 v8.2.2.1 v8.2.2.2 v1.1 [0, 1] v5.1) (cond (v8.1 == 1) (obind (spec_l1PickInt v8.2 [-1, 2, 3]) fun v18 => spec_l37Fd_J1 v18.2.1 v18.2.2.1 v18.2.2.2 v1.1 [v3.1] v18.1) (cond (v8.1 == 2) (spec_l37Fd_J1 v8.2.1 v8.2.2.1 v8.2.2.2 [119] [v3.1] v5.1) (cond (v8.1 == 3) (spec_l37Fd_J1 v8.2.1 v8.2.2.1 v8.2.2.2 v1.1 ([] : List Int) v5.1) (cond (v8.1 == 4) (spec_l37Fd_J1 v8.2.1 v8.2.2.1 v8.2.2.2 v1.1 [1, 0] v5.1) (spec_l37Fd_J1 v8.2.1 v8.2.2.1 v8.2.2.2 v1.1 [v3.1] v5.1)))))
theorem spec_l37Fd_s {a0 : Y130} {r : Y114 × Y130} (h : spec_l37Fd a0 = some r) : PtrAt Try.prog 117 [aL cu8 a0.1, nI a0.2.1, nI a0.2.2] [] [aL cu8 r.2.1, nI r.2.2.1, nI r.2.2.2] (.agg (c115_o r.1)) := by
 unfold spec_l37Fd at h
 refine stp lit117 rfl (rn 1 rfl (rs (sp 1 rfl (qBk cst [[114], [115], [116], [117], [118]] 9 1 (by kernel_rfl) rfl zcst (?_)))))
 obtain ⟨v1, g2, h⟩ := ob_some h
 refine qP rfl rfl rfl rfl (qa rfl (erO ecst _) eran) (spec_l1Pick_s g2) (sp 1 rfl (?_))
 obtain ⟨v3, g4, h⟩ := ob_some h
 refine qP rfl rfl rfl rfl (qs rfl eran) (spec_l1Below_s g4) (qBs ci64 [v3.1] rfl rfl rfl zci64 (sp 1 rfl (?_)))
 obtain ⟨v5, g6, h⟩ := ob_some h
 refine qP rfl rfl rfl rfl (qs rfl eran) (spec_l1Below_s g6) (sp 3 rfl (evn (ls_seq_k fun K7 hK7 => rs (sp 1 rfl (?_)))))
 obtain ⟨v8, g9, h⟩ := ob_some h
 refine qP rfl rfl rfl rfl (qs rfl eran) (spec_l1Below_s g9) (evn (ls_blk (rn 1 rfl ?_)))
 have kJ1 : ∀ {x10 : List Int} {x11 : Int} {x12 : Int} {x13 : List UInt8} {x14 : List Int} {x15 : Int}, spec_l37Fd_J1 x10 x11 x12 x13 x14 x15 = some r → Jn K7 [(0, .box [aL cu8 x10, nI x11, nI x12]), (2, .box [.str [], oL 3 ci64 [], nI 0]), (3, .box [.str x13, oL 3 ci64 x14, nI x15])] := by
  intro x10 x11 x12 x13 x14 x15 h σ' hk
  unfold spec_l37Fd_J1 at h
  exact hK7 _ (lh hk rfl (rn 1 rfl (ls_ret ((by cases h; exact ⟨.inl rfl, rfl, rfl⟩)))))
 rcases cond_some h with ⟨g16, h⟩ | ⟨g16, h⟩
 ·exact qT rfl g16 (rg (qBs ci64 [0, 1] rfl rfl rfl zci64 (sp 2 rfl (evn (kJ1 h _ (okr rfl))))))
 ·refine qF rfl g16 (rn 1 rfl ?_)
  rcases cond_some h with ⟨g17, h⟩ | ⟨g17, h⟩
  ·refine qT rfl g17 (rg (sp 1 rfl (qBs ci64 [-1, 2, 3] rfl rfl rfl zci64 (?_))))
   obtain ⟨v18, g19, h⟩ := ob_some h
   exact qP rfl rfl rfl rfl (qa rfl (erO eci64 _) eran) (spec_l1PickInt_s g19) (sp 2 rfl (evn (kJ1 h _ (okr rfl))))
  ·refine qF rfl g17 (rn 1 rfl ?_)
   rcases cond_some h with ⟨g20, h⟩ | ⟨g20, h⟩
   ·exact qT rfl g20 (rg (sp 2 rfl (evn (kJ1 h _ (okr rfl)))))
   ·refine qF rfl g20 (rn 1 rfl (qk [0, 2, 3, 14, 28] rfl ?_))
    rcases cond_some h with ⟨g21, h⟩ | ⟨g21, h⟩
    ·exact qT rfl g21 (rg (qBs ci64 [] rfl rfl rfl zci64 (sp 2 rfl (evn (kJ1 h _ (okr rfl))))))
    ·refine qF rfl g21 (rn 1 rfl ?_)
     rcases cond_some h with ⟨g22, h⟩ | ⟨g22, h⟩
     ·exact qT rfl g22 (rg (qBs ci64 [1, 0] rfl rfl rfl zci64 (sp 2 rfl (evn (kJ1 h _ (okr rfl))))))
     ·exact qF rfl g22 (ls_skip (kJ1 h _ (okr rfl)))
def spec_l37Fds_B1  (rec : ((List Int) × Int × Int × (List Y114) × Int) → Option ((List Int) × Int × Int × (List Y114))) (s : (List Int) × Int × Int × (List Y114) × Int) : Option ((List Int) × Int × Int × (List Y114)) := match s with
  | (y1, y2, y3, y4, y5) => cond (decide (0 < y5)) (obind (spec_l37Fd (y1, y2, y3)) fun v11 => chk (List.length y4 + List.length [v11.1] ≤ lim) (rec (v11.2.1, v11.2.2.1, v11.2.2.2, (y4 ++ [v11.1]), (IntKind.i64.wrap (y5 - 1))))) (some (y1, y2, y3, y4))
def spec_l37Fds (a0 : Y130) : Option ((List Y114) × Y130) := obind (spec_l1Below a0 4) fun v2 => obind (loopF spec_l37Fds_B1 fz (v2.2.1, v2.2.2.1, v2.2.2.2, ([] : List Y114), v2.1)) fun o1 => (match o1 with
  | (z4, z5, z6, z7) => (some (z7, (z4, z5, z6))))
theorem spec_l37Fds_s {a0 : Y130} {r : (List Y114) × Y130} (h : spec_l37Fds a0 = some r) : PtrAt Try.prog 66 [aL cu8 a0.1, nI a0.2.1, nI a0.2.2] [] [aL cu8 r.2.1, nI r.2.2.1, nI r.2.2.2] (oL 115 c115_o r.1) := by
 unfold spec_l37Fds at h
 refine stp lit66 rfl (rn 1 rfl (rs (qBs c115_o [] rfl rfl rfl zc115_o (sp 1 rfl (evn (ls_seq_k fun K1 hK1 => rs (sp 1 rfl (?_))))))))
 obtain ⟨v2, g3, h⟩ := ob_some h
 refine qP rfl rfl rfl rfl (qs rfl eran) (spec_l1Below_s g3) (sp 1 rfl (evn ?_))
 obtain ⟨o1, hl, hr1⟩ := ob_some h
 have kXB1 : ∀ {z4 : List Int} {z5 : Int} {z6 : Int} {z7 : List Y114}, (z4, z5, z6, z7) = o1 → Jn K1 [(0, .box [aL cu8 z4, nI z5, nI z6]), (3, oL 115 c115_o z7)] := by
  intro z4 z5 z6 z7 h σ' hk
  subst h
  replace h := hr1
  try dsimp only at h
  exact hK1 _ (lh hk rfl (rn 1 rfl (ls_ret ((by cases h; exact ⟨.inl rfl, rfl, rfl⟩)))))
 refine ls_rec (fun (s : (List Int) × Int × Int × (List Y114) × Int) => match s with | (y1, y2, y3, y4, y5) => [(0, .box [aL cu8 y1, nI y2, nI y3]), (3, oL 115 c115_o y4), (4, nI y5)]) _ _ _ _ hl (okr rfl) (fun _ => rfl) ?_
 rintro m ⟨y1, y2, y3, y4, y5⟩ N h hN
 unfold spec_l37Fds_B1 at h
 dsimp only at h
 refine ls_seq_k fun K8 hK8 => rn 1 rfl ?_
 rcases cond_some h with ⟨g9, h⟩ | ⟨g9, h⟩
 ·refine qT rfl g9 (ls_skip (hK8 _ (ls_seq_k fun K10 hK10 => ls_blk (rg (sp 2 rfl (?_))))))
  obtain ⟨v11, g12, h⟩ := ob_some h
  refine qP rfl rfl rfl rfl eran (spec_l37Fd_s g12) (qBs c115_o [v11.1] rfl rfl rfl zc115_o (?_))
  obtain ⟨g13, h⟩ := chk_some h
  exact qA c115_o y4 [v11.1] rfl rfl (flat_len zc115_o [v11.1]) rfl g13 (sp 1 rfl (evn (hK10 _ (rg (sp 3 rfl (evn (hN _ _ h (okr rfl))))))))
 ·exact qF rfl g9 (ls_exit (kXB1 (Option.some.inj h) _ (okr rfl)))
def spec_l4Row_B1 (a1 : Int) (a2 : Int) (rec : ((List Int) × Int × Int × (List Int)) → Option ((List Int) × Int × Int × (List Int))) (s : (List Int) × Int × Int × (List Int)) : Option ((List Int) × Int × Int × (List Int)) := match s with
  | (y1, y2, y3, y4) => cond (decide ((List.length y4 : Int) < a1)) (obind (spec_l1Below (y1, y2, y3) a2) fun v8 => chk (List.length y4 + List.length [v8.1] ≤ lim) (rec (v8.2.1, v8.2.2.1, v8.2.2.2, (y4 ++ [v8.1])))) (some (y1, y2, y3, y4))
def spec_l4Row (a0 : Y130) (a1 : Int) (a2 : Int) : Option ((List Int) × Y130) := obind (loopF (spec_l4Row_B1 a1 a2) fz (a0.1, a0.2.1, a0.2.2, ([] : List Int))) fun o1 => (match o1 with
  | (z2, z3, z4, z5) => (some (z5, (z2, z3, z4))))
theorem spec_l4Row_s {a0 : Y130} {a1 : Int} {a2 : Int} {r : (List Int) × Y130} (h : spec_l4Row a0 a1 a2 = some r) : PtrAt Try.prog 67 [aL cu8 a0.1, nI a0.2.1, nI a0.2.2] [nI a1, nI a2] [aL cu8 r.2.1, nI r.2.2.1, nI r.2.2.2] (oL 3 ci64 r.1) := by
 unfold spec_l4Row at h
 refine stp lit67 rfl (rn 1 rfl (rs (qBs ci64 [] rfl rfl rfl zci64 (sp 1 rfl (evn (ls_seq_k fun K1 hK1 => ?_))))))
 obtain ⟨o1, hl, hr1⟩ := ob_some h
 have kXB1 : ∀ {z2 : List Int} {z3 : Int} {z4 : Int} {z5 : List Int}, (z2, z3, z4, z5) = o1 → Jn K1 [(0, .box [aL cu8 z2, nI z3, nI z4]), (7, oL 3 ci64 z5)] := by
  intro z2 z3 z4 z5 h σ' hk
  subst h
  replace h := hr1
  try dsimp only at h
  exact hK1 _ (lh hk rfl (rn 1 rfl (ls_ret ((by cases h; exact ⟨.inl rfl, rfl, rfl⟩)))))
 refine ls_rec (fun (s : (List Int) × Int × Int × (List Int)) => match s with | (y1, y2, y3, y4) => [(0, .box [aL cu8 y1, nI y2, nI y3]), (1, nI a1), (2, nI a2), (7, oL 3 ci64 y4)]) _ _ _ _ hl (okr rfl) (fun _ => rfl) ?_
 rintro m ⟨y1, y2, y3, y4⟩ N h hN
 unfold spec_l4Row_B1 at h
 dsimp only at h
 refine ls_seq_k fun K6 hK6 => rn 1 rfl ?_
 rcases cond_some h with ⟨g7, h⟩ | ⟨g7, h⟩
 ·refine qT rfl g7 (ls_skip (hK6 _ (ls_blk (rg (sp 3 rfl (?_))))))
  obtain ⟨v8, g9, h⟩ := ob_some h
  refine qP rfl rfl rfl rfl (qs rfl eran) (spec_l1Below_s g9) (qBs ci64 [v8.1] rfl rfl rfl zci64 (?_))
  obtain ⟨g10, h⟩ := chk_some h
  exact qA ci64 y4 [v8.1] rfl rfl (flat_len zci64 [v8.1]) rfl g10 (sp 1 rfl (evn (hN _ _ h (okr rfl))))
 ·exact qF rfl g7 (ls_exit (kXB1 (Option.some.inj h) _ (okr rfl)))
def spec_DrawFDClosure (a0 : List Int) : Option (Y61 × (List Y114) × (List Int)) := obind (spec_l1New a0) fun v1 => obind (spec_l7Any v1) fun v3 => obind (spec_l37Fds v3.2) fun v5 => obind (spec_l1Below v5.2 3) fun v7 => obind (spec_l4Row v7.2 v7.1 6) fun v9 => some (v3.1, v5.1, v9.1)
theorem spec_DrawFDClosure_s {a0 : List Int} {r : Y61 × (List Y114) × (List Int)} (h : spec_DrawFDClosure a0 = some r) : SoundAt Try.prog 27 [aL cu8 a0] (.tup [.agg (c62_ooo r.1), oL 115 c115_o r.2.1, oL 3 ci64 r.2.2]) := by
 unfold spec_DrawFDClosure at h
 refine st lit27 rfl (rn 1 rfl (rs (sp 1 rfl (?_))))
 obtain ⟨v1, g2, h⟩ := ob_some h
 refine qN rfl rfl rfl rfl (spec_l1New_s g2) (sp 1 rfl (evn (rs (sp 1 rfl (?_)))))
 obtain ⟨v3, g4, h⟩ := ob_some h
 refine qP rfl rfl rfl rfl eran (spec_l7Any_s g4) (sp 2 rfl (evn (rd (by kernel_rfl) (sd 2 rfl (?_)))))
 obtain ⟨v5, g6, h⟩ := ob_some h
 refine ed rfl (qP rfl rfl rfl rfl eran (spec_l37Fds_s g6) (sd 2 rfl (?_)))
 obtain ⟨v7, g8, h⟩ := ob_some h
 refine ed rfl (qP rfl rfl rfl rfl (qs rfl eran) (spec_l1Below_s g8) (?_))
 obtain ⟨v9, g10, h⟩ := ob_some h
 exact ed rfl (qP rfl rfl rfl rfl (qs rfl (qs rfl eran)) (spec_l4Row_s g10) (sd 3 rfl (evdn (ls_ret ((by cases h; exact ⟨.inl rfl, rfl⟩))))))
def impl_within_J1 (x2 : Bool) : Option (Bool) := some x2
def impl_within (a0 : Int) (a1 : Int) (a2 : Int) : Option (Bool) := cond (decide (a1 ≤ a0)) (impl_within_J1 (decide (a0 ≤ a2))) (impl_within_J1 false)
theorem impl_within_s {a0 : Int} {a1 : Int} {a2 : Int} {r : Bool} (h : impl_within a0 a1 a2 = some r) : SoundAt Try.prog 44 [nI a0, nI a1, nI a2] (.bool r) := by
 unfold impl_within at h
 refine st lit44 rfl (rn 1 rfl (rk fun K1 hK1 => ?_))
 have kJ1 : ∀ {x2 : Bool}, impl_within_J1 x2 = some r → Jn K1 [(6, .bool x2)] := by
  intro x2 h σ' hk
  unfold impl_within_J1 at h
  exact hK1 _ (lh hk rfl (ls_ret ((by cases h; exact ⟨.inl rfl, rfl⟩))))
 refine sp 4 rfl (?_)
 rcases cond_some h with ⟨g3, h⟩ | ⟨g3, h⟩
 ·exact qg 10 g3 rfl (sp 5 rfl (evn (kJ1 h _ (okr rfl))))
 ·exact qg 10 g3 rfl (sp 5 rfl (evn (kJ1 h _ (okr rfl))))
def impl_indexOf_B1 (a0 : List Int) (a1 : Int) (rec : Int → Option (Sum (Unit) (Int))) (y1 : Int) : Option (Sum (Unit) (Int)) := cond (decide (y1 < (List.length a0 : Int))) (obind (geti a0 y1) fun e5 => cond (e5 == a1) (some (.inr y1)) (rec (IntKind.i64.wrap (y1 + 1)))) (some (.inl ()))
def impl_indexOf (a0 : List Int) (a1 : Int) : Option (Int) := obind (loopF (impl_indexOf_B1 a0 a1) fz 0) fun o1 => (match o1 with
  | .inl _ => (some (-1))
  | .inr r => some r)
theorem impl_indexOf_s {a0 : List Int} {a1 : Int} {r : Int} (h : impl_indexOf a0 a1 = some r) : SoundAt Try.prog 156 [dL ci64 a0, nI a1] (nI r) := by
 unfold impl_indexOf at h
 refine st lit156 rfl (rn 1 rfl (ls_seq_k fun K1 hK1 => rn 1 rfl ?_))
 obtain ⟨o1, hl, hr1⟩ := ob_some h
 have kXB1 : (.inl ()) = o1 → Jn K1 [] := by
  intro h σ' hk
  subst h
  replace h := hr1
  try dsimp only at h
  exact hK1 _ (lh hk rfl (rn 1 rfl (ls_ret ((by cases h; exact ⟨.inl rfl, rfl⟩)))))
 refine ls_rec (fun (y1 : Int) => [(1, nI a1), (7, dL ci64 a0), (8, nI (List.length a0 : Int)), (9, nI y1)]) _ _ _ _ hl (okr rfl) (fun _ => rfl) ?_
 rintro m y1 N h hN
 unfold impl_indexOf_B1 at h
 refine rn 1 rfl (ls_seq_k fun K2 hK2 => ?_)
 rcases cond_some h with ⟨g3, h⟩ | ⟨g3, h⟩
 ·refine qT rfl g3 (ls_skip (hK2 _ (ls_seq_k fun K4 hK4 => ls_blk (rs (sp 1 rfl (?_))))))
  obtain ⟨e5, g6, h⟩ := ob_some h
  refine qI rfl zci64 g6 (sp 3 rfl (evn (rn 1 rfl ?_)))
  rcases cond_some h with ⟨g7, h⟩ | ⟨g7, h⟩
  ·exact qT rfl g7 (rn 1 rfl (ls_ret ((by cases h; cases hr1; exact ⟨.inl rfl, rfl⟩))))
  ·exact qF rfl g7 (ls_skip (hK4 _ (rg (sp 2 rfl (evn (hN _ _ h (okr rfl)))))))
 ·exact qF rfl g3 (ls_exit (kXB1 (Option.some.inj h) _ trivial))
def impl_hasInt (a0 : List Int) (a1 : Int) : Option (Bool) := obind (impl_indexOf a0 a1) fun v1 => some (decide (0 ≤ v1))
theorem impl_hasInt_s {a0 : List Int} {a1 : Int} {r : Bool} (h : impl_hasInt a0 a1 = some r) : SoundAt Try.prog 148 [dL ci64 a0, nI a1] (.bool r) := by
 unfold impl_hasInt at h
 refine st lit148 rfl (rn 1 rfl (rs (sp 2 rfl (?_))))
 obtain ⟨v1, g2, h⟩ := ob_some h
 exact qC (qa rfl (erD eci64 _) (qs rfl eran)) (impl_indexOf_s g2) (sp 2 rfl (evn (ls_ret ((by cases h; exact ⟨.inl rfl, rfl⟩)))))
def impl_isSetOf_B1 (a0 : List Int) (a1 : Int) (rec : Int → Option (Sum (Unit) (Bool))) (y1 : Int) : Option (Sum (Unit) (Bool)) := cond (decide (y1 < (List.length a0 : Int))) (obind (geti a0 y1) fun e5 => obind (impl_within e5 0 (IntKind.i64.wrap (a1 - 1))) fun v7 => cond (!v7) (some (.inr false)) (chk ((0 : Int) ≤ 0 ∧ 0 ≤ y1 ∧ y1 ≤ (List.length a0 : Int)) (obind (impl_hasInt (subl a0 0 y1) e5) fun v11 => cond v11 (some (.inr false)) (rec (IntKind.i64.wrap (y1 + 1)))))) (some (.inl ()))
def impl_isSetOf (a0 : List Int) (a1 : Int) : Option (Bool) := obind (loopF (impl_isSetOf_B1 a0 a1) fz 0) fun o1 => (match o1 with
  | .inl _ => (some true)
  | .inr r => some r)
theorem impl_isSetOf_s {a0 : List Int} {a1 : Int} {r : Bool} (h : impl_isSetOf a0 a1 = some r) : SoundAt Try.prog 119 [dL ci64 a0, nI a1] (.bool r) := by
 unfold impl_isSetOf at h
 refine st lit119 rfl (rn 1 rfl (ls_seq_k fun K1 hK1 => rn 1 rfl ?_))
 obtain ⟨o1, hl, hr1⟩ := ob_some h
 have kXB1 : (.inl ()) = o1 → Jn K1 [] := by
  intro h σ' hk
  subst h
  replace h := hr1
  try dsimp only at h
  exact hK1 _ (lh hk rfl (rn 1 rfl (ls_ret ((by cases h; exact ⟨.inl rfl, rfl⟩)))))
 refine ls_rec (fun (y1 : Int) => [(0, dL ci64 a0), (1, nI a1), (7, dL ci64 a0), (8, nI (List.length a0 : Int)), (9, nI y1)]) _ _ _ _ hl (okr rfl) (fun _ => rfl) ?_
 rintro m y1 N h hN
 unfold impl_isSetOf_B1 at h
 refine rn 1 rfl (ls_seq_k fun K2 hK2 => ?_)
 rcases cond_some h with ⟨g3, h⟩ | ⟨g3, h⟩
 ·refine qT rfl g3 (ls_skip (hK2 _ (ls_seq_k fun K4 hK4 => ls_blk (rs (sp 1 rfl (?_))))))
  obtain ⟨e5, g6, h⟩ := ob_some h
  refine qI rfl zci64 g6 (sp 3 rfl (evn (rs (sp 3 rfl (?_)))))
  obtain ⟨v7, g8, h⟩ := ob_some h
  refine qC (qs rfl (qs rfl (qs rfl eran))) (impl_within_s g8) (sp 2 rfl (?_))
  rcases cond_some h with ⟨g9, h⟩ | ⟨g9, h⟩
  ·exact qg 19 g9 rfl (sp 6 rfl (evn (qT rfl rfl (rn 1 rfl (ls_ret ((by cases h; cases hr1; exact ⟨.inl rfl, rfl⟩)))))))
  ·refine qg 19 g9 rfl (sp 2 rfl (?_))
   obtain ⟨g10, h⟩ := chk_some h
   refine oGR rfl rfl (qSl rfl zci64 g10 (sp 1 rfl (?_)))
   obtain ⟨v11, g12, h⟩ := ob_some h
   refine oGR rfl rfl (qC (qa rfl (erD eci64 _) (qs rfl eran)) (impl_hasInt_s g12) (sp 1 rfl (evn (qk [0, 1, 7, 8, 9, 25] rfl ?_))))
   rcases cond_some h with ⟨g13, h⟩ | ⟨g13, h⟩
   ·exact qT rfl g13 (rn 1 rfl (ls_ret ((by cases h; cases hr1; exact ⟨.inl rfl, rfl⟩))))
   ·exact qF rfl g13 (ls_skip (hK4 _ (rg (sp 2 rfl (evn (hN _ _ h (okr rfl)))))))
 ·exact qF rfl g3 (ls_exit (kXB1 (Option.some.inj h) _ trivial))
def impl_isLetters_B1 (a0 : List UInt8) (rec : Int → Option (Sum (Unit) (Bool))) (y1 : Int) : Option (Sum (Unit) (Bool)) := cond (decide (y1 < (List.length a0 : Int))) (obind (geti a0 y1) fun b8 => cond (decide ((UInt8.toNat b8 : Int) < 97)) (some (.inr false)) (obind (geti a0 y1) fun b11 => cond (decide (122 < (UInt8.toNat b11 : Int))) (some (.inr false)) (rec (IntKind.i64.wrap (y1 + 1))))) (some (.inl ()))
def impl_isLetters (a0 : List UInt8) (a1 : Int) : Option (Bool) := cond (decide ((List.length a0 : Int) < 1)) (some false) (cond (decide (a1 < (List.length a0 : Int))) (some false) (obind (loopF (impl_isLetters_B1 a0) fz 0) fun o1 => (match o1 with
  | .inl _ => (some true)
  | .inr r => some r)))
theorem impl_isLetters_s {a0 : List UInt8} {a1 : Int} {r : Bool} (h : impl_isLetters a0 a1 = some r) : SoundAt Try.prog 149 [.str a0, nI a1] (.bool r) := by
 unfold impl_isLetters at h
 refine st lit149 rfl (rn 1 rfl (ls_seq_k fun K1 hK1 => rs (sp 4 rfl (?_))))
 rcases cond_some h with ⟨g2, h⟩ | ⟨g2, h⟩
 ·exact qg 9 g2 rfl (sp 5 rfl (evn (qT rfl rfl (rn 1 rfl (ls_ret ((by cases h; exact ⟨.inl rfl, rfl⟩)))))))
 ·refine qg 9 g2 rfl (sp 5 rfl (evn ?_))
  rcases cond_some h with ⟨g3, h⟩ | ⟨g3, h⟩
  ·exact qT rfl g3 (rn 1 rfl (ls_ret ((by cases h; exact ⟨.inl rfl, rfl⟩))))
  ·refine qF rfl g3 (ls_skip (hK1 _ (ls_seq_k fun K4 hK4 => rn 1 rfl (qk [0, 5] rfl ?_))))
   obtain ⟨o1, hl, hr1⟩ := ob_some h
   have kXB1 : (.inl ()) = o1 → Jn K4 [] := by
    intro h σ' hk
    subst h
    replace h := hr1
    try dsimp only at h
    exact hK4 _ (lh hk rfl (rn 1 rfl (ls_ret ((by cases h; exact ⟨.inl rfl, rfl⟩)))))
   refine ls_rec (fun (y1 : Int) => [(0, .str a0), (5, nI y1)]) _ _ _ _ hl (okr rfl) (fun _ => rfl) ?_
   rintro m y1 N h hN
   unfold impl_isLetters_B1 at h
   refine ls_seq_k fun K5 hK5 => rn 1 rfl ?_
   rcases cond_some h with ⟨g6, h⟩ | ⟨g6, h⟩
   ·refine qT rfl g6 (ls_skip (hK5 _ (ls_seq_k fun K7 hK7 => ls_blk (rs (sp 2 rfl (?_))))))
    obtain ⟨b8, g9, h⟩ := ob_some h
    refine qX rfl g9 (sp 2 rfl (?_))
    rcases cond_some h with ⟨g10, h⟩ | ⟨g10, h⟩
    ·exact qg 25 g10 rfl (sp 5 rfl (evn (qT rfl rfl (rn 1 rfl (ls_ret ((by cases h; cases hr1; exact ⟨.inl rfl, rfl⟩)))))))
    ·refine qg 25 g10 rfl (sp 2 rfl (?_))
     obtain ⟨b11, g12, h⟩ := ob_some h
     refine oGR rfl rfl (qX rfl g12 (sp 2 rfl (evn ?_)))
     rcases cond_some h with ⟨g13, h⟩ | ⟨g13, h⟩
     ·exact qT rfl g13 (rn 1 rfl (qk [4] rfl (ls_ret ((by cases h; cases hr1; exact ⟨.inl rfl, rfl⟩)))))
     ·exact qF rfl g13 (ls_skip (hK7 _ (rg (sp 3 rfl (evn (hN _ _ h (okr rfl)))))))
   ·exact qF rfl g6 (ls_exit (kXB1 (Option.some.inj h) _ trivial))
def impl_IsValidName (a0 : List UInt8) : Option (Bool) := obind (impl_isLetters a0 4) fun v1 => some v1
theorem impl_IsValidName_s {a0 : List UInt8} {r : Bool} (h : impl_IsValidName a0 = some r) : SoundAt Try.prog 120 [.str a0] (.bool r) := by
 unfold impl_IsValidName at h
 refine st lit120 rfl (rn 1 rfl (rs (sp 1 rfl (?_))))
 obtain ⟨v1, g2, h⟩ := ob_some h
 exact qC (qs rfl (qs rfl eran)) (impl_isLetters_s g2) (sp 1 rfl (evn (ls_ret ((by cases h; exact ⟨.inl rfl, rfl⟩)))))
def impl_IsValidQuery_B2 (a0 : Y61) (e17 : Y123) (rec : ((List Bool) × Int) → Option (Sum ((List Bool)) (Bool))) (s : (List Bool) × Int) : Option (Sum ((List Bool)) (Bool)) := match s with
  | (y7, y8) => cond (decide (y8 < (List.length e17.2 : Int))) (obind (geti e17.2 y8) fun e30 => obind (impl_within e30 0 (IntKind.i64.wrap (a0.1 - 1))) fun v33 => cond (!v33) (some (.inr false)) (obind (geti y7 e30) fun e36 => rec ((seti y7 e30 true), (IntKind.i64.wrap (y8 + 1))))) (some (.inl y7))
def impl_IsValidQuery_B1 (a0 : Y61) (rec : ((List Bool) × Int) → Option (Sum ((List Bool)) (Bool))) (s : (List Bool) × Int) : Option (Sum ((List Bool)) (Bool)) := match s with
  | (y3, y4) => cond (decide (y4 < (List.length a0.2.1 : Int))) (obind (geti a0.2.1 y4) fun e17 => obind (impl_IsValidName e17.1) fun v20 => cond (!v20) (some (.inr false)) (obind (impl_within (List.length e17.2 : Int) 1 5) fun v23 => cond (!v23) (some (.inr false)) (obind (loopF (impl_IsValidQuery_B2 a0 e17) fz (y3, 0)) fun o2 => (match o2 with
  | .inl z26 => (rec (z26, (IntKind.i64.wrap (y4 + 1))))
  | .inr r => some (.inr r))))) (some (.inl y3))
def impl_IsValidQuery_B3 (z13 : List Bool) (rec : Int → Option (Sum (Unit) (Bool))) (y9 : Int) : Option (Sum (Unit) (Bool)) := cond (decide (y9 < (List.length z13 : Int))) (obind (geti z13 y9) fun e42 => cond (!e42) (some (.inr false)) (rec (IntKind.i64.wrap (y9 + 1)))) (some (.inl ()))
def impl_IsValidQuery (a0 : Y61) : Option (Bool) := obind (impl_within a0.1 1 5) fun v2 => cond (!v2) (some false) (obind (impl_within (List.length a0.2.1 : Int) 1 4) fun v5 => cond (!v5) (some false) (obind (impl_isSetOf a0.2.2 a0.1) fun v8 => cond (!v8) (some false) (chk ((0 : Int) ≤ a0.1 ∧ Int.toNat a0.1 ≤ lim) (obind (loopF (impl_IsValidQuery_B1 a0) fz ((List.replicate (Int.toNat a0.1) (false : Bool)), 0)) fun o1 => (match o1 with
  | .inl z13 => (obind (loopF (impl_IsValidQuery_B3 z13) fz 0) fun o3 => (match o3 with
  | .inl _ => (some true)
  | .inr r => some r))
  | .inr r => some r)))))
theorem impl_IsValidQuery_s {a0 : Y61} {r : Bool} (h : impl_IsValidQuery a0 = some r) : SoundAt Try.prog 69 [.agg (c62_ddd a0)] (.bool r) := by
 unfold impl_IsValidQuery at h
 refine st lit69 rfl (rn 2 rfl (ls_seq_k fun K1 hK1 => rs (sp 1 rfl (?_))))
 obtain ⟨v2, g3, h⟩ := ob_some h
 refine qC (qs rfl (qs rfl (qs rfl eran))) (impl_within_s g3) (sp 2 rfl (?_))
 rcases cond_some h with ⟨g4, h⟩ | ⟨g4, h⟩
 ·exact qg 16 g4 rfl (sp 13 rfl (evn (qT rfl rfl (rn 1 rfl (ls_ret ((by cases h; exact ⟨.inl rfl, rfl⟩)))))))
 ·refine qg 16 g4 rfl (sp 3 rfl (?_))
  obtain ⟨v5, g6, h⟩ := ob_some h
  refine oGR rfl rfl (qC (qs rfl (qs rfl (qs rfl eran))) (impl_within_s g6) (sp 3 rfl (?_)))
  rcases cond_some h with ⟨g7, h⟩ | ⟨g7, h⟩
  ·exact qg 23 g7 rfl (sp 6 rfl (evn (qk [1, 3, 29] rfl (qT rfl rfl (rn 1 rfl (ls_ret ((by cases h; exact ⟨.inl rfl, rfl⟩))))))))
  ·refine qg 23 g7 rfl (sp 3 rfl (?_))
   obtain ⟨v8, g9, h⟩ := ob_some h
   refine oGR rfl rfl (qC (qa rfl (erD eci64 _) (qs rfl eran)) (impl_isSetOf_s g9) (sp 2 rfl (evn ?_)))
   rcases cond_some h with ⟨g10, h⟩ | ⟨g10, h⟩
   ·exact qT rfl g10 (rn 1 rfl (ls_ret ((by cases h; exact ⟨.inl rfl, rfl⟩))))
   ·refine qF rfl g10 (ls_skip (hK1 _ (rs (sp 1 rfl (?_)))))
    obtain ⟨g11, h⟩ := chk_some h
    refine qMu cbl (false : Bool) rfl rfl rfl rfl g11 rfl (qAu rfl rfl rfl rfl (evn (ls_seq_k fun K12 hK12 => rn 1 rfl ?_)))
    obtain ⟨o1, hl, hr1⟩ := ob_some h
    have kXB1 : ∀ {z13 : List Bool}, (.inl z13) = o1 → Jn K12 [(4, wL 4 cbl z13)] := by
     intro z13 h σ' hk
     subst h
     replace h := hr1
     try dsimp only at h
     refine hK12 _ (lh hk rfl (ls_seq_k fun K38 hK38 => rn 1 rfl ?_))
     obtain ⟨o3, hl, hr3⟩ := ob_some h
     have kXB3 : (.inl ()) = o3 → Jn K38 [] := by
      intro h σ' hk
      subst h
      replace h := hr3
      try dsimp only at h
      exact hK38 _ (lh hk rfl (rn 1 rfl (ls_ret ((by cases h; exact ⟨.inl rfl, rfl⟩)))))
     refine ls_rec (fun (y9 : Int) => [(4, wL 4 cbl z13), (67, .same 4), (68, nI (List.length z13 : Int)), (69, nI y9)]) _ _ _ _ hl (okr rfl) (fun _ => rfl) ?_
     rintro m y9 N h hN
     unfold impl_IsValidQuery_B3 at h
     refine rn 1 rfl (ls_seq_k fun K39 hK39 => ?_)
     rcases cond_some h with ⟨g40, h⟩ | ⟨g40, h⟩
     ·refine qT rfl g40 (ls_skip (hK39 _ (ls_seq_k fun K41 hK41 => ls_blk (rs ?_))))
      obtain ⟨e42, g43, h⟩ := ob_some h
      refine qIu rfl ⟨(geti_some g43).1, (geti_some g43).2.1⟩ (qLu 0 rfl rfl rfl zcbl g43 rfl rfl rfl (sp 1 rfl (evn (rn 1 rfl ?_))))
      rcases cond_some h with ⟨g44, h⟩ | ⟨g44, h⟩
      ·exact qT rfl g44 (rn 1 rfl (ls_ret ((by cases h; cases hr3; exact ⟨.inl rfl, rfl⟩))))
      ·exact qF rfl g44 (ls_skip (hK41 _ (rg (sp 2 rfl (evn (hN _ _ h (okr rfl)))))))
     ·exact qF rfl g40 (ls_exit (kXB3 (Option.some.inj h) _ trivial))
    refine ls_rec (fun (s : (List Bool) × Int) => match s with | (y3, y4) => [(3, nI a0.1), (4, wL 4 cbl y3), (33, dL c124_d a0.2.1), (34, nI (List.length a0.2.1 : Int)), (35, nI y4)]) _ _ _ _ hl (okr rfl) (fun _ => rfl) ?_
    rintro m ⟨y3, y4⟩ N h hN
    unfold impl_IsValidQuery_B1 at h
    dsimp only at h
    refine rn 1 rfl (ls_seq_k fun K14 hK14 => ?_)
    rcases cond_some h with ⟨g15, h⟩ | ⟨g15, h⟩
    ·refine qT rfl g15 (ls_skip (hK14 _ (ls_seq_k fun K16 hK16 => ls_blk (rs ?_))))
     obtain ⟨e17, g18, h⟩ := ob_some h
     refine qI rfl zc124_d g18 (sp 3 rfl (evn (ls_seq_k fun K19 hK19 => rs (sp 2 rfl (?_)))))
     obtain ⟨v20, g21, h⟩ := ob_some h
     refine qC (qs rfl eran) (impl_IsValidName_s g21) (sp 2 rfl (?_))
     rcases cond_some h with ⟨g22, h⟩ | ⟨g22, h⟩
     ·exact qg 43 g22 rfl (sp 6 rfl (evn (qT rfl rfl (rn 1 rfl (ls_ret ((by cases h; cases hr1; exact ⟨.inl rfl, rfl⟩)))))))
     ·refine qg 43 g22 rfl (sp 3 rfl (?_))
      obtain ⟨v23, g24, h⟩ := ob_some h
      refine oGR rfl rfl (qC (qs rfl (qs rfl (qs rfl eran))) (impl_within_s g24) (sp 2 rfl (evn (qk [3, 4, 6, 33, 34, 35, 49] rfl ?_))))
      rcases cond_some h with ⟨g25, h⟩ | ⟨g25, h⟩
      ·exact qT rfl g25 (rn 1 rfl (ls_ret ((by cases h; cases hr1; exact ⟨.inl rfl, rfl⟩))))
      ·refine qF rfl g25 (ls_skip (hK19 _ (rn 1 rfl ?_)))
       obtain ⟨o2, hl, hr2⟩ := ob_some h
       have kXB2 : ∀ {z26 : List Bool}, (.inl z26) = o2 → Jn K16 [(3, nI a0.1), (4, wL 4 cbl z26), (33, dL c124_d a0.2.1), (34, nI (List.length a0.2.1 : Int)), (35, nI y4)] := by
        intro z26 h σ' hk
        subst h
        replace h := hr2
        try dsimp only at h
        exact hK16 _ (lh hk rfl (rg (sp 2 rfl (evn (hN _ _ h (okr rfl))))))
       refine ls_rec (fun (s : (List Bool) × Int) => match s with | (y7, y8) => [(3, nI a0.1), (4, wL 4 cbl y7), (33, dL c124_d a0.2.1), (34, nI (List.length a0.2.1 : Int)), (35, nI y4), (51, dL ci64 e17.2), (52, nI (List.length e17.2 : Int)), (53, nI y8)]) _ _ _ _ hl (okr rfl) (fun _ => rfl) ?_
       rintro m ⟨y7, y8⟩ N h hN
       unfold impl_IsValidQuery_B2 at h
       dsimp only at h
       refine rn 1 rfl (ls_seq_k fun K27 hK27 => ?_)
       rcases cond_some h with ⟨g28, h⟩ | ⟨g28, h⟩
       ·refine qT rfl g28 (ls_skip (hK27 _ (ls_seq_k fun K29 hK29 => ls_blk (rs ?_))))
        obtain ⟨e30, g31, h⟩ := ob_some h
        refine qI rfl zci64 g31 (sp 2 rfl (evn (ls_seq_k fun K32 hK32 => rs (sp 3 rfl (?_)))))
        obtain ⟨v33, g34, h⟩ := ob_some h
        refine qC (qs rfl (qs rfl (qs rfl eran))) (impl_within_s g34) (sp 1 rfl (evn ?_))
        rcases cond_some h with ⟨g35, h⟩ | ⟨g35, h⟩
        ·exact qT rfl g35 (rn 1 rfl (ls_ret ((by cases h; cases hr2; cases hr1; exact ⟨.inl rfl, rfl⟩))))
        ·refine qF rfl g35 (ls_skip (hK32 _ (rg (sp 2 rfl (?_)))))
         obtain ⟨e36, g37, h⟩ := ob_some h
         exact qIu rfl ⟨(geti_some g37).1, (geti_some g37).2.1⟩ (qSu true rfl rfl zcbl ⟨(geti_some g37).1, (geti_some g37).2.1⟩ rfl rfl rfl rfl rfl rfl (evn (hK29 _ (rg (sp 2 rfl (evn (hN _ _ h (okr rfl))))))))
       ·exact qF rfl g28 (ls_exit (kXB2 (Option.some.inj h) _ (okr rfl)))
    ·exact qF rfl g15 (ls_exit (kXB1 (Option.some.inj h) _ (okr rfl)))
def impl_FDVariables_J4 (rec : (Bool × Int × Int) → Option (Bool × Int)) (y12 : Int) (x25 : Bool) (x26 : Int) : Option (Bool × Int) := rec (x25, x26, (IntKind.i64.wrap (y12 + 1)))
def impl_FDVariables_B3 (a1 : Y114) (e11 : Y123) (rec : (Bool × Int × Int) → Option (Bool × Int)) (s : Bool × Int × Int) : Option (Bool × Int) := match s with
  | (y10, y11, y12) => cond (decide (y12 < (List.length a1.2.1 : Int))) (obind (geti a1.2.1 y12) fun e21 => obind (impl_within e21 0 (IntKind.i64.wrap ((List.length e11.2 : Int) - 1))) fun v23 => cond (!v23) (impl_FDVariables_J4 rec y12 false y11) (obind (geti e11.2 e21) fun e28 => chk ((0 : Int) ≤ IntKind.u64.wrap e28) (impl_FDVariables_J4 rec y12 y10 (orI y11 (shlI 1 (IntKind.u64.wrap e28)))))) (some (y10, y11))
def impl_FDVariables_J5 (rec : ((List Int) × (List Int) × Int) → Option ((List Int) × (List Int))) (y6 : Int) (x31 : List Int) (x32 : List Int) : Option ((List Int) × (List Int)) := rec (x31, x32, (IntKind.i64.wrap (y6 + 1)))
def impl_FDVariables_J2 (rec : ((List Int) × (List Int) × Int) → Option ((List Int) × (List Int))) (a1 : Y114) (y4 : List Int) (y5 : List Int) (y6 : Int) (e11 : Y123) (x14 : Bool) : Option ((List Int) × (List Int)) := obind (loopF (impl_FDVariables_B3 a1 e11) fz (x14, 0, 0)) fun o3 => (match o3 with
  | (z16, z17) => (cond z16 (chk (List.length y4 + List.length [z17] ≤ lim) (obind (geti e11.2 a1.2.2) fun e35 => chk (List.length y5 + List.length [e35] ≤ lim) (impl_FDVariables_J5 rec y6 (y4 ++ [z17]) (y5 ++ [e35])))) (chk (List.length y4 + List.length [0] ≤ lim) (chk (List.length y5 + List.length [-1] ≤ lim) (impl_FDVariables_J5 rec y6 (y4 ++ [0]) (y5 ++ [-1]))))))
def impl_FDVariables_B1 (a0 : Y61) (a1 : Y114) (rec : ((List Int) × (List Int) × Int) → Option ((List Int) × (List Int))) (s : (List Int) × (List Int) × Int) : Option ((List Int) × (List Int)) := match s with
  | (y4, y5, y6) => cond (decide (y6 < (List.length a0.2.1 : Int))) (obind (geti a0.2.1 y6) fun e11 => cond (e11.1 == a1.1) (obind (impl_within a1.2.2 0 (IntKind.i64.wrap ((List.length e11.2 : Int) - 1))) fun v41 => impl_FDVariables_J2 rec a1 y4 y5 y6 e11 v41) (impl_FDVariables_J2 rec a1 y4 y5 y6 e11 false)) (some (y4, y5))
def impl_FDVariables (a0 : Y61) (a1 : Y114) : Option ((List Int) × (List Int)) := obind (impl_IsValidQuery a0) fun v2 => cond (!v2) (some (([] : List Int), ([] : List Int))) (obind (loopF (impl_FDVariables_B1 a0 a1) fz (([] : List Int), ([] : List Int), 0)) fun o1 => (match o1 with
  | (z6, z7) => (some (z6, z7))))
theorem impl_FDVariables_s {a0 : Y61} {a1 : Y114} {r : (List Int) × (List Int)} (h : impl_FDVariables a0 a1 = some r) : SoundAt Try.prog 70 [.agg (c62_ddd a0), .agg (c115_d a1)] (.tup [oL 3 ci64 r.1, oL 3 ci64 r.2]) := by
 unfold impl_FDVariables at h
 refine st lit70 rfl (rn 1 rfl (ls_seq_k fun K1 hK1 => rs (sp 1 rfl (?_))))
 obtain ⟨v2, g3, h⟩ := ob_some h
 refine qC (qa rfl (erg (erc rfl (erc (erD ec124_d _) (erc (erD eci64 _) rfl)))) eran) (impl_IsValidQuery_s g3) (sp 1 rfl (evn ?_))
 rcases cond_some h with ⟨g4, h⟩ | ⟨g4, h⟩
 ·exact qT rfl g4 (rn 1 rfl (ls_ret ((by cases h; exact ⟨.inl rfl, rfl⟩))))
 ·refine qF rfl g4 (ls_skip (hK1 _ (rn 1 rfl (ls_seq_k fun K5 hK5 => rn 1 rfl ?_))))
  obtain ⟨o1, hl, hr1⟩ := ob_some h
  have kXB1 : ∀ {z6 : List Int} {z7 : List Int}, (z6, z7) = o1 → Jn K5 [(6, oL 3 ci64 z6), (7, oL 3 ci64 z7)] := by
   intro z6 z7 h σ' hk
   subst h
   replace h := hr1
   try dsimp only at h
   exact hK5 _ (lh hk rfl (rn 1 rfl (ls_ret ((by cases h; exact ⟨.inl rfl, rfl⟩)))))
  refine ls_rec (fun (s : (List Int) × (List Int) × Int) => match s with | (y4, y5, y6) => [(3, .box [.str a1.1, dL ci64 a1.2.1, nI a1.2.2]), (6, oL 3 ci64 y4), (7, oL 3 ci64 y5), (18, dL c124_d a0.2.1), (19, nI (List.length a0.2.1 : Int)), (20, nI y6)]) _ _ _ _ hl (okr rfl) (fun _ => rfl) ?_
  rintro m ⟨y4, y5, y6⟩ N h hN
  unfold impl_FDVariables_B1 at h
  dsimp only at h
  refine rn 1 rfl (ls_seq_k fun K8 hK8 => ?_)
  rcases cond_some h with ⟨g9, h⟩ | ⟨g9, h⟩
  ·refine qT rfl g9 (ls_skip (hK8 _ (ls_seq_k fun K10 hK10 => ls_blk (rs ?_))))
   obtain ⟨e11, g12, h⟩ := ob_some h
   refine qI rfl zc124_d g12 (sp 3 rfl (evn (rk fun K13 hK13 => ?_)))
   have kJ2 : ∀ {x14 : Bool}, impl_FDVariables_J2 (loopF (impl_FDVariables_B1 a0 a1) m) a1 y4 y5 y6 e11 x14 = some o1 → Jn K13 [(3, .box [.str a1.1, dL ci64 a1.2.1, nI a1.2.2]), (6, oL 3 ci64 y4), (7, oL 3 ci64 y5), (9, .box [.str e11.1, dL ci64 e11.2]), (10, .bool x14), (18, dL c124_d a0.2.1), (19, nI (List.length a0.2.1 : Int)), (20, nI y6)] := by
    intro x14 h σ' hk
    unfold impl_FDVariables_J2 at h
    refine hK13 _ (lh hk rfl (rn 1 rfl (ls_seq_k fun K15 hK15 => rn 1 rfl ?_)))
    obtain ⟨o3, hl, hr3⟩ := ob_some h
    have kXB3 : ∀ {z16 : Bool} {z17 : Int}, (z16, z17) = o3 → Jn K15 [(3, .box [.str a1.1, dL ci64 a1.2.1, nI a1.2.2]), (6, oL 3 ci64 y4), (7, oL 3 ci64 y5), (9, .box [.str e11.1, dL ci64 e11.2]), (10, .bool z16), (11, nI z17), (18, dL c124_d a0.2.1), (19, nI (List.length a0.2.1 : Int)), (20, nI y6)] := by
     intro z16 z17 h σ' hk
     subst h
     replace h := hr3
     try dsimp only at h
     refine hK15 _ (lh hk rfl (rn 1 rfl ?_))
     have kJ5 : ∀ {x31 : List Int} {x32 : List Int}, impl_FDVariables_J5 (loopF (impl_FDVariables_B1 a0 a1) m) y6 x31 x32 = some o1 → Jn K10 [(3, .box [.str a1.1, dL ci64 a1.2.1, nI a1.2.2]), (6, oL 3 ci64 x31), (7, oL 3 ci64 x32), (18, dL c124_d a0.2.1), (19, nI (List.length a0.2.1 : Int)), (20, nI y6)] := by
      intro x31 x32 h σ' hk
      unfold impl_FDVariables_J5 at h
      exact hK10 _ (lh hk rfl (rg (sp 2 rfl (evn (hN _ _ h (okr rfl))))))
     rcases cond_some h with ⟨g33, h⟩ | ⟨g33, h⟩
     ·refine qT rfl g33 (rs (sp 2 rfl (qBs ci64 [z17] rfl rfl rfl zci64 (?_))))
      obtain ⟨g34, h⟩ := chk_some h
      refine qA ci64 y4 [z17] rfl rfl (flat_len zci64 [z17]) rfl g34 (sp 1 rfl (evn (rg (sp 5 rfl (?_)))))
      obtain ⟨e35, g36, h⟩ := ob_some h
      refine qI rfl zci64 g36 (sp 1 rfl (qBs ci64 [e35] rfl rfl rfl zci64 (?_)))
      obtain ⟨g37, h⟩ := chk_some h
      exact qA ci64 y5 [e35] rfl rfl (flat_len zci64 [e35]) rfl g37 (sp 1 rfl (evn (kJ5 h _ (okr rfl))))
     ·refine qF rfl g33 (rs (sp 1 rfl (qBs ci64 [0] rfl rfl rfl zci64 (?_))))
      obtain ⟨g38, h⟩ := chk_some h
      refine qA ci64 y4 [0] rfl rfl (flat_len zci64 [0]) rfl g38 (sp 1 rfl (evn (rg (sp 1 rfl (qBs ci64 [-1] rfl rfl rfl zci64 (?_))))))
      obtain ⟨g39, h⟩ := chk_some h
      exact qA ci64 y5 [-1] rfl rfl (flat_len zci64 [-1]) rfl g39 (sp 1 rfl (evn (kJ5 h _ (okr rfl))))
    refine ls_rec (fun (s : Bool × Int × Int) => match s with | (y10, y11, y12) => [(3, .box [.str a1.1, dL ci64 a1.2.1, nI a1.2.2]), (6, oL 3 ci64 y4), (7, oL 3 ci64 y5), (9, .box [.str e11.1, dL ci64 e11.2]), (10, .bool y10), (11, nI y11), (18, dL c124_d a0.2.1), (19, nI (List.length a0.2.1 : Int)), (20, nI y6), (39, dL ci64 a1.2.1), (40, nI (List.length a1.2.1 : Int)), (41, nI y12)]) _ _ _ _ hl (okr rfl) (fun _ => rfl) ?_
    rintro m ⟨y10, y11, y12⟩ N h hN
    unfold impl_FDVariables_B3 at h
    dsimp only at h
    refine rn 1 rfl (ls_seq_k fun K18 hK18 => ?_)
    rcases cond_some h with ⟨g19, h⟩ | ⟨g19, h⟩
    ·refine qT rfl g19 (ls_skip (hK18 _ (ls_seq_k fun K20 hK20 => ls_blk (rs ?_))))
     obtain ⟨e21, g22, h⟩ := ob_some h
     refine qI rfl zci64 g22 (sp 2 rfl (evn (rs (sp 5 rfl (?_)))))
     obtain ⟨v23, g24, h⟩ := ob_some h
     refine qC (qs rfl (qs rfl (qs rfl eran))) (impl_within_s g24) (sp 1 rfl (evn ?_))
     have kJ4 : ∀ {x25 : Bool} {x26 : Int}, impl_FDVariables_J4 (loopF (impl_FDVariables_B3 a1 e11) m) y12 x25 x26 = some o3 → Jn K20 [(3, .box [.str a1.1, dL ci64 a1.2.1, nI a1.2.2]), (6, oL 3 ci64 y4), (7, oL 3 ci64 y5), (9, .box [.str e11.1, dL ci64 e11.2]), (10, .bool x25), (11, nI x26), (18, dL c124_d a0.2.1), (19, nI (List.length a0.2.1 : Int)), (20, nI y6), (39, dL ci64 a1.2.1), (40, nI (List.length a1.2.1 : Int)), (41, nI y12)] := by
      intro x25 x26 h σ' hk
      unfold impl_FDVariables_J4 at h
      exact hK20 _ (lh hk rfl (rg (sp 2 rfl (evn (hN _ _ h (okr rfl))))))
     rcases cond_some h with ⟨g27, h⟩ | ⟨g27, h⟩
     ·exact qT rfl g27 (rg (sp 1 rfl (evn (kJ4 h _ (okr rfl)))))
     ·refine qF rfl g27 (rg (sp 4 rfl (?_)))
      obtain ⟨e28, g29, h⟩ := ob_some h
      refine qI rfl zci64 g29 (sp 2 rfl (?_))
      obtain ⟨g30, h⟩ := chk_some h
      exact qB rfl g30 rfl (sp 2 rfl (evn (kJ4 h _ (okr rfl))))
    ·exact qF rfl g19 (ls_exit (kXB3 (Option.some.inj h) _ (okr rfl)))
   refine sp 6 rfl (?_)
   rcases cond_some h with ⟨g40, h⟩ | ⟨g40, h⟩
   ·refine qg 29 g40 rfl (sp 6 rfl (?_))
    obtain ⟨v41, g42, h⟩ := ob_some h
    exact oGR rfl rfl (qC (qs rfl (qs rfl (qs rfl eran))) (impl_within_s g42) (sp 2 rfl (evn (kJ2 h _ (okr rfl)))))
   ·exact qg 29 g40 rfl (sp 9 rfl (evn (kJ2 h _ (okr rfl))))
  ·exact qF rfl g9 (ls_exit (kXB1 (Option.some.inj h) _ (okr rfl)))
def impl_FDClosure_J2 (rec : (Int × Int) → Option (Int)) (y2 : Int) (x14 : Int) : Option (Int) := rec (x14, (IntKind.i64.wrap (y2 + 1)))
def impl_FDClosure_B1 (a0 : Y61) (a2 : List Int) (rec : (Int × Int) → Option (Int)) (s : Int × Int) : Option (Int) := match s with
  | (y1, y2) => cond (decide (y2 < (List.length a2 : Int))) (obind (geti a2 y2) fun e10 => obind (impl_within e10 0 (IntKind.i64.wrap (a0.1 - 1))) fun v12 => cond v12 (chk ((0 : Int) ≤ IntKind.u64.wrap e10) (impl_FDClosure_J2 rec y2 (orI y1 (shlI 1 (IntKind.u64.wrap e10))))) (impl_FDClosure_J2 rec y2 y1)) (some y1)
def impl_FDClosure_J7 (rec : (Int × Int) → Option (Int)) (y28 : Int) (x38 : Int) : Option (Int) := rec (x38, (IntKind.i64.wrap (y28 + 1)))
def impl_FDClosure_J6 (rec : (Int × Int) → Option (Int)) (v28 : (List Int) × (List Int)) (y27 : Int) (y28 : Int) (x37 : Bool) : Option (Int) := cond x37 (obind (geti v28.2 y28) fun e40 => chk ((0 : Int) ≤ IntKind.u64.wrap e40) (impl_FDClosure_J7 rec y28 (orI y27 (shlI 1 (IntKind.u64.wrap e40))))) (impl_FDClosure_J7 rec y28 y27)
def impl_FDClosure_B5 (v28 : (List Int) × (List Int)) (rec : (Int × Int) → Option (Int)) (s : Int × Int) : Option (Int) := match s with
  | (y27, y28) => cond (decide (y28 < (List.length v28.1 : Int))) (obind (geti v28.1 y28) fun e34 => obind (geti v28.2 y28) fun e43 => cond (decide (0 ≤ e43)) (impl_FDClosure_J6 rec v28 y27 y28 ((andNotI e34 y27) == 0)) (impl_FDClosure_J6 rec v28 y27 y28 false)) (some y27)
def impl_FDClosure_B4 (a0 : Y61) (a1 : List Y114) (rec : (Int × Int) → Option (Int)) (s : Int × Int) : Option (Int) := match s with
  | (y23, y24) => cond (decide (y24 < (List.length a1 : Int))) (obind (geti a1 y24) fun e26 => obind (impl_FDVariables a0 e26) fun v28 => obind (loopF (impl_FDClosure_B5 v28) fz (y23, 0)) fun z30 => rec (z30, (IntKind.i64.wrap (y24 + 1)))) (some y23)
def impl_FDClosure_B3 (a0 : Y61) (a1 : List Y114) (rec : (Int × Int) → Option (Int)) (s : Int × Int) : Option (Int) := match s with
  | (y11, y12) => cond (decide (y12 < a0.1)) (obind (loopF (impl_FDClosure_B4 a0 a1) fz (y11, 0)) fun z22 => rec (z22, (IntKind.i64.wrap (y12 + 1)))) (some y11)
def impl_FDClosure_J9 (rec : ((List Int) × Int) → Option ((List Int))) (y30 : Int) (x52 : List Int) : Option ((List Int)) := rec (x52, (IntKind.i64.wrap (y30 + 1)))
def impl_FDClosure_B8 (a0 : Y61) (z18 : Int) (rec : ((List Int) × Int) → Option ((List Int))) (s : (List Int) × Int) : Option ((List Int)) := match s with
  | (y29, y30) => cond (decide (y30 < a0.1)) (chk ((0 : Int) ≤ IntKind.u64.wrap y30) (cond ((andI (shrI z18 (IntKind.u64.wrap y30)) 1) == 1) (chk (List.length y29 + List.length [y30] ≤ lim) (impl_FDClosure_J9 rec y30 (y29 ++ [y30]))) (impl_FDClosure_J9 rec y30 y29))) (some y29)
def impl_FDClosure (a0 : Y61) (a1 : List Y114) (a2 : List Int) : Option ((List Int)) := obind (impl_IsValidQuery a0) fun v2 => cond (!v2) (some ([] : List Int)) (obind (loopF (impl_FDClosure_B1 a0 a2) fz (0, 0)) fun z6 => obind (loopF (impl_FDClosure_B3 a0 a1) fz (z6, 0)) fun z18 => obind (loopF (impl_FDClosure_B8 a0 z18) fz (([] : List Int), 0)) fun z47 => some z47)
theorem impl_FDClosure_s {a0 : Y61} {a1 : List Y114} {a2 : List Int} {r : (List Int)} (h : impl_FDClosure a0 a1 a2 = some r) : SoundAt Try.prog 28 [.agg (c62_ddd a0), dL c115_d a1, dL ci64 a2] (oL 3 ci64 r) := by
 unfold impl_FDClosure at h
 refine st lit28 rfl (rn 1 rfl (ls_seq_k fun K1 hK1 => rs (sp 1 rfl (?_))))
 obtain ⟨v2, g3, h⟩ := ob_some h
 refine qC (qa rfl (erg (erc rfl (erc (erD ec124_d _) (erc (erD eci64 _) rfl)))) eran) (impl_IsValidQuery_s g3) (sp 1 rfl (evn ?_))
 rcases cond_some h with ⟨g4, h⟩ | ⟨g4, h⟩
 ·exact qT rfl g4 (rn 1 rfl (ls_ret ((by cases h; exact ⟨.inl rfl, rfl⟩))))
 ·refine qF rfl g4 (ls_skip (hK1 _ (rn 1 rfl (ls_seq_k fun K5 hK5 => rn 1 rfl ?_))))
  obtain ⟨o1, hl, hr1⟩ := ob_some h
  have kXB1 : ∀ {z6 : Int}, z6 = o1 → Jn K5 [(1, dL c115_d a1), (3, .box [nI a0.1, dL c124_d a0.2.1, dL ci64 a0.2.2]), (7, nI z6)] := by
   intro z6 h σ' hk
   subst h
   replace h := hr1
   try dsimp only at h
   refine hK5 _ (lh hk rfl (ls_seq_k fun K17 hK17 => rn 1 rfl ?_))
   obtain ⟨o3, hl, hr3⟩ := ob_some h
   have kXB3 : ∀ {z18 : Int}, z18 = o3 → Jn K17 [(3, .box [nI a0.1, dL c124_d a0.2.1, dL ci64 a0.2.2]), (7, nI z18)] := by
    intro z18 h σ' hk
    subst h
    replace h := hr3
    try dsimp only at h
    refine hK17 _ (lh hk rfl (rn 1 rfl (ls_seq_k fun K46 hK46 => rn 1 rfl ?_)))
    obtain ⟨o8, hl, hr8⟩ := ob_some h
    have kXB8 : ∀ {z47 : List Int}, z47 = o8 → Jn K46 [(17, oL 3 ci64 z47)] := by
     intro z47 h σ' hk
     subst h
     replace h := hr8
     try dsimp only at h
     exact hK46 _ (lh hk rfl (rn 1 rfl (ls_ret ((by cases h; exact ⟨.inl rfl, rfl⟩)))))
    refine ls_rec (fun (s : (List Int) × Int) => match s with | (y29, y30) => [(3, .box [nI a0.1, dL c124_d a0.2.1, dL ci64 a0.2.2]), (7, nI z18), (17, oL 3 ci64 y29), (18, nI y30)]) _ _ _ _ hl (okr rfl) (fun _ => rfl) ?_
    rintro m ⟨y29, y30⟩ N h hN
    unfold impl_FDClosure_B8 at h
    dsimp only at h
    refine ls_seq_k fun K48 hK48 => rn 1 rfl ?_
    rcases cond_some h with ⟨g49, h⟩ | ⟨g49, h⟩
    ·refine qT rfl g49 (ls_skip (hK48 _ (ls_seq_k fun K50 hK50 => ls_blk (rs (sp 3 rfl (?_))))))
     obtain ⟨g51, h⟩ := chk_some h
     refine qB rfl g51 rfl (sp 2 rfl (evn ?_))
     have kJ9 : ∀ {x52 : List Int}, impl_FDClosure_J9 (loopF (impl_FDClosure_B8 a0 z18) m) y30 x52 = some o8 → Jn K50 [(3, .box [nI a0.1, dL c124_d a0.2.1, dL ci64 a0.2.2]), (7, nI z18), (17, oL 3 ci64 x52), (18, nI y30)] := by
      intro x52 h σ' hk
      unfold impl_FDClosure_J9 at h
      exact hK50 _ (lh hk rfl (rg (sp 3 rfl (evn (hN _ _ h (okr rfl))))))
     rcases cond_some h with ⟨g53, h⟩ | ⟨g53, h⟩
     ·refine qT rfl g53 (rg (sp 2 rfl (qBs ci64 [y30] rfl rfl rfl zci64 (?_))))
      obtain ⟨g54, h⟩ := chk_some h
      exact qA ci64 y29 [y30] rfl rfl (flat_len zci64 [y30]) rfl g54 (sp 1 rfl (evn (kJ9 h _ (okr rfl))))
     ·exact qF rfl g53 (ls_skip (kJ9 h _ (okr rfl)))
    ·exact qF rfl g49 (ls_exit (kXB8 (Option.some.inj h) _ (okr rfl)))
   refine ls_rec (fun (s : Int × Int) => match s with | (y11, y12) => [(1, dL c115_d a1), (3, .box [nI a0.1, dL c124_d a0.2.1, dL ci64 a0.2.2]), (7, nI y11), (10, nI y12)]) _ _ _ _ hl (okr rfl) (fun _ => rfl) ?_
   rintro m ⟨y11, y12⟩ N h hN
   unfold impl_FDClosure_B3 at h
   dsimp only at h
   refine ls_seq_k fun K19 hK19 => rn 1 rfl ?_
   rcases cond_some h with ⟨g20, h⟩ | ⟨g20, h⟩
   ·refine qT rfl g20 (ls_skip (hK19 _ (ls_seq_k fun K21 hK21 => ls_blk (rn 1 rfl ?_))))
    obtain ⟨o4, hl, hr4⟩ := ob_some h
    have kXB4 : ∀ {z22 : Int}, z22 = o4 → Jn K21 [(1, dL c115_d a1), (3, .box [nI a0.1, dL c124_d a0.2.1, dL ci64 a0.2.2]), (7, nI z22), (10, nI y12)] := by
     intro z22 h σ' hk
     subst h
     replace h := hr4
     try dsimp only at h
     exact hK21 _ (lh hk rfl (rg (sp 3 rfl (evn (hN _ _ h (okr rfl))))))
    refine ls_rec (fun (s : Int × Int) => match s with | (y23, y24) => [(1, dL c115_d a1), (3, .box [nI a0.1, dL c124_d a0.2.1, dL ci64 a0.2.2]), (7, nI y23), (10, nI y12), (45, dL c115_d a1), (46, nI (List.length a1 : Int)), (47, nI y24)]) _ _ _ _ hl (okr rfl) (fun _ => rfl) ?_
    rintro m ⟨y23, y24⟩ N h hN
    unfold impl_FDClosure_B4 at h
    dsimp only at h
    refine rn 1 rfl (ls_seq_k fun K23 hK23 => ?_)
    rcases cond_some h with ⟨g24, h⟩ | ⟨g24, h⟩
    ·refine qT rfl g24 (ls_skip (hK23 _ (ls_seq_k fun K25 hK25 => ls_blk (rs ?_))))
     obtain ⟨e26, g27, h⟩ := ob_some h
     refine qI rfl zc115_d g27 (sp 3 rfl (evn (rs (sp 2 rfl (?_)))))
     obtain ⟨v28, g29, h⟩ := ob_some h
     refine qC (qa rfl (erg (erc rfl (erc (erD ec124_d _) (erc (erD eci64 _) rfl)))) (qa rfl (erg (erc rfl (erc (erD eci64 _) (erc rfl rfl)))) eran)) (impl_FDVariables_s g29) (sp 5 rfl (evn (rn 1 rfl ?_)))
     obtain ⟨o5, hl, hr5⟩ := ob_some h
     have kXB5 : ∀ {z30 : Int}, z30 = o5 → Jn K25 [(1, dL c115_d a1), (3, .box [nI a0.1, dL c124_d a0.2.1, dL ci64 a0.2.2]), (7, nI z30), (10, nI y12), (45, dL c115_d a1), (46, nI (List.length a1 : Int)), (47, nI y24)] := by
      intro z30 h σ' hk
      subst h
      replace h := hr5
      try dsimp only at h
      exact hK25 _ (lh hk rfl (rg (sp 2 rfl (evn (hN _ _ h (okr rfl))))))
     refine ls_rec (fun (s : Int × Int) => match s with | (y27, y28) => [(1, dL c115_d a1), (3, .box [nI a0.1, dL c124_d a0.2.1, dL ci64 a0.2.2]), (7, nI y27), (10, nI y12), (14, oL 3 ci64 v28.2), (45, dL c115_d a1), (46, nI (List.length a1 : Int)), (47, nI y24), (57, dL ci64 v28.1), (58, nI (List.length v28.1 : Int)), (59, nI y28)]) _ _ _ _ hl (okr rfl) (fun _ => rfl) ?_
     rintro m ⟨y27, y28⟩ N h hN
     unfold impl_FDClosure_B5 at h
     dsimp only at h
     refine rn 1 rfl (ls_seq_k fun K31 hK31 => ?_)
     rcases cond_some h with ⟨g32, h⟩ | ⟨g32, h⟩
     ·refine qT rfl g32 (ls_skip (hK31 _ (ls_seq_k fun K33 hK33 => ls_blk (rs (sp 1 rfl (?_))))))
      obtain ⟨e34, g35, h⟩ := ob_some h
      refine qI rfl zci64 g35 (sp 3 rfl (evn (rk fun K36 hK36 => ?_)))
      have kJ6 : ∀ {x37 : Bool}, impl_FDClosure_J6 (loopF (impl_FDClosure_B5 v28) m) v28 y27 y28 x37 = some o5 → Jn K36 [(1, dL c115_d a1), (3, .box [nI a0.1, dL c124_d a0.2.1, dL ci64 a0.2.2]), (7, nI y27), (10, nI y12), (14, oL 3 ci64 v28.2), (15, nI y28), (45, dL c115_d a1), (46, nI (List.length a1 : Int)), (47, nI y24), (57, dL ci64 v28.1), (58, nI (List.length v28.1 : Int)), (59, nI y28), (74, .bool x37)] := by
       intro x37 h σ' hk
       unfold impl_FDClosure_J6 at h
       refine hK36 _ (lh hk rfl ?_)
       have kJ7 : ∀ {x38 : Int}, impl_FDClosure_J7 (loopF (impl_FDClosure_B5 v28) m) y28 x38 = some o5 → Jn K33 [(1, dL c115_d a1), (3, .box [nI a0.1, dL c124_d a0.2.1, dL ci64 a0.2.2]), (7, nI x38), (10, nI y12), (14, oL 3 ci64 v28.2), (45, dL c115_d a1), (46, nI (List.length a1 : Int)), (47, nI y24), (57, dL ci64 v28.1), (58, nI (List.length v28.1 : Int)), (59, nI y28)] := by
        intro x38 h σ' hk
        unfold impl_FDClosure_J7 at h
        exact hK33 _ (lh hk rfl (rg (sp 2 rfl (evn (hN _ _ h (okr rfl))))))
       rcases cond_some h with ⟨g39, h⟩ | ⟨g39, h⟩
       ·refine qT rfl g39 (rg (sp 3 rfl (?_)))
        obtain ⟨e40, g41, h⟩ := ob_some h
        refine qI rfl zci64 g41 (sp 2 rfl (?_))
        obtain ⟨g42, h⟩ := chk_some h
        exact qB rfl g42 rfl (sp 2 rfl (evn (kJ7 h _ (okr rfl))))
       ·exact qF rfl g39 (ls_skip (kJ7 h _ (okr rfl)))
      refine sp 2 rfl (?_)
      obtain ⟨e43, g44, h⟩ := ob_some h
      refine qI rfl zci64 g44 (sp 3 rfl (?_))
      rcases cond_some h with ⟨g45, h⟩ | ⟨g45, h⟩
      ·exact qg 69 g45 rfl (sp 5 rfl (evn (kJ6 h _ (okr rfl))))
      ·exact qg 69 g45 rfl (sp 5 rfl (evn (kJ6 h _ (okr rfl))))
     ·exact qF rfl g32 (ls_exit (kXB5 (Option.some.inj h) _ (okr rfl)))
    ·exact qF rfl g24 (ls_exit (kXB4 (Option.some.inj h) _ (okr rfl)))
   ·exact qF rfl g20 (ls_exit (kXB3 (Option.some.inj h) _ (okr rfl)))
  refine ls_rec (fun (s : Int × Int) => match s with | (y1, y2) => [(1, dL c115_d a1), (3, .box [nI a0.1, dL c124_d a0.2.1, dL ci64 a0.2.2]), (7, nI y1), (22, dL ci64 a2), (23, nI (List.length a2 : Int)), (24, nI y2)]) _ _ _ _ hl (okr rfl) (fun _ => rfl) ?_
  rintro m ⟨y1, y2⟩ N h hN
  unfold impl_FDClosure_B1 at h
  dsimp only at h
  refine rn 1 rfl (ls_seq_k fun K7 hK7 => ?_)
  rcases cond_some h with ⟨g8, h⟩ | ⟨g8, h⟩
  ·refine qT rfl g8 (ls_skip (hK7 _ (ls_seq_k fun K9 hK9 => ls_blk (rs ?_))))
   obtain ⟨e10, g11, h⟩ := ob_some h
   refine qI rfl zci64 g11 (sp 2 rfl (evn (rs (sp 4 rfl (?_)))))
   obtain ⟨v12, g13, h⟩ := ob_some h
   refine qC (qs rfl (qs rfl (qs rfl eran))) (impl_within_s g13) (evn ?_)
   have kJ2 : ∀ {x14 : Int}, impl_FDClosure_J2 (loopF (impl_FDClosure_B1 a0 a2) m) y2 x14 = some o1 → Jn K9 [(1, dL c115_d a1), (3, .box [nI a0.1, dL c124_d a0.2.1, dL ci64 a0.2.2]), (7, nI x14), (22, dL ci64 a2), (23, nI (List.length a2 : Int)), (24, nI y2)] := by
    intro x14 h σ' hk
    unfold impl_FDClosure_J2 at h
    exact hK9 _ (lh hk rfl (rg (sp 2 rfl (evn (hN _ _ h (okr rfl))))))
   rcases cond_some h with ⟨g15, h⟩ | ⟨g15, h⟩
   ·refine qT rfl g15 (rg (sp 3 rfl (?_)))
    obtain ⟨g16, h⟩ := chk_some h
    exact qB rfl g16 rfl (sp 2 rfl (evn (kJ2 h _ (okr rfl))))
   ·exact qF rfl g15 (ls_skip (kJ2 h _ (okr rfl)))
  ·exact qF rfl g8 (ls_exit (kXB1 (Option.some.inj h) _ (okr rfl)))
def laws_sameInts_B1 (a0 : List Int) (a1 : List Int) (rec : Int → Option (Sum (Unit) (Bool))) (y1 : Int) : Option (Sum (Unit) (Bool)) := cond (decide (y1 < (List.length a0 : Int))) (obind (geti a0 y1) fun e7 => obind (geti a1 y1) fun e9 => cond (e7 != e9) (some (.inr false)) (rec (IntKind.i64.wrap (y1 + 1)))) (some (.inl ()))
def laws_sameInts (a0 : List Int) (a1 : List Int) : Option (Bool) := cond ((List.length a0 : Int) != (List.length a1 : Int)) (some false) (obind (loopF (laws_sameInts_B1 a0 a1) fz 0) fun o1 => (match o1 with
  | .inl _ => (some true)
  | .inr r => some r))
theorem laws_sameInts_s {a0 : List Int} {a1 : List Int} {r : Bool} (h : laws_sameInts a0 a1 = some r) : SoundAt Try.prog 29 [dL ci64 a0, dL ci64 a1] (.bool r) := by
 unfold laws_sameInts at h
 refine st lit29 rfl (rn 1 rfl (ls_seq_k fun K1 hK1 => rn 1 rfl ?_))
 rcases cond_some h with ⟨g2, h⟩ | ⟨g2, h⟩
 ·exact qT rfl g2 (rn 1 rfl (ls_ret ((by cases h; exact ⟨.inl rfl, rfl⟩))))
 ·refine qF rfl g2 (ls_skip (hK1 _ (ls_seq_k fun K3 hK3 => rn 1 rfl ?_)))
  obtain ⟨o1, hl, hr1⟩ := ob_some h
  have kXB1 : (.inl ()) = o1 → Jn K3 [] := by
   intro h σ' hk
   subst h
   replace h := hr1
   try dsimp only at h
   exact hK3 _ (lh hk rfl (rn 1 rfl (ls_ret ((by cases h; exact ⟨.inl rfl, rfl⟩)))))
  refine ls_rec (fun (y1 : Int) => [(0, dL ci64 a0), (1, dL ci64 a1), (5, nI y1)]) _ _ _ _ hl (okr rfl) (fun _ => rfl) ?_
  rintro m y1 N h hN
  unfold laws_sameInts_B1 at h
  refine ls_seq_k fun K4 hK4 => rn 1 rfl ?_
  rcases cond_some h with ⟨g5, h⟩ | ⟨g5, h⟩
  ·refine qT rfl g5 (ls_skip (hK4 _ (ls_seq_k fun K6 hK6 => ls_blk (rd (by kernel_rfl) (sd 2 rfl (?_))))))
   obtain ⟨e7, g8, h⟩ := ob_some h
   refine ed rfl (qI rfl zci64 g8 (sd 3 rfl (?_)))
   obtain ⟨e9, g10, h⟩ := ob_some h
   refine ed rfl (qI rfl zci64 g10 (sd 2 rfl (evdn ?_)))
   rcases cond_some h with ⟨g11, h⟩ | ⟨g11, h⟩
   ·exact qT rfl g11 (rn 1 rfl (ls_ret ((by cases h; cases hr1; exact ⟨.inl rfl, rfl⟩))))
   ·exact qF rfl g11 (ls_skip (hK6 _ (rg (sp 3 rfl (evn (hN _ _ h (okr rfl)))))))
  ·exact qF rfl g5 (ls_exit (kXB1 (Option.some.inj h) _ trivial))
def spec_FDVariables_J5 (rec : (Bool × Int × Int) → Option (Bool × Int)) (y12 : Int) (x21 : Bool) (x22 : Int) : Option (Bool × Int) := rec (x21, x22, (IntKind.i64.wrap (y12 + 1)))
def spec_FDVariables_J4 (rec : (Bool × Int × Int) → Option (Bool × Int)) (a1 : Y114) (e10 : Y123) (y11 : Int) (y12 : Int) (x21 : Bool) : Option (Bool × Int) := cond x21 (obind (geti a1.2.1 y12) fun e24 => obind (geti e10.2 e24) fun e26 => chk ((0 : Int) ≤ e26) (spec_FDVariables_J5 rec y12 x21 (orI y11 (shlI 1 e26)))) (spec_FDVariables_J5 rec y12 x21 y11)
def spec_FDVariables_B3 (a1 : Y114) (e10 : Y123) (rec : (Bool × Int × Int) → Option (Bool × Int)) (s : Bool × Int × Int) : Option (Bool × Int) := match s with
  | (y10, y11, y12) => cond (decide (y12 < (List.length a1.2.1 : Int))) (cond y10 (obind (geti a1.2.1 y12) fun e30 => obind (spec_l1In e30 0 (IntKind.i64.wrap ((List.length e10.2 : Int) - 1))) fun v32 => spec_FDVariables_J4 rec a1 e10 y11 y12 v32) (spec_FDVariables_J4 rec a1 e10 y11 y12 false)) (some (y10, y11))
def spec_FDVariables_J6 (rec : ((List Int) × (List Int) × Int) → Option ((List Int) × (List Int))) (y6 : Int) (x34 : List Int) (x35 : List Int) : Option ((List Int) × (List Int)) := rec (x34, x35, (IntKind.i64.wrap (y6 + 1)))
def spec_FDVariables_J2 (rec : ((List Int) × (List Int) × Int) → Option ((List Int) × (List Int))) (a1 : Y114) (y4 : List Int) (y5 : List Int) (y6 : Int) (e10 : Y123) (x13 : Bool) : Option ((List Int) × (List Int)) := obind (loopF (spec_FDVariables_B3 a1 e10) fz (x13, 0, 0)) fun o3 => (match o3 with
  | (z15, z16) => (cond z15 (chk (List.length y4 + List.length [z16] ≤ lim) (obind (geti e10.2 a1.2.2) fun e38 => chk (List.length y5 + List.length [e38] ≤ lim) (spec_FDVariables_J6 rec y6 (y4 ++ [z16]) (y5 ++ [e38])))) (chk (List.length y4 + List.length [0] ≤ lim) (chk (List.length y5 + List.length [-1] ≤ lim) (spec_FDVariables_J6 rec y6 (y4 ++ [0]) (y5 ++ [-1]))))))
def spec_FDVariables_B1 (a0 : Y61) (a1 : Y114) (rec : ((List Int) × (List Int) × Int) → Option ((List Int) × (List Int))) (s : (List Int) × (List Int) × Int) : Option ((List Int) × (List Int)) := match s with
  | (y4, y5, y6) => cond (decide (y6 < (List.length a0.2.1 : Int))) (obind (spec_IsValidQuery a0) fun v6 => cond v6 (obind (geti a0.2.1 y6) fun e10 => cond (e10.1 == a1.1) (obind (spec_l1In a1.2.2 0 (IntKind.i64.wrap ((List.length e10.2 : Int) - 1))) fun v44 => spec_FDVariables_J2 rec a1 y4 y5 y6 e10 v44) (spec_FDVariables_J2 rec a1 y4 y5 y6 e10 false)) (some (y4, y5))) (some (y4, y5))
def spec_FDVariables (a0 : Y61) (a1 : Y114) : Option ((List Int) × (List Int)) := obind (loopF (spec_FDVariables_B1 a0 a1) fz (([] : List Int), ([] : List Int), 0)) fun o1 => (match o1 with
  | (z2, z3) => (some (z2, z3)))
theorem spec_FDVariables_s {a0 : Y61} {a1 : Y114} {r : (List Int) × (List Int)} (h : spec_FDVariables a0 a1 = some r) : SoundAt Try.prog 72 [.agg (c62_ddd a0), .agg (c115_d a1)] (.tup [oL 3 ci64 r.1, oL 3 ci64 r.2]) := by
 unfold spec_FDVariables at h
 refine st lit72 rfl (rn 1 rfl (rs (qBs ci64 [] rfl rfl rfl zci64 (sp 1 rfl (evn (rs (qBs ci64 [] rfl rfl rfl zci64 (sp 1 rfl (evn (ls_seq_k fun K1 hK1 => rn 1 rfl ?_))))))))))
 obtain ⟨o1, hl, hr1⟩ := ob_some h
 have kXB1 : ∀ {z2 : List Int} {z3 : List Int}, (z2, z3) = o1 → Jn K1 [(6, oL 3 ci64 z2), (7, oL 3 ci64 z3)] := by
  intro z2 z3 h σ' hk
  subst h
  replace h := hr1
  try dsimp only at h
  exact hK1 _ (lh hk rfl (rn 1 rfl (ls_ret ((by cases h; exact ⟨.inl rfl, rfl⟩)))))
 refine ls_rec (fun (s : (List Int) × (List Int) × Int) => match s with | (y4, y5, y6) => [(2, .box [nI a0.1, dL c124_d a0.2.1, dL ci64 a0.2.2]), (3, .box [.str a1.1, dL ci64 a1.2.1, nI a1.2.2]), (6, oL 3 ci64 y4), (7, oL 3 ci64 y5), (8, nI y6)]) _ _ _ _ hl (okr rfl) (fun _ => rfl) ?_
 rintro m ⟨y4, y5, y6⟩ N h hN
 unfold spec_FDVariables_B1 at h
 dsimp only at h
 refine ls_seq_k fun K4 hK4 => rs (sp 6 rfl (?_))
 rcases cond_some h with ⟨g5, h⟩ | ⟨g5, h⟩
 ·refine qg 20 g5 rfl (sp 1 rfl (?_))
  obtain ⟨v6, g7, h⟩ := ob_some h
  refine oGR rfl rfl (qC (qa rfl (erg (erc rfl (erc (erD ec124_d _) (erc (erD eci64 _) rfl)))) eran) (spec_IsValidQuery_s g7) (sp 1 rfl (evn ?_)))
  rcases cond_some h with ⟨g8, h⟩ | ⟨g8, h⟩
  ·refine qT rfl g8 (ls_skip (hK4 _ (ls_seq_k fun K9 hK9 => ls_blk (rs (sp 3 rfl (?_))))))
   obtain ⟨e10, g11, h⟩ := ob_some h
   refine qI rfl zc124_d g11 (sp 3 rfl (evn (rk fun K12 hK12 => ?_)))
   have kJ2 : ∀ {x13 : Bool}, spec_FDVariables_J2 (loopF (spec_FDVariables_B1 a0 a1) m) a1 y4 y5 y6 e10 x13 = some o1 → Jn K12 [(2, .box [nI a0.1, dL c124_d a0.2.1, dL ci64 a0.2.2]), (3, .box [.str a1.1, dL ci64 a1.2.1, nI a1.2.2]), (6, oL 3 ci64 y4), (7, oL 3 ci64 y5), (8, nI y6), (9, .box [.str e10.1, dL ci64 e10.2]), (10, .bool x13)] := by
    intro x13 h σ' hk
    unfold spec_FDVariables_J2 at h
    refine hK12 _ (lh hk rfl (rn 1 rfl (ls_seq_k fun K14 hK14 => rn 1 rfl ?_)))
    obtain ⟨o3, hl, hr3⟩ := ob_some h
    have kXB3 : ∀ {z15 : Bool} {z16 : Int}, (z15, z16) = o3 → Jn K14 [(2, .box [nI a0.1, dL c124_d a0.2.1, dL ci64 a0.2.2]), (3, .box [.str a1.1, dL ci64 a1.2.1, nI a1.2.2]), (6, oL 3 ci64 y4), (7, oL 3 ci64 y5), (8, nI y6), (9, .box [.str e10.1, dL ci64 e10.2]), (10, .bool z15), (11, nI z16)] := by
     intro z15 z16 h σ' hk
     subst h
     replace h := hr3
     try dsimp only at h
     refine hK14 _ (lh hk rfl (rn 1 rfl ?_))
     have kJ6 : ∀ {x34 : List Int} {x35 : List Int}, spec_FDVariables_J6 (loopF (spec_FDVariables_B1 a0 a1) m) y6 x34 x35 = some o1 → Jn K9 [(2, .box [nI a0.1, dL c124_d a0.2.1, dL ci64 a0.2.2]), (3, .box [.str a1.1, dL ci64 a1.2.1, nI a1.2.2]), (6, oL 3 ci64 x34), (7, oL 3 ci64 x35), (8, nI y6)] := by
      intro x34 x35 h σ' hk
      unfold spec_FDVariables_J6 at h
      exact hK9 _ (lh hk rfl (rg (sp 3 rfl (evn (hN _ _ h (okr rfl))))))
     rcases cond_some h with ⟨g36, h⟩ | ⟨g36, h⟩
     ·refine qT rfl g36 (rs (sp 2 rfl (qBs ci64 [z16] rfl rfl rfl zci64 (?_))))
      obtain ⟨g37, h⟩ := chk_some h
      refine qA ci64 y4 [z16] rfl rfl (flat_len zci64 [z16]) rfl g37 (sp 1 rfl (evn (rg (sp 5 rfl (?_)))))
      obtain ⟨e38, g39, h⟩ := ob_some h
      refine qI rfl zci64 g39 (sp 1 rfl (qBs ci64 [e38] rfl rfl rfl zci64 (?_)))
      obtain ⟨g40, h⟩ := chk_some h
      exact qA ci64 y5 [e38] rfl rfl (flat_len zci64 [e38]) rfl g40 (sp 1 rfl (evn (kJ6 h _ (okr rfl))))
     ·refine qF rfl g36 (rs (sp 1 rfl (qBs ci64 [0] rfl rfl rfl zci64 (?_))))
      obtain ⟨g41, h⟩ := chk_some h
      refine qA ci64 y4 [0] rfl rfl (flat_len zci64 [0]) rfl g41 (sp 1 rfl (evn (rg (sp 1 rfl (qBs ci64 [-1] rfl rfl rfl zci64 (?_))))))
      obtain ⟨g42, h⟩ := chk_some h
      exact qA ci64 y5 [-1] rfl rfl (flat_len zci64 [-1]) rfl g42 (sp 1 rfl (evn (kJ6 h _ (okr rfl))))
    refine ls_rec (fun (s : Bool × Int × Int) => match s with | (y10, y11, y12) => [(2, .box [nI a0.1, dL c124_d a0.2.1, dL ci64 a0.2.2]), (3, .box [.str a1.1, dL ci64 a1.2.1, nI a1.2.2]), (6, oL 3 ci64 y4), (7, oL 3 ci64 y5), (8, nI y6), (9, .box [.str e10.1, dL ci64 e10.2]), (10, .bool y10), (11, nI y11), (12, nI y12)]) _ _ _ _ hl (okr rfl) (fun _ => rfl) ?_
    rintro m ⟨y10, y11, y12⟩ N h hN
    unfold spec_FDVariables_B3 at h
    dsimp only at h
    refine ls_seq_k fun K17 hK17 => rn 1 rfl ?_
    rcases cond_some h with ⟨g18, h⟩ | ⟨g18, h⟩
    ·refine qT rfl g18 (ls_skip (hK17 _ (ls_seq_k fun K19 hK19 => ls_blk (rdk (by kernel_rfl) fun K20 hK20 => ?_))))
     have kJ4 : ∀ {x21 : Bool}, spec_FDVariables_J4 (loopF (spec_FDVariables_B3 a1 e10) m) a1 e10 y11 y12 x21 = some o3 → Jn K20 [(2, .box [nI a0.1, dL c124_d a0.2.1, dL ci64 a0.2.2]), (3, .box [.str a1.1, dL ci64 a1.2.1, nI a1.2.2]), (6, oL 3 ci64 y4), (7, oL 3 ci64 y5), (8, nI y6), (9, .box [.str e10.1, dL ci64 e10.2]), (10, .bool x21), (11, nI y11), (12, nI y12)] := by
      intro x21 h σ' hk
      unfold spec_FDVariables_J4 at h
      refine hK20 _ (lh hk rfl (rn 1 rfl ?_))
      have kJ5 : ∀ {x22 : Int}, spec_FDVariables_J5 (loopF (spec_FDVariables_B3 a1 e10) m) y12 x21 x22 = some o3 → Jn K19 [(2, .box [nI a0.1, dL c124_d a0.2.1, dL ci64 a0.2.2]), (3, .box [.str a1.1, dL ci64 a1.2.1, nI a1.2.2]), (6, oL 3 ci64 y4), (7, oL 3 ci64 y5), (8, nI y6), (9, .box [.str e10.1, dL ci64 e10.2]), (10, .bool x21), (11, nI x22), (12, nI y12)] := by
       intro x22 h σ' hk
       unfold spec_FDVariables_J5 at h
       exact hK19 _ (lh hk rfl (rg (sp 3 rfl (evn (hN _ _ h (okr rfl))))))
      rcases cond_some h with ⟨g23, h⟩ | ⟨g23, h⟩
      ·refine qT rfl g23 (rgd (by kernel_rfl) (sd 6 rfl (?_)))
       obtain ⟨e24, g25, h⟩ := ob_some h
       refine ed rfl (qI rfl zci64 g25 (sd 1 rfl (?_)))
       obtain ⟨e26, g27, h⟩ := ob_some h
       refine ed rfl (qI rfl zci64 g27 (sd 1 rfl (?_)))
       obtain ⟨g28, h⟩ := chk_some h
       exact ed rfl (qB rfl g28 rfl (sd 2 rfl (evdn (kJ5 h _ (okr rfl)))))
      ·exact qF rfl g23 (ls_skip (kJ5 h _ (okr rfl)))
     refine sd 2 rfl (?_)
     rcases cond_some h with ⟨g29, h⟩ | ⟨g29, h⟩
     ·refine qgd 53 g29 rfl (sd 3 rfl (?_))
      obtain ⟨e30, g31, h⟩ := ob_some h
      refine ed rfl (oGR rfl rfl (qI rfl zci64 g31 (sd 5 rfl (?_))))
      obtain ⟨v32, g33, h⟩ := ob_some h
      exact ed rfl (oGR rfl rfl (qC (qs rfl (qs rfl (qs rfl eran))) (spec_l1In_s g33) (sd 2 rfl (evdn (kJ4 h _ (okr rfl))))))
     ·exact qgd 53 g29 rfl (sd 12 rfl (evdn (kJ4 h _ (okr rfl))))
    ·exact qF rfl g18 (ls_exit (kXB3 (Option.some.inj h) _ (okr rfl)))
   refine sp 6 rfl (?_)
   rcases cond_some h with ⟨g43, h⟩ | ⟨g43, h⟩
   ·refine qg 36 g43 rfl (sp 6 rfl (?_))
    obtain ⟨v44, g45, h⟩ := ob_some h
    exact oGR rfl rfl (qC (qs rfl (qs rfl (qs rfl eran))) (spec_l1In_s g45) (sp 2 rfl (evn (kJ2 h _ (okr rfl)))))
   ·exact qg 36 g43 rfl (sp 9 rfl (evn (kJ2 h _ (okr rfl))))
  ·exact qF rfl g8 (ls_exit (kXB1 (Option.some.inj h) _ (okr rfl)))
 ·exact qg 20 g5 rfl (sp 3 rfl (evn (qk [2, 3, 6, 7, 8, 23] rfl (qF rfl rfl (ls_exit (kXB1 (Option.some.inj h) _ (okr rfl)))))))
def spec_FDClosure_J2 (rec : (Int × Int) → Option (Int)) (y2 : Int) (x14 : Int) : Option (Int) := rec (x14, (IntKind.i64.wrap (y2 + 1)))
def spec_FDClosure_B1 (a0 : Y61) (a2 : List Int) (rec : (Int × Int) → Option (Int)) (s : Int × Int) : Option (Int) := match s with
  | (y1, y2) => cond (decide (y2 < (List.length a2 : Int))) (obind (geti a2 y2) fun e10 => obind (spec_l1In e10 0 (IntKind.i64.wrap (a0.1 - 1))) fun v12 => cond v12 (obind (geti a2 y2) fun e16 => chk ((0 : Int) ≤ e16) (spec_FDClosure_J2 rec y2 (orI y1 (shlI 1 e16)))) (spec_FDClosure_J2 rec y2 y1)) (some y1)
def spec_FDClosure_J7 (rec : (Int × Int) → Option (Int)) (y28 : Int) (x38 : Int) : Option (Int) := rec (x38, (IntKind.i64.wrap (y28 + 1)))
def spec_FDClosure_J6 (rec : (Int × Int) → Option (Int)) (v30 : (List Int) × (List Int)) (y27 : Int) (y28 : Int) (x37 : Bool) : Option (Int) := cond x37 (obind (geti v30.2 y28) fun e40 => chk ((0 : Int) ≤ e40) (spec_FDClosure_J7 rec y28 (orI y27 (shlI 1 e40)))) (spec_FDClosure_J7 rec y28 y27)
def spec_FDClosure_B5 (v30 : (List Int) × (List Int)) (rec : (Int × Int) → Option (Int)) (s : Int × Int) : Option (Int) := match s with
  | (y27, y28) => cond (decide (y28 < (List.length v30.1 : Int))) (obind (geti v30.2 y28) fun e43 => cond (decide (0 ≤ e43)) (obind (geti v30.1 y28) fun e46 => spec_FDClosure_J6 rec v30 y27 y28 ((andNotI e46 y27) == 0)) (spec_FDClosure_J6 rec v30 y27 y28 false)) (some y27)
def spec_FDClosure_B4 (a0 : Y61) (a1 : List Y114) (rec : (Int × Int) → Option (Int)) (s : Int × Int) : Option (Int) := match s with
  | (y23, y24) => cond (decide (y24 < (List.length a1 : Int))) (obind (geti a1 y24) fun e28 => obind (spec_FDVariables a0 e28) fun v30 => obind (loopF (spec_FDClosure_B5 v30) fz (y23, 0)) fun z32 => rec (z32, (IntKind.i64.wrap (y24 + 1)))) (some y23)
def spec_FDClosure_B3 (a0 : Y61) (a1 : List Y114) (rec : (Int × Int) → Option (Int)) (s : Int × Int) : Option (Int) := match s with
  | (y11, y12) => cond (decide (y12 < a0.1)) (obind (loopF (spec_FDClosure_B4 a0 a1) fz (y11, 0)) fun z24 => rec (z24, (IntKind.i64.wrap (y12 + 1)))) (some y11)
def spec_FDClosure_J9 (rec : ((List Int) × Int) → Option ((List Int))) (y30 : Int) (x54 : List Int) : Option ((List Int)) := rec (x54, (IntKind.i64.wrap (y30 + 1)))
def spec_FDClosure_B8 (a0 : Y61) (z20 : Int) (rec : ((List Int) × Int) → Option ((List Int))) (s : (List Int) × Int) : Option ((List Int)) := match s with
  | (y29, y30) => cond (decide (y30 < a0.1)) (chk ((0 : Int) ≤ y30) (cond ((andI (shrI z20 y30) 1) == 1) (chk (List.length y29 + List.length [y30] ≤ lim) (spec_FDClosure_J9 rec y30 (y29 ++ [y30]))) (spec_FDClosure_J9 rec y30 y29))) (some y29)
def spec_FDClosure (a0 : Y61) (a1 : List Y114) (a2 : List Int) : Option ((List Int)) := obind (spec_IsValidQuery a0) fun v2 => cond (!v2) (some ([] : List Int)) (obind (loopF (spec_FDClosure_B1 a0 a2) fz (0, 0)) fun z6 => obind (loopF (spec_FDClosure_B3 a0 a1) fz (z6, 0)) fun z20 => obind (loopF (spec_FDClosure_B8 a0 z20) fz (([] : List Int), 0)) fun z49 => some z49)
theorem spec_FDClosure_s {a0 : Y61} {a1 : List Y114} {a2 : List Int} {r : (List Int)} (h : spec_FDClosure a0 a1 a2 = some r) : SoundAt Try.prog 30 [.agg (c62_ddd a0), dL c115_d a1, dL ci64 a2] (oL 3 ci64 r) := by
 unfold spec_FDClosure at h
 refine st lit30 rfl (rn 1 rfl (rs (qBs ci64 [] rfl rfl rfl zci64 (sp 1 rfl (evn (ls_seq_k fun K1 hK1 => rs (sp 1 rfl (?_))))))))
 obtain ⟨v2, g3, h⟩ := ob_some h
 refine qC (qa rfl (erg (erc rfl (erc (erD ec124_d _) (erc (erD eci64 _) rfl)))) eran) (spec_IsValidQuery_s g3) (sp 1 rfl (evn ?_))
 rcases cond_some h with ⟨g4, h⟩ | ⟨g4, h⟩
 ·exact qT rfl g4 (rn 1 rfl (ls_ret ((by cases h; exact ⟨.inl rfl, rfl⟩))))
 ·refine qF rfl g4 (ls_skip (hK1 _ (rn 1 rfl (ls_seq_k fun K5 hK5 => rn 1 rfl ?_))))
  obtain ⟨o1, hl, hr1⟩ := ob_some h
  have kXB1 : ∀ {z6 : Int}, z6 = o1 → Jn K5 [(1, dL c115_d a1), (3, .box [nI a0.1, dL c124_d a0.2.1, dL ci64 a0.2.2]), (7, oL 3 ci64 []), (8, nI z6)] := by
   intro z6 h σ' hk
   subst h
   replace h := hr1
   try dsimp only at h
   refine hK5 _ (lh hk rfl (ls_seq_k fun K19 hK19 => rn 1 rfl ?_))
   obtain ⟨o3, hl, hr3⟩ := ob_some h
   have kXB3 : ∀ {z20 : Int}, z20 = o3 → Jn K19 [(3, .box [nI a0.1, dL c124_d a0.2.1, dL ci64 a0.2.2]), (7, oL 3 ci64 []), (8, nI z20)] := by
    intro z20 h σ' hk
    subst h
    replace h := hr3
    try dsimp only at h
    refine hK19 _ (lh hk rfl (ls_seq_k fun K48 hK48 => rn 1 rfl ?_))
    obtain ⟨o8, hl, hr8⟩ := ob_some h
    have kXB8 : ∀ {z49 : List Int}, z49 = o8 → Jn K48 [(7, oL 3 ci64 z49)] := by
     intro z49 h σ' hk
     subst h
     replace h := hr8
     try dsimp only at h
     exact hK48 _ (lh hk rfl (rn 1 rfl (ls_ret ((by cases h; exact ⟨.inl rfl, rfl⟩)))))
    refine ls_rec (fun (s : (List Int) × Int) => match s with | (y29, y30) => [(3, .box [nI a0.1, dL c124_d a0.2.1, dL ci64 a0.2.2]), (7, oL 3 ci64 y29), (8, nI z20), (15, nI y30)]) _ _ _ _ hl (okr rfl) (fun _ => rfl) ?_
    rintro m ⟨y29, y30⟩ N h hN
    unfold spec_FDClosure_B8 at h
    dsimp only at h
    refine ls_seq_k fun K50 hK50 => rn 1 rfl ?_
    rcases cond_some h with ⟨g51, h⟩ | ⟨g51, h⟩
    ·refine qT rfl g51 (ls_skip (hK50 _ (ls_seq_k fun K52 hK52 => ls_blk (rs (sp 2 rfl (?_))))))
     obtain ⟨g53, h⟩ := chk_some h
     refine qB rfl g53 rfl (sp 2 rfl (evn ?_))
     have kJ9 : ∀ {x54 : List Int}, spec_FDClosure_J9 (loopF (spec_FDClosure_B8 a0 z20) m) y30 x54 = some o8 → Jn K52 [(3, .box [nI a0.1, dL c124_d a0.2.1, dL ci64 a0.2.2]), (7, oL 3 ci64 x54), (8, nI z20), (15, nI y30)] := by
      intro x54 h σ' hk
      unfold spec_FDClosure_J9 at h
      exact hK52 _ (lh hk rfl (rg (sp 3 rfl (evn (hN _ _ h (okr rfl))))))
     rcases cond_some h with ⟨g55, h⟩ | ⟨g55, h⟩
     ·refine qT rfl g55 (rg (sp 2 rfl (qBs ci64 [y30] rfl rfl rfl zci64 (?_))))
      obtain ⟨g56, h⟩ := chk_some h
      exact qA ci64 y29 [y30] rfl rfl (flat_len zci64 [y30]) rfl g56 (sp 1 rfl (evn (kJ9 h _ (okr rfl))))
     ·exact qF rfl g55 (ls_skip (kJ9 h _ (okr rfl)))
    ·exact qF rfl g51 (ls_exit (kXB8 (Option.some.inj h) _ (okr rfl)))
   refine ls_rec (fun (s : Int × Int) => match s with | (y11, y12) => [(1, dL c115_d a1), (3, .box [nI a0.1, dL c124_d a0.2.1, dL ci64 a0.2.2]), (7, oL 3 ci64 []), (8, nI y11), (10, nI y12)]) _ _ _ _ hl (okr rfl) (fun _ => rfl) ?_
   rintro m ⟨y11, y12⟩ N h hN
   unfold spec_FDClosure_B3 at h
   dsimp only at h
   refine ls_seq_k fun K21 hK21 => rn 1 rfl ?_
   rcases cond_some h with ⟨g22, h⟩ | ⟨g22, h⟩
   ·refine qT rfl g22 (ls_skip (hK21 _ (ls_seq_k fun K23 hK23 => ls_blk (rn 1 rfl ?_))))
    obtain ⟨o4, hl, hr4⟩ := ob_some h
    have kXB4 : ∀ {z24 : Int}, z24 = o4 → Jn K23 [(1, dL c115_d a1), (3, .box [nI a0.1, dL c124_d a0.2.1, dL ci64 a0.2.2]), (7, oL 3 ci64 []), (8, nI z24), (10, nI y12)] := by
     intro z24 h σ' hk
     subst h
     replace h := hr4
     try dsimp only at h
     exact hK23 _ (lh hk rfl (rg (sp 3 rfl (evn (hN _ _ h (okr rfl))))))
    refine ls_rec (fun (s : Int × Int) => match s with | (y23, y24) => [(1, dL c115_d a1), (3, .box [nI a0.1, dL c124_d a0.2.1, dL ci64 a0.2.2]), (7, oL 3 ci64 []), (8, nI y23), (10, nI y12), (11, nI y24)]) _ _ _ _ hl (okr rfl) (fun _ => rfl) ?_
    rintro m ⟨y23, y24⟩ N h hN
    unfold spec_FDClosure_B4 at h
    dsimp only at h
    refine ls_seq_k fun K25 hK25 => rn 1 rfl ?_
    rcases cond_some h with ⟨g26, h⟩ | ⟨g26, h⟩
    ·refine qT rfl g26 (ls_skip (hK25 _ (ls_seq_k fun K27 hK27 => ls_blk (rd (by kernel_rfl) (sd 3 rfl (?_))))))
     obtain ⟨e28, g29, h⟩ := ob_some h
     refine ed rfl (qI rfl zc115_d g29 (sd 1 rfl (?_)))
     obtain ⟨v30, g31, h⟩ := ob_some h
     refine ed rfl (qC (qa rfl (erg (erc rfl (erc (erD ec124_d _) (erc (erD eci64 _) rfl)))) (qa rfl (erg (erc rfl (erc (erD eci64 _) (erc rfl rfl)))) eran)) (spec_FDVariables_s g31) (sd 5 rfl (evdn (rn 1 rfl ?_))))
     obtain ⟨o5, hl, hr5⟩ := ob_some h
     have kXB5 : ∀ {z32 : Int}, z32 = o5 → Jn K27 [(1, dL c115_d a1), (3, .box [nI a0.1, dL c124_d a0.2.1, dL ci64 a0.2.2]), (7, oL 3 ci64 []), (8, nI z32), (10, nI y12), (11, nI y24)] := by
      intro z32 h σ' hk
      subst h
      replace h := hr5
      try dsimp only at h
      exact hK27 _ (lh hk rfl (rg (sp 3 rfl (evn (hN _ _ h (okr rfl))))))
     refine ls_rec (fun (s : Int × Int) => match s with | (y27, y28) => [(1, dL c115_d a1), (3, .box [nI a0.1, dL c124_d a0.2.1, dL ci64 a0.2.2]), (7, oL 3 ci64 []), (8, nI y27), (10, nI y12), (11, nI y24), (12, oL 3 ci64 v30.1), (13, oL 3 ci64 v30.2), (14, nI y28)]) _ _ _ _ hl (okr rfl) (fun _ => rfl) ?_
     rintro m ⟨y27, y28⟩ N h hN
     unfold spec_FDClosure_B5 at h
     dsimp only at h
     refine ls_seq_k fun K33 hK33 => rn 1 rfl ?_
     rcases cond_some h with ⟨g34, h⟩ | ⟨g34, h⟩
     ·refine qT rfl g34 (ls_skip (hK33 _ (ls_seq_k fun K35 hK35 => ls_blk (rk fun K36 hK36 => ?_))))
      have kJ6 : ∀ {x37 : Bool}, spec_FDClosure_J6 (loopF (spec_FDClosure_B5 v30) m) v30 y27 y28 x37 = some o5 → Jn K36 [(1, dL c115_d a1), (3, .box [nI a0.1, dL c124_d a0.2.1, dL ci64 a0.2.2]), (7, oL 3 ci64 []), (8, nI y27), (10, nI y12), (11, nI y24), (12, oL 3 ci64 v30.1), (13, oL 3 ci64 v30.2), (14, nI y28), (82, .bool x37)] := by
       intro x37 h σ' hk
       unfold spec_FDClosure_J6 at h
       refine hK36 _ (lh hk rfl ?_)
       have kJ7 : ∀ {x38 : Int}, spec_FDClosure_J7 (loopF (spec_FDClosure_B5 v30) m) y28 x38 = some o5 → Jn K35 [(1, dL c115_d a1), (3, .box [nI a0.1, dL c124_d a0.2.1, dL ci64 a0.2.2]), (7, oL 3 ci64 []), (8, nI x38), (10, nI y12), (11, nI y24), (12, oL 3 ci64 v30.1), (13, oL 3 ci64 v30.2), (14, nI y28)] := by
        intro x38 h σ' hk
        unfold spec_FDClosure_J7 at h
        exact hK35 _ (lh hk rfl (rg (sp 3 rfl (evn (hN _ _ h (okr rfl))))))
       rcases cond_some h with ⟨g39, h⟩ | ⟨g39, h⟩
       ·refine qT rfl g39 (rg (sp 3 rfl (?_)))
        obtain ⟨e40, g41, h⟩ := ob_some h
        refine qI rfl zci64 g41 (sp 1 rfl (?_))
        obtain ⟨g42, h⟩ := chk_some h
        exact qB rfl g42 rfl (sp 2 rfl (evn (kJ7 h _ (okr rfl))))
       ·exact qF rfl g39 (ls_skip (kJ7 h _ (okr rfl)))
      refine sp 2 rfl (?_)
      obtain ⟨e43, g44, h⟩ := ob_some h
      refine qI rfl zci64 g44 (sp 3 rfl (?_))
      rcases cond_some h with ⟨g45, h⟩ | ⟨g45, h⟩
      ·refine qg 74 g45 rfl (sp 2 rfl (?_))
       obtain ⟨e46, g47, h⟩ := ob_some h
       exact oGR rfl rfl (qI rfl zci64 g47 (sp 5 rfl (evn (kJ6 h _ (okr rfl)))))
      ·exact qg 74 g45 rfl (sp 8 rfl (evn (kJ6 h _ (okr rfl))))
     ·exact qF rfl g34 (ls_exit (kXB5 (Option.some.inj h) _ (okr rfl)))
    ·exact qF rfl g26 (ls_exit (kXB4 (Option.some.inj h) _ (okr rfl)))
   ·exact qF rfl g22 (ls_exit (kXB3 (Option.some.inj h) _ (okr rfl)))
  refine ls_rec (fun (s : Int × Int) => match s with | (y1, y2) => [(1, dL c115_d a1), (2, dL ci64 a2), (3, .box [nI a0.1, dL c124_d a0.2.1, dL ci64 a0.2.2]), (7, oL 3 ci64 []), (8, nI y1), (9, nI y2)]) _ _ _ _ hl (okr rfl) (fun _ => rfl) ?_
  rintro m ⟨y1, y2⟩ N h hN
  unfold spec_FDClosure_B1 at h
  dsimp only at h
  refine ls_seq_k fun K7 hK7 => rn 1 rfl ?_
  rcases cond_some h with ⟨g8, h⟩ | ⟨g8, h⟩
  ·refine qT rfl g8 (ls_skip (hK7 _ (ls_seq_k fun K9 hK9 => ls_blk (rd (by kernel_rfl) (sd 2 rfl (?_))))))
   obtain ⟨e10, g11, h⟩ := ob_some h
   refine ed rfl (qI rfl zci64 g11 (sd 4 rfl (?_)))
   obtain ⟨v12, g13, h⟩ := ob_some h
   refine ed rfl (qC (qs rfl (qs rfl (qs rfl eran))) (spec_l1In_s g13) (evdn ?_))
   have kJ2 : ∀ {x14 : Int}, spec_FDClosure_J2 (loopF (spec_FDClosure_B1 a0 a2) m) y2 x14 = some o1 → Jn K9 [(1, dL c115_d a1), (2, dL ci64 a2), (3, .box [nI a0.1, dL c124_d a0.2.1, dL ci64 a0.2.2]), (7, oL 3 ci64 []), (8, nI x14), (9, nI y2)] := by
    intro x14 h σ' hk
    unfold spec_FDClosure_J2 at h
    exact hK9 _ (lh hk rfl (rg (sp 3 rfl (evn (hN _ _ h (okr rfl))))))
   rcases cond_some h with ⟨g15, h⟩ | ⟨g15, h⟩
   ·refine qT rfl g15 (rg (sp 3 rfl (?_)))
    obtain ⟨e16, g17, h⟩ := ob_some h
    refine qI rfl zci64 g17 (sp 1 rfl (?_))
    obtain ⟨g18, h⟩ := chk_some h
    exact qB rfl g18 rfl (sp 2 rfl (evn (kJ2 h _ (okr rfl))))
   ·exact qF rfl g15 (ls_skip (kJ2 h _ (okr rfl)))
  ·exact qF rfl g8 (ls_exit (kXB1 (Option.some.inj h) _ (okr rfl)))
def laws_at (a0 : List Int) (a1 : Int) : Option (Int) := cond (decide (a1 < (List.length a0 : Int))) (obind (geti a0 a1) fun e3 => some (IntKind.i64.wrap e3)) (some (Int.tmod (IntKind.i64.wrap ((IntKind.i64.wrap (a1 * 37)) + (IntKind.i64.wrap ((List.length a0 : Int) * 11)))) 256))
theorem laws_at_s {a0 : List Int} {a1 : Int} {r : Int} (h : laws_at a0 a1 = some r) : SoundAt Try.prog 31 [dL cu8 a0, nI a1] (nI r) := by
 unfold laws_at at h
 refine st lit31 rfl (rn 1 rfl (ls_seq_k fun K1 hK1 => rn 1 rfl ?_))
 rcases cond_some h with ⟨g2, h⟩ | ⟨g2, h⟩
 ·refine qT rfl g2 (rs (sp 2 rfl (?_)))
  obtain ⟨e3, g4, h⟩ := ob_some h
  exact qI rfl zcu8 g4 (sp 3 rfl (evn (ls_ret ((by cases h; exact ⟨.inl rfl, rfl⟩)))))
 ·exact qF rfl g2 (ls_skip (hK1 _ (rn 1 rfl (ls_ret ((by cases h; exact ⟨.inl rfl, rfl⟩))))))
def laws_has_B1 (a0 : List Int) (a1 : Int) (rec : Int → Option (Sum (Unit) (Bool))) (y1 : Int) : Option (Sum (Unit) (Bool)) := cond (decide (y1 < (List.length a0 : Int))) (obind (geti a0 y1) fun e5 => cond (e5 == a1) (some (.inr true)) (rec (IntKind.i64.wrap (y1 + 1)))) (some (.inl ()))
def laws_has (a0 : List Int) (a1 : Int) : Option (Bool) := obind (loopF (laws_has_B1 a0 a1) fz 0) fun o1 => (match o1 with
  | .inl _ => (some false)
  | .inr r => some r)
theorem laws_has_s {a0 : List Int} {a1 : Int} {r : Bool} (h : laws_has a0 a1 = some r) : SoundAt Try.prog 32 [dL ci64 a0, nI a1] (.bool r) := by
 unfold laws_has at h
 refine st lit32 rfl (rn 1 rfl (ls_seq_k fun K1 hK1 => rn 1 rfl ?_))
 obtain ⟨o1, hl, hr1⟩ := ob_some h
 have kXB1 : (.inl ()) = o1 → Jn K1 [] := by
  intro h σ' hk
  subst h
  replace h := hr1
  try dsimp only at h
  exact hK1 _ (lh hk rfl (rn 1 rfl (ls_ret ((by cases h; exact ⟨.inl rfl, rfl⟩)))))
 refine ls_rec (fun (y1 : Int) => [(0, dL ci64 a0), (1, nI a1), (5, nI y1)]) _ _ _ _ hl (okr rfl) (fun _ => rfl) ?_
 rintro m y1 N h hN
 unfold laws_has_B1 at h
 refine ls_seq_k fun K2 hK2 => rn 1 rfl ?_
 rcases cond_some h with ⟨g3, h⟩ | ⟨g3, h⟩
 ·refine qT rfl g3 (ls_skip (hK2 _ (ls_seq_k fun K4 hK4 => ls_blk (rs (sp 2 rfl (?_))))))
  obtain ⟨e5, g6, h⟩ := ob_some h
  refine qI rfl zci64 g6 (sp 3 rfl (evn ?_))
  rcases cond_some h with ⟨g7, h⟩ | ⟨g7, h⟩
  ·exact qT rfl g7 (rn 1 rfl (ls_ret ((by cases h; cases hr1; exact ⟨.inl rfl, rfl⟩))))
  ·exact qF rfl g7 (ls_skip (hK4 _ (rg (sp 3 rfl (evn (hN _ _ h (okr rfl)))))))
 ·exact qF rfl g3 (ls_exit (kXB1 (Option.some.inj h) _ trivial))
end Go.Proofs.Ytcoalfphehhadaa
