/-
  Functions of the program as typed functions, printed by gen.py, and that the program's functions do what they say. No conditions.
-/
import Derived.Test.YtkclaipnejgloaaDoorKb
import Derived.Test.YtkclaipnejgloaaDoorLit2IC1
namespace Go.Proofs.YtkclaipnejgloaaDoor
open Go.RowKit
set_option linter.unusedVariables false
set_option maxRecDepth 100000
set_option maxHeartbeats 1000000
def laws_szIntS (a0 : List Int) (a1 : Int) : Option (Int) := cond (decide ((IntKind.i64.wrap (a1 - (List.length a0 : Int))) < 0)) (some (-1)) (some (IntKind.i64.wrap (a1 - (List.length a0 : Int))))
theorem laws_szIntS_s {a0 : List Int} {a1 : Int} {r : Int} (h : laws_szIntS a0 a1 = some r) : SoundAt Tryd.prog 13 [dL ci64 a0, nI a1] (nI r) := by
 unfold laws_szIntS at h
 refine st lit13 rfl (rn 2 rfl (ls_seq_k fun K1 hK1 => rn 1 rfl ?_))
 rcases cond_some h with ⟨g2, h⟩ | ⟨g2, h⟩
 ·exact qT rfl g2 (rn 1 rfl (ls_ret ((by cases h; exact ⟨.inl rfl, rfl⟩))))
 ·exact qF rfl g2 (ls_skip (hK1 _ (rn 1 rfl (ls_ret ((by cases h; exact ⟨.inl rfl, rfl⟩))))))
abbrev Y58 := (List UInt8) × (List Int)
def c59_d (x : Y58) : List V := [.str x.1, dL ci64 x.2]
theorem zc59_d (x : Y58) : (c59_d x).length = 2 := rfl
theorem ec59_d (x : Y58) : erL (c59_d x) = c59_d x := (erc rfl (erc (erD eci64 _) rfl))
def laws_szAtom (a0 : Y58) (a1 : Int) : Option (Int) := cond (decide ((IntKind.i64.wrap (a1 - (List.length a0.1 : Int))) < 0)) (some (-1)) (obind (laws_szIntS a0.2 (IntKind.i64.wrap (a1 - (List.length a0.1 : Int)))) fun v3 => cond (decide (v3 < 0)) (some (-1)) (some v3))
theorem laws_szAtom_s {a0 : Y58} {a1 : Int} {r : Int} (h : laws_szAtom a0 a1 = some r) : SoundAt Tryd.prog 31 [.agg (c59_d a0), nI a1] (nI r) := by
 unfold laws_szAtom at h
 refine st lit31 rfl (rn 2 rfl (ls_seq_k fun K1 hK1 => rn 1 rfl ?_))
 rcases cond_some h with ⟨g2, h⟩ | ⟨g2, h⟩
 ·exact qT rfl g2 (rn 1 rfl (ls_ret ((by cases h; exact ⟨.inl rfl, rfl⟩))))
 ·refine qF rfl g2 (ls_skip (hK1 _ (rs (sp 3 rfl (?_)))))
  obtain ⟨v3, g4, h⟩ := ob_some h
  refine qC (qa rfl (erD eci64 _) (qs rfl eran)) (laws_szIntS_s g4) (sp 1 rfl (evn (ls_seq_k fun K5 hK5 => rn 1 rfl ?_)))
  rcases cond_some h with ⟨g6, h⟩ | ⟨g6, h⟩
  ·exact qT rfl g6 (rn 1 rfl (qk [4] rfl (ls_ret ((by cases h; exact ⟨.inl rfl, rfl⟩)))))
  ·exact qF rfl g6 (ls_skip (hK5 _ (rn 1 rfl (ls_ret ((by cases h; exact ⟨.inl rfl, rfl⟩))))))
def laws_szAtomS_B1 (a0 : List Y58) (rec : (Int × Int) → Option (Sum (Int) (Int))) (s : Int × Int) : Option (Sum (Int) (Int)) := match s with
  | (y1, y2) => cond (decide (y2 < (List.length a0 : Int))) (obind (geti a0 y2) fun e8 => obind (laws_szAtom e8 y1) fun v10 => cond (decide (v10 < 0)) (some (.inr (-1))) (rec (v10, (IntKind.i64.wrap (y2 + 1))))) (some (.inl y1))
def laws_szAtomS (a0 : List Y58) (a1 : Int) : Option (Int) := cond (decide ((IntKind.i64.wrap (a1 - (List.length a0 : Int))) < 0)) (some (-1)) (obind (loopF (laws_szAtomS_B1 a0) fz ((IntKind.i64.wrap (a1 - (List.length a0 : Int))), 0)) fun o1 => (match o1 with
  | .inl z4 => (some z4)
  | .inr r => some r))
theorem laws_szAtomS_s {a0 : List Y58} {a1 : Int} {r : Int} (h : laws_szAtomS a0 a1 = some r) : SoundAt Tryd.prog 12 [dL c59_d a0, nI a1] (nI r) := by
 unfold laws_szAtomS at h
 refine st lit12 rfl (rn 2 rfl (ls_seq_k fun K1 hK1 => rn 1 rfl ?_))
 rcases cond_some h with ⟨g2, h⟩ | ⟨g2, h⟩
 ·exact qT rfl g2 (rn 1 rfl (ls_ret ((by cases h; exact ⟨.inl rfl, rfl⟩))))
 ·refine qF rfl g2 (ls_skip (hK1 _ (ls_seq_k fun K3 hK3 => rn 1 rfl ?_)))
  obtain ⟨o1, hl, hr1⟩ := ob_some h
  have kXB1 : ∀ {z4 : Int}, (.inl z4) = o1 → Jn K3 [(1, nI z4)] := by
   intro z4 h σ' hk
   subst h
   replace h := hr1
   try dsimp only at h
   exact hK3 _ (lh hk rfl (rn 1 rfl (ls_ret ((by cases h; exact ⟨.inl rfl, rfl⟩)))))
  refine ls_rec (fun (s : Int × Int) => match s with | (y1, y2) => [(0, dL c59_d a0), (1, nI y1), (5, nI y2)]) _ _ _ _ hl (okr rfl) (fun _ => rfl) ?_
  rintro m ⟨y1, y2⟩ N h hN
  unfold laws_szAtomS_B1 at h
  dsimp only at h
  refine ls_seq_k fun K5 hK5 => rn 1 rfl ?_
  rcases cond_some h with ⟨g6, h⟩ | ⟨g6, h⟩
  ·refine qT rfl g6 (ls_skip (hK5 _ (ls_seq_k fun K7 hK7 => ls_blk (rs (sp 2 rfl (?_))))))
   obtain ⟨e8, g9, h⟩ := ob_some h
   refine qI rfl zc59_d g9 (sp 2 rfl (?_))
   obtain ⟨v10, g11, h⟩ := ob_some h
   refine qC (qa rfl (erg (erc rfl (erc (erD eci64 _) rfl))) (qs rfl eran)) (laws_szAtom_s g11) (sp 1 rfl (evn (rn 1 rfl ?_)))
   rcases cond_some h with ⟨g12, h⟩ | ⟨g12, h⟩
   ·exact qT rfl g12 (rn 1 rfl (ls_ret ((by cases h; cases hr1; exact ⟨.inl rfl, rfl⟩))))
   ·exact qF rfl g12 (ls_skip (hK7 _ (rg (sp 3 rfl (evn (hN _ _ h (okr rfl)))))))
  ·exact qF rfl g6 (ls_exit (kXB1 (Option.some.inj h) _ (okr rfl)))
abbrev Y24 := Int × (List Y58) × (List Int)
def c25_ddd (x : Y24) : List V := [nI x.1, dL c59_d x.2.1, dL ci64 x.2.2]
theorem zc25_ddd (x : Y24) : (c25_ddd x).length = 3 := rfl
theorem ec25_ddd (x : Y24) : erL (c25_ddd x) = c25_ddd x := (erc rfl (erc (erD ec59_d _) (erc (erD eci64 _) rfl)))
def laws_szQuery (a0 : Y24) (a1 : Int) : Option (Int) := obind (laws_szAtomS a0.2.1 a1) fun v1 => cond (decide (v1 < 0)) (some (-1)) (obind (laws_szIntS a0.2.2 v1) fun v5 => cond (decide (v5 < 0)) (some (-1)) (some v5))
theorem laws_szQuery_s {a0 : Y24} {a1 : Int} {r : Int} (h : laws_szQuery a0 a1 = some r) : SoundAt Tryd.prog 4 [.agg (c25_ddd a0), nI a1] (nI r) := by
 unfold laws_szQuery at h
 refine st lit4 rfl (rn 1 rfl (rs (sp 3 rfl (?_))))
 obtain ⟨v1, g2, h⟩ := ob_some h
 refine qC (qa rfl (erD ec59_d _) (qs rfl eran)) (laws_szAtomS_s g2) (sp 1 rfl (evn (ls_seq_k fun K3 hK3 => rn 1 rfl ?_)))
 rcases cond_some h with ⟨g4, h⟩ | ⟨g4, h⟩
 ·exact qT rfl g4 (rn 1 rfl (ls_ret ((by cases h; exact ⟨.inl rfl, rfl⟩))))
 ·refine qF rfl g4 (ls_skip (hK3 _ (rs (sp 3 rfl (?_)))))
  obtain ⟨v5, g6, h⟩ := ob_some h
  refine qC (qa rfl (erD eci64 _) (qs rfl eran)) (laws_szIntS_s g6) (sp 1 rfl (evn (ls_seq_k fun K7 hK7 => rn 1 rfl ?_)))
  rcases cond_some h with ⟨g8, h⟩ | ⟨g8, h⟩
  ·exact qT rfl g8 (rn 1 rfl (qk [4] rfl (ls_ret ((by cases h; exact ⟨.inl rfl, rfl⟩)))))
  ·exact qF rfl g8 (ls_skip (hK7 _ (rn 1 rfl (ls_ret ((by cases h; exact ⟨.inl rfl, rfl⟩))))))
abbrev Y65 := Int × Int
def c82_ (x : Y65) : List V := [nI x.1, nI x.2]
theorem zc82_ (x : Y65) : (c82_ x).length = 2 := rfl
theorem ec82_ (x : Y65) : erL (c82_ x) = c82_ x := (erc rfl (erc rfl rfl))
def laws_szRationalS (a0 : List Y65) (a1 : Int) : Option (Int) := cond (decide ((IntKind.i64.wrap (a1 - (List.length a0 : Int))) < 0)) (some (-1)) (some (IntKind.i64.wrap (a1 - (List.length a0 : Int))))
theorem laws_szRationalS_s {a0 : List Y65} {a1 : Int} {r : Int} (h : laws_szRationalS a0 a1 = some r) : SoundAt Tryd.prog 14 [dL c82_ a0, nI a1] (nI r) := by
 unfold laws_szRationalS at h
 refine st lit14 rfl (rn 2 rfl (ls_seq_k fun K1 hK1 => rn 1 rfl ?_))
 rcases cond_some h with ⟨g2, h⟩ | ⟨g2, h⟩
 ·exact qT rfl g2 (rn 1 rfl (ls_ret ((by cases h; exact ⟨.inl rfl, rfl⟩))))
 ·exact qF rfl g2 (ls_skip (hK1 _ (rn 1 rfl (ls_ret ((by cases h; exact ⟨.inl rfl, rfl⟩))))))
abbrev Y27 := (List Int) × (List Y65) × (List Int) × Int × Int
def c28_ddd (x : Y27) : List V := [dL ci64 x.1, dL c82_ x.2.1, dL ci64 x.2.2.1, nI x.2.2.2.1, nI x.2.2.2.2]
theorem zc28_ddd (x : Y27) : (c28_ddd x).length = 5 := rfl
theorem ec28_ddd (x : Y27) : erL (c28_ddd x) = c28_ddd x := (erc (erD eci64 _) (erc (erD ec82_ _) (erc (erD eci64 _) (erc rfl (erc rfl rfl)))))
def laws_szCertificate (a0 : Y27) (a1 : Int) : Option (Int) := obind (laws_szIntS a0.1 a1) fun v1 => cond (decide (v1 < 0)) (some (-1)) (obind (laws_szRationalS a0.2.1 v1) fun v5 => cond (decide (v5 < 0)) (some (-1)) (obind (laws_szIntS a0.2.2.1 v5) fun v9 => cond (decide (v9 < 0)) (some (-1)) (some v9)))
theorem laws_szCertificate_s {a0 : Y27} {a1 : Int} {r : Int} (h : laws_szCertificate a0 a1 = some r) : SoundAt Tryd.prog 5 [.agg (c28_ddd a0), nI a1] (nI r) := by
 unfold laws_szCertificate at h
 refine st lit5 rfl (rn 1 rfl (rs (sp 3 rfl (?_))))
 obtain ⟨v1, g2, h⟩ := ob_some h
 refine qC (qa rfl (erD eci64 _) (qs rfl eran)) (laws_szIntS_s g2) (sp 1 rfl (evn (ls_seq_k fun K3 hK3 => rn 1 rfl ?_)))
 rcases cond_some h with ⟨g4, h⟩ | ⟨g4, h⟩
 ·exact qT rfl g4 (rn 1 rfl (ls_ret ((by cases h; exact ⟨.inl rfl, rfl⟩))))
 ·refine qF rfl g4 (ls_skip (hK3 _ (rs (sp 3 rfl (?_)))))
  obtain ⟨v5, g6, h⟩ := ob_some h
  refine qC (qa rfl (erD ec82_ _) (qs rfl eran)) (laws_szRationalS_s g6) (sp 1 rfl (evn (ls_seq_k fun K7 hK7 => rn 1 rfl ?_)))
  rcases cond_some h with ⟨g8, h⟩ | ⟨g8, h⟩
  ·exact qT rfl g8 (rn 1 rfl (qk [4] rfl (ls_ret ((by cases h; exact ⟨.inl rfl, rfl⟩)))))
  ·refine qF rfl g8 (ls_skip (hK7 _ (rs (sp 3 rfl (?_)))))
   obtain ⟨v9, g10, h⟩ := ob_some h
   refine qC (qa rfl (erD eci64 _) (qs rfl eran)) (laws_szIntS_s g10) (sp 1 rfl (evn (ls_seq_k fun K11 hK11 => rn 1 rfl ?_)))
   rcases cond_some h with ⟨g12, h⟩ | ⟨g12, h⟩
   ·exact qT rfl g12 (rn 1 rfl (ls_ret ((by cases h; exact ⟨.inl rfl, rfl⟩))))
   ·exact qF rfl g12 (ls_skip (hK11 _ (rn 1 rfl (ls_ret ((by cases h; exact ⟨.inl rfl, rfl⟩))))))
def spec_l1In_J1 (x2 : Bool) : Option (Bool) := some x2
def spec_l1In (a0 : Int) (a1 : Int) (a2 : Int) : Option (Bool) := cond (decide (a1 ≤ a0)) (spec_l1In_J1 (decide (a0 ≤ a2))) (spec_l1In_J1 false)
theorem spec_l1In_s {a0 : Int} {a1 : Int} {a2 : Int} {r : Bool} (h : spec_l1In a0 a1 a2 = some r) : SoundAt Tryd.prog 17 [nI a0, nI a1, nI a2] (.bool r) := by
 unfold spec_l1In at h
 refine st lit17 rfl (rn 1 rfl (rk fun K1 hK1 => ?_))
 have kJ1 : ∀ {x2 : Bool}, spec_l1In_J1 x2 = some r → Jn K1 [(6, .bool x2)] := by
  intro x2 h σ' hk
  unfold spec_l1In_J1 at h
  exact hK1 _ (lh hk rfl (ls_ret ((by cases h; exact ⟨.inl rfl, rfl⟩))))
 refine sp 4 rfl (?_)
 rcases cond_some h with ⟨g3, h⟩ | ⟨g3, h⟩
 ·exact qg 10 g3 rfl (sp 5 rfl (evn (kJ1 h _ (okr rfl))))
 ·exact qg 10 g3 rfl (sp 5 rfl (evn (kJ1 h _ (okr rfl))))
def c64_d (x : Y58) : List V := [.str x.1, dL ci64 x.2]
theorem zc64_d (x : Y58) : (c64_d x).length = 2 := rfl
theorem ec64_d (x : Y58) : erL (c64_d x) = c64_d x := (erc rfl (erc (erD eci64 _) rfl))
def spec_ContainsVariable_B1 (a0 : Y58) (a1 : Int) (rec : Int → Option (Sum (Unit) (Bool))) (y1 : Int) : Option (Sum (Unit) (Bool)) := cond (decide (y1 < (List.length a0.2 : Int))) (obind (geti a0.2 y1) fun e5 => cond (e5 == a1) (some (.inr true)) (rec (IntKind.i64.wrap (y1 + 1)))) (some (.inl ()))
def spec_ContainsVariable (a0 : Y58) (a1 : Int) : Option (Bool) := obind (loopF (spec_ContainsVariable_B1 a0 a1) fz 0) fun o1 => (match o1 with
  | .inl _ => (some false)
  | .inr r => some r)
theorem spec_ContainsVariable_s {a0 : Y58} {a1 : Int} {r : Bool} (h : spec_ContainsVariable a0 a1 = some r) : SoundAt Tryd.prog 35 [.agg (c64_d a0), nI a1] (.bool r) := by
 unfold spec_ContainsVariable at h
 refine st lit35 rfl (rn 1 rfl (ls_seq_k fun K1 hK1 => rn 1 rfl ?_))
 obtain ⟨o1, hl, hr1⟩ := ob_some h
 have kXB1 : (.inl ()) = o1 → Jn K1 [] := by
  intro h σ' hk
  subst h
  replace h := hr1
  try dsimp only at h
  exact hK1 _ (lh hk rfl (rn 1 rfl (ls_ret ((by cases h; exact ⟨.inl rfl, rfl⟩)))))
 refine ls_rec (fun (y1 : Int) => [(1, nI a1), (2, .box [.str a0.1, dL ci64 a0.2]), (5, nI y1)]) _ _ _ _ hl (okr rfl) (fun _ => rfl) ?_
 rintro m y1 N h hN
 unfold spec_ContainsVariable_B1 at h
 refine ls_seq_k fun K2 hK2 => rn 1 rfl ?_
 rcases cond_some h with ⟨g3, h⟩ | ⟨g3, h⟩
 ·refine qT rfl g3 (ls_skip (hK2 _ (ls_seq_k fun K4 hK4 => ls_blk (rs (sp 3 rfl (?_))))))
  obtain ⟨e5, g6, h⟩ := ob_some h
  refine qI rfl zci64 g6 (sp 3 rfl (evn ?_))
  rcases cond_some h with ⟨g7, h⟩ | ⟨g7, h⟩
  ·exact qT rfl g7 (rn 1 rfl (ls_ret ((by cases h; cases hr1; exact ⟨.inl rfl, rfl⟩))))
  ·exact qF rfl g7 (ls_skip (hK4 _ (rg (sp 3 rfl (evn (hN _ _ h (okr rfl)))))))
 ·exact qF rfl g3 (ls_exit (kXB1 (Option.some.inj h) _ trivial))
def spec_IsValidName_B1 (a0 : List UInt8) (rec : Int → Option (Sum (Unit) (Bool))) (y1 : Int) : Option (Sum (Unit) (Bool)) := cond (decide (y1 < (List.length a0 : Int))) (obind (geti a0 y1) fun b5 => cond (decide ((UInt8.toNat b5 : Int) < 97)) (some (.inr false)) (obind (geti a0 y1) fun b8 => cond (decide (122 < (UInt8.toNat b8 : Int))) (some (.inr false)) (rec (IntKind.i64.wrap (y1 + 1))))) (some (.inl ()))
def spec_IsValidName (a0 : List UInt8) : Option (Bool) := obind (loopF (spec_IsValidName_B1 a0) fz 0) fun o1 => (match o1 with
  | .inl _ => (obind (spec_l1In (List.length a0 : Int) 1 4) fun v11 => some v11)
  | .inr r => some r)
theorem spec_IsValidName_s {a0 : List UInt8} {r : Bool} (h : spec_IsValidName a0 = some r) : SoundAt Tryd.prog 56 [.str a0] (.bool r) := by
 unfold spec_IsValidName at h
 refine st lit56 rfl (rn 1 rfl (ls_seq_k fun K1 hK1 => rn 1 rfl ?_))
 obtain ⟨o1, hl, hr1⟩ := ob_some h
 have kXB1 : (.inl ()) = o1 → Jn K1 [(0, .str a0)] := by
  intro h σ' hk
  subst h
  replace h := hr1
  try dsimp only at h
  refine hK1 _ (lh hk rfl (rs (sp 2 rfl (?_))))
  obtain ⟨v11, g12, h⟩ := ob_some h
  exact qC (qs rfl (qs rfl (qs rfl eran))) (spec_l1In_s g12) (sp 1 rfl (evn (ls_ret ((by cases h; exact ⟨.inl rfl, rfl⟩)))))
 refine ls_rec (fun (y1 : Int) => [(0, .str a0), (3, nI y1)]) _ _ _ _ hl (okr rfl) (fun _ => rfl) ?_
 rintro m y1 N h hN
 unfold spec_IsValidName_B1 at h
 refine ls_seq_k fun K2 hK2 => rn 1 rfl ?_
 rcases cond_some h with ⟨g3, h⟩ | ⟨g3, h⟩
 ·refine qT rfl g3 (ls_skip (hK2 _ (ls_seq_k fun K4 hK4 => ls_blk (rs (sp 2 rfl (?_))))))
  obtain ⟨b5, g6, h⟩ := ob_some h
  refine qX rfl g6 (sp 2 rfl (?_))
  rcases cond_some h with ⟨g7, h⟩ | ⟨g7, h⟩
  ·exact qg 14 g7 rfl (sp 5 rfl (evn (qT rfl rfl (rn 1 rfl (ls_ret ((by cases h; cases hr1; exact ⟨.inl rfl, rfl⟩)))))))
  ·refine qg 14 g7 rfl (sp 2 rfl (?_))
   obtain ⟨b8, g9, h⟩ := ob_some h
   refine oGR rfl rfl (qX rfl g9 (sp 2 rfl (evn ?_)))
   rcases cond_some h with ⟨g10, h⟩ | ⟨g10, h⟩
   ·exact qT rfl g10 (rn 1 rfl (qk [2] rfl (ls_ret ((by cases h; cases hr1; exact ⟨.inl rfl, rfl⟩)))))
   ·exact qF rfl g10 (ls_skip (hK4 _ (rg (sp 3 rfl (evn (hN _ _ h (okr rfl)))))))
 ·exact qF rfl g3 (ls_exit (kXB1 (Option.some.inj h) _ (okr rfl)))
def spec_l7Find_B1 (a0 : List Int) (a1 : Int) (rec : Int → Option (Sum (Unit) (Int))) (y1 : Int) : Option (Sum (Unit) (Int)) := cond (decide (y1 < (List.length a0 : Int))) (obind (geti a0 y1) fun e5 => cond (e5 == a1) (some (.inr y1)) (rec (IntKind.i64.wrap (y1 + 1)))) (some (.inl ()))
def spec_l7Find (a0 : List Int) (a1 : Int) : Option (Int) := obind (loopF (spec_l7Find_B1 a0 a1) fz 0) fun o1 => (match o1 with
  | .inl _ => (some (-1))
  | .inr r => some r)
theorem spec_l7Find_s {a0 : List Int} {a1 : Int} {r : Int} (h : spec_l7Find a0 a1 = some r) : SoundAt Tryd.prog 57 [dL ci64 a0, nI a1] (nI r) := by
 unfold spec_l7Find at h
 refine st lit57 rfl (rn 1 rfl (ls_seq_k fun K1 hK1 => rn 1 rfl ?_))
 obtain ⟨o1, hl, hr1⟩ := ob_some h
 have kXB1 : (.inl ()) = o1 → Jn K1 [] := by
  intro h σ' hk
  subst h
  replace h := hr1
  try dsimp only at h
  exact hK1 _ (lh hk rfl (rn 1 rfl (ls_ret ((by cases h; exact ⟨.inl rfl, rfl⟩)))))
 refine ls_rec (fun (y1 : Int) => [(0, dL ci64 a0), (1, nI a1), (5, nI y1)]) _ _ _ _ hl (okr rfl) (fun _ => rfl) ?_
 rintro m y1 N h hN
 unfold spec_l7Find_B1 at h
 refine ls_seq_k fun K2 hK2 => rn 1 rfl ?_
 rcases cond_some h with ⟨g3, h⟩ | ⟨g3, h⟩
 ·refine qT rfl g3 (ls_skip (hK2 _ (ls_seq_k fun K4 hK4 => ls_blk (rs (sp 2 rfl (?_))))))
  obtain ⟨e5, g6, h⟩ := ob_some h
  refine qI rfl zci64 g6 (sp 3 rfl (evn ?_))
  rcases cond_some h with ⟨g7, h⟩ | ⟨g7, h⟩
  ·exact qT rfl g7 (rn 1 rfl (ls_ret ((by cases h; cases hr1; exact ⟨.inl rfl, rfl⟩))))
  ·exact qF rfl g7 (ls_skip (hK4 _ (rg (sp 3 rfl (evn (hN _ _ h (okr rfl)))))))
 ·exact qF rfl g3 (ls_exit (kXB1 (Option.some.inj h) _ trivial))
abbrev Y33 := Int × (List Y58) × (List Int)
def c34_ddd (x : Y33) : List V := [nI x.1, dL c64_d x.2.1, dL ci64 x.2.2]
theorem zc34_ddd (x : Y33) : (c34_ddd x).length = 3 := rfl
theorem ec34_ddd (x : Y33) : erL (c34_ddd x) = c34_ddd x := (erc rfl (erc (erD ec64_d _) (erc (erD eci64 _) rfl)))
def spec_IsValidQuery_B2 (a0 : Y33) (y2 : Int) (rec : Int → Option (Sum (Unit) (Bool))) (y4 : Int) : Option (Sum (Unit) (Bool)) := obind (geti a0.2.1 y2) fun e25 => cond (decide (y4 < (List.length e25.2 : Int))) (obind (geti a0.2.1 y2) fun e29 => obind (geti e29.2 y4) fun e31 => obind (spec_l1In e31 0 (IntKind.i64.wrap (a0.1 - 1))) fun v33 => cond (!v33) (some (.inr false)) (rec (IntKind.i64.wrap (y4 + 1)))) (some (.inl ()))
def spec_IsValidQuery_B1 (a0 : Y33) (rec : Int → Option (Sum (Unit) (Bool))) (y2 : Int) : Option (Sum (Unit) (Bool)) := cond (decide (y2 < (List.length a0.2.1 : Int))) (obind (geti a0.2.1 y2) fun e14 => obind (spec_IsValidName e14.1) fun v16 => cond (!v16) (some (.inr false)) (obind (geti a0.2.1 y2) fun e19 => obind (spec_l1In (List.length e19.2 : Int) 1 5) fun v21 => cond (!v21) (some (.inr false)) (obind (loopF (spec_IsValidQuery_B2 a0 y2) fz 0) fun o2 => (match o2 with
  | .inl _ => (rec (IntKind.i64.wrap (y2 + 1)))
  | .inr r => some (.inr r))))) (some (.inl ()))
def spec_IsValidQuery_J5 (rec : (Bool × Int) → Option (Bool)) (y11 : Int) (x45 : Bool) : Option (Bool) := rec (x45, (IntKind.i64.wrap (y11 + 1)))
def spec_IsValidQuery_B4 (a0 : Y33) (y7 : Int) (rec : (Bool × Int) → Option (Bool)) (s : Bool × Int) : Option (Bool) := match s with
  | (y10, y11) => cond (decide (y11 < (List.length a0.2.1 : Int))) (cond y10 (spec_IsValidQuery_J5 rec y11 true) (obind (geti a0.2.1 y11) fun e47 => obind (spec_ContainsVariable e47 y7) fun v49 => spec_IsValidQuery_J5 rec y11 v49)) (some y10)
def spec_IsValidQuery_B3 (a0 : Y33) (rec : Int → Option (Sum (Unit) (Bool))) (y7 : Int) : Option (Sum (Unit) (Bool)) := cond (decide (y7 < a0.1)) (obind (loopF (spec_IsValidQuery_B4 a0 y7) fz (false, 0)) fun z41 => cond (!z41) (some (.inr false)) (rec (IntKind.i64.wrap (y7 + 1)))) (some (.inl ()))
def spec_IsValidQuery_B6 (a0 : Y33) (rec : Int → Option (Sum (Unit) (Bool))) (y12 : Int) : Option (Sum (Unit) (Bool)) := cond (decide (y12 < (List.length a0.2.2 : Int))) (obind (geti a0.2.2 y12) fun e56 => obind (spec_l1In e56 0 (IntKind.i64.wrap (a0.1 - 1))) fun v58 => cond (!v58) (some (.inr false)) (chk ((0 : Int) ≤ 0 ∧ 0 ≤ y12 ∧ y12 ≤ (List.length a0.2.2 : Int)) (obind (geti a0.2.2 y12) fun e62 => obind (spec_l7Find (subl a0.2.2 0 y12) e62) fun v64 => cond (decide (0 ≤ v64)) (some (.inr false)) (rec (IntKind.i64.wrap (y12 + 1)))))) (some (.inl ()))
def spec_IsValidQuery (a0 : Y33) : Option (Bool) := obind (spec_l1In a0.1 1 5) fun v2 => cond (!v2) (some false) (obind (spec_l1In (List.length a0.2.1 : Int) 1 4) fun v5 => cond (!v5) (some false) (cond (decide (a0.1 < (List.length a0.2.2 : Int))) (some false) (obind (loopF (spec_IsValidQuery_B1 a0) fz 0) fun o1 => (match o1 with
  | .inl _ => (obind (loopF (spec_IsValidQuery_B3 a0) fz 0) fun o3 => (match o3 with
  | .inl _ => (obind (loopF (spec_IsValidQuery_B6 a0) fz 0) fun o6 => (match o6 with
  | .inl _ => (some true)
  | .inr r => some r))
  | .inr r => some r))
  | .inr r => some r))))
theorem spec_IsValidQuery_s {a0 : Y33} {r : Bool} (h : spec_IsValidQuery a0 = some r) : SoundAt Tryd.prog 32 [.agg (c34_ddd a0)] (.bool r) := by
 unfold spec_IsValidQuery at h
 refine st lit32 rfl (rn 1 rfl (ls_seq_k fun K1 hK1 => rs (sp 2 rfl (?_))))
 obtain ⟨v2, g3, h⟩ := ob_some h
 refine qC (qs rfl (qs rfl (qs rfl eran))) (spec_l1In_s g3) (sp 2 rfl (?_))
 rcases cond_some h with ⟨g4, h⟩ | ⟨g4, h⟩
 ·exact qg 13 g4 rfl (sp 14 rfl (evn (qT rfl rfl (rn 1 rfl (ls_ret ((by cases h; exact ⟨.inl rfl, rfl⟩)))))))
 ·refine qg 13 g4 rfl (sp 3 rfl (?_))
  obtain ⟨v5, g6, h⟩ := ob_some h
  refine oGR rfl rfl (qC (qs rfl (qs rfl (qs rfl eran))) (spec_l1In_s g6) (sp 3 rfl (?_)))
  rcases cond_some h with ⟨g7, h⟩ | ⟨g7, h⟩
  ·exact qg 20 g7 rfl (sp 7 rfl (evn (qk [1, 27] rfl (qT rfl rfl (rn 1 rfl (ls_ret ((by cases h; exact ⟨.inl rfl, rfl⟩))))))))
  ·refine qg 20 g7 rfl (sp 7 rfl (evn ?_))
   rcases cond_some h with ⟨g8, h⟩ | ⟨g8, h⟩
   ·exact qT rfl g8 (rn 1 rfl (ls_ret ((by cases h; exact ⟨.inl rfl, rfl⟩))))
   ·refine qF rfl g8 (ls_skip (hK1 _ (ls_seq_k fun K9 hK9 => rn 1 rfl ?_)))
    obtain ⟨o1, hl, hr1⟩ := ob_some h
    have kXB1 : (.inl ()) = o1 → Jn K9 [(1, .box [nI a0.1, dL c64_d a0.2.1, dL ci64 a0.2.2])] := by
     intro h σ' hk
     subst h
     replace h := hr1
     try dsimp only at h
     refine hK9 _ (lh hk rfl (ls_seq_k fun K36 hK36 => rn 1 rfl ?_))
     obtain ⟨o3, hl, hr3⟩ := ob_some h
     have kXB3 : (.inl ()) = o3 → Jn K36 [(1, .box [nI a0.1, dL c64_d a0.2.1, dL ci64 a0.2.2])] := by
      intro h σ' hk
      subst h
      replace h := hr3
      try dsimp only at h
      refine hK36 _ (lh hk rfl (ls_seq_k fun K52 hK52 => rn 1 rfl ?_))
      obtain ⟨o6, hl, hr6⟩ := ob_some h
      have kXB6 : (.inl ()) = o6 → Jn K52 [] := by
       intro h σ' hk
       subst h
       replace h := hr6
       try dsimp only at h
       exact hK52 _ (lh hk rfl (rn 1 rfl (ls_ret ((by cases h; exact ⟨.inl rfl, rfl⟩)))))
      refine ls_rec (fun (y12 : Int) => [(1, .box [nI a0.1, dL c64_d a0.2.1, dL ci64 a0.2.2]), (8, nI y12)]) _ _ _ _ hl (okr rfl) (fun _ => rfl) ?_
      rintro m y12 N h hN
      unfold spec_IsValidQuery_B6 at h
      refine ls_seq_k fun K53 hK53 => rn 1 rfl ?_
      rcases cond_some h with ⟨g54, h⟩ | ⟨g54, h⟩
      ·refine qT rfl g54 (ls_skip (hK53 _ (ls_seq_k fun K55 hK55 => ls_blk (rd (by kernel_rfl) (sd 3 rfl (?_))))))
       obtain ⟨e56, g57, h⟩ := ob_some h
       refine ed rfl (qI rfl zci64 g57 (sd 4 rfl (?_)))
       obtain ⟨v58, g59, h⟩ := ob_some h
       refine ed rfl (qC (qs rfl (qs rfl (qs rfl eran))) (spec_l1In_s g59) (sd 2 rfl (?_)))
       rcases cond_some h with ⟨g60, h⟩ | ⟨g60, h⟩
       ·exact qgd 121 g60 rfl (sd 12 rfl (evdn (qT rfl rfl (rn 1 rfl (qk [2] rfl (ls_ret ((by cases h; cases hr6; exact ⟨.inl rfl, rfl⟩))))))))
       ·refine qgd 121 g60 rfl (sd 3 rfl (?_))
        obtain ⟨g61, h⟩ := chk_some h
        refine ed rfl (oGR rfl rfl (qSl rfl zci64 g61 (sd 3 rfl (?_))))
        obtain ⟨e62, g63, h⟩ := ob_some h
        refine ed rfl (oGR rfl rfl (qI rfl zci64 g63 (sd 1 rfl (?_))))
        obtain ⟨v64, g65, h⟩ := ob_some h
        refine ed rfl (oGR rfl rfl (qC (qa rfl (erD eci64 _) (qs rfl eran)) (spec_l7Find_s g65) (sd 2 rfl (evdn ?_))))
        rcases cond_some h with ⟨g66, h⟩ | ⟨g66, h⟩
        ·exact qT rfl g66 (rn 1 rfl (ls_ret ((by cases h; cases hr6; exact ⟨.inl rfl, rfl⟩))))
        ·exact qF rfl g66 (ls_skip (hK55 _ (rg (sp 3 rfl (evn (hN _ _ h (okr rfl)))))))
      ·exact qF rfl g54 (ls_exit (kXB6 (Option.some.inj h) _ trivial))
     refine ls_rec (fun (y7 : Int) => [(1, .box [nI a0.1, dL c64_d a0.2.1, dL ci64 a0.2.2]), (5, nI y7)]) _ _ _ _ hl (okr rfl) (fun _ => rfl) ?_
     rintro m y7 N h hN
     unfold spec_IsValidQuery_B3 at h
     refine ls_seq_k fun K37 hK37 => rn 1 rfl ?_
     rcases cond_some h with ⟨g38, h⟩ | ⟨g38, h⟩
     ·refine qT rfl g38 (ls_skip (hK37 _ (ls_seq_k fun K39 hK39 => ls_blk (rn 1 rfl (ls_seq_k fun K40 hK40 => rn 1 rfl ?_)))))
      obtain ⟨o4, hl, hr4⟩ := ob_some h
      have kXB4 : ∀ {z41 : Bool}, z41 = o4 → Jn K40 [(1, .box [nI a0.1, dL c64_d a0.2.1, dL ci64 a0.2.2]), (5, nI y7), (6, .bool z41)] := by
       intro z41 h σ' hk
       subst h
       replace h := hr4
       try dsimp only at h
       refine hK40 _ (lh hk rfl (rn 1 rfl ?_))
       rcases cond_some h with ⟨g51, h⟩ | ⟨g51, h⟩
       ·exact qT rfl g51 (rn 1 rfl (ls_ret ((by cases h; cases hr3; exact ⟨.inl rfl, rfl⟩))))
       ·exact qF rfl g51 (ls_skip (hK39 _ (rg (sp 3 rfl (evn (hN _ _ h (okr rfl)))))))
      refine ls_rec (fun (s : Bool × Int) => match s with | (y10, y11) => [(1, .box [nI a0.1, dL c64_d a0.2.1, dL ci64 a0.2.2]), (5, nI y7), (6, .bool y10), (7, nI y11)]) _ _ _ _ hl (okr rfl) (fun _ => rfl) ?_
      rintro m ⟨y10, y11⟩ N h hN
      unfold spec_IsValidQuery_B4 at h
      dsimp only at h
      refine ls_seq_k fun K42 hK42 => rn 1 rfl ?_
      rcases cond_some h with ⟨g43, h⟩ | ⟨g43, h⟩
      ·refine qT rfl g43 (ls_skip (hK42 _ (ls_seq_k fun K44 hK44 => ls_blk ?_)))
       have kJ5 : ∀ {x45 : Bool}, spec_IsValidQuery_J5 (loopF (spec_IsValidQuery_B4 a0 y7) m) y11 x45 = some o4 → Jn K44 [(1, .box [nI a0.1, dL c64_d a0.2.1, dL ci64 a0.2.2]), (5, nI y7), (6, .bool x45), (7, nI y11)] := by
        intro x45 h σ' hk
        unfold spec_IsValidQuery_J5 at h
        exact hK44 _ (lh hk rfl (rg (sp 3 rfl (evn (hN _ _ h (okr rfl))))))
       refine rg (sp 2 rfl (?_))
       rcases cond_some h with ⟨g46, h⟩ | ⟨g46, h⟩
       ·exact qg 93 g46 rfl (sp 9 rfl (evn (kJ5 h _ (okr rfl))))
       ·refine qg 93 g46 rfl (sp 3 rfl (?_))
        obtain ⟨e47, g48, h⟩ := ob_some h
        refine oGR rfl rfl (qI rfl zc64_d g48 (sp 2 rfl (?_)))
        obtain ⟨v49, g50, h⟩ := ob_some h
        exact oGR rfl rfl (qC (qa rfl (erg (erc rfl (erc (erD eci64 _) rfl))) (qs rfl eran)) (spec_ContainsVariable_s g50) (sp 2 rfl (evn (kJ5 h _ (okr rfl)))))
      ·exact qF rfl g43 (ls_exit (kXB4 (Option.some.inj h) _ (okr rfl)))
     ·exact qF rfl g38 (ls_exit (kXB3 (Option.some.inj h) _ (okr rfl)))
    refine ls_rec (fun (y2 : Int) => [(1, .box [nI a0.1, dL c64_d a0.2.1, dL ci64 a0.2.2]), (3, nI y2)]) _ _ _ _ hl (okr rfl) (fun _ => rfl) ?_
    rintro m y2 N h hN
    unfold spec_IsValidQuery_B1 at h
    refine ls_seq_k fun K10 hK10 => rn 1 rfl ?_
    rcases cond_some h with ⟨g11, h⟩ | ⟨g11, h⟩
    ·refine qT rfl g11 (ls_skip (hK10 _ (ls_seq_k fun K12 hK12 => ls_blk (ls_seq_k fun K13 hK13 => rs (sp 3 rfl (?_))))))
     obtain ⟨e14, g15, h⟩ := ob_some h
     refine qI rfl zc64_d g15 (sp 2 rfl (?_))
     obtain ⟨v16, g17, h⟩ := ob_some h
     refine qC (qs rfl eran) (spec_IsValidName_s g17) (sp 2 rfl (?_))
     rcases cond_some h with ⟨g18, h⟩ | ⟨g18, h⟩
     ·exact qg 43 g18 rfl (sp 10 rfl (evn (qT rfl rfl (rn 1 rfl (ls_ret ((by cases h; cases hr1; exact ⟨.inl rfl, rfl⟩)))))))
     ·refine qg 43 g18 rfl (sp 3 rfl (?_))
      obtain ⟨e19, g20, h⟩ := ob_some h
      refine oGR rfl rfl (qI rfl zc64_d g20 (sp 3 rfl (?_)))
      obtain ⟨v21, g22, h⟩ := ob_some h
      refine oGR rfl rfl (qC (qs rfl (qs rfl (qs rfl eran))) (spec_l1In_s g22) (sp 2 rfl (evn (qk [1, 3, 53] rfl ?_))))
      rcases cond_some h with ⟨g23, h⟩ | ⟨g23, h⟩
      ·exact qT rfl g23 (rn 1 rfl (ls_ret ((by cases h; cases hr1; exact ⟨.inl rfl, rfl⟩))))
      ·refine qF rfl g23 (ls_skip (hK13 _ (rn 1 rfl ?_)))
       obtain ⟨o2, hl, hr2⟩ := ob_some h
       have kXB2 : (.inl ()) = o2 → Jn K12 [(1, .box [nI a0.1, dL c64_d a0.2.1, dL ci64 a0.2.2]), (3, nI y2)] := by
        intro h σ' hk
        subst h
        replace h := hr2
        try dsimp only at h
        exact hK12 _ (lh hk rfl (rg (sp 3 rfl (evn (hN _ _ h (okr rfl))))))
       refine ls_rec (fun (y4 : Int) => [(1, .box [nI a0.1, dL c64_d a0.2.1, dL ci64 a0.2.2]), (3, nI y2), (4, nI y4)]) _ _ _ _ hl (okr rfl) (fun _ => rfl) ?_
       rintro m y4 N h hN
       unfold spec_IsValidQuery_B2 at h
       refine ls_seq_k fun K24 hK24 => rs (sp 4 rfl (?_))
       obtain ⟨e25, g26, h⟩ := ob_some h
       refine qI rfl zc64_d g26 (sp 4 rfl (evn ?_))
       rcases cond_some h with ⟨g27, h⟩ | ⟨g27, h⟩
       ·refine qT rfl g27 (ls_skip (hK24 _ (ls_seq_k fun K28 hK28 => ls_blk (rd (by kernel_rfl) (sd 3 rfl (?_))))))
        obtain ⟨e29, g30, h⟩ := ob_some h
        refine ed rfl (qI rfl zc64_d g30 (sd 3 rfl (?_)))
        obtain ⟨e31, g32, h⟩ := ob_some h
        refine ed rfl (qI rfl zci64 g32 (sd 4 rfl (?_)))
        obtain ⟨v33, g34, h⟩ := ob_some h
        refine ed rfl (qC (qs rfl (qs rfl (qs rfl eran))) (spec_l1In_s g34) (sd 1 rfl (evdn ?_)))
        rcases cond_some h with ⟨g35, h⟩ | ⟨g35, h⟩
        ·exact qT rfl g35 (rn 1 rfl (ls_ret ((by cases h; cases hr2; cases hr1; exact ⟨.inl rfl, rfl⟩))))
        ·exact qF rfl g35 (ls_skip (hK28 _ (qk [1, 3, 4] rfl (rg (sp 3 rfl (evn (hN _ _ h (okr rfl))))))))
       ·exact qF rfl g27 (ls_exit (kXB2 (Option.some.inj h) _ (okr rfl)))
    ·exact qF rfl g11 (ls_exit (kXB1 (Option.some.inj h) _ (okr rfl)))
def spec_IsPermutation_B1 (a0 : List Int) (rec : Int → Option (Sum (Unit) (Bool))) (y1 : Int) : Option (Sum (Unit) (Bool)) := cond (decide (y1 < (List.length a0 : Int))) (obind (geti a0 y1) fun e5 => obind (spec_l1In e5 0 (IntKind.i64.wrap ((List.length a0 : Int) - 1))) fun v7 => cond (!v7) (some (.inr false)) (chk ((0 : Int) ≤ 0 ∧ 0 ≤ y1 ∧ y1 ≤ (List.length a0 : Int)) (obind (geti a0 y1) fun e11 => obind (spec_l7Find (subl a0 0 y1) e11) fun v13 => cond (decide (0 ≤ v13)) (some (.inr false)) (rec (IntKind.i64.wrap (y1 + 1)))))) (some (.inl ()))
def spec_IsPermutation (a0 : List Int) : Option (Bool) := obind (loopF (spec_IsPermutation_B1 a0) fz 0) fun o1 => (match o1 with
  | .inl _ => (some (decide ((List.length a0 : Int) ≤ 5)))
  | .inr r => some r)
theorem spec_IsPermutation_s {a0 : List Int} {r : Bool} (h : spec_IsPermutation a0 = some r) : SoundAt Tryd.prog 33 [dL ci64 a0] (.bool r) := by
 unfold spec_IsPermutation at h
 refine st lit33 rfl (rn 1 rfl (ls_seq_k fun K1 hK1 => rn 1 rfl ?_))
 obtain ⟨o1, hl, hr1⟩ := ob_some h
 have kXB1 : (.inl ()) = o1 → Jn K1 [(0, dL ci64 a0)] := by
  intro h σ' hk
  subst h
  replace h := hr1
  try dsimp only at h
  exact hK1 _ (lh hk rfl (rn 1 rfl (ls_ret ((by cases h; exact ⟨.inl rfl, rfl⟩)))))
 refine ls_rec (fun (y1 : Int) => [(0, dL ci64 a0), (3, nI y1)]) _ _ _ _ hl (okr rfl) (fun _ => rfl) ?_
 rintro m y1 N h hN
 unfold spec_IsPermutation_B1 at h
 refine ls_seq_k fun K2 hK2 => rn 1 rfl ?_
 rcases cond_some h with ⟨g3, h⟩ | ⟨g3, h⟩
 ·refine qT rfl g3 (ls_skip (hK2 _ (ls_seq_k fun K4 hK4 => ls_blk (rd (by kernel_rfl) (sd 2 rfl (?_))))))
  obtain ⟨e5, g6, h⟩ := ob_some h
  refine ed rfl (qI rfl zci64 g6 (sd 4 rfl (?_)))
  obtain ⟨v7, g8, h⟩ := ob_some h
  refine ed rfl (qC (qs rfl (qs rfl (qs rfl eran))) (spec_l1In_s g8) (sd 2 rfl (?_)))
  rcases cond_some h with ⟨g9, h⟩ | ⟨g9, h⟩
  ·exact qgd 19 g9 rfl (sd 10 rfl (evdn (qT rfl rfl (rn 1 rfl (ls_ret ((by cases h; cases hr1; exact ⟨.inl rfl, rfl⟩)))))))
  ·refine qgd 19 g9 rfl (sd 2 rfl (?_))
   obtain ⟨g10, h⟩ := chk_some h
   refine ed rfl (oGR rfl rfl (qSl rfl zci64 g10 (sd 2 rfl (?_))))
   obtain ⟨e11, g12, h⟩ := ob_some h
   refine ed rfl (oGR rfl rfl (qI rfl zci64 g12 (sd 1 rfl (?_))))
   obtain ⟨v13, g14, h⟩ := ob_some h
   refine ed rfl (oGR rfl rfl (qC (qa rfl (erD eci64 _) (qs rfl eran)) (spec_l7Find_s g14) (sd 2 rfl (evdn (qk [0, 3, 29] rfl ?_)))))
   rcases cond_some h with ⟨g15, h⟩ | ⟨g15, h⟩
   ·exact qT rfl g15 (rn 1 rfl (ls_ret ((by cases h; cases hr1; exact ⟨.inl rfl, rfl⟩))))
   ·exact qF rfl g15 (ls_skip (hK4 _ (rg (sp 3 rfl (evn (hN _ _ h (okr rfl)))))))
 ·exact qF rfl g3 (ls_exit (kXB1 (Option.some.inj h) _ (okr rfl)))
def spec_IsValidOrder_J1 (x2 : Bool) : Option (Bool) := some x2
def spec_IsValidOrder (a0 : Y33) (a1 : List Int) : Option (Bool) := obind (spec_IsValidQuery a0) fun v3 => cond v3 (cond ((List.length a1 : Int) == a0.1) (obind (spec_IsPermutation a1) fun v7 => spec_IsValidOrder_J1 v7) (spec_IsValidOrder_J1 false)) (spec_IsValidOrder_J1 false)
theorem spec_IsValidOrder_s {a0 : Y33} {a1 : List Int} {r : Bool} (h : spec_IsValidOrder a0 a1 = some r) : SoundAt Tryd.prog 15 [.agg (c34_ddd a0), dL ci64 a1] (.bool r) := by
 unfold spec_IsValidOrder at h
 refine st lit15 rfl (rn 1 rfl (rk fun K1 hK1 => ?_))
 have kJ1 : ∀ {x2 : Bool}, spec_IsValidOrder_J1 x2 = some r → Jn K1 [(4, .bool x2)] := by
  intro x2 h σ' hk
  unfold spec_IsValidOrder_J1 at h
  exact hK1 _ (lh hk rfl (ls_ret ((by cases h; exact ⟨.inl rfl, rfl⟩))))
 refine sp 1 rfl (?_)
 obtain ⟨v3, g4, h⟩ := ob_some h
 refine qC (qa rfl (erg (erc rfl (erc (erD ec64_d _) (erc (erD eci64 _) rfl)))) eran) (spec_IsValidQuery_s g4) (sp 1 rfl (?_))
 rcases cond_some h with ⟨g5, h⟩ | ⟨g5, h⟩
 ·refine qg 7 g5 rfl (sp 7 rfl (?_))
  rcases cond_some h with ⟨g6, h⟩ | ⟨g6, h⟩
  ·refine qg 14 g6 rfl (sp 1 rfl (?_))
   obtain ⟨v7, g8, h⟩ := ob_some h
   exact oGR rfl rfl (qC (qa rfl (erD eci64 _) eran) (spec_IsPermutation_s g8) (sp 2 rfl (evn (kJ1 h _ (okr rfl)))))
  ·exact qg 14 g6 rfl (sp 4 rfl (evn (kJ1 h _ (okr rfl))))
 ·exact qg 7 g5 rfl (sp 11 rfl (evn (kJ1 h _ (okr rfl))))
def spec_l2Gcd_B1  (rec : (Int × Int) → Option (Int)) (s : Int × Int) : Option (Int) := match s with
  | (y1, y2) => cond (y2 != 0) (chk (y2 ≠ 0) (rec (y2, (Int.tmod y1 y2)))) (some y1)
def spec_l2Gcd (a0 : Int) (a1 : Int) : Option (Int) := obind (loopF spec_l2Gcd_B1 fz (a0, a1)) fun z2 => some z2
theorem spec_l2Gcd_s {a0 : Int} {a1 : Int} {r : Int} (h : spec_l2Gcd a0 a1 = some r) : SoundAt Tryd.prog 60 [nI a0, nI a1] (nI r) := by
 unfold spec_l2Gcd at h
 refine st lit60 rfl (rn 1 rfl (ls_seq_k fun K1 hK1 => ?_))
 obtain ⟨o1, hl, hr1⟩ := ob_some h
 have kXB1 : ∀ {z2 : Int}, z2 = o1 → Jn K1 [(0, nI z2)] := by
  intro z2 h σ' hk
  subst h
  replace h := hr1
  try dsimp only at h
  exact hK1 _ (lh hk rfl (rn 1 rfl (ls_ret ((by cases h; exact ⟨.inl rfl, rfl⟩)))))
 refine ls_rec (fun (s : Int × Int) => match s with | (y1, y2) => [(0, nI y1), (1, nI y2)]) _ _ _ _ hl (okr rfl) (fun _ => rfl) ?_
 rintro m ⟨y1, y2⟩ N h hN
 unfold spec_l2Gcd_B1 at h
 dsimp only at h
 refine ls_seq_k fun K3 hK3 => rn 1 rfl ?_
 rcases cond_some h with ⟨g4, h⟩ | ⟨g4, h⟩
 ·refine qT rfl g4 (ls_skip (hK3 _ (ls_blk (rs (sp 2 rfl (?_))))))
  obtain ⟨g5, h⟩ := chk_some h
  exact qB rfl ⟨rfl, g5⟩ rfl (sp 1 rfl (evn (rn 1 rfl (rg (sp 2 rfl (evn (hN _ _ h (okr rfl))))))))
 ·exact qF rfl g4 (ls_exit (kXB1 (Option.some.inj h) _ (okr rfl)))
def c66_ (x : Y65) : List V := [nI x.1, nI x.2]
theorem zc66_ (x : Y65) : (c66_ x).length = 2 := rfl
theorem ec66_ (x : Y65) : erL (c66_ x) = c66_ x := (erc rfl (erc rfl rfl))
def spec_IsValidRational_J1 (x2 : Bool) : Option (Bool) := some x2
def spec_IsValidRational (a0 : Y65) : Option (Bool) := obind (spec_l1In a0.2 1 1000000000) fun v3 => cond v3 (obind (spec_l1In a0.1 (-1000000000) 1000000000) fun v6 => cond v6 (obind (spec_l2Gcd (if a0.1 < (IntKind.i64.wrap (0 - a0.1)) then (IntKind.i64.wrap (0 - a0.1)) else a0.1) a0.2) fun v9 => spec_IsValidRational_J1 (v9 == 1)) (spec_IsValidRational_J1 false)) (spec_IsValidRational_J1 false)
theorem spec_IsValidRational_s {a0 : Y65} {r : Bool} (h : spec_IsValidRational a0 = some r) : SoundAt Tryd.prog 58 [.agg (c66_ a0)] (.bool r) := by
 unfold spec_IsValidRational at h
 refine st lit58 rfl (rn 1 rfl (rk fun K1 hK1 => ?_))
 have kJ1 : ∀ {x2 : Bool}, spec_IsValidRational_J1 x2 = some r → Jn K1 [(2, .bool x2)] := by
  intro x2 h σ' hk
  unfold spec_IsValidRational_J1 at h
  exact hK1 _ (lh hk rfl (ls_ret ((by cases h; exact ⟨.inl rfl, rfl⟩))))
 refine sp 2 rfl (?_)
 obtain ⟨v3, g4, h⟩ := ob_some h
 refine qC (qs rfl (qs rfl (qs rfl eran))) (spec_l1In_s g4) (sp 1 rfl (?_))
 rcases cond_some h with ⟨g5, h⟩ | ⟨g5, h⟩
 ·refine qg 6 g5 rfl (sp 2 rfl (?_))
  obtain ⟨v6, g7, h⟩ := ob_some h
  refine oGR rfl rfl (qC (qs rfl (qs rfl (qs rfl eran))) (spec_l1In_s g7) (sp 2 rfl (?_)))
  rcases cond_some h with ⟨g8, h⟩ | ⟨g8, h⟩
  ·refine qg 11 g8 rfl (sp 8 rfl (?_))
   obtain ⟨v9, g10, h⟩ := ob_some h
   exact oGR rfl rfl (qC (qs rfl (qs rfl eran)) (spec_l2Gcd_s g10) (sp 3 rfl (evn (kJ1 h _ (okr rfl)))))
  ·exact qg 11 g8 rfl (sp 12 rfl (evn (kJ1 h _ (okr rfl))))
 ·exact qg 6 g5 rfl (sp 17 rfl (evn (kJ1 h _ (okr rfl))))
def spec_l12Small_B1 (a0 : List Y65) (rec : Int → Option (Sum (Unit) (Bool))) (y1 : Int) : Option (Sum (Unit) (Bool)) := cond (decide (y1 < (List.length a0 : Int))) (obind (geti a0 y1) fun e5 => obind (spec_IsValidRational e5) fun v7 => cond (!v7) (some (.inr false)) (obind (geti a0 y1) fun e10 => cond (decide (e10.1 < 0)) (some (.inr false)) (obind (geti a0 y1) fun e13 => cond (decide (1000 < e13.1)) (some (.inr false)) (obind (geti a0 y1) fun e16 => cond (decide (1000 < e16.2)) (some (.inr false)) (rec (IntKind.i64.wrap (y1 + 1))))))) (some (.inl ()))
def spec_l12Small (a0 : List Y65) (a1 : Int) : Option (Bool) := obind (loopF (spec_l12Small_B1 a0) fz 0) fun o1 => (match o1 with
  | .inl _ => (some ((List.length a0 : Int) == a1))
  | .inr r => some r)
theorem spec_l12Small_s {a0 : List Y65} {a1 : Int} {r : Bool} (h : spec_l12Small a0 a1 = some r) : SoundAt Tryd.prog 34 [dL c66_ a0, nI a1] (.bool r) := by
 unfold spec_l12Small at h
 refine st lit34 rfl (rn 1 rfl (ls_seq_k fun K1 hK1 => rn 1 rfl ?_))
 obtain ⟨o1, hl, hr1⟩ := ob_some h
 have kXB1 : (.inl ()) = o1 → Jn K1 [(0, dL c66_ a0), (1, nI a1)] := by
  intro h σ' hk
  subst h
  replace h := hr1
  try dsimp only at h
  exact hK1 _ (lh hk rfl (rn 1 rfl (ls_ret ((by cases h; exact ⟨.inl rfl, rfl⟩)))))
 refine ls_rec (fun (y1 : Int) => [(0, dL c66_ a0), (1, nI a1), (5, nI y1)]) _ _ _ _ hl (okr rfl) (fun _ => rfl) ?_
 rintro m y1 N h hN
 unfold spec_l12Small_B1 at h
 refine ls_seq_k fun K2 hK2 => rn 1 rfl ?_
 rcases cond_some h with ⟨g3, h⟩ | ⟨g3, h⟩
 ·refine qT rfl g3 (ls_skip (hK2 _ (ls_seq_k fun K4 hK4 => ls_blk (rs (sp 2 rfl (?_))))))
  obtain ⟨e5, g6, h⟩ := ob_some h
  refine qI rfl zc66_ g6 (sp 1 rfl (?_))
  obtain ⟨v7, g8, h⟩ := ob_some h
  refine qC (qa rfl (erg (erc rfl (erc rfl rfl))) eran) (spec_IsValidRational_s g8) (sp 2 rfl (?_))
  rcases cond_some h with ⟨g9, h⟩ | ⟨g9, h⟩
  ·exact qg 18 g9 rfl (sp 23 rfl (evn (qk [0, 1, 5, 41] rfl (qT rfl rfl (rn 1 rfl (ls_ret ((by cases h; cases hr1; exact ⟨.inl rfl, rfl⟩))))))))
  ·refine qg 18 g9 rfl (sp 2 rfl (?_))
   obtain ⟨e10, g11, h⟩ := ob_some h
   refine oGR rfl rfl (qI rfl zc66_ g11 (sp 5 rfl (?_)))
   rcases cond_some h with ⟨g12, h⟩ | ⟨g12, h⟩
   ·exact qg 26 g12 rfl (sp 15 rfl (evn (qT rfl rfl (rn 1 rfl (ls_ret ((by cases h; cases hr1; exact ⟨.inl rfl, rfl⟩)))))))
   ·refine qg 26 g12 rfl (sp 2 rfl (?_))
    obtain ⟨e13, g14, h⟩ := ob_some h
    refine oGR rfl rfl (qI rfl zc66_ g14 (sp 5 rfl (?_)))
    rcases cond_some h with ⟨g15, h⟩ | ⟨g15, h⟩
    ·exact qg 34 g15 rfl (sp 7 rfl (evn (qk [0, 1, 5, 41] rfl (qT rfl rfl (rn 1 rfl (ls_ret ((by cases h; cases hr1; exact ⟨.inl rfl, rfl⟩))))))))
    ·refine qg 34 g15 rfl (sp 2 rfl (?_))
     obtain ⟨e16, g17, h⟩ := ob_some h
     refine oGR rfl rfl (qI rfl zc66_ g17 (sp 4 rfl (evn ?_)))
     rcases cond_some h with ⟨g18, h⟩ | ⟨g18, h⟩
     ·exact qT rfl g18 (rn 1 rfl (ls_ret ((by cases h; cases hr1; exact ⟨.inl rfl, rfl⟩))))
     ·exact qF rfl g18 (ls_skip (hK4 _ (rg (sp 3 rfl (evn (hN _ _ h (okr rfl)))))))
 ·exact qF rfl g3 (ls_exit (kXB1 (Option.some.inj h) _ (okr rfl)))
def spec_NewRational_J1 (x10 : Int) (x11 : Int) : Option (Y65 × Bool) := obind (spec_l2Gcd (if x10 < (IntKind.i64.wrap (0 - x10)) then (IntKind.i64.wrap (0 - x10)) else x10) x11) fun v12 => chk (v12 ≠ 0) (chk (v12 ≠ 0) (obind (spec_IsValidRational (IntKind.i64.wrap (Int.tdiv x10 v12), IntKind.i64.wrap (Int.tdiv x11 v12))) fun v17 => cond (!v17) (some ((0, 0), false)) (some ((IntKind.i64.wrap (Int.tdiv x10 v12), IntKind.i64.wrap (Int.tdiv x11 v12)), true))))
def spec_NewRational (a0 : Int) (a1 : Int) : Option (Y65 × Bool) := cond (a1 == 0) (some ((0, 0), false)) (obind (spec_l1In a0 (IntKind.i64.wrap (0 - 4000000000000000000)) 4000000000000000000) fun v3 => cond (!v3) (some ((0, 0), false)) (obind (spec_l1In a1 (IntKind.i64.wrap (0 - 4000000000000000000)) 4000000000000000000) fun v6 => cond (!v6) (some ((0, 0), false)) (cond (decide (a1 < 0)) (spec_NewRational_J1 (IntKind.i64.wrap (0 - a0)) (IntKind.i64.wrap (0 - a1))) (spec_NewRational_J1 a0 a1))))
theorem spec_NewRational_s {a0 : Int} {a1 : Int} {r : Y65 × Bool} (h : spec_NewRational a0 a1 = some r) : SoundAt Tryd.prog 75 [nI a0, nI a1] (.tup [.agg (c66_ r.1), .bool r.2]) := by
 unfold spec_NewRational at h
 refine st lit75 rfl (rn 2 rfl (ls_seq_k fun K1 hK1 => rs (sp 3 rfl (?_))))
 rcases cond_some h with ⟨g2, h⟩ | ⟨g2, h⟩
 ·exact qg 11 g2 rfl (sp 15 rfl (evn (qT rfl rfl (rn 1 rfl (ls_ret ((by cases h; exact ⟨.inl rfl, rfl⟩)))))))
 ·refine qg 11 g2 rfl (sp 4 rfl (?_))
  obtain ⟨v3, g4, h⟩ := ob_some h
  refine oGR rfl rfl (qC (qs rfl (qs rfl (qs rfl eran))) (spec_l1In_s g4) (sp 3 rfl (?_)))
  rcases cond_some h with ⟨g5, h⟩ | ⟨g5, h⟩
  ·exact qg 19 g5 rfl (sp 7 rfl (evn (qk [0, 1, 4, 26] rfl (qT rfl rfl (rn 1 rfl (ls_ret ((by cases h; exact ⟨.inl rfl, rfl⟩))))))))
  ·refine qg 19 g5 rfl (sp 4 rfl (?_))
   obtain ⟨v6, g7, h⟩ := ob_some h
   refine oGR rfl rfl (qC (qs rfl (qs rfl (qs rfl eran))) (spec_l1In_s g7) (sp 2 rfl (evn ?_)))
   rcases cond_some h with ⟨g8, h⟩ | ⟨g8, h⟩
   ·exact qT rfl g8 (rn 1 rfl (ls_ret ((by cases h; exact ⟨.inl rfl, rfl⟩))))
   ·refine qF rfl g8 (ls_skip (hK1 _ (ls_seq_k fun K9 hK9 => rn 1 rfl ?_)))
    have kJ1 : ∀ {x10 : Int} {x11 : Int}, spec_NewRational_J1 x10 x11 = some r → Jn K9 [(0, nI x10), (1, nI x11), (4, .box [nI 0, nI 0])] := by
     intro x10 x11 h σ' hk
     unfold spec_NewRational_J1 at h
     refine hK9 _ (lh hk rfl (rs (sp 5 rfl (?_))))
     obtain ⟨v12, g13, h⟩ := ob_some h
     refine qC (qs rfl (qs rfl eran)) (spec_l2Gcd_s g13) (sp 1 rfl (evn (rd (by kernel_rfl) (sd 2 rfl (?_)))))
     obtain ⟨g14, h⟩ := chk_some h
     refine ed rfl (qB rfl ⟨rfl, g14⟩ rfl (sd 2 rfl (?_)))
     obtain ⟨g15, h⟩ := chk_some h
     refine ed rfl (qB rfl ⟨rfl, g15⟩ rfl (sd 3 rfl (evdn (ls_seq_k fun K16 hK16 => rs (sp 1 rfl (?_))))))
     obtain ⟨v17, g18, h⟩ := ob_some h
     refine qC (qa rfl (erg (erc rfl (erc rfl rfl))) eran) (spec_IsValidRational_s g18) (sp 1 rfl (evn ?_))
     rcases cond_some h with ⟨g19, h⟩ | ⟨g19, h⟩
     ·exact qT rfl g19 (rn 1 rfl (ls_ret ((by cases h; exact ⟨.inl rfl, rfl⟩))))
     ·exact qF rfl g19 (ls_skip (hK16 _ (rn 1 rfl (ls_ret ((by cases h; exact ⟨.inl rfl, rfl⟩))))))
    rcases cond_some h with ⟨g20, h⟩ | ⟨g20, h⟩
    ·exact qT rfl g20 (rn 1 rfl (qk [0, 1, 4] rfl (rg (sp 3 rfl (evn (kJ1 h _ (okr rfl)))))))
    ·exact qF rfl g20 (ls_skip (kJ1 h _ (okr rfl)))
def spec_AddRational (a0 : Y65) (a1 : Y65) : Option (Y65 × Bool) := obind (spec_IsValidRational a0) fun v2 => cond (!v2) (some ((0, 0), false)) (obind (spec_IsValidRational a1) fun v5 => cond (!v5) (some ((0, 0), false)) (obind (spec_NewRational (IntKind.i64.wrap ((IntKind.i64.wrap (a0.1 * a1.2)) + (IntKind.i64.wrap (a1.1 * a0.2)))) (IntKind.i64.wrap (a0.2 * a1.2))) fun v8 => some (v8.1, v8.2)))
theorem spec_AddRational_s {a0 : Y65} {a1 : Y65} {r : Y65 × Bool} (h : spec_AddRational a0 a1 = some r) : SoundAt Tryd.prog 59 [.agg (c66_ a0), .agg (c66_ a1)] (.tup [.agg (c66_ r.1), .bool r.2]) := by
 unfold spec_AddRational at h
 refine st lit59 rfl (rn 1 rfl (ls_seq_k fun K1 hK1 => rs (sp 1 rfl (?_))))
 obtain ⟨v2, g3, h⟩ := ob_some h
 refine qC (qa rfl (erg (erc rfl (erc rfl rfl))) eran) (spec_IsValidRational_s g3) (sp 2 rfl (?_))
 rcases cond_some h with ⟨g4, h⟩ | ⟨g4, h⟩
 ·exact qg 11 g4 rfl (sp 4 rfl (evn (qT rfl rfl (rn 1 rfl (ls_ret ((by cases h; exact ⟨.inl rfl, rfl⟩)))))))
 ·refine qg 11 g4 rfl (sp 1 rfl (?_))
  obtain ⟨v5, g6, h⟩ := ob_some h
  refine oGR rfl rfl (qC (qa rfl (erg (erc rfl (erc rfl rfl))) eran) (spec_IsValidRational_s g6) (sp 2 rfl (evn ?_)))
  rcases cond_some h with ⟨g7, h⟩ | ⟨g7, h⟩
  ·exact qT rfl g7 (rn 1 rfl (ls_ret ((by cases h; exact ⟨.inl rfl, rfl⟩))))
  ·refine qF rfl g7 (ls_skip (hK1 _ (rs (sp 16 rfl (?_)))))
   obtain ⟨v8, g9, h⟩ := ob_some h
   exact qC (qs rfl (qs rfl eran)) (spec_NewRational_s g9) (sp 6 rfl (evn (qk [4, 6, 7] rfl (rn 1 rfl (ls_ret ((by cases h; exact ⟨.inl rfl, rfl⟩)))))))
def spec_SumRationals_B1 (a0 : List Y65) (rec : (Int × Int × Int) → Option (Sum (Int × Int) (Y65 × Bool))) (s : Int × Int × Int) : Option (Sum (Int × Int) (Y65 × Bool)) := match s with
  | (y1, y2, y3) => cond (decide (y3 < (List.length a0 : Int))) (obind (geti a0 y3) fun e7 => obind (spec_AddRational (y1, y2) e7) fun v9 => cond (!v9.2) (some (.inr ((0, 0), false))) (rec (v9.1.1, v9.1.2, (IntKind.i64.wrap (y3 + 1))))) (some (.inl (y1, y2)))
def spec_SumRationals (a0 : List Y65) : Option (Y65 × Bool) := obind (loopF (spec_SumRationals_B1 a0) fz (0, 1, 0)) fun o1 => (match o1 with
  | .inl (z2, z3) => (some ((z2, z3), true))
  | .inr r => some r)
theorem spec_SumRationals_s {a0 : List Y65} {r : Y65 × Bool} (h : spec_SumRationals a0 = some r) : SoundAt Tryd.prog 36 [dL c66_ a0] (.tup [.agg (c66_ r.1), .bool r.2]) := by
 unfold spec_SumRationals at h
 refine st lit36 rfl (rn 2 rfl (ls_seq_k fun K1 hK1 => rn 1 rfl ?_))
 obtain ⟨o1, hl, hr1⟩ := ob_some h
 have kXB1 : ∀ {z2 : Int} {z3 : Int}, (.inl (z2, z3)) = o1 → Jn K1 [(2, .box [nI 0, nI 0]), (4, .box [nI z2, nI z3])] := by
  intro z2 z3 h σ' hk
  subst h
  replace h := hr1
  try dsimp only at h
  exact hK1 _ (lh hk rfl (rn 1 rfl (ls_ret ((by cases h; exact ⟨.inl rfl, rfl⟩)))))
 refine ls_rec (fun (s : Int × Int × Int) => match s with | (y1, y2, y3) => [(0, dL c66_ a0), (2, .box [nI 0, nI 0]), (4, .box [nI y1, nI y2]), (5, nI y3)]) _ _ _ _ hl (okr rfl) (fun _ => rfl) ?_
 rintro m ⟨y1, y2, y3⟩ N h hN
 unfold spec_SumRationals_B1 at h
 dsimp only at h
 refine ls_seq_k fun K4 hK4 => rn 1 rfl ?_
 rcases cond_some h with ⟨g5, h⟩ | ⟨g5, h⟩
 ·refine qT rfl g5 (ls_skip (hK4 _ (ls_seq_k fun K6 hK6 => ls_blk (rd (by kernel_rfl) (sd 3 rfl (?_))))))
  obtain ⟨e7, g8, h⟩ := ob_some h
  refine ed rfl (qI rfl zc66_ g8 (sd 1 rfl (?_)))
  obtain ⟨v9, g10, h⟩ := ob_some h
  refine ed rfl (qC (qa rfl (erg (erc rfl (erc rfl rfl))) (qa rfl (erg (erc rfl (erc rfl rfl))) eran)) (spec_AddRational_s g10) (sd 6 rfl (evdn (ls_seq_k fun K11 hK11 => rn 1 rfl ?_))))
  rcases cond_some h with ⟨g12, h⟩ | ⟨g12, h⟩
  ·exact qT rfl g12 (rn 1 rfl (ls_ret ((by cases h; cases hr1; exact ⟨.inl rfl, rfl⟩))))
  ·exact qF rfl g12 (ls_skip (hK11 _ (qk [0, 2, 4, 5, 6] rfl (rg (sp 2 rfl (evn (hK6 _ (rg (sp 3 rfl (evn (hN _ _ h (okr rfl))))))))))))
 ·exact qF rfl g5 (ls_exit (kXB1 (Option.some.inj h) _ (okr rfl)))
def spec_CompareRationals (a0 : Y65) (a1 : Y65) : Option (Int) := obind (spec_IsValidRational a0) fun v2 => cond (!v2) (some 0) (obind (spec_IsValidRational a1) fun v5 => cond (!v5) (some 0) (cond (decide ((IntKind.i64.wrap (a0.1 * a1.2)) < (IntKind.i64.wrap (a1.1 * a0.2)))) (some (-1)) (cond (decide ((IntKind.i64.wrap (a1.1 * a0.2)) < (IntKind.i64.wrap (a0.1 * a1.2)))) (some 1) (some 0))))
theorem spec_CompareRationals_s {a0 : Y65} {a1 : Y65} {r : Int} (h : spec_CompareRationals a0 a1 = some r) : SoundAt Tryd.prog 37 [.agg (c66_ a0), .agg (c66_ a1)] (nI r) := by
 unfold spec_CompareRationals at h
 refine st lit37 rfl (rn 1 rfl (ls_seq_k fun K1 hK1 => rs (sp 1 rfl (?_))))
 obtain ⟨v2, g3, h⟩ := ob_some h
 refine qC (qa rfl (erg (erc rfl (erc rfl rfl))) eran) (spec_IsValidRational_s g3) (sp 2 rfl (?_))
 rcases cond_some h with ⟨g4, h⟩ | ⟨g4, h⟩
 ·exact qg 10 g4 rfl (sp 4 rfl (evn (qT rfl rfl (rn 1 rfl (ls_ret ((by cases h; exact ⟨.inl rfl, rfl⟩)))))))
 ·refine qg 10 g4 rfl (sp 1 rfl (?_))
  obtain ⟨v5, g6, h⟩ := ob_some h
  refine oGR rfl rfl (qC (qa rfl (erg (erc rfl (erc rfl rfl))) eran) (spec_IsValidRational_s g6) (sp 2 rfl (evn ?_)))
  rcases cond_some h with ⟨g7, h⟩ | ⟨g7, h⟩
  ·exact qT rfl g7 (rn 1 rfl (ls_ret ((by cases h; exact ⟨.inl rfl, rfl⟩))))
  ·refine qF rfl g7 (ls_skip (hK1 _ (rn 1 rfl (qk [2, 3, 5] rfl (rn 1 rfl (ls_seq_k fun K8 hK8 => rn 1 rfl ?_))))))
   rcases cond_some h with ⟨g9, h⟩ | ⟨g9, h⟩
   ·exact qT rfl g9 (rn 1 rfl (ls_ret ((by cases h; exact ⟨.inl rfl, rfl⟩))))
   ·refine qF rfl g9 (ls_skip (hK8 _ (ls_seq_k fun K10 hK10 => rn 1 rfl ?_)))
    rcases cond_some h with ⟨g11, h⟩ | ⟨g11, h⟩
    ·exact qT rfl g11 (rn 1 rfl (ls_ret ((by cases h; exact ⟨.inl rfl, rfl⟩))))
    ·exact qF rfl g11 (ls_skip (hK10 _ (rn 1 rfl (qk [4] rfl (ls_ret ((by cases h; exact ⟨.inl rfl, rfl⟩)))))))
def spec_IsFractionalCover_J3 (rec : ((List Y65) × Int) → Option ((List Y65))) (y7 : Int) (x21 : List Y65) : Option ((List Y65)) := rec (x21, (IntKind.i64.wrap (y7 + 1)))
def spec_IsFractionalCover_B2 (a0 : Y33) (a1 : List Y65) (y3 : Int) (rec : ((List Y65) × Int) → Option ((List Y65))) (s : (List Y65) × Int) : Option ((List Y65)) := match s with
  | (y6, y7) => cond (decide (y7 < (List.length a1 : Int))) (obind (geti a0.2.1 y7) fun e17 => obind (spec_ContainsVariable e17 y3) fun v19 => cond v19 (obind (geti a1 y7) fun e23 => chk (List.length y6 + List.length [e23] ≤ lim) (spec_IsFractionalCover_J3 rec y7 (y6 ++ [e23]))) (spec_IsFractionalCover_J3 rec y7 y6)) (some y6)
def spec_IsFractionalCover_B1 (a0 : Y33) (a1 : List Y65) (rec : Int → Option (Sum (Unit) (Bool))) (y3 : Int) : Option (Sum (Unit) (Bool)) := cond (decide (y3 < a0.1)) (obind (loopF (spec_IsFractionalCover_B2 a0 a1 y3) fz (([] : List Y65), 0)) fun z13 => obind (spec_SumRationals z13) fun v26 => cond (!v26.2) (some (.inr false)) (obind (spec_CompareRationals v26.1 (1, 1)) fun v29 => cond (decide (v29 < 0)) (some (.inr false)) (rec (IntKind.i64.wrap (y3 + 1))))) (some (.inl ()))
def spec_IsFractionalCover (a0 : Y33) (a1 : List Y65) : Option (Bool) := obind (spec_IsValidQuery a0) fun v2 => cond (!v2) (some false) (obind (spec_l12Small a1 (List.length a0.2.1 : Int)) fun v5 => cond (!v5) (some false) (obind (loopF (spec_IsFractionalCover_B1 a0 a1) fz 0) fun o1 => (match o1 with
  | .inl _ => (some true)
  | .inr r => some r)))
theorem spec_IsFractionalCover_s {a0 : Y33} {a1 : List Y65} {r : Bool} (h : spec_IsFractionalCover a0 a1 = some r) : SoundAt Tryd.prog 16 [.agg (c34_ddd a0), dL c66_ a1] (.bool r) := by
 unfold spec_IsFractionalCover at h
 refine st lit16 rfl (rn 1 rfl (ls_seq_k fun K1 hK1 => rs (sp 1 rfl (?_))))
 obtain ⟨v2, g3, h⟩ := ob_some h
 refine qC (qa rfl (erg (erc rfl (erc (erD ec64_d _) (erc (erD eci64 _) rfl)))) eran) (spec_IsValidQuery_s g3) (sp 2 rfl (?_))
 rcases cond_some h with ⟨g4, h⟩ | ⟨g4, h⟩
 ·exact qg 13 g4 rfl (sp 7 rfl (evn (qT rfl rfl (rn 1 rfl (ls_ret ((by cases h; exact ⟨.inl rfl, rfl⟩)))))))
 ·refine qg 13 g4 rfl (sp 4 rfl (?_))
  obtain ⟨v5, g6, h⟩ := ob_some h
  refine oGR rfl rfl (qC (qa rfl (erD ec66_ _) (qs rfl eran)) (spec_l12Small_s g6) (sp 2 rfl (evn ?_)))
  rcases cond_some h with ⟨g7, h⟩ | ⟨g7, h⟩
  ·exact qT rfl g7 (rn 1 rfl (ls_ret ((by cases h; exact ⟨.inl rfl, rfl⟩))))
  ·refine qF rfl g7 (ls_skip (hK1 _ (qk [1, 2] rfl (ls_seq_k fun K8 hK8 => rn 1 rfl ?_))))
   obtain ⟨o1, hl, hr1⟩ := ob_some h
   have kXB1 : (.inl ()) = o1 → Jn K8 [] := by
    intro h σ' hk
    subst h
    replace h := hr1
    try dsimp only at h
    exact hK8 _ (lh hk rfl (rn 1 rfl (ls_ret ((by cases h; exact ⟨.inl rfl, rfl⟩)))))
   refine ls_rec (fun (y3 : Int) => [(1, dL c66_ a1), (2, .box [nI a0.1, dL c64_d a0.2.1, dL ci64 a0.2.2]), (5, nI y3)]) _ _ _ _ hl (okr rfl) (fun _ => rfl) ?_
   rintro m y3 N h hN
   unfold spec_IsFractionalCover_B1 at h
   refine ls_seq_k fun K9 hK9 => rn 1 rfl ?_
   rcases cond_some h with ⟨g10, h⟩ | ⟨g10, h⟩
   ·refine qT rfl g10 (ls_skip (hK9 _ (ls_seq_k fun K11 hK11 => ls_blk (rs (qBs c66_ [] rfl rfl rfl zc66_ (sp 1 rfl (evn (ls_seq_k fun K12 hK12 => rn 1 rfl ?_))))))))
    obtain ⟨o2, hl, hr2⟩ := ob_some h
    have kXB2 : ∀ {z13 : List Y65}, z13 = o2 → Jn K12 [(1, dL c66_ a1), (2, .box [nI a0.1, dL c64_d a0.2.1, dL ci64 a0.2.2]), (5, nI y3), (6, oL 66 c66_ z13)] := by
     intro z13 h σ' hk
     subst h
     replace h := hr2
     try dsimp only at h
     refine hK12 _ (lh hk rfl (rs (sp 1 rfl (?_))))
     obtain ⟨v26, g27, h⟩ := ob_some h
     refine qC (qa rfl (erD ec66_ _) eran) (spec_SumRationals_s g27) (sp 6 rfl (evn (rs (sp 3 rfl (?_)))))
     rcases cond_some h with ⟨g28, h⟩ | ⟨g28, h⟩
     ·exact qg 55 g28 rfl (sp 5 rfl (evn (qT rfl rfl (rn 1 rfl (ls_ret ((by cases h; cases hr1; exact ⟨.inl rfl, rfl⟩)))))))
     ·refine qg 55 g28 rfl (sp 2 rfl (?_))
      obtain ⟨v29, g30, h⟩ := ob_some h
      refine oGR rfl rfl (qC (qa rfl (erg (erc rfl (erc rfl rfl))) (qa rfl (erg (erc rfl (erc rfl rfl))) eran)) (spec_CompareRationals_s g30) (sp 2 rfl (evn ?_)))
      rcases cond_some h with ⟨g31, h⟩ | ⟨g31, h⟩
      ·exact qT rfl g31 (rn 1 rfl (ls_ret ((by cases h; cases hr1; exact ⟨.inl rfl, rfl⟩))))
      ·exact qF rfl g31 (ls_skip (hK11 _ (qk [1, 2, 5] rfl (rg (sp 3 rfl (evn (hN _ _ h (okr rfl))))))))
    refine ls_rec (fun (s : (List Y65) × Int) => match s with | (y6, y7) => [(1, dL c66_ a1), (2, .box [nI a0.1, dL c64_d a0.2.1, dL ci64 a0.2.2]), (5, nI y3), (6, oL 66 c66_ y6), (7, nI y7)]) _ _ _ _ hl (okr rfl) (fun _ => rfl) ?_
    rintro m ⟨y6, y7⟩ N h hN
    unfold spec_IsFractionalCover_B2 at h
    dsimp only at h
    refine ls_seq_k fun K14 hK14 => rn 1 rfl ?_
    rcases cond_some h with ⟨g15, h⟩ | ⟨g15, h⟩
    ·refine qT rfl g15 (ls_skip (hK14 _ (ls_seq_k fun K16 hK16 => ls_blk (rs (sp 3 rfl (?_))))))
     obtain ⟨e17, g18, h⟩ := ob_some h
     refine qI rfl zc64_d g18 (sp 2 rfl (?_))
     obtain ⟨v19, g20, h⟩ := ob_some h
     refine qC (qa rfl (erg (erc rfl (erc (erD eci64 _) rfl))) (qs rfl eran)) (spec_ContainsVariable_s g20) (evn ?_)
     have kJ3 : ∀ {x21 : List Y65}, spec_IsFractionalCover_J3 (loopF (spec_IsFractionalCover_B2 a0 a1 y3) m) y7 x21 = some o2 → Jn K16 [(1, dL c66_ a1), (2, .box [nI a0.1, dL c64_d a0.2.1, dL ci64 a0.2.2]), (5, nI y3), (6, oL 66 c66_ x21), (7, nI y7)] := by
      intro x21 h σ' hk
      unfold spec_IsFractionalCover_J3 at h
      exact hK16 _ (lh hk rfl (rg (sp 3 rfl (evn (hN _ _ h (okr rfl))))))
     rcases cond_some h with ⟨g22, h⟩ | ⟨g22, h⟩
     ·refine qT rfl g22 (rg (sp 3 rfl (?_)))
      obtain ⟨e23, g24, h⟩ := ob_some h
      refine qI rfl zc66_ g24 (sp 1 rfl (qBs c66_ [e23] rfl rfl rfl zc66_ (?_)))
      obtain ⟨g25, h⟩ := chk_some h
      exact qA c66_ y6 [e23] rfl rfl (flat_len zc66_ [e23]) rfl g25 (sp 1 rfl (evn (kJ3 h _ (okr rfl))))
     ·exact qF rfl g22 (ls_skip (kJ3 h _ (okr rfl)))
    ·exact qF rfl g15 (ls_exit (kXB2 (Option.some.inj h) _ (okr rfl)))
   ·exact qF rfl g10 (ls_exit (kXB1 (Option.some.inj h) _ trivial))
def spec_ScaleToIntegers_B1 (a0 : List Y65) (rec : (Int × Int) → Option (Sum (Int) ((List Int) × Int))) (s : Int × Int) : Option (Sum (Int) ((List Int) × Int)) := match s with
  | (y1, y2) => cond (decide (y2 < (List.length a0 : Int))) (obind (geti a0 y2) fun e7 => obind (spec_IsValidRational e7) fun v9 => cond (!v9) (some (.inr (([] : List Int), 0))) (obind (geti a0 y2) fun e12 => cond (decide (e12.1 < 0)) (some (.inr (([] : List Int), 0))) (obind (geti a0 y2) fun e15 => obind (spec_l2Gcd y1 e15.2) fun v17 => chk (v17 ≠ 0) (obind (geti a0 y2) fun e20 => cond (decide (1000 < (IntKind.i64.wrap ((IntKind.i64.wrap (Int.tdiv y1 v17)) * e20.2)))) (some (.inr (([] : List Int), 0))) (rec ((IntKind.i64.wrap ((IntKind.i64.wrap (Int.tdiv y1 v17)) * e20.2)), (IntKind.i64.wrap (y2 + 1)))))))) (some (.inl y1))
def spec_ScaleToIntegers_B2 (a0 : List Y65) (z2 : Int) (rec : ((List Int) × Int) → Option ((List Int))) (s : (List Int) × Int) : Option ((List Int)) := match s with
  | (y3, y4) => cond (decide (y4 < (List.length a0 : Int))) (obind (geti a0 y4) fun e28 => obind (geti a0 y4) fun e30 => chk (e30.2 ≠ 0) (chk (List.length y3 + List.length [IntKind.i64.wrap (e28.1 * (IntKind.i64.wrap (Int.tdiv z2 e30.2)))] ≤ lim) (rec ((y3 ++ [IntKind.i64.wrap (e28.1 * (IntKind.i64.wrap (Int.tdiv z2 e30.2)))]), (IntKind.i64.wrap (y4 + 1)))))) (some y3)
def spec_ScaleToIntegers (a0 : List Y65) : Option ((List Int) × Int) := obind (loopF (spec_ScaleToIntegers_B1 a0) fz (1, 0)) fun o1 => (match o1 with
  | .inl z2 => (obind (loopF (spec_ScaleToIntegers_B2 a0 z2) fz (([] : List Int), 0)) fun z24 => some (z24, z2))
  | .inr r => some r)
theorem spec_ScaleToIntegers_s {a0 : List Y65} {r : (List Int) × Int} (h : spec_ScaleToIntegers a0 = some r) : SoundAt Tryd.prog 38 [dL c66_ a0] (.tup [oL 3 ci64 r.1, nI r.2]) := by
 unfold spec_ScaleToIntegers at h
 refine st lit38 rfl (rn 2 rfl (ls_seq_k fun K1 hK1 => rn 1 rfl ?_))
 obtain ⟨o1, hl, hr1⟩ := ob_some h
 have kXB1 : ∀ {z2 : Int}, (.inl z2) = o1 → Jn K1 [(0, dL c66_ a0), (4, nI z2)] := by
  intro z2 h σ' hk
  subst h
  replace h := hr1
  try dsimp only at h
  refine hK1 _ (lh hk rfl (rs (qBs ci64 [] rfl rfl rfl zci64 (sp 1 rfl (evn (ls_seq_k fun K23 hK23 => rn 1 rfl ?_))))))
  obtain ⟨o2, hl, hr2⟩ := ob_some h
  have kXB2 : ∀ {z24 : List Int}, z24 = o2 → Jn K23 [(4, nI z2), (6, oL 3 ci64 z24)] := by
   intro z24 h σ' hk
   subst h
   replace h := hr2
   try dsimp only at h
   exact hK23 _ (lh hk rfl (rn 1 rfl (ls_ret ((by cases h; exact ⟨.inl rfl, rfl⟩)))))
  refine ls_rec (fun (s : (List Int) × Int) => match s with | (y3, y4) => [(0, dL c66_ a0), (4, nI z2), (6, oL 3 ci64 y3), (7, nI y4)]) _ _ _ _ hl (okr rfl) (fun _ => rfl) ?_
  rintro m ⟨y3, y4⟩ N h hN
  unfold spec_ScaleToIntegers_B2 at h
  dsimp only at h
  refine ls_seq_k fun K25 hK25 => rn 1 rfl ?_
  rcases cond_some h with ⟨g26, h⟩ | ⟨g26, h⟩
  ·refine qT rfl g26 (ls_skip (hK25 _ (ls_seq_k fun K27 hK27 => ls_blk (rgd (by kernel_rfl) (sd 3 rfl (?_))))))
   obtain ⟨e28, g29, h⟩ := ob_some h
   refine ed rfl (qI rfl zc66_ g29 (sd 5 rfl (?_)))
   obtain ⟨e30, g31, h⟩ := ob_some h
   refine ed rfl (qI rfl zc66_ g31 (sd 2 rfl (?_)))
   obtain ⟨g32, h⟩ := chk_some h
   refine ed rfl (qB rfl ⟨rfl, g32⟩ rfl (sd 1 rfl (ed rfl (qBs ci64 [IntKind.i64.wrap (e28.1 * (IntKind.i64.wrap (Int.tdiv z2 e30.2)))] rfl rfl rfl zci64 (?_)))))
   obtain ⟨g33, h⟩ := chk_some h
   exact ed rfl (qA ci64 y3 [IntKind.i64.wrap (e28.1 * (IntKind.i64.wrap (Int.tdiv z2 e30.2)))] rfl rfl (flat_len zci64 [IntKind.i64.wrap (e28.1 * (IntKind.i64.wrap (Int.tdiv z2 e30.2)))]) rfl g33 (sd 1 rfl (evdn (hK27 _ (rg (sp 3 rfl (evn (hN _ _ h (okr rfl)))))))))
  ·exact qF rfl g26 (ls_exit (kXB2 (Option.some.inj h) _ (okr rfl)))
 refine ls_rec (fun (s : Int × Int) => match s with | (y1, y2) => [(0, dL c66_ a0), (4, nI y1), (5, nI y2)]) _ _ _ _ hl (okr rfl) (fun _ => rfl) ?_
 rintro m ⟨y1, y2⟩ N h hN
 unfold spec_ScaleToIntegers_B1 at h
 dsimp only at h
 refine ls_seq_k fun K3 hK3 => rn 1 rfl ?_
 rcases cond_some h with ⟨g4, h⟩ | ⟨g4, h⟩
 ·refine qT rfl g4 (ls_skip (hK3 _ (ls_seq_k fun K5 hK5 => ls_blk (ls_seq_k fun K6 hK6 => rs (sp 2 rfl (?_))))))
  obtain ⟨e7, g8, h⟩ := ob_some h
  refine qI rfl zc66_ g8 (sp 1 rfl (?_))
  obtain ⟨v9, g10, h⟩ := ob_some h
  refine qC (qa rfl (erg (erc rfl (erc rfl rfl))) eran) (spec_IsValidRational_s g10) (sp 2 rfl (?_))
  rcases cond_some h with ⟨g11, h⟩ | ⟨g11, h⟩
  ·exact qg 20 g11 rfl (sp 7 rfl (evn (qT rfl rfl (rs (qBs ci64 [] rfl rfl rfl zci64 (sp 2 rfl (evn (ls_ret ((by cases h; cases hr1; exact ⟨.inl rfl, rfl⟩))))))))))
  ·refine qg 20 g11 rfl (sp 2 rfl (?_))
   obtain ⟨e12, g13, h⟩ := ob_some h
   refine oGR rfl rfl (qI rfl zc66_ g13 (sp 4 rfl (evn (qk [0, 4, 5, 27] rfl ?_))))
   rcases cond_some h with ⟨g14, h⟩ | ⟨g14, h⟩
   ·exact qT rfl g14 (rs (qBs ci64 [] rfl rfl rfl zci64 (sp 2 rfl (evn (ls_ret ((by cases h; cases hr1; exact ⟨.inl rfl, rfl⟩)))))))
   ·refine qF rfl g14 (ls_skip (hK6 _ (rd (by kernel_rfl) (sd 4 rfl (?_)))))
    obtain ⟨e15, g16, h⟩ := ob_some h
    refine ed rfl (qI rfl zc66_ g16 (sd 2 rfl (?_)))
    obtain ⟨v17, g18, h⟩ := ob_some h
    refine ed rfl (qC (qs rfl (qs rfl eran)) (spec_l2Gcd_s g18) (?_))
    obtain ⟨g19, h⟩ := chk_some h
    refine ed rfl (qB rfl ⟨rfl, g19⟩ rfl (sd 2 rfl (?_)))
    obtain ⟨e20, g21, h⟩ := ob_some h
    refine ed rfl (qI rfl zc66_ g21 (sd 4 rfl (evdn (rn 1 rfl ?_))))
    rcases cond_some h with ⟨g22, h⟩ | ⟨g22, h⟩
    ·exact qT rfl g22 (rs (qBs ci64 [] rfl rfl rfl zci64 (sp 2 rfl (evn (ls_ret ((by cases h; cases hr1; exact ⟨.inl rfl, rfl⟩)))))))
    ·exact qF rfl g22 (ls_skip (hK5 _ (rg (sp 3 rfl (evn (hN _ _ h (okr rfl)))))))
 ·exact qF rfl g4 (ls_exit (kXB1 (Option.some.inj h) _ (okr rfl)))
def spec_IsValidBigInt_B1 (a0 : List Int) (rec : Int → Option (Sum (Unit) (Bool))) (y1 : Int) : Option (Sum (Unit) (Bool)) := cond (decide (y1 < (List.length a0 : Int))) (obind (geti a0 y1) fun e5 => obind (spec_l1In e5 0 9) fun v7 => cond (!v7) (some (.inr false)) (rec (IntKind.i64.wrap (y1 + 1)))) (some (.inl ()))
def spec_IsValidBigInt_J2 (x11 : Bool) : Option (Bool) := some x11
def spec_IsValidBigInt (a0 : List Int) : Option (Bool) := obind (loopF (spec_IsValidBigInt_B1 a0) fz 0) fun o1 => (match o1 with
  | .inl _ => (cond (decide ((List.length a0 : Int) ≤ 60)) (cond ((List.length a0 : Int) == 0) (spec_IsValidBigInt_J2 true) (obind (geti a0 (IntKind.i64.wrap ((List.length a0 : Int) - 1))) fun e14 => spec_IsValidBigInt_J2 (e14 != 0))) (spec_IsValidBigInt_J2 false))
  | .inr r => some r)
theorem spec_IsValidBigInt_s {a0 : List Int} {r : Bool} (h : spec_IsValidBigInt a0 = some r) : SoundAt Tryd.prog 62 [.agg [dL ci64 a0]] (.bool r) := by
 unfold spec_IsValidBigInt at h
 refine st lit62 rfl (rn 1 rfl (ls_seq_k fun K1 hK1 => rn 1 rfl ?_))
 obtain ⟨o1, hl, hr1⟩ := ob_some h
 have kXB1 : (.inl ()) = o1 → Jn K1 [(1, .box [dL ci64 a0])] := by
  intro h σ' hk
  subst h
  replace h := hr1
  try dsimp only at h
  refine hK1 _ (lh hk rfl (rk fun K10 hK10 => ?_))
  have kJ2 : ∀ {x11 : Bool}, spec_IsValidBigInt_J2 x11 = some r → Jn K10 [(2, .bool x11)] := by
   intro x11 h σ' hk
   unfold spec_IsValidBigInt_J2 at h
   exact hK10 _ (lh hk rfl (ls_ret ((by cases h; exact ⟨.inl rfl, rfl⟩))))
  refine sp 5 rfl (?_)
  rcases cond_some h with ⟨g12, h⟩ | ⟨g12, h⟩
  ·refine qg 22 g12 rfl (sp 5 rfl (?_))
   rcases cond_some h with ⟨g13, h⟩ | ⟨g13, h⟩
   ·exact qg 27 g13 rfl (sp 12 rfl (evn (kJ2 h _ (okr rfl))))
   ·refine qg 27 g13 rfl (sp 6 rfl (?_))
    obtain ⟨e14, g15, h⟩ := ob_some h
    exact oGR rfl rfl (qI rfl zci64 g15 (sp 5 rfl (evn (kJ2 h _ (okr rfl)))))
  ·exact qg 22 g12 rfl (sp 17 rfl (evn (kJ2 h _ (okr rfl))))
 refine ls_rec (fun (y1 : Int) => [(1, .box [dL ci64 a0]), (3, nI y1)]) _ _ _ _ hl (okr rfl) (fun _ => rfl) ?_
 rintro m y1 N h hN
 unfold spec_IsValidBigInt_B1 at h
 refine ls_seq_k fun K2 hK2 => rn 1 rfl ?_
 rcases cond_some h with ⟨g3, h⟩ | ⟨g3, h⟩
 ·refine qT rfl g3 (ls_skip (hK2 _ (ls_seq_k fun K4 hK4 => ls_blk (rs (sp 3 rfl (?_))))))
  obtain ⟨e5, g6, h⟩ := ob_some h
  refine qI rfl zci64 g6 (sp 1 rfl (?_))
  obtain ⟨v7, g8, h⟩ := ob_some h
  refine qC (qs rfl (qs rfl (qs rfl eran))) (spec_l1In_s g8) (sp 1 rfl (evn ?_))
  rcases cond_some h with ⟨g9, h⟩ | ⟨g9, h⟩
  ·exact qT rfl g9 (rn 1 rfl (ls_ret ((by cases h; cases hr1; exact ⟨.inl rfl, rfl⟩))))
  ·exact qF rfl g9 (ls_skip (hK4 _ (rg (sp 3 rfl (evn (hN _ _ h (okr rfl)))))))
 ·exact qF rfl g3 (ls_exit (kXB1 (Option.some.inj h) _ (okr rfl)))
def spec_l3Carry_J3 (rec : ((List Int) × Int × Int) → Option ((List Int))) (y1 : List Int) (y3 : Int) (x9 : Int) : Option ((List Int)) := chk (List.length y1 + List.length [Int.tmod x9 10] ≤ lim) (rec ((y1 ++ [Int.tmod x9 10]), (IntKind.i64.wrap (Int.tdiv x9 10)), (IntKind.i64.wrap (y3 + 1))))
def spec_l3Carry_J2 (rec : ((List Int) × Int × Int) → Option ((List Int))) (a0 : List Int) (y1 : List Int) (y2 : Int) (y3 : Int) (x5 : Bool) : Option ((List Int)) := cond x5 (cond (decide (y3 < (List.length a0 : Int))) (obind (geti a0 y3) fun e12 => spec_l3Carry_J3 rec y1 y3 (IntKind.i64.wrap (y2 + e12))) (spec_l3Carry_J3 rec y1 y3 y2)) (some y1)
def spec_l3Carry_B1 (a0 : List Int) (rec : ((List Int) × Int × Int) → Option ((List Int))) (s : (List Int) × Int × Int) : Option ((List Int)) := match s with
  | (y1, y2, y3) => cond (decide (y3 < (List.length a0 : Int))) (spec_l3Carry_J2 rec a0 y1 y2 y3 true) (spec_l3Carry_J2 rec a0 y1 y2 y3 (decide (0 < y2)))
def spec_l3Carry_B4  (rec : ((List Int)) → Option ((List Int))) (y4 : (List Int)) : Option ((List Int)) := cond (decide (0 < (List.length y4 : Int))) (obind (geti y4 (IntKind.i64.wrap ((List.length y4 : Int) - 1))) fun e19 => cond (e19 == 0) (chk ((0 : Int) ≤ 0 ∧ 0 ≤ IntKind.i64.wrap ((List.length y4 : Int) - 1) ∧ IntKind.i64.wrap ((List.length y4 : Int) - 1) ≤ (List.length y4 : Int)) (rec (subl y4 0 (IntKind.i64.wrap ((List.length y4 : Int) - 1))))) (some y4)) (some y4)
def spec_l3Carry (a0 : List Int) : Option ((List Int) × Bool) := obind (loopF (spec_l3Carry_B1 a0) fz (([] : List Int), 0, 0)) fun z2 => obind (loopF spec_l3Carry_B4 fz z2) fun z16 => cond (decide (60 < (List.length z16 : Int))) (some ([], false)) (some (z16, true))
theorem spec_l3Carry_s {a0 : List Int} {r : (List Int) × Bool} (h : spec_l3Carry a0 = some r) : SoundAt Tryd.prog 63 [dL ci64 a0] (.tup [.agg [dL ci64 r.1], .bool r.2]) := by
 unfold spec_l3Carry at h
 refine st lit63 rfl (rn 3 rfl (ls_seq_k fun K1 hK1 => rn 1 rfl ?_))
 obtain ⟨o1, hl, hr1⟩ := ob_some h
 have kXB1 : ∀ {z2 : List Int}, z2 = o1 → Jn K1 [(2, .box [oL 3 ci64 []]), (4, .box [oL 3 ci64 z2])] := by
  intro z2 h σ' hk
  subst h
  replace h := hr1
  try dsimp only at h
  refine hK1 _ (lh hk rfl (ls_seq_k fun K15 hK15 => ?_))
  obtain ⟨o4, hl, hr4⟩ := ob_some h
  have kXB4 : ∀ {z16 : List Int}, z16 = o4 → Jn K15 [(2, .box [oL 3 ci64 []]), (4, .box [dL ci64 z16])] := by
   intro z16 h σ' hk
   subst h
   replace h := hr4
   try dsimp only at h
   refine hK15 _ (lh hk rfl (ls_seq_k fun K23 hK23 => rn 1 rfl ?_))
   rcases cond_some h with ⟨g24, h⟩ | ⟨g24, h⟩
   ·exact qT rfl g24 (rn 1 rfl (ls_keep [(2, .box [dL ci64 []]), (3, .bool false)] ⟨(kb (cwe rfl rfl cwn)), kr, trivial⟩ rfl (ls_ret ((by cases h; exact ⟨.inl rfl, rfl⟩)))))
   ·exact qF rfl g24 (ls_skip (hK23 _ (rn 1 rfl (ls_ret ((by cases h; exact ⟨.inl rfl, rfl⟩))))))
  refine ls_rec (fun (y4 : List Int) => [(2, .box [oL 3 ci64 []]), (4, .box [dL ci64 y4])]) _ _ _ _ hl ⟨kr, (kb (cwd rfl rfl cwn)), trivial⟩ (fun _ => rfl) ?_
  rintro m y4 N h hN
  unfold spec_l3Carry_B4 at h
  refine ls_seq_k fun K17 hK17 => rs (sp 5 rfl (?_))
  rcases cond_some h with ⟨g18, h⟩ | ⟨g18, h⟩
  ·refine qg 41 g18 rfl (sp 6 rfl (?_))
   obtain ⟨e19, g20, h⟩ := ob_some h
   refine oGR rfl rfl (qI rfl zci64 g20 (sp 3 rfl (evn ?_)))
   rcases cond_some h with ⟨g21, h⟩ | ⟨g21, h⟩
   ·refine qT rfl g21 (ls_skip (hK17 _ (ls_blk (rg (sp 6 rfl (?_))))))
    obtain ⟨g22, h⟩ := chk_some h
    exact qSl rfl zci64 g22 (sp 2 rfl (evn (hN _ _ h (okr rfl))))
   ·exact qF rfl g21 (ls_exit (kXB4 (Option.some.inj h) _ (okr rfl)))
  ·exact qg 41 g18 rfl (sp 10 rfl (evn (qk [2, 4, 51] rfl (qF rfl rfl (ls_exit (kXB4 (Option.some.inj h) _ (okr rfl)))))))
 refine ls_rec (fun (s : (List Int) × Int × Int) => match s with | (y1, y2, y3) => [(0, dL ci64 a0), (2, .box [oL 3 ci64 []]), (4, .box [oL 3 ci64 y1]), (5, nI y2), (6, nI y3)]) _ _ _ _ hl (okr rfl) (fun _ => rfl) ?_
 rintro m ⟨y1, y2, y3⟩ N h hN
 unfold spec_l3Carry_B1 at h
 dsimp only at h
 refine ls_seq_k fun K3 hK3 => rk fun K4 hK4 => ?_
 have kJ2 : ∀ {x5 : Bool}, spec_l3Carry_J2 (loopF (spec_l3Carry_B1 a0) m) a0 y1 y2 y3 x5 = some o1 → Jn K4 [(0, dL ci64 a0), (2, .box [oL 3 ci64 []]), (4, .box [oL 3 ci64 y1]), (5, nI y2), (6, nI y3), (15, .bool x5)] := by
  intro x5 h σ' hk
  unfold spec_l3Carry_J2 at h
  refine hK4 _ (lh hk rfl ?_)
  rcases cond_some h with ⟨g6, h⟩ | ⟨g6, h⟩
  ·refine qT rfl g6 (ls_skip (hK3 _ (ls_seq_k fun K7 hK7 => ls_blk (ls_seq_k fun K8 hK8 => rn 1 rfl ?_))))
   have kJ3 : ∀ {x9 : Int}, spec_l3Carry_J3 (loopF (spec_l3Carry_B1 a0) m) y1 y3 x9 = some o1 → Jn K8 [(0, dL ci64 a0), (2, .box [oL 3 ci64 []]), (4, .box [oL 3 ci64 y1]), (5, nI x9), (6, nI y3)] := by
    intro x9 h σ' hk
    unfold spec_l3Carry_J3 at h
    refine hK8 _ (lh hk rfl (rs (sp 4 rfl (qBs ci64 [Int.tmod x9 10] rfl rfl rfl zci64 (?_)))))
    obtain ⟨g10, h⟩ := chk_some h
    exact qA ci64 y1 [Int.tmod x9 10] rfl rfl (flat_len zci64 [Int.tmod x9 10]) rfl g10 (sp 2 rfl (evn (rg (sp 3 rfl (evn (hK7 _ (rg (sp 3 rfl (evn (hN _ _ h (okr rfl)))))))))))
   rcases cond_some h with ⟨g11, h⟩ | ⟨g11, h⟩
   ·refine qT rfl g11 (rg (sp 3 rfl (?_)))
    obtain ⟨e12, g13, h⟩ := ob_some h
    exact qI rfl zci64 g13 (sp 3 rfl (evn (kJ3 h _ (okr rfl))))
   ·exact qF rfl g11 (ls_skip (kJ3 h _ (okr rfl)))
  ·exact qF rfl g6 (ls_exit (kXB1 (Option.some.inj h) _ (okr rfl)))
 refine sp 5 rfl (?_)
 rcases cond_some h with ⟨g14, h⟩ | ⟨g14, h⟩
 ·exact qg 12 g14 rfl (sp 3 rfl (evn (kJ2 h _ (okr rfl))))
 ·exact qg 12 g14 rfl (sp 3 rfl (evn (kJ2 h _ (okr rfl))))
def spec_MulBigInt_B2 (a0 : List Int) (a1 : List Int) (y4 : Int) (rec : ((List Int) × Int) → Option ((List Int))) (s : (List Int) × Int) : Option ((List Int)) := match s with
  | (y7, y8) => cond (decide (y8 < (List.length a1 : Int))) (obind (geti y7 (IntKind.i64.wrap (y4 + y8))) fun e18 => obind (geti a0 y4) fun e20 => obind (geti a1 y8) fun e22 => obind (geti y7 (IntKind.i64.wrap (y4 + y8))) fun e24 => rec ((seti y7 (IntKind.i64.wrap (y4 + y8)) (IntKind.i64.wrap (e18 + (IntKind.i64.wrap (e20 * e22))))), (IntKind.i64.wrap (y8 + 1)))) (some y7)
def spec_MulBigInt_B1 (a0 : List Int) (a1 : List Int) (rec : ((List Int) × Int) → Option ((List Int))) (s : (List Int) × Int) : Option ((List Int)) := match s with
  | (y3, y4) => cond (decide (y4 < (List.length a0 : Int))) (obind (loopF (spec_MulBigInt_B2 a0 a1 y4) fz (y3, 0)) fun z14 => rec (z14, (IntKind.i64.wrap (y4 + 1)))) (some y3)
def spec_MulBigInt (a0 : List Int) (a1 : List Int) : Option ((List Int) × Bool) := obind (spec_IsValidBigInt a0) fun v2 => cond (!v2) (some ([], false)) (obind (spec_IsValidBigInt a1) fun v5 => cond (!v5) (some ([], false)) (chk ((0 : Int) ≤ IntKind.i64.wrap ((List.length a0 : Int) + (List.length a1 : Int)) ∧ Int.toNat (IntKind.i64.wrap ((List.length a0 : Int) + (List.length a1 : Int))) ≤ lim) (obind (loopF (spec_MulBigInt_B1 a0 a1) fz ((List.replicate (Int.toNat (IntKind.i64.wrap ((List.length a0 : Int) + (List.length a1 : Int)))) (0 : Int)), 0)) fun z10 => obind (spec_l3Carry z10) fun v26 => some (v26.1, v26.2))))
theorem spec_MulBigInt_s {a0 : List Int} {a1 : List Int} {r : (List Int) × Bool} (h : spec_MulBigInt a0 a1 = some r) : SoundAt Tryd.prog 43 [.agg [dL ci64 a0], .agg [dL ci64 a1]] (.tup [.agg [dL ci64 r.1], .bool r.2]) := by
 unfold spec_MulBigInt at h
 refine st lit43 rfl (rn 1 rfl (ls_seq_k fun K1 hK1 => rs (sp 1 rfl (?_))))
 obtain ⟨v2, g3, h⟩ := ob_some h
 refine qC (qa rfl (erg (erc (erD eci64 _) rfl)) eran) (spec_IsValidBigInt_s g3) (sp 2 rfl (?_))
 rcases cond_some h with ⟨g4, h⟩ | ⟨g4, h⟩
 ·exact qg 14 g4 rfl (sp 4 rfl (evn (qT rfl rfl (rn 1 rfl (ls_keep [(4, .box [dL ci64 []]), (5, .bool false)] ⟨(kb (cwe rfl rfl cwn)), kr, trivial⟩ rfl (ls_ret ((by cases h; exact ⟨.inl rfl, rfl⟩))))))))
 ·refine qg 14 g4 rfl (sp 1 rfl (?_))
  obtain ⟨v5, g6, h⟩ := ob_some h
  refine oGR rfl rfl (qC (qa rfl (erg (erc (erD eci64 _) rfl)) eran) (spec_IsValidBigInt_s g6) (sp 2 rfl (evn ?_)))
  rcases cond_some h with ⟨g7, h⟩ | ⟨g7, h⟩
  ·exact qT rfl g7 (rn 1 rfl (ls_keep [(4, .box [dL ci64 []]), (5, .bool false)] ⟨(kb (cwe rfl rfl cwn)), kr, trivial⟩ rfl (ls_ret ((by cases h; exact ⟨.inl rfl, rfl⟩)))))
  ·refine qF rfl g7 (ls_skip (hK1 _ (rs (sp 7 rfl (?_)))))
   obtain ⟨g8, h⟩ := chk_some h
   refine qMu ci64 (0 : Int) rfl rfl rfl rfl g8 rfl (qAu rfl rfl rfl rfl (evn (ls_seq_k fun K9 hK9 => rn 1 rfl ?_)))
   obtain ⟨o1, hl, hr1⟩ := ob_some h
   have kXB1 : ∀ {z10 : List Int}, z10 = o1 → Jn K9 [(4, .box [oL 3 ci64 []]), (6, wL 3 ci64 z10)] := by
    intro z10 h σ' hk
    subst h
    replace h := hr1
    try dsimp only at h
    refine hK9 _ (lh hk rfl (rs (qTu rfl rfl rfl (?_))))
    obtain ⟨v26, g27, h⟩ := ob_some h
    exact qC (qa rfl (erO eci64 _) eran) (spec_l3Carry_s g27) (sp 6 rfl (evn (rn 1 rfl (ls_ret ((by cases h; exact ⟨.inl rfl, rfl⟩))))))
   refine ls_rec (fun (s : (List Int) × Int) => match s with | (y3, y4) => [(2, .box [dL ci64 a0]), (3, .box [dL ci64 a1]), (4, .box [oL 3 ci64 []]), (6, wL 3 ci64 y3), (7, nI y4)]) _ _ _ _ hl (okr rfl) (fun _ => rfl) ?_
   rintro m ⟨y3, y4⟩ N h hN
   unfold spec_MulBigInt_B1 at h
   dsimp only at h
   refine ls_seq_k fun K11 hK11 => rn 1 rfl ?_
   rcases cond_some h with ⟨g12, h⟩ | ⟨g12, h⟩
   ·refine qT rfl g12 (ls_skip (hK11 _ (ls_seq_k fun K13 hK13 => ls_blk (rn 1 rfl ?_))))
    obtain ⟨o2, hl, hr2⟩ := ob_some h
    have kXB2 : ∀ {z14 : List Int}, z14 = o2 → Jn K13 [(2, .box [dL ci64 a0]), (3, .box [dL ci64 a1]), (4, .box [oL 3 ci64 []]), (6, wL 3 ci64 z14), (7, nI y4)] := by
     intro z14 h σ' hk
     subst h
     replace h := hr2
     try dsimp only at h
     exact hK13 _ (lh hk rfl (rg (sp 3 rfl (evn (hN _ _ h (okr rfl))))))
    refine ls_rec (fun (s : (List Int) × Int) => match s with | (y7, y8) => [(2, .box [dL ci64 a0]), (3, .box [dL ci64 a1]), (4, .box [oL 3 ci64 []]), (6, wL 3 ci64 y7), (7, nI y4), (8, nI y8)]) _ _ _ _ hl (okr rfl) (fun _ => rfl) ?_
    rintro m ⟨y7, y8⟩ N h hN
    unfold spec_MulBigInt_B2 at h
    dsimp only at h
    refine ls_seq_k fun K15 hK15 => rn 1 rfl ?_
    rcases cond_some h with ⟨g16, h⟩ | ⟨g16, h⟩
    ·refine qT rfl g16 (ls_skip (hK15 _ (ls_seq_k fun K17 hK17 => ls_blk (rgd (by kernel_rfl) (sd 8 rfl (?_))))))
     obtain ⟨e18, g19, h⟩ := ob_some h
     refine ed rfl (qIu rfl ⟨(geti_some g19).1, (geti_some g19).2.1⟩ (ed rfl (qLu 0 rfl rfl rfl zci64 g19 rfl rfl rfl (sd 3 rfl (?_)))))
     obtain ⟨e20, g21, h⟩ := ob_some h
     refine ed rfl (qI rfl zci64 g21 (sd 4 rfl (?_)))
     obtain ⟨e22, g23, h⟩ := ob_some h
     refine ed rfl (qI rfl zci64 g23 (sd 3 rfl (?_)))
     obtain ⟨e24, g25, h⟩ := ob_some h
     exact ed rfl (qIu rfl ⟨(geti_some g25).1, (geti_some g25).2.1⟩ (ed rfl (qSu (IntKind.i64.wrap (e18 + (IntKind.i64.wrap (e20 * e22)))) rfl rfl zci64 ⟨(geti_some g25).1, (geti_some g25).2.1⟩ rfl rfl rfl rfl rfl rfl (evdn (hK17 _ (rg (sp 3 rfl (evn (hN _ _ h (okr rfl))))))))))
    ·exact qF rfl g16 (ls_exit (kXB2 (Option.some.inj h) _ (okr rfl)))
   ·exact qF rfl g12 (ls_exit (kXB1 (Option.some.inj h) _ (okr rfl)))
def spec_BigIntFromInt_B1  (rec : (Int × (List Int)) → Option ((List Int))) (s : Int × (List Int)) : Option ((List Int)) := match s with
  | (y1, y2) => cond (decide (0 < y1)) (chk (List.length y2 + List.length [Int.tmod y1 10] ≤ lim) (rec ((IntKind.i64.wrap (Int.tdiv y1 10)), (y2 ++ [Int.tmod y1 10])))) (some y2)
def spec_BigIntFromInt (a0 : Int) : Option ((List Int)) := obind (loopF spec_BigIntFromInt_B1 fz (a0, ([] : List Int))) fun z2 => some z2
theorem spec_BigIntFromInt_s {a0 : Int} {r : (List Int)} (h : spec_BigIntFromInt a0 = some r) : SoundAt Tryd.prog 61 [nI a0] (.agg [oL 3 ci64 r]) := by
 unfold spec_BigIntFromInt at h
 refine st lit61 rfl (rn 2 rfl (ls_seq_k fun K1 hK1 => ?_))
 obtain ⟨o1, hl, hr1⟩ := ob_some h
 have kXB1 : ∀ {z2 : List Int}, z2 = o1 → Jn K1 [(2, .box [oL 3 ci64 []]), (3, .box [oL 3 ci64 z2])] := by
  intro z2 h σ' hk
  subst h
  replace h := hr1
  try dsimp only at h
  exact hK1 _ (lh hk rfl (rn 1 rfl (ls_ret ((by cases h; exact ⟨.inl rfl, rfl⟩)))))
 refine ls_rec (fun (s : Int × (List Int)) => match s with | (y1, y2) => [(0, nI y1), (2, .box [oL 3 ci64 []]), (3, .box [oL 3 ci64 y2])]) _ _ _ _ hl (okr rfl) (fun _ => rfl) ?_
 rintro m ⟨y1, y2⟩ N h hN
 unfold spec_BigIntFromInt_B1 at h
 dsimp only at h
 refine ls_seq_k fun K3 hK3 => rn 1 rfl ?_
 rcases cond_some h with ⟨g4, h⟩ | ⟨g4, h⟩
 ·refine qT rfl g4 (ls_skip (hK3 _ (ls_blk (rs (sp 4 rfl (qBs ci64 [Int.tmod y1 10] rfl rfl rfl zci64 (?_)))))))
  obtain ⟨g5, h⟩ := chk_some h
  exact qA ci64 y2 [Int.tmod y1 10] rfl rfl (flat_len zci64 [Int.tmod y1 10]) rfl g5 (sp 2 rfl (evn (rg (sp 3 rfl (evn (hN _ _ h (okr rfl)))))))
 ·exact qF rfl g4 (ls_exit (kXB1 (Option.some.inj h) _ (okr rfl)))
def spec_PowBigInt_B1 (a0 : Int) (a1 : Int) (rec : ((List Int) × Int) → Option (Sum ((List Int)) ((List Int) × Bool))) (s : (List Int) × Int) : Option (Sum ((List Int)) ((List Int) × Bool)) := match s with
  | (y1, y2) => cond (decide (y2 < a1)) (obind (spec_BigIntFromInt a0) fun v13 => obind (spec_MulBigInt y1 v13) fun v15 => cond (!v15.2) (some (.inr ([], false))) (rec (v15.1, (IntKind.i64.wrap (y2 + 1))))) (some (.inl y1))
def spec_PowBigInt (a0 : Int) (a1 : Int) : Option ((List Int) × Bool) := cond (decide (a0 < 0)) (some ([], false)) (obind (spec_l1In a1 0 100) fun v3 => cond (!v3) (some ([], false)) (obind (spec_BigIntFromInt 1) fun v6 => obind (loopF (spec_PowBigInt_B1 a0 a1) fz (v6, 0)) fun o1 => (match o1 with
  | .inl z9 => (some (z9, true))
  | .inr r => some r)))
theorem spec_PowBigInt_s {a0 : Int} {a1 : Int} {r : (List Int) × Bool} (h : spec_PowBigInt a0 a1 = some r) : SoundAt Tryd.prog 40 [nI a0, nI a1] (.tup [.agg [dL ci64 r.1], .bool r.2]) := by
 unfold spec_PowBigInt at h
 refine st lit40 rfl (rn 1 rfl (ls_seq_k fun K1 hK1 => rs (sp 3 rfl (?_))))
 rcases cond_some h with ⟨g2, h⟩ | ⟨g2, h⟩
 ·exact qg 12 g2 rfl (sp 4 rfl (evn (qT rfl rfl (rn 1 rfl (ls_keep [(4, .box [dL ci64 []]), (5, .bool false)] ⟨(kb (cwe rfl rfl cwn)), kr, trivial⟩ rfl (ls_ret ((by cases h; exact ⟨.inl rfl, rfl⟩))))))))
 ·refine qg 12 g2 rfl (sp 1 rfl (?_))
  obtain ⟨v3, g4, h⟩ := ob_some h
  refine oGR rfl rfl (qC (qs rfl (qs rfl (qs rfl eran))) (spec_l1In_s g4) (sp 2 rfl (evn ?_)))
  rcases cond_some h with ⟨g5, h⟩ | ⟨g5, h⟩
  ·exact qT rfl g5 (rn 1 rfl (ls_keep [(4, .box [dL ci64 []]), (5, .bool false)] ⟨(kb (cwe rfl rfl cwn)), kr, trivial⟩ rfl (ls_ret ((by cases h; exact ⟨.inl rfl, rfl⟩)))))
  ·refine qF rfl g5 (ls_skip (hK1 _ (rs ?_)))
   obtain ⟨v6, g7, h⟩ := ob_some h
   refine qC (qs rfl eran) (spec_BigIntFromInt_s g7) (sp 2 rfl (evn (ls_seq_k fun K8 hK8 => rn 1 rfl ?_)))
   obtain ⟨o1, hl, hr1⟩ := ob_some h
   have kXB1 : ∀ {z9 : List Int}, (.inl z9) = o1 → Jn K8 [(4, .box [oL 3 ci64 []]), (6, .box [dL ci64 z9])] := by
    intro z9 h σ' hk
    subst h
    replace h := hr1
    try dsimp only at h
    exact hK8 _ (lh hk rfl (rn 1 rfl (ls_ret ((by cases h; exact ⟨.inl rfl, rfl⟩)))))
   refine ls_rec (fun (s : (List Int) × Int) => match s with | (y1, y2) => [(0, nI a0), (1, nI a1), (4, .box [oL 3 ci64 []]), (6, .box [dL ci64 y1]), (7, nI y2)]) _ _ _ _ hl ⟨kr, kr, kr, (kb (cwd rfl rfl cwn)), kr, trivial⟩ (fun _ => rfl) ?_
   rintro m ⟨y1, y2⟩ N h hN
   unfold spec_PowBigInt_B1 at h
   dsimp only at h
   refine ls_seq_k fun K10 hK10 => rn 1 rfl ?_
   rcases cond_some h with ⟨g11, h⟩ | ⟨g11, h⟩
   ·refine qT rfl g11 (ls_skip (hK10 _ (ls_seq_k fun K12 hK12 => ls_blk (rd (by kernel_rfl) (sd 2 rfl (?_))))))
    obtain ⟨v13, g14, h⟩ := ob_some h
    refine ed rfl (qC (qs rfl eran) (spec_BigIntFromInt_s g14) (?_))
    obtain ⟨v15, g16, h⟩ := ob_some h
    refine ed rfl (qC (qa rfl (erg (erc (erD eci64 _) rfl)) (qa rfl (erg (erc (erO eci64 _) rfl)) eran)) (spec_MulBigInt_s g16) (sd 6 rfl (evdn (ls_seq_k fun K17 hK17 => rn 1 rfl ?_))))
    rcases cond_some h with ⟨g18, h⟩ | ⟨g18, h⟩
    ·exact qT rfl g18 (rn 1 rfl (ls_keep [(4, .box [dL ci64 []]), (5, .bool false)] ⟨(kb (cwe rfl rfl cwn)), kr, trivial⟩ rfl (ls_ret ((by cases h; cases hr1; exact ⟨.inl rfl, rfl⟩)))))
    ·exact qF rfl g18 (ls_skip (hK17 _ (rg (sp 2 rfl (evn (hK12 _ (rg (sp 3 rfl (evn (hN _ _ h (okr rfl)))))))))))
   ·exact qF rfl g11 (ls_exit (kXB1 (Option.some.inj h) _ (okr rfl)))
def spec_ProductOfPowers_B1 (a0 : List Int) (a1 : List Int) (rec : ((List Int) × Int) → Option (Sum ((List Int)) ((List Int) × Bool))) (s : (List Int) × Int) : Option (Sum ((List Int)) ((List Int) × Bool)) := match s with
  | (y1, y2) => cond (decide (y2 < (List.length a0 : Int))) (obind (geti a0 y2) fun e10 => obind (geti a1 y2) fun e12 => obind (spec_PowBigInt e10 e12) fun v14 => obind (spec_MulBigInt y1 v14.1) fun v16 => cond (!v14.2) (some (.inr ([], false))) (cond (!v16.2) (some (.inr ([], false))) (rec (v16.1, (IntKind.i64.wrap (y2 + 1)))))) (some (.inl y1))
def spec_ProductOfPowers (a0 : List Int) (a1 : List Int) : Option ((List Int) × Bool) := cond ((List.length a0 : Int) != (List.length a1 : Int)) (some ([], false)) (obind (spec_BigIntFromInt 1) fun v3 => obind (loopF (spec_ProductOfPowers_B1 a0 a1) fz (v3, 0)) fun o1 => (match o1 with
  | .inl z6 => (some (z6, true))
  | .inr r => some r))
theorem spec_ProductOfPowers_s {a0 : List Int} {a1 : List Int} {r : (List Int) × Bool} (h : spec_ProductOfPowers a0 a1 = some r) : SoundAt Tryd.prog 39 [dL ci64 a0, dL ci64 a1] (.tup [.agg [dL ci64 r.1], .bool r.2]) := by
 unfold spec_ProductOfPowers at h
 refine st lit39 rfl (rn 1 rfl (ls_seq_k fun K1 hK1 => rn 1 rfl ?_))
 rcases cond_some h with ⟨g2, h⟩ | ⟨g2, h⟩
 ·exact qT rfl g2 (rn 1 rfl (ls_keep [(4, .box [dL ci64 []]), (5, .bool false)] ⟨(kb (cwe rfl rfl cwn)), kr, trivial⟩ rfl (ls_ret ((by cases h; exact ⟨.inl rfl, rfl⟩)))))
 ·refine qF rfl g2 (ls_skip (hK1 _ (rs ?_)))
  obtain ⟨v3, g4, h⟩ := ob_some h
  refine qC (qs rfl eran) (spec_BigIntFromInt_s g4) (sp 2 rfl (evn (ls_seq_k fun K5 hK5 => rn 1 rfl ?_)))
  obtain ⟨o1, hl, hr1⟩ := ob_some h
  have kXB1 : ∀ {z6 : List Int}, (.inl z6) = o1 → Jn K5 [(4, .box [oL 3 ci64 []]), (6, .box [dL ci64 z6])] := by
   intro z6 h σ' hk
   subst h
   replace h := hr1
   try dsimp only at h
   exact hK5 _ (lh hk rfl (rn 1 rfl (ls_ret ((by cases h; exact ⟨.inl rfl, rfl⟩)))))
  refine ls_rec (fun (s : (List Int) × Int) => match s with | (y1, y2) => [(0, dL ci64 a0), (1, dL ci64 a1), (4, .box [oL 3 ci64 []]), (6, .box [dL ci64 y1]), (7, nI y2)]) _ _ _ _ hl ⟨kr, kr, kr, (kb (cwd rfl rfl cwn)), kr, trivial⟩ (fun _ => rfl) ?_
  rintro m ⟨y1, y2⟩ N h hN
  unfold spec_ProductOfPowers_B1 at h
  dsimp only at h
  refine ls_seq_k fun K7 hK7 => rn 1 rfl ?_
  rcases cond_some h with ⟨g8, h⟩ | ⟨g8, h⟩
  ·refine qT rfl g8 (ls_skip (hK7 _ (ls_seq_k fun K9 hK9 => ls_blk (rd (by kernel_rfl) (sd 2 rfl (?_))))))
   obtain ⟨e10, g11, h⟩ := ob_some h
   refine ed rfl (qI rfl zci64 g11 (sd 3 rfl (?_)))
   obtain ⟨e12, g13, h⟩ := ob_some h
   refine ed rfl (qI rfl zci64 g13 (sd 1 rfl (?_)))
   obtain ⟨v14, g15, h⟩ := ob_some h
   refine ed rfl (qC (qs rfl (qs rfl eran)) (spec_PowBigInt_s g15) (sd 6 rfl (evdn (rs (sp 2 rfl (?_))))))
   obtain ⟨v16, g17, h⟩ := ob_some h
   refine qC (qa rfl (erg (erc (erD eci64 _) rfl)) (qa rfl (erg (erc (erD eci64 _) rfl)) eran)) (spec_MulBigInt_s g17) (sp 6 rfl (evn (ls_seq_k fun K18 hK18 => rs (sp 3 rfl (?_)))))
   rcases cond_some h with ⟨g19, h⟩ | ⟨g19, h⟩
   ·exact qg 45 g19 rfl (sp 3 rfl (evn (qk [0, 1, 4, 6, 7, 10, 48] rfl (qT rfl rfl (rn 1 rfl (ls_keep [(4, .box [dL ci64 []]), (5, .bool false)] ⟨(kb (cwe rfl rfl cwn)), kr, trivial⟩ rfl (ls_ret ((by cases h; cases hr1; exact ⟨.inl rfl, rfl⟩)))))))))
   ·refine qg 45 g19 rfl (sp 3 rfl (evn ?_))
    rcases cond_some h with ⟨g20, h⟩ | ⟨g20, h⟩
    ·exact qT rfl g20 (rn 1 rfl (ls_keep [(4, .box [dL ci64 []]), (5, .bool false)] ⟨(kb (cwe rfl rfl cwn)), kr, trivial⟩ rfl (ls_ret ((by cases h; cases hr1; exact ⟨.inl rfl, rfl⟩)))))
    ·exact qF rfl g20 (ls_skip (hK18 _ (rg (sp 2 rfl (evn (hK9 _ (rg (sp 3 rfl (evn (hN _ _ h (okr rfl)))))))))))
  ·exact qF rfl g8 (ls_exit (kXB1 (Option.some.inj h) _ (okr rfl)))
def spec_CompareBigInts_B1 (a0 : List Int) (a1 : List Int) (rec : Int → Option (Sum (Unit) (Int))) (y1 : Int) : Option (Sum (Unit) (Int)) := cond (decide (0 ≤ y1)) (obind (geti a0 y1) fun e17 => obind (geti a1 y1) fun e19 => cond (decide (e17 < e19)) (some (.inr (-1))) (obind (geti a0 y1) fun e22 => obind (geti a1 y1) fun e24 => cond (decide (e24 < e22)) (some (.inr 1)) (rec (IntKind.i64.wrap (y1 - 1))))) (some (.inl ()))
def spec_CompareBigInts (a0 : List Int) (a1 : List Int) : Option (Int) := obind (spec_IsValidBigInt a0) fun v2 => cond (!v2) (some 0) (obind (spec_IsValidBigInt a1) fun v5 => cond (!v5) (some 0) (cond ((List.length a0 : Int) != (List.length a1 : Int)) (cond (decide ((List.length a0 : Int) < (List.length a1 : Int))) (some (-1)) (some 1)) (obind (loopF (spec_CompareBigInts_B1 a0 a1) fz (IntKind.i64.wrap ((List.length a0 : Int) - 1))) fun o1 => (match o1 with
  | .inl _ => (some 0)
  | .inr r => some r))))
theorem spec_CompareBigInts_s {a0 : List Int} {a1 : List Int} {r : Int} (h : spec_CompareBigInts a0 a1 = some r) : SoundAt Tryd.prog 41 [.agg [dL ci64 a0], .agg [dL ci64 a1]] (nI r) := by
 unfold spec_CompareBigInts at h
 refine st lit41 rfl (rn 1 rfl (ls_seq_k fun K1 hK1 => rs (sp 1 rfl (?_))))
 obtain ⟨v2, g3, h⟩ := ob_some h
 refine qC (qa rfl (erg (erc (erD eci64 _) rfl)) eran) (spec_IsValidBigInt_s g3) (sp 2 rfl (?_))
 rcases cond_some h with ⟨g4, h⟩ | ⟨g4, h⟩
 ·exact qg 9 g4 rfl (sp 4 rfl (evn (qT rfl rfl (rn 1 rfl (ls_ret ((by cases h; exact ⟨.inl rfl, rfl⟩)))))))
 ·refine qg 9 g4 rfl (sp 1 rfl (?_))
  obtain ⟨v5, g6, h⟩ := ob_some h
  refine oGR rfl rfl (qC (qa rfl (erg (erc (erD eci64 _) rfl)) eran) (spec_IsValidBigInt_s g6) (sp 2 rfl (evn ?_)))
  rcases cond_some h with ⟨g7, h⟩ | ⟨g7, h⟩
  ·exact qT rfl g7 (rn 1 rfl (ls_ret ((by cases h; exact ⟨.inl rfl, rfl⟩))))
  ·refine qF rfl g7 (ls_skip (hK1 _ (ls_seq_k fun K8 hK8 => rn 1 rfl (qk [2, 3, 20] rfl ?_))))
   rcases cond_some h with ⟨g9, h⟩ | ⟨g9, h⟩
   ·refine qT rfl g9 (ls_seq_k fun K10 hK10 => rn 1 rfl ?_)
    rcases cond_some h with ⟨g11, h⟩ | ⟨g11, h⟩
    ·exact qT rfl g11 (rn 1 rfl (ls_ret ((by cases h; exact ⟨.inl rfl, rfl⟩))))
    ·exact qF rfl g11 (ls_skip (hK10 _ (rn 1 rfl (ls_ret ((by cases h; exact ⟨.inl rfl, rfl⟩))))))
   ·refine qF rfl g9 (ls_skip (hK8 _ (ls_seq_k fun K12 hK12 => rn 1 rfl ?_)))
    obtain ⟨o1, hl, hr1⟩ := ob_some h
    have kXB1 : (.inl ()) = o1 → Jn K12 [] := by
     intro h σ' hk
     subst h
     replace h := hr1
     try dsimp only at h
     exact hK12 _ (lh hk rfl (rn 1 rfl (ls_ret ((by cases h; exact ⟨.inl rfl, rfl⟩)))))
    refine ls_rec (fun (y1 : Int) => [(2, .box [dL ci64 a0]), (3, .box [dL ci64 a1]), (5, nI y1)]) _ _ _ _ hl (okr rfl) (fun _ => rfl) ?_
    rintro m y1 N h hN
    unfold spec_CompareBigInts_B1 at h
    refine ls_seq_k fun K13 hK13 => rn 1 rfl ?_
    rcases cond_some h with ⟨g14, h⟩ | ⟨g14, h⟩
    ·refine qT rfl g14 (ls_skip (hK13 _ (ls_seq_k fun K15 hK15 => ls_blk (ls_seq_k fun K16 hK16 => rd (by kernel_rfl) (sd 3 rfl (?_))))))
     obtain ⟨e17, g18, h⟩ := ob_some h
     refine ed rfl (qI rfl zci64 g18 (sd 4 rfl (?_)))
     obtain ⟨e19, g20, h⟩ := ob_some h
     refine ed rfl (qI rfl zci64 g20 (sd 2 rfl (evdn ?_)))
     rcases cond_some h with ⟨g21, h⟩ | ⟨g21, h⟩
     ·exact qT rfl g21 (rn 1 rfl (ls_ret ((by cases h; cases hr1; exact ⟨.inl rfl, rfl⟩))))
     ·refine qF rfl g21 (ls_skip (hK16 _ (rd (by kernel_rfl) (sd 3 rfl (?_)))))
      obtain ⟨e22, g23, h⟩ := ob_some h
      refine ed rfl (qI rfl zci64 g23 (sd 4 rfl (?_)))
      obtain ⟨e24, g25, h⟩ := ob_some h
      refine ed rfl (qI rfl zci64 g25 (sd 2 rfl (evdn (qk [2, 3, 5, 57] rfl ?_))))
      rcases cond_some h with ⟨g26, h⟩ | ⟨g26, h⟩
      ·exact qT rfl g26 (rn 1 rfl (ls_ret ((by cases h; cases hr1; exact ⟨.inl rfl, rfl⟩))))
      ·exact qF rfl g26 (ls_skip (hK15 _ (rg (sp 3 rfl (evn (hN _ _ h (okr rfl)))))))
    ·exact qF rfl g14 (ls_exit (kXB1 (Option.some.inj h) _ trivial))
def spec_IsWithinAGMBound_J1 (x8 : Bool) : Option (Bool) := some x8
def spec_IsWithinAGMBound (a0 : List Int) (a1 : List Y65) (a2 : Int) : Option (Bool) := obind (spec_ScaleToIntegers a1) fun v1 => obind (spec_ProductOfPowers a0 v1.1) fun v3 => obind (spec_PowBigInt a2 v1.2) fun v5 => cond (decide (0 < v1.2)) (cond v3.2 (cond v5.2 (obind (spec_CompareBigInts v5.1 v3.1) fun v12 => spec_IsWithinAGMBound_J1 (decide (v12 ≤ 0))) (spec_IsWithinAGMBound_J1 false)) (spec_IsWithinAGMBound_J1 false)) (spec_IsWithinAGMBound_J1 false)
theorem spec_IsWithinAGMBound_s {a0 : List Int} {a1 : List Y65} {a2 : Int} {r : Bool} (h : spec_IsWithinAGMBound a0 a1 a2 = some r) : SoundAt Tryd.prog 18 [dL ci64 a0, dL c66_ a1, nI a2] (.bool r) := by
 unfold spec_IsWithinAGMBound at h
 refine st lit18 rfl (rn 1 rfl (rs (sp 1 rfl (?_))))
 obtain ⟨v1, g2, h⟩ := ob_some h
 refine qC (qa rfl (erD ec66_ _) eran) (spec_ScaleToIntegers_s g2) (sp 5 rfl (evn (rs (sp 2 rfl (?_)))))
 obtain ⟨v3, g4, h⟩ := ob_some h
 refine qC (qa rfl (erD eci64 _) (qa rfl (erD eci64 _) eran)) (spec_ProductOfPowers_s g4) (sp 6 rfl (evn (rs (sp 2 rfl (?_)))))
 obtain ⟨v5, g6, h⟩ := ob_some h
 refine qC (qs rfl (qs rfl eran)) (spec_PowBigInt_s g6) (sp 6 rfl (evn (rk fun K7 hK7 => ?_)))
 have kJ1 : ∀ {x8 : Bool}, spec_IsWithinAGMBound_J1 x8 = some r → Jn K7 [(6, .bool x8)] := by
  intro x8 h σ' hk
  unfold spec_IsWithinAGMBound_J1 at h
  exact hK7 _ (lh hk rfl (ls_ret ((by cases h; exact ⟨.inl rfl, rfl⟩))))
 refine sp 3 rfl (?_)
 rcases cond_some h with ⟨g9, h⟩ | ⟨g9, h⟩
 ·refine qg 32 g9 rfl (sp 3 rfl (?_))
  rcases cond_some h with ⟨g10, h⟩ | ⟨g10, h⟩
  ·refine qg 35 g10 rfl (sp 3 rfl (?_))
   rcases cond_some h with ⟨g11, h⟩ | ⟨g11, h⟩
   ·refine qg 38 g11 rfl (sp 2 rfl (?_))
    obtain ⟨v12, g13, h⟩ := ob_some h
    exact oGR rfl rfl (qC (qa rfl (erg (erc (erD eci64 _) rfl)) (qa rfl (erg (erc (erD eci64 _) rfl)) eran)) (spec_CompareBigInts_s g13) (sp 3 rfl (evn (kJ1 h _ (okr rfl)))))
   ·exact qg 38 g11 rfl (sp 6 rfl (evn (kJ1 h _ (okr rfl))))
  ·exact qg 35 g10 rfl (sp 9 rfl (evn (kJ1 h _ (okr rfl))))
 ·exact qg 32 g9 rfl (sp 12 rfl (evn (kJ1 h _ (okr rfl))))
def spec_SeekBound (a0 : Y33) (a1 : Int) : Option (Int) := obind (spec_IsValidQuery a0) fun v2 => cond (!v2) (some 0) (obind (spec_l1In a1 0 1000000) fun v5 => cond (!v5) (some 0) (some (IntKind.i64.wrap ((IntKind.i64.wrap ((IntKind.i64.wrap (2 * a0.1)) * (List.length a0.2.1 : Int))) * a1))))
theorem spec_SeekBound_s {a0 : Y33} {a1 : Int} {r : Int} (h : spec_SeekBound a0 a1 = some r) : SoundAt Tryd.prog 42 [.agg (c34_ddd a0), nI a1] (nI r) := by
 unfold spec_SeekBound at h
 refine st lit42 rfl (rn 1 rfl (ls_seq_k fun K1 hK1 => rs (sp 1 rfl (?_))))
 obtain ⟨v2, g3, h⟩ := ob_some h
 refine qC (qa rfl (erg (erc rfl (erc (erD ec64_d _) (erc (erD eci64 _) rfl)))) eran) (spec_IsValidQuery_s g3) (sp 2 rfl (?_))
 rcases cond_some h with ⟨g4, h⟩ | ⟨g4, h⟩
 ·exact qg 8 g4 rfl (sp 4 rfl (evn (qT rfl rfl (rn 1 rfl (ls_ret ((by cases h; exact ⟨.inl rfl, rfl⟩)))))))
 ·refine qg 8 g4 rfl (sp 1 rfl (?_))
  obtain ⟨v5, g6, h⟩ := ob_some h
  refine oGR rfl rfl (qC (qs rfl (qs rfl (qs rfl eran))) (spec_l1In_s g6) (sp 2 rfl (evn ?_)))
  rcases cond_some h with ⟨g7, h⟩ | ⟨g7, h⟩
  ·exact qT rfl g7 (rn 1 rfl (ls_ret ((by cases h; exact ⟨.inl rfl, rfl⟩))))
  ·exact qF rfl g7 (ls_skip (hK1 _ (rn 1 rfl (qk [4] rfl (ls_ret ((by cases h; exact ⟨.inl rfl, rfl⟩)))))))
def spec_IsWithinSeekBound_J1 (x14 : Bool) : Option (Bool) := some x14
def spec_IsWithinSeekBound (a0 : Y33) (a1 : List Int) (a2 : List Y65) (a3 : Int) : Option (Bool) := obind (spec_ScaleToIntegers a2) fun v1 => obind (spec_ProductOfPowers a1 v1.1) fun v3 => obind (spec_PowBigInt a3 v1.2) fun v5 => obind (spec_SeekBound a0 1) fun v7 => obind (spec_PowBigInt v7 v1.2) fun v9 => obind (spec_MulBigInt v3.1 v9.1) fun v11 => cond (decide (0 < v1.2)) (cond v3.2 (cond v5.2 (cond v9.2 (cond v11.2 (obind (spec_IsValidQuery a0) fun v20 => cond v20 (obind (spec_CompareBigInts v5.1 v11.1) fun v23 => spec_IsWithinSeekBound_J1 (decide (v23 ≤ 0))) (spec_IsWithinSeekBound_J1 false)) (spec_IsWithinSeekBound_J1 false)) (spec_IsWithinSeekBound_J1 false)) (spec_IsWithinSeekBound_J1 false)) (spec_IsWithinSeekBound_J1 false)) (spec_IsWithinSeekBound_J1 false)
theorem spec_IsWithinSeekBound_s {a0 : Y33} {a1 : List Int} {a2 : List Y65} {a3 : Int} {r : Bool} (h : spec_IsWithinSeekBound a0 a1 a2 a3 = some r) : SoundAt Tryd.prog 19 [.agg (c34_ddd a0), dL ci64 a1, dL c66_ a2, nI a3] (.bool r) := by
 unfold spec_IsWithinSeekBound at h
 refine st lit19 rfl (rn 1 rfl (rs (sp 1 rfl (?_))))
 obtain ⟨v1, g2, h⟩ := ob_some h
 refine qC (qa rfl (erD ec66_ _) eran) (spec_ScaleToIntegers_s g2) (sp 5 rfl (evn (rs (sp 2 rfl (?_)))))
 obtain ⟨v3, g4, h⟩ := ob_some h
 refine qC (qa rfl (erD eci64 _) (qa rfl (erD eci64 _) eran)) (spec_ProductOfPowers_s g4) (sp 6 rfl (evn (rs (sp 2 rfl (?_)))))
 obtain ⟨v5, g6, h⟩ := ob_some h
 refine qC (qs rfl (qs rfl eran)) (spec_PowBigInt_s g6) (sp 6 rfl (evn (rs (sp 1 rfl (?_)))))
 obtain ⟨v7, g8, h⟩ := ob_some h
 refine qC (qa rfl (erg (erc rfl (erc (erD ec64_d _) (erc (erD eci64 _) rfl)))) (qs rfl eran)) (spec_SeekBound_s g8) (sp 1 rfl (?_))
 obtain ⟨v9, g10, h⟩ := ob_some h
 refine qC (qs rfl (qs rfl eran)) (spec_PowBigInt_s g10) (sp 6 rfl (evn (qk [4, 10, 11, 12, 13, 14, 15, 16] rfl (rs (sp 2 rfl (?_))))))
 obtain ⟨v11, g12, h⟩ := ob_some h
 refine qC (qa rfl (erg (erc (erD eci64 _) rfl)) (qa rfl (erg (erc (erD eci64 _) rfl)) eran)) (spec_MulBigInt_s g12) (sp 6 rfl (evn (rk fun K13 hK13 => ?_)))
 have kJ1 : ∀ {x14 : Bool}, spec_IsWithinSeekBound_J1 x14 = some r → Jn K13 [(8, .bool x14)] := by
  intro x14 h σ' hk
  unfold spec_IsWithinSeekBound_J1 at h
  exact hK13 _ (lh hk rfl (ls_ret ((by cases h; exact ⟨.inl rfl, rfl⟩))))
 refine sp 3 rfl (?_)
 rcases cond_some h with ⟨g15, h⟩ | ⟨g15, h⟩
 ·refine qg 51 g15 rfl (sp 3 rfl (?_))
  rcases cond_some h with ⟨g16, h⟩ | ⟨g16, h⟩
  ·refine qg 54 g16 rfl (sp 3 rfl (?_))
   rcases cond_some h with ⟨g17, h⟩ | ⟨g17, h⟩
   ·refine qg 57 g17 rfl (sp 3 rfl (?_))
    rcases cond_some h with ⟨g18, h⟩ | ⟨g18, h⟩
    ·refine qg 60 g18 rfl (sp 3 rfl (?_))
     rcases cond_some h with ⟨g19, h⟩ | ⟨g19, h⟩
     ·refine qg 63 g19 rfl (sp 1 rfl (?_))
      obtain ⟨v20, g21, h⟩ := ob_some h
      refine oGR rfl rfl (qC (qa rfl (erg (erc rfl (erc (erD ec64_d _) (erc (erD eci64 _) rfl)))) eran) (spec_IsValidQuery_s g21) (sp 2 rfl (?_)))
      rcases cond_some h with ⟨g22, h⟩ | ⟨g22, h⟩
      ·refine qg 67 g22 rfl (sp 2 rfl (?_))
       obtain ⟨v23, g24, h⟩ := ob_some h
       exact oGR rfl rfl (qC (qa rfl (erg (erc (erD eci64 _) rfl)) (qa rfl (erg (erc (erD eci64 _) rfl)) eran)) (spec_CompareBigInts_s g24) (sp 3 rfl (evn (kJ1 h _ (okr rfl)))))
      ·exact qg 67 g22 rfl (sp 6 rfl (evn (kJ1 h _ (okr rfl))))
     ·exact qg 63 g19 rfl (sp 10 rfl (evn (kJ1 h _ (okr rfl))))
    ·exact qg 60 g18 rfl (sp 13 rfl (evn (kJ1 h _ (okr rfl))))
   ·exact qg 57 g17 rfl (sp 16 rfl (evn (kJ1 h _ (okr rfl))))
  ·exact qg 54 g16 rfl (sp 19 rfl (evn (kJ1 h _ (okr rfl))))
 ·exact qg 51 g15 rfl (sp 22 rfl (evn (kJ1 h _ (okr rfl))))
abbrev Y37 := (List Int) × (List Y65) × (List Int) × Int × Int
def c38_ddd (x : Y37) : List V := [dL ci64 x.1, dL c66_ x.2.1, dL ci64 x.2.2.1, nI x.2.2.2.1, nI x.2.2.2.2]
theorem zc38_ddd (x : Y37) : (c38_ddd x).length = 5 := rfl
theorem ec38_ddd (x : Y37) : erL (c38_ddd x) = c38_ddd x := (erc (erD eci64 _) (erc (erD ec66_ _) (erc (erD eci64 _) (erc rfl (erc rfl rfl)))))
def spec_IsValidCertificate_B1 (a1 : Y37) (rec : Int → Option (Sum (Unit) (Bool))) (y1 : Int) : Option (Sum (Unit) (Bool)) := cond (decide (y1 < (List.length a1.2.2.1 : Int))) (obind (geti a1.2.2.1 y1) fun e13 => obind (spec_l1In e13 0 16) fun v15 => cond (!v15) (some (.inr false)) (rec (IntKind.i64.wrap (y1 + 1)))) (some (.inl ()))
def spec_IsValidCertificate_J2 (x19 : Bool) : Option (Bool) := some x19
def spec_IsValidCertificate (a0 : Y33) (a1 : Y37) : Option (Bool) := obind (spec_IsValidOrder a0 a1.1) fun v2 => cond (!v2) (some false) (obind (spec_IsFractionalCover a0 a1.2.1) fun v5 => cond (!v5) (some false) (cond ((List.length a1.2.2.1 : Int) != (List.length a0.2.1 : Int)) (some false) (obind (loopF (spec_IsValidCertificate_B1 a1) fz 0) fun o1 => (match o1 with
  | .inl _ => (obind (spec_IsWithinAGMBound a1.2.2.1 a1.2.1 a1.2.2.2.1) fun v20 => cond v20 (obind (spec_IsWithinSeekBound a0 a1.2.2.1 a1.2.1 a1.2.2.2.2) fun v23 => spec_IsValidCertificate_J2 v23) (spec_IsValidCertificate_J2 false))
  | .inr r => some r))))
theorem spec_IsValidCertificate_s {a0 : Y33} {a1 : Y37} {r : Bool} (h : spec_IsValidCertificate a0 a1 = some r) : SoundAt Tryd.prog 6 [.agg (c34_ddd a0), .agg (c38_ddd a1)] (.bool r) := by
 unfold spec_IsValidCertificate at h
 refine st lit6 rfl (rn 1 rfl (ls_seq_k fun K1 hK1 => rs (sp 3 rfl (?_))))
 obtain ⟨v2, g3, h⟩ := ob_some h
 refine qC (qa rfl (erg (erc rfl (erc (erD ec64_d _) (erc (erD eci64 _) rfl)))) (qa rfl (erD eci64 _) eran)) (spec_IsValidOrder_s g3) (sp 2 rfl (?_))
 rcases cond_some h with ⟨g4, h⟩ | ⟨g4, h⟩
 ·exact qg 11 g4 rfl (sp 15 rfl (evn (qT rfl rfl (rn 1 rfl (ls_ret ((by cases h; exact ⟨.inl rfl, rfl⟩)))))))
 ·refine qg 11 g4 rfl (sp 3 rfl (?_))
  obtain ⟨v5, g6, h⟩ := ob_some h
  refine oGR rfl rfl (qC (qa rfl (erg (erc rfl (erc (erD ec64_d _) (erc (erD eci64 _) rfl)))) (qa rfl (erD ec66_ _) eran)) (spec_IsFractionalCover_s g6) (sp 3 rfl (?_)))
  rcases cond_some h with ⟨g7, h⟩ | ⟨g7, h⟩
  ·exact qg 18 g7 rfl (sp 8 rfl (evn (qk [2, 3, 26] rfl (qT rfl rfl (rn 1 rfl (ls_ret ((by cases h; exact ⟨.inl rfl, rfl⟩))))))))
  ·refine qg 18 g7 rfl (sp 8 rfl (evn ?_))
   rcases cond_some h with ⟨g8, h⟩ | ⟨g8, h⟩
   ·exact qT rfl g8 (rn 1 rfl (ls_ret ((by cases h; exact ⟨.inl rfl, rfl⟩))))
   ·refine qF rfl g8 (ls_skip (hK1 _ (ls_seq_k fun K9 hK9 => rn 1 rfl ?_)))
    obtain ⟨o1, hl, hr1⟩ := ob_some h
    have kXB1 : (.inl ()) = o1 → Jn K9 [(2, .box [nI a0.1, dL c64_d a0.2.1, dL ci64 a0.2.2]), (3, .box [dL ci64 a1.1, dL c66_ a1.2.1, dL ci64 a1.2.2.1, nI a1.2.2.2.1, nI a1.2.2.2.2])] := by
     intro h σ' hk
     subst h
     replace h := hr1
     try dsimp only at h
     refine hK9 _ (lh hk rfl (rk fun K18 hK18 => ?_))
     have kJ2 : ∀ {x19 : Bool}, spec_IsValidCertificate_J2 x19 = some r → Jn K18 [(4, .bool x19)] := by
      intro x19 h σ' hk
      unfold spec_IsValidCertificate_J2 at h
      exact hK18 _ (lh hk rfl (ls_ret ((by cases h; exact ⟨.inl rfl, rfl⟩))))
     refine sp 6 rfl (?_)
     obtain ⟨v20, g21, h⟩ := ob_some h
     refine qC (qa rfl (erD eci64 _) (qa rfl (erD ec66_ _) (qs rfl eran))) (spec_IsWithinAGMBound_s g21) (sp 1 rfl (?_))
     rcases cond_some h with ⟨g22, h⟩ | ⟨g22, h⟩
     ·refine qg 48 g22 rfl (sp 7 rfl (?_))
      obtain ⟨v23, g24, h⟩ := ob_some h
      exact oGR rfl rfl (qC (qa rfl (erg (erc rfl (erc (erD ec64_d _) (erc (erD eci64 _) rfl)))) (qa rfl (erD eci64 _) (qa rfl (erD ec66_ _) (qs rfl eran)))) (spec_IsWithinSeekBound_s g24) (sp 2 rfl (evn (kJ2 h _ (okr rfl)))))
     ·exact qg 48 g22 rfl (sp 10 rfl (evn (kJ2 h _ (okr rfl))))
    refine ls_rec (fun (y1 : Int) => [(2, .box [nI a0.1, dL c64_d a0.2.1, dL ci64 a0.2.2]), (3, .box [dL ci64 a1.1, dL c66_ a1.2.1, dL ci64 a1.2.2.1, nI a1.2.2.2.1, nI a1.2.2.2.2]), (5, nI y1)]) _ _ _ _ hl (okr rfl) (fun _ => rfl) ?_
    rintro m y1 N h hN
    unfold spec_IsValidCertificate_B1 at h
    refine ls_seq_k fun K10 hK10 => rn 1 rfl ?_
    rcases cond_some h with ⟨g11, h⟩ | ⟨g11, h⟩
    ·refine qT rfl g11 (ls_skip (hK10 _ (ls_seq_k fun K12 hK12 => ls_blk (rs (sp 3 rfl (?_))))))
     obtain ⟨e13, g14, h⟩ := ob_some h
     refine qI rfl zci64 g14 (sp 1 rfl (?_))
     obtain ⟨v15, g16, h⟩ := ob_some h
     refine qC (qs rfl (qs rfl (qs rfl eran))) (spec_l1In_s g16) (sp 1 rfl (evn ?_))
     rcases cond_some h with ⟨g17, h⟩ | ⟨g17, h⟩
     ·exact qT rfl g17 (rn 1 rfl (ls_ret ((by cases h; cases hr1; exact ⟨.inl rfl, rfl⟩))))
     ·exact qF rfl g17 (ls_skip (hK12 _ (rg (sp 3 rfl (evn (hN _ _ h (okr rfl)))))))
    ·exact qF rfl g11 (ls_exit (kXB1 (Option.some.inj h) _ (okr rfl)))
def laws_toIntS_B1 (a0 : List Int) (rec : ((List Int) × Int) → Option ((List Int))) (s : (List Int) × Int) : Option ((List Int)) := match s with
  | (y1, y2) => cond (decide (y2 < (List.length a0 : Int))) (obind (geti a0 y2) fun e7 => obind (geti y1 y2) fun e9 => rec ((seti y1 y2 e7), (IntKind.i64.wrap (y2 + 1)))) (some y1)
def laws_toIntS (a0 : List Int) : Option ((List Int)) := chk ((0 : Int) ≤ (List.length a0 : Int) ∧ Int.toNat (List.length a0 : Int) ≤ lim) (obind (loopF (laws_toIntS_B1 a0) fz ((List.replicate (Int.toNat (List.length a0 : Int)) (0 : Int)), 0)) fun z3 => some z3)
theorem laws_toIntS_s {a0 : List Int} {r : (List Int)} (h : laws_toIntS a0 = some r) : SoundAt Tryd.prog 21 [dL ci64 a0] (oL 3 ci64 r) := by
 unfold laws_toIntS at h
 refine st lit21 rfl (rn 1 rfl (rs (sp 2 rfl (?_))))
 obtain ⟨g1, h⟩ := chk_some h
 refine qMu ci64 (0 : Int) rfl rfl rfl rfl g1 rfl (qAu rfl rfl rfl rfl (evn (ls_seq_k fun K2 hK2 => rn 1 rfl ?_)))
 obtain ⟨o1, hl, hr1⟩ := ob_some h
 have kXB1 : ∀ {z3 : List Int}, z3 = o1 → Jn K2 [(3, wL 3 ci64 z3)] := by
  intro z3 h σ' hk
  subst h
  replace h := hr1
  try dsimp only at h
  exact hK2 _ (lh hk rfl (rs (qTu rfl rfl rfl (sp 1 rfl (evn (ls_ret ((by cases h; exact ⟨.inl rfl, rfl⟩))))))))
 refine ls_rec (fun (s : (List Int) × Int) => match s with | (y1, y2) => [(0, dL ci64 a0), (3, wL 3 ci64 y1), (4, nI y2)]) _ _ _ _ hl (okr rfl) (fun _ => rfl) ?_
 rintro m ⟨y1, y2⟩ N h hN
 unfold laws_toIntS_B1 at h
 dsimp only at h
 refine ls_seq_k fun K4 hK4 => rn 1 rfl ?_
 rcases cond_some h with ⟨g5, h⟩ | ⟨g5, h⟩
 ·refine qT rfl g5 (ls_skip (hK4 _ (ls_seq_k fun K6 hK6 => ls_blk (rg (sp 4 rfl (?_))))))
  obtain ⟨e7, g8, h⟩ := ob_some h
  refine qI rfl zci64 g8 (sp 1 rfl (?_))
  obtain ⟨e9, g10, h⟩ := ob_some h
  exact qIu rfl ⟨(geti_some g10).1, (geti_some g10).2.1⟩ (qSu e7 rfl rfl zci64 ⟨(geti_some g10).1, (geti_some g10).2.1⟩ rfl rfl rfl rfl rfl rfl (evn (hK6 _ (rg (sp 3 rfl (evn (hN _ _ h (okr rfl))))))))
 ·exact qF rfl g5 (ls_exit (kXB1 (Option.some.inj h) _ (okr rfl)))
def c64_o (x : Y58) : List V := [.str x.1, oL 3 ci64 x.2]
theorem zc64_o (x : Y58) : (c64_o x).length = 2 := rfl
theorem ec64_o (x : Y58) : erL (c64_o x) = c64_d x := (erc rfl (erc (erO eci64 _) rfl))
def laws_toAtom (a0 : Y58) : Option (Y58) := obind (laws_toIntS a0.2) fun v1 => some (a0.1, v1)
theorem laws_toAtom_s {a0 : Y58} {r : Y58} (h : laws_toAtom a0 = some r) : SoundAt Tryd.prog 44 [.agg (c59_d a0)] (.agg (c64_o r)) := by
 unfold laws_toAtom at h
 refine st lit44 rfl (rn 3 rfl (rs (sp 2 rfl (?_))))
 obtain ⟨v1, g2, h⟩ := ob_some h
 exact qC (qa rfl (erD eci64 _) eran) (laws_toIntS_s g2) (sp 2 rfl (evn (rn 1 rfl (ls_ret ((by cases h; exact ⟨.inl rfl, rfl⟩))))))
def laws_toAtomS_B1 (a0 : List Y58) (rec : ((List Y58) × Int) → Option ((List Y58))) (s : (List Y58) × Int) : Option ((List Y58)) := match s with
  | (y1, y2) => cond (decide (y2 < (List.length a0 : Int))) (obind (geti a0 y2) fun e7 => obind (laws_toAtom e7) fun v9 => obind (geti y1 y2) fun e11 => rec ((seti y1 y2 v9), (IntKind.i64.wrap (y2 + 1)))) (some y1)
def laws_toAtomS (a0 : List Y58) : Option ((List Y58)) := chk ((0 : Int) ≤ (List.length a0 : Int) ∧ Int.toNat (List.length a0 : Int) ≤ lim) (obind (loopF (laws_toAtomS_B1 a0) fz ((List.replicate (Int.toNat (List.length a0 : Int)) (([], []) : Y58)), 0)) fun z3 => some z3)
theorem laws_toAtomS_s {a0 : List Y58} {r : (List Y58)} (h : laws_toAtomS a0 = some r) : SoundAt Tryd.prog 20 [dL c59_d a0] (oL 64 c64_o r) := by
 unfold laws_toAtomS at h
 refine st lit20 rfl (rn 1 rfl (rs (sp 2 rfl (?_))))
 obtain ⟨g1, h⟩ := chk_some h
 refine qMu c64_o (([], []) : Y58) rfl rfl rfl rfl g1 rfl (qAu rfl rfl rfl rfl (evn (ls_seq_k fun K2 hK2 => rn 1 rfl ?_)))
 obtain ⟨o1, hl, hr1⟩ := ob_some h
 have kXB1 : ∀ {z3 : List Y58}, z3 = o1 → Jn K2 [(3, wL 64 c64_o z3)] := by
  intro z3 h σ' hk
  subst h
  replace h := hr1
  try dsimp only at h
  exact hK2 _ (lh hk rfl (rs (qTu rfl rfl rfl (sp 1 rfl (evn (ls_ret ((by cases h; exact ⟨.inl rfl, rfl⟩))))))))
 refine ls_rec (fun (s : (List Y58) × Int) => match s with | (y1, y2) => [(0, dL c59_d a0), (3, wL 64 c64_o y1), (4, nI y2)]) _ _ _ _ hl (okr rfl) (fun _ => rfl) ?_
 rintro m ⟨y1, y2⟩ N h hN
 unfold laws_toAtomS_B1 at h
 dsimp only at h
 refine ls_seq_k fun K4 hK4 => rn 1 rfl ?_
 rcases cond_some h with ⟨g5, h⟩ | ⟨g5, h⟩
 ·refine qT rfl g5 (ls_skip (hK4 _ (ls_seq_k fun K6 hK6 => ls_blk (rg (sp 4 rfl (?_))))))
  obtain ⟨e7, g8, h⟩ := ob_some h
  refine qI rfl zc59_d g8 (sp 1 rfl (?_))
  obtain ⟨v9, g10, h⟩ := ob_some h
  refine qC (qa rfl (erg (erc rfl (erc (erD eci64 _) rfl))) eran) (laws_toAtom_s g10) (?_)
  obtain ⟨e11, g12, h⟩ := ob_some h
  exact qIu rfl ⟨(geti_some g12).1, (geti_some g12).2.1⟩ (qSu v9 rfl rfl zc64_o ⟨(geti_some g12).1, (geti_some g12).2.1⟩ rfl rfl rfl rfl rfl rfl (evn (hK6 _ (rg (sp 3 rfl (evn (hN _ _ h (okr rfl))))))))
 ·exact qF rfl g5 (ls_exit (kXB1 (Option.some.inj h) _ (okr rfl)))
def c34_ooo (x : Y33) : List V := [nI x.1, oL 64 c64_o x.2.1, oL 3 ci64 x.2.2]
theorem zc34_ooo (x : Y33) : (c34_ooo x).length = 3 := rfl
theorem ec34_ooo (x : Y33) : erL (c34_ooo x) = c34_ddd x := (erc rfl (erc (erO ec64_o _) (erc (erO eci64 _) rfl)))
def laws_toQuery (a0 : Y24) : Option (Y33) := obind (laws_toAtomS a0.2.1) fun v1 => obind (laws_toIntS a0.2.2) fun v3 => some (a0.1, v1, v3)
theorem laws_toQuery_s {a0 : Y24} {r : Y33} (h : laws_toQuery a0 = some r) : SoundAt Tryd.prog 7 [.agg (c25_ddd a0)] (.agg (c34_ooo r)) := by
 unfold laws_toQuery at h
 refine st lit7 rfl (rn 3 rfl (rs (sp 2 rfl (?_))))
 obtain ⟨v1, g2, h⟩ := ob_some h
 refine qC (qa rfl (erD ec59_d _) eran) (laws_toAtomS_s g2) (sp 2 rfl (evn (rs (sp 2 rfl (?_)))))
 obtain ⟨v3, g4, h⟩ := ob_some h
 exact qC (qa rfl (erD eci64 _) eran) (laws_toIntS_s g4) (sp 2 rfl (evn (rn 1 rfl (ls_ret ((by cases h; exact ⟨.inl rfl, rfl⟩))))))
def laws_toRational (a0 : Y65) : Option (Y65) := some a0
theorem laws_toRational_s {a0 : Y65} {r : Y65} (h : laws_toRational a0 = some r) : SoundAt Tryd.prog 45 [.agg (c82_ a0)] (.agg (c66_ r)) := by
 unfold laws_toRational at h
 exact st lit45 rfl (rn 5 rfl (ls_ret ((by cases h; exact ⟨.inl rfl, rfl⟩))))
def laws_toRationalS_B1 (a0 : List Y65) (rec : ((List Y65) × Int) → Option ((List Y65))) (s : (List Y65) × Int) : Option ((List Y65)) := match s with
  | (y1, y2) => cond (decide (y2 < (List.length a0 : Int))) (obind (geti a0 y2) fun e7 => obind (laws_toRational e7) fun v9 => obind (geti y1 y2) fun e11 => rec ((seti y1 y2 v9), (IntKind.i64.wrap (y2 + 1)))) (some y1)
def laws_toRationalS (a0 : List Y65) : Option ((List Y65)) := chk ((0 : Int) ≤ (List.length a0 : Int) ∧ Int.toNat (List.length a0 : Int) ≤ lim) (obind (loopF (laws_toRationalS_B1 a0) fz ((List.replicate (Int.toNat (List.length a0 : Int)) ((0, 0) : Y65)), 0)) fun z3 => some z3)
theorem laws_toRationalS_s {a0 : List Y65} {r : (List Y65)} (h : laws_toRationalS a0 = some r) : SoundAt Tryd.prog 22 [dL c82_ a0] (oL 66 c66_ r) := by
 unfold laws_toRationalS at h
 refine st lit22 rfl (rn 1 rfl (rs (sp 2 rfl (?_))))
 obtain ⟨g1, h⟩ := chk_some h
 refine qMu c66_ ((0, 0) : Y65) rfl rfl rfl rfl g1 rfl (qAu rfl rfl rfl rfl (evn (ls_seq_k fun K2 hK2 => rn 1 rfl ?_)))
 obtain ⟨o1, hl, hr1⟩ := ob_some h
 have kXB1 : ∀ {z3 : List Y65}, z3 = o1 → Jn K2 [(3, wL 66 c66_ z3)] := by
  intro z3 h σ' hk
  subst h
  replace h := hr1
  try dsimp only at h
  exact hK2 _ (lh hk rfl (rs (qTu rfl rfl rfl (sp 1 rfl (evn (ls_ret ((by cases h; exact ⟨.inl rfl, rfl⟩))))))))
 refine ls_rec (fun (s : (List Y65) × Int) => match s with | (y1, y2) => [(0, dL c82_ a0), (3, wL 66 c66_ y1), (4, nI y2)]) _ _ _ _ hl (okr rfl) (fun _ => rfl) ?_
 rintro m ⟨y1, y2⟩ N h hN
 unfold laws_toRationalS_B1 at h
 dsimp only at h
 refine ls_seq_k fun K4 hK4 => rn 1 rfl ?_
 rcases cond_some h with ⟨g5, h⟩ | ⟨g5, h⟩
 ·refine qT rfl g5 (ls_skip (hK4 _ (ls_seq_k fun K6 hK6 => ls_blk (rg (sp 4 rfl (?_))))))
  obtain ⟨e7, g8, h⟩ := ob_some h
  refine qI rfl zc82_ g8 (sp 1 rfl (?_))
  obtain ⟨v9, g10, h⟩ := ob_some h
  refine qC (qa rfl (erg (erc rfl (erc rfl rfl))) eran) (laws_toRational_s g10) (?_)
  obtain ⟨e11, g12, h⟩ := ob_some h
  exact qIu rfl ⟨(geti_some g12).1, (geti_some g12).2.1⟩ (qSu v9 rfl rfl zc66_ ⟨(geti_some g12).1, (geti_some g12).2.1⟩ rfl rfl rfl rfl rfl rfl (evn (hK6 _ (rg (sp 3 rfl (evn (hN _ _ h (okr rfl))))))))
 ·exact qF rfl g5 (ls_exit (kXB1 (Option.some.inj h) _ (okr rfl)))
def c38_ooo (x : Y37) : List V := [oL 3 ci64 x.1, oL 66 c66_ x.2.1, oL 3 ci64 x.2.2.1, nI x.2.2.2.1, nI x.2.2.2.2]
theorem zc38_ooo (x : Y37) : (c38_ooo x).length = 5 := rfl
theorem ec38_ooo (x : Y37) : erL (c38_ooo x) = c38_ddd x := (erc (erO eci64 _) (erc (erO ec66_ _) (erc (erO eci64 _) (erc rfl (erc rfl rfl)))))
def laws_toCertificate (a0 : Y27) : Option (Y37) := obind (laws_toIntS a0.1) fun v1 => obind (laws_toRationalS a0.2.1) fun v3 => obind (laws_toIntS a0.2.2.1) fun v5 => some (v1, v3, v5, a0.2.2.2.1, a0.2.2.2.2)
theorem laws_toCertificate_s {a0 : Y27} {r : Y37} (h : laws_toCertificate a0 = some r) : SoundAt Tryd.prog 8 [.agg (c28_ddd a0)] (.agg (c38_ooo r)) := by
 unfold laws_toCertificate at h
 refine st lit8 rfl (rn 2 rfl (rs (sp 2 rfl (?_))))
 obtain ⟨v1, g2, h⟩ := ob_some h
 refine qC (qa rfl (erD eci64 _) eran) (laws_toIntS_s g2) (sp 2 rfl (evn (rs (sp 2 rfl (?_)))))
 obtain ⟨v3, g4, h⟩ := ob_some h
 refine qC (qa rfl (erD ec82_ _) eran) (laws_toRationalS_s g4) (sp 2 rfl (evn (rs (sp 2 rfl (?_)))))
 obtain ⟨v5, g6, h⟩ := ob_some h
 exact qC (qa rfl (erD eci64 _) eran) (laws_toIntS_s g6) (sp 2 rfl (evn (rn 3 rfl (qk [2] rfl (ls_ret ((by cases h; exact ⟨.inl rfl, rfl⟩)))))))
def impl_within_J1 (x2 : Bool) : Option (Bool) := some x2
def impl_within (a0 : Int) (a1 : Int) (a2 : Int) : Option (Bool) := cond (decide (a1 ≤ a0)) (impl_within_J1 (decide (a0 ≤ a2))) (impl_within_J1 false)
theorem impl_within_s {a0 : Int} {a1 : Int} {a2 : Int} {r : Bool} (h : impl_within a0 a1 a2 = some r) : SoundAt Tryd.prog 25 [nI a0, nI a1, nI a2] (.bool r) := by
 unfold impl_within at h
 refine st lit25 rfl (rn 1 rfl (rk fun K1 hK1 => ?_))
 have kJ1 : ∀ {x2 : Bool}, impl_within_J1 x2 = some r → Jn K1 [(6, .bool x2)] := by
  intro x2 h σ' hk
  unfold impl_within_J1 at h
  exact hK1 _ (lh hk rfl (ls_ret ((by cases h; exact ⟨.inl rfl, rfl⟩))))
 refine sp 4 rfl (?_)
 rcases cond_some h with ⟨g3, h⟩ | ⟨g3, h⟩
 ·exact qg 10 g3 rfl (sp 5 rfl (evn (kJ1 h _ (okr rfl))))
 ·exact qg 10 g3 rfl (sp 5 rfl (evn (kJ1 h _ (okr rfl))))
def impl_indexOf_B1 (a0 : List Int) (a1 : Int) (rec : Int → Option (Sum (Unit) (Int))) (y1 : Int) : Option (Sum (Unit) (Int)) := cond (decide (y1 < (List.length a0 : Int))) (obind (geti a0 y1) fun e5 => cond (e5 == a1) (some (.inr y1)) (rec (IntKind.i64.wrap (y1 + 1)))) (some (.inl ()))
def impl_indexOf (a0 : List Int) (a1 : Int) : Option (Int) := obind (loopF (impl_indexOf_B1 a0 a1) fz 0) fun o1 => (match o1 with
  | .inl _ => (some (-1))
  | .inr r => some r)
theorem impl_indexOf_s {a0 : List Int} {a1 : Int} {r : Int} (h : impl_indexOf a0 a1 = some r) : SoundAt Tryd.prog 77 [dL ci64 a0, nI a1] (nI r) := by
 unfold impl_indexOf at h
 refine st lit77 rfl (rn 1 rfl (ls_seq_k fun K1 hK1 => rn 1 rfl ?_))
 obtain ⟨o1, hl, hr1⟩ := ob_some h
 have kXB1 : (.inl ()) = o1 → Jn K1 [] := by
  intro h σ' hk
  subst h
  replace h := hr1
  try dsimp only at h
  exact hK1 _ (lh hk rfl (rn 1 rfl (ls_ret ((by cases h; exact ⟨.inl rfl, rfl⟩)))))
 refine ls_rec (fun (y1 : Int) => [(1, nI a1), (7, dL ci64 a0), (8, nI (List.length a0 : Int)), (9, nI y1)]) _ _ _ _ hl (okr rfl) (fun _ => rfl) ?_
 rintro m y1 N h hN
 unfold impl_indexOf_B1 at h
 refine rn 1 rfl (ls_seq_k fun K2 hK2 => ?_)
 rcases cond_some h with ⟨g3, h⟩ | ⟨g3, h⟩
 ·refine qT rfl g3 (ls_skip (hK2 _ (ls_seq_k fun K4 hK4 => ls_blk (rs (sp 1 rfl (?_))))))
  obtain ⟨e5, g6, h⟩ := ob_some h
  refine qI rfl zci64 g6 (sp 3 rfl (evn (rn 1 rfl ?_)))
  rcases cond_some h with ⟨g7, h⟩ | ⟨g7, h⟩
  ·exact qT rfl g7 (rn 1 rfl (ls_ret ((by cases h; cases hr1; exact ⟨.inl rfl, rfl⟩))))
  ·exact qF rfl g7 (ls_skip (hK4 _ (rg (sp 2 rfl (evn (hN _ _ h (okr rfl)))))))
 ·exact qF rfl g3 (ls_exit (kXB1 (Option.some.inj h) _ trivial))
def impl_hasInt (a0 : List Int) (a1 : Int) : Option (Bool) := obind (impl_indexOf a0 a1) fun v1 => some (decide (0 ≤ v1))
theorem impl_hasInt_s {a0 : List Int} {a1 : Int} {r : Bool} (h : impl_hasInt a0 a1 = some r) : SoundAt Tryd.prog 65 [dL ci64 a0, nI a1] (.bool r) := by
 unfold impl_hasInt at h
 refine st lit65 rfl (rn 1 rfl (rs (sp 2 rfl (?_))))
 obtain ⟨v1, g2, h⟩ := ob_some h
 exact qC (qa rfl (erD eci64 _) (qs rfl eran)) (impl_indexOf_s g2) (sp 2 rfl (evn (ls_ret ((by cases h; exact ⟨.inl rfl, rfl⟩)))))
def impl_isSetOf_B1 (a0 : List Int) (a1 : Int) (rec : Int → Option (Sum (Unit) (Bool))) (y1 : Int) : Option (Sum (Unit) (Bool)) := cond (decide (y1 < (List.length a0 : Int))) (obind (geti a0 y1) fun e5 => obind (impl_within e5 0 (IntKind.i64.wrap (a1 - 1))) fun v7 => cond (!v7) (some (.inr false)) (chk ((0 : Int) ≤ 0 ∧ 0 ≤ y1 ∧ y1 ≤ (List.length a0 : Int)) (obind (impl_hasInt (subl a0 0 y1) e5) fun v11 => cond v11 (some (.inr false)) (rec (IntKind.i64.wrap (y1 + 1)))))) (some (.inl ()))
def impl_isSetOf (a0 : List Int) (a1 : Int) : Option (Bool) := obind (loopF (impl_isSetOf_B1 a0 a1) fz 0) fun o1 => (match o1 with
  | .inl _ => (some true)
  | .inr r => some r)
theorem impl_isSetOf_s {a0 : List Int} {a1 : Int} {r : Bool} (h : impl_isSetOf a0 a1 = some r) : SoundAt Tryd.prog 47 [dL ci64 a0, nI a1] (.bool r) := by
 unfold impl_isSetOf at h
 refine st lit47 rfl (rn 1 rfl (ls_seq_k fun K1 hK1 => rn 1 rfl ?_))
 obtain ⟨o1, hl, hr1⟩ := ob_some h
 have kXB1 : (.inl ()) = o1 → Jn K1 [] := by
  intro h σ' hk
  subst h
  replace h := hr1
  try dsimp only at h
  exact hK1 _ (lh hk rfl (rn 1 rfl (ls_ret ((by cases h; exact ⟨.inl rfl, rfl⟩)))))
 refine ls_rec (fun (y1 : Int) => [(0, dL ci64 a0), (1, nI a1), (7, dL ci64 a0), (8, nI (List.length a0 : Int)), (9, nI y1)]) _ _ _ _ hl (okr rfl) (fun _ => rfl) ?_
 rintro m y1 N h hN
 unfold impl_isSetOf_B1 at h
 refine rn 1 rfl (ls_seq_k fun K2 hK2 => ?_)
 rcases cond_some h with ⟨g3, h⟩ | ⟨g3, h⟩
 ·refine qT rfl g3 (ls_skip (hK2 _ (ls_seq_k fun K4 hK4 => ls_blk (rs (sp 1 rfl (?_))))))
  obtain ⟨e5, g6, h⟩ := ob_some h
  refine qI rfl zci64 g6 (sp 3 rfl (evn (rs (sp 3 rfl (?_)))))
  obtain ⟨v7, g8, h⟩ := ob_some h
  refine qC (qs rfl (qs rfl (qs rfl eran))) (impl_within_s g8) (sp 2 rfl (?_))
  rcases cond_some h with ⟨g9, h⟩ | ⟨g9, h⟩
  ·exact qg 19 g9 rfl (sp 6 rfl (evn (qT rfl rfl (rn 1 rfl (ls_ret ((by cases h; cases hr1; exact ⟨.inl rfl, rfl⟩)))))))
  ·refine qg 19 g9 rfl (sp 2 rfl (?_))
   obtain ⟨g10, h⟩ := chk_some h
   refine oGR rfl rfl (qSl rfl zci64 g10 (sp 1 rfl (?_)))
   obtain ⟨v11, g12, h⟩ := ob_some h
   refine oGR rfl rfl (qC (qa rfl (erD eci64 _) (qs rfl eran)) (impl_hasInt_s g12) (sp 1 rfl (evn (qk [0, 1, 7, 8, 9, 25] rfl ?_))))
   rcases cond_some h with ⟨g13, h⟩ | ⟨g13, h⟩
   ·exact qT rfl g13 (rn 1 rfl (ls_ret ((by cases h; cases hr1; exact ⟨.inl rfl, rfl⟩))))
   ·exact qF rfl g13 (ls_skip (hK4 _ (rg (sp 2 rfl (evn (hN _ _ h (okr rfl)))))))
 ·exact qF rfl g3 (ls_exit (kXB1 (Option.some.inj h) _ trivial))
def impl_isLetters_B1 (a0 : List UInt8) (rec : Int → Option (Sum (Unit) (Bool))) (y1 : Int) : Option (Sum (Unit) (Bool)) := cond (decide (y1 < (List.length a0 : Int))) (obind (geti a0 y1) fun b8 => cond (decide ((UInt8.toNat b8 : Int) < 97)) (some (.inr false)) (obind (geti a0 y1) fun b11 => cond (decide (122 < (UInt8.toNat b11 : Int))) (some (.inr false)) (rec (IntKind.i64.wrap (y1 + 1))))) (some (.inl ()))
def impl_isLetters (a0 : List UInt8) (a1 : Int) : Option (Bool) := cond (decide ((List.length a0 : Int) < 1)) (some false) (cond (decide (a1 < (List.length a0 : Int))) (some false) (obind (loopF (impl_isLetters_B1 a0) fz 0) fun o1 => (match o1 with
  | .inl _ => (some true)
  | .inr r => some r)))
theorem impl_isLetters_s {a0 : List UInt8} {a1 : Int} {r : Bool} (h : impl_isLetters a0 a1 = some r) : SoundAt Tryd.prog 76 [.str a0, nI a1] (.bool r) := by
 unfold impl_isLetters at h
 refine st lit76 rfl (rn 1 rfl (ls_seq_k fun K1 hK1 => rs (sp 4 rfl (?_))))
 rcases cond_some h with ⟨g2, h⟩ | ⟨g2, h⟩
 ·exact qg 9 g2 rfl (sp 5 rfl (evn (qT rfl rfl (rn 1 rfl (ls_ret ((by cases h; exact ⟨.inl rfl, rfl⟩)))))))
 ·refine qg 9 g2 rfl (sp 5 rfl (evn ?_))
  rcases cond_some h with ⟨g3, h⟩ | ⟨g3, h⟩
  ·exact qT rfl g3 (rn 1 rfl (ls_ret ((by cases h; exact ⟨.inl rfl, rfl⟩))))
  ·refine qF rfl g3 (ls_skip (hK1 _ (ls_seq_k fun K4 hK4 => rn 1 rfl (qk [0, 5] rfl ?_))))
   obtain ⟨o1, hl, hr1⟩ := ob_some h
   have kXB1 : (.inl ()) = o1 → Jn K4 [] := by
    intro h σ' hk
    subst h
    replace h := hr1
    try dsimp only at h
    exact hK4 _ (lh hk rfl (rn 1 rfl (ls_ret ((by cases h; exact ⟨.inl rfl, rfl⟩)))))
   refine ls_rec (fun (y1 : Int) => [(0, .str a0), (5, nI y1)]) _ _ _ _ hl (okr rfl) (fun _ => rfl) ?_
   rintro m y1 N h hN
   unfold impl_isLetters_B1 at h
   refine ls_seq_k fun K5 hK5 => rn 1 rfl ?_
   rcases cond_some h with ⟨g6, h⟩ | ⟨g6, h⟩
   ·refine qT rfl g6 (ls_skip (hK5 _ (ls_seq_k fun K7 hK7 => ls_blk (rs (sp 2 rfl (?_))))))
    obtain ⟨b8, g9, h⟩ := ob_some h
    refine qX rfl g9 (sp 2 rfl (?_))
    rcases cond_some h with ⟨g10, h⟩ | ⟨g10, h⟩
    ·exact qg 25 g10 rfl (sp 5 rfl (evn (qT rfl rfl (rn 1 rfl (ls_ret ((by cases h; cases hr1; exact ⟨.inl rfl, rfl⟩)))))))
    ·refine qg 25 g10 rfl (sp 2 rfl (?_))
     obtain ⟨b11, g12, h⟩ := ob_some h
     refine oGR rfl rfl (qX rfl g12 (sp 2 rfl (evn ?_)))
     rcases cond_some h with ⟨g13, h⟩ | ⟨g13, h⟩
     ·exact qT rfl g13 (rn 1 rfl (qk [4] rfl (ls_ret ((by cases h; cases hr1; exact ⟨.inl rfl, rfl⟩)))))
     ·exact qF rfl g13 (ls_skip (hK7 _ (rg (sp 3 rfl (evn (hN _ _ h (okr rfl)))))))
   ·exact qF rfl g6 (ls_exit (kXB1 (Option.some.inj h) _ trivial))
def impl_IsValidName (a0 : List UInt8) : Option (Bool) := obind (impl_isLetters a0 4) fun v1 => some v1
theorem impl_IsValidName_s {a0 : List UInt8} {r : Bool} (h : impl_IsValidName a0 = some r) : SoundAt Tryd.prog 64 [.str a0] (.bool r) := by
 unfold impl_IsValidName at h
 refine st lit64 rfl (rn 1 rfl (rs (sp 1 rfl (?_))))
 obtain ⟨v1, g2, h⟩ := ob_some h
 exact qC (qs rfl (qs rfl eran)) (impl_isLetters_s g2) (sp 1 rfl (evn (ls_ret ((by cases h; exact ⟨.inl rfl, rfl⟩)))))
def impl_IsValidQuery_B2 (a0 : Y33) (e17 : Y58) (rec : ((List Bool) × Int) → Option (Sum ((List Bool)) (Bool))) (s : (List Bool) × Int) : Option (Sum ((List Bool)) (Bool)) := match s with
  | (y7, y8) => cond (decide (y8 < (List.length e17.2 : Int))) (obind (geti e17.2 y8) fun e30 => obind (impl_within e30 0 (IntKind.i64.wrap (a0.1 - 1))) fun v33 => cond (!v33) (some (.inr false)) (obind (geti y7 e30) fun e36 => rec ((seti y7 e30 true), (IntKind.i64.wrap (y8 + 1))))) (some (.inl y7))
def impl_IsValidQuery_B1 (a0 : Y33) (rec : ((List Bool) × Int) → Option (Sum ((List Bool)) (Bool))) (s : (List Bool) × Int) : Option (Sum ((List Bool)) (Bool)) := match s with
  | (y3, y4) => cond (decide (y4 < (List.length a0.2.1 : Int))) (obind (geti a0.2.1 y4) fun e17 => obind (impl_IsValidName e17.1) fun v20 => cond (!v20) (some (.inr false)) (obind (impl_within (List.length e17.2 : Int) 1 5) fun v23 => cond (!v23) (some (.inr false)) (obind (loopF (impl_IsValidQuery_B2 a0 e17) fz (y3, 0)) fun o2 => (match o2 with
  | .inl z26 => (rec (z26, (IntKind.i64.wrap (y4 + 1))))
  | .inr r => some (.inr r))))) (some (.inl y3))
def impl_IsValidQuery_B3 (z13 : List Bool) (rec : Int → Option (Sum (Unit) (Bool))) (y9 : Int) : Option (Sum (Unit) (Bool)) := cond (decide (y9 < (List.length z13 : Int))) (obind (geti z13 y9) fun e42 => cond (!e42) (some (.inr false)) (rec (IntKind.i64.wrap (y9 + 1)))) (some (.inl ()))
def impl_IsValidQuery (a0 : Y33) : Option (Bool) := obind (impl_within a0.1 1 5) fun v2 => cond (!v2) (some false) (obind (impl_within (List.length a0.2.1 : Int) 1 4) fun v5 => cond (!v5) (some false) (obind (impl_isSetOf a0.2.2 a0.1) fun v8 => cond (!v8) (some false) (chk ((0 : Int) ≤ a0.1 ∧ Int.toNat a0.1 ≤ lim) (obind (loopF (impl_IsValidQuery_B1 a0) fz ((List.replicate (Int.toNat a0.1) (false : Bool)), 0)) fun o1 => (match o1 with
  | .inl z13 => (obind (loopF (impl_IsValidQuery_B3 z13) fz 0) fun o3 => (match o3 with
  | .inl _ => (some true)
  | .inr r => some r))
  | .inr r => some r)))))
theorem impl_IsValidQuery_s {a0 : Y33} {r : Bool} (h : impl_IsValidQuery a0 = some r) : SoundAt Tryd.prog 46 [.agg (c34_ddd a0)] (.bool r) := by
 unfold impl_IsValidQuery at h
 refine st lit46 rfl (rn 2 rfl (ls_seq_k fun K1 hK1 => rs (sp 1 rfl (?_))))
 obtain ⟨v2, g3, h⟩ := ob_some h
 refine qC (qs rfl (qs rfl (qs rfl eran))) (impl_within_s g3) (sp 2 rfl (?_))
 rcases cond_some h with ⟨g4, h⟩ | ⟨g4, h⟩
 ·exact qg 16 g4 rfl (sp 13 rfl (evn (qT rfl rfl (rn 1 rfl (ls_ret ((by cases h; exact ⟨.inl rfl, rfl⟩)))))))
 ·refine qg 16 g4 rfl (sp 3 rfl (?_))
  obtain ⟨v5, g6, h⟩ := ob_some h
  refine oGR rfl rfl (qC (qs rfl (qs rfl (qs rfl eran))) (impl_within_s g6) (sp 3 rfl (?_)))
  rcases cond_some h with ⟨g7, h⟩ | ⟨g7, h⟩
  ·exact qg 23 g7 rfl (sp 6 rfl (evn (qk [1, 3, 29] rfl (qT rfl rfl (rn 1 rfl (ls_ret ((by cases h; exact ⟨.inl rfl, rfl⟩))))))))
  ·refine qg 23 g7 rfl (sp 3 rfl (?_))
   obtain ⟨v8, g9, h⟩ := ob_some h
   refine oGR rfl rfl (qC (qa rfl (erD eci64 _) (qs rfl eran)) (impl_isSetOf_s g9) (sp 2 rfl (evn ?_)))
   rcases cond_some h with ⟨g10, h⟩ | ⟨g10, h⟩
   ·exact qT rfl g10 (rn 1 rfl (ls_ret ((by cases h; exact ⟨.inl rfl, rfl⟩))))
   ·refine qF rfl g10 (ls_skip (hK1 _ (rs (sp 1 rfl (?_)))))
    obtain ⟨g11, h⟩ := chk_some h
    refine qMu cbl (false : Bool) rfl rfl rfl rfl g11 rfl (qAu rfl rfl rfl rfl (evn (ls_seq_k fun K12 hK12 => rn 1 rfl ?_)))
    obtain ⟨o1, hl, hr1⟩ := ob_some h
    have kXB1 : ∀ {z13 : List Bool}, (.inl z13) = o1 → Jn K12 [(4, wL 4 cbl z13)] := by
     intro z13 h σ' hk
     subst h
     replace h := hr1
     try dsimp only at h
     refine hK12 _ (lh hk rfl (ls_seq_k fun K38 hK38 => rn 1 rfl ?_))
     obtain ⟨o3, hl, hr3⟩ := ob_some h
     have kXB3 : (.inl ()) = o3 → Jn K38 [] := by
      intro h σ' hk
      subst h
      replace h := hr3
      try dsimp only at h
      exact hK38 _ (lh hk rfl (rn 1 rfl (ls_ret ((by cases h; exact ⟨.inl rfl, rfl⟩)))))
     refine ls_rec (fun (y9 : Int) => [(4, wL 4 cbl z13), (67, .same 4), (68, nI (List.length z13 : Int)), (69, nI y9)]) _ _ _ _ hl (okr rfl) (fun _ => rfl) ?_
     rintro m y9 N h hN
     unfold impl_IsValidQuery_B3 at h
     refine rn 1 rfl (ls_seq_k fun K39 hK39 => ?_)
     rcases cond_some h with ⟨g40, h⟩ | ⟨g40, h⟩
     ·refine qT rfl g40 (ls_skip (hK39 _ (ls_seq_k fun K41 hK41 => ls_blk (rs ?_))))
      obtain ⟨e42, g43, h⟩ := ob_some h
      refine qIu rfl ⟨(geti_some g43).1, (geti_some g43).2.1⟩ (qLu 0 rfl rfl rfl zcbl g43 rfl rfl rfl (sp 1 rfl (evn (rn 1 rfl ?_))))
      rcases cond_some h with ⟨g44, h⟩ | ⟨g44, h⟩
      ·exact qT rfl g44 (rn 1 rfl (ls_ret ((by cases h; cases hr3; exact ⟨.inl rfl, rfl⟩))))
      ·exact qF rfl g44 (ls_skip (hK41 _ (rg (sp 2 rfl (evn (hN _ _ h (okr rfl)))))))
     ·exact qF rfl g40 (ls_exit (kXB3 (Option.some.inj h) _ trivial))
    refine ls_rec (fun (s : (List Bool) × Int) => match s with | (y3, y4) => [(3, nI a0.1), (4, wL 4 cbl y3), (33, dL c64_d a0.2.1), (34, nI (List.length a0.2.1 : Int)), (35, nI y4)]) _ _ _ _ hl (okr rfl) (fun _ => rfl) ?_
    rintro m ⟨y3, y4⟩ N h hN
    unfold impl_IsValidQuery_B1 at h
    dsimp only at h
    refine rn 1 rfl (ls_seq_k fun K14 hK14 => ?_)
    rcases cond_some h with ⟨g15, h⟩ | ⟨g15, h⟩
    ·refine qT rfl g15 (ls_skip (hK14 _ (ls_seq_k fun K16 hK16 => ls_blk (rs ?_))))
     obtain ⟨e17, g18, h⟩ := ob_some h
     refine qI rfl zc64_d g18 (sp 3 rfl (evn (ls_seq_k fun K19 hK19 => rs (sp 2 rfl (?_)))))
     obtain ⟨v20, g21, h⟩ := ob_some h
     refine qC (qs rfl eran) (impl_IsValidName_s g21) (sp 2 rfl (?_))
     rcases cond_some h with ⟨g22, h⟩ | ⟨g22, h⟩
     ·exact qg 43 g22 rfl (sp 6 rfl (evn (qT rfl rfl (rn 1 rfl (ls_ret ((by cases h; cases hr1; exact ⟨.inl rfl, rfl⟩)))))))
     ·refine qg 43 g22 rfl (sp 3 rfl (?_))
      obtain ⟨v23, g24, h⟩ := ob_some h
      refine oGR rfl rfl (qC (qs rfl (qs rfl (qs rfl eran))) (impl_within_s g24) (sp 2 rfl (evn (qk [3, 4, 6, 33, 34, 35, 49] rfl ?_))))
      rcases cond_some h with ⟨g25, h⟩ | ⟨g25, h⟩
      ·exact qT rfl g25 (rn 1 rfl (ls_ret ((by cases h; cases hr1; exact ⟨.inl rfl, rfl⟩))))
      ·refine qF rfl g25 (ls_skip (hK19 _ (rn 1 rfl ?_)))
       obtain ⟨o2, hl, hr2⟩ := ob_some h
       have kXB2 : ∀ {z26 : List Bool}, (.inl z26) = o2 → Jn K16 [(3, nI a0.1), (4, wL 4 cbl z26), (33, dL c64_d a0.2.1), (34, nI (List.length a0.2.1 : Int)), (35, nI y4)] := by
        intro z26 h σ' hk
        subst h
        replace h := hr2
        try dsimp only at h
        exact hK16 _ (lh hk rfl (rg (sp 2 rfl (evn (hN _ _ h (okr rfl))))))
       refine ls_rec (fun (s : (List Bool) × Int) => match s with | (y7, y8) => [(3, nI a0.1), (4, wL 4 cbl y7), (33, dL c64_d a0.2.1), (34, nI (List.length a0.2.1 : Int)), (35, nI y4), (51, dL ci64 e17.2), (52, nI (List.length e17.2 : Int)), (53, nI y8)]) _ _ _ _ hl (okr rfl) (fun _ => rfl) ?_
       rintro m ⟨y7, y8⟩ N h hN
       unfold impl_IsValidQuery_B2 at h
       dsimp only at h
       refine rn 1 rfl (ls_seq_k fun K27 hK27 => ?_)
       rcases cond_some h with ⟨g28, h⟩ | ⟨g28, h⟩
       ·refine qT rfl g28 (ls_skip (hK27 _ (ls_seq_k fun K29 hK29 => ls_blk (rs ?_))))
        obtain ⟨e30, g31, h⟩ := ob_some h
        refine qI rfl zci64 g31 (sp 2 rfl (evn (ls_seq_k fun K32 hK32 => rs (sp 3 rfl (?_)))))
        obtain ⟨v33, g34, h⟩ := ob_some h
        refine qC (qs rfl (qs rfl (qs rfl eran))) (impl_within_s g34) (sp 1 rfl (evn ?_))
        rcases cond_some h with ⟨g35, h⟩ | ⟨g35, h⟩
        ·exact qT rfl g35 (rn 1 rfl (ls_ret ((by cases h; cases hr2; cases hr1; exact ⟨.inl rfl, rfl⟩))))
        ·refine qF rfl g35 (ls_skip (hK32 _ (rg (sp 2 rfl (?_)))))
         obtain ⟨e36, g37, h⟩ := ob_some h
         exact qIu rfl ⟨(geti_some g37).1, (geti_some g37).2.1⟩ (qSu true rfl rfl zcbl ⟨(geti_some g37).1, (geti_some g37).2.1⟩ rfl rfl rfl rfl rfl rfl (evn (hK29 _ (rg (sp 2 rfl (evn (hN _ _ h (okr rfl))))))))
       ·exact qF rfl g28 (ls_exit (kXB2 (Option.some.inj h) _ (okr rfl)))
    ·exact qF rfl g15 (ls_exit (kXB1 (Option.some.inj h) _ (okr rfl)))
def impl_IsValidOrder_J1 (x2 : Bool) : Option (Bool) := some x2
def impl_IsValidOrder (a0 : Y33) (a1 : List Int) : Option (Bool) := obind (impl_IsValidQuery a0) fun v3 => cond v3 (cond ((List.length a1 : Int) == a0.1) (obind (impl_isSetOf a1 a0.1) fun v7 => impl_IsValidOrder_J1 v7) (impl_IsValidOrder_J1 false)) (impl_IsValidOrder_J1 false)
theorem impl_IsValidOrder_s {a0 : Y33} {a1 : List Int} {r : Bool} (h : impl_IsValidOrder a0 a1 = some r) : SoundAt Tryd.prog 23 [.agg (c34_ddd a0), dL ci64 a1] (.bool r) := by
 unfold impl_IsValidOrder at h
 refine st lit23 rfl (rn 1 rfl (rk fun K1 hK1 => ?_))
 have kJ1 : ∀ {x2 : Bool}, impl_IsValidOrder_J1 x2 = some r → Jn K1 [(4, .bool x2)] := by
  intro x2 h σ' hk
  unfold impl_IsValidOrder_J1 at h
  exact hK1 _ (lh hk rfl (ls_ret ((by cases h; exact ⟨.inl rfl, rfl⟩))))
 refine sp 1 rfl (?_)
 obtain ⟨v3, g4, h⟩ := ob_some h
 refine qC (qa rfl (erg (erc rfl (erc (erD ec64_d _) (erc (erD eci64 _) rfl)))) eran) (impl_IsValidQuery_s g4) (sp 1 rfl (?_))
 rcases cond_some h with ⟨g5, h⟩ | ⟨g5, h⟩
 ·refine qg 7 g5 rfl (sp 7 rfl (?_))
  rcases cond_some h with ⟨g6, h⟩ | ⟨g6, h⟩
  ·refine qg 14 g6 rfl (sp 3 rfl (?_))
   obtain ⟨v7, g8, h⟩ := ob_some h
   exact oGR rfl rfl (qC (qa rfl (erD eci64 _) (qs rfl eran)) (impl_isSetOf_s g8) (sp 2 rfl (evn (kJ1 h _ (okr rfl)))))
  ·exact qg 14 g6 rfl (sp 6 rfl (evn (kJ1 h _ (okr rfl))))
 ·exact qg 7 g5 rfl (sp 13 rfl (evn (kJ1 h _ (okr rfl))))
def impl_gcd_B1  (rec : (Int × Int) → Option (Int)) (s : Int × Int) : Option (Int) := match s with
  | (y1, y2) => cond (y2 != 0) (chk (y2 ≠ 0) (rec (y2, (Int.tmod y1 y2)))) (some y1)
def impl_gcd (a0 : Int) (a1 : Int) : Option (Int) := obind (loopF impl_gcd_B1 fz (a0, a1)) fun z2 => some z2
theorem impl_gcd_s {a0 : Int} {a1 : Int} {r : Int} (h : impl_gcd a0 a1 = some r) : SoundAt Tryd.prog 78 [nI a0, nI a1] (nI r) := by
 unfold impl_gcd at h
 refine st lit78 rfl (rn 1 rfl (ls_seq_k fun K1 hK1 => ?_))
 obtain ⟨o1, hl, hr1⟩ := ob_some h
 have kXB1 : ∀ {z2 : Int}, z2 = o1 → Jn K1 [(0, nI z2)] := by
  intro z2 h σ' hk
  subst h
  replace h := hr1
  try dsimp only at h
  exact hK1 _ (lh hk rfl (rn 1 rfl (ls_ret ((by cases h; exact ⟨.inl rfl, rfl⟩)))))
 refine ls_rec (fun (s : Int × Int) => match s with | (y1, y2) => [(0, nI y1), (1, nI y2)]) _ _ _ _ hl (okr rfl) (fun _ => rfl) ?_
 rintro m ⟨y1, y2⟩ N h hN
 unfold impl_gcd_B1 at h
 dsimp only at h
 refine ls_seq_k fun K3 hK3 => rn 1 rfl ?_
 rcases cond_some h with ⟨g4, h⟩ | ⟨g4, h⟩
 ·refine qT rfl g4 (ls_skip (hK3 _ (ls_blk (rgd (by kernel_rfl) (sd 3 rfl (?_))))))
  obtain ⟨g5, h⟩ := chk_some h
  exact ed rfl (qB rfl ⟨rfl, g5⟩ rfl (sd 2 rfl (evdn (hN _ _ h (okr rfl)))))
 ·exact qF rfl g4 (ls_exit (kXB1 (Option.some.inj h) _ (okr rfl)))
def impl_abs (a0 : Int) : Option (Int) := some (if a0 < (IntKind.i64.wrap (0 - a0)) then (IntKind.i64.wrap (0 - a0)) else a0)
theorem impl_abs_s {a0 : Int} {r : Int} (h : impl_abs a0 = some r) : SoundAt Tryd.prog 79 [nI a0] (nI r) := by
 unfold impl_abs at h
 exact st lit79 rfl (rn 2 rfl (ls_ret ((by cases h; exact ⟨.inl rfl, rfl⟩))))
def impl_IsValidRational_J1 (x2 : Bool) : Option (Bool) := some x2
def impl_IsValidRational (a0 : Y65) : Option (Bool) := obind (impl_within a0.2 1 1000000000) fun v3 => cond v3 (obind (impl_within a0.1 (-1000000000) 1000000000) fun v6 => cond v6 (obind (impl_abs a0.1) fun v9 => obind (impl_gcd v9 a0.2) fun v11 => impl_IsValidRational_J1 (v11 == 1)) (impl_IsValidRational_J1 false)) (impl_IsValidRational_J1 false)
theorem impl_IsValidRational_s {a0 : Y65} {r : Bool} (h : impl_IsValidRational a0 = some r) : SoundAt Tryd.prog 66 [.agg (c66_ a0)] (.bool r) := by
 unfold impl_IsValidRational at h
 refine st lit66 rfl (rn 1 rfl (rdk (by kernel_rfl) fun K1 hK1 => ?_))
 have kJ1 : ∀ {x2 : Bool}, impl_IsValidRational_J1 x2 = some r → Jn K1 [(2, .bool x2)] := by
  intro x2 h σ' hk
  unfold impl_IsValidRational_J1 at h
  exact hK1 _ (lh hk rfl (ls_ret ((by cases h; exact ⟨.inl rfl, rfl⟩))))
 refine sd 2 rfl (?_)
 obtain ⟨v3, g4, h⟩ := ob_some h
 refine ed rfl (qC (qs rfl (qs rfl (qs rfl eran))) (impl_within_s g4) (sd 1 rfl (?_)))
 rcases cond_some h with ⟨g5, h⟩ | ⟨g5, h⟩
 ·refine qgd 6 g5 rfl (sd 2 rfl (?_))
  obtain ⟨v6, g7, h⟩ := ob_some h
  refine ed rfl (oGR rfl rfl (qC (qs rfl (qs rfl (qs rfl eran))) (impl_within_s g7) (sd 2 rfl (?_))))
  rcases cond_some h with ⟨g8, h⟩ | ⟨g8, h⟩
  ·refine qgd 11 g8 rfl (sd 2 rfl (?_))
   obtain ⟨v9, g10, h⟩ := ob_some h
   refine ed rfl (oGR rfl rfl (qC (qs rfl eran) (impl_abs_s g10) (sd 2 rfl (?_))))
   obtain ⟨v11, g12, h⟩ := ob_some h
   exact ed rfl (oGR rfl rfl (qC (qs rfl (qs rfl eran)) (impl_gcd_s g12) (sd 3 rfl (evdn (kJ1 h _ (okr rfl))))))
  ·exact qgd 11 g8 rfl (sd 9 rfl (evdn (kJ1 h _ (okr rfl))))
 ·exact qgd 6 g5 rfl (sd 14 rfl (evdn (kJ1 h _ (okr rfl))))
def impl_admissible_B1 (a0 : List Y65) (rec : Int → Option (Sum (Unit) (Bool))) (y1 : Int) : Option (Sum (Unit) (Bool)) := cond (decide (y1 < (List.length a0 : Int))) (obind (geti a0 y1) fun e5 => obind (impl_IsValidRational e5) fun v7 => cond (!v7) (some (.inr false)) (obind (impl_within e5.1 0 1000) fun v10 => cond (!v10) (some (.inr false)) (cond (decide (1000 < e5.2)) (some (.inr false)) (rec (IntKind.i64.wrap (y1 + 1)))))) (some (.inl ()))
def impl_admissible (a0 : List Y65) : Option (Bool) := obind (loopF (impl_admissible_B1 a0) fz 0) fun o1 => (match o1 with
  | .inl _ => (some true)
  | .inr r => some r)
theorem impl_admissible_s {a0 : List Y65} {r : Bool} (h : impl_admissible a0 = some r) : SoundAt Tryd.prog 48 [dL c66_ a0] (.bool r) := by
 unfold impl_admissible at h
 refine st lit48 rfl (rn 1 rfl (ls_seq_k fun K1 hK1 => rn 1 rfl ?_))
 obtain ⟨o1, hl, hr1⟩ := ob_some h
 have kXB1 : (.inl ()) = o1 → Jn K1 [] := by
  intro h σ' hk
  subst h
  replace h := hr1
  try dsimp only at h
  exact hK1 _ (lh hk rfl (rn 1 rfl (ls_ret ((by cases h; exact ⟨.inl rfl, rfl⟩)))))
 refine ls_rec (fun (y1 : Int) => [(5, dL c66_ a0), (6, nI (List.length a0 : Int)), (7, nI y1)]) _ _ _ _ hl (okr rfl) (fun _ => rfl) ?_
 rintro m y1 N h hN
 unfold impl_admissible_B1 at h
 refine rn 1 rfl (ls_seq_k fun K2 hK2 => ?_)
 rcases cond_some h with ⟨g3, h⟩ | ⟨g3, h⟩
 ·refine qT rfl g3 (ls_skip (hK2 _ (ls_seq_k fun K4 hK4 => ls_blk (rs ?_))))
  obtain ⟨e5, g6, h⟩ := ob_some h
  refine qI rfl zc66_ g6 (sp 3 rfl (evn (rs (sp 1 rfl (?_)))))
  obtain ⟨v7, g8, h⟩ := ob_some h
  refine qC (qa rfl (erg (erc rfl (erc rfl rfl))) eran) (impl_IsValidRational_s g8) (sp 2 rfl (?_))
  rcases cond_some h with ⟨g9, h⟩ | ⟨g9, h⟩
  ·exact qg 14 g9 rfl (sp 10 rfl (evn (qT rfl rfl (rn 1 rfl (ls_ret ((by cases h; cases hr1; exact ⟨.inl rfl, rfl⟩)))))))
  ·refine qg 14 g9 rfl (sp 2 rfl (?_))
   obtain ⟨v10, g11, h⟩ := ob_some h
   refine oGR rfl rfl (qC (qs rfl (qs rfl (qs rfl eran))) (impl_within_s g11) (sp 3 rfl (?_)))
   rcases cond_some h with ⟨g12, h⟩ | ⟨g12, h⟩
   ·exact qg 20 g12 rfl (sp 4 rfl (evn (qk [5, 6, 7, 24] rfl (qT rfl rfl (rn 1 rfl (ls_ret ((by cases h; cases hr1; exact ⟨.inl rfl, rfl⟩))))))))
   ·refine qg 20 g12 rfl (sp 4 rfl (evn ?_))
    rcases cond_some h with ⟨g13, h⟩ | ⟨g13, h⟩
    ·exact qT rfl g13 (rn 1 rfl (ls_ret ((by cases h; cases hr1; exact ⟨.inl rfl, rfl⟩))))
    ·exact qF rfl g13 (ls_skip (hK4 _ (rg (sp 2 rfl (evn (hN _ _ h (okr rfl)))))))
 ·exact qF rfl g3 (ls_exit (kXB1 (Option.some.inj h) _ trivial))
def impl_ContainsVariable (a0 : Y58) (a1 : Int) : Option (Bool) := obind (impl_hasInt a0.2 a1) fun v1 => some v1
theorem impl_ContainsVariable_s {a0 : Y58} {a1 : Int} {r : Bool} (h : impl_ContainsVariable a0 a1 = some r) : SoundAt Tryd.prog 49 [.agg (c64_d a0), nI a1] (.bool r) := by
 unfold impl_ContainsVariable at h
 refine st lit49 rfl (rn 1 rfl (rs (sp 3 rfl (?_))))
 obtain ⟨v1, g2, h⟩ := ob_some h
 exact qC (qa rfl (erD eci64 _) (qs rfl eran)) (impl_hasInt_s g2) (sp 1 rfl (evn (ls_ret ((by cases h; exact ⟨.inl rfl, rfl⟩)))))
def impl_bothValid_J1 (x2 : Bool) : Option (Bool) := some x2
def impl_bothValid (a0 : Y65) (a1 : Y65) : Option (Bool) := obind (impl_IsValidRational a0) fun v3 => cond v3 (obind (impl_IsValidRational a1) fun v6 => impl_bothValid_J1 v6) (impl_bothValid_J1 false)
theorem impl_bothValid_s {a0 : Y65} {a1 : Y65} {r : Bool} (h : impl_bothValid a0 a1 = some r) : SoundAt Tryd.prog 68 [.agg (c66_ a0), .agg (c66_ a1)] (.bool r) := by
 unfold impl_bothValid at h
 refine st lit68 rfl (rn 1 rfl (rk fun K1 hK1 => ?_))
 have kJ1 : ∀ {x2 : Bool}, impl_bothValid_J1 x2 = some r → Jn K1 [(4, .bool x2)] := by
  intro x2 h σ' hk
  unfold impl_bothValid_J1 at h
  exact hK1 _ (lh hk rfl (ls_ret ((by cases h; exact ⟨.inl rfl, rfl⟩))))
 refine sp 1 rfl (?_)
 obtain ⟨v3, g4, h⟩ := ob_some h
 refine qC (qa rfl (erg (erc rfl (erc rfl rfl))) eran) (impl_IsValidRational_s g4) (sp 1 rfl (?_))
 rcases cond_some h with ⟨g5, h⟩ | ⟨g5, h⟩
 ·refine qg 7 g5 rfl (sp 1 rfl (?_))
  obtain ⟨v6, g7, h⟩ := ob_some h
  exact oGR rfl rfl (qC (qa rfl (erg (erc rfl (erc rfl rfl))) eran) (impl_IsValidRational_s g7) (sp 2 rfl (evn (kJ1 h _ (okr rfl)))))
 ·exact qg 7 g5 rfl (sp 4 rfl (evn (kJ1 h _ (okr rfl))))
def impl_NewRational_J1 (x10 : Int) (x11 : Int) : Option (Y65 × Bool) := obind (impl_abs x10) fun v12 => obind (impl_gcd v12 x11) fun v14 => chk (v14 ≠ 0) (chk (v14 ≠ 0) (obind (impl_IsValidRational (IntKind.i64.wrap (Int.tdiv x10 v14), IntKind.i64.wrap (Int.tdiv x11 v14))) fun v19 => cond (!v19) (some ((0, 0), false)) (some ((IntKind.i64.wrap (Int.tdiv x10 v14), IntKind.i64.wrap (Int.tdiv x11 v14)), true))))
def impl_NewRational (a0 : Int) (a1 : Int) : Option (Y65 × Bool) := cond (a1 == 0) (some ((0, 0), false)) (obind (impl_within a0 (-4000000000000000000) 4000000000000000000) fun v3 => cond (!v3) (some ((0, 0), false)) (obind (impl_within a1 (-4000000000000000000) 4000000000000000000) fun v6 => cond (!v6) (some ((0, 0), false)) (cond (decide (a1 < 0)) (impl_NewRational_J1 (IntKind.i64.wrap (0 - a0)) (IntKind.i64.wrap (0 - a1))) (impl_NewRational_J1 a0 a1))))
theorem impl_NewRational_s {a0 : Int} {a1 : Int} {r : Y65 × Bool} (h : impl_NewRational a0 a1 = some r) : SoundAt Tryd.prog 80 [nI a0, nI a1] (.tup [.agg (c66_ r.1), .bool r.2]) := by
 unfold impl_NewRational at h
 refine st lit80 rfl (rn 1 rfl (ls_seq_k fun K1 hK1 => rs (sp 3 rfl (?_))))
 rcases cond_some h with ⟨g2, h⟩ | ⟨g2, h⟩
 ·exact qg 10 g2 rfl (sp 9 rfl (evn (qT rfl rfl (rn 1 rfl (ls_ret ((by cases h; exact ⟨.inl rfl, rfl⟩)))))))
 ·refine qg 10 g2 rfl (sp 1 rfl (?_))
  obtain ⟨v3, g4, h⟩ := ob_some h
  refine oGR rfl rfl (qC (qs rfl (qs rfl (qs rfl eran))) (impl_within_s g4) (sp 3 rfl (?_)))
  rcases cond_some h with ⟨g5, h⟩ | ⟨g5, h⟩
  ·exact qg 15 g5 rfl (sp 4 rfl (evn (qT rfl rfl (rn 1 rfl (qk [4, 5] rfl (ls_ret ((by cases h; exact ⟨.inl rfl, rfl⟩))))))))
  ·refine qg 15 g5 rfl (sp 1 rfl (?_))
   obtain ⟨v6, g7, h⟩ := ob_some h
   refine oGR rfl rfl (qC (qs rfl (qs rfl (qs rfl eran))) (impl_within_s g7) (sp 2 rfl (evn ?_)))
   rcases cond_some h with ⟨g8, h⟩ | ⟨g8, h⟩
   ·exact qT rfl g8 (rn 1 rfl (ls_ret ((by cases h; exact ⟨.inl rfl, rfl⟩))))
   ·refine qF rfl g8 (ls_skip (hK1 _ (ls_seq_k fun K9 hK9 => rn 1 rfl ?_)))
    have kJ1 : ∀ {x10 : Int} {x11 : Int}, impl_NewRational_J1 x10 x11 = some r → Jn K9 [(0, nI x10), (1, nI x11), (4, .box [nI 0, nI 0])] := by
     intro x10 x11 h σ' hk
     unfold impl_NewRational_J1 at h
     refine hK9 _ (lh hk rfl (rs (sp 1 rfl (?_))))
     obtain ⟨v12, g13, h⟩ := ob_some h
     refine qC (qs rfl eran) (impl_abs_s g13) (sp 1 rfl (?_))
     obtain ⟨v14, g15, h⟩ := ob_some h
     refine qC (qs rfl (qs rfl eran)) (impl_gcd_s g15) (sp 1 rfl (evn (rd (by kernel_rfl) (sd 2 rfl (?_)))))
     obtain ⟨g16, h⟩ := chk_some h
     refine ed rfl (qB rfl ⟨rfl, g16⟩ rfl (sd 2 rfl (?_)))
     obtain ⟨g17, h⟩ := chk_some h
     refine ed rfl (qB rfl ⟨rfl, g17⟩ rfl (sd 3 rfl (evdn (ls_seq_k fun K18 hK18 => rs (sp 1 rfl (?_))))))
     obtain ⟨v19, g20, h⟩ := ob_some h
     refine qC (qa rfl (erg (erc rfl (erc rfl rfl))) eran) (impl_IsValidRational_s g20) (sp 1 rfl (evn ?_))
     rcases cond_some h with ⟨g21, h⟩ | ⟨g21, h⟩
     ·exact qT rfl g21 (rn 1 rfl (ls_ret ((by cases h; exact ⟨.inl rfl, rfl⟩))))
     ·exact qF rfl g21 (ls_skip (hK18 _ (rn 1 rfl (ls_ret ((by cases h; exact ⟨.inl rfl, rfl⟩))))))
    rcases cond_some h with ⟨g22, h⟩ | ⟨g22, h⟩
    ·exact qT rfl g22 (rg (sp 6 rfl (evn (kJ1 h _ (okr rfl)))))
    ·exact qF rfl g22 (ls_skip (kJ1 h _ (okr rfl)))
def impl_AddRational (a0 : Y65) (a1 : Y65) : Option (Y65 × Bool) := obind (impl_bothValid a0 a1) fun v2 => cond (!v2) (some ((0, 0), false)) (obind (impl_NewRational (IntKind.i64.wrap ((IntKind.i64.wrap (a0.1 * a1.2)) + (IntKind.i64.wrap (a1.1 * a0.2)))) (IntKind.i64.wrap (a0.2 * a1.2))) fun v5 => some (v5.1, v5.2))
theorem impl_AddRational_s {a0 : Y65} {a1 : Y65} {r : Y65 × Bool} (h : impl_AddRational a0 a1 = some r) : SoundAt Tryd.prog 67 [.agg (c66_ a0), .agg (c66_ a1)] (.tup [.agg (c66_ r.1), .bool r.2]) := by
 unfold impl_AddRational at h
 refine st lit67 rfl (rn 1 rfl (ls_seq_k fun K1 hK1 => rs (sp 2 rfl (?_))))
 obtain ⟨v2, g3, h⟩ := ob_some h
 refine qC (qa rfl (erg (erc rfl (erc rfl rfl))) (qa rfl (erg (erc rfl (erc rfl rfl))) eran)) (impl_bothValid_s g3) (sp 1 rfl (evn ?_))
 rcases cond_some h with ⟨g4, h⟩ | ⟨g4, h⟩
 ·exact qT rfl g4 (rn 1 rfl (ls_ret ((by cases h; exact ⟨.inl rfl, rfl⟩))))
 ·refine qF rfl g4 (ls_skip (hK1 _ (rs (sp 16 rfl (?_)))))
  obtain ⟨v5, g6, h⟩ := ob_some h
  exact qC (qs rfl (qs rfl eran)) (impl_NewRational_s g6) (sp 4 rfl (evn (qk [4, 5] rfl (ls_ret ((by cases h; exact ⟨.inl rfl, rfl⟩))))))
def impl_SumRationals_B1 (a0 : List Y65) (rec : (Int × Int × Int) → Option (Sum (Int × Int) (Y65 × Bool))) (s : Int × Int × Int) : Option (Sum (Int × Int) (Y65 × Bool)) := match s with
  | (y1, y2, y3) => cond (decide (y3 < (List.length a0 : Int))) (obind (geti a0 y3) fun e7 => obind (impl_AddRational (y1, y2) e7) fun v9 => cond (!v9.2) (some (.inr ((0, 0), false))) (rec (v9.1.1, v9.1.2, (IntKind.i64.wrap (y3 + 1))))) (some (.inl (y1, y2)))
def impl_SumRationals (a0 : List Y65) : Option (Y65 × Bool) := obind (loopF (impl_SumRationals_B1 a0) fz (0, 1, 0)) fun o1 => (match o1 with
  | .inl (z2, z3) => (some ((z2, z3), true))
  | .inr r => some r)
theorem impl_SumRationals_s {a0 : List Y65} {r : Y65 × Bool} (h : impl_SumRationals a0 = some r) : SoundAt Tryd.prog 50 [dL c66_ a0] (.tup [.agg (c66_ r.1), .bool r.2]) := by
 unfold impl_SumRationals at h
 refine st lit50 rfl (rn 2 rfl (ls_seq_k fun K1 hK1 => rn 1 rfl ?_))
 obtain ⟨o1, hl, hr1⟩ := ob_some h
 have kXB1 : ∀ {z2 : Int} {z3 : Int}, (.inl (z2, z3)) = o1 → Jn K1 [(2, .box [nI 0, nI 0]), (4, .box [nI z2, nI z3])] := by
  intro z2 z3 h σ' hk
  subst h
  replace h := hr1
  try dsimp only at h
  exact hK1 _ (lh hk rfl (rn 1 rfl (ls_ret ((by cases h; exact ⟨.inl rfl, rfl⟩)))))
 refine ls_rec (fun (s : Int × Int × Int) => match s with | (y1, y2, y3) => [(2, .box [nI 0, nI 0]), (4, .box [nI y1, nI y2]), (10, dL c66_ a0), (11, nI (List.length a0 : Int)), (12, nI y3)]) _ _ _ _ hl (okr rfl) (fun _ => rfl) ?_
 rintro m ⟨y1, y2, y3⟩ N h hN
 unfold impl_SumRationals_B1 at h
 dsimp only at h
 refine rn 1 rfl (ls_seq_k fun K4 hK4 => ?_)
 rcases cond_some h with ⟨g5, h⟩ | ⟨g5, h⟩
 ·refine qT rfl g5 (ls_skip (hK4 _ (ls_seq_k fun K6 hK6 => ls_blk (rs ?_))))
  obtain ⟨e7, g8, h⟩ := ob_some h
  refine qI rfl zc66_ g8 (sp 3 rfl (evn (rs (sp 2 rfl (?_)))))
  obtain ⟨v9, g10, h⟩ := ob_some h
  refine qC (qa rfl (erg (erc rfl (erc rfl rfl))) (qa rfl (erg (erc rfl (erc rfl rfl))) eran)) (impl_AddRational_s g10) (sp 6 rfl (evn (ls_seq_k fun K11 hK11 => rn 1 rfl ?_)))
  rcases cond_some h with ⟨g12, h⟩ | ⟨g12, h⟩
  ·exact qT rfl g12 (rn 1 rfl (ls_ret ((by cases h; cases hr1; exact ⟨.inl rfl, rfl⟩))))
  ·exact qF rfl g12 (ls_skip (hK11 _ (qk [2, 4, 7, 10, 11, 12] rfl (rg (sp 2 rfl (evn (hK6 _ (rg (sp 2 rfl (evn (hN _ _ h (okr rfl))))))))))))
 ·exact qF rfl g5 (ls_exit (kXB1 (Option.some.inj h) _ (okr rfl)))
def impl_compareInts (a0 : Int) (a1 : Int) : Option (Int) := cond (decide (a0 < a1)) (some (-1)) (cond (decide (a1 < a0)) (some 1) (some 0))
theorem impl_compareInts_s {a0 : Int} {a1 : Int} {r : Int} (h : impl_compareInts a0 a1 = some r) : SoundAt Tryd.prog 69 [nI a0, nI a1] (nI r) := by
 unfold impl_compareInts at h
 refine st lit69 rfl (rn 1 rfl (ls_seq_k fun K1 hK1 => ls_blk (rn 1 rfl ?_)))
 rcases cond_some h with ⟨g2, h⟩ | ⟨g2, h⟩
 ·exact qT rfl g2 (rn 1 rfl (ls_ret ((by cases h; exact ⟨.inl rfl, rfl⟩))))
 ·refine qF rfl g2 (rn 1 rfl ?_)
  rcases cond_some h with ⟨g3, h⟩ | ⟨g3, h⟩
  ·exact qT rfl g3 (rn 1 rfl (ls_ret ((by cases h; exact ⟨.inl rfl, rfl⟩))))
  ·exact qF rfl g3 (ls_skip (hK1 _ (rn 1 rfl (qk [4] rfl (ls_ret ((by cases h; exact ⟨.inl rfl, rfl⟩)))))))
def impl_CompareRationals (a0 : Y65) (a1 : Y65) : Option (Int) := obind (impl_bothValid a0 a1) fun v2 => cond (!v2) (some 0) (obind (impl_compareInts (IntKind.i64.wrap (a0.1 * a1.2)) (IntKind.i64.wrap (a1.1 * a0.2))) fun v5 => some v5)
theorem impl_CompareRationals_s {a0 : Y65} {a1 : Y65} {r : Int} (h : impl_CompareRationals a0 a1 = some r) : SoundAt Tryd.prog 51 [.agg (c66_ a0), .agg (c66_ a1)] (nI r) := by
 unfold impl_CompareRationals at h
 refine st lit51 rfl (rn 1 rfl (ls_seq_k fun K1 hK1 => rs (sp 2 rfl (?_))))
 obtain ⟨v2, g3, h⟩ := ob_some h
 refine qC (qa rfl (erg (erc rfl (erc rfl rfl))) (qa rfl (erg (erc rfl (erc rfl rfl))) eran)) (impl_bothValid_s g3) (sp 1 rfl (evn ?_))
 rcases cond_some h with ⟨g4, h⟩ | ⟨g4, h⟩
 ·exact qT rfl g4 (rn 1 rfl (ls_ret ((by cases h; exact ⟨.inl rfl, rfl⟩))))
 ·refine qF rfl g4 (ls_skip (hK1 _ (rs (sp 10 rfl (?_)))))
  obtain ⟨v5, g6, h⟩ := ob_some h
  exact qC (qs rfl (qs rfl eran)) (impl_compareInts_s g6) (sp 1 rfl (evn (ls_ret ((by cases h; exact ⟨.inl rfl, rfl⟩)))))
end Go.Proofs.YtkclaipnejgloaaDoor
