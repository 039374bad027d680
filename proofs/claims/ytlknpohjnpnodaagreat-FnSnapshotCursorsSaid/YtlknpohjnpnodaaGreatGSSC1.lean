/-
  Functions of the program as typed functions, printed by gen.py, and that the program's functions do what they say. No conditions.
-/
import Derived.Test.YtlknpohjnpnodaaGreatKb
import Derived.Test.YtlknpohjnpnodaaGreatLit2SC1
namespace Go.Proofs.YtlknpohjnpnodaaGreat
open Go.RowKit
set_option linter.unusedVariables false
set_option maxRecDepth 100000
set_option maxHeartbeats 1000000
def LV (a0 : List Int) : Option (Bool) := some (decide (1048576 < (List.length a0 : Int)))
theorem Ty {a0 : List Int} {r : Bool} (h : LV a0 = some r) : Ah Tryz.prog 5 [dL cu8 a0] (.bool r) := by
 unfold LV at h
 exact st kN rfl (rn 2 rfl (Af ((by cases h; exact ⟨.inl rfl, rfl⟩))))
abbrev Y98 := (List Int) × Int × Int
def GR (a0 : List Int) (rec : (Int × Int) -> Option (Int)) (s : Int × Int) : Option (Int) := match s with
  | (y1, y2) => cond (decide (y2 < (List.length a0 : Int))) (cond (decide (y2 < 4000)) (Ad (AA a0 y2) fun e7 => rec ((Xu (IntKind.i64.wrap ((IntKind.i64.wrap ((IntKind.i64.wrap (y1 * 131)) + (IntKind.i64.wrap e7))) + 7)) 1073741823), (IntKind.i64.wrap (y2 + 1)))) (some y1)) (some y1)
def IOQ (a0 : List Int) : Option (Y98) := Ad (Ai (GR a0) fz ((IntKind.i64.wrap (10101 + (List.length a0 : Int))), 0)) fun z2 => some (a0, 0, z2)
theorem MV {a0 : List Int} {r : Y98} (h : IOQ a0 = some r) : NewAt Tryz.prog 29 [aL cu8 a0] [aL cu8 r.1, nI r.2.1, nI r.2.2] := by
 unfold IOQ at h
 refine stn iy rfl rfl (rn 2 rfl (Ac fun K1 hK1 => rn 1 rfl ?_))
 obtain ⟨o1, hl, hr1⟩ := Aa h
 have kXB1 : ∀ {z2 : Int}, z2 = o1 -> Jn K1 [(0, aL cu8 a0), (3, nI z2)] := by
  intro z2 h σ' hk
  subst h
  replace h := hr1
  try dsimp only at h
  exact hK1 _ (lh hk rfl (rn 1 rfl (Af ((by cases h; exact ⟨.inl rfl, 31, rfl, rfl⟩)))))
 refine As (fun (s : Int × Int) => match s with | (y1, y2) => [(0, aL cu8 a0), (3, nI y1), (4, nI y2)]) _ _ _ _ hl (okr rfl) (fun _ => rfl) ?_
 rintro m ⟨y1, y2⟩ N h hN
 unfold GR at h
 dsimp only at h
 refine Ac fun K3 hK3 => rs (sp 5 rfl (?_))
 rcases Ab h with ⟨g4, h⟩ | ⟨g4, h⟩
 ·refine qg 12 g4 rfl (sp 3 rfl (evn ?_))
  rcases Ab h with ⟨g5, h⟩ | ⟨g5, h⟩
  ·refine qT rfl g5 (Ae (hK3 _ (Ac fun K6 hK6 => Aq (rg (sp 4 rfl (?_))))))
   obtain ⟨e7, g8, h⟩ := Aa h
   exact qI rfl jP g8 (sp 6 rfl (evn (hK6 _ (rg (sp 3 rfl (evn (hN _ _ h (okr rfl))))))))
  ·exact qF rfl g5 (Al (kXB1 (Option.some.inj h) _ (okr rfl)))
 ·exact qg 12 g4 rfl (sp 3 rfl (evn (qF rfl rfl (Al (kXB1 (Option.some.inj h) _ (okr rfl))))))
def Hf (a0 : Y98) (x2 : Int) (x3 : Int) : Option (Int × Y98) := some (x3, (a0.1, x2, IntKind.i64.wrap ((IntKind.i64.wrap (a0.2.2 * 6364136223846793005)) + 1442695040888963407)))
def FT (a0 : Y98) : Option (Int × Y98) := cond (decide (a0.2.1 < (List.length a0.1 : Int))) (Ad (AA a0.1 a0.2.1) fun e5 => Hf a0 (IntKind.i64.wrap (a0.2.1 + 1)) (Xu (IntKind.i64.wrap ((Xu (kf (fK (IntKind.i64.wrap ((IntKind.i64.wrap (a0.2.2 * 6364136223846793005)) + 1442695040888963407)) 33) (fK (IntKind.i64.wrap ((IntKind.i64.wrap (a0.2.2 * 6364136223846793005)) + 1442695040888963407)) 45)) 255) + (IntKind.i64.wrap e5))) 255)) (Hf a0 a0.2.1 (Xu (kf (fK (IntKind.i64.wrap ((IntKind.i64.wrap (a0.2.2 * 6364136223846793005)) + 1442695040888963407)) 33) (fK (IntKind.i64.wrap ((IntKind.i64.wrap (a0.2.2 * 6364136223846793005)) + 1442695040888963407)) 45)) 255))
theorem HN {a0 : Y98} {r : Int × Y98} (h : FT a0 = some r) : Jm Tryz.prog 97 [aL cu8 a0.1, nI a0.2.1, nI a0.2.2] [] [aL cu8 r.2.1, nI r.2.2.1, nI r.2.2.2] (nI r.1) := by
 unfold FT at h
 refine stp jp rfl (rn 2 rfl (rd (by kernel_rfl) (sd 13 rfl (Cy (Ac fun K1 hK1 => rd (by kernel_rfl) (sd 10 rfl (Cy ?_)))))))
 have kJ1 : ∀ {x2 : Int} {x3 : Int}, Hf a0 x2 x3 = some r -> Jn K1 [(0, .box [aL cu8 a0.1, nI x2, nI (IntKind.i64.wrap ((IntKind.i64.wrap (a0.2.2 * 6364136223846793005)) + 1442695040888963407))]), (3, nI x3)] := by
  intro x2 x3 h σ' hk
  unfold Hf at h
  exact hK1 _ (lh hk rfl (rn 1 rfl (Af ((by cases h; exact ⟨.inl rfl, rfl, rfl⟩)))))
 rcases Ab h with ⟨g4, h⟩ | ⟨g4, h⟩
 ·refine qT rfl g4 (rd (by kernel_rfl) (sd 9 rfl (?_)))
  obtain ⟨e5, g6, h⟩ := Aa h
  exact ed rfl (qI rfl jP g6 (sd 5 rfl (Cy (rg (sp 9 rfl (evn (kJ1 h _ (okr rfl))))))))
 ·exact qF rfl g4 (Ae (kJ1 h _ (okr rfl)))
def Wm (x : Y98) : List V := [dL cu8 x.1, nI x.2.1, nI x.2.2]
theorem kj (x : Y98) : (Wm x).length = 3 := rfl
theorem jU (x : Y98) : erL (Wm x) = Wm x := (erc (erD gP _) (erc rfl (erc rfl rfl)))
def Rk (x : Y98) : List V := [aL cu8 x.1, nI x.2.1, nI x.2.2]
theorem kh (x : Y98) : (Rk x).length = 3 := rfl
theorem jT (x : Y98) : erL (Rk x) = Wm x := (erc (erG gP _) (erc rfl (erc rfl rfl)))
def AV (a0 : Y98) (a1 : Int) : Option (Int × Y98) := cond (decide (a1 <= 0)) (some (0, a0)) (cond (decide (a1 <= 256)) (Ad (FT a0) fun v5 => chk (a1 ≠ 0) (some (Int.tmod v5.1 a1, v5.2))) (Ad (FT a0) fun v8 => Ad (FT v8.2) fun v10 => Ad (FT v10.2) fun v12 => Ad (FT v12.2) fun v14 => chk (a1 ≠ 0) (some (Int.tmod (IntKind.i64.wrap ((IntKind.i64.wrap ((IntKind.i64.wrap ((IntKind.i64.wrap (v8.1 * 16777216)) + (IntKind.i64.wrap (v10.1 * 65536)))) + (IntKind.i64.wrap (v12.1 * 256)))) + v14.1)) a1, v14.2))))
theorem AN {a0 : Y98} {a1 : Int} {r : Int × Y98} (h : AV a0 a1 = some r) : Jm Tryz.prog 59 [aL cu8 a0.1, nI a0.2.1, nI a0.2.2] [nI a1] [aL cu8 r.2.1, nI r.2.2.1, nI r.2.2.2] (nI r.1) := by
 unfold AV at h
 refine stp iR rfl (rn 1 rfl (Ac fun K1 hK1 => rn 1 rfl ?_))
 rcases Ab h with ⟨g2, h⟩ | ⟨g2, h⟩
 ·exact qT rfl g2 (rn 1 rfl (Af ((by cases h; exact ⟨.inl rfl, rfl, rfl⟩))))
 ·refine qF rfl g2 (Ae (hK1 _ (Ac fun K3 hK3 => rn 1 rfl ?_)))
  rcases Ab h with ⟨g4, h⟩ | ⟨g4, h⟩
  ·refine qT rfl g4 (rs (sp 1 rfl (?_)))
   obtain ⟨v5, g6, h⟩ := Aa h
   refine qP rfl rfl rfl rfl At (HN g6) (sp 1 rfl (?_))
   obtain ⟨g7, h⟩ := Ag h
   exact qB rfl ⟨rfl, g7⟩ rfl (sp 1 rfl (evn (Af ((by cases h; exact ⟨.inl rfl, rfl, rfl⟩)))))
  ·refine qF rfl g4 (Ae (hK3 _ (rs (sp 1 rfl (?_)))))
   obtain ⟨v8, g9, h⟩ := Aa h
   refine qP rfl rfl rfl rfl At (HN g9) (sp 1 rfl (evn (qk [0, 1, 5] rfl (rs (sp 1 rfl (?_))))))
   obtain ⟨v10, g11, h⟩ := Aa h
   refine qP rfl rfl rfl rfl At (HN g11) (sp 1 rfl (evn (rs (sp 1 rfl (?_)))))
   obtain ⟨v12, g13, h⟩ := Aa h
   refine qP rfl rfl rfl rfl At (HN g13) (sp 1 rfl (evn (rs (sp 1 rfl (?_)))))
   obtain ⟨v14, g15, h⟩ := Aa h
   refine qP rfl rfl rfl rfl At (HN g15) (sp 1 rfl (evn (rs (sp 11 rfl (?_)))))
   obtain ⟨g16, h⟩ := Ag h
   exact qB rfl ⟨rfl, g16⟩ rfl (sp 1 rfl (evn (Af ((by cases h; exact ⟨.inl rfl, rfl, rfl⟩)))))
def FU (a0 : Y98) (a1 : Int) : Option (Bool × Y98) := Ad (AV a0 a1) fun v1 => some ((v1.1 == 0), v1.2)
theorem HO {a0 : Y98} {a1 : Int} {r : Bool × Y98} (h : FU a0 a1 = some r) : Jm Tryz.prog 67 [aL cu8 a0.1, nI a0.2.1, nI a0.2.2] [nI a1] [aL cu8 r.2.1, nI r.2.2.1, nI r.2.2.2] (.bool r.1) := by
 unfold FU at h
 refine stp iZ rfl (rn 1 rfl (rs (sp 2 rfl (?_))))
 obtain ⟨v1, g2, h⟩ := Aa h
 exact qP rfl rfl rfl rfl (qs rfl At) (AN g2) (sp 2 rfl (evn (Af ((by cases h; exact ⟨.inl rfl, rfl, rfl⟩)))))
def Ik (x2 : Bool) : Option (Bool) := some x2
def Dh (a0 : Int) (a1 : Int) (a2 : Int) : Option (Bool) := cond (decide (a1 <= a0)) (Ik (decide (a0 <= a2))) (Ik false)
theorem CJ {a0 : Int} {a1 : Int} {a2 : Int} {r : Bool} (h : Dh a0 a1 a2 = some r) : Ah Tryz.prog 42 [nI a0, nI a1, nI a2] (.bool r) := by
 unfold Dh at h
 refine st iL rfl (rn 1 rfl (rk fun K1 hK1 => ?_))
 have kJ1 : ∀ {x2 : Bool}, Ik x2 = some r -> Jn K1 [(6, .bool x2)] := by
  intro x2 h σ' hk
  unfold Ik at h
  exact hK1 _ (lh hk rfl (Af ((by cases h; exact ⟨.inl rfl, rfl⟩))))
 refine sp 4 rfl (?_)
 rcases Ab h with ⟨g3, h⟩ | ⟨g3, h⟩
 ·exact qg 10 g3 rfl (sp 5 rfl (evn (kJ1 h _ (okr rfl))))
 ·exact qg 10 g3 rfl (sp 5 rfl (evn (kJ1 h _ (okr rfl))))
def Ev (a0 : List Int) (a1 : List Int) (rec : Int -> Option (Sum (Unit) (Int))) (y1 : Int) : Option (Sum (Unit) (Int)) := cond (decide (y1 < (List.length a0 : Int))) (cond (decide (y1 < (List.length a1 : Int))) (Ad (AA a0 y1) fun e7 => Ad (AA a1 y1) fun e9 => cond (decide (e7 < e9)) (some (.inr (-1))) (Ad (AA a0 y1) fun e12 => Ad (AA a1 y1) fun e14 => cond (decide (e14 < e12)) (some (.inr 1)) (rec (IntKind.i64.wrap (y1 + 1))))) (some (.inl ()))) (some (.inl ()))
def A9 (a0 : List Int) (a1 : List Int) : Option (Int) := Ad (Ai (Ev a0 a1) fz 0) fun o1 => (match o1 with
  | .inl _ => (cond (decide ((List.length a0 : Int) < (List.length a1 : Int))) (some (-1)) (cond (decide ((List.length a1 : Int) < (List.length a0 : Int))) (some 1) (some 0)))
  | .inr r => some r)
theorem BI {a0 : List Int} {a1 : List Int} {r : Int} (h : A9 a0 a1 = some r) : Ah Tryz.prog 73 [dL An a0, dL An a1] (nI r) := by
 unfold A9 at h
 refine st ja rfl (rn 1 rfl (Ac fun K1 hK1 => rn 1 rfl ?_))
 obtain ⟨o1, hl, hr1⟩ := Aa h
 have kXB1 : (.inl ()) = o1 -> Jn K1 [(0, dL An a0), (1, dL An a1)] := by
  intro h σ' hk
  subst h
  replace h := hr1
  try dsimp only at h
  refine hK1 _ (lh hk rfl (Ac fun K17 hK17 => rn 1 rfl ?_))
  rcases Ab h with ⟨g18, h⟩ | ⟨g18, h⟩
  ·exact qT rfl g18 (rn 1 rfl (Af ((by cases h; exact ⟨.inl rfl, rfl⟩))))
  ·refine qF rfl g18 (Ae (hK17 _ (Ac fun K19 hK19 => rn 1 rfl ?_)))
   rcases Ab h with ⟨g20, h⟩ | ⟨g20, h⟩
   ·exact qT rfl g20 (rn 1 rfl (Af ((by cases h; exact ⟨.inl rfl, rfl⟩))))
   ·exact qF rfl g20 (Ae (hK19 _ (rn 1 rfl (Af ((by cases h; exact ⟨.inl rfl, rfl⟩))))))
 refine As (fun (y1 : Int) => [(0, dL An a0), (1, dL An a1), (5, nI y1)]) _ _ _ _ hl (okr rfl) (fun _ => rfl) ?_
 rintro m y1 N h hN
 unfold Ev at h
 refine Ac fun K2 hK2 => rs (sp 5 rfl (?_))
 rcases Ab h with ⟨g3, h⟩ | ⟨g3, h⟩
 ·refine qg 10 g3 rfl (sp 5 rfl (evn ?_))
  rcases Ab h with ⟨g4, h⟩ | ⟨g4, h⟩
  ·refine qT rfl g4 (Ae (hK2 _ (Ac fun K5 hK5 => Aq (Ac fun K6 hK6 => rd (by kernel_rfl) (sd 2 rfl (?_))))))
   obtain ⟨e7, g8, h⟩ := Aa h
   refine ed rfl (qI rfl Ar g8 (sd 3 rfl (?_)))
   obtain ⟨e9, g10, h⟩ := Aa h
   refine ed rfl (qI rfl Ar g10 (sd 2 rfl (Cy ?_)))
   rcases Ab h with ⟨g11, h⟩ | ⟨g11, h⟩
   ·exact qT rfl g11 (rn 1 rfl (Af ((by cases h; cases hr1; exact ⟨.inl rfl, rfl⟩))))
   ·refine qF rfl g11 (Ae (hK6 _ (rd (by kernel_rfl) (sd 2 rfl (?_)))))
    obtain ⟨e12, g13, h⟩ := Aa h
    refine ed rfl (qI rfl Ar g13 (sd 3 rfl (?_)))
    obtain ⟨e14, g15, h⟩ := Aa h
    refine ed rfl (qI rfl Ar g15 (sd 2 rfl (Cy (qk [0, 1, 5, 35] rfl ?_))))
    rcases Ab h with ⟨g16, h⟩ | ⟨g16, h⟩
    ·exact qT rfl g16 (rn 1 rfl (Af ((by cases h; cases hr1; exact ⟨.inl rfl, rfl⟩))))
    ·exact qF rfl g16 (Ae (hK5 _ (rg (sp 3 rfl (evn (hN _ _ h (okr rfl)))))))
  ·exact qF rfl g4 (Al (kXB1 (Option.some.inj h) _ (okr rfl)))
 ·exact qg 10 g3 rfl (sp 5 rfl (evn (qF rfl rfl (Al (kXB1 (Option.some.inj h) _ (okr rfl))))))
def EK (a0 : List Int) (rec : Int -> Option (Sum (Unit) (Bool))) (y1 : Int) : Option (Sum (Unit) (Bool)) := cond (decide (y1 < (List.length a0 : Int))) (Ad (AA a0 y1) fun e5 => Ad (Dh e5 0 99) fun v7 => cond (!v7) (some (.inr false)) (rec (IntKind.i64.wrap (y1 + 1)))) (some (.inl ()))
def Cq (a0 : List Int) : Option (Bool) := Ad (Ai (EK a0) fz 0) fun o1 => (match o1 with
  | .inl _ => (some true)
  | .inr r => some r)
theorem GC {a0 : List Int} {r : Bool} (h : Cq a0 = some r) : Ah Tryz.prog 116 [dL An a0] (.bool r) := by
 unfold Cq at h
 refine st b9 rfl (rn 1 rfl (Ac fun K1 hK1 => rn 1 rfl ?_))
 obtain ⟨o1, hl, hr1⟩ := Aa h
 have kXB1 : (.inl ()) = o1 -> Jn K1 [] := by
  intro h σ' hk
  subst h
  replace h := hr1
  try dsimp only at h
  exact hK1 _ (lh hk rfl (rn 1 rfl (Af ((by cases h; exact ⟨.inl rfl, rfl⟩)))))
 refine As (fun (y1 : Int) => [(0, dL An a0), (3, nI y1)]) _ _ _ _ hl (okr rfl) (fun _ => rfl) ?_
 rintro m y1 N h hN
 unfold EK at h
 refine Ac fun K2 hK2 => rn 1 rfl ?_
 rcases Ab h with ⟨g3, h⟩ | ⟨g3, h⟩
 ·refine qT rfl g3 (Ae (hK2 _ (Ac fun K4 hK4 => Aq (rs (sp 2 rfl (?_))))))
  obtain ⟨e5, g6, h⟩ := Aa h
  refine qI rfl Ar g6 (sp 1 rfl (?_))
  obtain ⟨v7, g8, h⟩ := Aa h
  refine qC (qs rfl (qs rfl (qs rfl At))) (CJ g8) (sp 1 rfl (evn ?_))
  rcases Ab h with ⟨g9, h⟩ | ⟨g9, h⟩
  ·exact qT rfl g9 (rn 1 rfl (Af ((by cases h; cases hr1; exact ⟨.inl rfl, rfl⟩))))
  ·exact qF rfl g9 (Ae (hK4 _ (rg (sp 3 rfl (evn (hN _ _ h (okr rfl)))))))
 ·exact qF rfl g3 (Al (kXB1 (Option.some.inj h) _ trivial))
abbrev Y40 := Int × (List (List Int))
def Aw (x : List Int) : List V := [dL An x]
theorem AX (x : List Int) : (Aw x).length = 1 := rfl
theorem AJ (x : List Int) : erL (Aw x) = Aw x := (erc (erD Ap _) rfl)
def Ek (x : Y40) : List V := [nI x.1, dL Aw x.2]
theorem jM (x : Y40) : (Ek x).length = 2 := rfl
theorem gG (x : Y40) : erL (Ek x) = Ek x := (erc rfl (erc (erD AJ _) rfl))
def Bq (rec : Int -> Option (Sum (Unit) (Bool))) (y1 : Int) (x11 : Bool) : Option (Sum (Unit) (Bool)) := cond x11 (some (.inr false)) (rec (IntKind.i64.wrap (y1 + 1)))
def CI (a0 : Y40) (rec : Int -> Option (Sum (Unit) (Bool))) (y1 : Int) : Option (Sum (Unit) (Bool)) := cond (decide (y1 < (List.length a0.2 : Int))) (Ad (AA a0.2 y1) fun e13 => cond ((List.length e13 : Int) != a0.1) (Bq rec y1 true) (Ad (AA a0.2 y1) fun e16 => Ad (Cq e16) fun v18 => cond (!v18) (Bq rec y1 true) (cond (decide (0 < y1)) (Ad (AA a0.2 (IntKind.i64.wrap (y1 - 1))) fun e22 => Ad (AA a0.2 y1) fun e24 => Ad (A9 e22 e24) fun v26 => Bq rec y1 (decide (0 <= v26))) (Bq rec y1 false)))) (some (.inl ()))
def AG (a0 : Y40) : Option (Bool) := Ad (Dh a0.1 0 5) fun v2 => cond (!v2) (some false) (cond (decide (4000 < (List.length a0.2 : Int))) (some false) (Ad (Ai (CI a0) fz 0) fun o1 => (match o1 with
  | .inl _ => (some true)
  | .inr r => some r)))
theorem AM {a0 : Y40} {r : Bool} (h : AG a0 = some r) : Ah Tryz.prog 77 [.agg (Ek a0)] (.bool r) := by
 unfold AG at h
 refine st je rfl (rn 1 rfl (Ac fun K1 hK1 => rs (sp 2 rfl (?_))))
 obtain ⟨v2, g3, h⟩ := Aa h
 refine qC (qs rfl (qs rfl (qs rfl At))) (CJ g3) (sp 2 rfl (?_))
 rcases Ab h with ⟨g4, h⟩ | ⟨g4, h⟩
 ·exact qg 8 g4 rfl (sp 5 rfl (evn (qT rfl rfl (rn 1 rfl (Af ((by cases h; exact ⟨.inl rfl, rfl⟩)))))))
 ·refine qg 8 g4 rfl (sp 5 rfl (evn ?_))
  rcases Ab h with ⟨g5, h⟩ | ⟨g5, h⟩
  ·exact qT rfl g5 (rn 1 rfl (Af ((by cases h; exact ⟨.inl rfl, rfl⟩))))
  ·refine qF rfl g5 (Ae (hK1 _ (qk [1] rfl (Ac fun K6 hK6 => rn 1 rfl ?_))))
   obtain ⟨o1, hl, hr1⟩ := Aa h
   have kXB1 : (.inl ()) = o1 -> Jn K6 [] := by
    intro h σ' hk
    subst h
    replace h := hr1
    try dsimp only at h
    exact hK6 _ (lh hk rfl (rn 1 rfl (Af ((by cases h; exact ⟨.inl rfl, rfl⟩)))))
   refine As (fun (y1 : Int) => [(1, .box [nI a0.1, dL Aw a0.2]), (3, nI y1)]) _ _ _ _ hl (okr rfl) (fun _ => rfl) ?_
   rintro m y1 N h hN
   unfold CI at h
   refine Ac fun K7 hK7 => rn 1 rfl ?_
   rcases Ab h with ⟨g8, h⟩ | ⟨g8, h⟩
   ·refine qT rfl g8 (Ae (hK7 _ (Ac fun K9 hK9 => Aq (rdk (by kernel_rfl) fun K10 hK10 => ?_))))
    have kJ2 : ∀ {x11 : Bool}, Bq (Ai (CI a0) m) y1 x11 = some o1 -> Jn K10 [(1, .box [nI a0.1, dL Aw a0.2]), (3, nI y1), (57, .bool x11)] := by
     intro x11 h σ' hk
     unfold Bq at h
     refine hK10 _ (lh hk rfl ?_)
     rcases Ab h with ⟨g12, h⟩ | ⟨g12, h⟩
     ·exact qT rfl g12 (rn 1 rfl (Af ((by cases h; cases hr1; exact ⟨.inl rfl, rfl⟩))))
     ·exact qF rfl g12 (Ae (hK9 _ (rg (sp 3 rfl (evn (hN _ _ h (okr rfl)))))))
    refine sd 3 rfl (?_)
    obtain ⟨e13, g14, h⟩ := Aa h
    refine ed rfl (qI rfl AX g14 (sd 6 rfl (?_)))
    rcases Ab h with ⟨g15, h⟩ | ⟨g15, h⟩
    ·exact qgd 30 g15 rfl (sd 27 rfl (Cy (kJ2 h _ (okr rfl))))
    ·refine qgd 30 g15 rfl (sd 3 rfl (?_))
     obtain ⟨e16, g17, h⟩ := Aa h
     refine ed rfl (oGR rfl rfl (qI rfl AX g17 (sd 1 rfl (?_))))
     obtain ⟨v18, g19, h⟩ := Aa h
     refine ed rfl (oGR rfl rfl (qC (qa rfl (erD Ap _) At) (GC g19) (sd 3 rfl (?_))))
     rcases Ab h with ⟨g20, h⟩ | ⟨g20, h⟩
     ·exact qgd 39 g20 rfl (sd 18 rfl (Cy (kJ2 h _ (okr rfl))))
     ·refine qgd 39 g20 rfl (sd 3 rfl (?_))
      rcases Ab h with ⟨g21, h⟩ | ⟨g21, h⟩
      ·refine qgd 42 g21 rfl (sd 4 rfl (?_))
       obtain ⟨e22, g23, h⟩ := Aa h
       refine ed rfl (oGR rfl rfl (qI rfl AX g23 (sd 4 rfl (?_))))
       obtain ⟨e24, g25, h⟩ := Aa h
       refine ed rfl (oGR rfl rfl (qI rfl AX g25 (sd 1 rfl (?_))))
       obtain ⟨v26, g27, h⟩ := Aa h
       exact ed rfl (oGR rfl rfl (qC (qa rfl (erD Ap _) (qa rfl (erD Ap _) At)) (BI g27) (sd 3 rfl (Cy (kJ2 h _ (okr rfl))))))
      ·exact qgd 42 g21 rfl (sd 15 rfl (Cy (kJ2 h _ (okr rfl))))
   ·exact qF rfl g8 (Al (kXB1 (Option.some.inj h) _ trivial))
def Aj (x : List Int) : List V := [oL 3 An x]
theorem AZ (x : List Int) : (Aj x).length = 1 := rfl
theorem Ca (x : List Int) : erL (Aj x) = Aw x := (erc (erO Ap _) rfl)
def Ht (x : Y40) : List V := [nI x.1, oL 27 Aj x.2]
theorem jO (x : Y40) : (Ht x).length = 2 := rfl
theorem gJ (x : Y40) : erL (Ht x) = Ek x := (erc rfl (erc (erO Ca _) rfl))
def H4 (a0 : Y40) (rec : ((List (List Int)) × Int) -> Option ((List (List Int)))) (s : (List (List Int)) × Int) : Option ((List (List Int))) := match s with
  | (y1, y2) => cond (decide (y2 < (List.length a0.2 : Int))) (Ad (AA a0.2 y2) fun e6 => chk (List.length ([] : List Int) + List.length e6 <= lim) (chk (List.length y1 + List.length ([([] : List Int) ++ e6]) <= lim) (rec ((y1 ++ ([([] : List Int) ++ e6])), (IntKind.i64.wrap (y2 + 1)))))) (some y1)
def GK (a0 : Y40) : Option (Y40) := Ad (Ai (H4 a0) fz (([] : List (List Int)), 0)) fun z2 => some (a0.1, z2)
theorem IL {a0 : Y40} {r : Y40} (h : GK a0 = some r) : Ah Tryz.prog 109 [.agg (Ek a0)] (.agg (Ht r)) := by
 unfold GK at h
 refine st bU rfl (rn 2 rfl (Ac fun K1 hK1 => rn 1 rfl ?_))
 obtain ⟨o1, hl, hr1⟩ := Aa h
 have kXB1 : ∀ {z2 : List (List Int)}, z2 = o1 -> Jn K1 [(2, .box [nI 0, oL 27 Aj []]), (3, .box [nI a0.1, oL 27 Aj z2])] := by
  intro z2 h σ' hk
  subst h
  replace h := hr1
  try dsimp only at h
  exact hK1 _ (lh hk rfl (rn 1 rfl (Af ((by cases h; exact ⟨.inl rfl, rfl⟩)))))
 refine As (fun (s : (List (List Int)) × Int) => match s with | (y1, y2) => [(1, .box [nI a0.1, dL Aw a0.2]), (2, .box [nI 0, oL 27 Aj []]), (3, .box [nI a0.1, oL 27 Aj y1]), (4, nI y2)]) _ _ _ _ hl (okr rfl) (fun _ => rfl) ?_
 rintro m ⟨y1, y2⟩ N h hN
 unfold H4 at h
 dsimp only at h
 refine Ac fun K3 hK3 => rn 1 rfl ?_
 rcases Ab h with ⟨g4, h⟩ | ⟨g4, h⟩
 ·refine qT rfl g4 (Ae (hK3 _ (Ac fun K5 hK5 => Aq (rgd (by kernel_rfl) (sd 2 rfl (ed rfl (qBs An [] rfl rfl rfl Ar (sd 3 rfl (?_)))))))))
  obtain ⟨e6, g7, h⟩ := Aa h
  refine ed rfl (qI rfl AX g7 (sd 1 rfl (?_)))
  obtain ⟨g8, h⟩ := Ag h
  refine ed rfl (qA An ([] : List Int) e6 rfl rfl (Ao Ar e6) (Gi (fun _ => rfl) _) g8 (ed rfl (qBs Aj [([] : List Int) ++ e6] rfl rfl rfl AZ (?_))))
  obtain ⟨g9, h⟩ := Ag h
  exact ed rfl (qA Aj y1 ([([] : List Int) ++ e6]) rfl rfl (Ao AZ ([([] : List Int) ++ e6])) rfl g9 (sd 2 rfl (Cy (hK5 _ (rg (sp 3 rfl (evn (hN _ _ h (okr rfl)))))))))
 ·exact qF rfl g4 (Al (kXB1 (Option.some.inj h) _ (okr rfl)))
def F9 (rec : ((List (List Int)) × (List (List Int)) × (List (List Int))) -> Option ((List (List Int)))) (y3 : List (List Int)) (x18 : List (List Int)) (x19 : List (List Int)) (x20 : List Int) (x22 : Bool) : Option ((List (List Int))) := cond x22 (chk (List.length y3 + List.length [x20] <= lim) (rec (x18, x19, (y3 ++ [x20])))) (rec (x18, x19, y3))
def F8 (rec : ((List (List Int)) × (List (List Int)) × (List (List Int))) -> Option ((List (List Int)))) (y3 : List (List Int)) (x18 : List (List Int)) (x19 : List (List Int)) (x20 : List Int) : Option ((List (List Int))) := cond ((List.length y3 : Int) == 0) (F9 rec y3 x18 x19 x20 true) (Ad (AA y3 (IntKind.i64.wrap ((List.length y3 : Int) - 1))) fun e26 => Ad (A9 e26 x20) fun v28 => F9 rec y3 x18 x19 x20 (v28 != 0))
def DB (rec : ((List (List Int)) × (List (List Int)) × (List (List Int))) -> Option ((List (List Int)))) (y1 : List (List Int)) (y2 : List (List Int)) (y3 : List (List Int)) (x16 : Int) : Option ((List (List Int))) := cond (decide (0 < x16)) (Ad (AA y2 0) fun e31 => chk ((0 : Int) <= 1 ∧ 1 <= (List.length y2 : Int) ∧ (List.length y2 : Int) <= (List.length y2 : Int)) (F8 rec y3 y1 (A7 y2 1 (List.length y2 : Int)) e31)) (Ad (AA y1 0) fun e34 => chk ((0 : Int) <= 1 ∧ 1 <= (List.length y1 : Int) ∧ (List.length y1 : Int) <= (List.length y1 : Int)) (F8 rec y3 (A7 y1 1 (List.length y1 : Int)) y2 e34))
def Eb (rec : ((List (List Int)) × (List (List Int)) × (List (List Int))) -> Option ((List (List Int)))) (y1 : List (List Int)) (y2 : List (List Int)) (y3 : List (List Int)) (x13 : Bool) : Option ((List (List Int))) := cond x13 (cond ((List.length y1 : Int) == 0) (DB rec y1 y2 y3 1) (cond (decide (0 < (List.length y2 : Int))) (Ad (AA y1 0) fun e39 => Ad (AA y2 0) fun e41 => Ad (A9 e39 e41) fun v43 => DB rec y1 y2 y3 v43) (DB rec y1 y2 y3 (-1)))) (some y3)
def BR  (rec : ((List (List Int)) × (List (List Int)) × (List (List Int))) -> Option ((List (List Int)))) (s : (List (List Int)) × (List (List Int)) × (List (List Int))) : Option ((List (List Int))) := match s with
  | (y1, y2, y3) => cond (decide (0 < (List.length y1 : Int))) (Eb rec y1 y2 y3 true) (Eb rec y1 y2 y3 (decide (0 < (List.length y2 : Int))))
def Fc (rec : ((List (List Int))) -> Option ((List (List Int)))) (a0 : (List (List Int))) : Option ((List (List Int))) := cond (decide ((List.length a0 : Int) < 2)) (some a0) (chk ((0 : Int) <= 0 ∧ 0 <= IntKind.i64.wrap (Int.tdiv (List.length a0 : Int) 2) ∧ IntKind.i64.wrap (Int.tdiv (List.length a0 : Int) 2) <= (List.length a0 : Int)) (Ad (rec (A7 a0 0 (IntKind.i64.wrap (Int.tdiv (List.length a0 : Int) 2)))) fun v4 => chk ((0 : Int) <= IntKind.i64.wrap (Int.tdiv (List.length a0 : Int) 2) ∧ IntKind.i64.wrap (Int.tdiv (List.length a0 : Int) 2) <= (List.length a0 : Int) ∧ (List.length a0 : Int) <= (List.length a0 : Int)) (Ad (rec (A7 a0 (IntKind.i64.wrap (Int.tdiv (List.length a0 : Int) 2)) (List.length a0 : Int))) fun v7 => Ad (Ai BR fz (v4, v7, ([] : List (List Int)))) fun z10 => some z10)))
def Lz (a0 : List (List Int)) : Option ((List (List Int))) := Ai Fc fz a0
theorem P9 {a0 : List (List Int)} {r : (List (List Int))} (h : Lz a0 = some r) : Ah Tryz.prog 156 [dL Aw a0] (dL Aw r) := by
 suffices key : ∀ mF (a0 : List (List Int)) (r : (List (List Int))), Ai Fc mF a0 = some r -> Ah Tryz.prog 156 [dL Aw a0] (dL Aw r) from key fz a0 r h
 intro mF
 induction mF with
 | zero => intro a0 r h; cases h
 | succ mF ih0 =>
  intro a0 r h
  have ih : ∀ {a0 : List (List Int)} {r : (List (List Int))}, Ai Fc mF a0 = some r -> Ah Tryz.prog 156 [dL Aw a0] (dL Aw r) := fun h => ih0 _ _ h
  change Fc (Ai Fc mF) a0 = some r at h
  unfold Fc at h
  try dsimp only at h
  refine st cM rfl (rn 1 rfl (Ac fun K1 hK1 => rn 1 rfl ?_))
  rcases Ab h with ⟨g2, h⟩ | ⟨g2, h⟩
  ·exact qT rfl g2 (rn 1 rfl (Af ((by cases h; exact ⟨.inl rfl, rfl⟩))))
  ·refine qF rfl g2 (Ae (hK1 _ (rn 1 rfl (rs (sp 2 rfl (?_))))))
   obtain ⟨g3, h⟩ := Ag h
   refine qSl rfl AX g3 (?_)
   obtain ⟨v4, g5, h⟩ := Aa h
   refine qC (qa rfl (erD AJ _) At) (ih g5) (sp 1 rfl (evn (rs (sp 2 rfl (?_)))))
   obtain ⟨g6, h⟩ := Ag h
   refine qSl rfl AX g6 (?_)
   obtain ⟨v7, g8, h⟩ := Aa h
   refine qC (qa rfl (erD AJ _) At) (ih g8) (sp 1 rfl (evn (qk [4, 5] rfl (rs (qBs Aj [] rfl rfl rfl AZ (sp 1 rfl (evn (Ac fun K9 hK9 => ?_))))))))
   obtain ⟨o1, hl, hr1⟩ := Aa h
   have kXB1 : ∀ {z10 : List (List Int)}, z10 = o1 -> Jn K9 [(6, oL 27 Aw z10)] := by
    intro z10 h σ' hk
    subst h
    replace h := hr1
    try dsimp only at h
    exact hK9 _ (lh hk rfl (rn 1 rfl (Ix [(2, dL Aw z10)] ⟨(ke rfl (erO AJ _)), trivial⟩ rfl (Af ((by cases h; exact ⟨.inl rfl, rfl⟩))))))
   refine As (fun (s : (List (List Int)) × (List (List Int)) × (List (List Int))) => match s with | (y1, y2, y3) => [(4, dL Aw y1), (5, dL Aw y2), (6, oL 27 Aw y3)]) _ _ _ _ hl (okr rfl) (fun _ => rfl) ?_
   rintro m ⟨y1, y2, y3⟩ N h hN
   unfold BR at h
   dsimp only at h
   refine Ac fun K11 hK11 => rk fun K12 hK12 => ?_
   have kJ2 : ∀ {x13 : Bool}, Eb (Ai BR m) y1 y2 y3 x13 = some o1 -> Jn K12 [(4, dL Aw y1), (5, dL Aw y2), (6, oL 27 Aw y3), (32, .bool x13)] := by
    intro x13 h σ' hk
    unfold Eb at h
    refine hK12 _ (lh hk rfl ?_)
    rcases Ab h with ⟨g14, h⟩ | ⟨g14, h⟩
    ·refine qT rfl g14 (Ae (hK11 _ (Aq (rn 1 rfl (Ac fun K15 hK15 => Aq (rn 1 rfl ?_))))))
     have kJ3 : ∀ {x16 : Int}, DB (Ai BR m) y1 y2 y3 x16 = some o1 -> Jn K15 [(4, dL Aw y1), (5, dL Aw y2), (6, oL 27 Aw y3), (7, nI x16)] := by
      intro x16 h σ' hk
      unfold DB at h
      refine hK15 _ (lh hk rfl (rs (qBs An [] rfl rfl rfl Ar (sp 1 rfl (evn (Ac fun K17 hK17 => rn 1 rfl ?_))))))
      have kJ4 : ∀ {x18 : List (List Int)} {x19 : List (List Int)} {x20 : List Int}, F8 (Ai BR m) y3 x18 x19 x20 = some o1 -> Jn K17 [(4, dL Aw x18), (5, dL Aw x19), (6, oL 27 Aw y3), (8, dL An x20)] := by
       intro x18 x19 x20 h σ' hk
       unfold F8 at h
       refine hK17 _ (lh hk rfl (rk fun K21 hK21 => ?_))
       have kJ5 : ∀ {x22 : Bool}, F9 (Ai BR m) y3 x18 x19 x20 x22 = some o1 -> Jn K21 [(4, dL Aw x18), (5, dL Aw x19), (6, oL 27 Aw y3), (8, dL An x20), (74, .bool x22)] := by
        intro x22 h σ' hk
        unfold F9 at h
        refine hK21 _ (lh hk rfl ?_)
        rcases Ab h with ⟨g23, h⟩ | ⟨g23, h⟩
        ·refine qT rfl g23 (rg (sp 2 rfl (qBs Aw [x20] rfl rfl rfl AX (?_))))
         obtain ⟨g24, h⟩ := Ag h
         exact qA Aw y3 [x20] rfl rfl (Ao AX [x20]) rfl g24 (sp 1 rfl (evn (hN _ _ h (okr rfl))))
        ·exact qF rfl g23 (Ae (hN _ _ h (okr rfl)))
       refine sp 4 rfl (?_)
       rcases Ab h with ⟨g25, h⟩ | ⟨g25, h⟩
       ·exact qg 64 g25 rfl (sp 10 rfl (evn (kJ5 h _ (okr rfl))))
       ·refine qg 64 g25 rfl (sp 4 rfl (?_))
        obtain ⟨e26, g27, h⟩ := Aa h
        refine oGR rfl rfl (qI rfl AX g27 (sp 2 rfl (?_)))
        obtain ⟨v28, g29, h⟩ := Aa h
        exact oGR rfl rfl (qC (qa rfl (erD Ap _) (qa rfl (erD Ap _) At)) (BI g29) (sp 2 rfl (evn (kJ5 h _ (okr rfl)))))
      rcases Ab h with ⟨g30, h⟩ | ⟨g30, h⟩
      ·refine qT rfl g30 (rs (sp 1 rfl (?_)))
       obtain ⟨e31, g32, h⟩ := Aa h
       refine qI rfl AX g32 (sp 2 rfl (evn (qk [4, 5, 6, 8] rfl (rg (sp 1 rfl (?_))))))
       obtain ⟨g33, h⟩ := Ag h
       exact qSl rfl AX g33 (sp 1 rfl (evn (kJ4 h _ (okr rfl))))
      ·refine qF rfl g30 (rs (sp 1 rfl (?_)))
       obtain ⟨e34, g35, h⟩ := Aa h
       refine qI rfl AX g35 (sp 2 rfl (evn (rg (sp 1 rfl (?_)))))
       obtain ⟨g36, h⟩ := Ag h
       exact qSl rfl AX g36 (sp 1 rfl (evn (kJ4 h _ (okr rfl))))
     rcases Ab h with ⟨g37, h⟩ | ⟨g37, h⟩
     ·exact qT rfl g37 (rg (sp 1 rfl (evn (kJ3 h _ (okr rfl)))))
     ·refine qF rfl g37 (rn 1 rfl ?_)
      rcases Ab h with ⟨g38, h⟩ | ⟨g38, h⟩
      ·refine qT rfl g38 (rgd (by kernel_rfl) (sd 1 rfl (?_)))
       obtain ⟨e39, g40, h⟩ := Aa h
       refine ed rfl (qI rfl AX g40 (sd 2 rfl (?_)))
       obtain ⟨e41, g42, h⟩ := Aa h
       refine ed rfl (qI rfl AX g42 (sd 1 rfl (?_)))
       obtain ⟨v43, g44, h⟩ := Aa h
       exact ed rfl (qC (qa rfl (erD Ap _) (qa rfl (erD Ap _) At)) (BI g44) (sd 1 rfl (Cy (kJ3 h _ (okr rfl)))))
      ·exact qF rfl g38 (rg (sp 1 rfl (evn (kJ3 h _ (okr rfl)))))
    ·exact qF rfl g14 (Al (kXB1 (Option.some.inj h) _ (okr rfl)))
   refine sp 4 rfl (?_)
   rcases Ab h with ⟨g45, h⟩ | ⟨g45, h⟩
   ·exact qg 28 g45 rfl (sp 4 rfl (evn (kJ2 h _ (okr rfl))))
   ·exact qg 28 g45 rfl (sp 4 rfl (evn (kJ2 h _ (okr rfl))))
def FSQ (a0 : Int) (a1 : List (List Int)) (rec : Int -> Option (Sum (Unit) (Y40 × Bool))) (y1 : Int) : Option (Sum (Unit) (Y40 × Bool)) := cond (decide (y1 < (List.length a1 : Int))) (Ad (AA a1 y1) fun e5 => cond ((List.length e5 : Int) != a0) (some (.inr ((0, []), false))) (Ad (AA a1 y1) fun e8 => Ad (Cq e8) fun v10 => cond (!v10) (some (.inr ((0, []), false))) (rec (IntKind.i64.wrap (y1 + 1))))) (some (.inl ()))
def Ck (a0 : Int) (a1 : List (List Int)) : Option (Y40 × Bool) := Ad (Ai (FSQ a0 a1) fz 0) fun o1 => (match o1 with
  | .inl _ => (Ad (Lz a1) fun v13 => Ad (GK (a0, v13)) fun v15 => Ad (AG v15) fun v18 => cond (!v18) (some ((0, []), false)) (some (v15, true)))
  | .inr r => some r)
theorem Fa {a0 : Int} {a1 : List (List Int)} {r : Y40 × Bool} (h : Ck a0 a1 = some r) : Ah Tryz.prog 113 [nI a0, dL Aw a1] (.tup [.agg (Ht r.1), .bool r.2]) := by
 unfold Ck at h
 refine st bY rfl (rn 1 rfl (Ac fun K1 hK1 => rn 1 rfl ?_))
 obtain ⟨o1, hl, hr1⟩ := Aa h
 have kXB1 : (.inl ()) = o1 -> Jn K1 [(0, nI a0), (1, dL Aw a1), (4, .box [nI 0, oL 27 Aj []])] := by
  intro h σ' hk
  subst h
  replace h := hr1
  try dsimp only at h
  refine hK1 _ (lh hk rfl (rs (sp 2 rfl (?_))))
  obtain ⟨v13, g14, h⟩ := Aa h
  refine qC (qa rfl (erD AJ _) At) (P9 g14) (sp 1 rfl (?_))
  obtain ⟨v15, g16, h⟩ := Aa h
  refine qC (qa rfl (erg (erc rfl (erc (erD AJ _) rfl))) At) (IL g16) (sp 2 rfl (evn (Ac fun K17 hK17 => rs (sp 1 rfl (?_)))))
  obtain ⟨v18, g19, h⟩ := Aa h
  refine qC (qa rfl (erg (erc rfl (erc (erD Ca _) rfl))) At) (AM g19) (sp 1 rfl (evn ?_))
  rcases Ab h with ⟨g20, h⟩ | ⟨g20, h⟩
  ·exact qT rfl g20 (rn 1 rfl (Af ((by cases h; exact ⟨.inl rfl, rfl⟩))))
  ·exact qF rfl g20 (Ae (hK17 _ (rn 1 rfl (Af ((by cases h; exact ⟨.inl rfl, rfl⟩))))))
 refine As (fun (y1 : Int) => [(0, nI a0), (1, dL Aw a1), (4, .box [nI 0, oL 27 Aj []]), (6, nI y1)]) _ _ _ _ hl (okr rfl) (fun _ => rfl) ?_
 rintro m y1 N h hN
 unfold FSQ at h
 refine Ac fun K2 hK2 => rn 1 rfl ?_
 rcases Ab h with ⟨g3, h⟩ | ⟨g3, h⟩
 ·refine qT rfl g3 (Ae (hK2 _ (Ac fun K4 hK4 => Aq (rs (sp 2 rfl (?_))))))
  obtain ⟨e5, g6, h⟩ := Aa h
  refine qI rfl AX g6 (sp 5 rfl (?_))
  rcases Ab h with ⟨g7, h⟩ | ⟨g7, h⟩
  ·exact qg 21 g7 rfl (sp 7 rfl (evn (qT rfl rfl (rn 1 rfl (Af ((by cases h; cases hr1; exact ⟨.inl rfl, rfl⟩)))))))
  ·refine qg 21 g7 rfl (sp 2 rfl (?_))
   obtain ⟨e8, g9, h⟩ := Aa h
   refine oGR rfl rfl (qI rfl AX g9 (sp 1 rfl (?_)))
   obtain ⟨v10, g11, h⟩ := Aa h
   refine oGR rfl rfl (qC (qa rfl (erD Ap _) At) (GC g11) (sp 2 rfl (evn (qk [0, 1, 4, 6, 28] rfl ?_))))
   rcases Ab h with ⟨g12, h⟩ | ⟨g12, h⟩
   ·exact qT rfl g12 (rn 1 rfl (Af ((by cases h; cases hr1; exact ⟨.inl rfl, rfl⟩))))
   ·exact qF rfl g12 (Ae (hK4 _ (rg (sp 3 rfl (evn (hN _ _ h (okr rfl)))))))
 ·exact qF rfl g3 (Al (kXB1 (Option.some.inj h) _ (okr rfl)))
def HR (a1 : Int) (a2 : Int) (rec : ((List Int) × Int × Int × (List Int)) -> Option ((List Int) × Int × Int × (List Int))) (s : (List Int) × Int × Int × (List Int)) : Option ((List Int) × Int × Int × (List Int)) := match s with
  | (y1, y2, y3, y4) => cond (decide ((List.length y4 : Int) < a1)) (Ad (AV (y1, y2, y3) a2) fun v8 => chk (List.length y4 + List.length [v8.1] <= lim) (rec (v8.2.1, v8.2.2.1, v8.2.2.2, (y4 ++ [v8.1])))) (some (y1, y2, y3, y4))
def IP (a0 : Y98) (a1 : Int) (a2 : Int) : Option ((List Int) × Y98) := Ad (Ai (HR a1 a2) fz (a0.1, a0.2.1, a0.2.2, ([] : List Int))) fun o1 => (match o1 with
  | (z2, z3, z4, z5) => (some (z5, (z2, z3, z4))))
theorem MW {a0 : Y98} {a1 : Int} {a2 : Int} {r : (List Int) × Y98} (h : IP a0 a1 a2 = some r) : Jm Tryz.prog 117 [aL cu8 a0.1, nI a0.2.1, nI a0.2.2] [nI a1, nI a2] [aL cu8 r.2.1, nI r.2.2.1, nI r.2.2.2] (oL 3 An r.1) := by
 unfold IP at h
 refine stp ca rfl (rn 1 rfl (rs (qBs An [] rfl rfl rfl Ar (sp 1 rfl (evn (Ac fun K1 hK1 => ?_))))))
 obtain ⟨o1, hl, hr1⟩ := Aa h
 have kXB1 : ∀ {z2 : List Int} {z3 : Int} {z4 : Int} {z5 : List Int}, (z2, z3, z4, z5) = o1 -> Jn K1 [(0, .box [aL cu8 z2, nI z3, nI z4]), (7, oL 3 An z5)] := by
  intro z2 z3 z4 z5 h σ' hk
  subst h
  replace h := hr1
  try dsimp only at h
  exact hK1 _ (lh hk rfl (rn 1 rfl (Af ((by cases h; exact ⟨.inl rfl, rfl, rfl⟩)))))
 refine As (fun (s : (List Int) × Int × Int × (List Int)) => match s with | (y1, y2, y3, y4) => [(0, .box [aL cu8 y1, nI y2, nI y3]), (1, nI a1), (2, nI a2), (7, oL 3 An y4)]) _ _ _ _ hl (okr rfl) (fun _ => rfl) ?_
 rintro m ⟨y1, y2, y3, y4⟩ N h hN
 unfold HR at h
 dsimp only at h
 refine Ac fun K6 hK6 => rn 1 rfl ?_
 rcases Ab h with ⟨g7, h⟩ | ⟨g7, h⟩
 ·refine qT rfl g7 (Ae (hK6 _ (Aq (rg (sp 3 rfl (?_))))))
  obtain ⟨v8, g9, h⟩ := Aa h
  refine qP rfl rfl rfl rfl (qs rfl At) (AN g9) (qBs An [v8.1] rfl rfl rfl Ar (?_))
  obtain ⟨g10, h⟩ := Ag h
  exact qA An y4 [v8.1] rfl rfl (Ao Ar [v8.1]) rfl g10 (sp 1 rfl (evn (hN _ _ h (okr rfl))))
 ·exact qF rfl g7 (Al (kXB1 (Option.some.inj h) _ (okr rfl)))
def HT (a1 : Int) (a3 : Int) (rec : ((List Int) × Int × Int × (List (List Int)) × Int) -> Option ((List Int) × Int × Int × (List (List Int)))) (s : (List Int) × Int × Int × (List (List Int)) × Int) : Option ((List Int) × Int × Int × (List (List Int))) := match s with
  | (y1, y2, y3, y4, y5) => cond (decide (0 < y5)) (Ad (IP (y1, y2, y3) a1 a3) fun v11 => chk (List.length y4 + List.length [v11.1] <= lim) (rec (v11.2.1, v11.2.2.1, v11.2.2.2, (y4 ++ [v11.1]), (IntKind.i64.wrap (y5 - 1))))) (some (y1, y2, y3, y4))
def GU (a0 : Y98) (a1 : Int) (a2 : Int) (a3 : Int) : Option (Y40 × Y98) := Ad (AV a0 (IntKind.i64.wrap (a2 + 1))) fun v2 => Ad (Ai (HT a1 a3) fz (v2.2.1, v2.2.2.1, v2.2.2.2, ([] : List (List Int)), v2.1)) fun o1 => (match o1 with
  | (z4, z5, z6, z7) => (Ad (Ck a1 z7) fun v14 => some (v14.1, (z4, z5, z6))))
theorem Jk {a0 : Y98} {a1 : Int} {a2 : Int} {a3 : Int} {r : Y40 × Y98} (h : GU a0 a1 a2 a3 = some r) : Jm Tryz.prog 78 [aL cu8 a0.1, nI a0.2.1, nI a0.2.2] [nI a1, nI a2, nI a3] [aL cu8 r.2.1, nI r.2.2.1, nI r.2.2.2] (.agg (Ht r.1)) := by
 unfold GU at h
 refine stp jf rfl (rn 1 rfl (rs (qBs Aj [] rfl rfl rfl AZ (sp 1 rfl (evn (Ac fun K1 hK1 => rs (sp 3 rfl (?_))))))))
 obtain ⟨v2, g3, h⟩ := Aa h
 refine qP rfl rfl rfl rfl (qs rfl At) (AN g3) (sp 1 rfl (evn ?_))
 obtain ⟨o1, hl, hr1⟩ := Aa h
 have kXB1 : ∀ {z4 : List Int} {z5 : Int} {z6 : Int} {z7 : List (List Int)}, (z4, z5, z6, z7) = o1 -> Jn K1 [(0, .box [aL cu8 z4, nI z5, nI z6]), (1, nI a1), (8, .box [nI 0, oL 27 Aj []]), (9, oL 27 Aj z7)] := by
  intro z4 z5 z6 z7 h σ' hk
  subst h
  replace h := hr1
  try dsimp only at h
  refine hK1 _ (lh hk rfl (rs (sp 2 rfl (?_))))
  obtain ⟨v14, g15, h⟩ := Aa h
  exact qC (qs rfl (qa rfl (erD Ca _) At)) (Fa g15) (sp 6 rfl (evn (rn 1 rfl (Af ((by cases h; exact ⟨.inl rfl, rfl, rfl⟩))))))
 refine As (fun (s : (List Int) × Int × Int × (List (List Int)) × Int) => match s with | (y1, y2, y3, y4, y5) => [(0, .box [aL cu8 y1, nI y2, nI y3]), (1, nI a1), (3, nI a3), (8, .box [nI 0, oL 27 Aj []]), (9, oL 27 Aj y4), (10, nI y5)]) _ _ _ _ hl (okr rfl) (fun _ => rfl) ?_
 rintro m ⟨y1, y2, y3, y4, y5⟩ N h hN
 unfold HT at h
 dsimp only at h
 refine Ac fun K8 hK8 => rn 1 rfl ?_
 rcases Ab h with ⟨g9, h⟩ | ⟨g9, h⟩
 ·refine qT rfl g9 (Ae (hK8 _ (Ac fun K10 hK10 => Aq (rg (sp 4 rfl (?_))))))
  obtain ⟨v11, g12, h⟩ := Aa h
  refine qP rfl rfl rfl rfl (qs rfl (qs rfl At)) (MW g12) (qBs Aj [v11.1] rfl rfl rfl AZ (?_))
  obtain ⟨g13, h⟩ := Ag h
  exact qA Aj y4 [v11.1] rfl rfl (Ao AZ [v11.1]) rfl g13 (sp 1 rfl (evn (hK10 _ (rg (sp 3 rfl (evn (hN _ _ h (okr rfl))))))))
 ·exact qF rfl g9 (Al (kXB1 (Option.some.inj h) _ (okr rfl)))
def DI (a0 : Y40) (a1 : List Int) (rec : (Int × Int) -> Option (Int)) (s : Int × Int) : Option (Int) := match s with
  | (y1, y2) => cond (decide (y1 < y2)) (Ad (AA a0.2 (IntKind.i64.wrap (Int.tdiv (IntKind.i64.wrap (y1 + y2)) 2))) fun e5 => Ad (A9 e5 a1) fun v7 => cond (decide (v7 < 0)) (rec ((IntKind.i64.wrap ((IntKind.i64.wrap (Int.tdiv (IntKind.i64.wrap (y1 + y2)) 2)) + 1)), y2)) (rec (y1, (IntKind.i64.wrap (Int.tdiv (IntKind.i64.wrap (y1 + y2)) 2))))) (some y1)
def FC (z2 : Int) (x11 : Bool) : Option (Int × Bool) := some (z2, x11)
def FH (a0 : Y40) (a1 : List Int) : Option (Int × Bool) := Ad (Ai (DI a0 a1) fz (0, (List.length a0.2 : Int))) fun z2 => cond (decide (z2 < (List.length a0.2 : Int))) (Ad (AA a0.2 z2) fun e13 => Ad (A9 e13 a1) fun v15 => FC z2 (v15 == 0)) (FC z2 false)
theorem Li {a0 : Y40} {a1 : List Int} {r : Int × Bool} (h : FH a0 a1 = some r) : Ah Tryz.prog 118 [.agg (Ek a0), dL An a1] (.tup [nI r.1, .bool r.2]) := by
 unfold FH at h
 refine st cb rfl (rn 3 rfl (Ac fun K1 hK1 => ?_))
 obtain ⟨o1, hl, hr1⟩ := Aa h
 have kXB1 : ∀ {z2 : Int}, z2 = o1 -> Jn K1 [(1, dL An a1), (2, .box [nI a0.1, dL Aw a0.2]), (6, nI z2)] := by
  intro z2 h σ' hk
  subst h
  replace h := hr1
  try dsimp only at h
  refine hK1 _ (lh hk rfl (rk fun K10 hK10 => ?_))
  have kJ2 : ∀ {x11 : Bool}, FC z2 x11 = some r -> Jn K10 [(4, nI z2), (5, .bool x11)] := by
   intro x11 h σ' hk
   unfold FC at h
   exact hK10 _ (lh hk rfl (Af ((by cases h; exact ⟨.inl rfl, rfl⟩))))
  refine sp 7 rfl (?_)
  rcases Ab h with ⟨g12, h⟩ | ⟨g12, h⟩
  ·refine qg 36 g12 rfl (sp 3 rfl (?_))
   obtain ⟨e13, g14, h⟩ := Aa h
   refine oGR rfl rfl (qI rfl AX g14 (sp 2 rfl (?_)))
   obtain ⟨v15, g16, h⟩ := Aa h
   exact oGR rfl rfl (qC (qa rfl (erD Ap _) (qa rfl (erD Ap _) At)) (BI g16) (sp 4 rfl (evn (kJ2 h _ (okr rfl)))))
  ·exact qg 36 g12 rfl (sp 11 rfl (evn (kJ2 h _ (okr rfl))))
 refine As (fun (s : Int × Int) => match s with | (y1, y2) => [(1, dL An a1), (2, .box [nI a0.1, dL Aw a0.2]), (6, nI y1), (7, nI y2)]) _ _ _ _ hl (okr rfl) (fun _ => rfl) ?_
 rintro m ⟨y1, y2⟩ N h hN
 unfold DI at h
 dsimp only at h
 refine Ac fun K3 hK3 => rn 1 rfl ?_
 rcases Ab h with ⟨g4, h⟩ | ⟨g4, h⟩
 ·refine qT rfl g4 (Ae (hK3 _ (Aq (rn 1 rfl (rs (sp 3 rfl (?_)))))))
  obtain ⟨e5, g6, h⟩ := Aa h
  refine qI rfl AX g6 (sp 2 rfl (?_))
  obtain ⟨v7, g8, h⟩ := Aa h
  refine qC (qa rfl (erD Ap _) (qa rfl (erD Ap _) At)) (BI g8) (sp 1 rfl (evn ?_))
  rcases Ab h with ⟨g9, h⟩ | ⟨g9, h⟩
  ·exact qT rfl g9 (rg (sp 3 rfl (evn (hN _ _ h (okr rfl)))))
  ·exact qF rfl g9 (rg (sp 2 rfl (evn (hN _ _ h (okr rfl)))))
 ·exact qF rfl g4 (Al (kXB1 (Option.some.inj h) _ (okr rfl)))
def Hc (a0 : Y40) (a1 : List Int) : Option (Y40 × Bool) := Ad (GK a0) fun v1 => Ad (AG a0) fun v4 => cond (!v4) (some (v1, false)) (cond ((List.length a1 : Int) != a0.1) (some (v1, false)) (Ad (Cq a1) fun v8 => cond (!v8) (some (v1, false)) (Ad (FH a0 a1) fun v11 => cond v11.2 (some (v1, false)) (cond ((List.length a0.2 : Int) == 4000) (some (v1, false)) (chk (List.length ([] : List Int) + List.length a1 <= lim) (chk ((0 : Int) <= v11.1 ∧ v11.1 <= (List.length v1.2 : Int) ∧ (List.length v1.2 : Int) <= (List.length v1.2 : Int)) (chk (List.length ([([] : List Int) ++ a1]) + List.length (A7 v1.2 v11.1 (List.length v1.2 : Int)) <= lim) (chk ((0 : Int) <= 0 ∧ 0 <= v11.1 ∧ v11.1 <= (List.length v1.2 : Int)) (chk (List.length ([] : List (List Int)) + List.length (A7 v1.2 0 v11.1) <= lim) (chk (List.length (([] : List (List Int)) ++ (A7 v1.2 0 v11.1)) + List.length (([([] : List Int) ++ a1]) ++ (A7 v1.2 v11.1 (List.length v1.2 : Int))) <= lim) (some ((v1.1, (([] : List (List Int)) ++ (A7 v1.2 0 v11.1)) ++ (([([] : List Int) ++ a1]) ++ (A7 v1.2 v11.1 (List.length v1.2 : Int)))), true))))))))))))
theorem Nd {a0 : Y40} {a1 : List Int} {r : Y40 × Bool} (h : Hc a0 a1 = some r) : Ah Tryz.prog 79 [.agg (Ek a0), dL An a1] (.tup [.agg (Ek r.1), .bool r.2]) := by
 unfold Hc at h
 refine st jg rfl (rn 1 rfl (rs (sp 1 rfl (?_))))
 obtain ⟨v1, g2, h⟩ := Aa h
 refine qC (qa rfl (erg (erc rfl (erc (erD AJ _) rfl))) At) (IL g2) (sp 2 rfl (evn (Ac fun K3 hK3 => rs (sp 1 rfl (?_)))))
 obtain ⟨v4, g5, h⟩ := Aa h
 refine qC (qa rfl (erg (erc rfl (erc (erD AJ _) rfl))) At) (AM g5) (sp 2 rfl (?_))
 rcases Ab h with ⟨g6, h⟩ | ⟨g6, h⟩
 ·exact qg 15 g6 rfl (sp 11 rfl (evn (qT rfl rfl (rn 1 rfl (Ix [(4, .box [nI v1.1, dL Aw v1.2]), (5, .bool false)] ⟨(kb (cwr (cwe rfl (erO Ca _) cwn))), kr, trivial⟩ rfl (Af ((by cases h; exact ⟨.inl rfl, rfl⟩))))))))
 ·refine qg 15 g6 rfl (sp 7 rfl (?_))
  rcases Ab h with ⟨g7, h⟩ | ⟨g7, h⟩
  ·exact qg 22 g7 rfl (sp 4 rfl (evn (qT rfl rfl (rn 1 rfl (Ix [(4, .box [nI v1.1, dL Aw v1.2]), (5, .bool false)] ⟨(kb (cwr (cwe rfl (erO Ca _) cwn))), kr, trivial⟩ rfl (Af ((by cases h; exact ⟨.inl rfl, rfl⟩))))))))
  ·refine qg 22 g7 rfl (sp 1 rfl (?_))
   obtain ⟨v8, g9, h⟩ := Aa h
   refine oGR rfl rfl (qC (qa rfl (erD Ap _) At) (GC g9) (sp 2 rfl (evn ?_)))
   rcases Ab h with ⟨g10, h⟩ | ⟨g10, h⟩
   ·exact qT rfl g10 (rn 1 rfl (Ix [(4, .box [nI v1.1, dL Aw v1.2]), (5, .bool false)] ⟨(kb (cwr (cwe rfl (erO Ca _) cwn))), kr, trivial⟩ rfl (Af ((by cases h; exact ⟨.inl rfl, rfl⟩)))))
   ·refine qF rfl g10 (Ae (hK3 _ (rs (sp 2 rfl (?_)))))
    obtain ⟨v11, g12, h⟩ := Aa h
    refine qC (qa rfl (erg (erc rfl (erc (erD AJ _) rfl))) (qa rfl (erD Ap _) At)) (Li g12) (sp 5 rfl (evn (Ac fun K13 hK13 => rs (sp 2 rfl (?_)))))
    rcases Ab h with ⟨g14, h⟩ | ⟨g14, h⟩
    ·exact qg 35 g14 rfl (sp 5 rfl (evn (qT rfl rfl (rn 1 rfl (Ix [(4, .box [nI v1.1, dL Aw v1.2]), (5, .bool false)] ⟨(kb (cwr (cwe rfl (erO Ca _) cwn))), kr, trivial⟩ rfl (Af ((by cases h; exact ⟨.inl rfl, rfl⟩))))))))
    ·refine qg 35 g14 rfl (sp 5 rfl (evn ?_))
     rcases Ab h with ⟨g15, h⟩ | ⟨g15, h⟩
     ·exact qT rfl g15 (rn 1 rfl (Ix [(4, .box [nI v1.1, dL Aw v1.2]), (5, .bool false)] ⟨(kb (cwr (cwe rfl (erO Ca _) cwn))), kr, trivial⟩ rfl (Af ((by cases h; exact ⟨.inl rfl, rfl⟩)))))
     ·refine qF rfl g15 (Ae (hK13 _ (rd (by kernel_rfl) (ed rfl (qBs An [] rfl rfl rfl Ar (sd 1 rfl (?_)))))))
      obtain ⟨g16, h⟩ := Ag h
      refine ed rfl (qA An ([] : List Int) a1 rfl rfl (Ao Ar a1) (Gi (fun _ => rfl) _) g16 (ed rfl (qBs Aj [([] : List Int) ++ a1] rfl rfl rfl AZ (sd 3 rfl (?_)))))
      obtain ⟨g17, h⟩ := Ag h
      refine ed rfl (qSl rfl AZ g17 (?_))
      obtain ⟨g18, h⟩ := Ag h
      refine ed rfl (qAd Aj Aw Aw ([([] : List Int) ++ a1]) (A7 v1.2 v11.1 (List.length v1.2 : Int)) rfl rfl (Ao AZ (A7 v1.2 v11.1 (List.length v1.2 : Int))) (Gi (fun _ => rfl) _) g18 (fun _ => rfl) (fun _ => rfl) (fun _ => rfl) (fun _ => rfl) (sd 1 rfl (Cy (rs (qBs Aj [] rfl rfl rfl AZ (sp 3 rfl (?_)))))))
      obtain ⟨g19, h⟩ := Ag h
      refine qSl rfl AZ g19 (?_)
      obtain ⟨g20, h⟩ := Ag h
      refine qA Aw ([] : List (List Int)) (A7 v1.2 0 v11.1) rfl rfl (Ao AZ (A7 v1.2 0 v11.1)) (Gi (fun _ => rfl) _) g20 (sp 1 rfl (?_))
      obtain ⟨g21, h⟩ := Ag h
      exact qA Aw (([] : List (List Int)) ++ (A7 v1.2 0 v11.1)) (([([] : List Int) ++ a1]) ++ (A7 v1.2 v11.1 (List.length v1.2 : Int))) rfl rfl (Ao AX (([([] : List Int) ++ a1]) ++ (A7 v1.2 v11.1 (List.length v1.2 : Int)))) rfl g21 (sp 2 rfl (evn (rn 1 rfl (Ix [(4, .box [nI v1.1, dL Aw ((([] : List (List Int)) ++ (A7 v1.2 0 v11.1)) ++ (([([] : List Int) ++ a1]) ++ (A7 v1.2 v11.1 (List.length v1.2 : Int))))]), (5, .bool true)] ⟨(kb (cwr (cwe rfl (erO AJ _) cwn))), kr, trivial⟩ rfl (Af ((by cases h; exact ⟨.inl rfl, rfl⟩)))))))
def Hs (a0 : Y98) (a1 : List (List UInt8)) : Option ((List UInt8) × Y98) := Ad (AV a0 (List.length a1 : Int)) fun v1 => Ad (AA a1 v1.1) fun e3 => some (e3, v1.2)
theorem J3 {a0 : Y98} {a1 : List (List UInt8)} {r : (List UInt8) × Y98} (h : Hs a0 a1 = some r) : Jm Tryz.prog 80 [aL cu8 a0.1, nI a0.2.1, nI a0.2.2] [dL cst a1] [aL cu8 r.2.1, nI r.2.2.1, nI r.2.2.2] (.str r.1) := by
 unfold Hs at h
 refine stp jh rfl (rn 1 rfl (rs (sp 4 rfl (?_))))
 obtain ⟨v1, g2, h⟩ := Aa h
 refine qP rfl rfl rfl rfl (qs rfl At) (AN g2) (?_)
 obtain ⟨e3, g4, h⟩ := Aa h
 exact qI rfl O8 g4 (sp 2 rfl (evn (Af ((by cases h; exact ⟨.inl rfl, rfl, rfl⟩)))))
def DA (a0 : Y98) (a1 : List Int) : Option (Int × Y98) := Ad (AV a0 (List.length a1 : Int)) fun v1 => Ad (AA a1 v1.1) fun e3 => some (e3, v1.2)
theorem F3 {a0 : Y98} {a1 : List Int} {r : Int × Y98} (h : DA a0 a1 = some r) : Jm Tryz.prog 62 [aL cu8 a0.1, nI a0.2.1, nI a0.2.2] [dL An a1] [aL cu8 r.2.1, nI r.2.2.1, nI r.2.2.2] (nI r.1) := by
 unfold DA at h
 refine stp iU rfl (rn 1 rfl (rs (sp 4 rfl (?_))))
 obtain ⟨v1, g2, h⟩ := Aa h
 refine qP rfl rfl rfl rfl (qs rfl At) (AN g2) (?_)
 obtain ⟨e3, g4, h⟩ := Aa h
 exact qI rfl Ar g4 (sp 2 rfl (evn (Af ((by cases h; exact ⟨.inl rfl, rfl, rfl⟩)))))
theorem Pm (x : List Int) : HV (Aj x) = true := (dcc (dco (fun _ => rfl) 3 _) dcn)
def Fb (x8 : List Int) (x9 : Int) (x10 : Int) (x11 : Int) (x12 : List (List Int)) : Option (Y40 × Y98) := some ((x11, x12), (x8, x9, x10))
def HS (v3 : Y40 × Y98) (v6 : Int × Y98) (x23 : Bool) : Option (Y40 × Y98) := cond x23 (chk (0 < List.length v3.1.2) (Ad (AA v3.1.2 0) fun e27 => chk (0 < List.length e27) (Ad (AA v3.1.2 0) fun e31 => Ad (DA v6.2 [-1, 100, 99]) fun v33 => Ad (AA e27 0) fun e35 => Fb v33.2.1 v33.2.2.1 v33.2.2.2 v3.1.1 (It v3.1.2 0 (It e27 0 v33.1))))) (Fb v6.2.1 v6.2.2.1 v6.2.2.2 v3.1.1 v3.1.2)
def IQ (a0 : Y98) : Option (Y40 × Y98) := Ad (AV a0 4) fun v1 => Ad (GU v1.2 v1.1 6 4) fun v3 => Ad (AV v3.2 14) fun v6 => cond (v6.1 == 0) (Ad (DA v6.2 [-1, 6, IntKind.i64.wrap (v3.1.1 + 1)]) fun v14 => Fb v14.2.1 v14.2.2.1 v14.2.2.2 v14.1 v3.1.2) (cond (v6.1 == 1) (Ad (IP v6.2 (if 0 < v3.1.1 then v3.1.1 else 0) 4) fun v18 => chk (List.length v3.1.2 + List.length [v18.1] <= lim) (Fb v18.2.1 v18.2.2.1 v18.2.2.2 v3.1.1 (v3.1.2 ++ [v18.1]))) (cond (v6.1 == 2) (cond (decide (0 < (List.length v3.1.2 : Int))) (HS v3 v6 (decide (0 < v3.1.1))) (HS v3 v6 false)) (Fb v6.2.1 v6.2.2.1 v6.2.2.2 v3.1.1 v3.1.2)))
theorem MX {a0 : Y98} {r : Y40 × Y98} (h : IQ a0 = some r) : Jm Tryz.prog 81 [aL cu8 a0.1, nI a0.2.1, nI a0.2.2] [] [aL cu8 r.2.1, nI r.2.2.1, nI r.2.2.2] (.agg (Ht r.1)) := by
 unfold IQ at h
 refine stp ji rfl (rn 1 rfl (rs (sp 2 rfl (?_))))
 obtain ⟨v1, g2, h⟩ := Aa h
 refine qP rfl rfl rfl rfl (qs rfl At) (AN g2) (?_)
 obtain ⟨v3, g4, h⟩ := Aa h
 refine qP rfl rfl rfl rfl (qs rfl (qs rfl (qs rfl At))) (Jk g4) (sp 2 rfl (evn (Ac fun K5 hK5 => rs (sp 1 rfl (?_)))))
 obtain ⟨v6, g7, h⟩ := Aa h
 refine qP rfl rfl rfl rfl (qs rfl At) (AN g7) (evn (Aq (rn 1 rfl ?_)))
 have kJ1 : ∀ {x8 : List Int} {x9 : Int} {x10 : Int} {x11 : Int} {x12 : List (List Int)}, Fb x8 x9 x10 x11 x12 = some r -> Jn K5 [(0, .box [aL cu8 x8, nI x9, nI x10]), (2, .box [nI 0, oL 27 Aj []]), (3, .box [nI x11, oL 27 Aj x12])] := by
  intro x8 x9 x10 x11 x12 h σ' hk
  unfold Fb at h
  exact hK5 _ (lh hk rfl (rn 1 rfl (Af ((by cases h; exact ⟨.inl rfl, rfl, rfl⟩)))))
 rcases Ab h with ⟨g13, h⟩ | ⟨g13, h⟩
 ·refine qT rfl g13 (rg (sp 4 rfl (qBs An [-1, 6, IntKind.i64.wrap (v3.1.1 + 1)] rfl rfl rfl Ar (?_))))
  obtain ⟨v14, g15, h⟩ := Aa h
  exact qP rfl rfl rfl rfl (qa rfl (erO Ap _) At) (F3 g15) (sp 2 rfl (evn (kJ1 h _ (okr rfl))))
 ·refine qF rfl g13 (rn 1 rfl ?_)
  rcases Ab h with ⟨g16, h⟩ | ⟨g16, h⟩
  ·refine qT rfl g16 (qk [0, 2, 3] rfl (Ks (kA (q := 900003) (b := 3) [nI v3.1.1] [] rfl rfl rfl ?_)))
   intro gg17
   refine qk [0, 2, 3, 900003] rfl (rgt 8 (by kernel_rfl) (sd 6 rfl (?_)))
   obtain ⟨v18, g19, h⟩ := Aa h
   refine ed rfl (qP rfl rfl rfl rfl (qs rfl (qs rfl At)) (MW g19) (ed rfl (qBs Aj [v18.1] rfl rfl rfl AZ (Cy (gDs (q := 900003) (b := 22) rfl rfl rfl rfl ?_)))))
   obtain ⟨g20, h⟩ := Ag h
   exact qA Aj v3.1.2 [v18.1] rfl rfl (Ao AZ [v18.1]) rfl g20 (sp 2 rfl (evn (kJ1 h _ (okr rfl))))
  ·refine qF rfl g16 (rn 1 rfl ?_)
   rcases Ab h with ⟨g21, h⟩ | ⟨g21, h⟩
   ·refine qT rfl g21 (rk fun K22 hK22 => ?_)
    have kJ2 : ∀ {x23 : Bool}, HS v3 v6 x23 = some r -> Jn K22 [(0, .box (Rk v6.2)), (2, .box [nI 0, oL 27 Aj []]), (3, .box [nI v3.1.1, oL 27 Aj v3.1.2]), (41, .bool x23)] := by
     intro x23 h σ' hk
     unfold HS at h
     refine hK22 _ (lh hk rfl ?_)
     rcases Ab h with ⟨g24, h⟩ | ⟨g24, h⟩
     ·refine qT rfl g24 (qk [0, 2, 3] rfl ?_)
      obtain ⟨g25, h⟩ := Ag h
      refine Ks (gLb (q := 900004) (b := 3) [nI v3.1.1] [] rfl rfl rfl g25 ?_)
      intro gg26 mm26
      refine qk [0, 2, 3, 900004] rfl ?_
      obtain ⟨e27, g28, h⟩ := Aa h
      obtain ⟨g29, h⟩ := Ag h
      refine Ks (gLg (i := 0) (es := 1) 0 rfl rfl AZ g28 rfl rfl g29 ?_)
      intro gg30 mm30
      refine qk [0, 2, 3, 900003, 900004] rfl (LZ (LZ (rgt 7 (by kernel_rfl) (sd 2 rfl (?_)))))
      obtain ⟨e31, g32, h⟩ := Aa h
      refine ed rfl (qIt rfl rfl rfl rfl g32 (?_))
      refine ed rfl (qLh rfl rfl rfl rfl rfl rfl (gk AZ g32 rfl) (?_))
      refine sd 1 rfl (ed rfl (qBs An [-1, 100, 99] rfl rfl rfl Ar (?_)))
      obtain ⟨v33, g34, h⟩ := Aa h
      refine ed rfl (qP rfl rfl rfl rfl (qa rfl (erO Ap _) At) (F3 g34) (Cy (Rx ?_)))
      obtain ⟨e35, g36, h⟩ := Aa h
      refine qIt rfl rfl rfl rfl g36 (?_)
      refine qSt (y0 := e35) (i := 0) (es := 1) 0 v33.1 [0, 2, 3, 900004] rfl rfl rfl rfl rfl rfl rfl rfl rfl rfl Ar g36 (fun _ => rfl) (sdL (dcc rfl dcn)) (yc (snc (sA (aca (fun _ => rfl) _)) (snc rfl (snc rfl rfl))) (yc (snc rfl (snc rfl rfl)) (yc (snc rfl (snc rfl rfl)) (yc (sgh (sdL (dcf Pm _))) yn)))) (?_)
      exact evn (gDg (i := 0) (es := 1) 0 (It e27 0 v33.1) rfl rfl AZ g28 rfl (sl rfl) rfl (gDb (q := 900004) (b := 3) [nI v3.1.1] [] rfl rfl rfl (sl rfl) (kJ1 h _ (okr rfl))))
     ·exact qF rfl g24 (Ae (kJ1 h _ (okr rfl)))
    refine sp 5 rfl (?_)
    rcases Ab h with ⟨g37, h⟩ | ⟨g37, h⟩
    ·exact qg 37 g37 rfl (sp 4 rfl (evn (kJ2 h _ (okr rfl))))
    ·exact qg 37 g37 rfl (sp 4 rfl (evn (kJ2 h _ (okr rfl))))
   ·exact qF rfl g21 (Ae (kJ1 h _ (okr rfl)))
abbrev Y42 := (List UInt8) × Y40 × Y40
abbrev AU := (List UInt8) × Y40
def AE (x : AU) : List V := [.str x.1, nI x.2.1, dL Aw x.2.2]
theorem C2 (x : AU) : (AE x).length = 3 := rfl
theorem AP (x : AU) : erL (AE x) = AE x := (erc rfl (erc rfl (erc (erD AJ _) rfl)))
def GN (x : Y42) : List V := [.str x.1, nI x.2.1.1, dL Aw x.2.1.2, nI x.2.2.1, dL Aw x.2.2.2]
theorem ff (x : Y42) : (GN x).length = 5 := rfl
theorem aY (x : Y42) : erL (GN x) = GN x := (erc rfl (erc rfl (erc (erD AJ _) (erc rfl (erc (erD AJ _) rfl)))))
def Nk (x : Y42) : List V := [.str x.1, nI x.2.1.1, oL 27 Aj x.2.1.2, nI x.2.2.1, dL Aw x.2.2.2]
theorem fg (x : Y42) : (Nk x).length = 5 := rfl
theorem aZ (x : Y42) : erL (Nk x) = GN x := (erc rfl (erc rfl (erc (erO Ca _) (erc rfl (erc (erD AJ _) rfl)))))
def EY (rec : ((List Int) × Int × Int × Int × (List (List Int)) × Int) -> Option ((List Int) × Int × Int × Int × (List (List Int)))) (y6 : Int) (x21 : List Int) (x22 : Int) (x23 : Int) (x25 : Int) (x26 : List (List Int)) : Option ((List Int) × Int × Int × Int × (List (List Int))) := rec (x21, x22, x23, x25, x26, (IntKind.i64.wrap (y6 + 1)))
def DW (rec : ((List Int) × Int × Int × Int × (List (List Int)) × Int) -> Option ((List Int) × Int × Int × Int × (List (List Int)))) (e5 : AU) (y4 : Int) (y5 : List (List Int)) (y6 : Int) (x21 : List Int) (x22 : Int) (x23 : Int) (x24 : Bool) : Option ((List Int) × Int × Int × Int × (List (List Int))) := cond x24 (Ad (AA e5.2.2 y6) fun e28 => Ad (Hc (y4, y5) e28) fun v30 => EY rec y6 x21 x22 x23 v30.1.1 v30.1.2) (EY rec y6 x21 x22 x23 y4 y5)
def BQ (e5 : AU) (rec : ((List Int) × Int × Int × Int × (List (List Int)) × Int) -> Option ((List Int) × Int × Int × Int × (List (List Int)))) (s : (List Int) × Int × Int × Int × (List (List Int)) × Int) : Option ((List Int) × Int × Int × Int × (List (List Int))) := match s with
  | (y1, y2, y3, y4, y5, y6) => cond (decide (y6 < (List.length e5.2.2 : Int))) (Ad (FU (y1, y2, y3) 3) fun v32 => cond v32.1 (Ad (AA e5.2.2 y6) fun e35 => DW rec e5 y4 y5 y6 v32.2.1 v32.2.2.1 v32.2.2.2 ((List.length e35 : Int) == (if 0 < (if e5.2.1 < 5 then e5.2.1 else 5) then (if e5.2.1 < 5 then e5.2.1 else 5) else 0))) (DW rec e5 y4 y5 y6 v32.2.1 v32.2.2.1 v32.2.2.2 false)) (some (y1, y2, y3, y4, y5))
def F5 (z15 : Int) (z16 : List (List Int)) (x40 : List Int) (x41 : Int) (x42 : Int) (x43 : List UInt8) (x44 : Int) (x45 : List (List Int)) : Option (Y42 × Y98) := some ((x43, (x44, x45), (z15, z16)), (x40, x41, x42))
def GS (a0 : Y98) (a1 : List AU) : Option (Y42 × Y98) := cond ((List.length a1 : Int) == 0) (some (([114], (0, []), (0, [])), a0)) (Ad (AV a0 (List.length a1 : Int)) fun v3 => Ad (AA a1 v3.1) fun e5 => Ad (GU v3.2 (if 0 < (if e5.2.1 < 5 then e5.2.1 else 5) then (if e5.2.1 < 5 then e5.2.1 else 5) else 0) 3 4) fun v7 => Ad (GU v7.2 (if 0 < (if e5.2.1 < 5 then e5.2.1 else 5) then (if e5.2.1 < 5 then e5.2.1 else 5) else 0) 2 4) fun v9 => Ad (Ai (BQ e5) fz (v9.2.1, v9.2.2.1, v9.2.2.2, v9.1.1, v9.1.2, 0)) fun o1 => (match o1 with
  | (z12, z13, z14, z15, z16) => (Ad (AV (z12, z13, z14) 14) fun v38 => cond (v38.1 == 0) (Ad (Hs v38.2 ([[], [119], [115]])) fun v47 => F5 z15 z16 v47.2.1 v47.2.2.1 v47.2.2.2 v47.1 v7.1.1 v7.1.2) (cond (v38.1 == 1) (Ad (IQ v38.2) fun v50 => F5 z15 z16 v50.2.1 v50.2.2.1 v50.2.2.2 e5.1 v50.1.1 v50.1.2) (F5 z15 z16 v38.2.1 v38.2.2.1 v38.2.2.2 e5.1 v7.1.1 v7.1.2)))))
theorem KH {a0 : Y98} {a1 : List AU} {r : Y42 × Y98} (h : GS a0 a1 = some r) : Jm Tryz.prog 43 [aL cu8 a0.1, nI a0.2.1, nI a0.2.2] [.agg [dL AE a1]] [aL cu8 r.2.1, nI r.2.2.1, nI r.2.2.2] (.agg (Nk r.1)) := by
 unfold GS at h
 refine stp iM rfl (rn 1 rfl (Ac fun K1 hK1 => rn 1 rfl ?_))
 rcases Ab h with ⟨g2, h⟩ | ⟨g2, h⟩
 ·exact qT rfl g2 (rn 1 rfl (Ix [(0, .box (Rk a0)), (4, .box [.str [114], nI 0, oL 27 Aj [], nI 0, dL Aw []])] ⟨kr, (kb (cwr (cwr (cwr (cwr (cwe rfl rfl cwn)))))), trivial⟩ rfl (Af ((by cases h; exact ⟨.inl rfl, rfl, rfl⟩)))))
 ·refine qF rfl g2 (Ae (hK1 _ (rd (by kernel_rfl) (sd 6 rfl (?_)))))
  obtain ⟨v3, g4, h⟩ := Aa h
  refine ed rfl (qP rfl rfl rfl rfl (qs rfl At) (AN g4) (?_))
  obtain ⟨e5, g6, h⟩ := Aa h
  refine ed rfl (qI rfl C2 g6 (sd 3 rfl (Cy (rn 1 rfl (rd (by kernel_rfl) (sd 4 rfl (?_)))))))
  obtain ⟨v7, g8, h⟩ := Aa h
  refine ed rfl (qP rfl rfl rfl rfl (qs rfl (qs rfl (qs rfl At))) (Jk g8) (sd 2 rfl (?_)))
  obtain ⟨v9, g10, h⟩ := Aa h
  refine ed rfl (qP rfl rfl rfl rfl (qs rfl (qs rfl (qs rfl At))) (Jk g10) (sd 3 rfl (Cy (Ac fun K11 hK11 => rn 1 rfl ?_))))
  obtain ⟨o1, hl, hr1⟩ := Aa h
  have kXB1 : ∀ {z12 : List Int} {z13 : Int} {z14 : Int} {z15 : Int} {z16 : List (List Int)}, (z12, z13, z14, z15, z16) = o1 -> Jn K11 [(0, .box [aL cu8 z12, nI z13, nI z14]), (4, .box [.str [], nI 0, oL 27 Aj [], nI 0, oL 27 Aj []]), (7, .box [.str e5.1, nI v7.1.1, oL 27 Aj v7.1.2, nI z15, dL Aw z16])] := by
   intro z12 z13 z14 z15 z16 h σ' hk
   subst h
   replace h := hr1
   try dsimp only at h
   refine hK11 _ (lh hk rfl (Ac fun K37 hK37 => rs (sp 1 rfl (?_))))
   obtain ⟨v38, g39, h⟩ := Aa h
   refine qP rfl rfl rfl rfl (qs rfl At) (AN g39) (evn (Aq (rn 1 rfl ?_)))
   have kJ4 : ∀ {x40 : List Int} {x41 : Int} {x42 : Int} {x43 : List UInt8} {x44 : Int} {x45 : List (List Int)}, F5 z15 z16 x40 x41 x42 x43 x44 x45 = some r -> Jn K37 [(0, .box [aL cu8 x40, nI x41, nI x42]), (4, .box [.str [], nI 0, oL 27 Aj [], nI 0, oL 27 Aj []]), (7, .box [.str x43, nI x44, oL 27 Aj x45, nI z15, dL Aw z16])] := by
    intro x40 x41 x42 x43 x44 x45 h σ' hk
    unfold F5 at h
    exact hK37 _ (lh hk rfl (rn 1 rfl (Af ((by cases h; exact ⟨.inl rfl, rfl, rfl⟩)))))
   rcases Ab h with ⟨g46, h⟩ | ⟨g46, h⟩
   ·refine qT rfl g46 (rg (sp 1 rfl (qBs cst [[], [119], [115]] rfl rfl rfl O8 (?_))))
    obtain ⟨v47, g48, h⟩ := Aa h
    exact qP rfl rfl rfl rfl (qa rfl (erO gK _) At) (J3 g48) (sp 2 rfl (evn (kJ4 h _ (okr rfl))))
   ·refine qF rfl g46 (rn 1 rfl ?_)
    rcases Ab h with ⟨g49, h⟩ | ⟨g49, h⟩
    ·refine qT rfl g49 (rg (sp 1 rfl (?_)))
     obtain ⟨v50, g51, h⟩ := Aa h
     exact qP rfl rfl rfl rfl At (MX g51) (sp 2 rfl (evn (kJ4 h _ (okr rfl))))
    ·exact qF rfl g49 (Ae (kJ4 h _ (okr rfl)))
  refine As (fun (s : (List Int) × Int × Int × Int × (List (List Int)) × Int) => match s with | (y1, y2, y3, y4, y5, y6) => [(0, .box [aL cu8 y1, nI y2, nI y3]), (4, .box [.str [], nI 0, oL 27 Aj [], nI 0, oL 27 Aj []]), (5, .box [.str e5.1, nI e5.2.1, dL Aw e5.2.2]), (6, nI (if 0 < (if e5.2.1 < 5 then e5.2.1 else 5) then (if e5.2.1 < 5 then e5.2.1 else 5) else 0)), (7, .box [.str e5.1, nI v7.1.1, oL 27 Aj v7.1.2, nI y4, dL Aw y5]), (8, nI y6)]) _ _ _ _ hl ⟨kr, kr, kr, kr, (kb (cwr (cwr (cwr (cwr (cwe rfl (erO Ca _) cwn)))))), kr, trivial⟩ (fun _ => rfl) ?_
  rintro m ⟨y1, y2, y3, y4, y5, y6⟩ N h hN
  unfold BQ at h
  dsimp only at h
  refine Ac fun K17 hK17 => rn 1 rfl ?_
  rcases Ab h with ⟨g18, h⟩ | ⟨g18, h⟩
  ·refine qT rfl g18 (Ae (hK17 _ (Ac fun K19 hK19 => Aq (rk fun K20 hK20 => ?_))))
   have kJ2 : ∀ {x21 : List Int} {x22 : Int} {x23 : Int} {x24 : Bool}, DW (Ai (BQ e5) m) e5 y4 y5 y6 x21 x22 x23 x24 = some o1 -> Jn K20 [(0, .box [aL cu8 x21, nI x22, nI x23]), (4, .box [.str [], nI 0, oL 27 Aj [], nI 0, oL 27 Aj []]), (5, .box [.str e5.1, nI e5.2.1, dL Aw e5.2.2]), (6, nI (if 0 < (if e5.2.1 < 5 then e5.2.1 else 5) then (if e5.2.1 < 5 then e5.2.1 else 5) else 0)), (7, .box [.str e5.1, nI v7.1.1, oL 27 Aj v7.1.2, nI y4, dL Aw y5]), (8, nI y6), (57, .bool x24)] := by
    intro x21 x22 x23 x24 h σ' hk
    unfold DW at h
    refine hK20 _ (lh hk rfl ?_)
    have kJ3 : ∀ {x25 : Int} {x26 : List (List Int)}, EY (Ai (BQ e5) m) y6 x21 x22 x23 x25 x26 = some o1 -> Jn K19 [(0, .box [aL cu8 x21, nI x22, nI x23]), (4, .box [.str [], nI 0, oL 27 Aj [], nI 0, oL 27 Aj []]), (5, .box [.str e5.1, nI e5.2.1, dL Aw e5.2.2]), (6, nI (if 0 < (if e5.2.1 < 5 then e5.2.1 else 5) then (if e5.2.1 < 5 then e5.2.1 else 5) else 0)), (7, .box [.str e5.1, nI v7.1.1, oL 27 Aj v7.1.2, nI x25, dL Aw x26]), (8, nI y6)] := by
     intro x25 x26 h σ' hk
     unfold EY at h
     exact hK19 _ (lh hk rfl (rg (sp 3 rfl (evn (hN _ _ h (okr rfl))))))
    rcases Ab h with ⟨g27, h⟩ | ⟨g27, h⟩
    ·refine qT rfl g27 (rgd (by kernel_rfl) (sd 6 rfl (?_)))
     obtain ⟨e28, g29, h⟩ := Aa h
     refine ed rfl (qI rfl AX g29 (sd 1 rfl (?_)))
     obtain ⟨v30, g31, h⟩ := Aa h
     exact ed rfl (qC (qa rfl (erg (erc rfl (erc (erD AJ _) rfl))) (qa rfl (erD Ap _) At)) (Nd g31) (sd 5 rfl (Cy (kJ3 h _ (okr rfl)))))
    ·exact qF rfl g27 (Ae (kJ3 h _ (okr rfl)))
   refine sp 1 rfl (?_)
   obtain ⟨v32, g33, h⟩ := Aa h
   refine qP rfl rfl rfl rfl (qs rfl At) (HO g33) (sp 1 rfl (?_))
   rcases Ab h with ⟨g34, h⟩ | ⟨g34, h⟩
   ·refine qg 47 g34 rfl (sp 4 rfl (?_))
    obtain ⟨e35, g36, h⟩ := Aa h
    exact oGR rfl rfl (qI rfl AX g36 (sp 5 rfl (evn (kJ2 h _ (okr rfl)))))
   ·exact qg 47 g34 rfl (sp 10 rfl (evn (kJ2 h _ (okr rfl))))
  ·exact qF rfl g18 (Al (kXB1 (Option.some.inj h) _ (okr rfl)))
def AO (x : AU) : List V := [.str x.1, nI x.2.1, oL 27 Aj x.2.2]
theorem Ea (x : AU) : (AO x).length = 3 := rfl
theorem LI (x : AU) : erL (AO x) = AE x := (erc rfl (erc rfl (erc (erO Ca _) rfl)))
theorem Kj (x : AU) : HV (AO x) = true := (dcc rfl (dcc rfl (dcc (dco Pm 27 _) dcn)))
def Hy (rec : ((List Int) × Int × Int × (List AU) × Int) -> Option ((List Int) × Int × Int × (List AU))) (v1 : Int × Y98) (y1 : List Int) (y2 : Int) (y3 : Int) (y4 : List AU) (y5 : Int) (e11 : List UInt8) (x14 : Int) : Option ((List Int) × Int × Int × (List AU)) := Ad (DA (y1, y2, y3) [3, 6, 9]) fun v15 => Ad (GU v15.2 x14 v15.1 v1.1) fun v17 => chk (List.length y4 + List.length [(e11, v17.1)] <= lim) (rec (v17.2.1, v17.2.2.1, v17.2.2.2, (y4 ++ [(e11, v17.1)]), (IntKind.i64.wrap (y5 + 1))))
def GL (v1 : Int × Y98) (rec : ((List Int) × Int × Int × (List AU) × Int) -> Option ((List Int) × Int × Int × (List AU))) (s : (List Int) × Int × Int × (List AU) × Int) : Option ((List Int) × Int × Int × (List AU)) := match s with
  | (y1, y2, y3, y4, y5) => cond (decide (y5 < (List.length ([[114], [115], [116], [117], [118]]) : Int))) (Ad (AA ([[114], [115], [116], [117], [118]]) y5) fun e11 => cond (e11 == [118]) (Hy rec v1 y1 y2 y3 y4 y5 e11 3) (Hy rec v1 y1 y2 y3 y4 y5 e11 2)) (some (y1, y2, y3, y4))
def Ip (x24 : List Int) (x25 : Int) (x26 : Int) (x27 : List AU) : Option ((List AU) × Y98) := some (x27, (x24, x25, x26))
def JN (a0 : Y98) : Option ((List AU) × Y98) := Ad (DA a0 [2, 3, 4, 6]) fun v1 => Ad (Ai (GL v1) fz (v1.2.1, v1.2.2.1, v1.2.2.2, ([] : List AU), 0)) fun o1 => (match o1 with
  | (z4, z5, z6, z7) => (Ad (FU (z4, z5, z6) 8) fun v22 => cond v22.1 (chk (0 < List.length z7) (Ad (AV v22.2 5) fun v31 => Ad (AA z7 v31.1) fun e33 => Ip v31.2.1 v31.2.2.1 v31.2.2.2 (It z7 v31.1 (e33.1, (e33.2.1, []))))) (Ip v22.2.1 v22.2.2.1 v22.2.2.2 z7)))
theorem Ou {a0 : Y98} {r : (List AU) × Y98} (h : JN a0 = some r) : Jm Tryz.prog 60 [aL cu8 a0.1, nI a0.2.1, nI a0.2.2] [] [aL cu8 r.2.1, nI r.2.2.1, nI r.2.2.2] (.agg [oL 114 AO r.1]) := by
 unfold JN at h
 refine stp iS rfl (rn 1 rfl (rs (sp 1 rfl (qBk An [2, 3, 4, 6] 3 1 (by kernel_rfl) rfl Ar (?_)))))
 obtain ⟨v1, g2, h⟩ := Aa h
 refine qP rfl rfl rfl rfl (qa rfl (erO Ap _) At) (F3 g2) (sp 1 rfl (evn (rn 1 rfl (Ac fun K3 hK3 => rs (qBk cst [[114], [115], [116], [117], [118]] 9 1 (by kernel_rfl) rfl O8 (sp 2 rfl (evn ?_)))))))
 obtain ⟨o1, hl, hr1⟩ := Aa h
 have kXB1 : ∀ {z4 : List Int} {z5 : Int} {z6 : Int} {z7 : List AU}, (z4, z5, z6, z7) = o1 -> Jn K3 [(0, .box [aL cu8 z4, nI z5, nI z6]), (2, .box [oL 114 AO []]), (4, .box [oL 114 AO z7])] := by
  intro z4 z5 z6 z7 h σ' hk
  subst h
  replace h := hr1
  try dsimp only at h
  refine hK3 _ (lh hk rfl (Ac fun K21 hK21 => rs (sp 1 rfl (?_))))
  obtain ⟨v22, g23, h⟩ := Aa h
  refine qP rfl rfl rfl rfl (qs rfl At) (HO g23) (evn ?_)
  have kJ3 : ∀ {x24 : List Int} {x25 : Int} {x26 : Int} {x27 : List AU}, Ip x24 x25 x26 x27 = some r -> Jn K21 [(0, .box [aL cu8 x24, nI x25, nI x26]), (2, .box [oL 114 AO []]), (4, .box [oL 114 AO x27])] := by
   intro x24 x25 x26 x27 h σ' hk
   unfold Ip at h
   exact hK21 _ (lh hk rfl (rn 1 rfl (Af ((by cases h; exact ⟨.inl rfl, rfl, rfl⟩)))))
  rcases Ab h with ⟨g28, h⟩ | ⟨g28, h⟩
  ·refine qT rfl g28 (qk [0, 2, 4] rfl ?_)
   obtain ⟨g29, h⟩ := Ag h
   refine Ks (gLb (q := 900003) (b := 4) [] [] rfl rfl rfl g29 ?_)
   intro gg30 mm30
   refine qk [0, 2, 4, 900003] rfl (LZ (rgt 4 (by kernel_rfl) (sd 3 rfl (?_))))
   obtain ⟨v31, g32, h⟩ := Aa h
   refine ed rfl (qP rfl rfl rfl rfl (qs rfl At) (AN g32) (Cy (Rx ?_)))
   obtain ⟨e33, g34, h⟩ := Aa h
   refine qIt rfl rfl rfl rfl g34 (sp 2 rfl (?_))
   refine kU (y0 := e33) (i := v31.1) (es := 3) (e2 := 27) 2 (e33.1, (e33.2.1, [])) [0, 2, 4] rfl rfl rfl rfl rfl rfl rfl rfl Ea g34 (fun x => sdL (Kj x)) (yc (snc (sA (aca (fun _ => rfl) _)) (snc rfl (snc rfl rfl))) (yc (snc rfl rfl) (yc (snc rfl rfl) yn))) (?_)
   exact evn (gDb (q := 900003) (b := 4) [] [] rfl rfl rfl (sl rfl) (kJ3 h _ (okr rfl)))
  ·exact qF rfl g28 (Ae (kJ3 h _ (okr rfl)))
 refine As (fun (s : (List Int) × Int × Int × (List AU) × Int) => match s with | (y1, y2, y3, y4, y5) => [(0, .box [aL cu8 y1, nI y2, nI y3]), (2, .box [oL 114 AO []]), (3, nI v1.1), (4, .box [oL 114 AO y4]), (13, oL 9 cst ([[114], [115], [116], [117], [118]])), (14, nI (List.length ([[114], [115], [116], [117], [118]]) : Int)), (15, nI y5)]) _ _ _ _ hl (okr rfl) (fun _ => rfl) ?_
 rintro m ⟨y1, y2, y3, y4, y5⟩ N h hN
 unfold GL at h
 dsimp only at h
 refine rn 1 rfl (Ac fun K8 hK8 => ?_)
 rcases Ab h with ⟨g9, h⟩ | ⟨g9, h⟩
 ·refine qT rfl g9 (Ae (hK8 _ (Ac fun K10 hK10 => Aq (rs ?_))))
  obtain ⟨e11, g12, h⟩ := Aa h
  refine qI rfl O8 g12 (sp 2 rfl (evn (rn 1 rfl (Ac fun K13 hK13 => rn 1 rfl ?_))))
  have kJ2 : ∀ {x14 : Int}, Hy (Ai (GL v1) m) v1 y1 y2 y3 y4 y5 e11 x14 = some o1 -> Jn K13 [(0, .box [aL cu8 y1, nI y2, nI y3]), (2, .box [oL 114 AO []]), (3, nI v1.1), (4, .box [oL 114 AO y4]), (6, .str e11), (7, nI x14), (13, oL 9 cst ([[114], [115], [116], [117], [118]])), (14, nI (List.length ([[114], [115], [116], [117], [118]]) : Int)), (15, nI y5)] := by
   intro x14 h σ' hk
   unfold Hy at h
   refine hK13 _ (lh hk rfl (rs (sp 3 rfl (qBs An [3, 6, 9] rfl rfl rfl Ar (?_)))))
   obtain ⟨v15, g16, h⟩ := Aa h
   refine qP rfl rfl rfl rfl (qa rfl (erO Ap _) At) (F3 g16) (sp 1 rfl (?_))
   obtain ⟨v17, g18, h⟩ := Aa h
   refine qP rfl rfl rfl rfl (qs rfl (qs rfl (qs rfl At))) (Jk g18) (sp 2 rfl (evn (rg (sp 5 rfl (qBs AO [(e11, v17.1)] rfl rfl rfl Ea (?_))))))
   obtain ⟨g19, h⟩ := Ag h
   exact qA AO y4 [(e11, v17.1)] rfl rfl (Ao Ea [(e11, v17.1)]) rfl g19 (sp 2 rfl (evn (hK10 _ (rg (sp 2 rfl (evn (hN _ _ h (okr rfl))))))))
  rcases Ab h with ⟨g20, h⟩ | ⟨g20, h⟩
  ·exact qT rfl g20 (rg (sp 1 rfl (evn (kJ2 h _ (okr rfl)))))
  ·exact qF rfl g20 (Ae (kJ2 h _ (okr rfl)))
 ·exact qF rfl g9 (Al (kXB1 (Option.some.inj h) _ (okr rfl)))
def FR (a0 : List UInt8) (rec : Int -> Option (Sum (Unit) (Bool))) (y1 : Int) : Option (Sum (Unit) (Bool)) := cond (decide (y1 < (List.length a0 : Int))) (Ad (AA a0 y1) fun b5 => cond (decide ((UInt8.toNat b5 : Int) < 97)) (some (.inr false)) (Ad (AA a0 y1) fun b8 => cond (decide (122 < (UInt8.toNat b8 : Int))) (some (.inr false)) (rec (IntKind.i64.wrap (y1 + 1))))) (some (.inl ()))
def EW (a0 : List UInt8) : Option (Bool) := Ad (Ai (FR a0) fz 0) fun o1 => (match o1 with
  | .inl _ => (Ad (Dh (List.length a0 : Int) 1 4) fun v11 => some v11)
  | .inr r => some r)
theorem Jh {a0 : List UInt8} {r : Bool} (h : EW a0 = some r) : Ah Tryz.prog 76 [.str a0] (.bool r) := by
 unfold EW at h
 refine st jd rfl (rn 1 rfl (Ac fun K1 hK1 => rn 1 rfl ?_))
 obtain ⟨o1, hl, hr1⟩ := Aa h
 have kXB1 : (.inl ()) = o1 -> Jn K1 [(0, .str a0)] := by
  intro h σ' hk
  subst h
  replace h := hr1
  try dsimp only at h
  refine hK1 _ (lh hk rfl (rs (sp 2 rfl (?_))))
  obtain ⟨v11, g12, h⟩ := Aa h
  exact qC (qs rfl (qs rfl (qs rfl At))) (CJ g12) (sp 1 rfl (evn (Af ((by cases h; exact ⟨.inl rfl, rfl⟩)))))
 refine As (fun (y1 : Int) => [(0, .str a0), (3, nI y1)]) _ _ _ _ hl (okr rfl) (fun _ => rfl) ?_
 rintro m y1 N h hN
 unfold FR at h
 refine Ac fun K2 hK2 => rn 1 rfl ?_
 rcases Ab h with ⟨g3, h⟩ | ⟨g3, h⟩
 ·refine qT rfl g3 (Ae (hK2 _ (Ac fun K4 hK4 => Aq (rs (sp 2 rfl (?_))))))
  obtain ⟨b5, g6, h⟩ := Aa h
  refine qX rfl g6 (sp 2 rfl (?_))
  rcases Ab h with ⟨g7, h⟩ | ⟨g7, h⟩
  ·exact qg 14 g7 rfl (sp 5 rfl (evn (qT rfl rfl (rn 1 rfl (Af ((by cases h; cases hr1; exact ⟨.inl rfl, rfl⟩)))))))
  ·refine qg 14 g7 rfl (sp 2 rfl (?_))
   obtain ⟨b8, g9, h⟩ := Aa h
   refine oGR rfl rfl (qX rfl g9 (sp 2 rfl (evn ?_)))
   rcases Ab h with ⟨g10, h⟩ | ⟨g10, h⟩
   ·exact qT rfl g10 (rn 1 rfl (qk [2] rfl (Af ((by cases h; cases hr1; exact ⟨.inl rfl, rfl⟩)))))
   ·exact qF rfl g10 (Ae (hK4 _ (rg (sp 3 rfl (evn (hN _ _ h (okr rfl)))))))
 ·exact qF rfl g3 (Al (kXB1 (Option.some.inj h) _ (okr rfl)))
def AR (rec : Int -> Option (Sum (Unit) (Bool))) (y1 : Int) (x8 : Bool) : Option (Sum (Unit) (Bool)) := cond x8 (some (.inr false)) (rec (IntKind.i64.wrap (y1 + 1)))
def CH (a0 : List AU) (rec : Int -> Option (Sum (Unit) (Bool))) (y1 : Int) : Option (Sum (Unit) (Bool)) := cond (decide (y1 < (List.length a0 : Int))) (Ad (AA a0 y1) fun e5 => Ad (EW e5.1) fun v10 => cond (!v10) (AR rec y1 true) (cond (decide (0 < y1)) (Ad (AA a0 (IntKind.i64.wrap (y1 - 1))) fun e14 => cond (!Op.bytesLess e14.1 e5.1) (AR rec y1 true) (Ad (AG e5.2) fun v17 => cond (!v17) (AR rec y1 true) (cond (decide (16 < (List.length e5.2.2 : Int))) (AR rec y1 true) (AR rec y1 (decide (e5.2.1 < 1)))))) (Ad (AG e5.2) fun v21 => cond (!v21) (AR rec y1 true) (cond (decide (16 < (List.length e5.2.2 : Int))) (AR rec y1 true) (AR rec y1 (decide (e5.2.1 < 1))))))) (some (.inl ()))
def Bf (a0 : List AU) : Option (Bool) := Ad (Ai (CH a0) fz 0) fun o1 => (match o1 with
  | .inl _ => (some (decide ((List.length a0 : Int) <= 6)))
  | .inr r => some r)
theorem De {a0 : List AU} {r : Bool} (h : Bf a0 = some r) : Ah Tryz.prog 41 [.agg [dL AE a0]] (.bool r) := by
 unfold Bf at h
 refine st iK rfl (rn 1 rfl (Ac fun K1 hK1 => rn 1 rfl ?_))
 obtain ⟨o1, hl, hr1⟩ := Aa h
 have kXB1 : (.inl ()) = o1 -> Jn K1 [(1, .box [dL AE a0])] := by
  intro h σ' hk
  subst h
  replace h := hr1
  try dsimp only at h
  exact hK1 _ (lh hk rfl (rn 1 rfl (Af ((by cases h; exact ⟨.inl rfl, rfl⟩)))))
 refine As (fun (y1 : Int) => [(1, .box [dL AE a0]), (3, nI y1)]) _ _ _ _ hl (okr rfl) (fun _ => rfl) ?_
 rintro m y1 N h hN
 unfold CH at h
 refine Ac fun K2 hK2 => rn 1 rfl ?_
 rcases Ab h with ⟨g3, h⟩ | ⟨g3, h⟩
 ·refine qT rfl g3 (Ae (hK2 _ (Ac fun K4 hK4 => Aq (rs (sp 3 rfl (?_))))))
  obtain ⟨e5, g6, h⟩ := Aa h
  refine qI rfl C2 g6 (sp 3 rfl (evn (rdk (by kernel_rfl) fun K7 hK7 => ?_)))
  have kJ2 : ∀ {x8 : Bool}, AR (Ai (CH a0) m) y1 x8 = some o1 -> Jn K7 [(1, .box [dL AE a0]), (3, nI y1), (55, .bool x8)] := by
   intro x8 h σ' hk
   unfold AR at h
   refine hK7 _ (lh hk rfl ?_)
   rcases Ab h with ⟨g9, h⟩ | ⟨g9, h⟩
   ·exact qT rfl g9 (rn 1 rfl (Af ((by cases h; cases hr1; exact ⟨.inl rfl, rfl⟩))))
   ·exact qF rfl g9 (Ae (hK4 _ (rg (sp 3 rfl (evn (hN _ _ h (okr rfl)))))))
  refine sd 2 rfl (?_)
  obtain ⟨v10, g11, h⟩ := Aa h
  refine ed rfl (qC (qs rfl At) (Jh g11) (sd 2 rfl (?_)))
  rcases Ab h with ⟨g12, h⟩ | ⟨g12, h⟩
  ·exact qgd 21 g12 rfl (sd 34 rfl (Cy (kJ2 h _ (okr rfl))))
  ·refine qgd 21 g12 rfl (sd 3 rfl (?_))
   rcases Ab h with ⟨g13, h⟩ | ⟨g13, h⟩
   ·refine qgd 24 g13 rfl (sd 4 rfl (?_))
    obtain ⟨e14, g15, h⟩ := Aa h
    refine ed rfl (oGR rfl rfl (qI rfl C2 g15 (sd 8 rfl (?_))))
    rcases Ab h with ⟨g16, h⟩ | ⟨g16, h⟩
    ·exact qgd 37 g16 rfl (sd 18 rfl (Cy (kJ2 h _ (okr rfl))))
    ·refine qgd 37 g16 rfl (sd 2 rfl (?_))
     obtain ⟨v17, g18, h⟩ := Aa h
     refine ed rfl (oGR rfl rfl (qC (qa rfl (erg (erc rfl (erc (erD AJ _) rfl))) At) (AM g18) (sd 3 rfl (?_))))
     rcases Ab h with ⟨g19, h⟩ | ⟨g19, h⟩
     ·exact qgd 43 g19 rfl (sd 12 rfl (Cy (kJ2 h _ (okr rfl))))
     ·refine qgd 43 g19 rfl (sd 7 rfl (?_))
      rcases Ab h with ⟨g20, h⟩ | ⟨g20, h⟩
      ·exact qgd 50 g20 rfl (sd 5 rfl (Cy (kJ2 h _ (okr rfl))))
      ·exact qgd 50 g20 rfl (sd 5 rfl (Cy (kJ2 h _ (okr rfl))))
   ·refine qgd 24 g13 rfl (sd 15 rfl (?_))
    obtain ⟨v21, g22, h⟩ := Aa h
    refine ed rfl (oGR rfl rfl (qC (qa rfl (erg (erc rfl (erc (erD AJ _) rfl))) At) (AM g22) (sd 3 rfl (?_))))
    rcases Ab h with ⟨g23, h⟩ | ⟨g23, h⟩
    ·exact qgd 43 g23 rfl (sd 12 rfl (Cy (kJ2 h _ (okr rfl))))
    ·refine qgd 43 g23 rfl (sd 7 rfl (?_))
     rcases Ab h with ⟨g24, h⟩ | ⟨g24, h⟩
     ·exact qgd 50 g24 rfl (sd 5 rfl (Cy (kJ2 h _ (okr rfl))))
     ·exact qgd 50 g24 rfl (sd 5 rfl (Cy (kJ2 h _ (okr rfl))))
 ·exact qF rfl g3 (Al (kXB1 (Option.some.inj h) _ (okr rfl)))
abbrev Y25 := Int × (List (List AU))
def HB (x : List AU) : List V := [dL AE x]
theorem HU (x : List AU) : (HB x).length = 1 := rfl
theorem Gb (x : List AU) : erL (HB x) = HB x := (erc (erD AP _) rfl)
def C1 (x : Y25) : List V := [nI x.1, dL HB x.2]
theorem fa (x : Y25) : (C1 x).length = 2 := rfl
theorem aV (x : Y25) : erL (C1 x) = C1 x := (erc rfl (erc (erD Gb _) rfl))
def EN (a0 : Y25) (rec : Int -> Option (Sum (Unit) (Bool))) (y1 : Int) : Option (Sum (Unit) (Bool)) := cond (decide (y1 < (List.length a0.2 : Int))) (Ad (AA a0.2 y1) fun e5 => Ad (Bf e5) fun v7 => cond (!v7) (some (.inr false)) (rec (IntKind.i64.wrap (y1 + 1)))) (some (.inl ()))
def Df (x11 : Bool) : Option (Bool) := some x11
def BN (a0 : Y25) : Option (Bool) := Ad (Ai (EN a0) fz 0) fun o1 => (match o1 with
  | .inl _ => (Ad (Dh (List.length a0.2 : Int) 1 6) fun v12 => cond v12 (Ad (Dh a0.1 1 (IntKind.i64.wrap ((IntKind.i64.wrap (99 - (List.length a0.2 : Int))) + 1))) fun v15 => Df v15) (Df false))
  | .inr r => some r)
theorem E9 {a0 : Y25} {r : Bool} (h : BN a0 = some r) : Ah Tryz.prog 11 [.agg (C1 a0)] (.bool r) := by
 unfold BN at h
 refine st ip rfl (rn 1 rfl (Ac fun K1 hK1 => rn 1 rfl ?_))
 obtain ⟨o1, hl, hr1⟩ := Aa h
 have kXB1 : (.inl ()) = o1 -> Jn K1 [(1, .box [nI a0.1, dL HB a0.2])] := by
  intro h σ' hk
  subst h
  replace h := hr1
  try dsimp only at h
  refine hK1 _ (lh hk rfl (rk fun K10 hK10 => ?_))
  have kJ2 : ∀ {x11 : Bool}, Df x11 = some r -> Jn K10 [(2, .bool x11)] := by
   intro x11 h σ' hk
   unfold Df at h
   exact hK10 _ (lh hk rfl (Af ((by cases h; exact ⟨.inl rfl, rfl⟩))))
  refine sp 3 rfl (?_)
  obtain ⟨v12, g13, h⟩ := Aa h
  refine qC (qs rfl (qs rfl (qs rfl At))) (CJ g13) (sp 1 rfl (?_))
  rcases Ab h with ⟨g14, h⟩ | ⟨g14, h⟩
  ·refine qg 22 g14 rfl (sp 7 rfl (?_))
   obtain ⟨v15, g16, h⟩ := Aa h
   exact oGR rfl rfl (qC (qs rfl (qs rfl (qs rfl At))) (CJ g16) (sp 2 rfl (evn (kJ2 h _ (okr rfl)))))
  ·exact qg 22 g14 rfl (sp 10 rfl (evn (kJ2 h _ (okr rfl))))
 refine As (fun (y1 : Int) => [(1, .box [nI a0.1, dL HB a0.2]), (3, nI y1)]) _ _ _ _ hl (okr rfl) (fun _ => rfl) ?_
 rintro m y1 N h hN
 unfold EN at h
 refine Ac fun K2 hK2 => rn 1 rfl ?_
 rcases Ab h with ⟨g3, h⟩ | ⟨g3, h⟩
 ·refine qT rfl g3 (Ae (hK2 _ (Ac fun K4 hK4 => Aq (rs (sp 3 rfl (?_))))))
  obtain ⟨e5, g6, h⟩ := Aa h
  refine qI rfl HU g6 (sp 1 rfl (?_))
  obtain ⟨v7, g8, h⟩ := Aa h
  refine qC (qa rfl (erg (erc (erD AP _) rfl)) At) (De g8) (sp 1 rfl (evn ?_))
  rcases Ab h with ⟨g9, h⟩ | ⟨g9, h⟩
  ·exact qT rfl g9 (rn 1 rfl (Af ((by cases h; cases hr1; exact ⟨.inl rfl, rfl⟩))))
  ·exact qF rfl g9 (Ae (hK4 _ (rg (sp 3 rfl (evn (hN _ _ h (okr rfl)))))))
 ·exact qF rfl g3 (Al (kXB1 (Option.some.inj h) _ (okr rfl)))
def H5 (a0 : List AU) (rec : ((List AU) × Int) -> Option ((List AU))) (s : (List AU) × Int) : Option ((List AU)) := match s with
  | (y1, y2) => cond (decide (y2 < (List.length a0 : Int))) (Ad (AA a0 y2) fun e6 => Ad (GK e6.2) fun v8 => Ad (AA a0 y2) fun e10 => chk (List.length y1 + List.length [(e10.1, v8)] <= lim) (rec ((y1 ++ [(e10.1, v8)]), (IntKind.i64.wrap (y2 + 1))))) (some y1)
def Ff (a0 : List AU) : Option ((List AU)) := Ad (Ai (H5 a0) fz (([] : List AU), 0)) fun z2 => some z2
theorem GV {a0 : List AU} {r : (List AU)} (h : Ff a0 = some r) : Ah Tryz.prog 71 [.agg [dL AE a0]] (.agg [oL 114 AO r]) := by
 unfold Ff at h
 refine st i8 rfl (rn 2 rfl (Ac fun K1 hK1 => rn 1 rfl ?_))
 obtain ⟨o1, hl, hr1⟩ := Aa h
 have kXB1 : ∀ {z2 : List AU}, z2 = o1 -> Jn K1 [(2, .box [oL 114 AO []]), (3, .box [oL 114 AO z2])] := by
  intro z2 h σ' hk
  subst h
  replace h := hr1
  try dsimp only at h
  exact hK1 _ (lh hk rfl (rn 1 rfl (Af ((by cases h; exact ⟨.inl rfl, rfl⟩)))))
 refine As (fun (s : (List AU) × Int) => match s with | (y1, y2) => [(1, .box [dL AE a0]), (2, .box [oL 114 AO []]), (3, .box [oL 114 AO y1]), (4, nI y2)]) _ _ _ _ hl (okr rfl) (fun _ => rfl) ?_
 rintro m ⟨y1, y2⟩ N h hN
 unfold H5 at h
 dsimp only at h
 refine Ac fun K3 hK3 => rn 1 rfl ?_
 rcases Ab h with ⟨g4, h⟩ | ⟨g4, h⟩
 ·refine qT rfl g4 (Ae (hK3 _ (Ac fun K5 hK5 => Aq (rs (sp 3 rfl (?_))))))
  obtain ⟨e6, g7, h⟩ := Aa h
  refine qI rfl C2 g7 (sp 2 rfl (?_))
  obtain ⟨v8, g9, h⟩ := Aa h
  refine qC (qa rfl (erg (erc rfl (erc (erD AJ _) rfl))) At) (IL g9) (sp 2 rfl (evn (rgd (by kernel_rfl) (sd 5 rfl (?_)))))
  obtain ⟨e10, g11, h⟩ := Aa h
  refine ed rfl (qI rfl C2 g11 (sd 4 rfl (ed rfl (qBs AO [(e10.1, v8)] rfl rfl rfl Ea (?_)))))
  obtain ⟨g12, h⟩ := Ag h
  exact ed rfl (qA AO y1 [(e10.1, v8)] rfl rfl (Ao Ea [(e10.1, v8)]) rfl g12 (sd 2 rfl (Cy (hK5 _ (rg (sp 3 rfl (evn (hN _ _ h (okr rfl)))))))))
 ·exact qF rfl g4 (Al (kXB1 (Option.some.inj h) _ (okr rfl)))
def Bu (x : List AU) : List V := [oL 114 AO x]
theorem GX (x : List AU) : (Bu x).length = 1 := rfl
theorem Po (x : List AU) : erL (Bu x) = HB x := (erc (erO LI _) rfl)
def JT (x : Y25) : List V := [nI x.1, oL 77 Bu x.2]
theorem fe (x : Y25) : (JT x).length = 2 := rfl
theorem aX (x : Y25) : erL (JT x) = C1 x := (erc rfl (erc (erO Po _) rfl))
def HQ (a0 : Y25) (rec : ((List (List AU)) × Int) -> Option ((List (List AU)))) (s : (List (List AU)) × Int) : Option ((List (List AU))) := match s with
  | (y1, y2) => cond (decide (y2 < (List.length a0.2 : Int))) (Ad (AA a0.2 y2) fun e6 => Ad (Ff e6) fun v8 => chk (List.length y1 + List.length [v8] <= lim) (rec ((y1 ++ [v8]), (IntKind.i64.wrap (y2 + 1))))) (some y1)
def In (a0 : Y25) : Option (Y25) := Ad (Ai (HQ a0) fz (([] : List (List AU)), 0)) fun z2 => some (a0.1, z2)
theorem OL {a0 : Y25} {r : Y25} (h : In a0 = some r) : Ah Tryz.prog 98 [.agg (C1 a0)] (.agg (JT r)) := by
 unfold In at h
 refine st jq rfl (rn 2 rfl (Ac fun K1 hK1 => rn 1 rfl ?_))
 obtain ⟨o1, hl, hr1⟩ := Aa h
 have kXB1 : ∀ {z2 : List (List AU)}, z2 = o1 -> Jn K1 [(2, .box [nI 0, oL 77 Bu []]), (3, .box [nI a0.1, oL 77 Bu z2])] := by
  intro z2 h σ' hk
  subst h
  replace h := hr1
  try dsimp only at h
  exact hK1 _ (lh hk rfl (rn 1 rfl (Af ((by cases h; exact ⟨.inl rfl, rfl⟩)))))
 refine As (fun (s : (List (List AU)) × Int) => match s with | (y1, y2) => [(1, .box [nI a0.1, dL HB a0.2]), (2, .box [nI 0, oL 77 Bu []]), (3, .box [nI a0.1, oL 77 Bu y1]), (4, nI y2)]) _ _ _ _ hl (okr rfl) (fun _ => rfl) ?_
 rintro m ⟨y1, y2⟩ N h hN
 unfold HQ at h
 dsimp only at h
 refine Ac fun K3 hK3 => rn 1 rfl ?_
 rcases Ab h with ⟨g4, h⟩ | ⟨g4, h⟩
 ·refine qT rfl g4 (Ae (hK3 _ (Ac fun K5 hK5 => Aq (rs (sp 3 rfl (?_))))))
  obtain ⟨e6, g7, h⟩ := Aa h
  refine qI rfl HU g7 (sp 1 rfl (?_))
  obtain ⟨v8, g9, h⟩ := Aa h
  refine qC (qa rfl (erg (erc (erD AP _) rfl)) At) (GV g9) (sp 2 rfl (evn (rg (sp 3 rfl (qBs Bu [v8] rfl rfl rfl GX (?_))))))
  obtain ⟨g10, h⟩ := Ag h
  exact qA Bu y1 [v8] rfl rfl (Ao GX [v8]) rfl g10 (sp 2 rfl (evn (hK5 _ (rg (sp 3 rfl (evn (hN _ _ h (okr rfl))))))))
 ·exact qF rfl g4 (Al (kXB1 (Option.some.inj h) _ (okr rfl)))
def BF (a0 : List AU) (a1 : List UInt8) (rec : Int -> Option (Sum (Unit) (Y40 × Bool))) (y1 : Int) : Option (Sum (Unit) (Y40 × Bool)) := cond (decide (y1 < (List.length a0 : Int))) (Ad (Bf a0) fun v4 => cond v4 (Ad (AA a0 y1) fun e8 => cond (e8.1 == a1) (Ad (AA a0 y1) fun e11 => Ad (GK e11.2) fun v13 => some (.inr (v13, true))) (rec (IntKind.i64.wrap (y1 + 1)))) (some (.inl ()))) (some (.inl ()))
def Br (a0 : List AU) (a1 : List UInt8) : Option (Y40 × Bool) := Ad (Ai (BF a0 a1) fz 0) fun o1 => (match o1 with
  | .inl _ => (some ((0, []), false))
  | .inr r => some r)
theorem DG {a0 : List AU} {a1 : List UInt8} {r : Y40 × Bool} (h : Br a0 a1 = some r) : Ah Tryz.prog 132 [.agg [dL AE a0], .str a1] (.tup [.agg (Ht r.1), .bool r.2]) := by
 unfold Br at h
 refine st cj rfl (rn 1 rfl (Ac fun K1 hK1 => rn 1 rfl ?_))
 obtain ⟨o1, hl, hr1⟩ := Aa h
 have kXB1 : (.inl ()) = o1 -> Jn K1 [(4, .box [nI 0, oL 27 Aj []])] := by
  intro h σ' hk
  subst h
  replace h := hr1
  try dsimp only at h
  exact hK1 _ (lh hk rfl (rn 1 rfl (Af ((by cases h; exact ⟨.inl rfl, rfl⟩)))))
 refine As (fun (y1 : Int) => [(1, .str a1), (2, .box [dL AE a0]), (4, .box [nI 0, oL 27 Aj []]), (6, nI y1)]) _ _ _ _ hl (okr rfl) (fun _ => rfl) ?_
 rintro m y1 N h hN
 unfold BF at h
 refine Ac fun K2 hK2 => rs (sp 6 rfl (?_))
 rcases Ab h with ⟨g3, h⟩ | ⟨g3, h⟩
 ·refine qg 12 g3 rfl (sp 1 rfl (?_))
  obtain ⟨v4, g5, h⟩ := Aa h
  refine oGR rfl rfl (qC (qa rfl (erg (erc (erD AP _) rfl)) At) (De g5) (sp 1 rfl (evn ?_)))
  rcases Ab h with ⟨g6, h⟩ | ⟨g6, h⟩
  ·refine qT rfl g6 (Ae (hK2 _ (Ac fun K7 hK7 => Aq (rs (sp 3 rfl (?_))))))
   obtain ⟨e8, g9, h⟩ := Aa h
   refine qI rfl C2 g9 (sp 4 rfl (evn ?_))
   rcases Ab h with ⟨g10, h⟩ | ⟨g10, h⟩
   ·refine qT rfl g10 (rs (sp 3 rfl (?_)))
    obtain ⟨e11, g12, h⟩ := Aa h
    refine qI rfl C2 g12 (sp 2 rfl (?_))
    obtain ⟨v13, g14, h⟩ := Aa h
    exact qC (qa rfl (erg (erc rfl (erc (erD AJ _) rfl))) At) (IL g14) (sp 2 rfl (evn (Af ((by cases h; cases hr1; exact ⟨.inl rfl, rfl⟩)))))
   ·exact qF rfl g10 (Ae (hK7 _ (qk [1, 2, 4, 6] rfl (rg (sp 3 rfl (evn (hN _ _ h (okr rfl))))))))
  ·exact qF rfl g6 (Al (kXB1 (Option.some.inj h) _ (okr rfl)))
 ·exact qg 12 g3 rfl (sp 3 rfl (evn (qF rfl rfl (Al (kXB1 (Option.some.inj h) _ (okr rfl))))))
def E6 (rec : ((List (List Int)) × Int) -> Option ((List (List Int)))) (y2 : Int) (x18 : List (List Int)) : Option ((List (List Int))) := rec (x18, (IntKind.i64.wrap (y2 + 1)))
def E5 (a0 : Y40) (a1 : Y40) (rec : ((List (List Int)) × Int) -> Option ((List (List Int)))) (s : (List (List Int)) × Int) : Option ((List (List Int))) := match s with
  | (y1, y2) => cond (decide (y2 < (List.length a0.2 : Int))) (Ad (AA a0.2 y2) fun e14 => Ad (FH a1 e14) fun v16 => cond (!v16.2) (Ad (AA a0.2 y2) fun e20 => chk (List.length ([] : List Int) + List.length e20 <= lim) (chk (List.length y1 + List.length ([([] : List Int) ++ e20]) <= lim) (E6 rec y2 (y1 ++ ([([] : List Int) ++ e20]))))) (E6 rec y2 y1)) (some y1)
def CF (a0 : Y40) (a1 : Y40) : Option (Y40 × Bool) := Ad (AG a0) fun v2 => cond (!v2) (some ((0, []), false)) (Ad (AG a1) fun v5 => cond (!v5) (some ((0, []), false)) (cond (a0.1 != a1.1) (some ((0, []), false)) (Ad (Ai (E5 a0 a1) fz (([] : List (List Int)), 0)) fun z10 => some ((a0.1, z10), true))))
theorem Ft {a0 : Y40} {a1 : Y40} {r : Y40 × Bool} (h : CF a0 a1 = some r) : Ah Tryz.prog 133 [.agg (Ek a0), .agg (Ek a1)] (.tup [.agg (Ht r.1), .bool r.2]) := by
 unfold CF at h
 refine st ck rfl (rn 1 rfl (Ac fun K1 hK1 => rs (sp 1 rfl (?_))))
 obtain ⟨v2, g3, h⟩ := Aa h
 refine qC (qa rfl (erg (erc rfl (erc (erD AJ _) rfl))) At) (AM g3) (sp 2 rfl (?_))
 rcases Ab h with ⟨g4, h⟩ | ⟨g4, h⟩
 ·exact qg 13 g4 rfl (sp 11 rfl (evn (qT rfl rfl (rn 1 rfl (Af ((by cases h; exact ⟨.inl rfl, rfl⟩)))))))
 ·refine qg 13 g4 rfl (sp 1 rfl (?_))
  obtain ⟨v5, g6, h⟩ := Aa h
  refine oGR rfl rfl (qC (qa rfl (erg (erc rfl (erc (erD AJ _) rfl))) At) (AM g6) (sp 3 rfl (?_)))
  rcases Ab h with ⟨g7, h⟩ | ⟨g7, h⟩
  ·exact qg 18 g7 rfl (sp 6 rfl (evn (qk [2, 3, 4, 24] rfl (qT rfl rfl (rn 1 rfl (Af ((by cases h; exact ⟨.inl rfl, rfl⟩))))))))
  ·refine qg 18 g7 rfl (sp 6 rfl (evn ?_))
   rcases Ab h with ⟨g8, h⟩ | ⟨g8, h⟩
   ·exact qT rfl g8 (rn 1 rfl (Af ((by cases h; exact ⟨.inl rfl, rfl⟩))))
   ·refine qF rfl g8 (Ae (hK1 _ (rn 1 rfl (Ac fun K9 hK9 => rn 1 rfl ?_))))
    obtain ⟨o1, hl, hr1⟩ := Aa h
    have kXB1 : ∀ {z10 : List (List Int)}, z10 = o1 -> Jn K9 [(4, .box [nI 0, oL 27 Aj []]), (6, .box [nI a0.1, oL 27 Aj z10])] := by
     intro z10 h σ' hk
     subst h
     replace h := hr1
     try dsimp only at h
     exact hK9 _ (lh hk rfl (rn 1 rfl (Af ((by cases h; exact ⟨.inl rfl, rfl⟩)))))
    refine As (fun (s : (List (List Int)) × Int) => match s with | (y1, y2) => [(2, .box [nI a0.1, dL Aw a0.2]), (3, .box [nI a1.1, dL Aw a1.2]), (4, .box [nI 0, oL 27 Aj []]), (6, .box [nI a0.1, oL 27 Aj y1]), (7, nI y2)]) _ _ _ _ hl (okr rfl) (fun _ => rfl) ?_
    rintro m ⟨y1, y2⟩ N h hN
    unfold E5 at h
    dsimp only at h
    refine Ac fun K11 hK11 => rn 1 rfl ?_
    rcases Ab h with ⟨g12, h⟩ | ⟨g12, h⟩
    ·refine qT rfl g12 (Ae (hK11 _ (Ac fun K13 hK13 => Aq (rd (by kernel_rfl) (sd 4 rfl (?_))))))
     obtain ⟨e14, g15, h⟩ := Aa h
     refine ed rfl (qI rfl AX g15 (sd 1 rfl (?_)))
     obtain ⟨v16, g17, h⟩ := Aa h
     refine ed rfl (qC (qa rfl (erg (erc rfl (erc (erD AJ _) rfl))) (qa rfl (erD Ap _) At)) (Li g17) (sd 5 rfl (Cy (rn 1 rfl ?_))))
     have kJ2 : ∀ {x18 : List (List Int)}, E6 (Ai (E5 a0 a1) m) y2 x18 = some o1 -> Jn K13 [(2, .box [nI a0.1, dL Aw a0.2]), (3, .box [nI a1.1, dL Aw a1.2]), (4, .box [nI 0, oL 27 Aj []]), (6, .box [nI a0.1, oL 27 Aj x18]), (7, nI y2)] := by
      intro x18 h σ' hk
      unfold E6 at h
      exact hK13 _ (lh hk rfl (rg (sp 3 rfl (evn (hN _ _ h (okr rfl))))))
     rcases Ab h with ⟨g19, h⟩ | ⟨g19, h⟩
     ·refine qT rfl g19 (rgd (by kernel_rfl) (sd 2 rfl (ed rfl (qBs An [] rfl rfl rfl Ar (sd 3 rfl (?_))))))
      obtain ⟨e20, g21, h⟩ := Aa h
      refine ed rfl (qI rfl AX g21 (sd 1 rfl (?_)))
      obtain ⟨g22, h⟩ := Ag h
      refine ed rfl (qA An ([] : List Int) e20 rfl rfl (Ao Ar e20) (Gi (fun _ => rfl) _) g22 (ed rfl (qBs Aj [([] : List Int) ++ e20] rfl rfl rfl AZ (?_))))
      obtain ⟨g23, h⟩ := Ag h
      exact ed rfl (qA Aj y1 ([([] : List Int) ++ e20]) rfl rfl (Ao AZ ([([] : List Int) ++ e20])) rfl g23 (sd 2 rfl (Cy (kJ2 h _ (okr rfl)))))
     ·exact qF rfl g19 (Ae (kJ2 h _ (okr rfl)))
    ·exact qF rfl g12 (Al (kXB1 (Option.some.inj h) _ (okr rfl)))
def DH (x4 : Bool) : Option (Bool) := some x4
def Im (a0 : List AU) (a1 : Y42) : Option (Bool) := Ad (Br a0 a1.1) fun v1 => cond v1.2 (Ad (AG a1.2.1) fun v6 => cond v6 (Ad (AG a1.2.2) fun v9 => cond v9 (cond (a1.2.1.1 == v1.1.1) (DH (a1.2.2.1 == v1.1.1)) (DH false)) (DH false)) (DH false)) (DH false)
theorem OK {a0 : List AU} {a1 : Y42} {r : Bool} (h : Im a0 a1 = some r) : Ah Tryz.prog 163 [.agg [dL AE a0], .agg (GN a1)] (.bool r) := by
 unfold Im at h
 refine st cQ rfl (rn 1 rfl (rs (sp 3 rfl (?_))))
 obtain ⟨v1, g2, h⟩ := Aa h
 refine qC (qa rfl (erg (erc (erD AP _) rfl)) (qs rfl At)) (DG g2) (sp 6 rfl (evn (rk fun K3 hK3 => ?_)))
 have kJ1 : ∀ {x4 : Bool}, DH x4 = some r -> Jn K3 [(4, .bool x4)] := by
  intro x4 h σ' hk
  unfold DH at h
  exact hK3 _ (lh hk rfl (Af ((by cases h; exact ⟨.inl rfl, rfl⟩))))
 refine sp 2 rfl (?_)
 rcases Ab h with ⟨g5, h⟩ | ⟨g5, h⟩
 ·refine qg 15 g5 rfl (sp 2 rfl (?_))
  obtain ⟨v6, g7, h⟩ := Aa h
  refine oGR rfl rfl (qC (qa rfl (erg (erc rfl (erc (erD AJ _) rfl))) At) (AM g7) (sp 2 rfl (?_)))
  rcases Ab h with ⟨g8, h⟩ | ⟨g8, h⟩
  ·refine qg 20 g8 rfl (sp 2 rfl (?_))
   obtain ⟨v9, g10, h⟩ := Aa h
   refine oGR rfl rfl (qC (qa rfl (erg (erc rfl (erc (erD AJ _) rfl))) At) (AM g10) (sp 2 rfl (?_)))
   rcases Ab h with ⟨g11, h⟩ | ⟨g11, h⟩
   ·refine qg 25 g11 rfl (sp 8 rfl (?_))
    rcases Ab h with ⟨g12, h⟩ | ⟨g12, h⟩
    ·exact qg 33 g12 rfl (sp 8 rfl (evn (kJ1 h _ (okr rfl))))
    ·exact qg 33 g12 rfl (sp 8 rfl (evn (kJ1 h _ (okr rfl))))
   ·exact qg 25 g11 rfl (sp 16 rfl (evn (kJ1 h _ (okr rfl))))
  ·exact qg 20 g8 rfl (sp 21 rfl (evn (kJ1 h _ (okr rfl))))
 ·exact qg 15 g5 rfl (sp 26 rfl (evn (kJ1 h _ (okr rfl))))
def Nl (x : Y42) : List V := [.str x.1, nI x.2.1.1, oL 27 Aj x.2.1.2, nI x.2.2.1, oL 27 Aj x.2.2.2]
theorem fh (x : Y42) : (Nl x).length = 5 := rfl
theorem a4 (x : Y42) : erL (Nl x) = GN x := (erc rfl (erc rfl (erc (erO Ca _) (erc rfl (erc (erO Ca _) rfl)))))
def Ez (a0 : List AU) (a1 : Y42) : Option (Y42 × Bool) := Ad (Im a0 a1) fun v2 => cond (!v2) (some (([], (0, []), (0, [])), false)) (Ad (Br a0 a1.1) fun v5 => Ad (CF a1.2.1 v5.1) fun v7 => Ad (CF a1.2.2 a1.2.1) fun v9 => Ad (CF v9.1 v5.1) fun v11 => Ad (CF v9.1 v11.1) fun v13 => some ((a1.1, v7.1, v13.1), true))
theorem KE {a0 : List AU} {a1 : Y42} {r : Y42 × Bool} (h : Ez a0 a1 = some r) : Ah Tryz.prog 131 [.agg [dL AE a0], .agg (GN a1)] (.tup [.agg (Nl r.1), .bool r.2]) := by
 unfold Ez at h
 refine st ci rfl (rn 1 rfl (Ac fun K1 hK1 => rs (sp 2 rfl (?_))))
 obtain ⟨v2, g3, h⟩ := Aa h
 refine qC (qa rfl (erg (erc (erD AP _) rfl)) (qa rfl (erg (erc rfl (erc rfl (erc (erD AJ _) (erc rfl (erc (erD AJ _) rfl)))))) At)) (OK g3) (sp 1 rfl (evn ?_))
 rcases Ab h with ⟨g4, h⟩ | ⟨g4, h⟩
 ·exact qT rfl g4 (rn 1 rfl (Af ((by cases h; exact ⟨.inl rfl, rfl⟩))))
 ·refine qF rfl g4 (Ae (hK1 _ (rs (sp 3 rfl (?_)))))
  obtain ⟨v5, g6, h⟩ := Aa h
  refine qC (qa rfl (erg (erc (erD AP _) rfl)) (qs rfl At)) (DG g6) (sp 6 rfl (evn (rs (sp 3 rfl (?_)))))
  obtain ⟨v7, g8, h⟩ := Aa h
  refine qC (qa rfl (erg (erc rfl (erc (erD AJ _) rfl))) (qa rfl (erg (erc rfl (erc (erD Ca _) rfl))) At)) (Ft g8) (sp 6 rfl (evn (qk [3, 4, 6, 8] rfl (rs (sp 4 rfl (?_))))))
  obtain ⟨v9, g10, h⟩ := Aa h
  refine qC (qa rfl (erg (erc rfl (erc (erD AJ _) rfl))) (qa rfl (erg (erc rfl (erc (erD AJ _) rfl))) At)) (Ft g10) (sp 6 rfl (evn (rs (sp 2 rfl (?_)))))
  obtain ⟨v11, g12, h⟩ := Aa h
  refine qC (qa rfl (erg (erc rfl (erc (erD Ca _) rfl))) (qa rfl (erg (erc rfl (erc (erD Ca _) rfl))) At)) (Ft g12) (sp 6 rfl (evn (rs (sp 2 rfl (?_)))))
  obtain ⟨v13, g14, h⟩ := Aa h
  exact qC (qa rfl (erg (erc rfl (erc (erD Ca _) rfl))) (qa rfl (erg (erc rfl (erc (erD Ca _) rfl))) At)) (Ft g14) (sp 6 rfl (evn (rn 1 rfl (Af ((by cases h; exact ⟨.inl rfl, rfl⟩))))))
def JK (a0 : Y40) (a1 : Y40) : Option (Y40 × Bool) := Ad (AG a0) fun v2 => cond (!v2) (some ((0, []), false)) (Ad (AG a1) fun v5 => cond (!v5) (some ((0, []), false)) (cond (a0.1 != a1.1) (some ((0, []), false)) (chk (List.length ([] : List (List Int)) + List.length a0.2 <= lim) (chk (List.length (([] : List (List Int)) ++ a0.2) + List.length a1.2 <= lim) (Ad (Ck a0.1 ((([] : List (List Int)) ++ a0.2) ++ a1.2)) fun v11 => some (v11.1, v11.2))))))
theorem QZ {a0 : Y40} {a1 : Y40} {r : Y40 × Bool} (h : JK a0 a1 = some r) : Ah Tryz.prog 134 [.agg (Ek a0), .agg (Ek a1)] (.tup [.agg (Ht r.1), .bool r.2]) := by
 unfold JK at h
 refine st cl rfl (rn 1 rfl (Ac fun K1 hK1 => rs (sp 1 rfl (?_))))
 obtain ⟨v2, g3, h⟩ := Aa h
 refine qC (qa rfl (erg (erc rfl (erc (erD AJ _) rfl))) At) (AM g3) (sp 2 rfl (?_))
 rcases Ab h with ⟨g4, h⟩ | ⟨g4, h⟩
 ·exact qg 11 g4 rfl (sp 11 rfl (evn (qT rfl rfl (rn 1 rfl (Af ((by cases h; exact ⟨.inl rfl, rfl⟩)))))))
 ·refine qg 11 g4 rfl (sp 1 rfl (?_))
  obtain ⟨v5, g6, h⟩ := Aa h
  refine oGR rfl rfl (qC (qa rfl (erg (erc rfl (erc (erD AJ _) rfl))) At) (AM g6) (sp 3 rfl (?_)))
  rcases Ab h with ⟨g7, h⟩ | ⟨g7, h⟩
  ·exact qg 16 g7 rfl (sp 6 rfl (evn (qk [2, 3, 4, 22] rfl (qT rfl rfl (rn 1 rfl (Af ((by cases h; exact ⟨.inl rfl, rfl⟩))))))))
  ·refine qg 16 g7 rfl (sp 6 rfl (evn ?_))
   rcases Ab h with ⟨g8, h⟩ | ⟨g8, h⟩
   ·exact qT rfl g8 (rn 1 rfl (Af ((by cases h; exact ⟨.inl rfl, rfl⟩))))
   ·refine qF rfl g8 (Ae (hK1 _ (rd (by kernel_rfl) (sd 2 rfl (ed rfl (qBs Aj [] rfl rfl rfl AZ (sd 2 rfl (?_))))))))
    obtain ⟨g9, h⟩ := Ag h
    refine ed rfl (qA Aw ([] : List (List Int)) a0.2 rfl rfl (Ao AX a0.2) (Gi (fun _ => rfl) _) g9 (sd 2 rfl (?_)))
    obtain ⟨g10, h⟩ := Ag h
    refine ed rfl (qA Aw (([] : List (List Int)) ++ a0.2) a1.2 rfl rfl (Ao AX a1.2) (Gi (fun _ => rfl) _) g10 (?_))
    obtain ⟨v11, g12, h⟩ := Aa h
    exact ed rfl (qC (qs rfl (qa rfl (erO AJ _) At)) (Fa g12) (sd 6 rfl (Cy (rn 1 rfl (qk [4, 5] rfl (Af ((by cases h; exact ⟨.inl rfl, rfl⟩))))))))
def EC (rec : ((List AU) × Bool × Int) -> Option ((List AU) × Bool)) (y3 : Int) (x13 : Bool) (x14 : List AU) : Option ((List AU) × Bool) := rec (x14, x13, (IntKind.i64.wrap (y3 + 1)))
def EB (rec : ((List AU) × Bool × Int) -> Option ((List AU) × Bool)) (a1 : List UInt8) (y3 : Int) (e7 : AU) (x12 : List AU) (x13 : Bool) : Option ((List AU) × Bool) := cond (!(e7.1 == a1)) (chk (List.length x12 + List.length [e7] <= lim) (EC rec y3 x13 (x12 ++ [e7]))) (EC rec y3 x13 x12)
def EA (rec : ((List AU) × Bool × Int) -> Option ((List AU) × Bool)) (a1 : List UInt8) (a2 : Y40) (y1 : List AU) (y2 : Bool) (y3 : Int) (e7 : AU) (x11 : Bool) : Option ((List AU) × Bool) := cond x11 (chk (List.length y1 + List.length [(a1, a2)] <= lim) (EB rec a1 y3 e7 (y1 ++ [(a1, a2)]) true)) (EB rec a1 y3 e7 y1 y2)
def BP (a0 : List AU) (a1 : List UInt8) (a2 : Y40) (rec : ((List AU) × Bool × Int) -> Option ((List AU) × Bool)) (s : (List AU) × Bool × Int) : Option ((List AU) × Bool) := match s with
  | (y1, y2, y3) => cond (decide (y3 < (List.length a0 : Int))) (Ad (AA a0 y3) fun e7 => cond (!y2) (EA rec a1 a2 y1 y2 y3 e7 (!Op.bytesLess e7.1 a1)) (EA rec a1 a2 y1 y2 y3 e7 false)) (some (y1, y2))
def ED (a0 : List AU) (x21 : List AU) (x24 : Bool) : Option ((List AU) × Bool) := cond x24 (Ad (Ff a0) fun v26 => some (v26, false)) (Ad (Ff x21) fun v28 => some (v28, true))
def Dt (a0 : List AU) (x21 : List AU) : Option ((List AU) × Bool) := Ad (Bf a0) fun v30 => cond (!v30) (ED a0 x21 true) (Ad (Bf x21) fun v33 => ED a0 x21 (!v33))
def F2 (a0 : List AU) (a1 : List UInt8) (a2 : Y40) : Option ((List AU) × Bool) := Ad (Ai (BP a0 a1 a2) fz (([] : List AU), false, 0)) fun o1 => (match o1 with
  | (z2, z3) => (cond (!z3) (chk (List.length z2 + List.length [(a1, a2)] <= lim) (Dt a0 (z2 ++ [(a1, a2)]))) (Dt a0 z2)))
theorem Me {a0 : List AU} {a1 : List UInt8} {a2 : Y40} {r : (List AU) × Bool} (h : F2 a0 a1 a2 = some r) : Ah Tryz.prog 135 [.agg [dL AE a0], .str a1, .agg (Ek a2)] (.tup [.agg [oL 114 AO r.1], .bool r.2]) := by
 unfold F2 at h
 refine st cm rfl (rn 3 rfl (Ac fun K1 hK1 => rn 1 rfl ?_))
 obtain ⟨o1, hl, hr1⟩ := Aa h
 have kXB1 : ∀ {z2 : List AU} {z3 : Bool}, (z2, z3) = o1 -> Jn K1 [(1, .str a1), (3, .box [dL AE a0]), (5, .box [nI a2.1, dL Aw a2.2]), (6, .box [oL 114 AO []]), (8, .box [oL 114 AE z2]), (9, .bool z3)] := by
  intro z2 z3 h σ' hk
  subst h
  replace h := hr1
  try dsimp only at h
  refine hK1 _ (lh hk rfl (Ac fun K20 hK20 => rn 1 rfl ?_))
  have kJ5 : ∀ {x21 : List AU}, Dt a0 x21 = some r -> Jn K20 [(3, .box [dL AE a0]), (6, .box [oL 114 AO []]), (8, .box [oL 114 AE x21])] := by
   intro x21 h σ' hk
   unfold Dt at h
   refine hK20 _ (lh hk rfl (Ac fun K22 hK22 => rk fun K23 hK23 => ?_))
   have kJ6 : ∀ {x24 : Bool}, ED a0 x21 x24 = some r -> Jn K23 [(3, .box [dL AE a0]), (6, .box [oL 114 AO []]), (8, .box [oL 114 AE x21]), (68, .bool x24)] := by
    intro x24 h σ' hk
    unfold ED at h
    refine hK23 _ (lh hk rfl ?_)
    rcases Ab h with ⟨g25, h⟩ | ⟨g25, h⟩
    ·refine qT rfl g25 (rs (sp 1 rfl (?_)))
     obtain ⟨v26, g27, h⟩ := Aa h
     exact qC (qa rfl (erg (erc (erD AP _) rfl)) At) (GV g27) (sp 2 rfl (evn (Af ((by cases h; exact ⟨.inl rfl, rfl⟩)))))
    ·refine qF rfl g25 (Ae (hK22 _ (rs (sp 1 rfl (?_)))))
     obtain ⟨v28, g29, h⟩ := Aa h
     exact qC (qa rfl (erg (erc (erD AP _) rfl)) At) (GV g29) (sp 2 rfl (evn (Af ((by cases h; exact ⟨.inl rfl, rfl⟩)))))
   refine sp 1 rfl (?_)
   obtain ⟨v30, g31, h⟩ := Aa h
   refine qC (qa rfl (erg (erc (erD AP _) rfl)) At) (De g31) (sp 2 rfl (?_))
   rcases Ab h with ⟨g32, h⟩ | ⟨g32, h⟩
   ·exact qg 64 g32 rfl (sp 4 rfl (evn (kJ6 h _ (okr rfl))))
   ·refine qg 64 g32 rfl (sp 1 rfl (?_))
    obtain ⟨v33, g34, h⟩ := Aa h
    exact oGR rfl rfl (qC (qa rfl (erg (erc (erD AP _) rfl)) At) (De g34) (sp 2 rfl (evn (kJ6 h _ (okr rfl)))))
  rcases Ab h with ⟨g35, h⟩ | ⟨g35, h⟩
  ·refine qT rfl g35 (rg (sp 5 rfl (qBs AE [(a1, a2)] rfl rfl rfl C2 (?_))))
   obtain ⟨g36, h⟩ := Ag h
   exact qA AE z2 [(a1, a2)] rfl rfl (Ao C2 [(a1, a2)]) rfl g36 (sp 2 rfl (evn (kJ5 h _ (okr rfl))))
  ·exact qF rfl g35 (Ae (kJ5 h _ (okr rfl)))
 refine As (fun (s : (List AU) × Bool × Int) => match s with | (y1, y2, y3) => [(1, .str a1), (3, .box [dL AE a0]), (5, .box [nI a2.1, dL Aw a2.2]), (6, .box [oL 114 AO []]), (8, .box [oL 114 AE y1]), (9, .bool y2), (10, nI y3)]) _ _ _ _ hl (okr rfl) (fun _ => rfl) ?_
 rintro m ⟨y1, y2, y3⟩ N h hN
 unfold BP at h
 dsimp only at h
 refine Ac fun K4 hK4 => rn 1 rfl ?_
 rcases Ab h with ⟨g5, h⟩ | ⟨g5, h⟩
 ·refine qT rfl g5 (Ae (hK4 _ (Ac fun K6 hK6 => Aq (rs (sp 3 rfl (?_))))))
  obtain ⟨e7, g8, h⟩ := Aa h
  refine qI rfl C2 g8 (sp 3 rfl (evn (Ac fun K9 hK9 => rk fun K10 hK10 => ?_)))
  have kJ2 : ∀ {x11 : Bool}, EA (Ai (BP a0 a1 a2) m) a1 a2 y1 y2 y3 e7 x11 = some o1 -> Jn K10 [(1, .str a1), (3, .box [dL AE a0]), (5, .box [nI a2.1, dL Aw a2.2]), (6, .box [oL 114 AO []]), (8, .box [oL 114 AE y1]), (9, .bool y2), (10, nI y3), (11, .box [.str e7.1, nI e7.2.1, dL Aw e7.2.2]), (32, .bool x11)] := by
   intro x11 h σ' hk
   unfold EA at h
   refine hK10 _ (lh hk rfl ?_)
   have kJ3 : ∀ {x12 : List AU} {x13 : Bool}, EB (Ai (BP a0 a1 a2) m) a1 y3 e7 x12 x13 = some o1 -> Jn K9 [(1, .str a1), (3, .box [dL AE a0]), (5, .box [nI a2.1, dL Aw a2.2]), (6, .box [oL 114 AO []]), (8, .box [oL 114 AE x12]), (9, .bool x13), (10, nI y3), (11, .box [.str e7.1, nI e7.2.1, dL Aw e7.2.2])] := by
    intro x12 x13 h σ' hk
    unfold EB at h
    refine hK9 _ (lh hk rfl (rn 1 rfl ?_))
    have kJ4 : ∀ {x14 : List AU}, EC (Ai (BP a0 a1 a2) m) y3 x13 x14 = some o1 -> Jn K6 [(1, .str a1), (3, .box [dL AE a0]), (5, .box [nI a2.1, dL Aw a2.2]), (6, .box [oL 114 AO []]), (8, .box [oL 114 AE x14]), (9, .bool x13), (10, nI y3)] := by
     intro x14 h σ' hk
     unfold EC at h
     exact hK6 _ (lh hk rfl (rg (sp 3 rfl (evn (hN _ _ h (okr rfl))))))
    rcases Ab h with ⟨g15, h⟩ | ⟨g15, h⟩
    ·refine qT rfl g15 (rg (sp 3 rfl (qBs AE [e7] rfl rfl rfl C2 (?_))))
     obtain ⟨g16, h⟩ := Ag h
     exact qA AE x12 [e7] rfl rfl (Ao C2 [e7]) rfl g16 (sp 2 rfl (evn (kJ4 h _ (okr rfl))))
    ·exact qF rfl g15 (Ae (kJ4 h _ (okr rfl)))
   rcases Ab h with ⟨g17, h⟩ | ⟨g17, h⟩
   ·refine qT rfl g17 (rs (sp 5 rfl (qBs AE [(a1, a2)] rfl rfl rfl C2 (?_))))
    obtain ⟨g18, h⟩ := Ag h
    exact qA AE y1 [(a1, a2)] rfl rfl (Ao C2 [(a1, a2)]) rfl g18 (sp 2 rfl (evn (rg (sp 1 rfl (evn (kJ3 h _ (okr rfl)))))))
   ·exact qF rfl g17 (Ae (kJ3 h _ (okr rfl)))
  refine sp 3 rfl (?_)
  rcases Ab h with ⟨g19, h⟩ | ⟨g19, h⟩
  ·exact qg 27 g19 rfl (sp 5 rfl (evn (kJ2 h _ (okr rfl))))
  ·exact qg 27 g19 rfl (sp 5 rfl (evn (kJ2 h _ (okr rfl))))
 ·exact qF rfl g5 (Al (kXB1 (Option.some.inj h) _ (okr rfl)))
def GB (a0 : List AU) (a1 : Y42) : Option ((List AU) × Bool) := Ad (Ez a0 a1) fun v1 => cond (!v1.2) (Ad (Ff a0) fun v5 => some (v5, false)) (Ad (Br a0 a1.1) fun v7 => Ad (CF v7.1 v1.1.2.2) fun v9 => Ad (JK v9.1 v1.1.2.1) fun v11 => cond (!v11.2) (Ad (Ff a0) fun v15 => some (v15, false)) (Ad (F2 a0 a1.1 v11.1) fun v17 => some (v17.1, v17.2)))
theorem ML {a0 : List AU} {a1 : Y42} {r : (List AU) × Bool} (h : GB a0 a1 = some r) : Ah Tryz.prog 99 [.agg [dL AE a0], .agg (GN a1)] (.tup [.agg [oL 114 AO r.1], .bool r.2]) := by
 unfold GB at h
 refine st jr rfl (rn 1 rfl (rs (sp 2 rfl (?_))))
 obtain ⟨v1, g2, h⟩ := Aa h
 refine qC (qa rfl (erg (erc (erD AP _) rfl)) (qa rfl (erg (erc rfl (erc rfl (erc (erD AJ _) (erc rfl (erc (erD AJ _) rfl)))))) At)) (KE g2) (sp 6 rfl (evn (Ac fun K3 hK3 => rn 1 rfl ?_)))
 rcases Ab h with ⟨g4, h⟩ | ⟨g4, h⟩
 ·refine qT rfl g4 (rs (sp 1 rfl (?_)))
  obtain ⟨v5, g6, h⟩ := Aa h
  exact qC (qa rfl (erg (erc (erD AP _) rfl)) At) (GV g6) (sp 2 rfl (evn (Af ((by cases h; exact ⟨.inl rfl, rfl⟩)))))
 ·refine qF rfl g4 (Ae (hK3 _ (rs (sp 3 rfl (?_)))))
  obtain ⟨v7, g8, h⟩ := Aa h
  refine qC (qa rfl (erg (erc (erD AP _) rfl)) (qs rfl At)) (DG g8) (sp 6 rfl (evn (qk [2, 3, 4, 6, 8] rfl (rs (sp 3 rfl (?_))))))
  obtain ⟨v9, g10, h⟩ := Aa h
  refine qC (qa rfl (erg (erc rfl (erc (erD Ca _) rfl))) (qa rfl (erg (erc rfl (erc (erD Ca _) rfl))) At)) (Ft g10) (sp 6 rfl (evn (rs (sp 3 rfl (?_)))))
  obtain ⟨v11, g12, h⟩ := Aa h
  refine qC (qa rfl (erg (erc rfl (erc (erD Ca _) rfl))) (qa rfl (erg (erc rfl (erc (erD Ca _) rfl))) At)) (QZ g12) (sp 6 rfl (evn (Ac fun K13 hK13 => rn 1 rfl ?_)))
  rcases Ab h with ⟨g14, h⟩ | ⟨g14, h⟩
  ·refine qT rfl g14 (rs (sp 1 rfl (?_)))
   obtain ⟨v15, g16, h⟩ := Aa h
   exact qC (qa rfl (erg (erc (erD AP _) rfl)) At) (GV g16) (sp 2 rfl (evn (Af ((by cases h; exact ⟨.inl rfl, rfl⟩)))))
  ·refine qF rfl g14 (Ae (hK13 _ (rs (sp 4 rfl (?_)))))
   obtain ⟨v17, g18, h⟩ := Aa h
   exact qC (qa rfl (erg (erc (erD AP _) rfl)) (qs rfl (qa rfl (erg (erc rfl (erc (erD Ca _) rfl))) At))) (Me g18) (sp 6 rfl (evn (qk [4, 14, 15] rfl (rn 1 rfl (Af ((by cases h; exact ⟨.inl rfl, rfl⟩)))))))
def Eu (a0 : Y25) (a1 : Y42) : Option (Y25 × Bool) := Ad (In a0) fun v1 => Ad (BN a0) fun v4 => cond (!v4) (some (v1, false)) (cond ((List.length a0.2 : Int) == 6) (some (v1, false)) (cond (decide (99 < (IntKind.i64.wrap (a0.1 + (List.length a0.2 : Int))))) (some (v1, false)) (Ad (AA a0.2 (IntKind.i64.wrap ((List.length a0.2 : Int) - 1))) fun e9 => Ad (GB e9 a1) fun v11 => cond (!v11.2) (some (v1, false)) (chk (List.length v1.2 + List.length [v11.1] <= lim) (some ((v1.1, v1.2 ++ [v11.1]), true))))))
theorem KA {a0 : Y25} {a1 : Y42} {r : Y25 × Bool} (h : Eu a0 a1 = some r) : Ah Tryz.prog 61 [.agg (C1 a0), .agg (GN a1)] (.tup [.agg (JT r.1), .bool r.2]) := by
 unfold Eu at h
 refine st iT rfl (rn 1 rfl (rs (sp 1 rfl (?_))))
 obtain ⟨v1, g2, h⟩ := Aa h
 refine qC (qa rfl (erg (erc rfl (erc (erD Gb _) rfl))) At) (OL g2) (sp 2 rfl (evn (Ac fun K3 hK3 => rs (sp 1 rfl (?_)))))
 obtain ⟨v4, g5, h⟩ := Aa h
 refine qC (qa rfl (erg (erc rfl (erc (erD Gb _) rfl))) At) (E9 g5) (sp 2 rfl (?_))
 rcases Ab h with ⟨g6, h⟩ | ⟨g6, h⟩
 ·exact qg 14 g6 rfl (sp 14 rfl (evn (qT rfl rfl (rn 1 rfl (Af ((by cases h; exact ⟨.inl rfl, rfl⟩)))))))
 ·refine qg 14 g6 rfl (sp 6 rfl (?_))
  rcases Ab h with ⟨g7, h⟩ | ⟨g7, h⟩
  ·exact qg 20 g7 rfl (sp 8 rfl (evn (qk [2, 3, 4, 6, 28] rfl (qT rfl rfl (rn 1 rfl (Af ((by cases h; exact ⟨.inl rfl, rfl⟩))))))))
  ·refine qg 20 g7 rfl (sp 8 rfl (evn ?_))
   rcases Ab h with ⟨g8, h⟩ | ⟨g8, h⟩
   ·exact qT rfl g8 (rn 1 rfl (Af ((by cases h; exact ⟨.inl rfl, rfl⟩))))
   ·refine qF rfl g8 (Ae (hK3 _ (rd (by kernel_rfl) (sd 6 rfl (?_)))))
    obtain ⟨e9, g10, h⟩ := Aa h
    refine ed rfl (qI rfl HU g10 (sd 2 rfl (?_)))
    obtain ⟨v11, g12, h⟩ := Aa h
    refine ed rfl (qC (qa rfl (erg (erc (erD AP _) rfl)) (qa rfl (erg (erc rfl (erc rfl (erc (erD AJ _) (erc rfl (erc (erD AJ _) rfl)))))) At)) (ML g12) (sd 6 rfl (Cy (qk [4, 6, 7, 8] rfl (Ac fun K13 hK13 => rn 1 rfl ?_)))))
    rcases Ab h with ⟨g14, h⟩ | ⟨g14, h⟩
    ·exact qT rfl g14 (rn 1 rfl (Af ((by cases h; exact ⟨.inl rfl, rfl⟩))))
    ·refine qF rfl g14 (Ae (hK13 _ (rs (sp 3 rfl (qBs Bu [v11.1] rfl rfl rfl GX (?_))))))
     obtain ⟨g15, h⟩ := Ag h
     exact qA Bu v1.2 [v11.1] rfl rfl (Ao GX [v11.1]) rfl g15 (sp 2 rfl (evn (rn 1 rfl (Af ((by cases h; exact ⟨.inl rfl, rfl⟩))))))
def Qp (x : List Int) : List V := [aL An x]
theorem kg (x : List Int) : (Qp x).length = 1 := rfl
theorem XF (x : List Int) : erL (Qp x) = Aw x := (erc (erG Ap _) rfl)
theorem ae (x : List Int) : Mv (Aj x) = Qp x := (fzc (fzO (fun _ => rfl) 3 _) rfl)
def Hz (x : AU) : List V := [.str x.1, nI x.2.1, aL Qp x.2.2]
theorem NC (x : AU) : (Hz x).length = 3 := rfl
theorem KO (x : AU) : erL (Hz x) = AE x := (erc rfl (erc rfl (erc (erG XF _) rfl)))
theorem JO (x : AU) : Mv (AO x) = Hz x := (fzc rfl (fzc rfl (fzc (fzO ae 27 _) rfl)))
def FV (x8 : List Int) (x9 : Int) (x10 : Int) (x11 : List AU) : Option ((List AU) × Y98) := some (x11, (x8, x9, x10))
def JM (a0 : Y98) : Option ((List AU) × Y98) := Ad (JN a0) fun v1 => Ad (AV v1.2 5) fun v3 => Ad (AV v3.2 14) fun v6 => cond (v6.1 == 0) (chk (0 < List.length v1.1) (Ad (Hs v6.2 ([[], [82], [97, 98, 99, 100, 101], [97], [122]])) fun v15 => Ad (AA v1.1 v3.1) fun e17 => FV v15.2.1 v15.2.2.1 v15.2.2.2 (It v1.1 v3.1 (v15.1, e17.2)))) (cond (v6.1 == 1) (chk (0 < List.length v1.1) (Ad (IQ v6.2) fun v22 => Ad (AA v1.1 v3.1) fun e24 => FV v22.2.1 v22.2.2.1 v22.2.2.2 (It v1.1 v3.1 (e24.1, v22.1)))) (cond (v6.1 == 2) (chk (0 < List.length v1.1) (Ad (AA v1.1 v3.1) fun e29 => chk (List.length v1.1 + List.length [e29] <= lim) (FV v6.2.1 v6.2.2.1 v6.2.2.2 (v1.1 ++ [e29])))) (cond (v6.1 == 3) (chk ((0 : Int) <= 0 ∧ 0 <= v3.1 ∧ v3.1 <= (List.length v1.1 : Int)) (FV v6.2.1 v6.2.2.1 v6.2.2.2 (A7 v1.1 0 v3.1))) (FV v6.2.1 v6.2.2.1 v6.2.2.2 v1.1))))
theorem Q0 {a0 : Y98} {r : (List AU) × Y98} (h : JM a0 = some r) : Jm Tryz.prog 63 [aL cu8 a0.1, nI a0.2.1, nI a0.2.2] [] [aL cu8 r.2.1, nI r.2.2.1, nI r.2.2.2] (.agg [aL Hz r.1]) := by
 unfold JM at h
 refine stp iV rfl (rn 1 rfl (rs (sp 1 rfl (?_))))
 obtain ⟨v1, g2, h⟩ := Aa h
 refine qP rfl rfl rfl rfl At (Ou g2) (sp 2 rfl (evn (rs (sp 1 rfl (?_)))))
 obtain ⟨v3, g4, h⟩ := Aa h
 refine qP rfl rfl rfl rfl (qs rfl At) (AN g4) (sp 1 rfl (evn (Ac fun K5 hK5 => rs (sp 1 rfl (?_)))))
 obtain ⟨v6, g7, h⟩ := Aa h
 refine qP rfl rfl rfl rfl (qs rfl At) (AN g7) (evn (Aq (rn 1 rfl ?_)))
 have kJ1 : ∀ {x8 : List Int} {x9 : Int} {x10 : Int} {x11 : List AU}, FV x8 x9 x10 x11 = some r -> Jn K5 [(0, .box [aL cu8 x8, nI x9, nI x10]), (2, .box [oL 114 AO []]), (3, .box [aL Hz x11])] := by
  intro x8 x9 x10 x11 h σ' hk
  unfold FV at h
  exact hK5 _ (lh hk rfl (rn 1 rfl (Af ((by cases h; exact ⟨.inl rfl, rfl, rfl⟩)))))
 rcases Ab h with ⟨g12, h⟩ | ⟨g12, h⟩
 ·refine qT rfl g12 (qk [0, 2, 3, 4] rfl ?_)
  obtain ⟨g13, h⟩ := Ag h
  refine Ks (gLb (q := 900003) (b := 3) [] [] rfl rfl rfl g13 ?_)
  intro gg14 mm14
  refine qk [0, 2, 3, 4, 900003] rfl (LZ (LZ (rgt 6 (by kernel_rfl) (sd 4 rfl (ed rfl (qBk cst [[], [82], [97, 98, 99, 100, 101], [97], [122]] 9 1 (by kernel_rfl) rfl O8 (?_)))))))
  obtain ⟨v15, g16, h⟩ := Aa h
  refine ed rfl (qP rfl rfl rfl rfl (qa rfl (erO gK _) At) (J3 g16) (Cy (Rx ?_)))
  obtain ⟨e17, g18, h⟩ := Aa h
  refine qIt rfl rfl rfl rfl g18 (sp 1 rfl (?_))
  refine qSt (y0 := e17) (i := v3.1) (es := 3) 0 (v15.1, e17.2) [0, 2, 3] rfl rfl rfl rfl rfl rfl rfl rfl rfl rfl Ea g18 (fun x => sdL (Kj x)) (sdL (dcc rfl dcn)) (yc (snc (sA (aca (fun _ => rfl) _)) (snc rfl (snc rfl rfl))) (yc (snc rfl rfl) (yc (snc rfl rfl) yn))) (?_)
  exact evn (gDb (q := 900003) (b := 3) [] [] rfl rfl rfl (sl rfl) (gFb (b := 3) [] [] rfl JO (kJ1 h _ (okr rfl))))
 ·refine qF rfl g12 (rn 1 rfl ?_)
  rcases Ab h with ⟨g19, h⟩ | ⟨g19, h⟩
  ·refine qT rfl g19 (qk [0, 2, 3, 4] rfl ?_)
   obtain ⟨g20, h⟩ := Ag h
   refine Ks (gLb (q := 900003) (b := 3) [] [] rfl rfl rfl g20 ?_)
   intro gg21 mm21
   refine qk [0, 2, 3, 4, 900003] rfl (LZ (LZ (rgt 5 (by kernel_rfl) (sd 4 rfl (?_)))))
   obtain ⟨v22, g23, h⟩ := Aa h
   refine ed rfl (qP rfl rfl rfl rfl At (MX g23) (Cy (Rx ?_)))
   obtain ⟨e24, g25, h⟩ := Aa h
   refine qIt rfl rfl rfl rfl g25 (sp 1 rfl (?_))
   refine qSt (y0 := e24) (i := v3.1) (es := 3) 1 (e24.1, v22.1) [0, 2, 3] rfl rfl rfl rfl rfl rfl rfl rfl rfl rfl Ea g25 (fun x => sdL (Kj x)) (sdL (dcc rfl (dcc (dco Pm 27 _) dcn))) (yc (snc (sA (aca (fun _ => rfl) _)) (snc rfl (snc rfl rfl))) (yc (snc rfl rfl) (yc (snc rfl rfl) yn))) (?_)
   exact evn (gDb (q := 900003) (b := 3) [] [] rfl rfl rfl (sl rfl) (gFb (b := 3) [] [] rfl JO (kJ1 h _ (okr rfl))))
  ·refine qF rfl g19 (rn 1 rfl ?_)
   rcases Ab h with ⟨g26, h⟩ | ⟨g26, h⟩
   ·refine qT rfl g26 (qk [0, 2, 3, 4] rfl (Ks (gFi (b := 3) [] [] rfl JO (qk [0, 2, 3, 4] rfl (qk [0, 2, 3, 4] rfl ?_)))))
    obtain ⟨g27, h⟩ := Ag h
    refine Ks (gLb (q := 900003) (b := 3) [] [] rfl rfl rfl g27 ?_)
    intro gg28 mm28
    refine qk [0, 2, 3, 4, 900003] rfl (LZ (rgt 8 (by kernel_rfl) (sd 5 rfl (?_))))
    obtain ⟨e29, g30, h⟩ := Aa h
    refine ed rfl (qIt rfl rfl rfl rfl g30 (?_))
    refine ed rfl (qLe (i := v3.1) (es := 3) (q := 900003) 0 rfl rfl rfl rfl rfl rfl NC g30 rfl rfl (?_))
    refine ed rfl (qBs Hz [e29] rfl rfl rfl NC (Cy (gDs (q := 900003) (b := 33) rfl rfl rfl rfl ?_)))
    obtain ⟨g31, h⟩ := Ag h
    exact qA Hz v1.1 [e29] rfl rfl (Ao NC [e29]) rfl g31 (sp 2 rfl (evn (gFb (b := 3) [] [] rfl (fun _ => rfl) (kJ1 h _ (okr rfl)))))
   ·refine qF rfl g26 (rn 1 rfl ?_)
    rcases Ab h with ⟨g32, h⟩ | ⟨g32, h⟩
    ·refine qT rfl g32 (qk [0, 2, 3, 4] rfl (Ks (gFb (b := 3) [] [] rfl JO (qk [0, 2, 3, 4] rfl (rg (sp 3 rfl (?_)))))))
     obtain ⟨g33, h⟩ := Ag h
     exact qSa rfl NC g33 (sp 2 rfl (evn (kJ1 h _ (okr rfl))))
    ·exact qF rfl g32 (qk [0, 2, 3] rfl (LZ (Ae (gFb (b := 3) [] [] rfl JO (kJ1 h _ (okr rfl))))))
def JU (x : List AU) : List V := [aL Hz x]
theorem Ta (x : List AU) : (JU x).length = 1 := rfl
theorem Hj (x : List AU) : erL (JU x) = HB x := (erc (erG KO _) rfl)
theorem Q8 (x : List AU) : Mv (Bu x) = JU x := (fzc (fzO JO 114 _) rfl)
theorem YO (x : List Int) : Jo (Qp x) = true := (acc (aca (fun _ => rfl) _) rfl)
theorem NZ (x : AU) : Jo (Hz x) = true := (acc rfl (acc rfl (acc (aca YO _) rfl)))
theorem Uy (x : List AU) : Jo (JU x) = true := (acc (aca NZ _) rfl)
def Pf (x : Y25) : List V := [nI x.1, oL 77 JU x.2]
theorem fc (x : Y25) : (Pf x).length = 2 := rfl
theorem aW (x : Y25) : erL (Pf x) = C1 x := (erc rfl (erc (erO Hj _) rfl))
def GH  (rec : ((List Int) × Int × Int × Int × (List (List AU)) × Int) -> Option ((List Int) × Int × Int × Int × (List (List AU)))) (s : (List Int) × Int × Int × Int × (List (List AU)) × Int) : Option ((List Int) × Int × Int × Int × (List (List AU))) := match s with
  | (y1, y2, y3, y4, y5, y6) => cond (decide (0 < y6)) (Ad (AA y5 (IntKind.i64.wrap ((List.length y5 : Int) - 1))) fun e16 => Ad (GS (y1, y2, y3) e16) fun v18 => Ad (Eu (y4, y5) v18.1) fun v20 => rec (v18.2.1, v18.2.2.1, v18.2.2.2, v20.1.1, v20.1.2, (IntKind.i64.wrap (y6 - 1)))) (some (y1, y2, y3, y4, y5))
def GI (x25 : List Int) (x26 : Int) (x27 : Int) (x28 : Int) (x29 : List (List AU)) : Option (Y25 × Y98) := some ((x28, x29), (x25, x26, x27))
def Hx (a0 : Y98) : Option (Y25 × Y98) := Ad (AV a0 3) fun v1 => Ad (JN v1.2) fun v3 => Ad (AV v3.2 4) fun v6 => Ad (Ai GH fz (v6.2.1, v6.2.2.1, v6.2.2.2, (IntKind.i64.wrap (1 + v1.1)), [v3.1], v6.1)) fun o1 => (match o1 with
  | (z8, z9, z10, z11, z12) => (Ad (AV (z8, z9, z10) 16) fun v23 => cond (v23.1 == 0) (Ad (DA v23.2 [0, 99, 100]) fun v31 => GI v31.2.1 v31.2.2.1 v31.2.2.2 v31.1 z12) (cond (v23.1 == 1) (chk (0 < List.length z12) (Ad (JM v23.2) fun v36 => Ad (AA z12 0) fun e38 => GI v36.2.1 v36.2.2.1 v36.2.2.2 z11 (It z12 0 v36.1))) (GI v23.2.1 v23.2.2.1 v23.2.2.2 z11 z12))))
theorem Lh {a0 : Y98} {r : Y25 × Y98} (h : Hx a0 = some r) : Jm Tryz.prog 30 [aL cu8 a0.1, nI a0.2.1, nI a0.2.2] [] [aL cu8 r.2.1, nI r.2.2.1, nI r.2.2.2] (.agg (Pf r.1)) := by
 unfold Hx at h
 refine stp iz rfl (rn 1 rfl (rs (sp 1 rfl (?_))))
 obtain ⟨v1, g2, h⟩ := Aa h
 refine qP rfl rfl rfl rfl (qs rfl At) (AN g2) (sp 2 rfl (?_))
 obtain ⟨v3, g4, h⟩ := Aa h
 refine qP rfl rfl rfl rfl At (Ou g4) (qBs Bu [v3.1] rfl rfl rfl GX (sp 3 rfl (evn (Ac fun K5 hK5 => rs (sp 1 rfl (?_))))))
 obtain ⟨v6, g7, h⟩ := Aa h
 refine qP rfl rfl rfl rfl (qs rfl At) (AN g7) (sp 1 rfl (evn ?_))
 obtain ⟨o1, hl, hr1⟩ := Aa h
 have kXB1 : ∀ {z8 : List Int} {z9 : Int} {z10 : Int} {z11 : Int} {z12 : List (List AU)}, (z8, z9, z10, z11, z12) = o1 -> Jn K5 [(0, .box [aL cu8 z8, nI z9, nI z10]), (2, .box [nI 0, oL 77 Bu []]), (3, .box [nI z11, oL 77 Bu z12])] := by
  intro z8 z9 z10 z11 z12 h σ' hk
  subst h
  replace h := hr1
  try dsimp only at h
  refine hK5 _ (lh hk rfl (Ac fun K22 hK22 => rs (sp 1 rfl (?_))))
  obtain ⟨v23, g24, h⟩ := Aa h
  refine qP rfl rfl rfl rfl (qs rfl At) (AN g24) (evn (Aq (qk [0, 2, 3, 34] rfl (Ks (gFi (b := 3) [nI z11] [] rfl Q8 (qk [0, 2, 3, 34] rfl (rn 1 rfl ?_)))))))
  have kJ2 : ∀ {x25 : List Int} {x26 : Int} {x27 : Int} {x28 : Int} {x29 : List (List AU)}, GI x25 x26 x27 x28 x29 = some r -> Jn K22 [(0, .box [aL cu8 x25, nI x26, nI x27]), (2, .box [nI 0, oL 77 Bu []]), (3, .box [nI x28, oL 77 JU x29])] := by
   intro x25 x26 x27 x28 x29 h σ' hk
   unfold GI at h
   exact hK22 _ (lh hk rfl (rn 1 rfl (Af ((by cases h; exact ⟨.inl rfl, rfl, rfl⟩)))))
  rcases Ab h with ⟨g30, h⟩ | ⟨g30, h⟩
  ·refine qT rfl g30 (rg (sp 1 rfl (qBs An [0, 99, 100] rfl rfl rfl Ar (?_))))
   obtain ⟨v31, g32, h⟩ := Aa h
   exact qP rfl rfl rfl rfl (qa rfl (erO Ap _) At) (F3 g32) (sp 2 rfl (evn (kJ2 h _ (okr rfl))))
  ·refine qF rfl g30 (rn 1 rfl ?_)
   rcases Ab h with ⟨g33, h⟩ | ⟨g33, h⟩
   ·refine qT rfl g33 (qk [0, 2, 3] rfl ?_)
    obtain ⟨g34, h⟩ := Ag h
    refine Ks (gLb (q := 900003) (b := 3) [nI z11] [] rfl rfl rfl g34 ?_)
    intro gg35 mm35
    refine qk [0, 2, 3, 900003] rfl (LZ (rgt 4 (by kernel_rfl) (sd 3 rfl (?_))))
    obtain ⟨v36, g37, h⟩ := Aa h
    refine ed rfl (qP rfl rfl rfl rfl At (Q0 g37) (Cy (Rx ?_)))
    obtain ⟨e38, g39, h⟩ := Aa h
    refine qIt rfl rfl rfl rfl g39 (?_)
    refine qSt (y0 := e38) (i := 0) (es := 1) 0 v36.1 [0, 2, 3] rfl rfl rfl rfl rfl rfl rfl rfl rfl rfl Ta g39 (fun x => sdA (Uy x)) (sdA (acc (aca NZ _) rfl)) (yc (snc (sA (aca (fun _ => rfl) _)) (snc rfl (snc rfl rfl))) (yc (snc rfl (snc rfl rfl)) (yc (snc rfl (snc rfl rfl)) yn))) (?_)
    exact evn (gDb (q := 900003) (b := 3) [nI z11] [] rfl rfl rfl (sl rfl) (kJ2 h _ (okr rfl)))
   ·exact qF rfl g33 (Ae (kJ2 h _ (okr rfl)))
 refine As (fun (s : (List Int) × Int × Int × Int × (List (List AU)) × Int) => match s with | (y1, y2, y3, y4, y5, y6) => [(0, .box [aL cu8 y1, nI y2, nI y3]), (2, .box [nI 0, oL 77 Bu []]), (3, .box [nI y4, oL 77 Bu y5]), (4, nI y6)]) _ _ _ _ hl (okr rfl) (fun _ => rfl) ?_
 rintro m ⟨y1, y2, y3, y4, y5, y6⟩ N h hN
 unfold GH at h
 dsimp only at h
 refine Ac fun K13 hK13 => rn 1 rfl ?_
 rcases Ab h with ⟨g14, h⟩ | ⟨g14, h⟩
 ·refine qT rfl g14 (Ae (hK13 _ (Ac fun K15 hK15 => Aq (rgd (by kernel_rfl) (sd 8 rfl (?_))))))
  obtain ⟨e16, g17, h⟩ := Aa h
  refine ed rfl (qI rfl GX g17 (sd 1 rfl (?_)))
  obtain ⟨v18, g19, h⟩ := Aa h
  refine ed rfl (qP rfl rfl rfl rfl (qa rfl (erg (erc (erD LI _) rfl)) At) (KH g19) (?_))
  obtain ⟨v20, g21, h⟩ := Aa h
  exact ed rfl (qC (qa rfl (erg (erc rfl (erc (erD Po _) rfl))) (qa rfl (erg (erc rfl (erc rfl (erc (erO Ca _) (erc rfl (erc (erD AJ _) rfl)))))) At)) (KA g21) (sd 4 rfl (Cy (hK15 _ (rg (sp 3 rfl (evn (hN _ _ h (okr rfl)))))))))
 ·exact qF rfl g14 (Al (kXB1 (Option.some.inj h) _ (okr rfl)))
abbrev Gn := (List UInt8) × (List Int)
abbrev Y29 := Int × (List Gn) × (List Int)
def Bt (x : Gn) : List V := [.str x.1, dL An x.2]
theorem FG (x : Gn) : (Bt x).length = 2 := rfl
theorem Cn (x : Gn) : erL (Bt x) = Bt x := (erc rfl (erc (erD Ap _) rfl))
def A5 (x : Gn) : List V := [.str x.1, oL 3 An x.2]
theorem KK (x : Gn) : (A5 x).length = 2 := rfl
theorem Jp (x : Gn) : erL (A5 x) = Bt x := (erc rfl (erc (erO Ap _) rfl))
def CZ (x : Y29) : List V := [nI x.1, dL Bt x.2.1, dL An x.2.2]
theorem fM (x : Y29) : (CZ x).length = 3 := rfl
theorem fw (x : Y29) : erL (CZ x) = CZ x := (erc rfl (erc (erD Cn _) (erc (erD Ap _) rfl)))
def Mq (x : Y29) : List V := [nI x.1, oL 109 A5 x.2.1, oL 3 An x.2.2]
theorem fN (x : Y29) : (Mq x).length = 3 := rfl
theorem fx (x : Y29) : erL (Mq x) = CZ x := (erc rfl (erc (erO Jp _) (erc (erO Ap _) rfl)))
def H6 (a0 : Y29) (rec : ((List Gn) × Int) -> Option ((List Gn))) (s : (List Gn) × Int) : Option ((List Gn)) := match s with
  | (y1, y2) => cond (decide (y2 < (List.length a0.2.1 : Int))) (Ad (AA a0.2.1 y2) fun e7 => Ad (AA a0.2.1 y2) fun e9 => chk (List.length ([] : List Int) + List.length e9.2 <= lim) (chk (List.length y1 + List.length ([(e7.1, ([] : List Int) ++ e9.2)]) <= lim) (rec ((y1 ++ ([(e7.1, ([] : List Int) ++ e9.2)])), (IntKind.i64.wrap (y2 + 1)))))) (some y1)
def HY (a0 : Y29) : Option (Y29) := chk (List.length ([] : List Int) + List.length a0.2.2 <= lim) (Ad (Ai (H6 a0) fz (([] : List Gn), 0)) fun z3 => some (a0.1, z3, ([] : List Int) ++ a0.2.2))
theorem Mf {a0 : Y29} {r : Y29} (h : HY a0 = some r) : Ah Tryz.prog 70 [.agg (CZ a0)] (.agg (Mq r)) := by
 unfold HY at h
 refine st i7 rfl (rn 1 rfl (rd (by kernel_rfl) (sd 2 rfl (ed rfl (qBs An [] rfl rfl rfl Ar (sd 2 rfl (?_)))))))
 obtain ⟨g1, h⟩ := Ag h
 refine ed rfl (qA An ([] : List Int) a0.2.2 rfl rfl (Ao Ar a0.2.2) (Gi (fun _ => rfl) _) g1 (sd 3 rfl (Cy (Ac fun K2 hK2 => rn 1 rfl ?_))))
 obtain ⟨o1, hl, hr1⟩ := Aa h
 have kXB1 : ∀ {z3 : List Gn}, z3 = o1 -> Jn K2 [(2, .box [nI 0, oL 109 A5 [], oL 3 An []]), (3, .box [nI a0.1, oL 109 A5 z3, oL 3 An (([] : List Int) ++ a0.2.2)])] := by
  intro z3 h σ' hk
  subst h
  replace h := hr1
  try dsimp only at h
  exact hK2 _ (lh hk rfl (rn 1 rfl (Af ((by cases h; exact ⟨.inl rfl, rfl⟩)))))
 refine As (fun (s : (List Gn) × Int) => match s with | (y1, y2) => [(1, .box [nI a0.1, dL Bt a0.2.1, dL An a0.2.2]), (2, .box [nI 0, oL 109 A5 [], oL 3 An []]), (3, .box [nI a0.1, oL 109 A5 y1, oL 3 An (([] : List Int) ++ a0.2.2)]), (4, nI y2)]) _ _ _ _ hl (okr rfl) (fun _ => rfl) ?_
 rintro m ⟨y1, y2⟩ N h hN
 unfold H6 at h
 dsimp only at h
 refine Ac fun K4 hK4 => rn 1 rfl ?_
 rcases Ab h with ⟨g5, h⟩ | ⟨g5, h⟩
 ·refine qT rfl g5 (Ae (hK4 _ (Ac fun K6 hK6 => Aq (rgd (by kernel_rfl) (sd 5 rfl (?_))))))
  obtain ⟨e7, g8, h⟩ := Aa h
  refine ed rfl (qI rfl FG g8 (sd 2 rfl (ed rfl (qBs An [] rfl rfl rfl Ar (sd 3 rfl (?_))))))
  obtain ⟨e9, g10, h⟩ := Aa h
  refine ed rfl (qI rfl FG g10 (sd 2 rfl (?_)))
  obtain ⟨g11, h⟩ := Ag h
  refine ed rfl (qA An ([] : List Int) e9.2 rfl rfl (Ao Ar e9.2) (Gi (fun _ => rfl) _) g11 (sd 1 rfl (ed rfl (qBs A5 [(e7.1, ([] : List Int) ++ e9.2)] rfl rfl rfl KK (?_)))))
  obtain ⟨g12, h⟩ := Ag h
  exact ed rfl (qA A5 y1 ([(e7.1, ([] : List Int) ++ e9.2)]) rfl rfl (Ao KK ([(e7.1, ([] : List Int) ++ e9.2)])) rfl g12 (sd 2 rfl (Cy (hK6 _ (rg (sp 3 rfl (evn (hN _ _ h (okr rfl)))))))))
 ·exact qF rfl g5 (Al (kXB1 (Option.some.inj h) _ (okr rfl)))
abbrev Y31 := Int × (List Int) × (List Int) × Y29
def FW (x : Y31) : List V := [nI x.1, dL An x.2.1, dL An x.2.2.1, nI x.2.2.2.1, dL Bt x.2.2.2.2.1, dL An x.2.2.2.2.2]
theorem TJ (x : Y31) : (FW x).length = 6 := rfl
theorem af (x : Y31) : erL (FW x) = FW x := (erc rfl (erc (erD Ap _) (erc (erD Ap _) (erc rfl (erc (erD Cn _) (erc (erD Ap _) rfl))))))
def HA (x : Y31) : List V := [nI x.1, oL 3 An x.2.1, oL 3 An x.2.2.1, nI x.2.2.2.1, oL 109 A5 x.2.2.2.2.1, oL 3 An x.2.2.2.2.2]
theorem TK (x : Y31) : (HA x).length = 6 := rfl
theorem Tm (x : Y31) : erL (HA x) = FW x := (erc rfl (erc (erO Ap _) (erc (erO Ap _) (erc rfl (erc (erO Jp _) (erc (erO Ap _) rfl))))))
def Hh (a0 : Y31) : Option (Y31) := chk (List.length ([] : List Int) + List.length a0.2.1 <= lim) (chk (List.length ([] : List Int) + List.length a0.2.2.1 <= lim) (Ad (HY a0.2.2.2) fun v3 => some (a0.1, ([] : List Int) ++ a0.2.1, ([] : List Int) ++ a0.2.2.1, v3)))
theorem Nh {a0 : Y31} {r : Y31} (h : Hh a0 = some r) : Ah Tryz.prog 36 [.agg (FW a0)] (.agg (HA r)) := by
 unfold Hh at h
 refine st iF rfl (rn 1 rfl (rd (by kernel_rfl) (sd 2 rfl (ed rfl (qBs An [] rfl rfl rfl Ar (sd 2 rfl (?_)))))))
 obtain ⟨g1, h⟩ := Ag h
 refine ed rfl (qA An ([] : List Int) a0.2.1 rfl rfl (Ao Ar a0.2.1) (Gi (fun _ => rfl) _) g1 (ed rfl (qBs An [] rfl rfl rfl Ar (sd 2 rfl (?_)))))
 obtain ⟨g2, h⟩ := Ag h
 refine ed rfl (qA An ([] : List Int) a0.2.2.1 rfl rfl (Ao Ar a0.2.2.1) (Gi (fun _ => rfl) _) g2 (sd 2 rfl (?_)))
 obtain ⟨v3, g4, h⟩ := Aa h
 exact ed rfl (qC (qa rfl (erg (erc rfl (erc (erD Cn _) (erc (erD Ap _) rfl)))) At) (Mf g4) (sd 2 rfl (Cy (Af ((by cases h; exact ⟨.inl rfl, rfl⟩))))))
def GG (a0 : Y25) (a1 : Int) : Option ((List AU) × Bool) := Ad (BN a0) fun v2 => cond (!v2) (some ([], false)) (Ad (Dh a1 a0.1 (IntKind.i64.wrap ((IntKind.i64.wrap (a0.1 + (List.length a0.2 : Int))) - 1))) fun v5 => cond (!v5) (some ([], false)) (Ad (AA a0.2 (IntKind.i64.wrap (a1 - a0.1))) fun e8 => Ad (Ff e8) fun v10 => some (v10, true)))
theorem MP {a0 : Y25} {a1 : Int} {r : (List AU) × Bool} (h : GG a0 a1 = some r) : Ah Tryz.prog 37 [.agg (C1 a0), nI a1] (.tup [.agg [oL 114 AO r.1], .bool r.2]) := by
 unfold GG at h
 refine st iG rfl (rn 1 rfl (Ac fun K1 hK1 => rs (sp 1 rfl (?_))))
 obtain ⟨v2, g3, h⟩ := Aa h
 refine qC (qa rfl (erg (erc rfl (erc (erD Gb _) rfl))) At) (E9 g3) (sp 2 rfl (?_))
 rcases Ab h with ⟨g4, h⟩ | ⟨g4, h⟩
 ·exact qg 9 g4 rfl (sp 13 rfl (evn (qT rfl rfl (rn 1 rfl (Af ((by cases h; exact ⟨.inl rfl, rfl⟩)))))))
 ·refine qg 9 g4 rfl (sp 10 rfl (?_))
  obtain ⟨v5, g6, h⟩ := Aa h
  refine oGR rfl rfl (qC (qs rfl (qs rfl (qs rfl At))) (CJ g6) (sp 2 rfl (evn (qk [1, 2, 4, 22] rfl ?_))))
  rcases Ab h with ⟨g7, h⟩ | ⟨g7, h⟩
  ·exact qT rfl g7 (rn 1 rfl (Af ((by cases h; exact ⟨.inl rfl, rfl⟩))))
  ·refine qF rfl g7 (Ae (hK1 _ (rs (sp 6 rfl (?_)))))
   obtain ⟨e8, g9, h⟩ := Aa h
   refine qI rfl HU g9 (sp 1 rfl (?_))
   obtain ⟨v10, g11, h⟩ := Aa h
   exact qC (qa rfl (erg (erc (erD AP _) rfl)) At) (GV g11) (sp 2 rfl (evn (Af ((by cases h; exact ⟨.inl rfl, rfl⟩)))))
def DS (a0 : Gn) (a1 : Int) (rec : Int -> Option (Sum (Unit) (Bool))) (y1 : Int) : Option (Sum (Unit) (Bool)) := cond (decide (y1 < (List.length a0.2 : Int))) (Ad (AA a0.2 y1) fun e5 => cond (e5 == a1) (some (.inr true)) (rec (IntKind.i64.wrap (y1 + 1)))) (some (.inl ()))
def Bl (a0 : Gn) (a1 : Int) : Option (Bool) := Ad (Ai (DS a0 a1) fz 0) fun o1 => (match o1 with
  | .inl _ => (some false)
  | .inr r => some r)
theorem D9 {a0 : Gn} {a1 : Int} {r : Bool} (h : Bl a0 a1 = some r) : Ah Tryz.prog 140 [.agg (Bt a0), nI a1] (.bool r) := by
 unfold Bl at h
 refine st cw rfl (rn 1 rfl (Ac fun K1 hK1 => rn 1 rfl ?_))
 obtain ⟨o1, hl, hr1⟩ := Aa h
 have kXB1 : (.inl ()) = o1 -> Jn K1 [] := by
  intro h σ' hk
  subst h
  replace h := hr1
  try dsimp only at h
  exact hK1 _ (lh hk rfl (rn 1 rfl (Af ((by cases h; exact ⟨.inl rfl, rfl⟩)))))
 refine As (fun (y1 : Int) => [(1, nI a1), (2, .box [.str a0.1, dL An a0.2]), (5, nI y1)]) _ _ _ _ hl (okr rfl) (fun _ => rfl) ?_
 rintro m y1 N h hN
 unfold DS at h
 refine Ac fun K2 hK2 => rn 1 rfl ?_
 rcases Ab h with ⟨g3, h⟩ | ⟨g3, h⟩
 ·refine qT rfl g3 (Ae (hK2 _ (Ac fun K4 hK4 => Aq (rs (sp 3 rfl (?_))))))
  obtain ⟨e5, g6, h⟩ := Aa h
  refine qI rfl Ar g6 (sp 3 rfl (evn ?_))
  rcases Ab h with ⟨g7, h⟩ | ⟨g7, h⟩
  ·exact qT rfl g7 (rn 1 rfl (Af ((by cases h; cases hr1; exact ⟨.inl rfl, rfl⟩))))
  ·exact qF rfl g7 (Ae (hK4 _ (rg (sp 3 rfl (evn (hN _ _ h (okr rfl)))))))
 ·exact qF rfl g3 (Al (kXB1 (Option.some.inj h) _ trivial))
def H7 (a0 : List Int) (a1 : Int) (rec : Int -> Option (Sum (Unit) (Int))) (y1 : Int) : Option (Sum (Unit) (Int)) := cond (decide (y1 < (List.length a0 : Int))) (Ad (AA a0 y1) fun e5 => cond (e5 == a1) (some (.inr y1)) (rec (IntKind.i64.wrap (y1 + 1)))) (some (.inl ()))
def Fh (a0 : List Int) (a1 : Int) : Option (Int) := Ad (Ai (H7 a0 a1) fz 0) fun o1 => (match o1 with
  | .inl _ => (some (-1))
  | .inr r => some r)
theorem GW {a0 : List Int} {a1 : Int} {r : Int} (h : Fh a0 a1 = some r) : Ah Tryz.prog 141 [dL An a0, nI a1] (nI r) := by
 unfold Fh at h
 refine st cx rfl (rn 1 rfl (Ac fun K1 hK1 => rn 1 rfl ?_))
 obtain ⟨o1, hl, hr1⟩ := Aa h
 have kXB1 : (.inl ()) = o1 -> Jn K1 [] := by
  intro h σ' hk
  subst h
  replace h := hr1
  try dsimp only at h
  exact hK1 _ (lh hk rfl (rn 1 rfl (Af ((by cases h; exact ⟨.inl rfl, rfl⟩)))))
 refine As (fun (y1 : Int) => [(0, dL An a0), (1, nI a1), (5, nI y1)]) _ _ _ _ hl (okr rfl) (fun _ => rfl) ?_
 rintro m y1 N h hN
 unfold H7 at h
 refine Ac fun K2 hK2 => rn 1 rfl ?_
 rcases Ab h with ⟨g3, h⟩ | ⟨g3, h⟩
 ·refine qT rfl g3 (Ae (hK2 _ (Ac fun K4 hK4 => Aq (rs (sp 2 rfl (?_))))))
  obtain ⟨e5, g6, h⟩ := Aa h
  refine qI rfl Ar g6 (sp 3 rfl (evn ?_))
  rcases Ab h with ⟨g7, h⟩ | ⟨g7, h⟩
  ·exact qT rfl g7 (rn 1 rfl (Af ((by cases h; cases hr1; exact ⟨.inl rfl, rfl⟩))))
  ·exact qF rfl g7 (Ae (hK4 _ (rg (sp 3 rfl (evn (hN _ _ h (okr rfl)))))))
 ·exact qF rfl g3 (Al (kXB1 (Option.some.inj h) _ trivial))
end Go.Proofs.YtlknpohjnpnodaaGreat
