/-
  Functions of the program as typed functions, printed by gen.py, and that the program's functions do what they say. No conditions.
-/
import Derived.Test.YtlknpohjnpnodaaGreatGSSC1
namespace Go.Proofs.YtlknpohjnpnodaaGreat
open Go.RowKit
set_option linter.unusedVariables false
set_option maxRecDepth 100000
set_option maxHeartbeats 1000000
def Fk (a0 : Y29) (y2 : Int) (rec : Int -> Option (Sum (Unit) (Bool))) (y4 : Int) : Option (Sum (Unit) (Bool)) := Ad (AA a0.2.1 y2) fun e25 => cond (decide (y4 < (List.length e25.2 : Int))) (Ad (AA a0.2.1 y2) fun e29 => Ad (AA e29.2 y4) fun e31 => Ad (Dh e31 0 (IntKind.i64.wrap (a0.1 - 1))) fun v33 => cond (!v33) (some (.inr false)) (rec (IntKind.i64.wrap (y4 + 1)))) (some (.inl ()))
def D1 (a0 : Y29) (rec : Int -> Option (Sum (Unit) (Bool))) (y2 : Int) : Option (Sum (Unit) (Bool)) := cond (decide (y2 < (List.length a0.2.1 : Int))) (Ad (AA a0.2.1 y2) fun e14 => Ad (EW e14.1) fun v16 => cond (!v16) (some (.inr false)) (Ad (AA a0.2.1 y2) fun e19 => Ad (Dh (List.length e19.2 : Int) 1 5) fun v21 => cond (!v21) (some (.inr false)) (Ad (Ai (Fk a0 y2) fz 0) fun o2 => (match o2 with
  | .inl _ => (rec (IntKind.i64.wrap (y2 + 1)))
  | .inr r => some (.inr r))))) (some (.inl ()))
def D4 (rec : (Bool × Int) -> Option (Bool)) (y11 : Int) (x45 : Bool) : Option (Bool) := rec (x45, (IntKind.i64.wrap (y11 + 1)))
def B8 (a0 : Y29) (y7 : Int) (rec : (Bool × Int) -> Option (Bool)) (s : Bool × Int) : Option (Bool) := match s with
  | (y10, y11) => cond (decide (y11 < (List.length a0.2.1 : Int))) (cond y10 (D4 rec y11 true) (Ad (AA a0.2.1 y11) fun e47 => Ad (Bl e47 y7) fun v49 => D4 rec y11 v49)) (some y10)
def D2 (a0 : Y29) (rec : Int -> Option (Sum (Unit) (Bool))) (y7 : Int) : Option (Sum (Unit) (Bool)) := cond (decide (y7 < a0.1)) (Ad (Ai (B8 a0 y7) fz (false, 0)) fun z41 => cond (!z41) (some (.inr false)) (rec (IntKind.i64.wrap (y7 + 1)))) (some (.inl ()))
def D3 (a0 : Y29) (rec : Int -> Option (Sum (Unit) (Bool))) (y12 : Int) : Option (Sum (Unit) (Bool)) := cond (decide (y12 < (List.length a0.2.2 : Int))) (Ad (AA a0.2.2 y12) fun e56 => Ad (Dh e56 0 (IntKind.i64.wrap (a0.1 - 1))) fun v58 => cond (!v58) (some (.inr false)) (chk ((0 : Int) <= 0 ∧ 0 <= y12 ∧ y12 <= (List.length a0.2.2 : Int)) (Ad (AA a0.2.2 y12) fun e62 => Ad (Fh (A7 a0.2.2 0 y12) e62) fun v64 => cond (decide (0 <= v64)) (some (.inr false)) (rec (IntKind.i64.wrap (y12 + 1)))))) (some (.inl ()))
def BC (a0 : Y29) : Option (Bool) := Ad (Dh a0.1 1 5) fun v2 => cond (!v2) (some false) (Ad (Dh (List.length a0.2.1 : Int) 1 4) fun v5 => cond (!v5) (some false) (cond (decide (a0.1 < (List.length a0.2.2 : Int))) (some false) (Ad (Ai (D1 a0) fz 0) fun o1 => (match o1 with
  | .inl _ => (Ad (Ai (D2 a0) fz 0) fun o3 => (match o3 with
  | .inl _ => (Ad (Ai (D3 a0) fz 0) fun o6 => (match o6 with
  | .inl _ => (some true)
  | .inr r => some r))
  | .inr r => some r))
  | .inr r => some r))))
theorem Ds {a0 : Y29} {r : Bool} (h : BC a0 = some r) : Ah Tryz.prog 101 [.agg (CZ a0)] (.bool r) := by
 unfold BC at h
 refine st bM rfl (rn 1 rfl (Ac fun K1 hK1 => rs (sp 2 rfl (?_))))
 obtain ⟨v2, g3, h⟩ := Aa h
 refine qC (qs rfl (qs rfl (qs rfl At))) (CJ g3) (sp 2 rfl (?_))
 rcases Ab h with ⟨g4, h⟩ | ⟨g4, h⟩
 ·exact qg 13 g4 rfl (sp 14 rfl (evn (qT rfl rfl (rn 1 rfl (Af ((by cases h; exact ⟨.inl rfl, rfl⟩)))))))
 ·refine qg 13 g4 rfl (sp 3 rfl (?_))
  obtain ⟨v5, g6, h⟩ := Aa h
  refine oGR rfl rfl (qC (qs rfl (qs rfl (qs rfl At))) (CJ g6) (sp 3 rfl (?_)))
  rcases Ab h with ⟨g7, h⟩ | ⟨g7, h⟩
  ·exact qg 20 g7 rfl (sp 7 rfl (evn (qk [1, 27] rfl (qT rfl rfl (rn 1 rfl (Af ((by cases h; exact ⟨.inl rfl, rfl⟩))))))))
  ·refine qg 20 g7 rfl (sp 7 rfl (evn ?_))
   rcases Ab h with ⟨g8, h⟩ | ⟨g8, h⟩
   ·exact qT rfl g8 (rn 1 rfl (Af ((by cases h; exact ⟨.inl rfl, rfl⟩))))
   ·refine qF rfl g8 (Ae (hK1 _ (Ac fun K9 hK9 => rn 1 rfl ?_)))
    obtain ⟨o1, hl, hr1⟩ := Aa h
    have kXB1 : (.inl ()) = o1 -> Jn K9 [(1, .box [nI a0.1, dL Bt a0.2.1, dL An a0.2.2])] := by
     intro h σ' hk
     subst h
     replace h := hr1
     try dsimp only at h
     refine hK9 _ (lh hk rfl (Ac fun K36 hK36 => rn 1 rfl ?_))
     obtain ⟨o3, hl, hr3⟩ := Aa h
     have kXB3 : (.inl ()) = o3 -> Jn K36 [(1, .box [nI a0.1, dL Bt a0.2.1, dL An a0.2.2])] := by
      intro h σ' hk
      subst h
      replace h := hr3
      try dsimp only at h
      refine hK36 _ (lh hk rfl (Ac fun K52 hK52 => rn 1 rfl ?_))
      obtain ⟨o6, hl, hr6⟩ := Aa h
      have kXB6 : (.inl ()) = o6 -> Jn K52 [] := by
       intro h σ' hk
       subst h
       replace h := hr6
       try dsimp only at h
       exact hK52 _ (lh hk rfl (rn 1 rfl (Af ((by cases h; exact ⟨.inl rfl, rfl⟩)))))
      refine As (fun (y12 : Int) => [(1, .box [nI a0.1, dL Bt a0.2.1, dL An a0.2.2]), (8, nI y12)]) _ _ _ _ hl (okr rfl) (fun _ => rfl) ?_
      rintro m y12 N h hN
      unfold D3 at h
      refine Ac fun K53 hK53 => rn 1 rfl ?_
      rcases Ab h with ⟨g54, h⟩ | ⟨g54, h⟩
      ·refine qT rfl g54 (Ae (hK53 _ (Ac fun K55 hK55 => Aq (rd (by kernel_rfl) (sd 3 rfl (?_))))))
       obtain ⟨e56, g57, h⟩ := Aa h
       refine ed rfl (qI rfl Ar g57 (sd 4 rfl (?_)))
       obtain ⟨v58, g59, h⟩ := Aa h
       refine ed rfl (qC (qs rfl (qs rfl (qs rfl At))) (CJ g59) (sd 2 rfl (?_)))
       rcases Ab h with ⟨g60, h⟩ | ⟨g60, h⟩
       ·exact qgd 121 g60 rfl (sd 12 rfl (Cy (qT rfl rfl (rn 1 rfl (qk [2] rfl (Af ((by cases h; cases hr6; exact ⟨.inl rfl, rfl⟩))))))))
       ·refine qgd 121 g60 rfl (sd 3 rfl (?_))
        obtain ⟨g61, h⟩ := Ag h
        refine ed rfl (oGR rfl rfl (qSl rfl Ar g61 (sd 3 rfl (?_))))
        obtain ⟨e62, g63, h⟩ := Aa h
        refine ed rfl (oGR rfl rfl (qI rfl Ar g63 (sd 1 rfl (?_))))
        obtain ⟨v64, g65, h⟩ := Aa h
        refine ed rfl (oGR rfl rfl (qC (qa rfl (erD Ap _) (qs rfl At)) (GW g65) (sd 2 rfl (Cy ?_))))
        rcases Ab h with ⟨g66, h⟩ | ⟨g66, h⟩
        ·exact qT rfl g66 (rn 1 rfl (Af ((by cases h; cases hr6; exact ⟨.inl rfl, rfl⟩))))
        ·exact qF rfl g66 (Ae (hK55 _ (rg (sp 3 rfl (evn (hN _ _ h (okr rfl)))))))
      ·exact qF rfl g54 (Al (kXB6 (Option.some.inj h) _ trivial))
     refine As (fun (y7 : Int) => [(1, .box [nI a0.1, dL Bt a0.2.1, dL An a0.2.2]), (5, nI y7)]) _ _ _ _ hl (okr rfl) (fun _ => rfl) ?_
     rintro m y7 N h hN
     unfold D2 at h
     refine Ac fun K37 hK37 => rn 1 rfl ?_
     rcases Ab h with ⟨g38, h⟩ | ⟨g38, h⟩
     ·refine qT rfl g38 (Ae (hK37 _ (Ac fun K39 hK39 => Aq (rn 1 rfl (Ac fun K40 hK40 => rn 1 rfl ?_)))))
      obtain ⟨o4, hl, hr4⟩ := Aa h
      have kXB4 : ∀ {z41 : Bool}, z41 = o4 -> Jn K40 [(1, .box [nI a0.1, dL Bt a0.2.1, dL An a0.2.2]), (5, nI y7), (6, .bool z41)] := by
       intro z41 h σ' hk
       subst h
       replace h := hr4
       try dsimp only at h
       refine hK40 _ (lh hk rfl (rn 1 rfl ?_))
       rcases Ab h with ⟨g51, h⟩ | ⟨g51, h⟩
       ·exact qT rfl g51 (rn 1 rfl (Af ((by cases h; cases hr3; exact ⟨.inl rfl, rfl⟩))))
       ·exact qF rfl g51 (Ae (hK39 _ (rg (sp 3 rfl (evn (hN _ _ h (okr rfl)))))))
      refine As (fun (s : Bool × Int) => match s with | (y10, y11) => [(1, .box [nI a0.1, dL Bt a0.2.1, dL An a0.2.2]), (5, nI y7), (6, .bool y10), (7, nI y11)]) _ _ _ _ hl (okr rfl) (fun _ => rfl) ?_
      rintro m ⟨y10, y11⟩ N h hN
      unfold B8 at h
      dsimp only at h
      refine Ac fun K42 hK42 => rn 1 rfl ?_
      rcases Ab h with ⟨g43, h⟩ | ⟨g43, h⟩
      ·refine qT rfl g43 (Ae (hK42 _ (Ac fun K44 hK44 => Aq ?_)))
       have kJ5 : ∀ {x45 : Bool}, D4 (Ai (B8 a0 y7) m) y11 x45 = some o4 -> Jn K44 [(1, .box [nI a0.1, dL Bt a0.2.1, dL An a0.2.2]), (5, nI y7), (6, .bool x45), (7, nI y11)] := by
        intro x45 h σ' hk
        unfold D4 at h
        exact hK44 _ (lh hk rfl (rg (sp 3 rfl (evn (hN _ _ h (okr rfl))))))
       refine rg (sp 2 rfl (?_))
       rcases Ab h with ⟨g46, h⟩ | ⟨g46, h⟩
       ·exact qg 93 g46 rfl (sp 9 rfl (evn (kJ5 h _ (okr rfl))))
       ·refine qg 93 g46 rfl (sp 3 rfl (?_))
        obtain ⟨e47, g48, h⟩ := Aa h
        refine oGR rfl rfl (qI rfl FG g48 (sp 2 rfl (?_)))
        obtain ⟨v49, g50, h⟩ := Aa h
        exact oGR rfl rfl (qC (qa rfl (erg (erc rfl (erc (erD Ap _) rfl))) (qs rfl At)) (D9 g50) (sp 2 rfl (evn (kJ5 h _ (okr rfl)))))
      ·exact qF rfl g43 (Al (kXB4 (Option.some.inj h) _ (okr rfl)))
     ·exact qF rfl g38 (Al (kXB3 (Option.some.inj h) _ (okr rfl)))
    refine As (fun (y2 : Int) => [(1, .box [nI a0.1, dL Bt a0.2.1, dL An a0.2.2]), (3, nI y2)]) _ _ _ _ hl (okr rfl) (fun _ => rfl) ?_
    rintro m y2 N h hN
    unfold D1 at h
    refine Ac fun K10 hK10 => rn 1 rfl ?_
    rcases Ab h with ⟨g11, h⟩ | ⟨g11, h⟩
    ·refine qT rfl g11 (Ae (hK10 _ (Ac fun K12 hK12 => Aq (Ac fun K13 hK13 => rs (sp 3 rfl (?_))))))
     obtain ⟨e14, g15, h⟩ := Aa h
     refine qI rfl FG g15 (sp 2 rfl (?_))
     obtain ⟨v16, g17, h⟩ := Aa h
     refine qC (qs rfl At) (Jh g17) (sp 2 rfl (?_))
     rcases Ab h with ⟨g18, h⟩ | ⟨g18, h⟩
     ·exact qg 43 g18 rfl (sp 10 rfl (evn (qT rfl rfl (rn 1 rfl (Af ((by cases h; cases hr1; exact ⟨.inl rfl, rfl⟩)))))))
     ·refine qg 43 g18 rfl (sp 3 rfl (?_))
      obtain ⟨e19, g20, h⟩ := Aa h
      refine oGR rfl rfl (qI rfl FG g20 (sp 3 rfl (?_)))
      obtain ⟨v21, g22, h⟩ := Aa h
      refine oGR rfl rfl (qC (qs rfl (qs rfl (qs rfl At))) (CJ g22) (sp 2 rfl (evn (qk [1, 3, 53] rfl ?_))))
      rcases Ab h with ⟨g23, h⟩ | ⟨g23, h⟩
      ·exact qT rfl g23 (rn 1 rfl (Af ((by cases h; cases hr1; exact ⟨.inl rfl, rfl⟩))))
      ·refine qF rfl g23 (Ae (hK13 _ (rn 1 rfl ?_)))
       obtain ⟨o2, hl, hr2⟩ := Aa h
       have kXB2 : (.inl ()) = o2 -> Jn K12 [(1, .box [nI a0.1, dL Bt a0.2.1, dL An a0.2.2]), (3, nI y2)] := by
        intro h σ' hk
        subst h
        replace h := hr2
        try dsimp only at h
        exact hK12 _ (lh hk rfl (rg (sp 3 rfl (evn (hN _ _ h (okr rfl))))))
       refine As (fun (y4 : Int) => [(1, .box [nI a0.1, dL Bt a0.2.1, dL An a0.2.2]), (3, nI y2), (4, nI y4)]) _ _ _ _ hl (okr rfl) (fun _ => rfl) ?_
       rintro m y4 N h hN
       unfold Fk at h
       refine Ac fun K24 hK24 => rs (sp 4 rfl (?_))
       obtain ⟨e25, g26, h⟩ := Aa h
       refine qI rfl FG g26 (sp 4 rfl (evn ?_))
       rcases Ab h with ⟨g27, h⟩ | ⟨g27, h⟩
       ·refine qT rfl g27 (Ae (hK24 _ (Ac fun K28 hK28 => Aq (rd (by kernel_rfl) (sd 3 rfl (?_))))))
        obtain ⟨e29, g30, h⟩ := Aa h
        refine ed rfl (qI rfl FG g30 (sd 3 rfl (?_)))
        obtain ⟨e31, g32, h⟩ := Aa h
        refine ed rfl (qI rfl Ar g32 (sd 4 rfl (?_)))
        obtain ⟨v33, g34, h⟩ := Aa h
        refine ed rfl (qC (qs rfl (qs rfl (qs rfl At))) (CJ g34) (sd 1 rfl (Cy ?_)))
        rcases Ab h with ⟨g35, h⟩ | ⟨g35, h⟩
        ·exact qT rfl g35 (rn 1 rfl (Af ((by cases h; cases hr2; cases hr1; exact ⟨.inl rfl, rfl⟩))))
        ·exact qF rfl g35 (Ae (hK28 _ (qk [1, 3, 4] rfl (rg (sp 3 rfl (evn (hN _ _ h (okr rfl))))))))
       ·exact qF rfl g27 (Al (kXB2 (Option.some.inj h) _ (okr rfl)))
    ·exact qF rfl g11 (Al (kXB1 (Option.some.inj h) _ (okr rfl)))
def Gl (a0 : List AU) (a1 : Y29) (rec : Int -> Option (Sum (Unit) (Bool))) (y1 : Int) : Option (Sum (Unit) (Bool)) := cond (decide (y1 < (List.length a1.2.1 : Int))) (Ad (AA a1.2.1 y1) fun e5 => Ad (Br a0 e5.1) fun v7 => cond (!v7.2) (some (.inr false)) (Ad (AA a1.2.1 y1) fun e10 => cond (v7.1.1 != (List.length e10.2 : Int)) (some (.inr false)) (rec (IntKind.i64.wrap (y1 + 1))))) (some (.inl ()))
def E8 (x14 : Bool) : Option (Bool) := some x14
def Fu (a0 : List AU) (a1 : Y29) : Option (Bool) := Ad (Ai (Gl a0 a1) fz 0) fun o1 => (match o1 with
  | .inl _ => (Ad (BC a1) fun v15 => cond v15 (Ad (Bf a0) fun v18 => E8 v18) (E8 false))
  | .inr r => some r)
theorem JI {a0 : List AU} {a1 : Y29} {r : Bool} (h : Fu a0 a1 = some r) : Ah Tryz.prog 102 [.agg [dL AE a0], .agg (CZ a1)] (.bool r) := by
 unfold Fu at h
 refine st bN rfl (rn 1 rfl (Ac fun K1 hK1 => rn 1 rfl ?_))
 obtain ⟨o1, hl, hr1⟩ := Aa h
 have kXB1 : (.inl ()) = o1 -> Jn K1 [(2, .box [dL AE a0]), (3, .box [nI a1.1, dL Bt a1.2.1, dL An a1.2.2])] := by
  intro h σ' hk
  subst h
  replace h := hr1
  try dsimp only at h
  refine hK1 _ (lh hk rfl (rk fun K13 hK13 => ?_))
  have kJ2 : ∀ {x14 : Bool}, E8 x14 = some r -> Jn K13 [(4, .bool x14)] := by
   intro x14 h σ' hk
   unfold E8 at h
   exact hK13 _ (lh hk rfl (Af ((by cases h; exact ⟨.inl rfl, rfl⟩))))
  refine sp 1 rfl (?_)
  obtain ⟨v15, g16, h⟩ := Aa h
  refine qC (qa rfl (erg (erc rfl (erc (erD Cn _) (erc (erD Ap _) rfl)))) At) (Ds g16) (sp 1 rfl (?_))
  rcases Ab h with ⟨g17, h⟩ | ⟨g17, h⟩
  ·refine qg 42 g17 rfl (sp 1 rfl (?_))
   obtain ⟨v18, g19, h⟩ := Aa h
   exact oGR rfl rfl (qC (qa rfl (erg (erc (erD AP _) rfl)) At) (De g19) (sp 2 rfl (evn (kJ2 h _ (okr rfl)))))
  ·exact qg 42 g17 rfl (sp 4 rfl (evn (kJ2 h _ (okr rfl))))
 refine As (fun (y1 : Int) => [(2, .box [dL AE a0]), (3, .box [nI a1.1, dL Bt a1.2.1, dL An a1.2.2]), (5, nI y1)]) _ _ _ _ hl (okr rfl) (fun _ => rfl) ?_
 rintro m y1 N h hN
 unfold Gl at h
 refine Ac fun K2 hK2 => rn 1 rfl ?_
 rcases Ab h with ⟨g3, h⟩ | ⟨g3, h⟩
 ·refine qT rfl g3 (Ae (hK2 _ (Ac fun K4 hK4 => Aq (rd (by kernel_rfl) (sd 4 rfl (?_))))))
  obtain ⟨e5, g6, h⟩ := Aa h
  refine ed rfl (qI rfl FG g6 (sd 2 rfl (?_)))
  obtain ⟨v7, g8, h⟩ := Aa h
  refine ed rfl (qC (qa rfl (erg (erc (erD AP _) rfl)) (qs rfl At)) (DG g8) (sd 6 rfl (Cy (rd (by kernel_rfl) (sd 3 rfl (?_))))))
  rcases Ab h with ⟨g9, h⟩ | ⟨g9, h⟩
  ·exact qgd 28 g9 rfl (sd 11 rfl (Cy (qk [2, 3, 5, 39] rfl (qT rfl rfl (rn 1 rfl (Af ((by cases h; cases hr1; exact ⟨.inl rfl, rfl⟩))))))))
  ·refine qgd 28 g9 rfl (sd 5 rfl (?_))
   obtain ⟨e10, g11, h⟩ := Aa h
   refine ed rfl (oGR rfl rfl (qI rfl FG g11 (sd 5 rfl (Cy ?_))))
   rcases Ab h with ⟨g12, h⟩ | ⟨g12, h⟩
   ·exact qT rfl g12 (rn 1 rfl (Af ((by cases h; cases hr1; exact ⟨.inl rfl, rfl⟩))))
   ·exact qF rfl g12 (Ae (hK4 _ (rg (sp 3 rfl (evn (hN _ _ h (okr rfl)))))))
 ·exact qF rfl g3 (Al (kXB1 (Option.some.inj h) _ (okr rfl)))
def E7 (a0 : List Int) (rec : Int -> Option (Sum (Unit) (Bool))) (y1 : Int) : Option (Sum (Unit) (Bool)) := cond (decide (y1 < (List.length a0 : Int))) (Ad (AA a0 y1) fun e5 => Ad (Dh e5 0 (IntKind.i64.wrap ((List.length a0 : Int) - 1))) fun v7 => cond (!v7) (some (.inr false)) (chk ((0 : Int) <= 0 ∧ 0 <= y1 ∧ y1 <= (List.length a0 : Int)) (Ad (AA a0 y1) fun e11 => Ad (Fh (A7 a0 0 y1) e11) fun v13 => cond (decide (0 <= v13)) (some (.inr false)) (rec (IntKind.i64.wrap (y1 + 1)))))) (some (.inl ()))
def DT (a0 : List Int) : Option (Bool) := Ad (Ai (E7 a0) fz 0) fun o1 => (match o1 with
  | .inl _ => (some (decide ((List.length a0 : Int) <= 5)))
  | .inr r => some r)
theorem IE {a0 : List Int} {r : Bool} (h : DT a0 = some r) : Ah Tryz.prog 142 [dL An a0] (.bool r) := by
 unfold DT at h
 refine st cy rfl (rn 1 rfl (Ac fun K1 hK1 => rn 1 rfl ?_))
 obtain ⟨o1, hl, hr1⟩ := Aa h
 have kXB1 : (.inl ()) = o1 -> Jn K1 [(0, dL An a0)] := by
  intro h σ' hk
  subst h
  replace h := hr1
  try dsimp only at h
  exact hK1 _ (lh hk rfl (rn 1 rfl (Af ((by cases h; exact ⟨.inl rfl, rfl⟩)))))
 refine As (fun (y1 : Int) => [(0, dL An a0), (3, nI y1)]) _ _ _ _ hl (okr rfl) (fun _ => rfl) ?_
 rintro m y1 N h hN
 unfold E7 at h
 refine Ac fun K2 hK2 => rn 1 rfl ?_
 rcases Ab h with ⟨g3, h⟩ | ⟨g3, h⟩
 ·refine qT rfl g3 (Ae (hK2 _ (Ac fun K4 hK4 => Aq (rd (by kernel_rfl) (sd 2 rfl (?_))))))
  obtain ⟨e5, g6, h⟩ := Aa h
  refine ed rfl (qI rfl Ar g6 (sd 4 rfl (?_)))
  obtain ⟨v7, g8, h⟩ := Aa h
  refine ed rfl (qC (qs rfl (qs rfl (qs rfl At))) (CJ g8) (sd 2 rfl (?_)))
  rcases Ab h with ⟨g9, h⟩ | ⟨g9, h⟩
  ·exact qgd 19 g9 rfl (sd 10 rfl (Cy (qT rfl rfl (rn 1 rfl (Af ((by cases h; cases hr1; exact ⟨.inl rfl, rfl⟩)))))))
  ·refine qgd 19 g9 rfl (sd 2 rfl (?_))
   obtain ⟨g10, h⟩ := Ag h
   refine ed rfl (oGR rfl rfl (qSl rfl Ar g10 (sd 2 rfl (?_))))
   obtain ⟨e11, g12, h⟩ := Aa h
   refine ed rfl (oGR rfl rfl (qI rfl Ar g12 (sd 1 rfl (?_))))
   obtain ⟨v13, g14, h⟩ := Aa h
   refine ed rfl (oGR rfl rfl (qC (qa rfl (erD Ap _) (qs rfl At)) (GW g14) (sd 2 rfl (Cy (qk [0, 3, 29] rfl ?_)))))
   rcases Ab h with ⟨g15, h⟩ | ⟨g15, h⟩
   ·exact qT rfl g15 (rn 1 rfl (Af ((by cases h; cases hr1; exact ⟨.inl rfl, rfl⟩))))
   ·exact qF rfl g15 (Ae (hK4 _ (rg (sp 3 rfl (evn (hN _ _ h (okr rfl)))))))
 ·exact qF rfl g3 (Al (kXB1 (Option.some.inj h) _ (okr rfl)))
def CT (x2 : Bool) : Option (Bool) := some x2
def Eg (a0 : Y29) (a1 : List Int) : Option (Bool) := Ad (BC a0) fun v3 => cond v3 (cond ((List.length a1 : Int) == a0.1) (Ad (DT a1) fun v7 => CT v7) (CT false)) (CT false)
theorem I1 {a0 : Y29} {a1 : List Int} {r : Bool} (h : Eg a0 a1 = some r) : Ah Tryz.prog 103 [.agg (CZ a0), dL An a1] (.bool r) := by
 unfold Eg at h
 refine st bO rfl (rn 1 rfl (rk fun K1 hK1 => ?_))
 have kJ1 : ∀ {x2 : Bool}, CT x2 = some r -> Jn K1 [(4, .bool x2)] := by
  intro x2 h σ' hk
  unfold CT at h
  exact hK1 _ (lh hk rfl (Af ((by cases h; exact ⟨.inl rfl, rfl⟩))))
 refine sp 1 rfl (?_)
 obtain ⟨v3, g4, h⟩ := Aa h
 refine qC (qa rfl (erg (erc rfl (erc (erD Cn _) (erc (erD Ap _) rfl)))) At) (Ds g4) (sp 1 rfl (?_))
 rcases Ab h with ⟨g5, h⟩ | ⟨g5, h⟩
 ·refine qg 7 g5 rfl (sp 7 rfl (?_))
  rcases Ab h with ⟨g6, h⟩ | ⟨g6, h⟩
  ·refine qg 14 g6 rfl (sp 1 rfl (?_))
   obtain ⟨v7, g8, h⟩ := Aa h
   exact oGR rfl rfl (qC (qa rfl (erD Ap _) At) (IE g8) (sp 2 rfl (evn (kJ1 h _ (okr rfl)))))
  ·exact qg 14 g6 rfl (sp 4 rfl (evn (kJ1 h _ (okr rfl))))
 ·exact qg 7 g5 rfl (sp 11 rfl (evn (kJ1 h _ (okr rfl))))
def H3 (a0 : List Int) (a1 : List Int) (rec : ((List Int) × Int) -> Option ((List Int))) (s : (List Int) × Int) : Option ((List Int)) := match s with
  | (y1, y2) => cond (decide (y2 < (List.length a1 : Int))) (Ad (AA a1 y2) fun e6 => Ad (AA a0 e6) fun e8 => chk (List.length y1 + List.length [e8] <= lim) (rec ((y1 ++ [e8]), (IntKind.i64.wrap (y2 + 1))))) (some y1)
def I3 (a0 : List Int) (a1 : List Int) : Option ((List Int)) := Ad (Ai (H3 a0 a1) fz (([] : List Int), 0)) fun z2 => some z2
theorem P8 {a0 : List Int} {a1 : List Int} {r : (List Int)} (h : I3 a0 a1 = some r) : Ah Tryz.prog 188 [dL An a0, dL An a1] (oL 3 An r) := by
 unfold I3 at h
 refine st dl rfl (rn 1 rfl (rs (qBs An [] rfl rfl rfl Ar (sp 1 rfl (evn (Ac fun K1 hK1 => rn 1 rfl ?_))))))
 obtain ⟨o1, hl, hr1⟩ := Aa h
 have kXB1 : ∀ {z2 : List Int}, z2 = o1 -> Jn K1 [(5, oL 3 An z2)] := by
  intro z2 h σ' hk
  subst h
  replace h := hr1
  try dsimp only at h
  exact hK1 _ (lh hk rfl (rn 1 rfl (Af ((by cases h; exact ⟨.inl rfl, rfl⟩)))))
 refine As (fun (s : (List Int) × Int) => match s with | (y1, y2) => [(0, dL An a0), (1, dL An a1), (5, oL 3 An y1), (6, nI y2)]) _ _ _ _ hl (okr rfl) (fun _ => rfl) ?_
 rintro m ⟨y1, y2⟩ N h hN
 unfold H3 at h
 dsimp only at h
 refine Ac fun K3 hK3 => rn 1 rfl ?_
 rcases Ab h with ⟨g4, h⟩ | ⟨g4, h⟩
 ·refine qT rfl g4 (Ae (hK3 _ (Ac fun K5 hK5 => Aq (rg (sp 4 rfl (?_))))))
  obtain ⟨e6, g7, h⟩ := Aa h
  refine qI rfl Ar g7 (sp 1 rfl (?_))
  obtain ⟨e8, g9, h⟩ := Aa h
  refine qI rfl Ar g9 (sp 1 rfl (qBs An [e8] rfl rfl rfl Ar (?_)))
  obtain ⟨g10, h⟩ := Ag h
  exact qA An y1 [e8] rfl rfl (Ao Ar [e8]) rfl g10 (sp 1 rfl (evn (hK5 _ (rg (sp 3 rfl (evn (hN _ _ h (okr rfl))))))))
 ·exact qF rfl g4 (Al (kXB1 (Option.some.inj h) _ (okr rfl)))
def Fx (a0 : Y40) (a1 : List Int) (rec : Int -> Option (Sum (Unit) (Y40 × Bool))) (y1 : Int) : Option (Sum (Unit) (Y40 × Bool)) := cond (decide (y1 < (List.length a1 : Int))) (Ad (AA a1 y1) fun e5 => Ad (Dh e5 0 (IntKind.i64.wrap (a0.1 - 1))) fun v7 => cond (!v7) (some (.inr ((0, []), false))) (rec (IntKind.i64.wrap (y1 + 1)))) (some (.inl ()))
def GF (a0 : Y40) (a1 : List Int) (rec : ((List (List Int)) × Int) -> Option ((List (List Int)))) (s : (List (List Int)) × Int) : Option ((List (List Int))) := match s with
  | (y2, y3) => cond (decide (y3 < (List.length a0.2 : Int))) (Ad (AA a0.2 y3) fun e20 => Ad (I3 e20 a1) fun v22 => chk (List.length y2 + List.length [v22] <= lim) (rec ((y2 ++ [v22]), (IntKind.i64.wrap (y3 + 1))))) (some y2)
def Ij (a0 : Y40) (a1 : List Int) : Option (Y40 × Bool) := Ad (Ai (Fx a0 a1) fz 0) fun o1 => (match o1 with
  | .inl _ => (Ad (AG a0) fun v11 => cond (!v11) (some ((0, []), false)) (cond (decide (5 < (List.length a1 : Int))) (some ((0, []), false)) (Ad (Ai (GF a0 a1) fz (([] : List (List Int)), 0)) fun z16 => Ad (Ck (List.length a1 : Int) z16) fun v25 => some (v25.1, v25.2))))
  | .inr r => some r)
theorem OH {a0 : Y40} {a1 : List Int} {r : Y40 × Bool} (h : Ij a0 a1 = some r) : Ah Tryz.prog 177 [.agg (Ek a0), dL An a1] (.tup [.agg (Ht r.1), .bool r.2]) := by
 unfold Ij at h
 refine st db rfl (rn 1 rfl (Ac fun K1 hK1 => rn 1 rfl ?_))
 obtain ⟨o1, hl, hr1⟩ := Aa h
 have kXB1 : (.inl ()) = o1 -> Jn K1 [(1, dL An a1), (2, .box [nI a0.1, dL Aw a0.2]), (4, .box [nI 0, oL 27 Aj []])] := by
  intro h σ' hk
  subst h
  replace h := hr1
  try dsimp only at h
  refine hK1 _ (lh hk rfl (Ac fun K10 hK10 => rs (sp 1 rfl (?_))))
  obtain ⟨v11, g12, h⟩ := Aa h
  refine qC (qa rfl (erg (erc rfl (erc (erD AJ _) rfl))) At) (AM g12) (sp 2 rfl (?_))
  rcases Ab h with ⟨g13, h⟩ | ⟨g13, h⟩
  ·exact qg 30 g13 rfl (sp 4 rfl (evn (qT rfl rfl (rn 1 rfl (Af ((by cases h; exact ⟨.inl rfl, rfl⟩)))))))
  ·refine qg 30 g13 rfl (sp 4 rfl (evn ?_))
   rcases Ab h with ⟨g14, h⟩ | ⟨g14, h⟩
   ·exact qT rfl g14 (rn 1 rfl (Af ((by cases h; exact ⟨.inl rfl, rfl⟩))))
   ·refine qF rfl g14 (Ae (hK10 _ (rs (qBs Aj [] rfl rfl rfl AZ (sp 1 rfl (evn (Ac fun K15 hK15 => rn 1 rfl (qk [1, 2, 4, 7, 8] rfl ?_))))))))
    obtain ⟨o2, hl, hr2⟩ := Aa h
    have kXB2 : ∀ {z16 : List (List Int)}, z16 = o2 -> Jn K15 [(1, dL An a1), (4, .box [nI 0, oL 27 Aj []]), (7, oL 27 Aj z16)] := by
     intro z16 h σ' hk
     subst h
     replace h := hr2
     try dsimp only at h
     refine hK15 _ (lh hk rfl (rs (sp 3 rfl (?_))))
     obtain ⟨v25, g26, h⟩ := Aa h
     exact qC (qs rfl (qa rfl (erD Ca _) At)) (Fa g26) (sp 6 rfl (evn (rn 1 rfl (Af ((by cases h; exact ⟨.inl rfl, rfl⟩))))))
    refine As (fun (s : (List (List Int)) × Int) => match s with | (y2, y3) => [(1, dL An a1), (2, .box [nI a0.1, dL Aw a0.2]), (4, .box [nI 0, oL 27 Aj []]), (7, oL 27 Aj y2), (8, nI y3)]) _ _ _ _ hl (okr rfl) (fun _ => rfl) ?_
    rintro m ⟨y2, y3⟩ N h hN
    unfold GF at h
    dsimp only at h
    refine Ac fun K17 hK17 => rn 1 rfl ?_
    rcases Ab h with ⟨g18, h⟩ | ⟨g18, h⟩
    ·refine qT rfl g18 (Ae (hK17 _ (Ac fun K19 hK19 => Aq (rg (sp 4 rfl (?_))))))
     obtain ⟨e20, g21, h⟩ := Aa h
     refine qI rfl AX g21 (sp 2 rfl (?_))
     obtain ⟨v22, g23, h⟩ := Aa h
     refine qC (qa rfl (erD Ap _) (qa rfl (erD Ap _) At)) (P8 g23) (qBs Aj [v22] rfl rfl rfl AZ (?_))
     obtain ⟨g24, h⟩ := Ag h
     exact qA Aj y2 [v22] rfl rfl (Ao AZ [v22]) rfl g24 (sp 1 rfl (evn (hK19 _ (rg (sp 3 rfl (evn (hN _ _ h (okr rfl))))))))
    ·exact qF rfl g18 (Al (kXB2 (Option.some.inj h) _ (okr rfl)))
 refine As (fun (y1 : Int) => [(1, dL An a1), (2, .box [nI a0.1, dL Aw a0.2]), (4, .box [nI 0, oL 27 Aj []]), (6, nI y1)]) _ _ _ _ hl (okr rfl) (fun _ => rfl) ?_
 rintro m y1 N h hN
 unfold Fx at h
 refine Ac fun K2 hK2 => rn 1 rfl ?_
 rcases Ab h with ⟨g3, h⟩ | ⟨g3, h⟩
 ·refine qT rfl g3 (Ae (hK2 _ (Ac fun K4 hK4 => Aq (rd (by kernel_rfl) (sd 2 rfl (?_))))))
  obtain ⟨e5, g6, h⟩ := Aa h
  refine ed rfl (qI rfl Ar g6 (sd 4 rfl (?_)))
  obtain ⟨v7, g8, h⟩ := Aa h
  refine ed rfl (qC (qs rfl (qs rfl (qs rfl At))) (CJ g8) (sd 1 rfl (Cy ?_)))
  rcases Ab h with ⟨g9, h⟩ | ⟨g9, h⟩
  ·exact qT rfl g9 (rn 1 rfl (Af ((by cases h; cases hr1; exact ⟨.inl rfl, rfl⟩))))
  ·exact qF rfl g9 (Ae (hK4 _ (rg (sp 3 rfl (evn (hN _ _ h (okr rfl)))))))
 ·exact qF rfl g3 (Al (kXB1 (Option.some.inj h) _ (okr rfl)))
def BS (x : Y40) : List V := [nI x.1, dL Aw x.2]
theorem ND (x : Y40) : (BS x).length = 2 := rfl
theorem Pn (x : Y40) : erL (BS x) = BS x := (erc rfl (erc (erD AJ _) rfl))
def GY (x : Y40) : List V := [nI x.1, oL 27 Aj x.2]
theorem KX (x : Y40) : (GY x).length = 2 := rfl
theorem Nm (x : Y40) : erL (GY x) = BS x := (erc rfl (erc (erO Ca _) rfl))
def Hb (a0 : Y40) (a1 : List Int) : Option (Y40 × Bool) := Ad (DT a1) fun v2 => cond (!v2) (some ((0, []), false)) (cond ((List.length a1 : Int) != a0.1) (some ((0, []), false)) (Ad (Ij a0 a1) fun v6 => cond (!v6.2) (some ((0, []), false)) (some (v6.1, true))))
theorem Nc {a0 : Y40} {a1 : List Int} {r : Y40 × Bool} (h : Hb a0 a1 = some r) : Ah Tryz.prog 152 [.agg (Ek a0), dL An a1] (.tup [.agg (GY r.1), .bool r.2]) := by
 unfold Hb at h
 refine st cI rfl (rn 1 rfl (Ac fun K1 hK1 => rs (sp 1 rfl (?_))))
 obtain ⟨v2, g3, h⟩ := Aa h
 refine qC (qa rfl (erD Ap _) At) (IE g3) (sp 2 rfl (?_))
 rcases Ab h with ⟨g4, h⟩ | ⟨g4, h⟩
 ·exact qg 11 g4 rfl (sp 6 rfl (evn (qT rfl rfl (rn 1 rfl (Af ((by cases h; exact ⟨.inl rfl, rfl⟩)))))))
 ·refine qg 11 g4 rfl (sp 6 rfl (evn ?_))
  rcases Ab h with ⟨g5, h⟩ | ⟨g5, h⟩
  ·exact qT rfl g5 (rn 1 rfl (Af ((by cases h; exact ⟨.inl rfl, rfl⟩))))
  ·refine qF rfl g5 (Ae (hK1 _ (qk [1, 2, 4] rfl (rs (sp 2 rfl (?_))))))
   obtain ⟨v6, g7, h⟩ := Aa h
   refine qC (qa rfl (erg (erc rfl (erc (erD AJ _) rfl))) (qa rfl (erD Ap _) At)) (OH g7) (sp 6 rfl (evn (Ac fun K8 hK8 => rn 1 rfl ?_)))
   rcases Ab h with ⟨g9, h⟩ | ⟨g9, h⟩
   ·exact qT rfl g9 (rn 1 rfl (Af ((by cases h; exact ⟨.inl rfl, rfl⟩))))
   ·exact qF rfl g9 (Ae (hK8 _ (rn 1 rfl (Af ((by cases h; exact ⟨.inl rfl, rfl⟩))))))
def DF (rec : ((List Int) × Int) -> Option ((List Int))) (y2 : Int) (x8 : List Int) : Option ((List Int)) := rec (x8, (IntKind.i64.wrap (y2 + 1)))
def Cu (a0 : Gn) (rec : ((List Int) × Int) -> Option ((List Int))) (s : (List Int) × Int) : Option ((List Int)) := match s with
  | (y1, y2) => cond (decide (y2 < 5)) (Ad (Bl a0 y2) fun v6 => cond v6 (chk (List.length y1 + List.length [y2] <= lim) (DF rec y2 (y1 ++ [y2]))) (DF rec y2 y1)) (some y1)
def DR (a0 : Gn) : Option ((List Int)) := Ad (Ai (Cu a0) fz (([] : List Int), 0)) fun z2 => some z2
theorem ID {a0 : Gn} {r : (List Int)} (h : DR a0 = some r) : Ah Tryz.prog 178 [.agg (Bt a0)] (oL 3 An r) := by
 unfold DR at h
 refine st dc rfl (rn 1 rfl (rs (qBs An [] rfl rfl rfl Ar (sp 1 rfl (evn (Ac fun K1 hK1 => rn 1 rfl ?_))))))
 obtain ⟨o1, hl, hr1⟩ := Aa h
 have kXB1 : ∀ {z2 : List Int}, z2 = o1 -> Jn K1 [(3, oL 3 An z2)] := by
  intro z2 h σ' hk
  subst h
  replace h := hr1
  try dsimp only at h
  exact hK1 _ (lh hk rfl (rn 1 rfl (Af ((by cases h; exact ⟨.inl rfl, rfl⟩)))))
 refine As (fun (s : (List Int) × Int) => match s with | (y1, y2) => [(1, .box [.str a0.1, dL An a0.2]), (3, oL 3 An y1), (4, nI y2)]) _ _ _ _ hl (okr rfl) (fun _ => rfl) ?_
 rintro m ⟨y1, y2⟩ N h hN
 unfold Cu at h
 dsimp only at h
 refine Ac fun K3 hK3 => rn 1 rfl ?_
 rcases Ab h with ⟨g4, h⟩ | ⟨g4, h⟩
 ·refine qT rfl g4 (Ae (hK3 _ (Ac fun K5 hK5 => Aq (rs (sp 2 rfl (?_))))))
  obtain ⟨v6, g7, h⟩ := Aa h
  refine qC (qa rfl (erg (erc rfl (erc (erD Ap _) rfl))) (qs rfl At)) (D9 g7) (evn ?_)
  have kJ2 : ∀ {x8 : List Int}, DF (Ai (Cu a0) m) y2 x8 = some o1 -> Jn K5 [(1, .box [.str a0.1, dL An a0.2]), (3, oL 3 An x8), (4, nI y2)] := by
   intro x8 h σ' hk
   unfold DF at h
   exact hK5 _ (lh hk rfl (rg (sp 3 rfl (evn (hN _ _ h (okr rfl))))))
  rcases Ab h with ⟨g9, h⟩ | ⟨g9, h⟩
  ·refine qT rfl g9 (rg (sp 2 rfl (qBs An [y2] rfl rfl rfl Ar (?_))))
   obtain ⟨g10, h⟩ := Ag h
   exact qA An y1 [y2] rfl rfl (Ao Ar [y2]) rfl g10 (sp 1 rfl (evn (kJ2 h _ (okr rfl))))
  ·exact qF rfl g9 (Ae (kJ2 h _ (okr rfl)))
 ·exact qF rfl g4 (Al (kXB1 (Option.some.inj h) _ (okr rfl)))
def DZ (a1 : Gn) (v1 : (List Int)) (v3 : Y40 × Bool) (y6 : Int) (rec : ((List Int) × Int) -> Option ((List Int))) (s : (List Int) × Int) : Option ((List Int)) := match s with
  | (y11, y12) => cond (decide (y12 < (List.length v1 : Int))) (Ad (AA v3.1.2 y6) fun e18 => Ad (AA v1 y12) fun e20 => Ad (Fh a1.2 e20) fun v22 => Ad (AA e18 v22) fun e24 => chk (List.length y11 + List.length [e24] <= lim) (rec ((y11 ++ [e24]), (IntKind.i64.wrap (y12 + 1))))) (some y11)
def B7 (rec : (Bool × Int) -> Option (Bool)) (y14 : Int) (x36 : Bool) : Option (Bool) := rec (x36, (IntKind.i64.wrap (y14 + 1)))
def B6 (a1 : Gn) (v1 : (List Int)) (v3 : Y40 × Bool) (y6 : Int) (z14 : List Int) (rec : (Bool × Int) -> Option (Bool)) (s : Bool × Int) : Option (Bool) := match s with
  | (y13, y14) => cond (decide (y14 < (List.length a1.2 : Int))) (Ad (AA a1.2 y14) fun e32 => Ad (Fh v1 e32) fun v34 => cond y13 (cond (decide (0 <= v34)) (Ad (AA z14 v34) fun e39 => Ad (AA v3.1.2 y6) fun e41 => Ad (AA e41 y14) fun e43 => B7 rec y14 (e39 == e43)) (B7 rec y14 false)) (B7 rec y14 false)) (some y13)
def CR (rec : ((List (List Int)) × Int) -> Option ((List (List Int)))) (y6 : Int) (x45 : List (List Int)) : Option ((List (List Int))) := rec (x45, (IntKind.i64.wrap (y6 + 1)))
def B5 (a1 : Gn) (v1 : (List Int)) (v3 : Y40 × Bool) (rec : ((List (List Int)) × Int) -> Option ((List (List Int)))) (s : (List (List Int)) × Int) : Option ((List (List Int))) := match s with
  | (y5, y6) => cond (decide (y6 < (List.length v3.1.2 : Int))) (Ad (Ai (DZ a1 v1 v3 y6) fz (([] : List Int), 0)) fun z14 => Ad (Ai (B6 a1 v1 v3 y6 z14) fz (true, 0)) fun z28 => cond z28 (chk (List.length y5 + List.length [z14] <= lim) (CR rec y6 (y5 ++ [z14]))) (CR rec y6 y5)) (some y5)
def Fq (a0 : List AU) (a1 : Gn) : Option (Y40) := Ad (DR a1) fun v1 => Ad (Br a0 a1.1) fun v3 => cond (!v3.2) (some ((List.length v1 : Int), [])) (cond (v3.1.1 != (List.length a1.2 : Int)) (some ((List.length v1 : Int), [])) (Ad (Ai (B5 a1 v1 v3) fz (([] : List (List Int)), 0)) fun z9 => Ad (Ck (List.length v1 : Int) z9) fun v48 => cond (!v48.2) (some ((List.length v1 : Int), [])) (some v48.1)))
theorem Lv {a0 : List AU} {a1 : Gn} {r : Y40} (h : Fq a0 a1 = some r) : Ah Tryz.prog 153 [.agg [dL AE a0], .agg (Bt a1)] (.agg (Ht r)) := by
 unfold Fq at h
 refine st cJ rfl (rn 1 rfl (rs (sp 1 rfl (?_))))
 obtain ⟨v1, g2, h⟩ := Aa h
 refine qC (qa rfl (erg (erc rfl (erc (erD Ap _) rfl))) At) (ID g2) (sp 1 rfl (evn (rs (sp 3 rfl (?_)))))
 obtain ⟨v3, g4, h⟩ := Aa h
 refine qC (qa rfl (erg (erc (erD AP _) rfl)) (qs rfl At)) (DG g4) (sp 6 rfl (evn (rn 1 rfl (Ac fun K5 hK5 => rs (sp 3 rfl (?_))))))
 rcases Ab h with ⟨g6, h⟩ | ⟨g6, h⟩
 ·exact qg 32 g6 rfl (sp 7 rfl (evn (qT rfl rfl (rn 1 rfl (qk [4] rfl (Af ((by cases h; exact ⟨.inl rfl, rfl⟩))))))))
 ·refine qg 32 g6 rfl (sp 7 rfl (evn ?_))
  rcases Ab h with ⟨g7, h⟩ | ⟨g7, h⟩
  ·exact qT rfl g7 (rn 1 rfl (Af ((by cases h; exact ⟨.inl rfl, rfl⟩))))
  ·refine qF rfl g7 (Ae (hK5 _ (rs (qBs Aj [] rfl rfl rfl AZ (sp 1 rfl (evn (Ac fun K8 hK8 => rn 1 rfl ?_)))))))
   obtain ⟨o1, hl, hr1⟩ := Aa h
   have kXB1 : ∀ {z9 : List (List Int)}, z9 = o1 -> Jn K8 [(4, .box [nI 0, oL 27 Aj []]), (5, oL 3 An v1), (8, .box [nI (List.length v1 : Int), oL 27 Aj []]), (9, oL 27 Aj z9)] := by
    intro z9 h σ' hk
    subst h
    replace h := hr1
    try dsimp only at h
    refine hK8 _ (lh hk rfl (rs (sp 3 rfl (?_))))
    obtain ⟨v48, g49, h⟩ := Aa h
    refine qC (qs rfl (qa rfl (erD Ca _) At)) (Fa g49) (sp 6 rfl (evn (Ac fun K50 hK50 => rn 1 rfl ?_)))
    rcases Ab h with ⟨g51, h⟩ | ⟨g51, h⟩
    ·exact qT rfl g51 (rn 1 rfl (Af ((by cases h; exact ⟨.inl rfl, rfl⟩))))
    ·exact qF rfl g51 (Ae (hK50 _ (rn 1 rfl (Af ((by cases h; exact ⟨.inl rfl, rfl⟩))))))
   refine As (fun (s : (List (List Int)) × Int) => match s with | (y5, y6) => [(3, .box [.str a1.1, dL An a1.2]), (4, .box [nI 0, oL 27 Aj []]), (5, oL 3 An v1), (6, .box [nI v3.1.1, oL 27 Aj v3.1.2]), (8, .box [nI (List.length v1 : Int), oL 27 Aj []]), (9, oL 27 Aj y5), (10, nI y6)]) _ _ _ _ hl (okr rfl) (fun _ => rfl) ?_
   rintro m ⟨y5, y6⟩ N h hN
   unfold B5 at h
   dsimp only at h
   refine Ac fun K10 hK10 => rn 1 rfl ?_
   rcases Ab h with ⟨g11, h⟩ | ⟨g11, h⟩
   ·refine qT rfl g11 (Ae (hK10 _ (Ac fun K12 hK12 => Aq (rs (qBs An [] rfl rfl rfl Ar (sp 1 rfl (evn (Ac fun K13 hK13 => rn 1 rfl ?_))))))))
    obtain ⟨o2, hl, hr2⟩ := Aa h
    have kXB2 : ∀ {z14 : List Int}, z14 = o2 -> Jn K13 [(3, .box [.str a1.1, dL An a1.2]), (4, .box [nI 0, oL 27 Aj []]), (5, oL 3 An v1), (6, .box [nI v3.1.1, oL 27 Aj v3.1.2]), (8, .box [nI (List.length v1 : Int), oL 27 Aj []]), (9, oL 27 Aj y5), (10, nI y6), (11, oL 3 An z14)] := by
     intro z14 h σ' hk
     subst h
     replace h := hr2
     try dsimp only at h
     refine hK13 _ (lh hk rfl (rn 1 rfl (Ac fun K27 hK27 => rn 1 rfl ?_)))
     obtain ⟨o3, hl, hr3⟩ := Aa h
     have kXB3 : ∀ {z28 : Bool}, z28 = o3 -> Jn K27 [(3, .box [.str a1.1, dL An a1.2]), (4, .box [nI 0, oL 27 Aj []]), (5, oL 3 An v1), (6, .box [nI v3.1.1, oL 27 Aj v3.1.2]), (8, .box [nI (List.length v1 : Int), oL 27 Aj []]), (9, oL 27 Aj y5), (10, nI y6), (11, oL 3 An z14), (13, .bool z28)] := by
      intro z28 h σ' hk
      subst h
      replace h := hr3
      try dsimp only at h
      refine hK27 _ (lh hk rfl (rn 1 rfl ?_))
      have kJ5 : ∀ {x45 : List (List Int)}, CR (Ai (B5 a1 v1 v3) m) y6 x45 = some o1 -> Jn K12 [(3, .box [.str a1.1, dL An a1.2]), (4, .box [nI 0, oL 27 Aj []]), (5, oL 3 An v1), (6, .box [nI v3.1.1, oL 27 Aj v3.1.2]), (8, .box [nI (List.length v1 : Int), oL 27 Aj []]), (9, oL 27 Aj x45), (10, nI y6)] := by
       intro x45 h σ' hk
       unfold CR at h
       exact hK12 _ (lh hk rfl (rg (sp 3 rfl (evn (hN _ _ h (okr rfl))))))
      rcases Ab h with ⟨g46, h⟩ | ⟨g46, h⟩
      ·refine qT rfl g46 (rg (sp 2 rfl (qBs Aj [z14] rfl rfl rfl AZ (?_))))
       obtain ⟨g47, h⟩ := Ag h
       exact qA Aj y5 [z14] rfl rfl (Ao AZ [z14]) rfl g47 (sp 1 rfl (evn (kJ5 h _ (okr rfl))))
      ·exact qF rfl g46 (Ae (kJ5 h _ (okr rfl)))
     refine As (fun (s : Bool × Int) => match s with | (y13, y14) => [(3, .box [.str a1.1, dL An a1.2]), (4, .box [nI 0, oL 27 Aj []]), (5, oL 3 An v1), (6, .box [nI v3.1.1, oL 27 Aj v3.1.2]), (8, .box [nI (List.length v1 : Int), oL 27 Aj []]), (9, oL 27 Aj y5), (10, nI y6), (11, oL 3 An z14), (13, .bool y13), (14, nI y14)]) _ _ _ _ hl (okr rfl) (fun _ => rfl) ?_
     rintro m ⟨y13, y14⟩ N h hN
     unfold B6 at h
     dsimp only at h
     refine Ac fun K29 hK29 => rn 1 rfl ?_
     rcases Ab h with ⟨g30, h⟩ | ⟨g30, h⟩
     ·refine qT rfl g30 (Ae (hK29 _ (Ac fun K31 hK31 => Aq (rs (sp 4 rfl (?_))))))
      obtain ⟨e32, g33, h⟩ := Aa h
      refine qI rfl Ar g33 (sp 1 rfl (?_))
      obtain ⟨v34, g35, h⟩ := Aa h
      refine qC (qa rfl (erD Ap _) (qs rfl At)) (GW g35) (sp 1 rfl (evn ?_))
      have kJ4 : ∀ {x36 : Bool}, B7 (Ai (B6 a1 v1 v3 y6 z14) m) y14 x36 = some o3 -> Jn K31 [(3, .box [.str a1.1, dL An a1.2]), (4, .box [nI 0, oL 27 Aj []]), (5, oL 3 An v1), (6, .box [nI v3.1.1, oL 27 Aj v3.1.2]), (8, .box [nI (List.length v1 : Int), oL 27 Aj []]), (9, oL 27 Aj y5), (10, nI y6), (11, oL 3 An z14), (13, .bool x36), (14, nI y14)] := by
       intro x36 h σ' hk
       unfold B7 at h
       exact hK31 _ (lh hk rfl (rg (sp 3 rfl (evn (hN _ _ h (okr rfl))))))
      refine rgd (by kernel_rfl) (sd 2 rfl (?_))
      rcases Ab h with ⟨g37, h⟩ | ⟨g37, h⟩
      ·refine qgd 88 g37 rfl (sd 4 rfl (?_))
       rcases Ab h with ⟨g38, h⟩ | ⟨g38, h⟩
       ·refine qgd 92 g38 rfl (sd 2 rfl (?_))
        obtain ⟨e39, g40, h⟩ := Aa h
        refine ed rfl (oGR rfl rfl (qI rfl Ar g40 (sd 4 rfl (?_))))
        obtain ⟨e41, g42, h⟩ := Aa h
        refine ed rfl (oGR rfl rfl (qI rfl AZ g42 (sd 2 rfl (?_))))
        obtain ⟨e43, g44, h⟩ := Aa h
        exact ed rfl (oGR rfl rfl (qI rfl Ar g44 (sd 4 rfl (Cy (kJ4 h _ (okr rfl))))))
       ·exact qgd 92 g38 rfl (sd 15 rfl (Cy (kJ4 h _ (okr rfl))))
      ·exact qgd 88 g37 rfl (sd 19 rfl (Cy (kJ4 h _ (okr rfl))))
     ·exact qF rfl g30 (Al (kXB3 (Option.some.inj h) _ (okr rfl)))
    refine As (fun (s : (List Int) × Int) => match s with | (y11, y12) => [(3, .box [.str a1.1, dL An a1.2]), (4, .box [nI 0, oL 27 Aj []]), (5, oL 3 An v1), (6, .box [nI v3.1.1, oL 27 Aj v3.1.2]), (8, .box [nI (List.length v1 : Int), oL 27 Aj []]), (9, oL 27 Aj y5), (10, nI y6), (11, oL 3 An y11), (12, nI y12)]) _ _ _ _ hl (okr rfl) (fun _ => rfl) ?_
    rintro m ⟨y11, y12⟩ N h hN
    unfold DZ at h
    dsimp only at h
    refine Ac fun K15 hK15 => rn 1 rfl ?_
    rcases Ab h with ⟨g16, h⟩ | ⟨g16, h⟩
    ·refine qT rfl g16 (Ae (hK15 _ (Ac fun K17 hK17 => Aq (rgd (by kernel_rfl) (sd 4 rfl (?_))))))
     obtain ⟨e18, g19, h⟩ := Aa h
     refine ed rfl (qI rfl AZ g19 (sd 5 rfl (?_)))
     obtain ⟨e20, g21, h⟩ := Aa h
     refine ed rfl (qI rfl Ar g21 (sd 1 rfl (?_)))
     obtain ⟨v22, g23, h⟩ := Aa h
     refine ed rfl (qC (qa rfl (erD Ap _) (qs rfl At)) (GW g23) (?_))
     obtain ⟨e24, g25, h⟩ := Aa h
     refine ed rfl (qI rfl Ar g25 (sd 1 rfl (ed rfl (qBs An [e24] rfl rfl rfl Ar (?_)))))
     obtain ⟨g26, h⟩ := Ag h
     exact ed rfl (qA An y11 [e24] rfl rfl (Ao Ar [e24]) rfl g26 (sd 1 rfl (Cy (hK17 _ (rg (sp 3 rfl (evn (hN _ _ h (okr rfl)))))))))
    ·exact qF rfl g16 (Al (kXB2 (Option.some.inj h) _ (okr rfl)))
   ·exact qF rfl g11 (Al (kXB1 (Option.some.inj h) _ (okr rfl)))
def BW (rec : ((List Int) × Int) -> Option ((List Int))) (y2 : Int) (x14 : List Int) : Option ((List Int)) := rec (x14, (IntKind.i64.wrap (y2 + 1)))
def BV (rec : ((List Int) × Int) -> Option ((List Int))) (y1 : List Int) (y2 : Int) (v10 : Int) (x13 : Bool) : Option ((List Int)) := cond x13 (chk (List.length y1 + List.length [v10] <= lim) (BW rec y2 (y1 ++ [v10]))) (BW rec y2 y1)
def Bp (a1 : List Int) (v1 : (List Int)) (rec : ((List Int) × Int) -> Option ((List Int))) (s : (List Int) × Int) : Option ((List Int)) := match s with
  | (y1, y2) => cond (decide (y2 < (List.length a1 : Int))) (Ad (AA a1 y2) fun e8 => Ad (Fh v1 e8) fun v10 => cond (decide (0 <= v10)) (Ad (Fh y1 v10) fun v18 => BV rec y1 y2 v10 (decide (v18 < 0))) (BV rec y1 y2 v10 false)) (some y1)
def D0 (a0 : Gn) (a1 : List Int) : Option ((List Int)) := Ad (DR a0) fun v1 => Ad (Ai (Bp a1 v1) fz (([] : List Int), 0)) fun z4 => some z4
theorem Ke {a0 : Gn} {a1 : List Int} {r : (List Int)} (h : D0 a0 a1 = some r) : Ah Tryz.prog 154 [.agg (Bt a0), dL An a1] (oL 3 An r) := by
 unfold D0 at h
 refine st cK rfl (rn 1 rfl (rs (sp 1 rfl (?_))))
 obtain ⟨v1, g2, h⟩ := Aa h
 refine qC (qa rfl (erg (erc rfl (erc (erD Ap _) rfl))) At) (ID g2) (sp 1 rfl (evn (rs (qBs An [] rfl rfl rfl Ar (sp 1 rfl (evn (Ac fun K3 hK3 => rn 1 rfl ?_)))))))
 obtain ⟨o1, hl, hr1⟩ := Aa h
 have kXB1 : ∀ {z4 : List Int}, z4 = o1 -> Jn K3 [(6, oL 3 An z4)] := by
  intro z4 h σ' hk
  subst h
  replace h := hr1
  try dsimp only at h
  exact hK3 _ (lh hk rfl (rn 1 rfl (Af ((by cases h; exact ⟨.inl rfl, rfl⟩)))))
 refine As (fun (s : (List Int) × Int) => match s with | (y1, y2) => [(1, dL An a1), (5, oL 3 An v1), (6, oL 3 An y1), (7, nI y2)]) _ _ _ _ hl (okr rfl) (fun _ => rfl) ?_
 rintro m ⟨y1, y2⟩ N h hN
 unfold Bp at h
 dsimp only at h
 refine Ac fun K5 hK5 => rn 1 rfl ?_
 rcases Ab h with ⟨g6, h⟩ | ⟨g6, h⟩
 ·refine qT rfl g6 (Ae (hK5 _ (Ac fun K7 hK7 => Aq (rs (sp 3 rfl (?_))))))
  obtain ⟨e8, g9, h⟩ := Aa h
  refine qI rfl Ar g9 (sp 1 rfl (?_))
  obtain ⟨v10, g11, h⟩ := Aa h
  refine qC (qa rfl (erD Ap _) (qs rfl At)) (GW g11) (sp 1 rfl (evn (rk fun K12 hK12 => ?_)))
  have kJ2 : ∀ {x13 : Bool}, BV (Ai (Bp a1 v1) m) y1 y2 v10 x13 = some o1 -> Jn K12 [(1, dL An a1), (5, oL 3 An v1), (6, oL 3 An y1), (7, nI y2), (8, nI v10), (31, .bool x13)] := by
   intro x13 h σ' hk
   unfold BV at h
   refine hK12 _ (lh hk rfl ?_)
   have kJ3 : ∀ {x14 : List Int}, BW (Ai (Bp a1 v1) m) y2 x14 = some o1 -> Jn K7 [(1, dL An a1), (5, oL 3 An v1), (6, oL 3 An x14), (7, nI y2)] := by
    intro x14 h σ' hk
    unfold BW at h
    exact hK7 _ (lh hk rfl (rg (sp 3 rfl (evn (hN _ _ h (okr rfl))))))
   rcases Ab h with ⟨g15, h⟩ | ⟨g15, h⟩
   ·refine qT rfl g15 (rg (sp 2 rfl (qBs An [v10] rfl rfl rfl Ar (?_))))
    obtain ⟨g16, h⟩ := Ag h
    exact qA An y1 [v10] rfl rfl (Ao Ar [v10]) rfl g16 (sp 1 rfl (evn (kJ3 h _ (okr rfl))))
   ·exact qF rfl g15 (Ae (kJ3 h _ (okr rfl)))
  refine sp 3 rfl (?_)
  rcases Ab h with ⟨g17, h⟩ | ⟨g17, h⟩
  ·refine qg 26 g17 rfl (sp 2 rfl (?_))
   obtain ⟨v18, g19, h⟩ := Aa h
   exact oGR rfl rfl (qC (qa rfl (erD Ap _) (qs rfl At)) (GW g19) (sp 2 rfl (evn (kJ2 h _ (okr rfl)))))
  ·exact qg 26 g17 rfl (sp 5 rfl (evn (kJ2 h _ (okr rfl))))
 ·exact qF rfl g6 (Al (kXB1 (Option.some.inj h) _ (okr rfl)))
def E4 (a0 : List AU) (a1 : Y29) (a2 : List Int) (rec : ((List Y40) × Int) -> Option (Sum ((List Y40)) ((List Y40) × Bool))) (s : (List Y40) × Int) : Option (Sum ((List Y40)) ((List Y40) × Bool)) := match s with
  | (y1, y2) => cond (decide (y2 < (List.length a1.2.1 : Int))) (Ad (AA a1.2.1 y2) fun e13 => Ad (Fq a0 e13) fun v15 => Ad (AA a1.2.1 y2) fun e17 => Ad (D0 e17 a2) fun v19 => Ad (Hb v15 v19) fun v21 => cond (!v21.2) (some (.inr (([] : List Y40), false))) (chk (List.length y1 + List.length [v21.1] <= lim) (rec ((y1 ++ [v21.1]), (IntKind.i64.wrap (y2 + 1)))))) (some (.inl y1))
def GD (a0 : List AU) (a1 : Y29) (a2 : List Int) : Option ((List Y40) × Bool) := Ad (Fu a0 a1) fun v2 => cond (!v2) (some (([] : List Y40), false)) (Ad (Eg a1 a2) fun v5 => cond (!v5) (some (([] : List Y40), false)) (Ad (Ai (E4 a0 a1 a2) fz (([] : List Y40), 0)) fun o1 => (match o1 with
  | .inl z9 => (some (z9, true))
  | .inr r => some r)))
theorem MM {a0 : List AU} {a1 : Y29} {a2 : List Int} {r : (List Y40) × Bool} (h : GD a0 a1 a2 = some r) : Ah Tryz.prog 110 [.agg [dL AE a0], .agg (CZ a1), dL An a2] (.tup [oL 179 GY r.1, .bool r.2]) := by
 unfold GD at h
 refine st bV rfl (rn 1 rfl (rs (qBs GY [] rfl rfl rfl KX (sp 1 rfl (evn (Ac fun K1 hK1 => rs (sp 2 rfl (?_))))))))
 obtain ⟨v2, g3, h⟩ := Aa h
 refine qC (qa rfl (erg (erc (erD AP _) rfl)) (qa rfl (erg (erc rfl (erc (erD Cn _) (erc (erD Ap _) rfl)))) At)) (JI g3) (sp 2 rfl (?_))
 rcases Ab h with ⟨g4, h⟩ | ⟨g4, h⟩
 ·exact qg 17 g4 rfl (sp 5 rfl (evn (qT rfl rfl (rn 1 rfl (Af ((by cases h; exact ⟨.inl rfl, rfl⟩)))))))
 ·refine qg 17 g4 rfl (sp 2 rfl (?_))
  obtain ⟨v5, g6, h⟩ := Aa h
  refine oGR rfl rfl (qC (qa rfl (erg (erc rfl (erc (erD Cn _) (erc (erD Ap _) rfl)))) (qa rfl (erD Ap _) At)) (I1 g6) (sp 2 rfl (evn ?_)))
  rcases Ab h with ⟨g7, h⟩ | ⟨g7, h⟩
  ·exact qT rfl g7 (rn 1 rfl (Af ((by cases h; exact ⟨.inl rfl, rfl⟩))))
  ·refine qF rfl g7 (Ae (hK1 _ (qk [2, 3, 4, 8] rfl (Ac fun K8 hK8 => rn 1 rfl ?_))))
   obtain ⟨o1, hl, hr1⟩ := Aa h
   have kXB1 : ∀ {z9 : List Y40}, (.inl z9) = o1 -> Jn K8 [(8, oL 179 GY z9)] := by
    intro z9 h σ' hk
    subst h
    replace h := hr1
    try dsimp only at h
    exact hK8 _ (lh hk rfl (rn 1 rfl (Af ((by cases h; exact ⟨.inl rfl, rfl⟩)))))
   refine As (fun (s : (List Y40) × Int) => match s with | (y1, y2) => [(2, dL An a2), (3, .box [dL AE a0]), (4, .box [nI a1.1, dL Bt a1.2.1, dL An a1.2.2]), (8, oL 179 GY y1), (9, nI y2)]) _ _ _ _ hl (okr rfl) (fun _ => rfl) ?_
   rintro m ⟨y1, y2⟩ N h hN
   unfold E4 at h
   dsimp only at h
   refine Ac fun K10 hK10 => rn 1 rfl ?_
   rcases Ab h with ⟨g11, h⟩ | ⟨g11, h⟩
   ·refine qT rfl g11 (Ae (hK10 _ (Ac fun K12 hK12 => Aq (rd (by kernel_rfl) (sd 4 rfl (?_))))))
    obtain ⟨e13, g14, h⟩ := Aa h
    refine ed rfl (qI rfl FG g14 (sd 1 rfl (?_)))
    obtain ⟨v15, g16, h⟩ := Aa h
    refine ed rfl (qC (qa rfl (erg (erc (erD AP _) rfl)) (qa rfl (erg (erc rfl (erc (erD Ap _) rfl))) At)) (Lv g16) (sd 3 rfl (?_)))
    obtain ⟨e17, g18, h⟩ := Aa h
    refine ed rfl (qI rfl FG g18 (sd 2 rfl (?_)))
    obtain ⟨v19, g20, h⟩ := Aa h
    refine ed rfl (qC (qa rfl (erg (erc rfl (erc (erD Ap _) rfl))) (qa rfl (erD Ap _) At)) (Ke g20) (?_))
    obtain ⟨v21, g22, h⟩ := Aa h
    refine ed rfl (qC (qa rfl (erg (erc rfl (erc (erO Ca _) rfl))) (qa rfl (erO Ap _) At)) (Nc g22) (sd 6 rfl (Cy (Ac fun K23 hK23 => rn 1 rfl (qk [2, 3, 4, 8, 9, 10, 50] rfl ?_)))))
    rcases Ab h with ⟨g24, h⟩ | ⟨g24, h⟩
    ·exact qT rfl g24 (rs (qBs GY [] rfl rfl rfl KX (sp 2 rfl (evn (Af ((by cases h; cases hr1; exact ⟨.inl rfl, rfl⟩)))))))
    ·refine qF rfl g24 (Ae (hK23 _ (rg (sp 2 rfl (qBs GY [v21.1] rfl rfl rfl KX (?_))))))
     obtain ⟨g25, h⟩ := Ag h
     exact qA GY y1 [v21.1] rfl rfl (Ao KX [v21.1]) rfl g25 (sp 1 rfl (evn (hK12 _ (rg (sp 3 rfl (evn (hN _ _ h (okr rfl))))))))
   ·exact qF rfl g11 (Al (kXB1 (Option.some.inj h) _ (okr rfl)))
def F4 (a0 : List Y40) (rec : Int -> Option (Sum (Unit) (Bool))) (y1 : Int) : Option (Sum (Unit) (Bool)) := cond (decide (y1 < (List.length a0 : Int))) (Ad (AA a0 y1) fun e5 => cond ((List.length e5.2 : Int) == 0) (some (.inr true)) (rec (IntKind.i64.wrap (y1 + 1)))) (some (.inl ()))
def HP (a0 : List Y40) : Option (Bool) := Ad (Ai (F4 a0) fz 0) fun o1 => (match o1 with
  | .inl _ => (some false)
  | .inr r => some r)
theorem Ot {a0 : List Y40} {r : Bool} (h : HP a0 = some r) : Ah Tryz.prog 111 [dL BS a0] (.bool r) := by
 unfold HP at h
 refine st bW rfl (rn 1 rfl (Ac fun K1 hK1 => rn 1 rfl ?_))
 obtain ⟨o1, hl, hr1⟩ := Aa h
 have kXB1 : (.inl ()) = o1 -> Jn K1 [] := by
  intro h σ' hk
  subst h
  replace h := hr1
  try dsimp only at h
  exact hK1 _ (lh hk rfl (rn 1 rfl (Af ((by cases h; exact ⟨.inl rfl, rfl⟩)))))
 refine As (fun (y1 : Int) => [(0, dL BS a0), (3, nI y1)]) _ _ _ _ hl (okr rfl) (fun _ => rfl) ?_
 rintro m y1 N h hN
 unfold F4 at h
 refine Ac fun K2 hK2 => rn 1 rfl ?_
 rcases Ab h with ⟨g3, h⟩ | ⟨g3, h⟩
 ·refine qT rfl g3 (Ae (hK2 _ (Ac fun K4 hK4 => Aq (rs (sp 2 rfl (?_))))))
  obtain ⟨e5, g6, h⟩ := Aa h
  refine qI rfl ND g6 (sp 4 rfl (evn ?_))
  rcases Ab h with ⟨g7, h⟩ | ⟨g7, h⟩
  ·exact qT rfl g7 (rn 1 rfl (Af ((by cases h; cases hr1; exact ⟨.inl rfl, rfl⟩))))
  ·exact qF rfl g7 (Ae (hK4 _ (rg (sp 3 rfl (evn (hN _ _ h (okr rfl)))))))
 ·exact qF rfl g3 (Al (kXB1 (Option.some.inj h) _ trivial))
def BB (rec : ((List Int) × Int) -> Option ((List Int))) (y2 : Int) (x13 : List Int) : Option ((List Int)) := rec (x13, (IntKind.i64.wrap (y2 + 1)))
def BA (a0 : Y29) (a1 : Int) (rec : ((List Int) × Int) -> Option ((List Int))) (s : (List Int) × Int) : Option ((List Int)) := match s with
  | (y1, y2) => cond (decide (y2 < (List.length a0.2.1 : Int))) (Ad (BC a0) fun v5 => cond v5 (Ad (AA a0.2.1 y2) fun e9 => Ad (Bl e9 a1) fun v11 => cond v11 (chk (List.length y1 + List.length [y2] <= lim) (BB rec y2 (y1 ++ [y2]))) (BB rec y2 y1)) (some y1)) (some y1)
def Dc (a0 : Y29) (a1 : Int) : Option ((List Int)) := Ad (Ai (BA a0 a1) fz (([] : List Int), 0)) fun z2 => some z2
theorem JG {a0 : Y29} {a1 : Int} {r : (List Int)} (h : Dc a0 a1 = some r) : Ah Tryz.prog 179 [.agg (CZ a0), nI a1] (oL 3 An r) := by
 unfold Dc at h
 refine st de rfl (rn 1 rfl (rs (qBs An [] rfl rfl rfl Ar (sp 1 rfl (evn (Ac fun K1 hK1 => rn 1 rfl ?_))))))
 obtain ⟨o1, hl, hr1⟩ := Aa h
 have kXB1 : ∀ {z2 : List Int}, z2 = o1 -> Jn K1 [(5, oL 3 An z2)] := by
  intro z2 h σ' hk
  subst h
  replace h := hr1
  try dsimp only at h
  exact hK1 _ (lh hk rfl (rn 1 rfl (Af ((by cases h; exact ⟨.inl rfl, rfl⟩)))))
 refine As (fun (s : (List Int) × Int) => match s with | (y1, y2) => [(1, nI a1), (2, .box [nI a0.1, dL Bt a0.2.1, dL An a0.2.2]), (5, oL 3 An y1), (6, nI y2)]) _ _ _ _ hl (okr rfl) (fun _ => rfl) ?_
 rintro m ⟨y1, y2⟩ N h hN
 unfold BA at h
 dsimp only at h
 refine Ac fun K3 hK3 => rs (sp 6 rfl (?_))
 rcases Ab h with ⟨g4, h⟩ | ⟨g4, h⟩
 ·refine qg 13 g4 rfl (sp 1 rfl (?_))
  obtain ⟨v5, g6, h⟩ := Aa h
  refine oGR rfl rfl (qC (qa rfl (erg (erc rfl (erc (erD Cn _) (erc (erD Ap _) rfl)))) At) (Ds g6) (sp 1 rfl (evn ?_)))
  rcases Ab h with ⟨g7, h⟩ | ⟨g7, h⟩
  ·refine qT rfl g7 (Ae (hK3 _ (Ac fun K8 hK8 => Aq (rs (sp 3 rfl (?_))))))
   obtain ⟨e9, g10, h⟩ := Aa h
   refine qI rfl FG g10 (sp 2 rfl (?_))
   obtain ⟨v11, g12, h⟩ := Aa h
   refine qC (qa rfl (erg (erc rfl (erc (erD Ap _) rfl))) (qs rfl At)) (D9 g12) (evn ?_)
   have kJ2 : ∀ {x13 : List Int}, BB (Ai (BA a0 a1) m) y2 x13 = some o1 -> Jn K8 [(1, nI a1), (2, .box [nI a0.1, dL Bt a0.2.1, dL An a0.2.2]), (5, oL 3 An x13), (6, nI y2)] := by
    intro x13 h σ' hk
    unfold BB at h
    exact hK8 _ (lh hk rfl (rg (sp 3 rfl (evn (hN _ _ h (okr rfl))))))
   rcases Ab h with ⟨g14, h⟩ | ⟨g14, h⟩
   ·refine qT rfl g14 (rg (sp 2 rfl (qBs An [y2] rfl rfl rfl Ar (?_))))
    obtain ⟨g15, h⟩ := Ag h
    exact qA An y1 [y2] rfl rfl (Ao Ar [y2]) rfl g15 (sp 1 rfl (evn (kJ2 h _ (okr rfl))))
   ·exact qF rfl g14 (Ae (kJ2 h _ (okr rfl)))
  ·exact qF rfl g7 (Al (kXB1 (Option.some.inj h) _ (okr rfl)))
 ·exact qg 13 g4 rfl (sp 3 rfl (evn (qF rfl rfl (Al (kXB1 (Option.some.inj h) _ (okr rfl))))))
def J2 (a0 : Y40) : Option (Y40) := some a0
theorem P6 {a0 : Y40} {r : Y40} (h : J2 a0 = some r) : Ah Tryz.prog 200 [.agg (BS a0)] (.agg (Ek r)) := by
 unfold J2 at h
 exact st dw rfl (rn 2 rfl (Af ((by cases h; exact ⟨.inl rfl, rfl⟩))))
def Hl (a0 : Y40) : Option (Bool) := Ad (J2 a0) fun v1 => Ad (AG v1) fun v3 => some v3
theorem Mc {a0 : Y40} {r : Bool} (h : Hl a0 = some r) : Ah Tryz.prog 198 [.agg (BS a0)] (.bool r) := by
 unfold Hl at h
 refine st du rfl (rn 1 rfl (rs (sp 1 rfl (?_))))
 obtain ⟨v1, g2, h⟩ := Aa h
 refine qC (qa rfl (erg (erc rfl (erc (erD AJ _) rfl))) At) (P6 g2) (?_)
 obtain ⟨v3, g4, h⟩ := Aa h
 exact qC (qa rfl (erg (erc rfl (erc (erD AJ _) rfl))) At) (AM g4) (sp 1 rfl (evn (Af ((by cases h; exact ⟨.inl rfl, rfl⟩)))))
def AS (a0 : Y40) (a1 : List Int) (rec : Int -> Option (Int)) (y1 : Int) : Option (Int) := cond (decide (y1 < (List.length a0.2 : Int))) (Ad (AA a0.2 y1) fun e10 => chk ((0 : Int) <= 0 ∧ 0 <= (List.length a1 : Int) ∧ (List.length a1 : Int) <= (List.length e10 : Int)) (Ad (A9 (A7 e10 0 (List.length a1 : Int)) a1) fun v13 => cond (decide (v13 < 0)) (rec (IntKind.i64.wrap (y1 + 1))) (some y1))) (some y1)
def AT (a0 : Y40) (a1 : List Int) (rec : Int -> Option (Int)) (y2 : Int) : Option (Int) := cond (decide (y2 < (List.length a0.2 : Int))) (Ad (AA a0.2 y2) fun e20 => chk ((0 : Int) <= 0 ∧ 0 <= (List.length a1 : Int) ∧ (List.length a1 : Int) <= (List.length e20 : Int)) (Ad (A9 (A7 e20 0 (List.length a1 : Int)) a1) fun v23 => cond (v23 == 0) (rec (IntKind.i64.wrap (y2 + 1))) (some y2))) (some y2)
def CV (a0 : Y40) (a1 : List Int) : Option (Int × Int) := Ad (Hl a0) fun v2 => cond (!v2) (some (0, 0)) (cond (decide (a0.1 < (List.length a1 : Int))) (some (0, 0)) (Ad (Ai (AS a0 a1) fz 0) fun z7 => Ad (Ai (AT a0 a1) fz z7) fun z17 => some (z7, z17)))
theorem Kf {a0 : Y40} {a1 : List Int} {r : Int × Int} (h : CV a0 a1 = some r) : Ah Tryz.prog 189 [.agg (BS a0), dL An a1] (.tup [nI r.1, nI r.2]) := by
 unfold CV at h
 refine st dm rfl (rn 1 rfl (Ac fun K1 hK1 => rs (sp 1 rfl (?_))))
 obtain ⟨v2, g3, h⟩ := Aa h
 refine qC (qa rfl (erg (erc rfl (erc (erD AJ _) rfl))) At) (Mc g3) (sp 2 rfl (?_))
 rcases Ab h with ⟨g4, h⟩ | ⟨g4, h⟩
 ·exact qg 11 g4 rfl (sp 6 rfl (evn (qT rfl rfl (rn 1 rfl (Af ((by cases h; exact ⟨.inl rfl, rfl⟩)))))))
 ·refine qg 11 g4 rfl (sp 6 rfl (evn ?_))
  rcases Ab h with ⟨g5, h⟩ | ⟨g5, h⟩
  ·exact qT rfl g5 (rn 1 rfl (Af ((by cases h; exact ⟨.inl rfl, rfl⟩))))
  ·refine qF rfl g5 (Ae (hK1 _ (qk [1, 2] rfl (rn 1 rfl (Ac fun K6 hK6 => ?_)))))
   obtain ⟨o1, hl, hr1⟩ := Aa h
   have kXB1 : ∀ {z7 : Int}, z7 = o1 -> Jn K6 [(1, dL An a1), (2, .box [nI a0.1, dL Aw a0.2]), (6, nI z7)] := by
    intro z7 h σ' hk
    subst h
    replace h := hr1
    try dsimp only at h
    refine hK6 _ (lh hk rfl (rn 1 rfl (Ac fun K16 hK16 => ?_)))
    obtain ⟨o2, hl, hr2⟩ := Aa h
    have kXB2 : ∀ {z17 : Int}, z17 = o2 -> Jn K16 [(6, nI z7), (7, nI z17)] := by
     intro z17 h σ' hk
     subst h
     replace h := hr2
     try dsimp only at h
     exact hK16 _ (lh hk rfl (rn 1 rfl (Af ((by cases h; exact ⟨.inl rfl, rfl⟩)))))
    refine As (fun (y2 : Int) => [(1, dL An a1), (2, .box [nI a0.1, dL Aw a0.2]), (6, nI z7), (7, nI y2)]) _ _ _ _ hl (okr rfl) (fun _ => rfl) ?_
    rintro m y2 N h hN
    unfold AT at h
    refine Ac fun K18 hK18 => rs (sp 6 rfl (?_))
    rcases Ab h with ⟨g19, h⟩ | ⟨g19, h⟩
    ·refine qg 44 g19 rfl (sp 3 rfl (?_))
     obtain ⟨e20, g21, h⟩ := Aa h
     refine oGR rfl rfl (qI rfl AX g21 (sp 3 rfl (?_)))
     obtain ⟨g22, h⟩ := Ag h
     refine oGR rfl rfl (qSl rfl Ar g22 (sp 1 rfl (?_)))
     obtain ⟨v23, g24, h⟩ := Aa h
     refine oGR rfl rfl (qC (qa rfl (erD Ap _) (qa rfl (erD Ap _) At)) (BI g24) (sp 2 rfl (evn ?_)))
     rcases Ab h with ⟨g25, h⟩ | ⟨g25, h⟩
     ·exact qT rfl g25 (Ae (hK18 _ (Aq (rg (sp 3 rfl (evn (hN _ _ h (okr rfl))))))))
     ·exact qF rfl g25 (Al (kXB2 (Option.some.inj h) _ (okr rfl)))
    ·exact qg 44 g19 rfl (sp 12 rfl (evn (qk [1, 2, 6, 7, 56] rfl (qF rfl rfl (Al (kXB2 (Option.some.inj h) _ (okr rfl)))))))
   refine As (fun (y1 : Int) => [(1, dL An a1), (2, .box [nI a0.1, dL Aw a0.2]), (6, nI y1)]) _ _ _ _ hl (okr rfl) (fun _ => rfl) ?_
   rintro m y1 N h hN
   unfold AS at h
   refine Ac fun K8 hK8 => rs (sp 6 rfl (?_))
   rcases Ab h with ⟨g9, h⟩ | ⟨g9, h⟩
   ·refine qg 23 g9 rfl (sp 3 rfl (?_))
    obtain ⟨e10, g11, h⟩ := Aa h
    refine oGR rfl rfl (qI rfl AX g11 (sp 3 rfl (?_)))
    obtain ⟨g12, h⟩ := Ag h
    refine oGR rfl rfl (qSl rfl Ar g12 (sp 1 rfl (?_)))
    obtain ⟨v13, g14, h⟩ := Aa h
    refine oGR rfl rfl (qC (qa rfl (erD Ap _) (qa rfl (erD Ap _) At)) (BI g14) (sp 2 rfl (evn ?_)))
    rcases Ab h with ⟨g15, h⟩ | ⟨g15, h⟩
    ·exact qT rfl g15 (Ae (hK8 _ (Aq (rg (sp 3 rfl (evn (hN _ _ h (okr rfl))))))))
    ·exact qF rfl g15 (Al (kXB1 (Option.some.inj h) _ (okr rfl)))
   ·exact qg 23 g9 rfl (sp 12 rfl (evn (qk [1, 2, 6, 35] rfl (qF rfl rfl (Al (kXB1 (Option.some.inj h) _ (okr rfl)))))))
def CU (rec : ((List Int) × Int) -> Option ((List Int))) (y2 : Int) (x15 : List Int) : Option ((List Int)) := rec (x15, (IntKind.i64.wrap (y2 + 1)))
def B9 (rec : ((List Int) × Int) -> Option ((List Int))) (y1 : List Int) (y2 : Int) (e11 : Int) (x14 : Bool) : Option ((List Int)) := cond x14 (chk (List.length y1 + List.length [e11] <= lim) (CU rec y2 (y1 ++ [e11]))) (CU rec y2 y1)
def A8 (a0 : Y40) (a1 : List Int) (v1 : Int × Int) (rec : ((List Int) × Int) -> Option ((List Int))) (s : (List Int) × Int) : Option ((List Int)) := match s with
  | (y1, y2) => cond (decide (y2 < v1.2)) (cond (decide ((List.length a1 : Int) < a0.1)) (Ad (AA a0.2 y2) fun e9 => Ad (AA e9 (List.length a1 : Int)) fun e11 => cond ((List.length y1 : Int) == 0) (B9 rec y1 y2 e11 true) (Ad (AA y1 (IntKind.i64.wrap ((List.length y1 : Int) - 1))) fun e19 => B9 rec y1 y2 e11 (e19 != e11))) (some y1)) (some y1)
def Cw (a0 : Y40) (a1 : List Int) : Option ((List Int)) := Ad (CV a0 a1) fun v1 => Ad (Ai (A8 a0 a1 v1) fz (([] : List Int), v1.1)) fun z4 => some z4
theorem Ly {a0 : Y40} {a1 : List Int} {r : (List Int)} (h : Cw a0 a1 = some r) : Ah Tryz.prog 180 [.agg (BS a0), dL An a1] (oL 3 An r) := by
 unfold Cw at h
 refine st df rfl (rn 1 rfl (rs (qBs An [] rfl rfl rfl Ar (sp 1 rfl (evn (rs (sp 2 rfl (?_))))))))
 obtain ⟨v1, g2, h⟩ := Aa h
 refine qC (qa rfl (erg (erc rfl (erc (erD AJ _) rfl))) (qa rfl (erD Ap _) At)) (Kf g2) (sp 5 rfl (evn (Ac fun K3 hK3 => rn 1 rfl ?_)))
 obtain ⟨o1, hl, hr1⟩ := Aa h
 have kXB1 : ∀ {z4 : List Int}, z4 = o1 -> Jn K3 [(5, oL 3 An z4)] := by
  intro z4 h σ' hk
  subst h
  replace h := hr1
  try dsimp only at h
  exact hK3 _ (lh hk rfl (rn 1 rfl (Af ((by cases h; exact ⟨.inl rfl, rfl⟩)))))
 refine As (fun (s : (List Int) × Int) => match s with | (y1, y2) => [(1, dL An a1), (2, .box [nI a0.1, dL Aw a0.2]), (5, oL 3 An y1), (7, nI v1.2), (8, nI y2)]) _ _ _ _ hl (okr rfl) (fun _ => rfl) ?_
 rintro m ⟨y1, y2⟩ N h hN
 unfold A8 at h
 dsimp only at h
 refine Ac fun K5 hK5 => rs (sp 4 rfl (?_))
 rcases Ab h with ⟨g6, h⟩ | ⟨g6, h⟩
 ·refine qg 21 g6 rfl (sp 6 rfl (evn ?_))
  rcases Ab h with ⟨g7, h⟩ | ⟨g7, h⟩
  ·refine qT rfl g7 (Ae (hK5 _ (Ac fun K8 hK8 => Aq (rs (sp 3 rfl (?_))))))
   obtain ⟨e9, g10, h⟩ := Aa h
   refine qI rfl AX g10 (sp 3 rfl (?_))
   obtain ⟨e11, g12, h⟩ := Aa h
   refine qI rfl Ar g12 (sp 2 rfl (evn (rk fun K13 hK13 => ?_)))
   have kJ2 : ∀ {x14 : Bool}, B9 (Ai (A8 a0 a1 v1) m) y1 y2 e11 x14 = some o1 -> Jn K13 [(1, dL An a1), (2, .box [nI a0.1, dL Aw a0.2]), (5, oL 3 An y1), (7, nI v1.2), (8, nI y2), (9, nI e11), (51, .bool x14)] := by
    intro x14 h σ' hk
    unfold B9 at h
    refine hK13 _ (lh hk rfl ?_)
    have kJ3 : ∀ {x15 : List Int}, CU (Ai (A8 a0 a1 v1) m) y2 x15 = some o1 -> Jn K8 [(1, dL An a1), (2, .box [nI a0.1, dL Aw a0.2]), (5, oL 3 An x15), (7, nI v1.2), (8, nI y2)] := by
     intro x15 h σ' hk
     unfold CU at h
     exact hK8 _ (lh hk rfl (rg (sp 3 rfl (evn (hN _ _ h (okr rfl))))))
    rcases Ab h with ⟨g16, h⟩ | ⟨g16, h⟩
    ·refine qT rfl g16 (rg (sp 2 rfl (qBs An [e11] rfl rfl rfl Ar (?_))))
     obtain ⟨g17, h⟩ := Ag h
     exact qA An y1 [e11] rfl rfl (Ao Ar [e11]) rfl g17 (sp 1 rfl (evn (kJ3 h _ (okr rfl))))
    ·exact qF rfl g16 (Ae (kJ3 h _ (okr rfl)))
   refine sp 4 rfl (?_)
   rcases Ab h with ⟨g18, h⟩ | ⟨g18, h⟩
   ·exact qg 42 g18 rfl (sp 9 rfl (evn (kJ2 h _ (okr rfl))))
   ·refine qg 42 g18 rfl (sp 4 rfl (?_))
    obtain ⟨e19, g20, h⟩ := Aa h
    exact oGR rfl rfl (qI rfl Ar g20 (sp 4 rfl (evn (kJ2 h _ (okr rfl)))))
  ·exact qF rfl g7 (Al (kXB1 (Option.some.inj h) _ (okr rfl)))
 ·exact qg 21 g6 rfl (sp 6 rfl (evn (qk [1, 2, 5, 7, 8, 27] rfl (qF rfl rfl (Al (kXB1 (Option.some.inj h) _ (okr rfl)))))))
def Ei (rec : ((List Int) × Int) -> Option ((List Int))) (y2 : Int) (x10 : List Int) : Option ((List Int)) := rec (x10, (IntKind.i64.wrap (y2 + 1)))
def Du (a0 : Gn) (a1 : List Int) (a2 : List Int) (rec : ((List Int) × Int) -> Option ((List Int))) (s : (List Int) × Int) : Option ((List Int)) := match s with
  | (y1, y2) => cond (decide (y2 < (List.length a2 : Int))) (Ad (AA a1 y2) fun e6 => Ad (Bl a0 e6) fun v8 => cond v8 (Ad (AA a2 y2) fun e12 => chk (List.length y1 + List.length [e12] <= lim) (Ei rec y2 (y1 ++ [e12]))) (Ei rec y2 y1)) (some y1)
def Hg (a0 : Gn) (a1 : List Int) (a2 : List Int) : Option ((List Int)) := Ad (Ai (Du a0 a1 a2) fz (([] : List Int), 0)) fun z2 => some z2
theorem Ng {a0 : Gn} {a1 : List Int} {a2 : List Int} {r : (List Int)} (h : Hg a0 a1 a2 = some r) : Ah Tryz.prog 181 [.agg (Bt a0), dL An a1, dL An a2] (oL 3 An r) := by
 unfold Hg at h
 refine st dh rfl (rn 1 rfl (rs (qBs An [] rfl rfl rfl Ar (sp 1 rfl (evn (Ac fun K1 hK1 => rn 1 rfl ?_))))))
 obtain ⟨o1, hl, hr1⟩ := Aa h
 have kXB1 : ∀ {z2 : List Int}, z2 = o1 -> Jn K1 [(7, oL 3 An z2)] := by
  intro z2 h σ' hk
  subst h
  replace h := hr1
  try dsimp only at h
  exact hK1 _ (lh hk rfl (rn 1 rfl (Af ((by cases h; exact ⟨.inl rfl, rfl⟩)))))
 refine As (fun (s : (List Int) × Int) => match s with | (y1, y2) => [(1, dL An a1), (2, dL An a2), (3, .box [.str a0.1, dL An a0.2]), (7, oL 3 An y1), (8, nI y2)]) _ _ _ _ hl (okr rfl) (fun _ => rfl) ?_
 rintro m ⟨y1, y2⟩ N h hN
 unfold Du at h
 dsimp only at h
 refine Ac fun K3 hK3 => rn 1 rfl ?_
 rcases Ab h with ⟨g4, h⟩ | ⟨g4, h⟩
 ·refine qT rfl g4 (Ae (hK3 _ (Ac fun K5 hK5 => Aq (rd (by kernel_rfl) (sd 3 rfl (?_))))))
  obtain ⟨e6, g7, h⟩ := Aa h
  refine ed rfl (qI rfl Ar g7 (sd 1 rfl (?_)))
  obtain ⟨v8, g9, h⟩ := Aa h
  refine ed rfl (qC (qa rfl (erg (erc rfl (erc (erD Ap _) rfl))) (qs rfl At)) (D9 g9) (Cy ?_))
  have kJ2 : ∀ {x10 : List Int}, Ei (Ai (Du a0 a1 a2) m) y2 x10 = some o1 -> Jn K5 [(1, dL An a1), (2, dL An a2), (3, .box [.str a0.1, dL An a0.2]), (7, oL 3 An x10), (8, nI y2)] := by
   intro x10 h σ' hk
   unfold Ei at h
   exact hK5 _ (lh hk rfl (rg (sp 3 rfl (evn (hN _ _ h (okr rfl))))))
  rcases Ab h with ⟨g11, h⟩ | ⟨g11, h⟩
  ·refine qT rfl g11 (rg (sp 3 rfl (?_)))
   obtain ⟨e12, g13, h⟩ := Aa h
   refine qI rfl Ar g13 (sp 1 rfl (qBs An [e12] rfl rfl rfl Ar (?_)))
   obtain ⟨g14, h⟩ := Ag h
   exact qA An y1 [e12] rfl rfl (Ao Ar [e12]) rfl g14 (sp 1 rfl (evn (kJ2 h _ (okr rfl))))
  ·exact qF rfl g11 (Ae (kJ2 h _ (okr rfl)))
 ·exact qF rfl g4 (Al (kXB1 (Option.some.inj h) _ (okr rfl)))
def A6 (a0 : List Int) (rec : Int -> Option (Sum (Unit) (Bool))) (y1 : Int) : Option (Sum (Unit) (Bool)) := cond (decide (y1 < (List.length a0 : Int))) (Ad (AA a0 y1) fun e5 => Ad (AA a0 (IntKind.i64.wrap (y1 - 1))) fun e7 => cond (decide (e5 <= e7)) (some (.inr false)) (rec (IntKind.i64.wrap (y1 + 1)))) (some (.inl ()))
def Cv (a0 : List Int) : Option (Bool) := Ad (Ai (A6 a0) fz 1) fun o1 => (match o1 with
  | .inl _ => (some true)
  | .inr r => some r)
theorem I7 {a0 : List Int} {r : Bool} (h : Cv a0 = some r) : Ah Tryz.prog 199 [dL An a0] (.bool r) := by
 unfold Cv at h
 refine st dv rfl (rn 1 rfl (Ac fun K1 hK1 => rn 1 rfl ?_))
 obtain ⟨o1, hl, hr1⟩ := Aa h
 have kXB1 : (.inl ()) = o1 -> Jn K1 [] := by
  intro h σ' hk
  subst h
  replace h := hr1
  try dsimp only at h
  exact hK1 _ (lh hk rfl (rn 1 rfl (Af ((by cases h; exact ⟨.inl rfl, rfl⟩)))))
 refine As (fun (y1 : Int) => [(0, dL An a0), (3, nI y1)]) _ _ _ _ hl (okr rfl) (fun _ => rfl) ?_
 rintro m y1 N h hN
 unfold A6 at h
 refine Ac fun K2 hK2 => rn 1 rfl ?_
 rcases Ab h with ⟨g3, h⟩ | ⟨g3, h⟩
 ·refine qT rfl g3 (Ae (hK2 _ (Ac fun K4 hK4 => Aq (rd (by kernel_rfl) (sd 2 rfl (?_))))))
  obtain ⟨e5, g6, h⟩ := Aa h
  refine ed rfl (qI rfl Ar g6 (sd 4 rfl (?_)))
  obtain ⟨e7, g8, h⟩ := Aa h
  refine ed rfl (qI rfl Ar g8 (sd 2 rfl (Cy ?_)))
  rcases Ab h with ⟨g9, h⟩ | ⟨g9, h⟩
  ·exact qT rfl g9 (rn 1 rfl (Af ((by cases h; cases hr1; exact ⟨.inl rfl, rfl⟩))))
  ·exact qF rfl g9 (Ae (hK4 _ (rg (sp 3 rfl (evn (hN _ _ h (okr rfl)))))))
 ·exact qF rfl g3 (Al (kXB1 (Option.some.inj h) _ trivial))
def He (a0 : List (List Int)) (rec : Int -> Option (Sum (Unit) (Bool))) (y1 : Int) : Option (Sum (Unit) (Bool)) := cond (decide (y1 < (List.length a0 : Int))) (Ad (AA a0 y1) fun e5 => Ad (Cv e5) fun v7 => cond (!v7) (some (.inr false)) (rec (IntKind.i64.wrap (y1 + 1)))) (some (.inl ()))
def I2 (a0 : List (List Int)) : Option (Bool) := Ad (Ai (He a0) fz 0) fun o1 => (match o1 with
  | .inl _ => (some (decide (0 < (List.length a0 : Int))))
  | .inr r => some r)
theorem P7 {a0 : List (List Int)} {r : Bool} (h : I2 a0 = some r) : Ah Tryz.prog 190 [dL Aw a0] (.bool r) := by
 unfold I2 at h
 refine st dn rfl (rn 1 rfl (Ac fun K1 hK1 => rn 1 rfl ?_))
 obtain ⟨o1, hl, hr1⟩ := Aa h
 have kXB1 : (.inl ()) = o1 -> Jn K1 [(0, dL Aw a0)] := by
  intro h σ' hk
  subst h
  replace h := hr1
  try dsimp only at h
  exact hK1 _ (lh hk rfl (rn 1 rfl (Af ((by cases h; exact ⟨.inl rfl, rfl⟩)))))
 refine As (fun (y1 : Int) => [(0, dL Aw a0), (3, nI y1)]) _ _ _ _ hl (okr rfl) (fun _ => rfl) ?_
 rintro m y1 N h hN
 unfold He at h
 refine Ac fun K2 hK2 => rn 1 rfl ?_
 rcases Ab h with ⟨g3, h⟩ | ⟨g3, h⟩
 ·refine qT rfl g3 (Ae (hK2 _ (Ac fun K4 hK4 => Aq (rs (sp 2 rfl (?_))))))
  obtain ⟨e5, g6, h⟩ := Aa h
  refine qI rfl AX g6 (sp 1 rfl (?_))
  obtain ⟨v7, g8, h⟩ := Aa h
  refine qC (qa rfl (erD Ap _) At) (I7 g8) (sp 1 rfl (evn ?_))
  rcases Ab h with ⟨g9, h⟩ | ⟨g9, h⟩
  ·exact qT rfl g9 (rn 1 rfl (Af ((by cases h; cases hr1; exact ⟨.inl rfl, rfl⟩))))
  ·exact qF rfl g9 (Ae (hK4 _ (rg (sp 3 rfl (evn (hN _ _ h (okr rfl)))))))
 ·exact qF rfl g3 (Al (kXB1 (Option.some.inj h) _ (okr rfl)))
def Cf (rec : (Int × Int) -> Option (Int)) (y2 : Int) (x8 : Int) : Option (Int) := rec (x8, (IntKind.i64.wrap (y2 + 1)))
def Bd (rec : (Int × Int) -> Option (Int)) (a0 : List (List Int)) (y1 : Int) (y2 : Int) (x7 : Bool) : Option (Int) := cond x7 (Ad (AA a0 y2) fun e10 => Cf rec y2 (List.length e10 : Int)) (Cf rec y2 y1)
def Bc (a0 : List (List Int)) (rec : (Int × Int) -> Option (Int)) (s : Int × Int) : Option (Int) := match s with
  | (y1, y2) => cond (decide (y2 < (List.length a0 : Int))) (cond (y2 == 0) (Bd rec a0 y1 y2 true) (Ad (AA a0 y2) fun e13 => Bd rec a0 y1 y2 (decide ((List.length e13 : Int) < y1)))) (some y1)
def EE (a0 : List (List Int)) : Option (Int) := Ad (Ai (Bc a0) fz (0, 0)) fun z2 => some z2
theorem KF {a0 : List (List Int)} {r : Int} (h : EE a0 = some r) : Ah Tryz.prog 191 [dL Aw a0] (nI r) := by
 unfold EE at h
 refine st dp rfl (rn 2 rfl (Ac fun K1 hK1 => rn 1 rfl ?_))
 obtain ⟨o1, hl, hr1⟩ := Aa h
 have kXB1 : ∀ {z2 : Int}, z2 = o1 -> Jn K1 [(3, nI z2)] := by
  intro z2 h σ' hk
  subst h
  replace h := hr1
  try dsimp only at h
  exact hK1 _ (lh hk rfl (rn 1 rfl (Af ((by cases h; exact ⟨.inl rfl, rfl⟩)))))
 refine As (fun (s : Int × Int) => match s with | (y1, y2) => [(0, dL Aw a0), (3, nI y1), (4, nI y2)]) _ _ _ _ hl (okr rfl) (fun _ => rfl) ?_
 rintro m ⟨y1, y2⟩ N h hN
 unfold Bc at h
 dsimp only at h
 refine Ac fun K3 hK3 => rn 1 rfl ?_
 rcases Ab h with ⟨g4, h⟩ | ⟨g4, h⟩
 ·refine qT rfl g4 (Ae (hK3 _ (Ac fun K5 hK5 => Aq (rk fun K6 hK6 => ?_))))
  have kJ2 : ∀ {x7 : Bool}, Bd (Ai (Bc a0) m) a0 y1 y2 x7 = some o1 -> Jn K6 [(0, dL Aw a0), (3, nI y1), (4, nI y2), (21, .bool x7)] := by
   intro x7 h σ' hk
   unfold Bd at h
   refine hK6 _ (lh hk rfl ?_)
   have kJ3 : ∀ {x8 : Int}, Cf (Ai (Bc a0) m) y2 x8 = some o1 -> Jn K5 [(0, dL Aw a0), (3, nI x8), (4, nI y2)] := by
    intro x8 h σ' hk
    unfold Cf at h
    exact hK5 _ (lh hk rfl (rg (sp 3 rfl (evn (hN _ _ h (okr rfl))))))
   rcases Ab h with ⟨g9, h⟩ | ⟨g9, h⟩
   ·refine qT rfl g9 (rg (sp 2 rfl (?_)))
    obtain ⟨e10, g11, h⟩ := Aa h
    exact qI rfl AX g11 (sp 3 rfl (evn (kJ3 h _ (okr rfl))))
   ·exact qF rfl g9 (Ae (kJ3 h _ (okr rfl)))
  refine sp 3 rfl (?_)
  rcases Ab h with ⟨g12, h⟩ | ⟨g12, h⟩
  ·exact qg 13 g12 rfl (sp 8 rfl (evn (kJ2 h _ (okr rfl))))
  ·refine qg 13 g12 rfl (sp 2 rfl (?_))
   obtain ⟨e13, g14, h⟩ := Aa h
   exact oGR rfl rfl (qI rfl AX g14 (sp 5 rfl (evn (kJ2 h _ (okr rfl)))))
 ·exact qF rfl g4 (Al (kXB1 (Option.some.inj h) _ (okr rfl)))
def DV (a0 : List (List Int)) (y2 : List Int) (y3 : Int) (rec : Int -> Option (Int)) (y5 : Int) : Option (Int) := cond (decide (0 < y5)) (Ad (AA y2 (IntKind.i64.wrap (y5 - 1))) fun e10 => Ad (AA a0 e10) fun e12 => Ad (AA e12 0) fun e14 => Ad (AA a0 y3) fun e16 => Ad (AA e16 0) fun e18 => cond (decide (e18 < e14)) (rec (IntKind.i64.wrap (y5 - 1))) (some y5)) (some y5)
def EX (a0 : List (List Int)) (rec : ((List Int) × Int) -> Option ((List Int))) (s : (List Int) × Int) : Option ((List Int)) := match s with
  | (y2, y3) => cond (decide (y3 < (List.length a0 : Int))) (Ad (Ai (DV a0 y2 y3) fz (List.length y2 : Int)) fun z7 => chk ((0 : Int) <= 0 ∧ 0 <= z7 ∧ z7 <= (List.length y2 : Int)) (chk (List.length ([] : List Int) + List.length (A7 y2 0 z7) <= lim) (chk (List.length (([] : List Int) ++ (A7 y2 0 z7)) + List.length [y3] <= lim) (chk ((0 : Int) <= z7 ∧ z7 <= (List.length y2 : Int) ∧ (List.length y2 : Int) <= (List.length y2 : Int)) (chk (List.length ((([] : List Int) ++ (A7 y2 0 z7)) ++ [y3]) + List.length (A7 y2 z7 (List.length y2 : Int)) <= lim) (rec ((((([] : List Int) ++ (A7 y2 0 z7)) ++ [y3]) ++ (A7 y2 z7 (List.length y2 : Int))), (IntKind.i64.wrap (y3 + 1))))))))) (some y2)
def HM (a0 : List (List Int)) : Option ((List Int)) := Ad (Ai (EX a0) fz (([] : List Int), 0)) fun z2 => some z2
theorem Oq {a0 : List (List Int)} {r : (List Int)} (h : HM a0 = some r) : Ah Tryz.prog 192 [dL Aw a0] (oL 3 An r) := by
 unfold HM at h
 refine st dq rfl (rn 1 rfl (rs (qBs An [] rfl rfl rfl Ar (sp 1 rfl (evn (Ac fun K1 hK1 => rn 1 rfl ?_))))))
 obtain ⟨o1, hl, hr1⟩ := Aa h
 have kXB1 : ∀ {z2 : List Int}, z2 = o1 -> Jn K1 [(3, oL 3 An z2)] := by
  intro z2 h σ' hk
  subst h
  replace h := hr1
  try dsimp only at h
  exact hK1 _ (lh hk rfl (rn 1 rfl (Af ((by cases h; exact ⟨.inl rfl, rfl⟩)))))
 refine As (fun (s : (List Int) × Int) => match s with | (y2, y3) => [(0, dL Aw a0), (3, oL 3 An y2), (4, nI y3)]) _ _ _ _ hl (okr rfl) (fun _ => rfl) ?_
 rintro m ⟨y2, y3⟩ N h hN
 unfold EX at h
 dsimp only at h
 refine Ac fun K3 hK3 => rn 1 rfl ?_
 rcases Ab h with ⟨g4, h⟩ | ⟨g4, h⟩
 ·refine qT rfl g4 (Ae (hK3 _ (Ac fun K5 hK5 => Aq (rn 1 rfl (Ac fun K6 hK6 => ?_)))))
  obtain ⟨o2, hl, hr2⟩ := Aa h
  have kXB2 : ∀ {z7 : Int}, z7 = o2 -> Jn K6 [(0, dL Aw a0), (3, oL 3 An y2), (4, nI y3), (5, nI z7)] := by
   intro z7 h σ' hk
   subst h
   replace h := hr2
   try dsimp only at h
   refine hK6 _ (lh hk rfl (rgd (by kernel_rfl) (ed rfl (qBs An [] rfl rfl rfl Ar (sd 2 rfl (?_))))))
   obtain ⟨g21, h⟩ := Ag h
   refine ed rfl (qSl rfl Ar g21 (?_))
   obtain ⟨g22, h⟩ := Ag h
   refine ed rfl (qA An ([] : List Int) (A7 y2 0 z7) rfl rfl (Ao Ar (A7 y2 0 z7)) (Gi (fun _ => rfl) _) g22 (sd 1 rfl (ed rfl (qBs An [y3] rfl rfl rfl Ar (?_)))))
   obtain ⟨g23, h⟩ := Ag h
   refine ed rfl (qA An (([] : List Int) ++ (A7 y2 0 z7)) [y3] rfl rfl (Ao Ar [y3]) rfl g23 (sd 2 rfl (?_)))
   obtain ⟨g24, h⟩ := Ag h
   refine ed rfl (qSl rfl Ar g24 (?_))
   obtain ⟨g25, h⟩ := Ag h
   exact ed rfl (qA An ((([] : List Int) ++ (A7 y2 0 z7)) ++ [y3]) (A7 y2 z7 (List.length y2 : Int)) rfl rfl (Ao Ar (A7 y2 z7 (List.length y2 : Int))) (Gi (fun _ => rfl) _) g25 (sd 1 rfl (Cy (hK5 _ (rg (sp 3 rfl (evn (hN _ _ h (okr rfl)))))))))
  refine As (fun (y5 : Int) => [(0, dL Aw a0), (3, oL 3 An y2), (4, nI y3), (5, nI y5)]) _ _ _ _ hl (okr rfl) (fun _ => rfl) ?_
  rintro m y5 N h hN
  unfold DV at h
  refine Ac fun K8 hK8 => rd (by kernel_rfl) (sd 3 rfl (?_))
  rcases Ab h with ⟨g9, h⟩ | ⟨g9, h⟩
  ·refine qgd 17 g9 rfl (sd 4 rfl (?_))
   obtain ⟨e10, g11, h⟩ := Aa h
   refine ed rfl (oGR rfl rfl (qI rfl Ar g11 (sd 1 rfl (?_))))
   obtain ⟨e12, g13, h⟩ := Aa h
   refine ed rfl (oGR rfl rfl (qI rfl AX g13 (sd 1 rfl (?_))))
   obtain ⟨e14, g15, h⟩ := Aa h
   refine ed rfl (oGR rfl rfl (qI rfl Ar g15 (sd 3 rfl (?_))))
   obtain ⟨e16, g17, h⟩ := Aa h
   refine ed rfl (oGR rfl rfl (qI rfl AX g17 (sd 1 rfl (?_))))
   obtain ⟨e18, g19, h⟩ := Aa h
   refine ed rfl (oGR rfl rfl (qI rfl Ar g19 (sd 3 rfl (Cy ?_))))
   rcases Ab h with ⟨g20, h⟩ | ⟨g20, h⟩
   ·exact qT rfl g20 (Ae (hK8 _ (Aq (rg (sp 3 rfl (evn (hN _ _ h (okr rfl))))))))
   ·exact qF rfl g20 (Al (kXB2 (Option.some.inj h) _ (okr rfl)))
  ·exact qgd 17 g9 rfl (sd 18 rfl (Cy (qk [0, 3, 4, 5, 35] rfl (qF rfl rfl (Al (kXB2 (Option.some.inj h) _ (okr rfl)))))))
 ·exact qF rfl g4 (Al (kXB1 (Option.some.inj h) _ (okr rfl)))
def Eh (a0 : List Int) (a2 : Int) (rec : Int -> Option (Int)) (y1 : Int) : Option (Int) := cond (decide (y1 < (List.length a0 : Int))) (Ad (AA a0 y1) fun e5 => cond (decide (e5 < a2)) (rec (IntKind.i64.wrap (y1 + 1))) (some y1)) (some y1)
def Hd (a0 : List Int) (a1 : Int) (a2 : Int) : Option (Int) := Ad (Ai (Eh a0 a2) fz (if 0 < a1 then a1 else 0)) fun z2 => some (if (if (List.length a0 : Int) < 0 then 0 else (List.length a0 : Int)) < z2 then (if (List.length a0 : Int) < 0 then 0 else (List.length a0 : Int)) else z2)
theorem Nf {a0 : List Int} {a1 : Int} {a2 : Int} {r : Int} (h : Hd a0 a1 a2 = some r) : Ah Tryz.prog 193 [dL An a0, nI a1, nI a2] (nI r) := by
 unfold Hd at h
 refine st dr rfl (rn 2 rfl (Ac fun K1 hK1 => ?_))
 obtain ⟨o1, hl, hr1⟩ := Aa h
 have kXB1 : ∀ {z2 : Int}, z2 = o1 -> Jn K1 [(0, dL An a0), (7, nI z2)] := by
  intro z2 h σ' hk
  subst h
  replace h := hr1
  try dsimp only at h
  exact hK1 _ (lh hk rfl (rn 1 rfl (Af ((by cases h; exact ⟨.inl rfl, rfl⟩)))))
 refine As (fun (y1 : Int) => [(0, dL An a0), (2, nI a2), (7, nI y1)]) _ _ _ _ hl (okr rfl) (fun _ => rfl) ?_
 rintro m y1 N h hN
 unfold Eh at h
 refine Ac fun K3 hK3 => rs (sp 5 rfl (?_))
 rcases Ab h with ⟨g4, h⟩ | ⟨g4, h⟩
 ·refine qg 14 g4 rfl (sp 2 rfl (?_))
  obtain ⟨e5, g6, h⟩ := Aa h
  refine oGR rfl rfl (qI rfl Ar g6 (sp 4 rfl (evn ?_)))
  rcases Ab h with ⟨g7, h⟩ | ⟨g7, h⟩
  ·exact qT rfl g7 (Ae (hK3 _ (Aq (rg (sp 3 rfl (evn (hN _ _ h (okr rfl))))))))
  ·exact qF rfl g7 (Al (kXB1 (Option.some.inj h) _ (okr rfl)))
 ·exact qg 14 g4 rfl (sp 7 rfl (evn (qF rfl rfl (Al (kXB1 (Option.some.inj h) _ (okr rfl))))))
def BE (rec : ((List Int) × (List Int) × Int × Int × Int) -> Option (Sum (Unit) ((List Int) × Int))) (a0 : List (List Int)) (v8 : (List Int)) (y3 : Int) (y5 : Int) (e17 : Int) (x26 : List Int) (x27 : List Int) : Option (Sum (Unit) ((List Int) × Int)) := Ad (AA x27 e17) fun e29 => Ad (AA a0 e17) fun e31 => cond (e29 == (List.length e31 : Int)) (some (.inr (x26, IntKind.i64.wrap (y5 + 1)))) (Ad (AA a0 e17) fun e34 => Ad (AA x27 e17) fun e36 => Ad (AA e34 e36) fun e38 => chk ((List.length v8 : Int) ≠ 0) (rec (x26, x27, (Int.tmod (IntKind.i64.wrap (y3 + 1)) (List.length v8 : Int)), e38, (IntKind.i64.wrap (y5 + 1)))))
def BD (a0 : List (List Int)) (v8 : (List Int)) (rec : ((List Int) × (List Int) × Int × Int × Int) -> Option (Sum (Unit) ((List Int) × Int))) (s : (List Int) × (List Int) × Int × Int × Int) : Option (Sum (Unit) ((List Int) × Int)) := match s with
  | (y1, y2, y3, y4, y5) => Ad (AA v8 y3) fun e17 => Ad (AA a0 e17) fun e19 => Ad (AA y2 e17) fun e21 => Ad (AA e19 e21) fun e23 => cond (e23 == y4) (chk (List.length y1 + List.length [e23] <= lim) (Ad (AA y2 e17) fun e43 => Ad (AA y2 e17) fun e45 => BE rec a0 v8 y3 y5 e17 (y1 ++ [e23]) (It y2 e17 (IntKind.i64.wrap (e43 + 1))))) (Ad (AA a0 e17) fun e47 => Ad (AA y2 e17) fun e49 => Ad (Hd e47 e49 y4) fun v51 => Ad (AA y2 e17) fun e53 => BE rec a0 v8 y3 y5 e17 y1 (It y2 e17 v51))
def Dg (a0 : List (List Int)) : Option ((List Int) × Int) := Ad (I2 a0) fun v2 => cond (!v2) (some (([] : List Int), 0)) (Ad (EE a0) fun v5 => cond (v5 == 0) (some (([] : List Int), 0)) (Ad (HM a0) fun v8 => chk ((0 : Int) <= (List.length a0 : Int) ∧ Int.toNat (List.length a0 : Int) <= lim) (Ad (AA v8 (IntKind.i64.wrap ((List.length v8 : Int) - 1))) fun e11 => Ad (AA a0 e11) fun e13 => Ad (AA e13 0) fun e15 => Ad (Ai (BD a0 v8) fz (([] : List Int), (List.replicate (Int.toNat (List.length a0 : Int)) (0 : Int)), 0, e15, 0)) fun o1 => (match o1 with
  | .inl _ => (none)
  | .inr r => some r))))
theorem JJ {a0 : List (List Int)} {r : (List Int) × Int} (h : Dg a0 = some r) : Ah Tryz.prog 182 [dL Aw a0] (.tup [oL 3 An r.1, nI r.2]) := by
 unfold Dg at h
 refine st di rfl (rn 1 rfl (rs (qBs An [] rfl rfl rfl Ar (sp 1 rfl (evn (Ac fun K1 hK1 => rs (sp 1 rfl (?_))))))))
 obtain ⟨v2, g3, h⟩ := Aa h
 refine qC (qa rfl (erD AJ _) At) (P7 g3) (sp 2 rfl (?_))
 rcases Ab h with ⟨g4, h⟩ | ⟨g4, h⟩
 ·exact qg 16 g4 rfl (sp 4 rfl (evn (qT rfl rfl (rn 1 rfl (Af ((by cases h; exact ⟨.inl rfl, rfl⟩)))))))
 ·refine qg 16 g4 rfl (sp 1 rfl (?_))
  obtain ⟨v5, g6, h⟩ := Aa h
  refine oGR rfl rfl (qC (qa rfl (erD AJ _) At) (KF g6) (sp 2 rfl (evn ?_)))
  rcases Ab h with ⟨g7, h⟩ | ⟨g7, h⟩
  ·exact qT rfl g7 (rn 1 rfl (Af ((by cases h; exact ⟨.inl rfl, rfl⟩))))
  ·refine qF rfl g7 (Ae (hK1 _ (qk [0, 4] rfl (rs (sp 1 rfl (?_))))))
   obtain ⟨v8, g9, h⟩ := Aa h
   refine qC (qa rfl (erD AJ _) At) (Oq g9) (sp 1 rfl (evn (rs (sp 2 rfl (?_)))))
   obtain ⟨g10, h⟩ := Ag h
   refine qMu An (0 : Int) rfl rfl rfl rfl g10 rfl (qAu rfl rfl rfl rfl (evn (rn 1 rfl (rs (sp 5 rfl (?_))))))
   obtain ⟨e11, g12, h⟩ := Aa h
   refine qI rfl Ar g12 (sp 1 rfl (?_))
   obtain ⟨e13, g14, h⟩ := Aa h
   refine qI rfl AX g14 (sp 1 rfl (?_))
   obtain ⟨e15, g16, h⟩ := Aa h
   refine qI rfl Ar g16 (sp 2 rfl (evn (rn 1 rfl ?_)))
   obtain ⟨o1, hl, hr1⟩ := Aa h
   refine As (fun (s : (List Int) × (List Int) × Int × Int × Int) => match s with | (y1, y2, y3, y4, y5) => [(0, dL Aw a0), (4, oL 3 An y1), (5, oL 3 An v8), (6, wL 3 An y2), (7, nI y3), (8, nI y4), (9, nI y5)]) _ _ _ _ hl (okr rfl) (fun _ => rfl) ?_
   rintro m ⟨y1, y2, y3, y4, y5⟩ N h hN
   unfold BD at h
   dsimp only at h
   refine Aq (rs (sp 2 rfl (?_)))
   obtain ⟨e17, g18, h⟩ := Aa h
   refine qI rfl Ar g18 (sp 2 rfl (evn (rd (by kernel_rfl) (sd 2 rfl (?_)))))
   obtain ⟨e19, g20, h⟩ := Aa h
   refine ed rfl (qI rfl AX g20 (sd 3 rfl (?_)))
   obtain ⟨e21, g22, h⟩ := Aa h
   refine ed rfl (qIu rfl ⟨(Az g22).1, (Az g22).2.1⟩ (ed rfl (qLu 0 rfl rfl rfl Ar g22 rfl rfl rfl (?_))))
   obtain ⟨e23, g24, h⟩ := Aa h
   refine ed rfl (qI rfl Ar g24 (sd 2 rfl (Cy (rn 1 rfl (Ac fun K25 hK25 => rn 1 rfl ?_)))))
   have kJ2 : ∀ {x26 : List Int} {x27 : List Int}, BE (Ai (BD a0 v8) m) a0 v8 y3 y5 e17 x26 x27 = some o1 -> Jn K25 [(0, dL Aw a0), (4, oL 3 An x26), (5, oL 3 An v8), (6, wL 3 An x27), (7, nI y3), (9, nI (IntKind.i64.wrap (y5 + 1))), (10, nI e17)] := by
    intro x26 x27 h σ' hk
    unfold BE at h
    refine hK25 _ (lh hk rfl (Ac fun K28 hK28 => rd (by kernel_rfl) (sd 2 rfl (?_))))
    obtain ⟨e29, g30, h⟩ := Aa h
    refine ed rfl (qIu rfl ⟨(Az g30).1, (Az g30).2.1⟩ (ed rfl (qLu 0 rfl rfl rfl Ar g30 rfl rfl rfl (sd 2 rfl (?_)))))
    obtain ⟨e31, g32, h⟩ := Aa h
    refine ed rfl (qI rfl AX g32 (sd 3 rfl (Cy ?_)))
    rcases Ab h with ⟨g33, h⟩ | ⟨g33, h⟩
    ·exact qT rfl g33 (rn 1 rfl (Af ((by cases h; cases hr1; exact ⟨.inl rfl, rfl⟩))))
    ·refine qF rfl g33 (Ae (hK28 _ (rd (by kernel_rfl) (sd 2 rfl (?_)))))
     obtain ⟨e34, g35, h⟩ := Aa h
     refine ed rfl (qI rfl AX g35 (sd 3 rfl (?_)))
     obtain ⟨e36, g37, h⟩ := Aa h
     refine ed rfl (qIu rfl ⟨(Az g37).1, (Az g37).2.1⟩ (ed rfl (qLu 0 rfl rfl rfl Ar g37 rfl rfl rfl (?_))))
     obtain ⟨e38, g39, h⟩ := Aa h
     refine ed rfl (qI rfl Ar g39 (sd 2 rfl (Cy (rg (sp 4 rfl (?_))))))
     obtain ⟨g40, h⟩ := Ag h
     exact qB rfl ⟨rfl, g40⟩ rfl (sp 1 rfl (evn (hN _ _ h (okr rfl))))
   rcases Ab h with ⟨g41, h⟩ | ⟨g41, h⟩
   ·refine qT rfl g41 (rs (sp 2 rfl (qBs An [e23] rfl rfl rfl Ar (?_))))
    obtain ⟨g42, h⟩ := Ag h
    refine qA An y1 [e23] rfl rfl (Ao Ar [e23]) rfl g42 (sp 1 rfl (evn (qk [0, 4, 5, 6, 7, 9, 10] rfl (rg (sp 4 rfl (?_))))))
    obtain ⟨e43, g44, h⟩ := Aa h
    refine qIu rfl ⟨(Az g44).1, (Az g44).2.1⟩ (qLu 0 rfl rfl rfl Ar g44 rfl rfl rfl (sp 1 rfl (?_)))
    obtain ⟨e45, g46, h⟩ := Aa h
    exact qIu rfl ⟨(Az g46).1, (Az g46).2.1⟩ (qSu (IntKind.i64.wrap (e43 + 1)) rfl rfl Ar ⟨(Az g46).1, (Az g46).2.1⟩ rfl rfl rfl rfl rfl rfl (evn (kJ2 h _ (okr rfl))))
   ·refine qF rfl g41 (rgd (by kernel_rfl) (sd 4 rfl (?_)))
    obtain ⟨e47, g48, h⟩ := Aa h
    refine ed rfl (qI rfl AX g48 (sd 3 rfl (?_)))
    obtain ⟨e49, g50, h⟩ := Aa h
    refine ed rfl (qIu rfl ⟨(Az g50).1, (Az g50).2.1⟩ (ed rfl (qLu 0 rfl rfl rfl Ar g50 rfl rfl rfl (sd 1 rfl (?_)))))
    obtain ⟨v51, g52, h⟩ := Aa h
    refine ed rfl (qC (qa rfl (erD Ap _) (qs rfl (qs rfl At))) (Nf g52) (?_))
    obtain ⟨e53, g54, h⟩ := Aa h
    exact ed rfl (qIu rfl ⟨(Az g54).1, (Az g54).2.1⟩ (ed rfl (qSu v51 rfl rfl Ar ⟨(Az g54).1, (Az g54).2.1⟩ rfl rfl rfl rfl rfl rfl (Cy (kJ2 h _ (okr rfl))))))
def Fz (a0 : List Y40) (a1 : Y29) (a2 : List Int) (a3 : List Int) (v3 : (List Int)) (rec : ((List (List Int)) × Int) -> Option ((List (List Int)))) (s : (List (List Int)) × Int) : Option ((List (List Int))) := match s with
  | (y1, y2) => cond (decide (y2 < (List.length v3 : Int))) (Ad (AA v3 y2) fun e10 => Ad (AA a0 e10) fun e12 => Ad (AA v3 y2) fun e14 => Ad (AA a1.2.1 e14) fun e16 => Ad (Hg e16 a2 a3) fun v18 => Ad (Cw e12 v18) fun v20 => chk (List.length y1 + List.length [v20] <= lim) (rec ((y1 ++ [v20]), (IntKind.i64.wrap (y2 + 1))))) (some y1)
def Il (a0 : List Y40) (a1 : Y29) (a2 : List Int) (a3 : List Int) : Option ((List Int) × Int) := Ad (AA a2 (List.length a3 : Int)) fun e1 => Ad (Dc a1 e1) fun v3 => Ad (Ai (Fz a0 a1 a2 a3 v3) fz (([] : List (List Int)), 0)) fun z6 => Ad (Dg z6) fun v23 => some (v23.1, v23.2)
theorem OI {a0 : List Y40} {a1 : Y29} {a2 : List Int} {a3 : List Int} {r : (List Int) × Int} (h : Il a0 a1 a2 a3 = some r) : Ah Tryz.prog 155 [dL BS a0, .agg (CZ a1), dL An a2, dL An a3] (.tup [oL 3 An r.1, nI r.2]) := by
 unfold Il at h
 refine st cL rfl (rn 1 rfl (rd (by kernel_rfl) (sd 4 rfl (?_))))
 obtain ⟨e1, g2, h⟩ := Aa h
 refine ed rfl (qI rfl Ar g2 (sd 1 rfl (?_)))
 obtain ⟨v3, g4, h⟩ := Aa h
 refine ed rfl (qC (qa rfl (erg (erc rfl (erc (erD Cn _) (erc (erD Ap _) rfl)))) (qs rfl At)) (JG g4) (sd 1 rfl (Cy (rs (qBs Aj [] rfl rfl rfl AZ (sp 1 rfl (evn (Ac fun K5 hK5 => rn 1 rfl ?_))))))))
 obtain ⟨o1, hl, hr1⟩ := Aa h
 have kXB1 : ∀ {z6 : List (List Int)}, z6 = o1 -> Jn K5 [(11, oL 27 Aj z6)] := by
  intro z6 h σ' hk
  subst h
  replace h := hr1
  try dsimp only at h
  refine hK5 _ (lh hk rfl (rs (sp 1 rfl (?_))))
  obtain ⟨v23, g24, h⟩ := Aa h
  exact qC (qa rfl (erD Ca _) At) (JJ g24) (sp 5 rfl (evn (rn 1 rfl (Af ((by cases h; exact ⟨.inl rfl, rfl⟩))))))
 refine As (fun (s : (List (List Int)) × Int) => match s with | (y1, y2) => [(0, dL BS a0), (2, dL An a2), (3, dL An a3), (5, .box [nI a1.1, dL Bt a1.2.1, dL An a1.2.2]), (10, oL 3 An v3), (11, oL 27 Aj y1), (12, nI y2)]) _ _ _ _ hl (okr rfl) (fun _ => rfl) ?_
 rintro m ⟨y1, y2⟩ N h hN
 unfold Fz at h
 dsimp only at h
 refine Ac fun K7 hK7 => rn 1 rfl ?_
 rcases Ab h with ⟨g8, h⟩ | ⟨g8, h⟩
 ·refine qT rfl g8 (Ae (hK7 _ (Ac fun K9 hK9 => Aq (rgd (by kernel_rfl) (sd 4 rfl (?_))))))
  obtain ⟨e10, g11, h⟩ := Aa h
  refine ed rfl (qI rfl Ar g11 (sd 1 rfl (?_)))
  obtain ⟨e12, g13, h⟩ := Aa h
  refine ed rfl (qI rfl ND g13 (sd 5 rfl (?_)))
  obtain ⟨e14, g15, h⟩ := Aa h
  refine ed rfl (qI rfl Ar g15 (sd 1 rfl (?_)))
  obtain ⟨e16, g17, h⟩ := Aa h
  refine ed rfl (qI rfl FG g17 (sd 3 rfl (?_)))
  obtain ⟨v18, g19, h⟩ := Aa h
  refine ed rfl (qC (qa rfl (erg (erc rfl (erc (erD Ap _) rfl))) (qa rfl (erD Ap _) (qa rfl (erD Ap _) At))) (Ng g19) (?_))
  obtain ⟨v20, g21, h⟩ := Aa h
  refine ed rfl (qC (qa rfl (erg (erc rfl (erc (erD AJ _) rfl))) (qa rfl (erO Ap _) At)) (Ly g21) (ed rfl (qBs Aj [v20] rfl rfl rfl AZ (?_))))
  obtain ⟨g22, h⟩ := Ag h
  exact ed rfl (qA Aj y1 [v20] rfl rfl (Ao AZ [v20]) rfl g22 (sd 1 rfl (Cy (hK9 _ (rg (sp 3 rfl (evn (hN _ _ h (okr rfl)))))))))
 ·exact qF rfl g8 (Al (kXB1 (Option.some.inj h) _ (okr rfl)))
def FA (a0 : List Y40) (a1 : Y29) (a2 : List Int) (a3 : List Int) (v4 : (List Int) × Int) (frec : ((List Y40) × Y29 × (List Int) × (List Int)) -> Option ((List (List Int)) × Int)) (rec : ((List (List Int)) × Int × Int) -> Option ((List (List Int)) × Int)) (s : (List (List Int)) × Int × Int) : Option ((List (List Int)) × Int) := match s with
  | (y1, y2, y3) => cond (decide (y3 < (List.length v4.1 : Int))) (chk (List.length ([] : List Int) + List.length a3 <= lim) (Ad (AA v4.1 y3) fun e13 => chk (List.length (([] : List Int) ++ a3) + List.length [e13] <= lim) (Ad (frec (a0, a1, a2, ((([] : List Int) ++ a3) ++ [e13]))) fun v16 => chk (List.length y1 + List.length v16.1 <= lim) (rec ((y1 ++ v16.1), (IntKind.i64.wrap (y2 + v16.2)), (IntKind.i64.wrap (y3 + 1))))))) (some (y1, y2))
def Cj (rec : ((List Y40) × Y29 × (List Int) × (List Int)) -> Option ((List (List Int)) × Int)) (s : (List Y40) × Y29 × (List Int) × (List Int)) : Option ((List (List Int)) × Int) := match s with
  | (a0, a1, a2, a3) => cond ((List.length a3 : Int) == (List.length a2 : Int)) (chk (List.length ([] : List Int) + List.length a3 <= lim) (some ([([] : List Int) ++ a3], 0))) (Ad (Il a0 a1 a2 a3) fun v4 => Ad (Ai (FA a0 a1 a2 a3 v4 rec) fz (([] : List (List Int)), v4.2, 0)) fun o1 => (match o1 with
  | (z7, z8) => (some (z7, z8))))
def KG (a0 : List Y40) (a1 : Y29) (a2 : List Int) (a3 : List Int) : Option ((List (List Int)) × Int) := Ai Cj fz (a0, a1, a2, a3)
theorem OJ {a0 : List Y40} {a1 : Y29} {a2 : List Int} {a3 : List Int} {r : (List (List Int)) × Int} (h : KG a0 a1 a2 a3 = some r) : Ah Tryz.prog 112 [dL BS a0, .agg (CZ a1), dL An a2, dL An a3] (.tup [oL 27 Aj r.1, nI r.2]) := by
 suffices key : ∀ mF (a0 : List Y40) (a1 : Y29) (a2 : List Int) (a3 : List Int) (r : (List (List Int)) × Int), Ai Cj mF (a0, a1, a2, a3) = some r -> Ah Tryz.prog 112 [dL BS a0, .agg (CZ a1), dL An a2, dL An a3] (.tup [oL 27 Aj r.1, nI r.2]) from key fz a0 a1 a2 a3 r h
 intro mF
 induction mF with
 | zero => intro a0 a1 a2 a3 r h; cases h
 | succ mF ih0 =>
  intro a0 a1 a2 a3 r h
  have ih : ∀ {a0 : List Y40} {a1 : Y29} {a2 : List Int} {a3 : List Int} {r : (List (List Int)) × Int}, Ai Cj mF (a0, a1, a2, a3) = some r -> Ah Tryz.prog 112 [dL BS a0, .agg (CZ a1), dL An a2, dL An a3] (.tup [oL 27 Aj r.1, nI r.2]) := fun h => ih0 _ _ _ _ _ h
  change Cj (Ai Cj mF) (a0, a1, a2, a3) = some r at h
  unfold Cj at h
  try dsimp only at h
  refine st bX rfl (rn 1 rfl (Ac fun K1 hK1 => rn 1 rfl ?_))
  rcases Ab h with ⟨g2, h⟩ | ⟨g2, h⟩
  ·refine qT rfl g2 (rs (qBs An [] rfl rfl rfl Ar (sp 1 rfl (?_))))
   obtain ⟨g3, h⟩ := Ag h
   exact qA An ([] : List Int) a3 rfl rfl (Ao Ar a3) (Gi (fun _ => rfl) _) g3 (qBs Aj [([] : List Int) ++ a3] rfl rfl rfl AZ (sp 2 rfl (evn (Af ((by cases h; exact ⟨.inl rfl, rfl⟩))))))
  ·refine qF rfl g2 (Ae (hK1 _ (rs (qBs Aj [] rfl rfl rfl AZ (sp 1 rfl (evn (rs (sp 4 rfl (?_)))))))))
   obtain ⟨v4, g5, h⟩ := Aa h
   refine qC (qa rfl (erD Pn _) (qa rfl (erg (erc rfl (erc (erD Cn _) (erc (erD Ap _) rfl)))) (qa rfl (erD Ap _) (qa rfl (erD Ap _) At)))) (OI g5) (sp 5 rfl (evn (Ac fun K6 hK6 => rn 1 rfl (qk [0, 2, 3, 5, 10, 11, 12, 13] rfl ?_))))
   obtain ⟨o1, hl, hr1⟩ := Aa h
   have kXB1 : ∀ {z7 : List (List Int)} {z8 : Int}, (z7, z8) = o1 -> Jn K6 [(10, oL 27 Aj z7), (12, nI z8)] := by
    intro z7 z8 h σ' hk
    subst h
    replace h := hr1
    try dsimp only at h
    exact hK6 _ (lh hk rfl (rn 1 rfl (Af ((by cases h; exact ⟨.inl rfl, rfl⟩)))))
   refine As (fun (s : (List (List Int)) × Int × Int) => match s with | (y1, y2, y3) => [(0, dL BS a0), (2, dL An a2), (3, dL An a3), (5, .box [nI a1.1, dL Bt a1.2.1, dL An a1.2.2]), (10, oL 27 Aj y1), (11, oL 3 An v4.1), (12, nI y2), (13, nI y3)]) _ _ _ _ hl (okr rfl) (fun _ => rfl) ?_
   rintro m ⟨y1, y2, y3⟩ N h hN
   unfold FA at h
   dsimp only at h
   refine Ac fun K9 hK9 => rn 1 rfl ?_
   rcases Ab h with ⟨g10, h⟩ | ⟨g10, h⟩
   ·refine qT rfl g10 (Ae (hK9 _ (Ac fun K11 hK11 => Aq (rd (by kernel_rfl) (sd 3 rfl (ed rfl (qBs An [] rfl rfl rfl Ar (sd 1 rfl (?_)))))))))
    obtain ⟨g12, h⟩ := Ag h
    refine ed rfl (qA An ([] : List Int) a3 rfl rfl (Ao Ar a3) (Gi (fun _ => rfl) _) g12 (sd 2 rfl (?_)))
    obtain ⟨e13, g14, h⟩ := Aa h
    refine ed rfl (qI rfl Ar g14 (sd 1 rfl (ed rfl (qBs An [e13] rfl rfl rfl Ar (?_)))))
    obtain ⟨g15, h⟩ := Ag h
    refine ed rfl (qA An (([] : List Int) ++ a3) [e13] rfl rfl (Ao Ar [e13]) rfl g15 (?_))
    obtain ⟨v16, g17, h⟩ := Aa h
    refine ed rfl (qC (qa rfl (erD Pn _) (qa rfl (erg (erc rfl (erc (erD Cn _) (erc (erD Ap _) rfl)))) (qa rfl (erD Ap _) (qa rfl (erO Ap _) At)))) (ih g17) (sd 5 rfl (Cy (rs (sp 2 rfl (?_))))))
    obtain ⟨g18, h⟩ := Ag h
    exact qA Aj y1 v16.1 rfl rfl (Ao AZ v16.1) rfl g18 (sp 1 rfl (evn (rg (sp 4 rfl (evn (hK11 _ (qk [0, 2, 3, 5, 10, 11, 12, 13] rfl (rg (sp 3 rfl (evn (hN _ _ h (okr rfl))))))))))))
   ·exact qF rfl g10 (Al (kXB1 (Option.some.inj h) _ (okr rfl)))
def Fv (a0 : List AU) (a1 : Y29) (a2 : List Int) : Option (Y40 × Int × Bool) := Ad (GD a0 a1 a2) fun v1 => cond (!v1.2) (some ((0, []), 0, false)) (Ad (HP v1.1) fun v6 => cond v6 (some (((List.length a2 : Int), []), 0, true)) (Ad (KG v1.1 a1 a2 ([] : List Int)) fun v9 => Ad (Ck (List.length a2 : Int) v9.1) fun v11 => cond (!v11.2) (some ((0, []), 0, false)) (some (v11.1, v9.2, true))))
theorem Lx {a0 : List AU} {a1 : Y29} {a2 : List Int} {r : Y40 × Int × Bool} (h : Fv a0 a1 a2 = some r) : Ah Tryz.prog 72 [.agg [dL AE a0], .agg (CZ a1), dL An a2] (.tup [.agg (Ht r.1), nI r.2.1, .bool r.2.2]) := by
 unfold Fv at h
 refine st i9 rfl (rn 1 rfl (rs (sp 3 rfl (?_))))
 obtain ⟨v1, g2, h⟩ := Aa h
 refine qC (qa rfl (erg (erc (erD AP _) rfl)) (qa rfl (erg (erc rfl (erc (erD Cn _) (erc (erD Ap _) rfl)))) (qa rfl (erD Ap _) At))) (MM g2) (sp 5 rfl (evn (Ac fun K3 hK3 => rn 1 rfl ?_)))
 rcases Ab h with ⟨g4, h⟩ | ⟨g4, h⟩
 ·exact qT rfl g4 (rn 1 rfl (Af ((by cases h; exact ⟨.inl rfl, rfl⟩))))
 ·refine qF rfl g4 (Ae (hK3 _ (Ac fun K5 hK5 => rs (sp 1 rfl (?_)))))
  obtain ⟨v6, g7, h⟩ := Aa h
  refine qC (qa rfl (erD Nm _) At) (Ot g7) (evn ?_)
  rcases Ab h with ⟨g8, h⟩ | ⟨g8, h⟩
  ·exact qT rfl g8 (rn 1 rfl (qk [6, 7, 8] rfl (Af ((by cases h; exact ⟨.inl rfl, rfl⟩)))))
  ·refine qF rfl g8 (Ae (hK5 _ (rs (sp 3 rfl (qBs An [] rfl rfl rfl Ar (?_))))))
   obtain ⟨v9, g10, h⟩ := Aa h
   refine qC (qa rfl (erD Nm _) (qa rfl (erg (erc rfl (erc (erD Cn _) (erc (erD Ap _) rfl)))) (qa rfl (erD Ap _) (qa rfl rfl At)))) (OJ g10) (sp 5 rfl (evn (rs (sp 3 rfl (?_)))))
   obtain ⟨v11, g12, h⟩ := Aa h
   refine qC (qs rfl (qa rfl (erD Ca _) At)) (Fa g12) (sp 6 rfl (evn (Ac fun K13 hK13 => rn 1 rfl ?_)))
   rcases Ab h with ⟨g14, h⟩ | ⟨g14, h⟩
   ·exact qT rfl g14 (rn 1 rfl (Af ((by cases h; exact ⟨.inl rfl, rfl⟩))))
   ·exact qF rfl g14 (Ae (hK13 _ (rn 1 rfl (qk [6, 7, 8] rfl (Af ((by cases h; exact ⟨.inl rfl, rfl⟩)))))))
def BO (a3 : List Int) (v1 : Y40 × Int × Bool) (rec : Int -> Option (Sum (Unit) ((List Int) × Bool))) (y1 : Int) : Option (Sum (Unit) ((List Int) × Bool)) := cond (decide (y1 < (List.length (AK 0 v1.1.2) : Int))) (cond v1.2.2 (cond ((List.length a3 : Int) == 0) (Ad (AA (AK 0 v1.1.2) y1) fun e9 => chk (okJ (v1.1.2) ([Sum.inl e9]) [] = true) (some (.inr (e9.2, true)))) (Ad (AA (AK 0 v1.1.2) y1) fun e12 => Ad (A9 e12.2 a3) fun v14 => cond (decide (0 < v14)) (Ad (AA (AK 0 v1.1.2) y1) fun e17 => chk (okJ (v1.1.2) ([Sum.inl e17]) [] = true) (some (.inr (e17.2, true)))) (rec (IntKind.i64.wrap (y1 + 1))))) (some (.inl ()))) (some (.inl ()))
def F1 (a0 : List AU) (a1 : Y29) (a2 : List Int) (a3 : List Int) : Option ((List Int) × Bool) := Ad (Fv a0 a1 a2) fun v1 => Ad (Ai (BO a3 v1) fz 0) fun o1 => (match o1 with
  | .inl _ => (some (([] : List Int), false))
  | .inr r => some r)
theorem Md {a0 : List AU} {a1 : Y29} {a2 : List Int} {a3 : List Int} {r : (List Int) × Bool} (h : F1 a0 a1 a2 a3 = some r) : Ah Tryz.prog 38 [.agg [dL AE a0], .agg (CZ a1), dL An a2, dL An a3] (.tup [oL 3 An r.1, .bool r.2]) := by
 unfold F1 at h
 refine st iH rfl (rn 1 rfl (rs (sp 3 rfl (?_))))
 obtain ⟨v1, g2, h⟩ := Aa h
 refine qC (qa rfl (erg (erc (erD AP _) rfl)) (qa rfl (erg (erc rfl (erc (erD Cn _) (erc (erD Ap _) rfl)))) (qa rfl (erD Ap _) At))) (Lx g2) (sp 8 rfl (evn (Ac fun K3 hK3 => qk [3, 10, 12] rfl (Ks (gSb (f := Aj) (l := v1.1.2) (q := 900001) (b := 10) [nI v1.1.1] [] rfl rfl rfl (fun _ => rfl) ?_)))))
 intro U us1 hU
 refine kp [(3, dL An a3), (10, .box [nI v1.1.1, oL 27 (pE Aj U) (AK 0 v1.1.2)]), (12, .bool v1.2.2), (900001, .gh us1 (List.map (fun x => Jl (Aj x)) v1.1.2))] rfl rfl (rn 1 rfl ?_)
 obtain ⟨o1, hl, hr1⟩ := Aa h
 have kXB1 : (.inl ()) = o1 -> Jn K3 [(900001, .gh us1 (List.map (fun x => Jl (Aj x)) v1.1.2))] := by
  intro h σ' hk
  subst h
  replace h := hr1
  try dsimp only at h
  exact hK3 _ (lh hk rfl (rs (qBs An [] rfl rfl rfl Ar (sp 2 rfl (evn (Af ((by cases h; exact ⟨.inl rfl, rfl⟩))))))))
 refine As (fun (y1 : Int) => [(3, dL An a3), (10, .box [nI v1.1.1, oL 27 (pE Aj U) (AK 0 v1.1.2)]), (12, .bool v1.2.2), (13, nI y1), (900001, .gh us1 (List.map (fun x => Jl (Aj x)) v1.1.2))]) _ _ _ _ hl (okr rfl) (fun _ => rfl) ?_
 rintro m y1 N h hN
 unfold BO at h
 refine Ac fun K4 hK4 => rs (sp 6 rfl (?_))
 rcases Ab h with ⟨g5, h⟩ | ⟨g5, h⟩
 ·refine qg 27 g5 rfl (sp 2 rfl (evn ?_))
  rcases Ab h with ⟨g6, h⟩ | ⟨g6, h⟩
  ·refine qT rfl g6 (Ae (hK4 _ (Ac fun K7 hK7 => Aq (rs (sp 4 rfl (?_))))))
   rcases Ab h with ⟨g8, h⟩ | ⟨g8, h⟩
   ·refine qg 35 g8 rfl (sp 9 rfl (evn (qT rfl rfl (qk [10, 13, 900001] rfl (rs (sp 3 rfl (?_)))))))
    obtain ⟨e9, g10, h⟩ := Aa h
    refine qI rfl (zpE AZ) g10 (sp 3 rfl (evn ?_))
    obtain ⟨g11, h⟩ := Ag h
    exact L4 (f := Aj) (s := 8) (q := 900001) (l := v1.1.2) (U := U) (L := [Sum.inl e9]) rfl rfl rfl (by decide) (Nq (fun _ => rfl) rfl) hU g11 rfl rfl (kp [(8, oL 3 An e9.2), (9, .bool true)] rfl rfl (qk [8, 9] rfl (Af ((by cases h; cases hr1; exact ⟨.inl rfl, rfl⟩)))))
   ·refine qg 35 g8 rfl (sp 3 rfl (?_))
    obtain ⟨e12, g13, h⟩ := Aa h
    refine oGR rfl rfl (qI rfl (zpE AZ) g13 (sp 2 rfl (?_)))
    obtain ⟨v14, g15, h⟩ := Aa h
    refine oGR rfl rfl (qC (qa rfl (erP Ap Ap _) (qa rfl (erD Ap _) At)) (BI g15) (sp 2 rfl (evn ?_)))
    rcases Ab h with ⟨g16, h⟩ | ⟨g16, h⟩
    ·refine qT rfl g16 (qk [10, 13, 900001] rfl (rs (sp 3 rfl (?_))))
     obtain ⟨e17, g18, h⟩ := Aa h
     refine qI rfl (zpE AZ) g18 (sp 3 rfl (evn ?_))
     obtain ⟨g19, h⟩ := Ag h
     exact L4 (f := Aj) (s := 8) (q := 900001) (l := v1.1.2) (U := U) (L := [Sum.inl e17]) rfl rfl rfl (by decide) (Nq (fun _ => rfl) rfl) hU g19 rfl rfl (kp [(8, oL 3 An e17.2), (9, .bool true)] rfl rfl (qk [8, 9] rfl (Af ((by cases h; cases hr1; exact ⟨.inl rfl, rfl⟩)))))
    ·exact qF rfl g16 (Ae (hK7 _ (rg (sp 3 rfl (evn (hN _ _ h (okr rfl)))))))
  ·exact qF rfl g6 (Al (kXB1 (Option.some.inj h) _ (okr rfl)))
 ·exact qg 27 g5 rfl (sp 2 rfl (evn (qF rfl rfl (Al (kXB1 (Option.some.inj h) _ (okr rfl))))))
def DQ (a0 : Y25) (a1 : Y31) : Option (Y31 × (List Int) × Bool) := Ad (Hh a1) fun v1 => Ad (GG a0 a1.1) fun v3 => cond (!v3.2) (some (v1, ([] : List Int), false)) (Ad (F1 v3.1 a1.2.2.2 a1.2.1 a1.2.2.1) fun v7 => cond (!v7.2) (some (v1, ([] : List Int), false)) (chk (List.length ([] : List Int) + List.length v7.1 <= lim) (some ((v1.1, v1.2.1, ([] : List Int) ++ v7.1, v1.2.2.2), v7.1, true))))
theorem IC {a0 : Y25} {a1 : Y31} {r : Y31 × (List Int) × Bool} (h : DQ a0 a1 = some r) : Ah Tryz.prog 8 [.agg (C1 a0), .agg (FW a1)] (.tup [.agg (HA r.1), oL 3 An r.2.1, .bool r.2.2]) := by
 unfold DQ at h
 refine st kQ rfl (rn 1 rfl (rs (sp 1 rfl (?_))))
 obtain ⟨v1, g2, h⟩ := Aa h
 refine qC (qa rfl (erg (erc rfl (erc (erD Ap _) (erc (erD Ap _) (erc rfl (erc (erD Cn _) (erc (erD Ap _) rfl))))))) At) (Nh g2) (sp 2 rfl (evn (rs (sp 3 rfl (?_)))))
 obtain ⟨v3, g4, h⟩ := Aa h
 refine qC (qa rfl (erg (erc rfl (erc (erD Gb _) rfl))) (qs rfl At)) (MP g4) (sp 6 rfl (evn (Ac fun K5 hK5 => rn 1 rfl ?_)))
 rcases Ab h with ⟨g6, h⟩ | ⟨g6, h⟩
 ·exact qT rfl g6 (rs (sp 1 rfl (qBs An [] rfl rfl rfl Ar (sp 3 rfl (evn (Af ((by cases h; exact ⟨.inl rfl, rfl⟩))))))))
 ·refine qF rfl g6 (Ae (hK5 _ (rs (sp 7 rfl (?_)))))
  obtain ⟨v7, g8, h⟩ := Aa h
  refine qC (qa rfl (erg (erc (erD LI _) rfl)) (qa rfl (erg (erc rfl (erc (erD Cn _) (erc (erD Ap _) rfl)))) (qa rfl (erD Ap _) (qa rfl (erD Ap _) At)))) (Md g8) (sp 5 rfl (evn (qk [4, 7, 10, 11] rfl (Ac fun K9 hK9 => rn 1 rfl ?_))))
  rcases Ab h with ⟨g10, h⟩ | ⟨g10, h⟩
  ·exact qT rfl g10 (rs (sp 1 rfl (qBs An [] rfl rfl rfl Ar (sp 3 rfl (evn (Af ((by cases h; exact ⟨.inl rfl, rfl⟩))))))))
  ·refine qF rfl g10 (Ae (hK9 _ (rs (qBs An [] rfl rfl rfl Ar (sp 1 rfl (?_))))))
   obtain ⟨g11, h⟩ := Ag h
   exact qA An ([] : List Int) v7.1 rfl rfl (Ao Ar v7.1) (Gi (fun _ => rfl) _) g11 (sp 2 rfl (evn (rn 1 rfl (Af ((by cases h; exact ⟨.inl rfl, rfl⟩))))))
def IM (rec : ((List (List UInt8)) × Int × Int) -> Option ((List (List UInt8)) × Int)) (y3 : Int) (x9 : List (List UInt8)) (x10 : Int) : Option ((List (List UInt8)) × Int) := rec (x9, x10, (IntKind.i64.wrap (y3 + 1)))
def J4 (a0 : List UInt8) (a1 : Int) (rec : ((List (List UInt8)) × Int × Int) -> Option ((List (List UInt8)) × Int)) (s : (List (List UInt8)) × Int × Int) : Option ((List (List UInt8)) × Int) := match s with
  | (y1, y2, y3) => cond (decide (y3 < (List.length a0 : Int))) (Ad (AA a0 y3) fun b7 => cond ((UInt8.toNat b7 : Int) == a1) (chk ((0 : Int) <= y2 ∧ y2 <= y3 ∧ y3 <= (List.length a0 : Int)) (chk (List.length y1 + List.length [A7 a0 y2 y3] <= lim) (IM rec y3 (y1 ++ [A7 a0 y2 y3]) (IntKind.i64.wrap (y3 + 1))))) (IM rec y3 y1 y2)) (some (y1, y2))
def JL (a0 : List UInt8) (a1 : Int) : Option ((List (List UInt8))) := Ad (Ai (J4 a0 a1) fz (([] : List (List UInt8)), 0, 0)) fun o1 => (match o1 with
  | (z2, z3) => (chk ((0 : Int) <= z3 ∧ z3 <= (List.length a0 : Int) ∧ (List.length a0 : Int) <= (List.length a0 : Int)) (chk (List.length z2 + List.length [A7 a0 z3 (List.length a0 : Int)] <= lim) (some (z2 ++ [A7 a0 z3 (List.length a0 : Int)])))))
theorem KI {a0 : List UInt8} {a1 : Int} {r : (List (List UInt8))} (h : JL a0 a1 = some r) : Ah Tryz.prog 136 [.str a0, .int .u8 a1] (oL 9 cst r) := by
 unfold JL at h
 refine st co rfl (rn 1 rfl (rs (qBs cst [] rfl rfl rfl O8 (sp 1 rfl (evn (rn 1 rfl (Ac fun K1 hK1 => rn 1 rfl ?_)))))))
 obtain ⟨o1, hl, hr1⟩ := Aa h
 have kXB1 : ∀ {z2 : List (List UInt8)} {z3 : Int}, (z2, z3) = o1 -> Jn K1 [(0, .str a0), (5, oL 9 cst z2), (6, nI z3)] := by
  intro z2 z3 h σ' hk
  subst h
  replace h := hr1
  try dsimp only at h
  refine hK1 _ (lh hk rfl (rs (sp 3 rfl (?_))))
  obtain ⟨g14, h⟩ := Ag h
  refine qSs rfl g14 (qBs cst [A7 a0 z3 (List.length a0 : Int)] rfl rfl rfl O8 (?_))
  obtain ⟨g15, h⟩ := Ag h
  exact qA cst z2 [A7 a0 z3 (List.length a0 : Int)] rfl rfl (Ao O8 [A7 a0 z3 (List.length a0 : Int)]) rfl g15 (sp 1 rfl (evn (Af ((by cases h; exact ⟨.inl rfl, rfl⟩)))))
 refine As (fun (s : (List (List UInt8)) × Int × Int) => match s with | (y1, y2, y3) => [(0, .str a0), (1, .int .u8 a1), (5, oL 9 cst y1), (6, nI y2), (7, nI y3)]) _ _ _ _ hl (okr rfl) (fun _ => rfl) ?_
 rintro m ⟨y1, y2, y3⟩ N h hN
 unfold J4 at h
 dsimp only at h
 refine Ac fun K4 hK4 => rn 1 rfl ?_
 rcases Ab h with ⟨g5, h⟩ | ⟨g5, h⟩
 ·refine qT rfl g5 (Ae (hK4 _ (Ac fun K6 hK6 => Aq (rs (sp 2 rfl (?_))))))
  obtain ⟨b7, g8, h⟩ := Aa h
  refine qX rfl g8 (sp 2 rfl (evn ?_))
  have kJ2 : ∀ {x9 : List (List UInt8)} {x10 : Int}, IM (Ai (J4 a0 a1) m) y3 x9 x10 = some o1 -> Jn K6 [(0, .str a0), (1, .int .u8 a1), (5, oL 9 cst x9), (6, nI x10), (7, nI y3)] := by
   intro x9 x10 h σ' hk
   unfold IM at h
   exact hK6 _ (lh hk rfl (rg (sp 3 rfl (evn (hN _ _ h (okr rfl))))))
  rcases Ab h with ⟨g11, h⟩ | ⟨g11, h⟩
  ·refine qT rfl g11 (rs (sp 4 rfl (?_)))
   obtain ⟨g12, h⟩ := Ag h
   refine qSs rfl g12 (qBs cst [A7 a0 y2 y3] rfl rfl rfl O8 (?_))
   obtain ⟨g13, h⟩ := Ag h
   exact qA cst y1 [A7 a0 y2 y3] rfl rfl (Ao O8 [A7 a0 y2 y3]) rfl g13 (sp 1 rfl (evn (rg (sp 3 rfl (evn (kJ2 h _ (okr rfl)))))))
  ·exact qF rfl g11 (Ae (kJ2 h _ (okr rfl)))
 ·exact qF rfl g5 (Al (kXB1 (Option.some.inj h) _ (okr rfl)))
def Fy (a0 : Int) : Option ((List UInt8)) := Ad (Dh a0 0 4) fun v2 => cond (!v2) (some []) (chk ((0 : Int) <= a0 ∧ a0 <= IntKind.i64.wrap (a0 + 1) ∧ IntKind.i64.wrap (a0 + 1) <= (List.length [88, 89, 90, 85, 86] : Int)) (some (A7 [88, 89, 90, 85, 86] a0 (IntKind.i64.wrap (a0 + 1)))))
theorem Hr {a0 : Int} {r : (List UInt8)} (h : Fy a0 = some r) : Ah Tryz.prog 138 [nI a0] (.str r) := by
 unfold Fy at h
 refine st ct rfl (rn 1 rfl (Ac fun K1 hK1 => rs (sp 1 rfl (?_))))
 obtain ⟨v2, g3, h⟩ := Aa h
 refine qC (qs rfl (qs rfl (qs rfl At))) (CJ g3) (sp 1 rfl (evn ?_))
 rcases Ab h with ⟨g4, h⟩ | ⟨g4, h⟩
 ·exact qT rfl g4 (rn 1 rfl (Af ((by cases h; exact ⟨.inl rfl, rfl⟩))))
 ·refine qF rfl g4 (Ae (hK1 _ (rs (sp 3 rfl (?_)))))
  obtain ⟨g5, h⟩ := Ag h
  exact qSs rfl g5 (sp 1 rfl (evn (Af ((by cases h; exact ⟨.inl rfl, rfl⟩)))))
def H8 (rec : ((List Int) × Int) -> Option ((List Int))) (y8 : Int) (x13 : List Int) : Option ((List Int)) := rec (x13, (IntKind.i64.wrap (y8 + 1)))
def Ju (a0 : List UInt8) (y4 : Int) (rec : ((List Int) × Int) -> Option ((List Int))) (s : (List Int) × Int) : Option ((List Int)) := match s with
  | (y7, y8) => cond (decide (y8 < 5)) (Ad (Fy y8) fun v10 => chk ((0 : Int) <= y4 ∧ y4 <= IntKind.i64.wrap (y4 + 1) ∧ IntKind.i64.wrap (y4 + 1) <= (List.length a0 : Int)) (cond (v10 == (A7 a0 y4 (IntKind.i64.wrap (y4 + 1)))) (chk (List.length y7 + List.length [y8] <= lim) (H8 rec y8 (y7 ++ [y8]))) (H8 rec y8 y7))) (some y7)
def Lj (a0 : List UInt8) (rec : ((List Int) × Int) -> Option ((List Int))) (s : (List Int) × Int) : Option ((List Int)) := match s with
  | (y3, y4) => cond (decide (y4 < (List.length a0 : Int))) (Ad (Ai (Ju a0 y4) fz (y3, 0)) fun z6 => rec (z6, (IntKind.i64.wrap (y4 + 1)))) (some y3)
def J5 (a0 : List UInt8) : Option ((List Int)) := Ad (Ai (Lj a0) fz (([] : List Int), 0)) fun z2 => some z2
theorem Mg {a0 : List UInt8} {r : (List Int)} (h : J5 a0 = some r) : Ah Tryz.prog 137 [.str a0] (oL 3 An r) := by
 unfold J5 at h
 refine st cr rfl (rn 1 rfl (rs (qBs An [] rfl rfl rfl Ar (sp 1 rfl (evn (Ac fun K1 hK1 => rn 1 rfl ?_))))))
 obtain ⟨o1, hl, hr1⟩ := Aa h
 have kXB1 : ∀ {z2 : List Int}, z2 = o1 -> Jn K1 [(3, oL 3 An z2)] := by
  intro z2 h σ' hk
  subst h
  replace h := hr1
  try dsimp only at h
  exact hK1 _ (lh hk rfl (rn 1 rfl (Af ((by cases h; exact ⟨.inl rfl, rfl⟩)))))
 refine As (fun (s : (List Int) × Int) => match s with | (y3, y4) => [(0, .str a0), (3, oL 3 An y3), (4, nI y4)]) _ _ _ _ hl (okr rfl) (fun _ => rfl) ?_
 rintro m ⟨y3, y4⟩ N h hN
 unfold Lj at h
 dsimp only at h
 refine Ac fun K3 hK3 => rn 1 rfl ?_
 rcases Ab h with ⟨g4, h⟩ | ⟨g4, h⟩
 ·refine qT rfl g4 (Ae (hK3 _ (Ac fun K5 hK5 => Aq (rn 1 rfl ?_))))
  obtain ⟨o2, hl, hr2⟩ := Aa h
  have kXB2 : ∀ {z6 : List Int}, z6 = o2 -> Jn K5 [(0, .str a0), (3, oL 3 An z6), (4, nI y4)] := by
   intro z6 h σ' hk
   subst h
   replace h := hr2
   try dsimp only at h
   exact hK5 _ (lh hk rfl (rg (sp 3 rfl (evn (hN _ _ h (okr rfl))))))
  refine As (fun (s : (List Int) × Int) => match s with | (y7, y8) => [(0, .str a0), (3, oL 3 An y7), (4, nI y4), (5, nI y8)]) _ _ _ _ hl (okr rfl) (fun _ => rfl) ?_
  rintro m ⟨y7, y8⟩ N h hN
  unfold Ju at h
  dsimp only at h
  refine Ac fun K7 hK7 => rn 1 rfl ?_
  rcases Ab h with ⟨g8, h⟩ | ⟨g8, h⟩
  ·refine qT rfl g8 (Ae (hK7 _ (Ac fun K9 hK9 => Aq (rd (by kernel_rfl) (sd 1 rfl (?_))))))
   obtain ⟨v10, g11, h⟩ := Aa h
   refine ed rfl (qC (qs rfl At) (Hr g11) (sd 4 rfl (?_)))
   obtain ⟨g12, h⟩ := Ag h
   refine ed rfl (qSs rfl g12 (sd 1 rfl (Cy ?_)))
   have kJ3 : ∀ {x13 : List Int}, H8 (Ai (Ju a0 y4) m) y8 x13 = some o2 -> Jn K9 [(0, .str a0), (3, oL 3 An x13), (4, nI y4), (5, nI y8)] := by
    intro x13 h σ' hk
    unfold H8 at h
    exact hK9 _ (lh hk rfl (rg (sp 3 rfl (evn (hN _ _ h (okr rfl))))))
   rcases Ab h with ⟨g14, h⟩ | ⟨g14, h⟩
   ·refine qT rfl g14 (rg (sp 2 rfl (qBs An [y8] rfl rfl rfl Ar (?_))))
    obtain ⟨g15, h⟩ := Ag h
    exact qA An y7 [y8] rfl rfl (Ao Ar [y8]) rfl g15 (sp 1 rfl (evn (kJ3 h _ (okr rfl))))
   ·exact qF rfl g14 (Ae (kJ3 h _ (okr rfl)))
  ·exact qF rfl g8 (Al (kXB2 (Option.some.inj h) _ (okr rfl)))
 ·exact qF rfl g4 (Al (kXB1 (Option.some.inj h) _ (okr rfl)))
def Lk (a0 : List Int) (rec : ((List UInt8) × Int) -> Option ((List UInt8))) (s : (List UInt8) × Int) : Option ((List UInt8)) := match s with
  | (y1, y2) => cond (decide (y2 < (List.length a0 : Int))) (Ad (AA a0 y2) fun e6 => Ad (Fy e6) fun v8 => chk (List.length y1 + List.length v8 <= lim) (rec ((y1 ++ v8), (IntKind.i64.wrap (y2 + 1))))) (some y1)
def J6 (a0 : List Int) : Option ((List UInt8)) := Ad (Ai (Lk a0) fz ([40], 0)) fun z2 => chk (List.length z2 + List.length [41] <= lim) (some (z2 ++ [41]))
theorem Mh {a0 : List Int} {r : (List UInt8)} (h : J6 a0 = some r) : Ah Tryz.prog 164 [dL An a0] (.str r) := by
 unfold J6 at h
 refine st cR rfl (rn 2 rfl (Ac fun K1 hK1 => rn 1 rfl ?_))
 obtain ⟨o1, hl, hr1⟩ := Aa h
 have kXB1 : ∀ {z2 : List UInt8}, z2 = o1 -> Jn K1 [(3, .str z2)] := by
  intro z2 h σ' hk
  subst h
  replace h := hr1
  try dsimp only at h
  refine hK1 _ (lh hk rfl (rs (sp 1 rfl (?_))))
  obtain ⟨g11, h⟩ := Ag h
  exact qB rfl g11 rfl (sp 1 rfl (evn (Af ((by cases h; exact ⟨.inl rfl, rfl⟩)))))
 refine As (fun (s : (List UInt8) × Int) => match s with | (y1, y2) => [(0, dL An a0), (3, .str y1), (4, nI y2)]) _ _ _ _ hl (okr rfl) (fun _ => rfl) ?_
 rintro m ⟨y1, y2⟩ N h hN
 unfold Lk at h
 dsimp only at h
 refine Ac fun K3 hK3 => rn 1 rfl ?_
 rcases Ab h with ⟨g4, h⟩ | ⟨g4, h⟩
 ·refine qT rfl g4 (Ae (hK3 _ (Ac fun K5 hK5 => Aq (rg (sp 3 rfl (?_))))))
  obtain ⟨e6, g7, h⟩ := Aa h
  refine qI rfl Ar g7 (sp 1 rfl (?_))
  obtain ⟨v8, g9, h⟩ := Aa h
  refine qC (qs rfl At) (Hr g9) (?_)
  obtain ⟨g10, h⟩ := Ag h
  exact qB rfl g10 rfl (sp 1 rfl (evn (hK5 _ (rg (sp 3 rfl (evn (hN _ _ h (okr rfl))))))))
 ·exact qF rfl g4 (Al (kXB1 (Option.some.inj h) _ (okr rfl)))
def FQ (rec : ((List UInt8) × Int) -> Option ((List UInt8))) (a0 : Y29) (y2 : Int) (x14 : List UInt8) : Option ((List UInt8)) := Ad (AA a0.2.1 y2) fun e15 => chk (List.length x14 + List.length e15.1 <= lim) (Ad (AA a0.2.1 y2) fun e18 => Ad (J6 e18.2) fun v20 => chk (List.length (x14 ++ e15.1) + List.length v20 <= lim) (rec (((x14 ++ e15.1) ++ v20), (IntKind.i64.wrap (y2 + 1)))))
def Hq (a0 : Y29) (rec : ((List UInt8) × Int) -> Option ((List UInt8))) (s : (List UInt8) × Int) : Option ((List UInt8)) := match s with
  | (y1, y2) => cond (decide (y2 < (List.length a0.2.1 : Int))) (cond (decide (0 < y2)) (chk (List.length y1 + List.length [44] <= lim) (FQ rec a0 y2 (y1 ++ [44]))) (FQ rec a0 y2 y1)) (some y1)
def Iz (a0 : Y29) : Option ((List UInt8)) := Ad (BC a0) fun v2 => cond (!v2) (some []) (Ad (J6 a0.2.2) fun v5 => chk (List.length v5 + List.length [61] <= lim) (Ad (Ai (Hq a0) fz ((v5 ++ [61]), 0)) fun z9 => some z9))
theorem Mb {a0 : Y29} {r : (List UInt8)} (h : Iz a0 = some r) : Ah Tryz.prog 139 [.agg (CZ a0)] (.str r) := by
 unfold Iz at h
 refine st cv rfl (rn 1 rfl (Ac fun K1 hK1 => rs (sp 1 rfl (?_))))
 obtain ⟨v2, g3, h⟩ := Aa h
 refine qC (qa rfl (erg (erc rfl (erc (erD Cn _) (erc (erD Ap _) rfl)))) At) (Ds g3) (sp 1 rfl (evn ?_))
 rcases Ab h with ⟨g4, h⟩ | ⟨g4, h⟩
 ·exact qT rfl g4 (rn 1 rfl (Af ((by cases h; exact ⟨.inl rfl, rfl⟩))))
 ·refine qF rfl g4 (Ae (hK1 _ (rs (sp 2 rfl (?_)))))
  obtain ⟨v5, g6, h⟩ := Aa h
  refine qC (qa rfl (erD Ap _) At) (Mh g6) (?_)
  obtain ⟨g7, h⟩ := Ag h
  refine qB rfl g7 rfl (sp 1 rfl (evn (Ac fun K8 hK8 => rn 1 rfl ?_)))
  obtain ⟨o1, hl, hr1⟩ := Aa h
  have kXB1 : ∀ {z9 : List UInt8}, z9 = o1 -> Jn K8 [(3, .str z9)] := by
   intro z9 h σ' hk
   subst h
   replace h := hr1
   try dsimp only at h
   exact hK8 _ (lh hk rfl (rn 1 rfl (Af ((by cases h; exact ⟨.inl rfl, rfl⟩)))))
  refine As (fun (s : (List UInt8) × Int) => match s with | (y1, y2) => [(1, .box [nI a0.1, dL Bt a0.2.1, dL An a0.2.2]), (3, .str y1), (4, nI y2)]) _ _ _ _ hl (okr rfl) (fun _ => rfl) ?_
  rintro m ⟨y1, y2⟩ N h hN
  unfold Hq at h
  dsimp only at h
  refine Ac fun K10 hK10 => rn 1 rfl ?_
  rcases Ab h with ⟨g11, h⟩ | ⟨g11, h⟩
  ·refine qT rfl g11 (Ae (hK10 _ (Ac fun K12 hK12 => Aq (Ac fun K13 hK13 => rn 1 rfl ?_))))
   have kJ2 : ∀ {x14 : List UInt8}, FQ (Ai (Hq a0) m) a0 y2 x14 = some o1 -> Jn K13 [(1, .box [nI a0.1, dL Bt a0.2.1, dL An a0.2.2]), (3, .str x14), (4, nI y2)] := by
    intro x14 h σ' hk
    unfold FQ at h
    refine hK13 _ (lh hk rfl (rgd (by kernel_rfl) (sd 4 rfl (?_))))
    obtain ⟨e15, g16, h⟩ := Aa h
    refine ed rfl (qI rfl FG g16 (sd 2 rfl (?_)))
    obtain ⟨g17, h⟩ := Ag h
    refine ed rfl (qB rfl g17 rfl (sd 3 rfl (?_)))
    obtain ⟨e18, g19, h⟩ := Aa h
    refine ed rfl (qI rfl FG g19 (sd 2 rfl (?_)))
    obtain ⟨v20, g21, h⟩ := Aa h
    refine ed rfl (qC (qa rfl (erD Ap _) At) (Mh g21) (?_))
    obtain ⟨g22, h⟩ := Ag h
    exact ed rfl (qB rfl g22 rfl (sd 1 rfl (Cy (hK12 _ (rg (sp 3 rfl (evn (hN _ _ h (okr rfl)))))))))
   rcases Ab h with ⟨g23, h⟩ | ⟨g23, h⟩
   ·refine qT rfl g23 (rg (sp 1 rfl (?_)))
    obtain ⟨g24, h⟩ := Ag h
    exact qB rfl g24 rfl (sp 1 rfl (evn (kJ2 h _ (okr rfl))))
   ·exact qF rfl g23 (Ae (kJ2 h _ (okr rfl)))
  ·exact qF rfl g11 (Al (kXB1 (Option.some.inj h) _ (okr rfl)))
def Gm (rec : (Int × Int) -> Option (Int)) (y27 : Int) (x45 : Int) : Option (Int) := rec (x45, (IntKind.i64.wrap (y27 + 1)))
def HL (v11 : (List (List UInt8))) (y11 : Int) (y23 : Int) (rec : (Int × Int) -> Option (Int)) (s : Int × Int) : Option (Int) := match s with
  | (y26, y27) => cond (decide (y27 < 5)) (Ad (Fy y27) fun v40 => Ad (AA v11 y11) fun e42 => chk ((0 : Int) <= y23 ∧ y23 <= IntKind.i64.wrap (y23 + 1) ∧ IntKind.i64.wrap (y23 + 1) <= (List.length e42 : Int)) (cond (v40 == (A7 e42 y23 (IntKind.i64.wrap (y23 + 1)))) (Gm rec y27 (IntKind.i64.wrap (y27 + 1))) (Gm rec y27 y26))) (some y26)
def Jj (v11 : (List (List UInt8))) (y11 : Int) (rec : (Int × Int) -> Option (Int)) (s : Int × Int) : Option (Int) := match s with
  | (y22, y23) => Ad (AA v11 y11) fun e32 => cond (decide (y23 < (List.length e32 : Int))) (Ad (Ai (HL v11 y11 y23) fz (y22, y22)) fun z36 => rec (z36, (IntKind.i64.wrap (y23 + 1)))) (some y22)
def Ji (v11 : (List (List UInt8))) (rec : (Int × (List Gn) × Int) -> Option (Int × (List Gn))) (s : Int × (List Gn) × Int) : Option (Int × (List Gn)) := match s with
  | (y9, y10, y11) => cond (decide (y11 < (List.length v11 : Int))) (Ad (AA v11 y11) fun e19 => Ad (JL e19 40) fun v21 => Ad (AA v21 0) fun e23 => Ad (AA v11 y11) fun e25 => Ad (J5 e25) fun v27 => chk (List.length y10 + List.length [(e23, v27)] <= lim) (Ad (Ai (Jj v11 y11) fz (y9, 0)) fun z30 => rec (z30, (y10 ++ [(e23, v27)]), (IntKind.i64.wrap (y11 + 1))))) (some (y9, y10))
def Fw (a0 : List UInt8) : Option (Y29 × Bool) := Ad (JL a0 61) fun v1 => cond ((List.length v1 : Int) != 2) (some ((0, [], []), false)) (Ad (AA v1 0) fun e5 => Ad (J5 e5) fun v7 => Ad (AA v1 1) fun e9 => Ad (JL e9 44) fun v11 => Ad (Ai (Ji v11) fz (0, ([] : List Gn), 0)) fun o1 => (match o1 with
  | (z14, z15) => (Ad (Iz (z14, z15, v7)) fun v48 => cond (!(v48 == a0)) (some ((0, [], []), false)) (cond (a0 == []) (some ((0, [], []), false)) (some ((z14, z15, v7), true))))))
theorem MO {a0 : List UInt8} {r : Y29 × Bool} (h : Fw a0 = some r) : Ah Tryz.prog 100 [.str a0] (.tup [.agg (Mq r.1), .bool r.2]) := by
 unfold Fw at h
 refine st bL rfl (rn 1 rfl (rs (sp 1 rfl (?_))))
 obtain ⟨v1, g2, h⟩ := Aa h
 refine qC (qs rfl (qs rfl At)) (KI g2) (sp 1 rfl (evn (Ac fun K3 hK3 => rn 1 rfl ?_)))
 rcases Ab h with ⟨g4, h⟩ | ⟨g4, h⟩
 ·exact qT rfl g4 (rn 1 rfl (Af ((by cases h; exact ⟨.inl rfl, rfl⟩))))
 ·refine qF rfl g4 (Ae (hK3 _ (rs (sp 1 rfl (?_)))))
  obtain ⟨e5, g6, h⟩ := Aa h
  refine qI rfl O8 g6 (sp 1 rfl (?_))
  obtain ⟨v7, g8, h⟩ := Aa h
  refine qC (qs rfl At) (Mg g8) (sp 3 rfl (evn (rs (sp 1 rfl (?_)))))
  obtain ⟨e9, g10, h⟩ := Aa h
  refine qI rfl O8 g10 (sp 1 rfl (?_))
  obtain ⟨v11, g12, h⟩ := Aa h
  refine qC (qs rfl (qs rfl At)) (KI g12) (sp 1 rfl (evn (qk [0, 2, 5, 6] rfl (Ac fun K13 hK13 => rn 1 rfl ?_))))
  obtain ⟨o1, hl, hr1⟩ := Aa h
  have kXB1 : ∀ {z14 : Int} {z15 : List Gn}, (z14, z15) = o1 -> Jn K13 [(0, .str a0), (2, .box [nI 0, oL 109 A5 [], oL 3 An []]), (5, .box [nI z14, oL 109 A5 z15, oL 3 An v7])] := by
   intro z14 z15 h σ' hk
   subst h
   replace h := hr1
   try dsimp only at h
   refine hK13 _ (lh hk rfl (Ac fun K47 hK47 => rs (sp 1 rfl (?_))))
   obtain ⟨v48, g49, h⟩ := Aa h
   refine qC (qa rfl (erg (erc rfl (erc (erD Jp _) (erc (erD Ap _) rfl)))) At) (Mb g49) (sp 3 rfl (?_))
   rcases Ab h with ⟨g50, h⟩ | ⟨g50, h⟩
   ·exact qg 84 g50 rfl (sp 3 rfl (evn (qT rfl rfl (rn 1 rfl (Af ((by cases h; exact ⟨.inl rfl, rfl⟩)))))))
   ·refine qg 84 g50 rfl (sp 3 rfl (evn ?_))
    rcases Ab h with ⟨g51, h⟩ | ⟨g51, h⟩
    ·exact qT rfl g51 (rn 1 rfl (Af ((by cases h; exact ⟨.inl rfl, rfl⟩))))
    ·exact qF rfl g51 (Ae (hK47 _ (rn 1 rfl (Af ((by cases h; exact ⟨.inl rfl, rfl⟩))))))
  refine As (fun (s : Int × (List Gn) × Int) => match s with | (y9, y10, y11) => [(0, .str a0), (2, .box [nI 0, oL 109 A5 [], oL 3 An []]), (5, .box [nI y9, oL 109 A5 y10, oL 3 An v7]), (6, oL 9 cst v11), (7, nI y11)]) _ _ _ _ hl (okr rfl) (fun _ => rfl) ?_
  rintro m ⟨y9, y10, y11⟩ N h hN
  unfold Ji at h
  dsimp only at h
  refine Ac fun K16 hK16 => rn 1 rfl ?_
  rcases Ab h with ⟨g17, h⟩ | ⟨g17, h⟩
  ·refine qT rfl g17 (Ae (hK16 _ (Ac fun K18 hK18 => Aq (rs (sp 2 rfl (?_))))))
   obtain ⟨e19, g20, h⟩ := Aa h
   refine qI rfl O8 g20 (sp 1 rfl (?_))
   obtain ⟨v21, g22, h⟩ := Aa h
   refine qC (qs rfl (qs rfl At)) (KI g22) (sp 1 rfl (evn (rd (by kernel_rfl) (sd 3 rfl (?_)))))
   obtain ⟨e23, g24, h⟩ := Aa h
   refine ed rfl (qI rfl O8 g24 (sd 3 rfl (?_)))
   obtain ⟨e25, g26, h⟩ := Aa h
   refine ed rfl (qI rfl O8 g26 (sd 1 rfl (?_)))
   obtain ⟨v27, g28, h⟩ := Aa h
   refine ed rfl (qC (qs rfl At) (Mg g28) (sd 1 rfl (ed rfl (qBs A5 [(e23, v27)] rfl rfl rfl KK (?_)))))
   obtain ⟨g29, h⟩ := Ag h
   refine ed rfl (qA A5 y10 [(e23, v27)] rfl rfl (Ao KK [(e23, v27)]) rfl g29 (sd 2 rfl (Cy (rn 1 rfl (qk [0, 2, 5, 6, 7, 9] rfl ?_)))))
   obtain ⟨o2, hl, hr2⟩ := Aa h
   have kXB2 : ∀ {z30 : Int}, z30 = o2 -> Jn K18 [(0, .str a0), (2, .box [nI 0, oL 109 A5 [], oL 3 An []]), (5, .box [nI z30, oL 109 A5 (y10 ++ [(e23, v27)]), oL 3 An v7]), (6, oL 9 cst v11), (7, nI y11)] := by
    intro z30 h σ' hk
    subst h
    replace h := hr2
    try dsimp only at h
    exact hK18 _ (lh hk rfl (rg (sp 3 rfl (evn (hN _ _ h (okr rfl))))))
   refine As (fun (s : Int × Int) => match s with | (y22, y23) => [(0, .str a0), (2, .box [nI 0, oL 109 A5 [], oL 3 An []]), (5, .box [nI y22, oL 109 A5 (y10 ++ [(e23, v27)]), oL 3 An v7]), (6, oL 9 cst v11), (7, nI y11), (9, nI y23)]) _ _ _ _ hl (okr rfl) (fun _ => rfl) ?_
   rintro m ⟨y22, y23⟩ N h hN
   unfold Jj at h
   dsimp only at h
   refine Ac fun K31 hK31 => rs (sp 3 rfl (?_))
   obtain ⟨e32, g33, h⟩ := Aa h
   refine qI rfl O8 g33 (sp 3 rfl (evn ?_))
   rcases Ab h with ⟨g34, h⟩ | ⟨g34, h⟩
   ·refine qT rfl g34 (Ae (hK31 _ (Ac fun K35 hK35 => Aq (rn 1 rfl ?_))))
    obtain ⟨o3, hl, hr3⟩ := Aa h
    have kXB3 : ∀ {z36 : Int}, z36 = o3 -> Jn K35 [(0, .str a0), (2, .box [nI 0, oL 109 A5 [], oL 3 An []]), (5, .box [nI z36, oL 109 A5 (y10 ++ [(e23, v27)]), oL 3 An v7]), (6, oL 9 cst v11), (7, nI y11), (9, nI y23)] := by
     intro z36 h σ' hk
     subst h
     replace h := hr3
     try dsimp only at h
     exact hK35 _ (lh hk rfl (rg (sp 3 rfl (evn (hN _ _ h (okr rfl))))))
    refine As (fun (s : Int × Int) => match s with | (y26, y27) => [(0, .str a0), (2, .box [nI 0, oL 109 A5 [], oL 3 An []]), (5, .box [nI y26, oL 109 A5 (y10 ++ [(e23, v27)]), oL 3 An v7]), (6, oL 9 cst v11), (7, nI y11), (9, nI y23), (10, nI y27)]) _ _ _ _ hl (okr rfl) (fun _ => rfl) ?_
    rintro m ⟨y26, y27⟩ N h hN
    unfold HL at h
    dsimp only at h
    refine Ac fun K37 hK37 => rn 1 rfl ?_
    rcases Ab h with ⟨g38, h⟩ | ⟨g38, h⟩
    ·refine qT rfl g38 (Ae (hK37 _ (Ac fun K39 hK39 => Aq (rd (by kernel_rfl) (sd 1 rfl (?_))))))
     obtain ⟨v40, g41, h⟩ := Aa h
     refine ed rfl (qC (qs rfl At) (Hr g41) (sd 2 rfl (?_)))
     obtain ⟨e42, g43, h⟩ := Aa h
     refine ed rfl (qI rfl O8 g43 (sd 4 rfl (?_)))
     obtain ⟨g44, h⟩ := Ag h
     refine ed rfl (qSs rfl g44 (sd 1 rfl (Cy ?_)))
     have kJ4 : ∀ {x45 : Int}, Gm (Ai (HL v11 y11 y23) m) y27 x45 = some o3 -> Jn K39 [(0, .str a0), (2, .box [nI 0, oL 109 A5 [], oL 3 An []]), (5, .box [nI x45, oL 109 A5 (y10 ++ [(e23, v27)]), oL 3 An v7]), (6, oL 9 cst v11), (7, nI y11), (9, nI y23), (10, nI y27)] := by
      intro x45 h σ' hk
      unfold Gm at h
      exact hK39 _ (lh hk rfl (rg (sp 3 rfl (evn (hN _ _ h (okr rfl))))))
     rcases Ab h with ⟨g46, h⟩ | ⟨g46, h⟩
     ·exact qT rfl g46 (rg (sp 4 rfl (evn (kJ4 h _ (okr rfl)))))
     ·exact qF rfl g46 (Ae (kJ4 h _ (okr rfl)))
    ·exact qF rfl g38 (Al (kXB3 (Option.some.inj h) _ (okr rfl)))
   ·exact qF rfl g34 (Al (kXB2 (Option.some.inj h) _ (okr rfl)))
  ·exact qF rfl g17 (Al (kXB1 (Option.some.inj h) _ (okr rfl)))
def FE (v9 : Int × Y98) (rec : ((List Int) × Int × Int × (List Int) × Int) -> Option ((List Int) × Int × Int × (List Int))) (s : (List Int) × Int × Int × (List Int) × Int) : Option ((List Int) × Int × Int × (List Int)) := match s with
  | (y16, y17, y18, y19, y20) => cond (decide (0 < y20)) (Ad (AV (y16, y17, y18) (IntKind.i64.wrap (1 + v9.1))) fun v33 => chk (List.length y19 + List.length [v33.1] <= lim) (rec (v33.2.1, v33.2.2.1, v33.2.2.2, (y19 ++ [v33.1]), (IntKind.i64.wrap (y20 - 1))))) (some (y16, y17, y18, y19))
def FD (v9 : Int × Y98) (rec : ((List Int) × Int × Int × (List Gn) × Int) -> Option ((List Int) × Int × Int × (List Gn))) (s : (List Int) × Int × Int × (List Gn) × Int) : Option ((List Int) × Int × Int × (List Gn)) := match s with
  | (y6, y7, y8, y9, y10) => cond (decide (0 < y10)) (Ad (AV (y6, y7, y8) 5) fun v21 => Ad (AA ([[114], [115], [116], [117], [118]]) v21.1) fun e23 => Ad (Ai (FE v9) fz (v21.2.1, v21.2.2.1, v21.2.2.2, ([] : List Int), (IntKind.i64.wrap (2 + (IntKind.i64.wrap (Int.tdiv v21.1 4)))))) fun o2 => (match o2 with
  | (z26, z27, z28, z29) => (chk (List.length y9 + List.length [(e23, z29)] <= lim) (rec (z26, z27, z28, (y9 ++ [(e23, z29)]), (IntKind.i64.wrap (y10 - 1))))))) (some (y6, y7, y8, y9))
def FF (rec : ((List Int) × Int × Int × (List Int) × Int) -> Option ((List Int) × Int × Int × (List Int))) (y25 : Int) (v45 : Bool × Y98) (x47 : List Int) : Option ((List Int) × Int × Int × (List Int)) := rec (v45.2.1, v45.2.2.1, v45.2.2.2, x47, (IntKind.i64.wrap (y25 + 1)))
def DJ (v9 : Int × Y98) (rec : ((List Int) × Int × Int × (List Int) × Int) -> Option ((List Int) × Int × Int × (List Int))) (s : (List Int) × Int × Int × (List Int) × Int) : Option ((List Int) × Int × Int × (List Int)) := match s with
  | (y21, y22, y23, y24, y25) => cond (decide (y25 < (IntKind.i64.wrap (1 + v9.1)))) (Ad (FU (y21, y22, y23) 2) fun v45 => cond v45.1 (chk (List.length [y25] + List.length y24 <= lim) (FF rec y25 v45 ([y25] ++ y24))) (FF rec y25 v45 y24)) (some (y21, y22, y23, y24))
def Iq (a0 : Y98) : Option (Y29 × Y98) := Ad (Hs a0 ([[40, 88, 89, 90, 41, 61, 114, 40, 88, 89, 41, 44, 115, 40, 89, 90, 41, 44, 116, 40, 90, 88, 41], [40, 88, 89, 90, 85, 41, 61, 114, 40, 88, 89, 41, 44, 115, 40, 89, 90, 41, 44, 116, 40, 90, 85, 41, 44, 117, 40, 85, 88, 41], [40, 88, 89, 90, 41, 61, 114, 40, 88, 89, 41, 44, 115, 40, 89, 90, 41], [40, 88, 41, 61, 114, 40, 88, 89, 41, 44, 115, 40, 89, 90, 41, 44, 116, 40, 90, 85, 41], [40, 88, 89, 90, 41, 61, 118, 40, 88, 89, 90, 41, 44, 114, 40, 88, 89, 41], [40, 88, 89, 41, 61, 114, 40, 88, 89, 41, 44, 114, 40, 89, 88, 41], [40, 88, 89, 90, 85, 41, 61, 118, 40, 88, 89, 90, 41, 44, 115, 40, 90, 85, 41, 44, 116, 40, 85, 88, 41], [40, 88, 41, 61, 114, 40, 88, 88, 41], [40, 88, 89, 41, 61, 114, 40, 88, 90, 41, 44, 115, 40, 90, 89, 41, 44, 114, 40, 88, 85, 41, 44, 115, 40, 85, 89, 41], [40, 41, 61, 114, 40, 88, 89, 41, 44, 115, 40, 89, 88, 41], [40, 88, 89, 90, 85, 86, 41, 61, 114, 40, 88, 89, 41, 44, 115, 40, 89, 90, 41, 44, 116, 40, 90, 85, 41, 44, 117, 40, 85, 86, 41]])) fun v1 => Ad (Fw v1.1) fun v3 => Ad (FU v1.2 3) fun v6 => cond (!v6.1) (some (v3.1, v6.2)) (Ad (AV v6.2 4) fun v9 => Ad (AV v9.2 4) fun v12 => Ad (Ai (FD v9) fz (v12.2.1, v12.2.2.1, v12.2.2.2, ([] : List Gn), (IntKind.i64.wrap (1 + v12.1)))) fun o1 => (match o1 with
  | (z14, z15, z16, z17) => (Ad (Ai (DJ v9) fz (z14, z15, z16, ([] : List Int), 0)) fun o3 => (match o3 with
  | (z38, z39, z40, z41) => (Ad (BC (IntKind.i64.wrap (1 + v9.1), z17, z41)) fun v51 => cond (!v51) (some (v3.1, (z38, z39, z40))) (some ((IntKind.i64.wrap (1 + v9.1), z17, z41), (z38, z39, z40))))))))
theorem ON {a0 : Y98} {r : Y29 × Y98} (h : Iq a0 = some r) : Jm Tryz.prog 64 [aL cu8 a0.1, nI a0.2.1, nI a0.2.2] [] [aL cu8 r.2.1, nI r.2.2.1, nI r.2.2.2] (.agg (Mq r.1)) := by
 unfold Iq at h
 generalize hkk0 : ([[40, 88, 89, 90, 41, 61, 114, 40, 88, 89, 41, 44, 115, 40, 89, 90, 41, 44, 116, 40, 90, 88, 41], [40, 88, 89, 90, 85, 41, 61, 114, 40, 88, 89, 41, 44, 115, 40, 89, 90, 41, 44, 116, 40, 90, 85, 41, 44, 117, 40, 85, 88, 41], [40, 88, 89, 90, 41, 61, 114, 40, 88, 89, 41, 44, 115, 40, 89, 90, 41], [40, 88, 41, 61, 114, 40, 88, 89, 41, 44, 115, 40, 89, 90, 41, 44, 116, 40, 90, 85, 41], [40, 88, 89, 90, 41, 61, 118, 40, 88, 89, 90, 41, 44, 114, 40, 88, 89, 41], [40, 88, 89, 41, 61, 114, 40, 88, 89, 41, 44, 114, 40, 89, 88, 41], [40, 88, 89, 90, 85, 41, 61, 118, 40, 88, 89, 90, 41, 44, 115, 40, 90, 85, 41, 44, 116, 40, 85, 88, 41], [40, 88, 41, 61, 114, 40, 88, 88, 41], [40, 88, 89, 41, 61, 114, 40, 88, 90, 41, 44, 115, 40, 90, 89, 41, 44, 114, 40, 88, 85, 41, 44, 115, 40, 85, 89, 41], [40, 41, 61, 114, 40, 88, 89, 41, 44, 115, 40, 89, 88, 41], [40, 88, 89, 90, 85, 86, 41, 61, 114, 40, 88, 89, 41, 44, 115, 40, 89, 90, 41, 44, 116, 40, 90, 85, 41, 44, 117, 40, 85, 86, 41]] : List (List UInt8)) = kk0 at h
 refine stp iW rfl (rn 1 rfl ((rsB cst kk0 9 1 (by subst hkk0; kernel_rfl) (by subst hkk0; rfl) O8 (sp 1 rfl (evn (rs (sp 2 rfl (?_))))))))
 obtain ⟨v1, g2, h⟩ := Aa h
 refine qP rfl rfl rfl rfl (qa rfl (erD gK _) At) (J3 g2) (?_)
 obtain ⟨v3, g4, h⟩ := Aa h
 refine qC (qs rfl At) (MO g4) (sp 6 rfl (evn (Ac fun K5 hK5 => rs (sp 1 rfl (?_)))))
 obtain ⟨v6, g7, h⟩ := Aa h
 refine qP rfl rfl rfl rfl (qs rfl At) (HO g7) (sp 1 rfl (evn ?_))
 rcases Ab h with ⟨g8, h⟩ | ⟨g8, h⟩
 ·exact qT rfl g8 (rn 1 rfl (Af ((by cases h; exact ⟨.inl rfl, rfl, rfl⟩))))
 ·refine qF rfl g8 (Ae (hK5 _ (rs (sp 1 rfl (?_)))))
  obtain ⟨v9, g10, h⟩ := Aa h
  refine qP rfl rfl rfl rfl (qs rfl At) (AN g10) (sp 4 rfl (evn (qk [0, 2, 4, 6] rfl (Ac fun K11 hK11 => rs (sp 1 rfl (?_))))))
  obtain ⟨v12, g13, h⟩ := Aa h
  refine qP rfl rfl rfl rfl (qs rfl At) (AN g13) (sp 2 rfl (evn ?_))
  obtain ⟨o1, hl, hr1⟩ := Aa h
  have kXB1 : ∀ {z14 : List Int} {z15 : Int} {z16 : Int} {z17 : List Gn}, (z14, z15, z16, z17) = o1 -> Jn K11 [(0, .box [aL cu8 z14, nI z15, nI z16]), (2, .box [nI 0, oL 109 A5 [], oL 3 An []]), (4, .box [nI v3.1.1, oL 109 A5 v3.1.2.1, oL 3 An v3.1.2.2]), (6, .box [nI (IntKind.i64.wrap (1 + v9.1)), oL 109 A5 z17, oL 3 An []])] := by
   intro z14 z15 z16 z17 h σ' hk
   subst h
   replace h := hr1
   try dsimp only at h
   refine hK11 _ (lh hk rfl (Ac fun K37 hK37 => rn 1 rfl ?_))
   obtain ⟨o3, hl, hr3⟩ := Aa h
   have kXB3 : ∀ {z38 : List Int} {z39 : Int} {z40 : Int} {z41 : List Int}, (z38, z39, z40, z41) = o3 -> Jn K37 [(0, .box [aL cu8 z38, nI z39, nI z40]), (2, .box [nI 0, oL 109 A5 [], oL 3 An []]), (4, .box [nI v3.1.1, oL 109 A5 v3.1.2.1, oL 3 An v3.1.2.2]), (6, .box [nI (IntKind.i64.wrap (1 + v9.1)), oL 109 A5 z17, oL 3 An z41])] := by
    intro z38 z39 z40 z41 h σ' hk
    subst h
    replace h := hr3
    try dsimp only at h
    refine hK37 _ (lh hk rfl (Ac fun K50 hK50 => rs (sp 1 rfl (?_))))
    obtain ⟨v51, g52, h⟩ := Aa h
    refine qC (qa rfl (erg (erc rfl (erc (erD Jp _) (erc (erD Ap _) rfl)))) At) (Ds g52) (sp 1 rfl (evn ?_))
    rcases Ab h with ⟨g53, h⟩ | ⟨g53, h⟩
    ·exact qT rfl g53 (rn 1 rfl (Af ((by cases h; exact ⟨.inl rfl, rfl, rfl⟩))))
    ·exact qF rfl g53 (Ae (hK50 _ (rn 1 rfl (Af ((by cases h; exact ⟨.inl rfl, rfl, rfl⟩))))))
   refine As (fun (s : (List Int) × Int × Int × (List Int) × Int) => match s with | (y21, y22, y23, y24, y25) => [(0, .box [aL cu8 y21, nI y22, nI y23]), (2, .box [nI 0, oL 109 A5 [], oL 3 An []]), (4, .box [nI v3.1.1, oL 109 A5 v3.1.2.1, oL 3 An v3.1.2.2]), (6, .box [nI (IntKind.i64.wrap (1 + v9.1)), oL 109 A5 z17, oL 3 An y24]), (11, nI y25)]) _ _ _ _ hl (okr rfl) (fun _ => rfl) ?_
   rintro m ⟨y21, y22, y23, y24, y25⟩ N h hN
   unfold DJ at h
   dsimp only at h
   refine Ac fun K42 hK42 => rn 1 rfl ?_
   rcases Ab h with ⟨g43, h⟩ | ⟨g43, h⟩
   ·refine qT rfl g43 (Ae (hK42 _ (Ac fun K44 hK44 => Aq (rs (sp 1 rfl (?_))))))
    obtain ⟨v45, g46, h⟩ := Aa h
    refine qP rfl rfl rfl rfl (qs rfl At) (HO g46) (evn ?_)
    have kJ4 : ∀ {x47 : List Int}, FF (Ai (DJ v9) m) y25 v45 x47 = some o3 -> Jn K44 [(0, .box (Rk v45.2)), (2, .box [nI 0, oL 109 A5 [], oL 3 An []]), (4, .box [nI v3.1.1, oL 109 A5 v3.1.2.1, oL 3 An v3.1.2.2]), (6, .box [nI (IntKind.i64.wrap (1 + v9.1)), oL 109 A5 z17, oL 3 An x47]), (11, nI y25)] := by
     intro x47 h σ' hk
     unfold FF at h
     exact hK44 _ (lh hk rfl (rg (sp 3 rfl (evn (hN _ _ h (okr rfl))))))
    rcases Ab h with ⟨g48, h⟩ | ⟨g48, h⟩
    ·refine qT rfl g48 (rg (sp 1 rfl (qBs An [y25] rfl rfl rfl Ar (sp 2 rfl (?_)))))
     obtain ⟨g49, h⟩ := Ag h
     exact qA An [y25] y24 rfl rfl (Ao Ar y24) rfl g49 (sp 2 rfl (evn (kJ4 h _ (okr rfl))))
    ·exact qF rfl g48 (Ae (kJ4 h _ (okr rfl)))
   ·exact qF rfl g43 (Al (kXB3 (Option.some.inj h) _ (okr rfl)))
  refine As (fun (s : (List Int) × Int × Int × (List Gn) × Int) => match s with | (y6, y7, y8, y9, y10) => [(0, .box [aL cu8 y6, nI y7, nI y8]), (2, .box [nI 0, oL 109 A5 [], oL 3 An []]), (4, .box [nI v3.1.1, oL 109 A5 v3.1.2.1, oL 3 An v3.1.2.2]), (6, .box [nI (IntKind.i64.wrap (1 + v9.1)), oL 109 A5 y9, oL 3 An []]), (7, nI y10)]) _ _ _ _ hl (okr rfl) (fun _ => rfl) ?_
  rintro m ⟨y6, y7, y8, y9, y10⟩ N h hN
  unfold FD at h
  dsimp only at h
  refine Ac fun K18 hK18 => rn 1 rfl ?_
  rcases Ab h with ⟨g19, h⟩ | ⟨g19, h⟩
  ·refine qT rfl g19 (Ae (hK18 _ (Ac fun K20 hK20 => Aq (rs (sp 1 rfl (?_))))))
   obtain ⟨v21, g22, h⟩ := Aa h
   refine qP rfl rfl rfl rfl (qs rfl At) (AN g22) (sp 1 rfl (evn (rs (qBk cst [[114], [115], [116], [117], [118]] 9 1 (by kernel_rfl) rfl O8 (sp 1 rfl (?_))))))
   obtain ⟨e23, g24, h⟩ := Aa h
   refine qI rfl O8 g24 (sp 4 rfl (evn (Ac fun K25 hK25 => rn 1 rfl ?_)))
   obtain ⟨o2, hl, hr2⟩ := Aa h
   have kXB2 : ∀ {z26 : List Int} {z27 : Int} {z28 : Int} {z29 : List Int}, (z26, z27, z28, z29) = o2 -> Jn K25 [(0, .box [aL cu8 z26, nI z27, nI z28]), (2, .box [nI 0, oL 109 A5 [], oL 3 An []]), (4, .box [nI v3.1.1, oL 109 A5 v3.1.2.1, oL 3 An v3.1.2.2]), (6, .box [nI (IntKind.i64.wrap (1 + v9.1)), oL 109 A5 y9, oL 3 An []]), (7, nI y10), (9, .box [.str e23, oL 3 An z29])] := by
    intro z26 z27 z28 z29 h σ' hk
    subst h
    replace h := hr2
    try dsimp only at h
    refine hK25 _ (lh hk rfl (rg (sp 3 rfl (qBs A5 [(e23, z29)] rfl rfl rfl KK (?_)))))
    obtain ⟨g36, h⟩ := Ag h
    exact qA A5 y9 [(e23, z29)] rfl rfl (Ao KK [(e23, z29)]) rfl g36 (sp 2 rfl (evn (hK20 _ (rg (sp 3 rfl (evn (hN _ _ h (okr rfl))))))))
   refine As (fun (s : (List Int) × Int × Int × (List Int) × Int) => match s with | (y16, y17, y18, y19, y20) => [(0, .box [aL cu8 y16, nI y17, nI y18]), (2, .box [nI 0, oL 109 A5 [], oL 3 An []]), (4, .box [nI v3.1.1, oL 109 A5 v3.1.2.1, oL 3 An v3.1.2.2]), (6, .box [nI (IntKind.i64.wrap (1 + v9.1)), oL 109 A5 y9, oL 3 An []]), (7, nI y10), (9, .box [.str e23, oL 3 An y19]), (10, nI y20)]) _ _ _ _ hl (okr rfl) (fun _ => rfl) ?_
   rintro m ⟨y16, y17, y18, y19, y20⟩ N h hN
   unfold FE at h
   dsimp only at h
   refine Ac fun K30 hK30 => rn 1 rfl ?_
   rcases Ab h with ⟨g31, h⟩ | ⟨g31, h⟩
   ·refine qT rfl g31 (Ae (hK30 _ (Ac fun K32 hK32 => Aq (rgd (by kernel_rfl) (sd 5 rfl (?_))))))
    obtain ⟨v33, g34, h⟩ := Aa h
    refine ed rfl (qP rfl rfl rfl rfl (qs rfl At) (AN g34) (ed rfl (qBs An [v33.1] rfl rfl rfl Ar (?_))))
    obtain ⟨g35, h⟩ := Ag h
    exact ed rfl (qA An y19 [v33.1] rfl rfl (Ao Ar [v33.1]) rfl g35 (sd 2 rfl (Cy (hK32 _ (rg (sp 3 rfl (evn (hN _ _ h (okr rfl)))))))))
   ·exact qF rfl g31 (Al (kXB2 (Option.some.inj h) _ (okr rfl)))
  ·exact qF rfl g19 (Al (kXB1 (Option.some.inj h) _ (okr rfl)))
def GE (a0 : Y25) (a1 : Y29) (a2 : List Int) : Option (Y31 × Bool) := Ad (BN a0) fun v2 => cond (!v2) (some ((0, [], [], (0, [], [])), false)) (Ad (AA a0.2 (IntKind.i64.wrap ((List.length a0.2 : Int) - 1))) fun e5 => Ad (Fu e5 a1) fun v7 => cond (!v7) (some ((0, [], [], (0, [], [])), false)) (Ad (Eg a1 a2) fun v10 => cond (!v10) (some ((0, [], [], (0, [], [])), false)) (chk (List.length ([] : List Int) + List.length a2 <= lim) (Ad (HY a1) fun v14 => some ((IntKind.i64.wrap ((IntKind.i64.wrap (a0.1 + (List.length a0.2 : Int))) - 1), ([] : List Int) ++ a2, [], v14), true)))))
theorem MN {a0 : Y25} {a1 : Y29} {a2 : List Int} {r : Y31 × Bool} (h : GE a0 a1 a2 = some r) : Ah Tryz.prog 65 [.agg (C1 a0), .agg (CZ a1), dL An a2] (.tup [.agg (HA r.1), .bool r.2]) := by
 unfold GE at h
 refine st iX rfl (rn 1 rfl (Ac fun K1 hK1 => rd (by kernel_rfl) (sd 1 rfl (?_))))
 obtain ⟨v2, g3, h⟩ := Aa h
 refine ed rfl (qC (qa rfl (erg (erc rfl (erc (erD Gb _) rfl))) At) (E9 g3) (sd 2 rfl (?_)))
 rcases Ab h with ⟨g4, h⟩ | ⟨g4, h⟩
 ·exact qgd 11 g4 rfl (sd 18 rfl (Cy (qT rfl rfl (rn 1 rfl (Af ((by cases h; exact ⟨.inl rfl, rfl⟩)))))))
 ·refine qgd 11 g4 rfl (sd 6 rfl (?_))
  obtain ⟨e5, g6, h⟩ := Aa h
  refine ed rfl (oGR rfl rfl (qI rfl HU g6 (sd 2 rfl (?_))))
  obtain ⟨v7, g8, h⟩ := Aa h
  refine ed rfl (oGR rfl rfl (qC (qa rfl (erg (erc (erD AP _) rfl)) (qa rfl (erg (erc rfl (erc (erD Cn _) (erc (erD Ap _) rfl)))) At)) (JI g8) (sd 3 rfl (?_))))
  rcases Ab h with ⟨g9, h⟩ | ⟨g9, h⟩
  ·exact qgd 24 g9 rfl (sd 5 rfl (Cy (qk [2, 3, 4, 6, 29] rfl (qT rfl rfl (rn 1 rfl (Af ((by cases h; exact ⟨.inl rfl, rfl⟩))))))))
  ·refine qgd 24 g9 rfl (sd 2 rfl (?_))
   obtain ⟨v10, g11, h⟩ := Aa h
   refine ed rfl (oGR rfl rfl (qC (qa rfl (erg (erc rfl (erc (erD Cn _) (erc (erD Ap _) rfl)))) (qa rfl (erD Ap _) At)) (I1 g11) (sd 2 rfl (Cy ?_))))
   rcases Ab h with ⟨g12, h⟩ | ⟨g12, h⟩
   ·exact qT rfl g12 (rn 1 rfl (Af ((by cases h; exact ⟨.inl rfl, rfl⟩))))
   ·refine qF rfl g12 (Ae (hK1 _ (rd (by kernel_rfl) (sd 7 rfl (ed rfl (qBs An [] rfl rfl rfl Ar (sd 1 rfl (?_))))))))
    obtain ⟨g13, h⟩ := Ag h
    refine ed rfl (qA An ([] : List Int) a2 rfl rfl (Ao Ar a2) (Gi (fun _ => rfl) _) g13 (sd 1 rfl (?_)))
    obtain ⟨v14, g15, h⟩ := Aa h
    exact ed rfl (qC (qa rfl (erg (erc rfl (erc (erD Cn _) (erc (erD Ap _) rfl)))) At) (Mf g15) (sd 3 rfl (Cy (Af ((by cases h; exact ⟨.inl rfl, rfl⟩))))))
end Go.Proofs.YtlknpohjnpnodaaGreat
