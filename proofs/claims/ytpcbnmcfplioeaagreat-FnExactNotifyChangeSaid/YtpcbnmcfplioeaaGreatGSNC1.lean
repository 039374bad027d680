/-
  Functions of the program as typed functions, printed by gen.py, and that the program's functions do what they say. No conditions.
-/
import Derived.Test.YtpcbnmcfplioeaaGreatUpNC1
import Derived.Test.YtpcbnmcfplioeaaGreatLit2NC1
namespace Go.Proofs.YtpcbnmcfplioeaaGreat
open Go.RowKit
set_option linter.unusedVariables false
set_option maxRecDepth 100000
set_option maxHeartbeats 1000000
def GR (a0 : List UInt8) (rec : Int -> Option (Sum (Unit) (Bool))) (y1 : Int) : Option (Sum (Unit) (Bool)) := cond (decide (y1 < (List.length a0 : Int))) (Ad (AO a0 y1) fun b8 => cond (decide ((UInt8.toNat b8 : Int) < 97)) (some (.inr false)) (Ad (AO a0 y1) fun b11 => cond (decide (122 < (UInt8.toNat b11 : Int))) (some (.inr false)) (rec (IntKind.i64.wrap (y1 + 1))))) (some (.inl ()))
def Io (a0 : List UInt8) (a1 : Int) : Option (Bool) := cond (decide ((List.length a0 : Int) < 1)) (some false) (cond (decide (a1 < (List.length a0 : Int))) (some false) (Ad (Ao (GR a0) fz 0) fun o1 => (match o1 with
  | .inl _ => (some true)
  | .inr r => some r)))
theorem OR {a0 : List UInt8} {a1 : Int} {r : Bool} (h : Io a0 a1 = some r) : Ai Tryz.prog 161 [.str a0,nI a1] (.bool r) := by
 unfold Io at h
 refine st jb rfl (rn 1 rfl (Ac fun K1 hK1 => rs (sp 4 rfl (?_))))
 rcases Ab h with ⟨g2,h⟩ | ⟨g2,h⟩
 ·exact qg 9 g2 rfl (sp 5 rfl (evn (qT rfl rfl (rn 1 rfl (Af ((by cases h; exact ⟨.inl rfl,rfl⟩)))))))
 ·refine qg 9 g2 rfl (sp 5 rfl (evn ?_))
  rcases Ab h with ⟨g3,h⟩ | ⟨g3,h⟩
  ·exact qT rfl g3 (rn 1 rfl (Af ((by cases h; exact ⟨.inl rfl,rfl⟩))))
  ·refine qF rfl g3 (Ae (hK1 _ (Ac fun K4 hK4 => rn 1 rfl (qk [0,5] rfl ?_))))
   obtain ⟨o1,hl,hr1⟩ := Aa h
   have kXB1 : (.inl ()) = o1 -> Jn K4 [] := by
    intro h σ' hk
    subst h
    replace h := hr1
    try dsimp only at h
    exact hK4 _ (lh hk rfl (rn 1 rfl (Af ((by cases h; exact ⟨.inl rfl,rfl⟩)))))
   refine AB (fun (y1 : Int) => [(0,.str a0),(5,nI y1)]) _ _ _ _ hl (okr rfl) (fun _ => rfl) ?_
   rintro m y1 N h hN
   unfold GR at h
   refine Ac fun K5 hK5 => rn 1 rfl ?_
   rcases Ab h with ⟨g6,h⟩ | ⟨g6,h⟩
   ·refine qT rfl g6 (Ae (hK5 _ (Ac fun K7 hK7 => Az (rs (sp 2 rfl (?_))))))
    obtain ⟨b8,g9,h⟩ := Aa h
    refine qX rfl g9 (sp 2 rfl (?_))
    rcases Ab h with ⟨g10,h⟩ | ⟨g10,h⟩
    ·exact qg 25 g10 rfl (sp 5 rfl (evn (qT rfl rfl (rn 1 rfl (Af ((by cases h; cases hr1; exact ⟨.inl rfl,rfl⟩)))))))
    ·refine qg 25 g10 rfl (sp 2 rfl (?_))
     obtain ⟨b11,g12,h⟩ := Aa h
     refine oGR rfl rfl (qX rfl g12 (sp 2 rfl (evn ?_)))
     rcases Ab h with ⟨g13,h⟩ | ⟨g13,h⟩
     ·exact qT rfl g13 (rn 1 rfl (qk [4] rfl (Af ((by cases h; cases hr1; exact ⟨.inl rfl,rfl⟩)))))
     ·exact qF rfl g13 (Ae (hK7 _ (rg (sp 3 rfl (evn (hN _ _ h (okr rfl)))))))
   ·exact qF rfl g6 (Aq (kXB1 (Option.some.inj h) _ trivial))
def Et (a0 : List UInt8) : Option (Bool) := Ad (Io a0 4) fun v1 => some v1
theorem J9 {a0 : List UInt8} {r : Bool} (h : Et a0 = some r) : Ai Tryz.prog 111 [.str a0] (.bool r) := by
 unfold Et at h
 refine st ii rfl (rn 1 rfl (rs (sp 1 rfl (?_))))
 obtain ⟨v1,g2,h⟩ := Aa h
 exact qC (qs rfl (qs rfl Ax)) (OR g2) (sp 1 rfl (evn (Af ((by cases h; exact ⟨.inl rfl,rfl⟩)))))
def G6 (x2 : Bool) : Option (Bool) := some x2
def CV (a0 : Int) (a1 : Int) (a2 : Int) : Option (Bool) := cond (decide (a1 <= a0)) (G6 (decide (a0 <= a2))) (G6 false)
theorem DK {a0 : Int} {a1 : Int} {a2 : Int} {r : Bool} (h : CV a0 a1 a2 = some r) : Ai Tryz.prog 50 [nI a0,nI a1,nI a2] (.bool r) := by
 unfold CV at h
 refine st nq rfl (rn 1 rfl (rk fun K1 hK1 => ?_))
 have kJ1 : ∀ {x2 : Bool},G6 x2 = some r -> Jn K1 [(6,.bool x2)] := by
  intro x2 h σ' hk
  unfold G6 at h
  exact hK1 _ (lh hk rfl (Af ((by cases h; exact ⟨.inl rfl,rfl⟩))))
 refine sp 4 rfl (?_)
 rcases Ab h with ⟨g3,h⟩ | ⟨g3,h⟩
 ·exact qg 10 g3 rfl (sp 5 rfl (evn (kJ1 h _ (okr rfl))))
 ·exact qg 10 g3 rfl (sp 5 rfl (evn (kJ1 h _ (okr rfl))))
def Eh (a0 : List Int) (rec : Int -> Option (Sum (Unit) (Bool))) (y1 : Int) : Option (Sum (Unit) (Bool)) := cond (decide (y1 < (List.length a0 : Int))) (Ad (AO a0 y1) fun e5 => Ad (CV e5 0 99) fun v7 => cond (!v7) (some (.inr false)) (rec (IntKind.i64.wrap (y1 + 1)))) (some (.inl ()))
def CM (a0 : List Int) : Option (Bool) := Ad (Ao (Eh a0) fz 0) fun o1 => (match o1 with
  | .inl _ => (some true)
  | .inr r => some r)
theorem IC {a0 : List Int} {r : Bool} (h : CM a0 = some r) : Ai Tryz.prog 178 [dL As a0] (.bool r) := by
 unfold CM at h
 refine st jo rfl (rn 1 rfl (Ac fun K1 hK1 => rn 1 rfl ?_))
 obtain ⟨o1,hl,hr1⟩ := Aa h
 have kXB1 : (.inl ()) = o1 -> Jn K1 [] := by
  intro h σ' hk
  subst h
  replace h := hr1
  try dsimp only at h
  exact hK1 _ (lh hk rfl (rn 1 rfl (Af ((by cases h; exact ⟨.inl rfl,rfl⟩)))))
 refine AB (fun (y1 : Int) => [(5,dL As a0),(6,nI (List.length a0 : Int)),(7,nI y1)]) _ _ _ _ hl (okr rfl) (fun _ => rfl) ?_
 rintro m y1 N h hN
 unfold Eh at h
 refine rn 1 rfl (Ac fun K2 hK2 => ?_)
 rcases Ab h with ⟨g3,h⟩ | ⟨g3,h⟩
 ·refine qT rfl g3 (Ae (hK2 _ (Ac fun K4 hK4 => Az (rs ?_))))
  obtain ⟨e5,g6,h⟩ := Aa h
  refine qI rfl AM g6 (sp 2 rfl (evn (rs (sp 1 rfl (?_)))))
  obtain ⟨v7,g8,h⟩ := Aa h
  refine qC (qs rfl (qs rfl (qs rfl Ax))) (DK g8) (sp 1 rfl (evn ?_))
  rcases Ab h with ⟨g9,h⟩ | ⟨g9,h⟩
  ·exact qT rfl g9 (rn 1 rfl (Af ((by cases h; cases hr1; exact ⟨.inl rfl,rfl⟩))))
  ·exact qF rfl g9 (Ae (hK4 _ (rg (sp 2 rfl (evn (hN _ _ h (okr rfl)))))))
 ·exact qF rfl g3 (Aq (kXB1 (Option.some.inj h) _ trivial))
def Ev (a0 : Int) (a1 : Int) : Option (Int) := cond (decide (a0 < a1)) (some (-1)) (cond (decide (a1 < a0)) (some 1) (some 0))
theorem Kb {a0 : Int} {a1 : Int} {r : Int} (h : Ev a0 a1 = some r) : Ai Tryz.prog 195 [nI a0,nI a1] (nI r) := by
 unfold Ev at h
 refine st jE rfl (rn 1 rfl (Ac fun K1 hK1 => Az (rn 1 rfl ?_)))
 rcases Ab h with ⟨g2,h⟩ | ⟨g2,h⟩
 ·exact qT rfl g2 (rn 1 rfl (Af ((by cases h; exact ⟨.inl rfl,rfl⟩))))
 ·refine qF rfl g2 (rn 1 rfl ?_)
  rcases Ab h with ⟨g3,h⟩ | ⟨g3,h⟩
  ·exact qT rfl g3 (rn 1 rfl (Af ((by cases h; exact ⟨.inl rfl,rfl⟩))))
  ·exact qF rfl g3 (Ae (hK1 _ (rn 1 rfl (qk [4] rfl (Af ((by cases h; exact ⟨.inl rfl,rfl⟩)))))))
def DZ (a0 : List Int) (a1 : List Int) (rec : Int -> Option (Sum (Unit) (Int))) (y1 : Int) : Option (Sum (Unit) (Int)) := cond (decide (y1 < (List.length a0 : Int))) (cond (decide (y1 < (List.length a1 : Int))) (Ad (AO a0 y1) fun e6 => Ad (AO a1 y1) fun e8 => cond (e6 != e8) (Ad (AO a0 y1) fun e11 => Ad (AO a1 y1) fun e13 => Ad (Ev e11 e13) fun v15 => some (.inr v15)) (rec (IntKind.i64.wrap (y1 + 1)))) (some (.inl ()))) (some (.inl ()))
def Cw (a0 : List Int) (a1 : List Int) : Option (Int) := Ad (Ao (DZ a0 a1) fz 0) fun o1 => (match o1 with
  | .inl _ => (Ad (Ev (List.length a0 : Int) (List.length a1 : Int)) fun v17 => some v17)
  | .inr r => some r)
theorem Gf {a0 : List Int} {a1 : List Int} {r : Int} (h : Cw a0 a1 = some r) : Ai Tryz.prog 186 [dL As a0,dL As a1] (nI r) := by
 unfold Cw at h
 refine st jw rfl (rn 1 rfl (Ac fun K1 hK1 => rn 1 rfl ?_))
 obtain ⟨o1,hl,hr1⟩ := Aa h
 have kXB1 : (.inl ()) = o1 -> Jn K1 [(0,dL As a0),(1,dL As a1)] := by
  intro h σ' hk
  subst h
  replace h := hr1
  try dsimp only at h
  refine hK1 _ (lh hk rfl (rs (sp 4 rfl (?_))))
  obtain ⟨v17,g18,h⟩ := Aa h
  exact qC (qs rfl (qs rfl Ax)) (Kb g18) (sp 1 rfl (evn (Af ((by cases h; exact ⟨.inl rfl,rfl⟩)))))
 refine AB (fun (y1 : Int) => [(0,dL As a0),(1,dL As a1),(5,nI y1)]) _ _ _ _ hl (okr rfl) (fun _ => rfl) ?_
 rintro m y1 N h hN
 unfold DZ at h
 refine Ac fun K2 hK2 => rs (sp 5 rfl (?_))
 rcases Ab h with ⟨g3,h⟩ | ⟨g3,h⟩
 ·refine qg 10 g3 rfl (sp 5 rfl (evn ?_))
  rcases Ab h with ⟨g4,h⟩ | ⟨g4,h⟩
  ·refine qT rfl g4 (Ae (hK2 _ (Ac fun K5 hK5 => Az (rd (by kernel_rfl) (sd 2 rfl (?_))))))
   obtain ⟨e6,g7,h⟩ := Aa h
   refine ed rfl (qI rfl AM g7 (sd 3 rfl (?_)))
   obtain ⟨e8,g9,h⟩ := Aa h
   refine ed rfl (qI rfl AM g9 (sd 2 rfl (CK ?_)))
   rcases Ab h with ⟨g10,h⟩ | ⟨g10,h⟩
   ·refine qT rfl g10 (rd (by kernel_rfl) (sd 2 rfl (?_)))
    obtain ⟨e11,g12,h⟩ := Aa h
    refine ed rfl (qI rfl AM g12 (sd 3 rfl (?_)))
    obtain ⟨e13,g14,h⟩ := Aa h
    refine ed rfl (qI rfl AM g14 (sd 1 rfl (?_)))
    obtain ⟨v15,g16,h⟩ := Aa h
    exact ed rfl (qC (qs rfl (qs rfl Ax)) (Kb g16) (sd 1 rfl (CK (qk [4] rfl (Af ((by cases h; cases hr1; exact ⟨.inl rfl,rfl⟩)))))))
   ·exact qF rfl g10 (Ae (hK5 _ (rg (sp 3 rfl (evn (hN _ _ h (okr rfl)))))))
  ·exact qF rfl g4 (Aq (kXB1 (Option.some.inj h) _ (okr rfl)))
 ·exact qg 10 g3 rfl (sp 5 rfl (evn (qF rfl rfl (Aq (kXB1 (Option.some.inj h) _ (okr rfl))))))
def CU (rec : Int -> Option (Sum (Unit) (Bool))) (y1 : Int) (x13 : Bool) : Option (Sum (Unit) (Bool)) := cond x13 (some (.inr false)) (rec (IntKind.i64.wrap (y1 + 1)))
def Fd (a0 : Int) (a1 : List (List Int)) (rec : Int -> Option (Sum (Unit) (Bool))) (y1 : Int) : Option (Sum (Unit) (Bool)) := cond (decide (y1 < (List.length a1 : Int))) (Ad (AO a1 y1) fun e10 => cond ((List.length e10 : Int) != a0) (CU rec y1 true) (Ad (CM e10) fun v16 => cond (!v16) (CU rec y1 true) (cond (decide (0 < y1)) (Ad (AO a1 (IntKind.i64.wrap (y1 - 1))) fun e20 => Ad (Cw e20 e10) fun v22 => CU rec y1 (decide (0 <= v22))) (CU rec y1 false)))) (some (.inl ()))
def EV (a0 : Int) (a1 : List (List Int)) : Option (Bool) := Ad (CV a0 0 5) fun v2 => cond (!v2) (some false) (cond (decide (4000 < (List.length a1 : Int))) (some false) (Ad (Ao (Fd a0 a1) fz 0) fun o1 => (match o1 with
  | .inl _ => (some true)
  | .inr r => some r)))
theorem Lr {a0 : Int} {a1 : List (List Int)} {r : Bool} (h : EV a0 a1 = some r) : Ai Tryz.prog 156 [nI a0,dL AJ a1] (.bool r) := by
 unfold EV at h
 refine st iX rfl (rn 1 rfl (Ac fun K1 hK1 => rs (sp 1 rfl (?_))))
 obtain ⟨v2,g3,h⟩ := Aa h
 refine qC (qs rfl (qs rfl (qs rfl Ax))) (DK g3) (sp 2 rfl (?_))
 rcases Ab h with ⟨g4,h⟩ | ⟨g4,h⟩
 ·exact qg 10 g4 rfl (sp 4 rfl (evn (qT rfl rfl (rn 1 rfl (Af ((by cases h; exact ⟨.inl rfl,rfl⟩)))))))
 ·refine qg 10 g4 rfl (sp 4 rfl (evn ?_))
  rcases Ab h with ⟨g5,h⟩ | ⟨g5,h⟩
  ·exact qT rfl g5 (rn 1 rfl (Af ((by cases h; exact ⟨.inl rfl,rfl⟩))))
  ·refine qF rfl g5 (Ae (hK1 _ (Ac fun K6 hK6 => rn 1 rfl (qk [0,1,15,16,17] rfl ?_))))
   obtain ⟨o1,hl,hr1⟩ := Aa h
   have kXB1 : (.inl ()) = o1 -> Jn K6 [] := by
    intro h σ' hk
    subst h
    replace h := hr1
    try dsimp only at h
    exact hK6 _ (lh hk rfl (rn 1 rfl (Af ((by cases h; exact ⟨.inl rfl,rfl⟩)))))
   refine AB (fun (y1 : Int) => [(0,nI a0),(1,dL AJ a1),(15,dL AJ a1),(16,nI (List.length a1 : Int)),(17,nI y1)]) _ _ _ _ hl (okr rfl) (fun _ => rfl) ?_
   rintro m y1 N h hN
   unfold Fd at h
   refine rn 1 rfl (Ac fun K7 hK7 => ?_)
   rcases Ab h with ⟨g8,h⟩ | ⟨g8,h⟩
   ·refine qT rfl g8 (Ae (hK7 _ (Ac fun K9 hK9 => Az (rs (sp 1 rfl (?_))))))
    obtain ⟨e10,g11,h⟩ := Aa h
    refine qI rfl Br g11 (sp 3 rfl (evn (rk fun K12 hK12 => ?_)))
    have kJ2 : ∀ {x13 : Bool},CU (Ao (Fd a0 a1) m) y1 x13 = some o1 -> Jn K12 [(0,nI a0),(1,dL AJ a1),(15,dL AJ a1),(16,nI (List.length a1 : Int)),(17,nI y1),(44,.bool x13)] := by
     intro x13 h σ' hk
     unfold CU at h
     refine hK12 _ (lh hk rfl ?_)
     rcases Ab h with ⟨g14,h⟩ | ⟨g14,h⟩
     ·exact qT rfl g14 (rn 1 rfl (Af ((by cases h; cases hr1; exact ⟨.inl rfl,rfl⟩))))
     ·exact qF rfl g14 (Ae (hK9 _ (rg (sp 2 rfl (evn (hN _ _ h (okr rfl)))))))
    refine sp 5 rfl (?_)
    rcases Ab h with ⟨g15,h⟩ | ⟨g15,h⟩
    ·exact qg 26 g15 rfl (sp 18 rfl (evn (kJ2 h _ (okr rfl))))
    ·refine qg 26 g15 rfl (sp 1 rfl (?_))
     obtain ⟨v16,g17,h⟩ := Aa h
     refine oGR rfl rfl (qC (qa rfl (erD An _) Ax) (IC g17) (sp 3 rfl (?_)))
     rcases Ab h with ⟨g18,h⟩ | ⟨g18,h⟩
     ·exact qg 31 g18 rfl (sp 13 rfl (evn (kJ2 h _ (okr rfl))))
     ·refine qg 31 g18 rfl (sp 3 rfl (?_))
      rcases Ab h with ⟨g19,h⟩ | ⟨g19,h⟩
      ·refine qg 34 g19 rfl (sp 3 rfl (?_))
       obtain ⟨e20,g21,h⟩ := Aa h
       refine oGR rfl rfl (qI rfl Br g21 (sp 2 rfl (?_)))
       obtain ⟨v22,g23,h⟩ := Aa h
       exact oGR rfl rfl (qC (qa rfl (erD An _) (qa rfl (erD An _) Ax)) (Gf g23) (sp 3 rfl (evn (kJ2 h _ (okr rfl)))))
      ·exact qg 34 g19 rfl (sp 10 rfl (evn (kJ2 h _ (okr rfl))))
   ·exact qF rfl g8 (Aq (kXB1 (Option.some.inj h) _ trivial))
def AF (a0 : Y32) : Option (Bool) := Ad (EV a0.1 a0.2) fun v1 => some v1
theorem AN {a0 : Y32} {r : Bool} (h : AF a0 = some r) : Ai Tryz.prog 112 [.agg (Gs a0)] (.bool r) := by
 unfold AF at h
 refine st ij rfl (rn 1 rfl (rs (sp 4 rfl (?_))))
 obtain ⟨v1,g2,h⟩ := Aa h
 exact qC (qs rfl (qa rfl (erD Ar _) Ax)) (Lr g2) (sp 1 rfl (evn (Af ((by cases h; exact ⟨.inl rfl,rfl⟩)))))
def AP (rec : Int -> Option (Sum (Unit) (Bool))) (y1 : Int) (x10 : Bool) : Option (Sum (Unit) (Bool)) := cond x10 (some (.inr false)) (rec (IntKind.i64.wrap (y1 + 1)))
def Cf (a0 : List AU) (rec : Int -> Option (Sum (Unit) (Bool))) (y1 : Int) : Option (Sum (Unit) (Bool)) := cond (decide (y1 < (List.length a0 : Int))) (Ad (AO a0 y1) fun e7 => Ad (Et e7.1) fun v12 => cond (!v12) (AP rec y1 true) (cond (decide (0 < y1)) (Ad (AO a0 (IntKind.i64.wrap (y1 - 1))) fun e16 => cond (!Op.bytesLess e16.1 e7.1) (AP rec y1 true) (Ad (AF e7.2) fun v19 => cond (!v19) (AP rec y1 true) (cond (decide (e7.2.1 < 1)) (AP rec y1 true) (AP rec y1 (decide (16 < (List.length e7.2.2 : Int))))))) (Ad (AF e7.2) fun v23 => cond (!v23) (AP rec y1 true) (cond (decide (e7.2.1 < 1)) (AP rec y1 true) (AP rec y1 (decide (16 < (List.length e7.2.2 : Int)))))))) (some (.inl ()))
def A9 (a0 : List AU) : Option (Bool) := cond (decide (6 < (List.length a0 : Int))) (some false) (Ad (Ao (Cf a0) fz 0) fun o1 => (match o1 with
  | .inl _ => (some true)
  | .inr r => some r))
theorem CB {a0 : List AU} {r : Bool} (h : A9 a0 = some r) : Ai Tryz.prog 41 [.agg [dL At a0]] (.bool r) := by
 unfold A9 at h
 refine st nh rfl (rn 1 rfl (Ac fun K1 hK1 => rn 1 rfl ?_))
 rcases Ab h with ⟨g2,h⟩ | ⟨g2,h⟩
 ·exact qT rfl g2 (rn 1 rfl (Af ((by cases h; exact ⟨.inl rfl,rfl⟩))))
 ·refine qF rfl g2 (Ae (hK1 _ (Ac fun K3 hK3 => rn 1 rfl ?_)))
  obtain ⟨o1,hl,hr1⟩ := Aa h
  have kXB1 : (.inl ()) = o1 -> Jn K3 [] := by
   intro h σ' hk
   subst h
   replace h := hr1
   try dsimp only at h
   exact hK3 _ (lh hk rfl (rn 1 rfl (Af ((by cases h; exact ⟨.inl rfl,rfl⟩)))))
  refine AB (fun (y1 : Int) => [(1,.box [dL At a0]),(10,dL At a0),(11,nI (List.length a0 : Int)),(12,nI y1)]) _ _ _ _ hl (okr rfl) (fun _ => rfl) ?_
  rintro m y1 N h hN
  unfold Cf at h
  refine rn 1 rfl (Ac fun K4 hK4 => ?_)
  rcases Ab h with ⟨g5,h⟩ | ⟨g5,h⟩
  ·refine qT rfl g5 (Ae (hK4 _ (Ac fun K6 hK6 => Az (rs (sp 1 rfl (?_))))))
   obtain ⟨e7,g8,h⟩ := Aa h
   refine qI rfl Cz g8 (sp 4 rfl (evn (rdk (by kernel_rfl) fun K9 hK9 => ?_)))
   have kJ2 : ∀ {x10 : Bool},AP (Ao (Cf a0) m) y1 x10 = some o1 -> Jn K9 [(1,.box [dL At a0]),(10,dL At a0),(11,nI (List.length a0 : Int)),(12,nI y1),(55,.bool x10)] := by
    intro x10 h σ' hk
    unfold AP at h
    refine hK9 _ (lh hk rfl ?_)
    rcases Ab h with ⟨g11,h⟩ | ⟨g11,h⟩
    ·exact qT rfl g11 (rn 1 rfl (Af ((by cases h; cases hr1; exact ⟨.inl rfl,rfl⟩))))
    ·exact qF rfl g11 (Ae (hK6 _ (rg (sp 2 rfl (evn (hN _ _ h (okr rfl)))))))
   refine sd 2 rfl (?_)
   obtain ⟨v12,g13,h⟩ := Aa h
   refine ed rfl (qC (qs rfl Ax) (J9 g13) (sd 2 rfl (?_)))
   rcases Ab h with ⟨g14,h⟩ | ⟨g14,h⟩
   ·exact qgd 21 g14 rfl (sd 34 rfl (CK (kJ2 h _ (okr rfl))))
   ·refine qgd 21 g14 rfl (sd 3 rfl (?_))
    rcases Ab h with ⟨g15,h⟩ | ⟨g15,h⟩
    ·refine qgd 24 g15 rfl (sd 4 rfl (?_))
     obtain ⟨e16,g17,h⟩ := Aa h
     refine ed rfl (oGR rfl rfl (qI rfl Cz g17 (sd 8 rfl (?_))))
     rcases Ab h with ⟨g18,h⟩ | ⟨g18,h⟩
     ·exact qgd 37 g18 rfl (sd 18 rfl (CK (kJ2 h _ (okr rfl))))
     ·refine qgd 37 g18 rfl (sd 2 rfl (?_))
      obtain ⟨v19,g20,h⟩ := Aa h
      refine ed rfl (oGR rfl rfl (qC (qa rfl (erg (erc rfl (erc (erD Ar _) rfl))) Ax) (AN g20) (sd 3 rfl (?_))))
      rcases Ab h with ⟨g21,h⟩ | ⟨g21,h⟩
      ·exact qgd 43 g21 rfl (sd 12 rfl (CK (kJ2 h _ (okr rfl))))
      ·refine qgd 43 g21 rfl (sd 6 rfl (?_))
       rcases Ab h with ⟨g22,h⟩ | ⟨g22,h⟩
       ·exact qgd 49 g22 rfl (sd 6 rfl (CK (kJ2 h _ (okr rfl))))
       ·exact qgd 49 g22 rfl (sd 6 rfl (CK (kJ2 h _ (okr rfl))))
    ·refine qgd 24 g15 rfl (sd 15 rfl (?_))
     obtain ⟨v23,g24,h⟩ := Aa h
     refine ed rfl (oGR rfl rfl (qC (qa rfl (erg (erc rfl (erc (erD Ar _) rfl))) Ax) (AN g24) (sd 3 rfl (?_))))
     rcases Ab h with ⟨g25,h⟩ | ⟨g25,h⟩
     ·exact qgd 43 g25 rfl (sd 12 rfl (CK (kJ2 h _ (okr rfl))))
     ·refine qgd 43 g25 rfl (sd 6 rfl (?_))
      rcases Ab h with ⟨g26,h⟩ | ⟨g26,h⟩
      ·exact qgd 49 g26 rfl (sd 6 rfl (CK (kJ2 h _ (okr rfl))))
      ·exact qgd 49 g26 rfl (sd 6 rfl (CK (kJ2 h _ (okr rfl))))
  ·exact qF rfl g5 (Aq (kXB1 (Option.some.inj h) _ trivial))
def Hg (a0 : List Int) (a1 : List Int) (rec : Int -> Option (Sum (Unit) (Bool))) (y1 : Int) : Option (Sum (Unit) (Bool)) := cond (decide (y1 < (List.length a0 : Int))) (Ad (AO a0 y1) fun e7 => Ad (AO a1 y1) fun e9 => cond (e7 != e9) (some (.inr false)) (rec (IntKind.i64.wrap (y1 + 1)))) (some (.inl ()))
def GS (a0 : List Int) (a1 : List Int) : Option (Bool) := cond ((List.length a0 : Int) != (List.length a1 : Int)) (some false) (Ad (Ao (Hg a0 a1) fz 0) fun o1 => (match o1 with
  | .inl _ => (some true)
  | .inr r => some r))
theorem LP {a0 : List Int} {a1 : List Int} {r : Bool} (h : GS a0 a1 = some r) : Ai Tryz.prog 114 [dL As a0,dL As a1] (.bool r) := by
 unfold GS at h
 refine st il rfl (rn 1 rfl (Ac fun K1 hK1 => rn 1 rfl ?_))
 rcases Ab h with ⟨g2,h⟩ | ⟨g2,h⟩
 ·exact qT rfl g2 (rn 1 rfl (Af ((by cases h; exact ⟨.inl rfl,rfl⟩))))
 ·refine qF rfl g2 (Ae (hK1 _ (Ac fun K3 hK3 => rn 1 rfl ?_)))
  obtain ⟨o1,hl,hr1⟩ := Aa h
  have kXB1 : (.inl ()) = o1 -> Jn K3 [] := by
   intro h σ' hk
   subst h
   replace h := hr1
   try dsimp only at h
   exact hK3 _ (lh hk rfl (rn 1 rfl (Af ((by cases h; exact ⟨.inl rfl,rfl⟩)))))
  refine AB (fun (y1 : Int) => [(0,dL As a0),(1,dL As a1),(12,nI (List.length a0 : Int)),(13,nI y1)]) _ _ _ _ hl (okr rfl) (fun _ => rfl) ?_
  rintro m y1 N h hN
  unfold Hg at h
  refine rn 1 rfl (Ac fun K4 hK4 => ?_)
  rcases Ab h with ⟨g5,h⟩ | ⟨g5,h⟩
  ·refine qT rfl g5 (Ae (hK4 _ (Ac fun K6 hK6 => Az (rn 1 rfl (rd (by kernel_rfl) (sd 2 rfl (?_)))))))
   obtain ⟨e7,g8,h⟩ := Aa h
   refine ed rfl (qI rfl AM g8 (sd 3 rfl (?_)))
   obtain ⟨e9,g10,h⟩ := Aa h
   refine ed rfl (qI rfl AM g10 (sd 2 rfl (CK ?_)))
   rcases Ab h with ⟨g11,h⟩ | ⟨g11,h⟩
   ·exact qT rfl g11 (rn 1 rfl (Af ((by cases h; cases hr1; exact ⟨.inl rfl,rfl⟩))))
   ·exact qF rfl g11 (Ae (hK6 _ (rg (sp 2 rfl (evn (hN _ _ h (okr rfl)))))))
  ·exact qF rfl g5 (Aq (kXB1 (Option.some.inj h) _ trivial))
def Hh (a0 : List (List Int)) (a1 : List (List Int)) (rec : Int -> Option (Sum (Unit) (Bool))) (y1 : Int) : Option (Sum (Unit) (Bool)) := cond (decide (y1 < (List.length a0 : Int))) (Ad (AO a0 y1) fun e7 => Ad (AO a1 y1) fun e9 => Ad (GS e7 e9) fun v11 => cond (!v11) (some (.inr false)) (rec (IntKind.i64.wrap (y1 + 1)))) (some (.inl ()))
def HM (a0 : List (List Int)) (a1 : List (List Int)) : Option (Bool) := cond ((List.length a0 : Int) != (List.length a1 : Int)) (some false) (Ad (Ao (Hh a0 a1) fz 0) fun o1 => (match o1 with
  | .inl _ => (some true)
  | .inr r => some r))
theorem P9 {a0 : List (List Int)} {a1 : List (List Int)} {r : Bool} (h : HM a0 a1 = some r) : Ai Tryz.prog 113 [dL AJ a0,dL AJ a1] (.bool r) := by
 unfold HM at h
 refine st ik rfl (rn 1 rfl (Ac fun K1 hK1 => rn 1 rfl ?_))
 rcases Ab h with ⟨g2,h⟩ | ⟨g2,h⟩
 ·exact qT rfl g2 (rn 1 rfl (Af ((by cases h; exact ⟨.inl rfl,rfl⟩))))
 ·refine qF rfl g2 (Ae (hK1 _ (Ac fun K3 hK3 => rn 1 rfl ?_)))
  obtain ⟨o1,hl,hr1⟩ := Aa h
  have kXB1 : (.inl ()) = o1 -> Jn K3 [] := by
   intro h σ' hk
   subst h
   replace h := hr1
   try dsimp only at h
   exact hK3 _ (lh hk rfl (rn 1 rfl (Af ((by cases h; exact ⟨.inl rfl,rfl⟩)))))
  refine AB (fun (y1 : Int) => [(0,dL AJ a0),(1,dL AJ a1),(12,nI (List.length a0 : Int)),(13,nI y1)]) _ _ _ _ hl (okr rfl) (fun _ => rfl) ?_
  rintro m y1 N h hN
  unfold Hh at h
  refine rn 1 rfl (Ac fun K4 hK4 => ?_)
  rcases Ab h with ⟨g5,h⟩ | ⟨g5,h⟩
  ·refine qT rfl g5 (Ae (hK4 _ (Ac fun K6 hK6 => Az (rn 1 rfl (rd (by kernel_rfl) (sd 2 rfl (?_)))))))
   obtain ⟨e7,g8,h⟩ := Aa h
   refine ed rfl (qI rfl Br g8 (sd 3 rfl (?_)))
   obtain ⟨e9,g10,h⟩ := Aa h
   refine ed rfl (qI rfl Br g10 (sd 1 rfl (?_)))
   obtain ⟨v11,g12,h⟩ := Aa h
   refine ed rfl (qC (qa rfl (erD An _) (qa rfl (erD An _) Ax)) (LP g12) (sd 1 rfl (CK ?_)))
   rcases Ab h with ⟨g13,h⟩ | ⟨g13,h⟩
   ·exact qT rfl g13 (rn 1 rfl (Af ((by cases h; cases hr1; exact ⟨.inl rfl,rfl⟩))))
   ·exact qF rfl g13 (Ae (hK6 _ (rg (sp 2 rfl (evn (hN _ _ h (okr rfl)))))))
  ·exact qF rfl g5 (Aq (kXB1 (Option.some.inj h) _ trivial))
def Cq (x2 : Bool) : Option (Bool) := some x2
def DT (a0 : Y43) (a1 : Y43) : Option (Bool) := cond (a0.1 == a1.1) (Ad (HM a0.2.1 a1.2.1) fun v4 => cond v4 (Ad (GS a0.2.2 a1.2.2) fun v7 => Cq v7) (Cq false)) (Cq false)
theorem Jy {a0 : Y43} {a1 : Y43} {r : Bool} (h : DT a0 a1 = some r) : Ai Tryz.prog 43 [.agg (Bf a0),.agg (Bf a1)] (.bool r) := by
 unfold DT at h
 refine st nj rfl (rn 1 rfl (rk fun K1 hK1 => ?_))
 have kJ1 : ∀ {x2 : Bool},Cq x2 = some r -> Jn K1 [(4,.bool x2)] := by
  intro x2 h σ' hk
  unfold Cq at h
  exact hK1 _ (lh hk rfl (Af ((by cases h; exact ⟨.inl rfl,rfl⟩))))
 refine sp 6 rfl (?_)
 rcases Ab h with ⟨g3,h⟩ | ⟨g3,h⟩
 ·refine qg 10 g3 rfl (sp 4 rfl (?_))
  obtain ⟨v4,g5,h⟩ := Aa h
  refine oGR rfl rfl (qC (qa rfl (erD Ar _) (qa rfl (erD Ar _) Ax)) (P9 g5) (sp 2 rfl (?_)))
  rcases Ab h with ⟨g6,h⟩ | ⟨g6,h⟩
  ·refine qg 17 g6 rfl (sp 4 rfl (?_))
   obtain ⟨v7,g8,h⟩ := Aa h
   exact oGR rfl rfl (qC (qa rfl (erD An _) (qa rfl (erD An _) Ax)) (LP g8) (sp 2 rfl (evn (kJ1 h _ (okr rfl)))))
  ·exact qg 17 g6 rfl (sp 7 rfl (evn (kJ1 h _ (okr rfl))))
 ·exact qg 10 g3 rfl (sp 14 rfl (evn (kJ1 h _ (okr rfl))))
def A5 (a0 : List Int) : Option ((List Int)) := chk (List.length ([] : List Int) + List.length a0 <= lim) (some (([] : List Int) ++ a0))
theorem BE {a0 : List Int} {r : (List Int)} (h : A5 a0 = some r) : Ai Tryz.prog 149 [dL As a0] (oL 3 As r) := by
 unfold A5 at h
 refine st iQ rfl (rn 1 rfl (rs (qBs As [] rfl rfl rfl AM (sp 1 rfl (?_)))))
 obtain ⟨g1,h⟩ := Aj h
 exact qA As ([] : List Int) a0 rfl rfl (Av AM a0) (HQ (fun _ => rfl) _) g1 (sp 1 rfl (evn (Af ((by cases h; exact ⟨.inl rfl,rfl⟩)))))
def GQ (a0 : Y51) (rec : ((List CA) × Int) -> Option ((List CA))) (s : (List CA) × Int) : Option ((List CA)) := match s with
  | (y1,y2) => cond (decide (y2 < (List.length a0.2.1 : Int))) (Ad (AO a0.2.1 y2) fun e8 => Ad (A5 e8.2) fun v10 => chk (List.length y1 + List.length [(e8.1,v10)] <= lim) (rec ((y1 ++ [(e8.1,v10)]),(IntKind.i64.wrap (y2 + 1))))) (some y1)
def EU (a0 : Y51) : Option (Y51) := Ad (A5 a0.2.2) fun v1 => Ad (Ao (GQ a0) fz (([] : List CA),0)) fun z4 => some (a0.1,z4,v1)
theorem IX {a0 : Y51} {r : Y51} (h : EU a0 = some r) : Ai Tryz.prog 97 [.agg (Gt a0)] (.agg (PI r)) := by
 unfold EU at h
 refine st nX rfl (rn 1 rfl (rd (by kernel_rfl) (sd 4 rfl (?_))))
 obtain ⟨v1,g2,h⟩ := Aa h
 refine ed rfl (qC (qa rfl (erD An _) Ax) (BE g2) (sd 3 rfl (CK (Ac fun K3 hK3 => rn 1 rfl ?_))))
 obtain ⟨o1,hl,hr1⟩ := Aa h
 have kXB1 : ∀ {z4 : List CA},z4 = o1 -> Jn K3 [(2,.box [nI 0,oL 146 Bk [],oL 3 As []]),(3,.box [nI a0.1,oL 146 Bk z4,oL 3 As v1])] := by
  intro z4 h σ' hk
  subst h
  replace h := hr1
  try dsimp only at h
  exact hK3 _ (lh hk rfl (rn 1 rfl (Af ((by cases h; exact ⟨.inl rfl,rfl⟩)))))
 refine AB (fun (s : (List CA) × Int) => match s with | (y1,y2) => [(2,.box [nI 0,oL 146 Bk [],oL 3 As []]),(3,.box [nI a0.1,oL 146 Bk y1,oL 3 As v1]),(13,dL Bc a0.2.1),(14,nI (List.length a0.2.1 : Int)),(15,nI y2)]) _ _ _ _ hl (okr rfl) (fun _ => rfl) ?_
 rintro m ⟨y1,y2⟩ N h hN
 unfold GQ at h
 dsimp only at h
 refine rn 1 rfl (Ac fun K5 hK5 => ?_)
 rcases Ab h with ⟨g6,h⟩ | ⟨g6,h⟩
 ·refine qT rfl g6 (Ae (hK5 _ (Ac fun K7 hK7 => Az (rs ?_))))
  obtain ⟨e8,g9,h⟩ := Aa h
  refine qI rfl GN g9 (sp 3 rfl (evn (rgd (by kernel_rfl) (sd 6 rfl (?_)))))
  obtain ⟨v10,g11,h⟩ := Aa h
  refine ed rfl (qC (qa rfl (erD An _) Ax) (BE g11) (sd 1 rfl (ed rfl (qBs Bk [(e8.1,v10)] rfl rfl rfl Mc (?_)))))
  obtain ⟨g12,h⟩ := Aj h
  exact ed rfl (qA Bk y1 [(e8.1,v10)] rfl rfl (Av Mc [(e8.1,v10)]) rfl g12 (sd 2 rfl (CK (hK7 _ (rg (sp 2 rfl (evn (hN _ _ h (okr rfl)))))))))
 ·exact qF rfl g6 (Aq (kXB1 (Option.some.inj h) _ (okr rfl)))
def Hf (a0 : List (List Int)) (rec : ((List (List Int)) × Int) -> Option ((List (List Int)))) (s : (List (List Int)) × Int) : Option ((List (List Int))) := match s with
  | (y1,y2) => cond (decide (y2 < (List.length a0 : Int))) (Ad (AO a0 y2) fun e6 => Ad (A5 e6) fun v8 => chk (List.length y1 + List.length [v8] <= lim) (rec ((y1 ++ [v8]),(IntKind.i64.wrap (y2 + 1))))) (some y1)
def DJ (a0 : List (List Int)) : Option ((List (List Int))) := Ad (Ao (Hf a0) fz (([] : List (List Int)),0)) fun z2 => some z2
theorem Gx {a0 : List (List Int)} {r : (List (List Int))} (h : DJ a0 = some r) : Ai Tryz.prog 152 [dL AJ a0] (oL 42 Ah r) := by
 unfold DJ at h
 refine st iT rfl (rn 2 rfl (Ac fun K1 hK1 => rn 1 rfl ?_))
 obtain ⟨o1,hl,hr1⟩ := Aa h
 have kXB1 : ∀ {z2 : List (List Int)},z2 = o1 -> Jn K1 [(3,oL 42 Ah z2)] := by
  intro z2 h σ' hk
  subst h
  replace h := hr1
  try dsimp only at h
  exact hK1 _ (lh hk rfl (rn 1 rfl (Af ((by cases h; exact ⟨.inl rfl,rfl⟩)))))
 refine AB (fun (s : (List (List Int)) × Int) => match s with | (y1,y2) => [(3,oL 42 Ah y1),(6,dL AJ a0),(7,nI (List.length a0 : Int)),(8,nI y2)]) _ _ _ _ hl (okr rfl) (fun _ => rfl) ?_
 rintro m ⟨y1,y2⟩ N h hN
 unfold Hf at h
 dsimp only at h
 refine rn 1 rfl (Ac fun K3 hK3 => ?_)
 rcases Ab h with ⟨g4,h⟩ | ⟨g4,h⟩
 ·refine qT rfl g4 (Ae (hK3 _ (Ac fun K5 hK5 => Az (rs ?_))))
  obtain ⟨e6,g7,h⟩ := Aa h
  refine qI rfl Br g7 (sp 2 rfl (evn (rg (sp 2 rfl (?_)))))
  obtain ⟨v8,g9,h⟩ := Aa h
  refine qC (qa rfl (erD An _) Ax) (BE g9) (qBs Ah [v8] rfl rfl rfl A8 (?_))
  obtain ⟨g10,h⟩ := Aj h
  exact qA Ah y1 [v8] rfl rfl (Av A8 [v8]) rfl g10 (sp 1 rfl (evn (hK5 _ (rg (sp 2 rfl (evn (hN _ _ h (okr rfl))))))))
 ·exact qF rfl g4 (Aq (kXB1 (Option.some.inj h) _ (okr rfl)))
def EW (rec : ((List (Nat × (List Int))) × (List (Nat × (List Int))) × (List (Nat × (List Int)))) -> Option ((List (Nat × (List Int))))) (y2 : List (Nat × (List Int))) (x20 : List (Nat × (List Int))) (x24 : List (Nat × (List Int))) : Option ((List (Nat × (List Int)))) := chk ((0 : Int) <= 1 ∧ 1 <= (List.length y2 : Int) ∧ (List.length y2 : Int) <= (List.length y2 : Int)) (rec (x20,(Ey y2 1 (List.length y2 : Int)),x24))
def C6 (rec : ((List (Nat × (List Int))) × (List (Nat × (List Int))) × (List (Nat × (List Int)))) -> Option ((List (Nat × (List Int))))) (y2 : List (Nat × (List Int))) (x18 : Int) (x20 : List (Nat × (List Int))) (x21 : List (Nat × (List Int))) : Option ((List (Nat × (List Int)))) := cond (decide (0 <= x18)) (cond (decide (0 < x18)) (Ad (AO y2 0) fun e27 => chk (List.length x21 + List.length [e27] <= lim) (EW rec y2 x20 (x21 ++ [e27]))) (EW rec y2 x20 x21)) (rec (x20,y2,x21))
def Cd (rec : ((List (Nat × (List Int))) × (List (Nat × (List Int))) × (List (Nat × (List Int)))) -> Option ((List (Nat × (List Int))))) (y1 : List (Nat × (List Int))) (y2 : List (Nat × (List Int))) (y3 : List (Nat × (List Int))) (x18 : Int) : Option ((List (Nat × (List Int)))) := cond (decide (x18 <= 0)) (Ad (AO y1 0) fun e31 => chk (List.length y3 + List.length [e31] <= lim) (chk ((0 : Int) <= 1 ∧ 1 <= (List.length y1 : Int) ∧ (List.length y1 : Int) <= (List.length y1 : Int)) (C6 rec y2 x18 (Ey y1 1 (List.length y1 : Int)) (y3 ++ [e31])))) (C6 rec y2 x18 y1 y3)
def C5 (rec : ((List (Nat × (List Int))) × (List (Nat × (List Int))) × (List (Nat × (List Int)))) -> Option ((List (Nat × (List Int))))) (y1 : List (Nat × (List Int))) (y2 : List (Nat × (List Int))) (y3 : List (Nat × (List Int))) (x15 : Bool) : Option ((List (Nat × (List Int)))) := cond x15 (cond ((List.length y1 : Int) == 0) (Cd rec y1 y2 y3 1) (cond (decide (0 < (List.length y2 : Int))) (Ad (AO y1 0) fun e37 => Ad (AO y2 0) fun e39 => Ad (Cw e37.2 e39.2) fun v41 => Cd rec y1 y2 y3 v41) (Cd rec y1 y2 y3 (-1)))) (some y3)
def Bo  (rec : ((List (Nat × (List Int))) × (List (Nat × (List Int))) × (List (Nat × (List Int)))) -> Option ((List (Nat × (List Int))))) (s : (List (Nat × (List Int))) × (List (Nat × (List Int))) × (List (Nat × (List Int)))) : Option ((List (Nat × (List Int)))) := match s with
  | (y1,y2,y3) => cond (decide (0 < (List.length y1 : Int))) (C5 rec y1 y2 y3 true) (C5 rec y1 y2 y3 (decide (0 < (List.length y2 : Int))))
def EF (rec : ((List (List Int))) -> Option ((List (List Int)))) (a0 : (List (List Int))) : Option ((List (List Int))) := cond (decide ((List.length a0 : Int) < 2)) (Ad (DJ a0) fun v3 => some v3) (chk ((0 : Int) <= 0 ∧ 0 <= IntKind.i64.wrap (Int.tdiv (List.length a0 : Int) 2) ∧ IntKind.i64.wrap (Int.tdiv (List.length a0 : Int) 2) <= (List.length a0 : Int)) (Ad (rec (Ey a0 0 (IntKind.i64.wrap (Int.tdiv (List.length a0 : Int) 2)))) fun v6 => chk ((0 : Int) <= IntKind.i64.wrap (Int.tdiv (List.length a0 : Int) 2) ∧ IntKind.i64.wrap (Int.tdiv (List.length a0 : Int) 2) <= (List.length a0 : Int) ∧ (List.length a0 : Int) <= (List.length a0 : Int)) (Ad (rec (Ey a0 (IntKind.i64.wrap (Int.tdiv (List.length a0 : Int) 2)) (List.length a0 : Int))) fun v9 => Ad (Ao Bo fz ((AC 0 v6),(AC (List.length v6) v9),([] : List (Nat × (List Int))))) fun z12 => chk (okJ (v6 ++ v9) (List.map Sum.inl z12) [] = true) (some (List.map getM (List.map Sum.inl z12))))))
def JB (a0 : List (List Int)) : Option ((List (List Int))) := Ao EF fz a0
theorem Le {a0 : List (List Int)} {r : (List (List Int))} (h : JB a0 = some r) : Ai Tryz.prog 179 [dL AJ a0] (oL 42 Ah r) := by
 suffices key : ∀ mF (a0 : List (List Int)) (r : (List (List Int))),Ao EF mF a0 = some r -> Ai Tryz.prog 179 [dL AJ a0] (oL 42 Ah r) from key fz a0 r h
 intro mF
 induction mF with
 | zero => intro a0 r h; cases h
 | succ mF ih0 =>
  intro a0 r h
  have ih : ∀ {a0 : List (List Int)} {r : (List (List Int))},Ao EF mF a0 = some r -> Ai Tryz.prog 179 [dL AJ a0] (oL 42 Ah r) := fun h => ih0 _ _ h
  change EF (Ao EF mF) a0 = some r at h
  unfold EF at h
  try dsimp only at h
  refine st jp rfl (rn 1 rfl (Ac fun K1 hK1 => rn 1 rfl ?_))
  rcases Ab h with ⟨g2,h⟩ | ⟨g2,h⟩
  ·refine qT rfl g2 (rs (sp 1 rfl (?_)))
   obtain ⟨v3,g4,h⟩ := Aa h
   exact qC (qa rfl (erD Ar _) Ax) (Gx g4) (sp 1 rfl (evn (Af ((by cases h; exact ⟨.inl rfl,rfl⟩)))))
  ·refine qF rfl g2 (Ae (hK1 _ (rn 1 rfl (rd (by kernel_rfl) (sd 2 rfl (?_))))))
   obtain ⟨g5,h⟩ := Aj h
   refine ed rfl (qSl rfl Br g5 (?_))
   obtain ⟨v6,g7,h⟩ := Aa h
   refine ed rfl (qC (qa rfl (erD Ar _) Ax) (ih g7) (sd 2 rfl (?_)))
   obtain ⟨g8,h⟩ := Aj h
   refine ed rfl (qSl rfl Br g8 (?_))
   obtain ⟨v9,g10,h⟩ := Aa h
   refine ed rfl (qC (qa rfl (erD Ar _) Ax) (ih g10) (sd 2 rfl (CK (qk [4,5] rfl (XV (f := Ah) (s1 := 4) (s2 := 5) (g1 := 900001) (g2 := 900002) rfl rfl rfl rfl ⟨by decide,by decide,by decide,by decide,by decide,by decide⟩ (TJ (fun _ => rfl)) (TJ (fun _ => rfl)) (fun _ => rfl) (fun _ => rfl) (fun _ => rfl) (fun _ => rfl) ?_)))))
   intro U us1 us2 hu1 hu2 hU
   refine kp [(4,oL 42 (pE Ah U) (AC 0 v6)),(5,oL 42 (pE Ah U) (AC (List.length v6) v9)),(900001,.gh us1 (List.map (fun x => Kv (Ah x)) v6)),(900002,.gh us2 (List.map (fun x => Kv (Ah x)) v9))] rfl rfl (rn 1 rfl (Ac fun K11 hK11 => ?_))
   obtain ⟨o1,hl,hr1⟩ := Aa h
   have kXB1 : ∀ {z12 : List (Nat × (List Int))},z12 = o1 -> Jn K11 [(6,oL 42 (pE Ah U) z12),(900001,.gh us1 (List.map (fun x => Kv (Ah x)) v6)),(900002,.gh us2 (List.map (fun x => Kv (Ah x)) v9))] := by
    intro z12 h σ' hk
    subst h
    replace h := hr1
    try dsimp only at h
    refine hK11 _ (lh hk rfl (qk [6,900001,900002] rfl ?_))
    obtain ⟨g44,h⟩ := Aj h
    exact ac (g1 := 900001) (g2 := 900002) rfl rfl (by decide) (aa (f := Ah) (s := 6) (q := 900001) (l := v6 ++ v9) (U := U) (L := List.map Sum.inl z12) d9 rfl List.map_append.symm (by decide) (ZX (fun _ => rfl)) hU g44 rfl rfl (kp [(6,oL 42 Ah (List.map getM (List.map Sum.inl z12)))] rfl rfl (rn 1 rfl (Af ((by cases h; exact ⟨.inl rfl,rfl⟩))))))
   refine AB (fun (s : (List (Nat × (List Int))) × (List (Nat × (List Int))) × (List (Nat × (List Int)))) => match s with | (y1,y2,y3) => [(4,dL (pE Ah U) y1),(5,dL (pE Ah U) y2),(6,oL 42 (pE Ah U) y3),(900001,.gh us1 (List.map (fun x => Kv (Ah x)) v6)),(900002,.gh us2 (List.map (fun x => Kv (Ah x)) v9))]) _ _ _ _ hl ⟨(kd rfl rfl),(kd rfl rfl),kr,kr,kr,trivial⟩ (fun _ => rfl) ?_
   rintro m ⟨y1,y2,y3⟩ N h hN
   unfold Bo at h
   dsimp only at h
   refine Ac fun K13 hK13 => rk fun K14 hK14 => ?_
   have kJ2 : ∀ {x15 : Bool},C5 (Ao Bo m) y1 y2 y3 x15 = some o1 -> Jn K14 [(4,dL (pE Ah U) y1),(5,dL (pE Ah U) y2),(6,oL 42 (pE Ah U) y3),(31,.bool x15),(900001,.gh us1 (List.map (fun x => Kv (Ah x)) v6)),(900002,.gh us2 (List.map (fun x => Kv (Ah x)) v9))] := by
    intro x15 h σ' hk
    unfold C5 at h
    refine hK14 _ (lh hk rfl ?_)
    rcases Ab h with ⟨g16,h⟩ | ⟨g16,h⟩
    ·refine qT rfl g16 (Ae (hK13 _ (Az (rn 1 rfl (Ac fun K17 hK17 => rn 1 rfl ?_)))))
     have kJ3 : ∀ {x18 : Int},Cd (Ao Bo m) y1 y2 y3 x18 = some o1 -> Jn K17 [(4,dL (pE Ah U) y1),(5,dL (pE Ah U) y2),(6,oL 42 (pE Ah U) y3),(7,nI x18),(900001,.gh us1 (List.map (fun x => Kv (Ah x)) v6)),(900002,.gh us2 (List.map (fun x => Kv (Ah x)) v9))] := by
      intro x18 h σ' hk
      unfold Cd at h
      refine hK17 _ (lh hk rfl (Ac fun K19 hK19 => rn 1 rfl ?_))
      have kJ4 : ∀ {x20 : List (Nat × (List Int))} {x21 : List (Nat × (List Int))},C6 (Ao Bo m) y2 x18 x20 x21 = some o1 -> Jn K19 [(4,dL (pE Ah U) x20),(5,dL (pE Ah U) y2),(6,oL 42 (pE Ah U) x21),(7,nI x18),(900001,.gh us1 (List.map (fun x => Kv (Ah x)) v6)),(900002,.gh us2 (List.map (fun x => Kv (Ah x)) v9))] := by
       intro x20 x21 h σ' hk
       unfold C6 at h
       refine hK19 _ (lh hk rfl (rn 1 rfl ?_))
       rcases Ab h with ⟨g22,h⟩ | ⟨g22,h⟩
       ·refine qT rfl g22 (Ac fun K23 hK23 => rn 1 rfl ?_)
        have kJ5 : ∀ {x24 : List (Nat × (List Int))},EW (Ao Bo m) y2 x20 x24 = some o1 -> Jn K23 [(4,dL (pE Ah U) x20),(5,dL (pE Ah U) y2),(6,oL 42 (pE Ah U) x24),(900001,.gh us1 (List.map (fun x => Kv (Ah x)) v6)),(900002,.gh us2 (List.map (fun x => Kv (Ah x)) v9))] := by
         intro x24 h σ' hk
         unfold EW at h
         refine hK23 _ (lh hk rfl (rg (sp 1 rfl (?_))))
         obtain ⟨g25,h⟩ := Aj h
         exact qSl rfl (zpE A8) g25 (sp 1 rfl (evn (hN _ _ h (okr rfl))))
        rcases Ab h with ⟨g26,h⟩ | ⟨g26,h⟩
        ·refine qT rfl g26 (rg (sp 2 rfl (?_)))
         obtain ⟨e27,g28,h⟩ := Aa h
         refine qI rfl (zpE A8) g28 (sp 1 rfl (qBs (pE Ah U) [e27] rfl rfl rfl (zpE A8) (?_)))
         obtain ⟨g29,h⟩ := Aj h
         exact qA (pE Ah U) x21 [e27] rfl rfl (Av (zpE A8) [e27]) rfl g29 (sp 1 rfl (evn (kJ5 h _ (okr rfl))))
        ·exact qF rfl g26 (Ae (kJ5 h _ (okr rfl)))
       ·exact qF rfl g22 (Ae (hN _ _ h (okr rfl)))
      rcases Ab h with ⟨g30,h⟩ | ⟨g30,h⟩
      ·refine qT rfl g30 (rs (sp 2 rfl (?_)))
       obtain ⟨e31,g32,h⟩ := Aa h
       refine qI rfl (zpE A8) g32 (sp 1 rfl (qBs (pE Ah U) [e31] rfl rfl rfl (zpE A8) (?_)))
       obtain ⟨g33,h⟩ := Aj h
       refine qA (pE Ah U) y3 [e31] rfl rfl (Av (zpE A8) [e31]) rfl g33 (sp 1 rfl (evn (rg (sp 1 rfl (?_)))))
       obtain ⟨g34,h⟩ := Aj h
       exact qSl rfl (zpE A8) g34 (sp 1 rfl (evn (kJ4 h _ (okr rfl))))
      ·exact qF rfl g30 (Ae (kJ4 h _ (okr rfl)))
     rcases Ab h with ⟨g35,h⟩ | ⟨g35,h⟩
     ·exact qT rfl g35 (rg (sp 1 rfl (evn (kJ3 h _ (okr rfl)))))
     ·refine qF rfl g35 (rn 1 rfl (qk [4,5,6,7,37,900001,900002] rfl ?_))
      rcases Ab h with ⟨g36,h⟩ | ⟨g36,h⟩
      ·refine qT rfl g36 (rgd (by kernel_rfl) (sd 1 rfl (?_)))
       obtain ⟨e37,g38,h⟩ := Aa h
       refine ed rfl (qI rfl (zpE A8) g38 (sd 2 rfl (?_)))
       obtain ⟨e39,g40,h⟩ := Aa h
       refine ed rfl (qI rfl (zpE A8) g40 (sd 1 rfl (?_)))
       obtain ⟨v41,g42,h⟩ := Aa h
       exact ed rfl (qC (qa rfl (erP An An _) (qa rfl (erP An An _) Ax)) (Gf g42) (sd 1 rfl (CK (kJ3 h _ (okr rfl)))))
      ·exact qF rfl g36 (Ae (kJ3 h _ (okr rfl)))
    ·exact qF rfl g16 (Aq (kXB1 (Option.some.inj h) _ (okr rfl)))
   refine sp 4 rfl (?_)
   rcases Ab h with ⟨g43,h⟩ | ⟨g43,h⟩
   ·exact qg 27 g43 rfl (sp 4 rfl (evn (kJ2 h _ (okr rfl))))
   ·exact qg 27 g43 rfl (sp 4 rfl (evn (kJ2 h _ (okr rfl))))
def CT (a0 : Y32) : Option (Y32) := Ad (DJ a0.2) fun v1 => some (a0.1,v1)
theorem Hn {a0 : Y32} {r : Y32} (h : CT a0 = some r) : Ai Tryz.prog 150 [.agg (Gs a0)] (.agg (Ez r)) := by
 unfold CT at h
 refine st iR rfl (rn 1 rfl (rd (by kernel_rfl) (sd 4 rfl (?_))))
 obtain ⟨v1,g2,h⟩ := Aa h
 exact ed rfl (qC (qa rfl (erD Ar _) Ax) (Gx g2) (sd 2 rfl (CK (Af ((by cases h; exact ⟨.inl rfl,rfl⟩))))))
def CC  : Option (Y32 × Bool) := some ((0,[]),false)
def Ej (a0 : List AU) (a1 : List UInt8) (rec : Int -> Option (Sum (Unit) (Y32 × Bool))) (y2 : Int) : Option (Sum (Unit) (Y32 × Bool)) := cond (decide (y2 < (List.length a0 : Int))) (Ad (AO a0 y2) fun e8 => cond (e8.1 == a1) (Ad (CT e8.2) fun v11 => some (.inr (v11,true))) (rec (IntKind.i64.wrap (y2 + 1)))) (some (.inl ()))
def BD (a0 : List AU) (a1 : List UInt8) : Option (Y32 × Bool) := Ad (A9 a0) fun v2 => cond v2 (Ad (Ao (Ej a0 a1) fz 0) fun o2 => (match o2 with
  | .inl _ => (CC )
  | .inr r => some r)) (CC )
theorem EC {a0 : List AU} {a1 : List UInt8} {r : Y32 × Bool} (h : BD a0 a1 = some r) : Ai Tryz.prog 89 [.agg [dL At a0],.str a1] (.tup [.agg (Ez r.1),.bool r.2]) := by
 unfold BD at h
 refine st nP rfl (rn 1 rfl (Ac fun K1 hK1 => rs (sp 1 rfl (?_))))
 obtain ⟨v2,g3,h⟩ := Aa h
 refine qC (qa rfl (erg (erc (erD AH _) rfl)) Ax) (CB g3) (evn ?_)
 have kJ1 : CC = some r -> Jn K1 [(4,.box [nI 0,oL 42 Ah []])] := by
  intro h σ' hk
  unfold CC at h
  exact hK1 _ (lh hk rfl (rn 1 rfl (Af ((by cases h; exact ⟨.inl rfl,rfl⟩)))))
 rcases Ab h with ⟨g4,h⟩ | ⟨g4,h⟩
 ·refine qT rfl g4 (rn 1 rfl ?_)
  obtain ⟨o2,hl,hr2⟩ := Aa h
  have kXB2 : (.inl ()) = o2 -> Jn K1 [(4,.box [nI 0,oL 42 Ah []])] := by
   intro h σ' hk
   subst h
   replace h := hr2
   try dsimp only at h
   exact kJ1 h _ ⟨hk.1,trivial⟩
  refine AB (fun (y2 : Int) => [(1,.str a1),(4,.box [nI 0,oL 42 Ah []]),(11,dL At a0),(12,nI (List.length a0 : Int)),(13,nI y2)]) _ _ _ _ hl (okr rfl) (fun _ => rfl) ?_
  rintro m y2 N h hN
  unfold Ej at h
  refine rn 1 rfl (Ac fun K5 hK5 => ?_)
  rcases Ab h with ⟨g6,h⟩ | ⟨g6,h⟩
  ·refine qT rfl g6 (Ae (hK5 _ (Ac fun K7 hK7 => Az (rs ?_))))
   obtain ⟨e8,g9,h⟩ := Aa h
   refine qI rfl Cz g9 (sp 3 rfl (evn (rn 1 rfl ?_)))
   rcases Ab h with ⟨g10,h⟩ | ⟨g10,h⟩
   ·refine qT rfl g10 (rs (sp 2 rfl (?_)))
    obtain ⟨v11,g12,h⟩ := Aa h
    exact qC (qa rfl (erg (erc rfl (erc (erD Ar _) rfl))) Ax) (Hn g12) (sp 2 rfl (evn (Af ((by cases h; cases hr2; exact ⟨.inl rfl,rfl⟩)))))
   ·exact qF rfl g10 (Ae (hK7 _ (rg (sp 2 rfl (evn (hN _ _ h (okr rfl)))))))
  ·exact qF rfl g6 (Aq (kXB2 (Option.some.inj h) _ (okr rfl)))
 ·exact qF rfl g4 (Ae (kJ1 h _ (okr rfl)))
def HI (a0 : List Int) (a1 : Int) (rec : Int -> Option (Sum (Unit) (Int))) (y1 : Int) : Option (Sum (Unit) (Int)) := cond (decide (y1 < (List.length a0 : Int))) (Ad (AO a0 y1) fun e5 => cond (e5 == a1) (some (.inr y1)) (rec (IntKind.i64.wrap (y1 + 1)))) (some (.inl ()))
def Ft (a0 : List Int) (a1 : Int) : Option (Int) := Ad (Ao (HI a0 a1) fz 0) fun o1 => (match o1 with
  | .inl _ => (some (-1))
  | .inr r => some r)
theorem In {a0 : List Int} {a1 : Int} {r : Int} (h : Ft a0 a1 = some r) : Ai Tryz.prog 194 [dL As a0,nI a1] (nI r) := by
 unfold Ft at h
 refine st jD rfl (rn 1 rfl (Ac fun K1 hK1 => rn 1 rfl ?_))
 obtain ⟨o1,hl,hr1⟩ := Aa h
 have kXB1 : (.inl ()) = o1 -> Jn K1 [] := by
  intro h σ' hk
  subst h
  replace h := hr1
  try dsimp only at h
  exact hK1 _ (lh hk rfl (rn 1 rfl (Af ((by cases h; exact ⟨.inl rfl,rfl⟩)))))
 refine AB (fun (y1 : Int) => [(1,nI a1),(7,dL As a0),(8,nI (List.length a0 : Int)),(9,nI y1)]) _ _ _ _ hl (okr rfl) (fun _ => rfl) ?_
 rintro m y1 N h hN
 unfold HI at h
 refine rn 1 rfl (Ac fun K2 hK2 => ?_)
 rcases Ab h with ⟨g3,h⟩ | ⟨g3,h⟩
 ·refine qT rfl g3 (Ae (hK2 _ (Ac fun K4 hK4 => Az (rs (sp 1 rfl (?_))))))
  obtain ⟨e5,g6,h⟩ := Aa h
  refine qI rfl AM g6 (sp 3 rfl (evn (rn 1 rfl ?_)))
  rcases Ab h with ⟨g7,h⟩ | ⟨g7,h⟩
  ·exact qT rfl g7 (rn 1 rfl (Af ((by cases h; cases hr1; exact ⟨.inl rfl,rfl⟩))))
  ·exact qF rfl g7 (Ae (hK4 _ (rg (sp 2 rfl (evn (hN _ _ h (okr rfl)))))))
 ·exact qF rfl g3 (Aq (kXB1 (Option.some.inj h) _ trivial))
def H6 (a0 : List Int) (a1 : Int) : Option (Bool) := Ad (Ft a0 a1) fun v1 => some (decide (0 <= v1))
theorem Nv {a0 : List Int} {a1 : Int} {r : Bool} (h : H6 a0 a1 = some r) : Ai Tryz.prog 201 [dL As a0,nI a1] (.bool r) := by
 unfold H6 at h
 refine st jK rfl (rn 1 rfl (rs (sp 2 rfl (?_))))
 obtain ⟨v1,g2,h⟩ := Aa h
 exact qC (qa rfl (erD An _) (qs rfl Ax)) (In g2) (sp 2 rfl (evn (Af ((by cases h; exact ⟨.inl rfl,rfl⟩)))))
def HJ (a0 : List Int) (a1 : Int) (rec : Int -> Option (Sum (Unit) (Bool))) (y1 : Int) : Option (Sum (Unit) (Bool)) := cond (decide (y1 < (List.length a0 : Int))) (Ad (AO a0 y1) fun e5 => Ad (CV e5 0 (IntKind.i64.wrap (a1 - 1))) fun v7 => cond (!v7) (some (.inr false)) (chk ((0 : Int) <= 0 ∧ 0 <= y1 ∧ y1 <= (List.length a0 : Int)) (Ad (H6 (Ey a0 0 y1) e5) fun v11 => cond v11 (some (.inr false)) (rec (IntKind.i64.wrap (y1 + 1)))))) (some (.inl ()))
def ID (a0 : List Int) (a1 : Int) : Option (Bool) := Ad (Ao (HJ a0 a1) fz 0) fun o1 => (match o1 with
  | .inl _ => (some true)
  | .inr r => some r)
theorem QH {a0 : List Int} {a1 : Int} {r : Bool} (h : ID a0 a1 = some r) : Ai Tryz.prog 199 [dL As a0,nI a1] (.bool r) := by
 unfold ID at h
 refine st jI rfl (rn 1 rfl (Ac fun K1 hK1 => rn 1 rfl ?_))
 obtain ⟨o1,hl,hr1⟩ := Aa h
 have kXB1 : (.inl ()) = o1 -> Jn K1 [] := by
  intro h σ' hk
  subst h
  replace h := hr1
  try dsimp only at h
  exact hK1 _ (lh hk rfl (rn 1 rfl (Af ((by cases h; exact ⟨.inl rfl,rfl⟩)))))
 refine AB (fun (y1 : Int) => [(0,dL As a0),(1,nI a1),(7,dL As a0),(8,nI (List.length a0 : Int)),(9,nI y1)]) _ _ _ _ hl (okr rfl) (fun _ => rfl) ?_
 rintro m y1 N h hN
 unfold HJ at h
 refine rn 1 rfl (Ac fun K2 hK2 => ?_)
 rcases Ab h with ⟨g3,h⟩ | ⟨g3,h⟩
 ·refine qT rfl g3 (Ae (hK2 _ (Ac fun K4 hK4 => Az (rs (sp 1 rfl (?_))))))
  obtain ⟨e5,g6,h⟩ := Aa h
  refine qI rfl AM g6 (sp 3 rfl (evn (rs (sp 3 rfl (?_)))))
  obtain ⟨v7,g8,h⟩ := Aa h
  refine qC (qs rfl (qs rfl (qs rfl Ax))) (DK g8) (sp 2 rfl (?_))
  rcases Ab h with ⟨g9,h⟩ | ⟨g9,h⟩
  ·exact qg 19 g9 rfl (sp 6 rfl (evn (qT rfl rfl (rn 1 rfl (Af ((by cases h; cases hr1; exact ⟨.inl rfl,rfl⟩)))))))
  ·refine qg 19 g9 rfl (sp 2 rfl (?_))
   obtain ⟨g10,h⟩ := Aj h
   refine oGR rfl rfl (qSl rfl AM g10 (sp 1 rfl (?_)))
   obtain ⟨v11,g12,h⟩ := Aa h
   refine oGR rfl rfl (qC (qa rfl (erD An _) (qs rfl Ax)) (Nv g12) (sp 1 rfl (evn (qk [0,1,7,8,9,25] rfl ?_))))
   rcases Ab h with ⟨g13,h⟩ | ⟨g13,h⟩
   ·exact qT rfl g13 (rn 1 rfl (Af ((by cases h; cases hr1; exact ⟨.inl rfl,rfl⟩))))
   ·exact qF rfl g13 (Ae (hK4 _ (rg (sp 2 rfl (evn (hN _ _ h (okr rfl)))))))
 ·exact qF rfl g3 (Aq (kXB1 (Option.some.inj h) _ trivial))
def DB (a0 : Y51) (e17 : CA) (rec : ((List Bool) × Int) -> Option (Sum ((List Bool)) (Bool))) (s : (List Bool) × Int) : Option (Sum ((List Bool)) (Bool)) := match s with
  | (y7,y8) => cond (decide (y8 < (List.length e17.2 : Int))) (Ad (AO e17.2 y8) fun e30 => Ad (CV e30 0 (IntKind.i64.wrap (a0.1 - 1))) fun v33 => cond (!v33) (some (.inr false)) (Ad (AO y7 e30) fun e36 => rec ((Jr y7 e30 true),(IntKind.i64.wrap (y8 + 1))))) (some (.inl y7))
def Cs (a0 : Y51) (rec : ((List Bool) × Int) -> Option (Sum ((List Bool)) (Bool))) (s : (List Bool) × Int) : Option (Sum ((List Bool)) (Bool)) := match s with
  | (y3,y4) => cond (decide (y4 < (List.length a0.2.1 : Int))) (Ad (AO a0.2.1 y4) fun e17 => Ad (Et e17.1) fun v20 => cond (!v20) (some (.inr false)) (Ad (CV (List.length e17.2 : Int) 1 5) fun v23 => cond (!v23) (some (.inr false)) (Ad (Ao (DB a0 e17) fz (y3,0)) fun o2 => (match o2 with
  | .inl z26 => (rec (z26,(IntKind.i64.wrap (y4 + 1))))
  | .inr r => some (.inr r))))) (some (.inl y3))
def E3 (z13 : List Bool) (rec : Int -> Option (Sum (Unit) (Bool))) (y9 : Int) : Option (Sum (Unit) (Bool)) := cond (decide (y9 < (List.length z13 : Int))) (Ad (AO z13 y9) fun e42 => cond (!e42) (some (.inr false)) (rec (IntKind.i64.wrap (y9 + 1)))) (some (.inl ()))
def Fc (a0 : Y51) : Option (Bool) := Ad (CV a0.1 1 5) fun v2 => cond (!v2) (some false) (Ad (CV (List.length a0.2.1 : Int) 1 4) fun v5 => cond (!v5) (some false) (Ad (ID a0.2.2 a0.1) fun v8 => cond (!v8) (some false) (chk ((0 : Int) <= a0.1 ∧ Int.toNat a0.1 <= lim) (Ad (Ao (Cs a0) fz ((List.replicate (Int.toNat a0.1) (false : Bool)),0)) fun o1 => (match o1 with
  | .inl z13 => (Ad (Ao (E3 z13) fz 0) fun o3 => (match o3 with
  | .inl _ => (some true)
  | .inr r => some r))
  | .inr r => some r)))))
theorem MP {a0 : Y51} {r : Bool} (h : Fc a0 = some r) : Ai Tryz.prog 191 [.agg (Gt a0)] (.bool r) := by
 unfold Fc at h
 refine st jA rfl (rn 2 rfl (Ac fun K1 hK1 => rs (sp 1 rfl (?_))))
 obtain ⟨v2,g3,h⟩ := Aa h
 refine qC (qs rfl (qs rfl (qs rfl Ax))) (DK g3) (sp 2 rfl (?_))
 rcases Ab h with ⟨g4,h⟩ | ⟨g4,h⟩
 ·exact qg 16 g4 rfl (sp 13 rfl (evn (qT rfl rfl (rn 1 rfl (Af ((by cases h; exact ⟨.inl rfl,rfl⟩)))))))
 ·refine qg 16 g4 rfl (sp 3 rfl (?_))
  obtain ⟨v5,g6,h⟩ := Aa h
  refine oGR rfl rfl (qC (qs rfl (qs rfl (qs rfl Ax))) (DK g6) (sp 3 rfl (?_)))
  rcases Ab h with ⟨g7,h⟩ | ⟨g7,h⟩
  ·exact qg 23 g7 rfl (sp 6 rfl (evn (qk [1,3,29] rfl (qT rfl rfl (rn 1 rfl (Af ((by cases h; exact ⟨.inl rfl,rfl⟩))))))))
  ·refine qg 23 g7 rfl (sp 3 rfl (?_))
   obtain ⟨v8,g9,h⟩ := Aa h
   refine oGR rfl rfl (qC (qa rfl (erD An _) (qs rfl Ax)) (QH g9) (sp 2 rfl (evn ?_)))
   rcases Ab h with ⟨g10,h⟩ | ⟨g10,h⟩
   ·exact qT rfl g10 (rn 1 rfl (Af ((by cases h; exact ⟨.inl rfl,rfl⟩))))
   ·refine qF rfl g10 (Ae (hK1 _ (rs (sp 1 rfl (?_)))))
    obtain ⟨g11,h⟩ := Aj h
    refine qMu cbl (false : Bool) rfl rfl rfl rfl g11 rfl (qAu rfl rfl rfl rfl (evn (Ac fun K12 hK12 => rn 1 rfl ?_)))
    obtain ⟨o1,hl,hr1⟩ := Aa h
    have kXB1 : ∀ {z13 : List Bool},(.inl z13) = o1 -> Jn K12 [(4,wL 4 cbl z13)] := by
     intro z13 h σ' hk
     subst h
     replace h := hr1
     try dsimp only at h
     refine hK12 _ (lh hk rfl (Ac fun K38 hK38 => rn 1 rfl ?_))
     obtain ⟨o3,hl,hr3⟩ := Aa h
     have kXB3 : (.inl ()) = o3 -> Jn K38 [] := by
      intro h σ' hk
      subst h
      replace h := hr3
      try dsimp only at h
      exact hK38 _ (lh hk rfl (rn 1 rfl (Af ((by cases h; exact ⟨.inl rfl,rfl⟩)))))
     refine AB (fun (y9 : Int) => [(4,wL 4 cbl z13),(67,.same 4),(68,nI (List.length z13 : Int)),(69,nI y9)]) _ _ _ _ hl (okr rfl) (fun _ => rfl) ?_
     rintro m y9 N h hN
     unfold E3 at h
     refine rn 1 rfl (Ac fun K39 hK39 => ?_)
     rcases Ab h with ⟨g40,h⟩ | ⟨g40,h⟩
     ·refine qT rfl g40 (Ae (hK39 _ (Ac fun K41 hK41 => Az (rs ?_))))
      obtain ⟨e42,g43,h⟩ := Aa h
      refine qIu rfl ⟨(AD g43).1,(AD g43).2.1⟩ (qLu 0 rfl rfl rfl pb g43 rfl rfl rfl (sp 1 rfl (evn (rn 1 rfl ?_))))
      rcases Ab h with ⟨g44,h⟩ | ⟨g44,h⟩
      ·exact qT rfl g44 (rn 1 rfl (Af ((by cases h; cases hr3; exact ⟨.inl rfl,rfl⟩))))
      ·exact qF rfl g44 (Ae (hK41 _ (rg (sp 2 rfl (evn (hN _ _ h (okr rfl)))))))
     ·exact qF rfl g40 (Aq (kXB3 (Option.some.inj h) _ trivial))
    refine AB (fun (s : (List Bool) × Int) => match s with | (y3,y4) => [(3,nI a0.1),(4,wL 4 cbl y3),(33,dL Bc a0.2.1),(34,nI (List.length a0.2.1 : Int)),(35,nI y4)]) _ _ _ _ hl (okr rfl) (fun _ => rfl) ?_
    rintro m ⟨y3,y4⟩ N h hN
    unfold Cs at h
    dsimp only at h
    refine rn 1 rfl (Ac fun K14 hK14 => ?_)
    rcases Ab h with ⟨g15,h⟩ | ⟨g15,h⟩
    ·refine qT rfl g15 (Ae (hK14 _ (Ac fun K16 hK16 => Az (rs ?_))))
     obtain ⟨e17,g18,h⟩ := Aa h
     refine qI rfl GN g18 (sp 3 rfl (evn (Ac fun K19 hK19 => rs (sp 2 rfl (?_)))))
     obtain ⟨v20,g21,h⟩ := Aa h
     refine qC (qs rfl Ax) (J9 g21) (sp 2 rfl (?_))
     rcases Ab h with ⟨g22,h⟩ | ⟨g22,h⟩
     ·exact qg 43 g22 rfl (sp 6 rfl (evn (qT rfl rfl (rn 1 rfl (Af ((by cases h; cases hr1; exact ⟨.inl rfl,rfl⟩)))))))
     ·refine qg 43 g22 rfl (sp 3 rfl (?_))
      obtain ⟨v23,g24,h⟩ := Aa h
      refine oGR rfl rfl (qC (qs rfl (qs rfl (qs rfl Ax))) (DK g24) (sp 2 rfl (evn (qk [3,4,6,33,34,35,49] rfl ?_))))
      rcases Ab h with ⟨g25,h⟩ | ⟨g25,h⟩
      ·exact qT rfl g25 (rn 1 rfl (Af ((by cases h; cases hr1; exact ⟨.inl rfl,rfl⟩))))
      ·refine qF rfl g25 (Ae (hK19 _ (rn 1 rfl ?_)))
       obtain ⟨o2,hl,hr2⟩ := Aa h
       have kXB2 : ∀ {z26 : List Bool},(.inl z26) = o2 -> Jn K16 [(3,nI a0.1),(4,wL 4 cbl z26),(33,dL Bc a0.2.1),(34,nI (List.length a0.2.1 : Int)),(35,nI y4)] := by
        intro z26 h σ' hk
        subst h
        replace h := hr2
        try dsimp only at h
        exact hK16 _ (lh hk rfl (rg (sp 2 rfl (evn (hN _ _ h (okr rfl))))))
       refine AB (fun (s : (List Bool) × Int) => match s with | (y7,y8) => [(3,nI a0.1),(4,wL 4 cbl y7),(33,dL Bc a0.2.1),(34,nI (List.length a0.2.1 : Int)),(35,nI y4),(51,dL As e17.2),(52,nI (List.length e17.2 : Int)),(53,nI y8)]) _ _ _ _ hl (okr rfl) (fun _ => rfl) ?_
       rintro m ⟨y7,y8⟩ N h hN
       unfold DB at h
       dsimp only at h
       refine rn 1 rfl (Ac fun K27 hK27 => ?_)
       rcases Ab h with ⟨g28,h⟩ | ⟨g28,h⟩
       ·refine qT rfl g28 (Ae (hK27 _ (Ac fun K29 hK29 => Az (rs ?_))))
        obtain ⟨e30,g31,h⟩ := Aa h
        refine qI rfl AM g31 (sp 2 rfl (evn (Ac fun K32 hK32 => rs (sp 3 rfl (?_)))))
        obtain ⟨v33,g34,h⟩ := Aa h
        refine qC (qs rfl (qs rfl (qs rfl Ax))) (DK g34) (sp 1 rfl (evn ?_))
        rcases Ab h with ⟨g35,h⟩ | ⟨g35,h⟩
        ·exact qT rfl g35 (rn 1 rfl (Af ((by cases h; cases hr2; cases hr1; exact ⟨.inl rfl,rfl⟩))))
        ·refine qF rfl g35 (Ae (hK32 _ (rg (sp 2 rfl (?_)))))
         obtain ⟨e36,g37,h⟩ := Aa h
         exact qIu rfl ⟨(AD g37).1,(AD g37).2.1⟩ (qSu true rfl rfl pb ⟨(AD g37).1,(AD g37).2.1⟩ rfl rfl rfl rfl rfl rfl (evn (hK29 _ (rg (sp 2 rfl (evn (hN _ _ h (okr rfl))))))))
       ·exact qF rfl g28 (Aq (kXB2 (Option.some.inj h) _ (okr rfl)))
    ·exact qF rfl g15 (Aq (kXB1 (Option.some.inj h) _ (okr rfl)))
def Gi (a0 : List AU) (a1 : Y51) (rec : Int -> Option (Sum (Unit) (Bool))) (y1 : Int) : Option (Sum (Unit) (Bool)) := cond (decide (y1 < (List.length a1.2.1 : Int))) (Ad (AO a1.2.1 y1) fun e12 => Ad (BD a0 e12.1) fun v14 => cond (!v14.2) (some (.inr false)) (cond (v14.1.1 != (List.length e12.2 : Int)) (some (.inr false)) (rec (IntKind.i64.wrap (y1 + 1))))) (some (.inl ()))
def Gv (a0 : List AU) (a1 : Y51) : Option (Bool) := Ad (Fc a1) fun v2 => cond (!v2) (some false) (Ad (A9 a0) fun v5 => cond (!v5) (some false) (Ad (Ao (Gi a0 a1) fz 0) fun o1 => (match o1 with
  | .inl _ => (some true)
  | .inr r => some r)))
theorem Oa {a0 : List AU} {a1 : Y51} {r : Bool} (h : Gv a0 a1 = some r) : Ai Tryz.prog 180 [.agg [dL At a0],.agg (Gt a1)] (.bool r) := by
 unfold Gv at h
 refine st jq rfl (rn 1 rfl (Ac fun K1 hK1 => rs (sp 1 rfl (?_))))
 obtain ⟨v2,g3,h⟩ := Aa h
 refine qC (qa rfl (erg (erc rfl (erc (erD BB _) (erc (erD An _) rfl)))) Ax) (MP g3) (sp 2 rfl (?_))
 rcases Ab h with ⟨g4,h⟩ | ⟨g4,h⟩
 ·exact qg 12 g4 rfl (sp 4 rfl (evn (qT rfl rfl (rn 1 rfl (Af ((by cases h; exact ⟨.inl rfl,rfl⟩)))))))
 ·refine qg 12 g4 rfl (sp 1 rfl (?_))
  obtain ⟨v5,g6,h⟩ := Aa h
  refine oGR rfl rfl (qC (qa rfl (erg (erc (erD AH _) rfl)) Ax) (CB g6) (sp 2 rfl (evn ?_)))
  rcases Ab h with ⟨g7,h⟩ | ⟨g7,h⟩
  ·exact qT rfl g7 (rn 1 rfl (Af ((by cases h; exact ⟨.inl rfl,rfl⟩))))
  ·refine qF rfl g7 (Ae (hK1 _ (Ac fun K8 hK8 => rn 1 rfl (qk [2,18,19,20] rfl ?_))))
   obtain ⟨o1,hl,hr1⟩ := Aa h
   have kXB1 : (.inl ()) = o1 -> Jn K8 [] := by
    intro h σ' hk
    subst h
    replace h := hr1
    try dsimp only at h
    exact hK8 _ (lh hk rfl (rn 1 rfl (Af ((by cases h; exact ⟨.inl rfl,rfl⟩)))))
   refine AB (fun (y1 : Int) => [(2,.box [dL At a0]),(18,dL Bc a1.2.1),(19,nI (List.length a1.2.1 : Int)),(20,nI y1)]) _ _ _ _ hl (okr rfl) (fun _ => rfl) ?_
   rintro m y1 N h hN
   unfold Gi at h
   refine rn 1 rfl (Ac fun K9 hK9 => ?_)
   rcases Ab h with ⟨g10,h⟩ | ⟨g10,h⟩
   ·refine qT rfl g10 (Ae (hK9 _ (Ac fun K11 hK11 => Az (rs ?_))))
    obtain ⟨e12,g13,h⟩ := Aa h
    refine qI rfl GN g13 (sp 3 rfl (evn (rs (sp 3 rfl (?_)))))
    obtain ⟨v14,g15,h⟩ := Aa h
    refine qC (qa rfl (erg (erc (erD AH _) rfl)) (qs rfl Ax)) (EC g15) (sp 6 rfl (evn (rs (sp 3 rfl (?_)))))
    rcases Ab h with ⟨g16,h⟩ | ⟨g16,h⟩
    ·exact qg 33 g16 rfl (sp 7 rfl (evn (qT rfl rfl (rn 1 rfl (qk [4] rfl (Af ((by cases h; cases hr1; exact ⟨.inl rfl,rfl⟩))))))))
    ·refine qg 33 g16 rfl (sp 7 rfl (evn ?_))
     rcases Ab h with ⟨g17,h⟩ | ⟨g17,h⟩
     ·exact qT rfl g17 (rn 1 rfl (Af ((by cases h; cases hr1; exact ⟨.inl rfl,rfl⟩))))
     ·exact qF rfl g17 (Ae (hK11 _ (rg (sp 2 rfl (evn (hN _ _ h (okr rfl)))))))
   ·exact qF rfl g10 (Aq (kXB1 (Option.some.inj h) _ trivial))
def B5 (a0 : CA) (a1 : Int) : Option (Bool) := Ad (H6 a0.2 a1) fun v1 => some v1
theorem Ld {a0 : CA} {a1 : Int} {r : Bool} (h : B5 a0 a1 = some r) : Ai Tryz.prog 200 [.agg (Bc a0),nI a1] (.bool r) := by
 unfold B5 at h
 refine st jJ rfl (rn 1 rfl (rs (sp 3 rfl (?_))))
 obtain ⟨v1,g2,h⟩ := Aa h
 exact qC (qa rfl (erD An _) (qs rfl Ax)) (Nv g2) (sp 1 rfl (evn (Af ((by cases h; exact ⟨.inl rfl,rfl⟩)))))
def De (rec : ((List Int) × Int) -> Option ((List Int))) (y2 : Int) (x8 : List Int) : Option ((List Int)) := rec (x8,(IntKind.i64.wrap (y2 + 1)))
def B4 (a0 : CA) (rec : ((List Int) × Int) -> Option ((List Int))) (s : (List Int) × Int) : Option ((List Int)) := match s with
  | (y1,y2) => cond (decide (y2 < 5)) (Ad (B5 a0 y2) fun v6 => cond v6 (chk (List.length y1 + List.length [y2] <= lim) (De rec y2 (y1 ++ [y2]))) (De rec y2 y1)) (some y1)
def Do (a0 : CA) : Option ((List Int)) := Ad (Ao (B4 a0) fz (([] : List Int),0)) fun z2 => some z2
theorem I6 {a0 : CA} {r : (List Int)} (h : Do a0 = some r) : Ai Tryz.prog 192 [.agg (Bc a0)] (oL 3 As r) := by
 unfold Do at h
 refine st jB rfl (rn 2 rfl (Ac fun K1 hK1 => rn 1 rfl ?_))
 obtain ⟨o1,hl,hr1⟩ := Aa h
 have kXB1 : ∀ {z2 : List Int},z2 = o1 -> Jn K1 [(3,oL 3 As z2)] := by
  intro z2 h σ' hk
  subst h
  replace h := hr1
  try dsimp only at h
  exact hK1 _ (lh hk rfl (rn 1 rfl (Af ((by cases h; exact ⟨.inl rfl,rfl⟩)))))
 refine AB (fun (s : (List Int) × Int) => match s with | (y1,y2) => [(1,.box [.str a0.1,dL As a0.2]),(3,oL 3 As y1),(4,nI y2)]) _ _ _ _ hl (okr rfl) (fun _ => rfl) ?_
 rintro m ⟨y1,y2⟩ N h hN
 unfold B4 at h
 dsimp only at h
 refine Ac fun K3 hK3 => rn 1 rfl ?_
 rcases Ab h with ⟨g4,h⟩ | ⟨g4,h⟩
 ·refine qT rfl g4 (Ae (hK3 _ (Ac fun K5 hK5 => Az (rs (sp 2 rfl (?_))))))
  obtain ⟨v6,g7,h⟩ := Aa h
  refine qC (qa rfl (erg (erc rfl (erc (erD An _) rfl))) (qs rfl Ax)) (Ld g7) (evn ?_)
  have kJ2 : ∀ {x8 : List Int},De (Ao (B4 a0) m) y2 x8 = some o1 -> Jn K5 [(1,.box [.str a0.1,dL As a0.2]),(3,oL 3 As x8),(4,nI y2)] := by
   intro x8 h σ' hk
   unfold De at h
   exact hK5 _ (lh hk rfl (rg (sp 3 rfl (evn (hN _ _ h (okr rfl))))))
  rcases Ab h with ⟨g9,h⟩ | ⟨g9,h⟩
  ·refine qT rfl g9 (rg (sp 2 rfl (qBs As [y2] rfl rfl rfl AM (?_))))
   obtain ⟨g10,h⟩ := Aj h
   exact qA As y1 [y2] rfl rfl (Av AM [y2]) rfl g10 (sp 1 rfl (evn (kJ2 h _ (okr rfl))))
  ·exact qF rfl g9 (Ae (kJ2 h _ (okr rfl)))
 ·exact qF rfl g4 (Aq (kXB1 (Option.some.inj h) _ (okr rfl)))
def Dr (a0 : Int) (a1 : List Int) (rec : Int -> Option (Sum (Unit) (Bool))) (y1 : Int) : Option (Sum (Unit) (Bool)) := cond (decide (y1 < (List.length a1 : Int))) (Ad (AO a1 y1) fun e7 => Ad (CV e7 0 (IntKind.i64.wrap (a0 - 1))) fun v9 => cond (!v9) (some (.inr false)) (rec (IntKind.i64.wrap (y1 + 1)))) (some (.inl ()))
def Dg (a0 : Int) (a1 : List Int) : Option (Bool) := cond (decide (5 < (List.length a1 : Int))) (some false) (Ad (Ao (Dr a0 a1) fz 0) fun o1 => (match o1 with
  | .inl _ => (some true)
  | .inr r => some r))
theorem KJ {a0 : Int} {a1 : List Int} {r : Bool} (h : Dg a0 a1 = some r) : Ai Tryz.prog 184 [nI a0,dL As a1] (.bool r) := by
 unfold Dg at h
 refine st ju rfl (rn 1 rfl (Ac fun K1 hK1 => rn 1 rfl ?_))
 rcases Ab h with ⟨g2,h⟩ | ⟨g2,h⟩
 ·exact qT rfl g2 (rn 1 rfl (Af ((by cases h; exact ⟨.inl rfl,rfl⟩))))
 ·refine qF rfl g2 (Ae (hK1 _ (Ac fun K3 hK3 => rn 1 rfl ?_)))
  obtain ⟨o1,hl,hr1⟩ := Aa h
  have kXB1 : (.inl ()) = o1 -> Jn K3 [] := by
   intro h σ' hk
   subst h
   replace h := hr1
   try dsimp only at h
   exact hK3 _ (lh hk rfl (rn 1 rfl (Af ((by cases h; exact ⟨.inl rfl,rfl⟩)))))
  refine AB (fun (y1 : Int) => [(0,nI a0),(10,dL As a1),(11,nI (List.length a1 : Int)),(12,nI y1)]) _ _ _ _ hl (okr rfl) (fun _ => rfl) ?_
  rintro m y1 N h hN
  unfold Dr at h
  refine rn 1 rfl (Ac fun K4 hK4 => ?_)
  rcases Ab h with ⟨g5,h⟩ | ⟨g5,h⟩
  ·refine qT rfl g5 (Ae (hK4 _ (Ac fun K6 hK6 => Az (rs ?_))))
   obtain ⟨e7,g8,h⟩ := Aa h
   refine qI rfl AM g8 (sp 2 rfl (evn (rs (sp 3 rfl (?_)))))
   obtain ⟨v9,g10,h⟩ := Aa h
   refine qC (qs rfl (qs rfl (qs rfl Ax))) (DK g10) (sp 1 rfl (evn ?_))
   rcases Ab h with ⟨g11,h⟩ | ⟨g11,h⟩
   ·exact qT rfl g11 (rn 1 rfl (Af ((by cases h; cases hr1; exact ⟨.inl rfl,rfl⟩))))
   ·exact qF rfl g11 (Ae (hK6 _ (rg (sp 2 rfl (evn (hN _ _ h (okr rfl)))))))
  ·exact qF rfl g5 (Aq (kXB1 (Option.some.inj h) _ trivial))
def Kc (a0 : List Int) (a1 : List Int) (rec : ((List Int) × Int) -> Option ((List Int))) (s : (List Int) × Int) : Option ((List Int)) := match s with
  | (y1,y2) => cond (decide (y2 < (List.length a1 : Int))) (Ad (AO a1 y2) fun e6 => Ad (AO a0 e6) fun e8 => chk (List.length y1 + List.length [e8] <= lim) (rec ((y1 ++ [e8]),(IntKind.i64.wrap (y2 + 1))))) (some y1)
def JA (a0 : List Int) (a1 : List Int) : Option ((List Int)) := Ad (Ao (Kc a0 a1) fz (([] : List Int),0)) fun z2 => some z2
theorem P8 {a0 : List Int} {a1 : List Int} {r : (List Int)} (h : JA a0 a1 = some r) : Ai Tryz.prog 185 [dL As a0,dL As a1] (oL 3 As r) := by
 unfold JA at h
 refine st jv rfl (rn 1 rfl (rs (qBs As [] rfl rfl rfl AM (sp 1 rfl (evn (Ac fun K1 hK1 => rn 1 rfl ?_))))))
 obtain ⟨o1,hl,hr1⟩ := Aa h
 have kXB1 : ∀ {z2 : List Int},z2 = o1 -> Jn K1 [(5,oL 3 As z2)] := by
  intro z2 h σ' hk
  subst h
  replace h := hr1
  try dsimp only at h
  exact hK1 _ (lh hk rfl (rn 1 rfl (Af ((by cases h; exact ⟨.inl rfl,rfl⟩)))))
 refine AB (fun (s : (List Int) × Int) => match s with | (y1,y2) => [(0,dL As a0),(5,oL 3 As y1),(9,dL As a1),(10,nI (List.length a1 : Int)),(11,nI y2)]) _ _ _ _ hl (okr rfl) (fun _ => rfl) ?_
 rintro m ⟨y1,y2⟩ N h hN
 unfold Kc at h
 dsimp only at h
 refine rn 1 rfl (Ac fun K3 hK3 => ?_)
 rcases Ab h with ⟨g4,h⟩ | ⟨g4,h⟩
 ·refine qT rfl g4 (Ae (hK3 _ (Ac fun K5 hK5 => Az (rs ?_))))
  obtain ⟨e6,g7,h⟩ := Aa h
  refine qI rfl AM g7 (sp 2 rfl (evn (rg (sp 3 rfl (?_)))))
  obtain ⟨e8,g9,h⟩ := Aa h
  refine qI rfl AM g9 (sp 1 rfl (qBs As [e8] rfl rfl rfl AM (?_)))
  obtain ⟨g10,h⟩ := Aj h
  exact qA As y1 [e8] rfl rfl (Av AM [e8]) rfl g10 (sp 1 rfl (evn (hK5 _ (rg (sp 2 rfl (evn (hN _ _ h (okr rfl))))))))
 ·exact qF rfl g4 (Aq (kXB1 (Option.some.inj h) _ (okr rfl)))
def Co (rec : ((List Int) × Bool × Int) -> Option ((List Int) × Bool)) (e16 : List Int) (y9 : List Int) (y11 : Int) (e25 : Int) (x30 : Bool) : Option ((List Int) × Bool) := Ad (AO e16 y11) fun e31 => Ad (AO y9 e25) fun e33 => rec ((Jr y9 e25 e31),x30,(IntKind.i64.wrap (y11 + 1)))
def BN (a1 : CA) (e16 : List Int) (rec : ((List Int) × Bool × Int) -> Option ((List Int) × Bool)) (s : (List Int) × Bool × Int) : Option ((List Int) × Bool) := match s with
  | (y9,y10,y11) => cond (decide (y11 < (List.length a1.2 : Int))) (Ad (AO a1.2 y11) fun e25 => Ad (Ft a1.2 e25) fun v27 => cond y10 (Ad (AO e16 v27) fun e36 => Ad (AO e16 y11) fun e38 => Co rec e16 y9 y11 e25 (e36 == e38)) (Co rec e16 y9 y11 e25 false)) (some (y9,y10))
def Cp (rec : ((List (List Int)) × Int) -> Option ((List (List Int)))) (y5 : Int) (x40 : List (List Int)) : Option ((List (List Int))) := rec (x40,(IntKind.i64.wrap (y5 + 1)))
def BM (a1 : CA) (v1 : (List Int)) (v3 : Y32 × Bool) (rec : ((List (List Int)) × Int) -> Option ((List (List Int)))) (s : (List (List Int)) × Int) : Option ((List (List Int))) := match s with
  | (y4,y5) => cond (decide (y5 < (List.length v3.1.2 : Int))) (Ad (AO v3.1.2 y5) fun e16 => chk ((0 : Int) <= 5 ∧ Int.toNat 5 <= lim) (Ad (Ao (BN a1 e16) fz ((List.replicate (Int.toNat 5) (0 : Int)),true,0)) fun o2 => (match o2 with
  | (z20,z21) => (cond z21 (Ad (JA z20 v1) fun v42 => chk (List.length y4 + List.length [v42] <= lim) (Cp rec y5 (y4 ++ [v42]))) (Cp rec y5 y4))))) (some y4)
def Fb (a0 : List AU) (a1 : CA) : Option (Y32) := Ad (Do a1) fun v1 => Ad (BD a0 a1.1) fun v3 => cond (!v3.2) (some ((List.length v1 : Int),[])) (cond (v3.1.1 != (List.length a1.2 : Int)) (some ((List.length v1 : Int),[])) (Ad (Dg 5 a1.2) fun v8 => cond (!v8) (some ((List.length v1 : Int),[])) (Ad (Ao (BM a1 v1 v3) fz (([] : List (List Int)),0)) fun z12 => Ad (JB z12) fun v45 => some ((List.length v1 : Int),v45))))
theorem MM {a0 : List AU} {a1 : CA} {r : Y32} (h : Fb a0 a1 = some r) : Ai Tryz.prog 193 [.agg [dL At a0],.agg (Bc a1)] (.agg (Ez r)) := by
 unfold Fb at h
 refine st jC rfl (rn 1 rfl (rs (sp 1 rfl (?_))))
 obtain ⟨v1,g2,h⟩ := Aa h
 refine qC (qa rfl (erg (erc rfl (erc (erD An _) rfl))) Ax) (I6 g2) (sp 1 rfl (evn (rn 1 rfl (rs (sp 3 rfl (?_))))))
 obtain ⟨v3,g4,h⟩ := Aa h
 refine qC (qa rfl (erg (erc (erD AH _) rfl)) (qs rfl Ax)) (EC g4) (sp 6 rfl (evn (Ac fun K5 hK5 => rs (sp 3 rfl (?_)))))
 rcases Ab h with ⟨g6,h⟩ | ⟨g6,h⟩
 ·exact qg 31 g6 rfl (sp 13 rfl (evn (qk [3,4,5,6,7,44] rfl (qT rfl rfl (rn 1 rfl (Af ((by cases h; exact ⟨.inl rfl,rfl⟩))))))))
 ·refine qg 31 g6 rfl (sp 8 rfl (?_))
  rcases Ab h with ⟨g7,h⟩ | ⟨g7,h⟩
  ·exact qg 39 g7 rfl (sp 5 rfl (evn (qT rfl rfl (rn 1 rfl (Af ((by cases h; exact ⟨.inl rfl,rfl⟩)))))))
  ·refine qg 39 g7 rfl (sp 2 rfl (?_))
   obtain ⟨v8,g9,h⟩ := Aa h
   refine oGR rfl rfl (qC (qs rfl (qa rfl (erD An _) Ax)) (KJ g9) (sp 2 rfl (evn ?_)))
   rcases Ab h with ⟨g10,h⟩ | ⟨g10,h⟩
   ·exact qT rfl g10 (rn 1 rfl (Af ((by cases h; exact ⟨.inl rfl,rfl⟩))))
   ·refine qF rfl g10 (Ae (hK5 _ (qk [3,4,5,6,7] rfl (rn 1 rfl (Ac fun K11 hK11 => rn 1 rfl ?_)))))
    obtain ⟨o1,hl,hr1⟩ := Aa h
    have kXB1 : ∀ {z12 : List (List Int)},z12 = o1 -> Jn K11 [(4,.box [nI 0,oL 42 Ah []]),(6,.box [nI (List.length v1 : Int),oL 42 Ah []]),(9,oL 42 Ah z12)] := by
     intro z12 h σ' hk
     subst h
     replace h := hr1
     try dsimp only at h
     refine hK11 _ (lh hk rfl (rs (sp 1 rfl (?_))))
     obtain ⟨v45,g46,h⟩ := Aa h
     exact qC (qa rfl (erD A3 _) Ax) (Le g46) (sp 2 rfl (evn (rn 1 rfl (Af ((by cases h; exact ⟨.inl rfl,rfl⟩))))))
    refine AB (fun (s : (List (List Int)) × Int) => match s with | (y4,y5) => [(3,.box [.str a1.1,dL As a1.2]),(4,.box [nI 0,oL 42 Ah []]),(5,oL 3 As v1),(6,.box [nI (List.length v1 : Int),oL 42 Ah []]),(9,oL 42 Ah y4),(47,dL Ah v3.1.2),(48,nI (List.length v3.1.2 : Int)),(49,nI y5)]) _ _ _ _ hl (okr rfl) (fun _ => rfl) ?_
    rintro m ⟨y4,y5⟩ N h hN
    unfold BM at h
    dsimp only at h
    refine rn 1 rfl (Ac fun K13 hK13 => ?_)
    rcases Ab h with ⟨g14,h⟩ | ⟨g14,h⟩
    ·refine qT rfl g14 (Ae (hK13 _ (Ac fun K15 hK15 => Az (rs ?_))))
     obtain ⟨e16,g17,h⟩ := Aa h
     refine qI rfl A8 g17 (sp 2 rfl (evn (rs ?_)))
     obtain ⟨g18,h⟩ := Aj h
     refine qMu As (0 : Int) rfl rfl rfl rfl g18 rfl (qAu rfl rfl rfl rfl (evn (rn 1 rfl (Ac fun K19 hK19 => rn 1 rfl ?_))))
     obtain ⟨o2,hl,hr2⟩ := Aa h
     have kXB2 : ∀ {z20 : List Int} {z21 : Bool},(z20,z21) = o2 -> Jn K19 [(3,.box [.str a1.1,dL As a1.2]),(4,.box [nI 0,oL 42 Ah []]),(5,oL 3 As v1),(6,.box [nI (List.length v1 : Int),oL 42 Ah []]),(9,oL 42 Ah y4),(12,wL 3 As z20),(13,.bool z21),(47,dL Ah v3.1.2),(48,nI (List.length v3.1.2 : Int)),(49,nI y5)] := by
      intro z20 z21 h σ' hk
      subst h
      replace h := hr2
      try dsimp only at h
      refine hK19 _ (lh hk rfl (rn 1 rfl ?_))
      have kJ4 : ∀ {x40 : List (List Int)},Cp (Ao (BM a1 v1 v3) m) y5 x40 = some o1 -> Jn K15 [(3,.box [.str a1.1,dL As a1.2]),(4,.box [nI 0,oL 42 Ah []]),(5,oL 3 As v1),(6,.box [nI (List.length v1 : Int),oL 42 Ah []]),(9,oL 42 Ah x40),(47,dL Ah v3.1.2),(48,nI (List.length v3.1.2 : Int)),(49,nI y5)] := by
       intro x40 h σ' hk
       unfold Cp at h
       exact hK15 _ (lh hk rfl (rg (sp 2 rfl (evn (hN _ _ h (okr rfl))))))
      rcases Ab h with ⟨g41,h⟩ | ⟨g41,h⟩
      ·refine qT rfl g41 (rg (sp 1 rfl (qTu rfl rfl rfl (sp 1 rfl (?_)))))
       obtain ⟨v42,g43,h⟩ := Aa h
       refine qC (qa rfl (erO An _) (qa rfl (erD An _) Ax)) (P8 g43) (qBs Ah [v42] rfl rfl rfl A8 (?_))
       obtain ⟨g44,h⟩ := Aj h
       exact qA Ah y4 [v42] rfl rfl (Av A8 [v42]) rfl g44 (sp 1 rfl (evn (kJ4 h _ (okr rfl))))
      ·exact qF rfl g41 (Ae (kJ4 h _ (okr rfl)))
     refine AB (fun (s : (List Int) × Bool × Int) => match s with | (y9,y10,y11) => [(3,.box [.str a1.1,dL As a1.2]),(4,.box [nI 0,oL 42 Ah []]),(5,oL 3 As v1),(6,.box [nI (List.length v1 : Int),oL 42 Ah []]),(9,oL 42 Ah y4),(11,dL As e16),(12,wL 3 As y9),(13,.bool y10),(47,dL Ah v3.1.2),(48,nI (List.length v3.1.2 : Int)),(49,nI y5),(55,dL As a1.2),(56,nI (List.length a1.2 : Int)),(57,nI y11)]) _ _ _ _ hl (okr rfl) (fun _ => rfl) ?_
     rintro m ⟨y9,y10,y11⟩ N h hN
     unfold BN at h
     dsimp only at h
     refine rn 1 rfl (Ac fun K22 hK22 => ?_)
     rcases Ab h with ⟨g23,h⟩ | ⟨g23,h⟩
     ·refine qT rfl g23 (Ae (hK22 _ (Ac fun K24 hK24 => Az (rs (sp 1 rfl (?_))))))
      obtain ⟨e25,g26,h⟩ := Aa h
      refine qI rfl AM g26 (sp 3 rfl (evn (rs (sp 3 rfl (?_)))))
      obtain ⟨v27,g28,h⟩ := Aa h
      refine qC (qa rfl (erD An _) (qs rfl Ax)) (In g28) (sp 1 rfl (evn (rdk (by kernel_rfl) fun K29 hK29 => ?_)))
      have kJ3 : ∀ {x30 : Bool},Co (Ao (BN a1 e16) m) e16 y9 y11 e25 x30 = some o2 -> Jn K29 [(3,.box [.str a1.1,dL As a1.2]),(4,.box [nI 0,oL 42 Ah []]),(5,oL 3 As v1),(6,.box [nI (List.length v1 : Int),oL 42 Ah []]),(9,oL 42 Ah y4),(11,dL As e16),(12,wL 3 As y9),(13,.bool x30),(14,nI y11),(15,nI e25),(47,dL Ah v3.1.2),(48,nI (List.length v3.1.2 : Int)),(49,nI y5),(55,dL As a1.2),(56,nI (List.length a1.2 : Int)),(57,nI y11)] := by
       intro x30 h σ' hk
       unfold Co at h
       refine hK29 _ (lh hk rfl (rg (sp 4 rfl (?_))))
       obtain ⟨e31,g32,h⟩ := Aa h
       refine qI rfl AM g32 (sp 1 rfl (?_))
       obtain ⟨e33,g34,h⟩ := Aa h
       exact qIu rfl ⟨(AD g34).1,(AD g34).2.1⟩ (qSu e31 rfl rfl AM ⟨(AD g34).1,(AD g34).2.1⟩ rfl rfl rfl rfl rfl rfl (evn (hK24 _ (rg (sp 2 rfl (evn (hN _ _ h (okr rfl))))))))
      refine sd 2 rfl (?_)
      rcases Ab h with ⟨g35,h⟩ | ⟨g35,h⟩
      ·refine qgd 67 g35 rfl (sd 2 rfl (?_))
       obtain ⟨e36,g37,h⟩ := Aa h
       refine ed rfl (oGR rfl rfl (qI rfl AM g37 (sd 3 rfl (?_))))
       obtain ⟨e38,g39,h⟩ := Aa h
       exact ed rfl (oGR rfl rfl (qI rfl AM g39 (sd 4 rfl (CK (kJ3 h _ (okr rfl))))))
      ·exact qgd 67 g35 rfl (sd 11 rfl (CK (kJ3 h _ (okr rfl))))
     ·exact qF rfl g23 (Aq (kXB2 (Option.some.inj h) _ (okr rfl)))
    ·exact qF rfl g14 (Aq (kXB1 (Option.some.inj h) _ (okr rfl)))
abbrev Y7 := (List Int) × Y32
def O8 (x : Y7) : List V := [dL As x.1,nI x.2.1,dL AJ x.2.2]
theorem kZ (x : Y7) : (O8 x).length = 3 := rfl
theorem gc (x : Y7) : erL (O8 x) = O8 x := (erc (erD An _) (erc rfl (erc (erD Ar _) rfl)))
def Rr (x : Y7) : List V := [oL 3 As x.1,nI x.2.1,oL 42 Ah x.2.2]
theorem k8 (x : Y7) : (Rr x).length = 3 := rfl
theorem gd (x : Y7) : erL (Rr x) = O8 x := (erc (erO An _) (erc rfl (erc (erO A3 _) rfl)))
def GP (a0 : List AU) (a1 : CA) : Option (Y7) := Ad (Do a1) fun v1 => Ad (Fb a0 a1) fun v3 => some (v1,v3)
theorem MN {a0 : List AU} {a1 : CA} {r : Y7} (h : GP a0 a1 = some r) : Ai Tryz.prog 181 [.agg [dL At a0],.agg (Bc a1)] (.agg (Rr r)) := by
 unfold GP at h
 refine st jr rfl (rn 1 rfl (rd (by kernel_rfl) (sd 1 rfl (?_))))
 obtain ⟨v1,g2,h⟩ := Aa h
 refine ed rfl (qC (qa rfl (erg (erc rfl (erc (erD An _) rfl))) Ax) (I6 g2) (sd 2 rfl (?_)))
 obtain ⟨v3,g4,h⟩ := Aa h
 exact ed rfl (qC (qa rfl (erg (erc (erD AH _) rfl)) (qa rfl (erg (erc rfl (erc (erD An _) rfl))) Ax)) (MM g4) (sd 2 rfl (CK (Af ((by cases h; exact ⟨.inl rfl,rfl⟩))))))
def Fy (y2 : List Int) (e8 : Int) (rec : Int -> Option (Int)) (y5 : Int) : Option (Int) := cond (decide (y5 < (List.length y2 : Int))) (Ad (AO y2 y5) fun e14 => cond (decide (e14 < e8)) (rec (IntKind.i64.wrap (y5 + 1))) (some y5)) (some y5)
def GV (rec : ((List Int) × Int) -> Option ((List Int))) (y3 : Int) (x19 : List Int) : Option ((List Int)) := rec (x19,(IntKind.i64.wrap (y3 + 1)))
def Fz (rec : ((List Int) × Int) -> Option ((List Int))) (y2 : List Int) (y3 : Int) (e8 : Int) (z11 : Int) (x18 : Bool) : Option ((List Int)) := cond x18 (chk ((0 : Int) <= 0 ∧ 0 <= z11 ∧ z11 <= (List.length y2 : Int)) (Ad (A5 (Ey y2 0 z11)) fun v22 => chk (List.length v22 + List.length [e8] <= lim) (chk ((0 : Int) <= z11 ∧ z11 <= (List.length y2 : Int) ∧ (List.length y2 : Int) <= (List.length y2 : Int)) (chk (List.length (v22 ++ [e8]) + List.length (Ey y2 z11 (List.length y2 : Int)) <= lim) (GV rec y3 ((v22 ++ [e8]) ++ (Ey y2 z11 (List.length y2 : Int)))))))) (GV rec y3 y2)
def EG (a1 : List Int) (rec : ((List Int) × Int) -> Option ((List Int))) (s : (List Int) × Int) : Option ((List Int)) := match s with
  | (y2,y3) => cond (decide (y3 < (List.length a1 : Int))) (Ad (AO a1 y3) fun e8 => Ad (Ao (Fy y2 e8) fz 0) fun z11 => cond (z11 == (List.length y2 : Int)) (Fz rec y2 y3 e8 z11 true) (Ad (AO y2 z11) fun e28 => Fz rec y2 y3 e8 z11 (e28 != e8))) (some y2)
def KK (a0 : List Int) (a1 : List Int) : Option ((List Int)) := Ad (A5 a0) fun v1 => Ad (Ao (EG a1) fz (v1,0)) fun z4 => some z4
theorem Td {a0 : List Int} {a1 : List Int} {r : (List Int)} (h : KK a0 a1 = some r) : Ai Tryz.prog 182 [dL As a0,dL As a1] (oL 3 As r) := by
 unfold KK at h
 refine st js rfl (rn 1 rfl (rs (sp 1 rfl (?_))))
 obtain ⟨v1,g2,h⟩ := Aa h
 refine qC (qa rfl (erD An _) Ax) (BE g2) (sp 1 rfl (evn (Ac fun K3 hK3 => rn 1 rfl ?_)))
 obtain ⟨o1,hl,hr1⟩ := Aa h
 have kXB1 : ∀ {z4 : List Int},z4 = o1 -> Jn K3 [(5,oL 3 As z4)] := by
  intro z4 h σ' hk
  subst h
  replace h := hr1
  try dsimp only at h
  exact hK3 _ (lh hk rfl (rn 1 rfl (Af ((by cases h; exact ⟨.inl rfl,rfl⟩)))))
 refine AB (fun (s : (List Int) × Int) => match s with | (y2,y3) => [(5,oL 3 As y2),(11,dL As a1),(12,nI (List.length a1 : Int)),(13,nI y3)]) _ _ _ _ hl (okr rfl) (fun _ => rfl) ?_
 rintro m ⟨y2,y3⟩ N h hN
 unfold EG at h
 dsimp only at h
 refine rn 1 rfl (Ac fun K5 hK5 => ?_)
 rcases Ab h with ⟨g6,h⟩ | ⟨g6,h⟩
 ·refine qT rfl g6 (Ae (hK5 _ (Ac fun K7 hK7 => Az (rs ?_))))
  obtain ⟨e8,g9,h⟩ := Aa h
  refine qI rfl AM g9 (sp 2 rfl (evn (rn 1 rfl (Ac fun K10 hK10 => ?_))))
  obtain ⟨o2,hl,hr2⟩ := Aa h
  have kXB2 : ∀ {z11 : Int},z11 = o2 -> Jn K10 [(5,oL 3 As y2),(7,nI e8),(8,nI z11),(11,dL As a1),(12,nI (List.length a1 : Int)),(13,nI y3)] := by
   intro z11 h σ' hk
   subst h
   replace h := hr2
   try dsimp only at h
   refine hK10 _ (lh hk rfl (rk fun K17 hK17 => ?_))
   have kJ3 : ∀ {x18 : Bool},Fz (Ao (EG a1) m) y2 y3 e8 z11 x18 = some o1 -> Jn K17 [(5,oL 3 As y2),(7,nI e8),(8,nI z11),(11,dL As a1),(12,nI (List.length a1 : Int)),(13,nI y3),(42,.bool x18)] := by
    intro x18 h σ' hk
    unfold Fz at h
    refine hK17 _ (lh hk rfl ?_)
    have kJ4 : ∀ {x19 : List Int},GV (Ao (EG a1) m) y3 x19 = some o1 -> Jn K7 [(5,oL 3 As x19),(11,dL As a1),(12,nI (List.length a1 : Int)),(13,nI y3)] := by
     intro x19 h σ' hk
     unfold GV at h
     exact hK7 _ (lh hk rfl (rg (sp 2 rfl (evn (hN _ _ h (okr rfl))))))
    rcases Ab h with ⟨g20,h⟩ | ⟨g20,h⟩
    ·refine qT rfl g20 (rgd (by kernel_rfl) (sd 2 rfl (?_)))
     obtain ⟨g21,h⟩ := Aj h
     refine ed rfl (qSl rfl AM g21 (?_))
     obtain ⟨v22,g23,h⟩ := Aa h
     refine ed rfl (qC (qa rfl (erD An _) Ax) (BE g23) (sd 1 rfl (ed rfl (qBs As [e8] rfl rfl rfl AM (?_)))))
     obtain ⟨g24,h⟩ := Aj h
     refine ed rfl (qA As v22 [e8] rfl rfl (Av AM [e8]) rfl g24 (sd 2 rfl (?_)))
     obtain ⟨g25,h⟩ := Aj h
     refine ed rfl (qSl rfl AM g25 (?_))
     obtain ⟨g26,h⟩ := Aj h
     exact ed rfl (qA As (v22 ++ [e8]) (Ey y2 z11 (List.length y2 : Int)) rfl rfl (Av AM (Ey y2 z11 (List.length y2 : Int))) (HQ (fun _ => rfl) _) g26 (sd 1 rfl (CK (kJ4 h _ (okr rfl)))))
    ·exact qF rfl g20 (Ae (kJ4 h _ (okr rfl)))
   refine sp 5 rfl (?_)
   rcases Ab h with ⟨g27,h⟩ | ⟨g27,h⟩
   ·exact qg 35 g27 rfl (sp 7 rfl (evn (kJ3 h _ (okr rfl))))
   ·refine qg 35 g27 rfl (sp 2 rfl (?_))
    obtain ⟨e28,g29,h⟩ := Aa h
    exact oGR rfl rfl (qI rfl AM g29 (sp 4 rfl (evn (kJ3 h _ (okr rfl)))))
  refine AB (fun (y5 : Int) => [(5,oL 3 As y2),(7,nI e8),(8,nI y5),(11,dL As a1),(12,nI (List.length a1 : Int)),(13,nI y3)]) _ _ _ _ hl (okr rfl) (fun _ => rfl) ?_
  rintro m y5 N h hN
  unfold Fy at h
  refine Ac fun K12 hK12 => rs (sp 5 rfl (?_))
  rcases Ab h with ⟨g13,h⟩ | ⟨g13,h⟩
  ·refine qg 21 g13 rfl (sp 2 rfl (?_))
   obtain ⟨e14,g15,h⟩ := Aa h
   refine oGR rfl rfl (qI rfl AM g15 (sp 4 rfl (evn ?_)))
   rcases Ab h with ⟨g16,h⟩ | ⟨g16,h⟩
   ·exact qT rfl g16 (Ae (hK12 _ (Az (rg (sp 3 rfl (evn (hN _ _ h (okr rfl))))))))
   ·exact qF rfl g16 (Aq (kXB2 (Option.some.inj h) _ (okr rfl)))
  ·exact qg 21 g13 rfl (sp 7 rfl (evn (qF rfl rfl (Aq (kXB2 (Option.some.inj h) _ (okr rfl))))))
 ·exact qF rfl g6 (Aq (kXB1 (Option.some.inj h) _ (okr rfl)))
def Gy (rec : ((List Int) × Int) -> Option (Sum ((List Int)) ((List Int) × Bool))) (y2 : Int) (x15 : List Int) : Option (Sum ((List Int)) ((List Int) × Bool)) := rec (x15,(IntKind.i64.wrap (y2 + 1)))
def Fs (rec : ((List Int) × Int) -> Option (Sum ((List Int)) ((List Int) × Bool))) (a2 : List Int) (a4 : List Int) (y1 : List Int) (y2 : Int) (v8 : Int) (v10 : Int) (x13 : Bool) : Option (Sum ((List Int)) ((List Int) × Bool)) := cond x13 (some (.inr (([] : List Int),false))) (cond (decide (0 <= v8)) (Ad (AO a2 v8) fun e17 => chk (List.length y1 + List.length [e17] <= lim) (Gy rec y2 (y1 ++ [e17]))) (Ad (AO a4 v10) fun e20 => chk (List.length y1 + List.length [e20] <= lim) (Gy rec y2 (y1 ++ [e20]))))
def DQ (a0 : List Int) (a1 : List Int) (a2 : List Int) (a3 : List Int) (a4 : List Int) (rec : ((List Int) × Int) -> Option (Sum ((List Int)) ((List Int) × Bool))) (s : (List Int) × Int) : Option (Sum ((List Int)) ((List Int) × Bool)) := match s with
  | (y1,y2) => cond (decide (y2 < (List.length a0 : Int))) (Ad (AO a0 y2) fun e6 => Ad (Ft a1 e6) fun v8 => Ad (Ft a3 e6) fun v10 => cond (decide (0 <= v8)) (cond (decide (0 <= v10)) (Ad (AO a2 v8) fun e25 => Ad (AO a4 v10) fun e27 => Fs rec a2 a4 y1 y2 v8 v10 (e25 != e27)) (Fs rec a2 a4 y1 y2 v8 v10 false)) (Fs rec a2 a4 y1 y2 v8 v10 false)) (some (.inl y1))
def LN (a0 : List Int) (a1 : List Int) (a2 : List Int) (a3 : List Int) (a4 : List Int) : Option ((List Int) × Bool) := Ad (Ao (DQ a0 a1 a2 a3 a4) fz (([] : List Int),0)) fun o1 => (match o1 with
  | .inl z2 => (some (z2,true))
  | .inr r => some r)
theorem Ur {a0 : List Int} {a1 : List Int} {a2 : List Int} {a3 : List Int} {a4 : List Int} {r : (List Int) × Bool} (h : LN a0 a1 a2 a3 a4 = some r) : Ai Tryz.prog 183 [dL As a0,dL As a1,dL As a2,dL As a3,dL As a4] (.tup [oL 3 As r.1,.bool r.2]) := by
 unfold LN at h
 refine st jt rfl (rn 1 rfl (rs (qBs As [] rfl rfl rfl AM (sp 1 rfl (evn (Ac fun K1 hK1 => rn 1 rfl ?_))))))
 obtain ⟨o1,hl,hr1⟩ := Aa h
 have kXB1 : ∀ {z2 : List Int},(.inl z2) = o1 -> Jn K1 [(12,oL 3 As z2)] := by
  intro z2 h σ' hk
  subst h
  replace h := hr1
  try dsimp only at h
  exact hK1 _ (lh hk rfl (rn 1 rfl (Af ((by cases h; exact ⟨.inl rfl,rfl⟩)))))
 refine AB (fun (s : (List Int) × Int) => match s with | (y1,y2) => [(1,dL As a1),(2,dL As a2),(3,dL As a3),(4,dL As a4),(12,oL 3 As y1),(18,dL As a0),(19,nI (List.length a0 : Int)),(20,nI y2)]) _ _ _ _ hl (okr rfl) (fun _ => rfl) ?_
 rintro m ⟨y1,y2⟩ N h hN
 unfold DQ at h
 dsimp only at h
 refine rn 1 rfl (Ac fun K3 hK3 => ?_)
 rcases Ab h with ⟨g4,h⟩ | ⟨g4,h⟩
 ·refine qT rfl g4 (Ae (hK3 _ (Ac fun K5 hK5 => Az (rs ?_))))
  obtain ⟨e6,g7,h⟩ := Aa h
  refine qI rfl AM g7 (sp 2 rfl (evn (rs (sp 2 rfl (?_)))))
  obtain ⟨v8,g9,h⟩ := Aa h
  refine qC (qa rfl (erD An _) (qs rfl Ax)) (In g9) (sp 2 rfl (?_))
  obtain ⟨v10,g11,h⟩ := Aa h
  refine qC (qa rfl (erD An _) (qs rfl Ax)) (In g11) (sp 2 rfl (evn (Az (rdk (by kernel_rfl) fun K12 hK12 => ?_))))
  have kJ2 : ∀ {x13 : Bool},Fs (Ao (DQ a0 a1 a2 a3 a4) m) a2 a4 y1 y2 v8 v10 x13 = some o1 -> Jn K12 [(1,dL As a1),(2,dL As a2),(3,dL As a3),(4,dL As a4),(12,oL 3 As y1),(15,nI v8),(16,nI v10),(18,dL As a0),(19,nI (List.length a0 : Int)),(20,nI y2),(37,.bool x13)] := by
   intro x13 h σ' hk
   unfold Fs at h
   refine hK12 _ (lh hk rfl ?_)
   rcases Ab h with ⟨g14,h⟩ | ⟨g14,h⟩
   ·exact qT rfl g14 (rn 1 rfl (Af ((by cases h; cases hr1; exact ⟨.inl rfl,rfl⟩))))
   ·refine qF rfl g14 (rn 1 rfl ?_)
    have kJ3 : ∀ {x15 : List Int},Gy (Ao (DQ a0 a1 a2 a3 a4) m) y2 x15 = some o1 -> Jn K5 [(1,dL As a1),(2,dL As a2),(3,dL As a3),(4,dL As a4),(12,oL 3 As x15),(18,dL As a0),(19,nI (List.length a0 : Int)),(20,nI y2)] := by
     intro x15 h σ' hk
     unfold Gy at h
     exact hK5 _ (lh hk rfl (rg (sp 2 rfl (evn (hN _ _ h (okr rfl))))))
    rcases Ab h with ⟨g16,h⟩ | ⟨g16,h⟩
    ·refine qT rfl g16 (rg (sp 3 rfl (?_)))
     obtain ⟨e17,g18,h⟩ := Aa h
     refine qI rfl AM g18 (sp 1 rfl (qBs As [e17] rfl rfl rfl AM (?_)))
     obtain ⟨g19,h⟩ := Aj h
     exact qA As y1 [e17] rfl rfl (Av AM [e17]) rfl g19 (sp 1 rfl (evn (kJ3 h _ (okr rfl))))
    ·refine qF rfl g16 (rg (sp 3 rfl (?_)))
     obtain ⟨e20,g21,h⟩ := Aa h
     refine qI rfl AM g21 (sp 1 rfl (qBs As [e20] rfl rfl rfl AM (?_)))
     obtain ⟨g22,h⟩ := Aj h
     exact qA As y1 [e20] rfl rfl (Av AM [e20]) rfl g22 (sp 1 rfl (evn (kJ3 h _ (okr rfl))))
  refine sd 3 rfl (?_)
  rcases Ab h with ⟨g23,h⟩ | ⟨g23,h⟩
  ·refine qgd 40 g23 rfl (sd 4 rfl (?_))
   rcases Ab h with ⟨g24,h⟩ | ⟨g24,h⟩
   ·refine qgd 44 g24 rfl (sd 2 rfl (?_))
    obtain ⟨e25,g26,h⟩ := Aa h
    refine ed rfl (oGR rfl rfl (qI rfl AM g26 (sd 3 rfl (?_))))
    obtain ⟨e27,g28,h⟩ := Aa h
    exact ed rfl (oGR rfl rfl (qI rfl AM g28 (sd 4 rfl (CK (kJ2 h _ (okr rfl))))))
   ·exact qgd 44 g24 rfl (sd 11 rfl (CK (kJ2 h _ (okr rfl))))
  ·exact qgd 40 g23 rfl (sd 15 rfl (CK (kJ2 h _ (okr rfl))))
 ·exact qF rfl g4 (Aq (kXB1 (Option.some.inj h) _ (okr rfl)))
def Eu (rec : ((List (List Int)) × Int) -> Option ((List (List Int)))) (y27 : Int) (x31 : List (List Int)) : Option ((List (List Int))) := rec (x31,(IntKind.i64.wrap (y27 + 1)))
def Dw (y10 : List Int) (v12 : Y7) (v14 : (List Int)) (e21 : List Int) (rec : ((List (List Int)) × Int) -> Option ((List (List Int)))) (s : (List (List Int)) × Int) : Option ((List (List Int))) := match s with
  | (y26,y27) => cond (decide (y27 < (List.length v12.2.2 : Int))) (Ad (AO v12.2.2 y27) fun e27 => Ad (LN v14 y10 e21 v12.1 e27) fun v29 => cond v29.2 (chk (List.length y26 + List.length [v29.1] <= lim) (Eu rec y27 (y26 ++ [v29.1]))) (Eu rec y27 y26)) (some y26)
def Dv (y9 : List (List Int)) (y10 : List Int) (v12 : Y7) (v14 : (List Int)) (rec : ((List (List Int)) × Int) -> Option ((List (List Int)))) (s : (List (List Int)) × Int) : Option ((List (List Int))) := match s with
  | (y22,y23) => cond (decide (y23 < (List.length y9 : Int))) (Ad (AO y9 y23) fun e21 => Ad (Ao (Dw y10 v12 v14 e21) fz (y22,0)) fun z23 => rec (z23,(IntKind.i64.wrap (y23 + 1)))) (some y22)
def FT (a0 : List AU) (a1 : Y51) (rec : ((List (List Int)) × (List Int) × Int) -> Option ((List (List Int)))) (s : (List (List Int)) × (List Int) × Int) : Option ((List (List Int))) := match s with
  | (y9,y10,y11) => cond (decide (y11 < (List.length a1.2.1 : Int))) (Ad (AO a1.2.1 y11) fun e10 => Ad (GP a0 e10) fun v12 => Ad (KK y10 v12.1) fun v14 => Ad (Ao (Dv y9 y10 v12 v14) fz (([] : List (List Int)),0)) fun z17 => rec (z17,v14,(IntKind.i64.wrap (y11 + 1)))) (some y9)
def EE (a0 : List AU) (a1 : Y51) : Option (Y32 × Bool) := Ad (Gv a0 a1) fun v2 => cond (!v2) (some ((0,[]),false)) (Ad (Ao (FT a0 a1) fz (([[]]),([] : List Int),0)) fun z6 => Ad (JB z6) fun v34 => Ad (AF (a1.1,v34)) fun v37 => cond (!v37) (some ((0,[]),false)) (some ((a1.1,v34),true)))
theorem P6 {a0 : List AU} {a1 : Y51} {r : Y32 × Bool} (h : EE a0 a1 = some r) : Ai Tryz.prog 153 [.agg [dL At a0],.agg (Gt a1)] (.tup [.agg (Ez r.1),.bool r.2]) := by
 unfold EE at h
 refine st iU rfl (rn 1 rfl (Ac fun K1 hK1 => rs (sp 2 rfl (?_))))
 obtain ⟨v2,g3,h⟩ := Aa h
 refine qC (qa rfl (erg (erc (erD AH _) rfl)) (qa rfl (erg (erc rfl (erc (erD BB _) (erc (erD An _) rfl)))) Ax)) (Oa g3) (sp 1 rfl (evn ?_))
 rcases Ab h with ⟨g4,h⟩ | ⟨g4,h⟩
 ·exact qT rfl g4 (rn 1 rfl (Af ((by cases h; exact ⟨.inl rfl,rfl⟩))))
 ·refine qF rfl g4 (Ae (hK1 _ (rs (qBs As [] rfl rfl rfl AM (qBs Ah [[]] rfl rfl rfl A8 (sp 1 rfl (evn (rs (qBs As [] rfl rfl rfl AM (sp 1 rfl (evn (Ac fun K5 hK5 => rn 1 rfl ?_))))))))))))
  obtain ⟨o1,hl,hr1⟩ := Aa h
  have kXB1 : ∀ {z6 : List (List Int)},z6 = o1 -> Jn K5 [(3,.box [nI a1.1,dL Bc a1.2.1,dL As a1.2.2]),(4,.box [nI 0,oL 42 Ah []]),(6,oL 42 Ah z6)] := by
   intro z6 h σ' hk
   subst h
   replace h := hr1
   try dsimp only at h
   refine hK5 _ (lh hk rfl (rd (by kernel_rfl) (sd 3 rfl (?_))))
   obtain ⟨v34,g35,h⟩ := Aa h
   refine ed rfl (qC (qa rfl (erD A3 _) Ax) (Le g35) (sd 3 rfl (CK (Ac fun K36 hK36 => rs (sp 1 rfl (?_))))))
   obtain ⟨v37,g38,h⟩ := Aa h
   refine qC (qa rfl (erg (erc rfl (erc (erD A3 _) rfl))) Ax) (AN g38) (sp 1 rfl (evn ?_))
   rcases Ab h with ⟨g39,h⟩ | ⟨g39,h⟩
   ·exact qT rfl g39 (rn 1 rfl (Af ((by cases h; exact ⟨.inl rfl,rfl⟩))))
   ·exact qF rfl g39 (Ae (hK36 _ (rn 1 rfl (Af ((by cases h; exact ⟨.inl rfl,rfl⟩))))))
  refine AB (fun (s : (List (List Int)) × (List Int) × Int) => match s with | (y9,y10,y11) => [(2,.box [dL At a0]),(3,.box [nI a1.1,dL Bc a1.2.1,dL As a1.2.2]),(4,.box [nI 0,oL 42 Ah []]),(6,oL 42 Ah y9),(7,oL 3 As y10),(29,dL Bc a1.2.1),(30,nI (List.length a1.2.1 : Int)),(31,nI y11)]) _ _ _ _ hl (okr rfl) (fun _ => rfl) ?_
  rintro m ⟨y9,y10,y11⟩ N h hN
  unfold FT at h
  dsimp only at h
  refine rn 1 rfl (Ac fun K7 hK7 => ?_)
  rcases Ab h with ⟨g8,h⟩ | ⟨g8,h⟩
  ·refine qT rfl g8 (Ae (hK7 _ (Ac fun K9 hK9 => Az (rs ?_))))
   obtain ⟨e10,g11,h⟩ := Aa h
   refine qI rfl GN g11 (sp 3 rfl (evn (rs (sp 2 rfl (?_)))))
   obtain ⟨v12,g13,h⟩ := Aa h
   refine qC (qa rfl (erg (erc (erD AH _) rfl)) (qa rfl (erg (erc rfl (erc (erD An _) rfl))) Ax)) (MN g13) (sp 2 rfl (evn (rn 1 rfl (rs (sp 3 rfl (?_))))))
   obtain ⟨v14,g15,h⟩ := Aa h
   refine qC (qa rfl (erD An _) (qa rfl (erD An _) Ax)) (Td g15) (sp 1 rfl (evn (Ac fun K16 hK16 => rn 1 rfl (qk [2,3,4,7,10,11,12,29,30,31,42,43,44] rfl ?_))))
   obtain ⟨o2,hl,hr2⟩ := Aa h
   have kXB2 : ∀ {z17 : List (List Int)},z17 = o2 -> Jn K16 [(2,.box [dL At a0]),(3,.box [nI a1.1,dL Bc a1.2.1,dL As a1.2.2]),(4,.box [nI 0,oL 42 Ah []]),(11,oL 42 Ah z17),(12,oL 3 As v14),(29,dL Bc a1.2.1),(30,nI (List.length a1.2.1 : Int)),(31,nI y11)] := by
    intro z17 h σ' hk
    subst h
    replace h := hr2
    try dsimp only at h
    exact hK16 _ (lh hk rfl (rn 1 rfl (rg (sp 2 rfl (evn (hK9 _ (rg (sp 2 rfl (evn (hN _ _ h (okr rfl)))))))))))
   refine AB (fun (s : (List (List Int)) × Int) => match s with | (y22,y23) => [(2,.box [dL At a0]),(3,.box [nI a1.1,dL Bc a1.2.1,dL As a1.2.2]),(4,.box [nI 0,oL 42 Ah []]),(7,oL 3 As y10),(10,.box [oL 3 As v12.1,nI v12.2.1,oL 42 Ah v12.2.2]),(11,oL 42 Ah y22),(12,oL 3 As v14),(29,dL Bc a1.2.1),(30,nI (List.length a1.2.1 : Int)),(31,nI y11),(42,dL Ah y9),(43,nI (List.length y9 : Int)),(44,nI y23)]) _ _ _ _ hl (okr rfl) (fun _ => rfl) ?_
   rintro m ⟨y22,y23⟩ N h hN
   unfold Dv at h
   dsimp only at h
   refine rn 1 rfl (Ac fun K18 hK18 => ?_)
   rcases Ab h with ⟨g19,h⟩ | ⟨g19,h⟩
   ·refine qT rfl g19 (Ae (hK18 _ (Ac fun K20 hK20 => Az (rs ?_))))
    obtain ⟨e21,g22,h⟩ := Aa h
    refine qI rfl A8 g22 (sp 2 rfl (evn (rn 1 rfl ?_)))
    obtain ⟨o3,hl,hr3⟩ := Aa h
    have kXB3 : ∀ {z23 : List (List Int)},z23 = o3 -> Jn K20 [(2,.box [dL At a0]),(3,.box [nI a1.1,dL Bc a1.2.1,dL As a1.2.2]),(4,.box [nI 0,oL 42 Ah []]),(7,oL 3 As y10),(10,.box [oL 3 As v12.1,nI v12.2.1,oL 42 Ah v12.2.2]),(11,oL 42 Ah z23),(12,oL 3 As v14),(29,dL Bc a1.2.1),(30,nI (List.length a1.2.1 : Int)),(31,nI y11),(42,dL Ah y9),(43,nI (List.length y9 : Int)),(44,nI y23)] := by
     intro z23 h σ' hk
     subst h
     replace h := hr3
     try dsimp only at h
     exact hK20 _ (lh hk rfl (rg (sp 2 rfl (evn (hN _ _ h (okr rfl))))))
    refine AB (fun (s : (List (List Int)) × Int) => match s with | (y26,y27) => [(2,.box [dL At a0]),(3,.box [nI a1.1,dL Bc a1.2.1,dL As a1.2.2]),(4,.box [nI 0,oL 42 Ah []]),(7,oL 3 As y10),(10,.box [oL 3 As v12.1,nI v12.2.1,oL 42 Ah v12.2.2]),(11,oL 42 Ah y26),(12,oL 3 As v14),(14,dL As e21),(29,dL Bc a1.2.1),(30,nI (List.length a1.2.1 : Int)),(31,nI y11),(42,dL Ah y9),(43,nI (List.length y9 : Int)),(44,nI y23),(50,dL Ah v12.2.2),(51,nI (List.length v12.2.2 : Int)),(52,nI y27)]) _ _ _ _ hl (okr rfl) (fun _ => rfl) ?_
    rintro m ⟨y26,y27⟩ N h hN
    unfold Dw at h
    dsimp only at h
    refine rn 1 rfl (Ac fun K24 hK24 => ?_)
    rcases Ab h with ⟨g25,h⟩ | ⟨g25,h⟩
    ·refine qT rfl g25 (Ae (hK24 _ (Ac fun K26 hK26 => Az (rs ?_))))
     obtain ⟨e27,g28,h⟩ := Aa h
     refine qI rfl A8 g28 (sp 2 rfl (evn (rs (sp 6 rfl (?_)))))
     obtain ⟨v29,g30,h⟩ := Aa h
     refine qC (qa rfl (erD An _) (qa rfl (erD An _) (qa rfl (erD An _) (qa rfl (erD An _) (qa rfl (erD An _) Ax))))) (Ur g30) (sp 5 rfl (evn (rn 1 rfl ?_)))
     have kJ4 : ∀ {x31 : List (List Int)},Eu (Ao (Dw y10 v12 v14 e21) m) y27 x31 = some o3 -> Jn K26 [(2,.box [dL At a0]),(3,.box [nI a1.1,dL Bc a1.2.1,dL As a1.2.2]),(4,.box [nI 0,oL 42 Ah []]),(7,oL 3 As y10),(10,.box [oL 3 As v12.1,nI v12.2.1,oL 42 Ah v12.2.2]),(11,oL 42 Ah x31),(12,oL 3 As v14),(14,dL As e21),(29,dL Bc a1.2.1),(30,nI (List.length a1.2.1 : Int)),(31,nI y11),(42,dL Ah y9),(43,nI (List.length y9 : Int)),(44,nI y23),(50,dL Ah v12.2.2),(51,nI (List.length v12.2.2 : Int)),(52,nI y27)] := by
      intro x31 h σ' hk
      unfold Eu at h
      exact hK26 _ (lh hk rfl (rg (sp 2 rfl (evn (hN _ _ h (okr rfl))))))
     rcases Ab h with ⟨g32,h⟩ | ⟨g32,h⟩
     ·refine qT rfl g32 (rg (sp 2 rfl (qBs Ah [v29.1] rfl rfl rfl A8 (?_))))
      obtain ⟨g33,h⟩ := Aj h
      exact qA Ah y26 [v29.1] rfl rfl (Av A8 [v29.1]) rfl g33 (sp 1 rfl (evn (kJ4 h _ (okr rfl))))
     ·exact qF rfl g32 (Ae (kJ4 h _ (okr rfl)))
    ·exact qF rfl g25 (Aq (kXB3 (Option.some.inj h) _ (okr rfl)))
   ·exact qF rfl g19 (Aq (kXB2 (Option.some.inj h) _ (okr rfl)))
  ·exact qF rfl g8 (Aq (kXB1 (Option.some.inj h) _ (okr rfl)))
def BC (a0 : Y32) (rec : ((List Int) × Int) -> Option ((List Int))) (s : (List Int) × Int) : Option ((List Int)) := match s with
  | (y1,y2) => cond (decide (y2 < (List.length a0.2 : Int))) (chk (List.length y1 + List.length [1] <= lim) (rec ((y1 ++ [1]),(IntKind.i64.wrap (y2 + 1))))) (some y1)
def B6 (a0 : Y32) : Option (Y43 × Bool) := Ad (AF a0) fun v2 => cond (!v2) (some ((0,[],[]),false)) (Ad (DJ a0.2) fun v5 => Ad (Ao (BC a0) fz (([] : List Int),0)) fun z8 => some ((a0.1,v5,z8),true))
theorem JZ {a0 : Y32} {r : Y43 × Bool} (h : B6 a0 = some r) : Ai Tryz.prog 154 [.agg (Gs a0)] (.tup [.agg (Al r.1),.bool r.2]) := by
 unfold B6 at h
 refine st iV rfl (rn 1 rfl (Ac fun K1 hK1 => rs (sp 1 rfl (?_))))
 obtain ⟨v2,g3,h⟩ := Aa h
 refine qC (qa rfl (erg (erc rfl (erc (erD Ar _) rfl))) Ax) (AN g3) (sp 1 rfl (evn ?_))
 rcases Ab h with ⟨g4,h⟩ | ⟨g4,h⟩
 ·exact qT rfl g4 (rn 1 rfl (Af ((by cases h; exact ⟨.inl rfl,rfl⟩))))
 ·refine qF rfl g4 (Ae (hK1 _ (rd (by kernel_rfl) (sd 4 rfl (?_)))))
  obtain ⟨v5,g6,h⟩ := Aa h
  refine ed rfl (qC (qa rfl (erD Ar _) Ax) (Gx g6) (sd 3 rfl (CK (Ac fun K7 hK7 => rn 1 rfl ?_))))
  obtain ⟨o1,hl,hr1⟩ := Aa h
  have kXB1 : ∀ {z8 : List Int},z8 = o1 -> Jn K7 [(2,.box [nI 0,oL 42 Ah [],oL 3 As []]),(4,.box [nI a0.1,oL 42 Ah v5,oL 3 As z8])] := by
   intro z8 h σ' hk
   subst h
   replace h := hr1
   try dsimp only at h
   exact hK7 _ (lh hk rfl (rn 1 rfl (Af ((by cases h; exact ⟨.inl rfl,rfl⟩)))))
  refine AB (fun (s : (List Int) × Int) => match s with | (y1,y2) => [(2,.box [nI 0,oL 42 Ah [],oL 3 As []]),(4,.box [nI a0.1,oL 42 Ah v5,oL 3 As y1]),(17,nI (List.length a0.2 : Int)),(18,nI y2)]) _ _ _ _ hl (okr rfl) (fun _ => rfl) ?_
  rintro m ⟨y1,y2⟩ N h hN
  unfold BC at h
  dsimp only at h
  refine rn 1 rfl (Ac fun K9 hK9 => ?_)
  rcases Ab h with ⟨g10,h⟩ | ⟨g10,h⟩
  ·refine qT rfl g10 (Ae (hK9 _ (Ac fun K11 hK11 => Az (rg (sp 2 rfl (qBs As [1] rfl rfl rfl AM (?_)))))))
   obtain ⟨g12,h⟩ := Aj h
   exact qA As y1 [1] rfl rfl (Av AM [1]) rfl g12 (sp 2 rfl (evn (hK11 _ (rg (sp 2 rfl (evn (hN _ _ h (okr rfl))))))))
  ·exact qF rfl g10 (Aq (kXB1 (Option.some.inj h) _ (okr rfl)))
def Ei (a0 : Y43) (rec : Int -> Option (Sum (Unit) (Bool))) (y1 : Int) : Option (Sum (Unit) (Bool)) := cond (decide (y1 < (List.length a0.2.2 : Int))) (Ad (AO a0.2.2 y1) fun e10 => cond (e10 == 0) (some (.inr false)) (Ad (CV e10 (-1000000) 1000000) fun v13 => cond (!v13) (some (.inr false)) (rec (IntKind.i64.wrap (y1 + 1))))) (some (.inl ()))
def A2 (a0 : Y43) : Option (Bool) := Ad (EV a0.1 a0.2.1) fun v2 => cond (!v2) (some false) (cond ((List.length a0.2.2 : Int) != (List.length a0.2.1 : Int)) (some false) (Ad (Ao (Ei a0) fz 0) fun o1 => (match o1 with
  | .inl _ => (some true)
  | .inr r => some r)))
theorem Df {a0 : Y43} {r : Bool} (h : A2 a0 = some r) : Ai Tryz.prog 98 [.agg (Bf a0)] (.bool r) := by
 unfold A2 at h
 refine st nY rfl (rn 1 rfl (Ac fun K1 hK1 => rs (sp 4 rfl (?_))))
 obtain ⟨v2,g3,h⟩ := Aa h
 refine qC (qs rfl (qa rfl (erD Ar _) Ax)) (Lr g3) (sp 2 rfl (?_))
 rcases Ab h with ⟨g4,h⟩ | ⟨g4,h⟩
 ·exact qg 11 g4 rfl (sp 8 rfl (evn (qT rfl rfl (rn 1 rfl (Af ((by cases h; exact ⟨.inl rfl,rfl⟩)))))))
 ·refine qg 11 g4 rfl (sp 8 rfl (evn ?_))
  rcases Ab h with ⟨g5,h⟩ | ⟨g5,h⟩
  ·exact qT rfl g5 (rn 1 rfl (qk [2] rfl (Af ((by cases h; exact ⟨.inl rfl,rfl⟩)))))
  ·refine qF rfl g5 (Ae (hK1 _ (Ac fun K6 hK6 => rn 1 rfl ?_)))
   obtain ⟨o1,hl,hr1⟩ := Aa h
   have kXB1 : (.inl ()) = o1 -> Jn K6 [] := by
    intro h σ' hk
    subst h
    replace h := hr1
    try dsimp only at h
    exact hK6 _ (lh hk rfl (rn 1 rfl (Af ((by cases h; exact ⟨.inl rfl,rfl⟩)))))
   refine AB (fun (y1 : Int) => [(21,dL As a0.2.2),(22,nI (List.length a0.2.2 : Int)),(23,nI y1)]) _ _ _ _ hl (okr rfl) (fun _ => rfl) ?_
   rintro m y1 N h hN
   unfold Ei at h
   refine rn 1 rfl (Ac fun K7 hK7 => ?_)
   rcases Ab h with ⟨g8,h⟩ | ⟨g8,h⟩
   ·refine qT rfl g8 (Ae (hK7 _ (Ac fun K9 hK9 => Az (rs ?_))))
    obtain ⟨e10,g11,h⟩ := Aa h
    refine qI rfl AM g11 (sp 2 rfl (evn (rs (sp 3 rfl (?_)))))
    rcases Ab h with ⟨g12,h⟩ | ⟨g12,h⟩
    ·exact qg 29 g12 rfl (sp 4 rfl (evn (qT rfl rfl (rn 1 rfl (Af ((by cases h; cases hr1; exact ⟨.inl rfl,rfl⟩)))))))
    ·refine qg 29 g12 rfl (sp 1 rfl (?_))
     obtain ⟨v13,g14,h⟩ := Aa h
     refine oGR rfl rfl (qC (qs rfl (qs rfl (qs rfl Ax))) (DK g14) (sp 2 rfl (evn ?_)))
     rcases Ab h with ⟨g15,h⟩ | ⟨g15,h⟩
     ·exact qT rfl g15 (rn 1 rfl (qk [2] rfl (Af ((by cases h; cases hr1; exact ⟨.inl rfl,rfl⟩)))))
     ·exact qF rfl g15 (Ae (hK9 _ (rg (sp 2 rfl (evn (hN _ _ h (okr rfl)))))))
   ·exact qF rfl g8 (Aq (kXB1 (Option.some.inj h) _ trivial))
def HK (a0 : List (List Int)) (a1 : List Int) (rec : (Int × Int) -> Option (Int)) (s : Int × Int) : Option (Int) := match s with
  | (y1,y2) => cond (decide (y1 < y2)) (Ad (AO a0 (IntKind.i64.wrap (Int.tdiv (IntKind.i64.wrap (y1 + y2)) 2))) fun e5 => Ad (Cw e5 a1) fun v7 => cond (decide (v7 < 0)) (rec ((IntKind.i64.wrap ((IntKind.i64.wrap (Int.tdiv (IntKind.i64.wrap (y1 + y2)) 2)) + 1)),y2)) (rec (y1,(IntKind.i64.wrap (Int.tdiv (IntKind.i64.wrap (y1 + y2)) 2))))) (some y1)
def HL (z2 : Int) (x11 : Bool) : Option (Int × Bool) := some (z2,x11)
def H7 (a0 : List (List Int)) (a1 : List Int) : Option (Int × Bool) := Ad (Ao (HK a0 a1) fz (0,(List.length a0 : Int))) fun z2 => cond (decide (z2 < (List.length a0 : Int))) (Ad (AO a0 z2) fun e13 => Ad (Cw e13 a1) fun v15 => HL z2 (v15 == 0)) (HL z2 false)
theorem OH {a0 : List (List Int)} {a1 : List Int} {r : Int × Bool} (h : H7 a0 a1 = some r) : Ai Tryz.prog 157 [dL AJ a0,dL As a1] (.tup [nI r.1,.bool r.2]) := by
 unfold H7 at h
 refine st iY rfl (rn 2 rfl (Ac fun K1 hK1 => ?_))
 obtain ⟨o1,hl,hr1⟩ := Aa h
 have kXB1 : ∀ {z2 : Int},z2 = o1 -> Jn K1 [(0,dL AJ a0),(1,dL As a1),(6,nI z2)] := by
  intro z2 h σ' hk
  subst h
  replace h := hr1
  try dsimp only at h
  refine hK1 _ (lh hk rfl (rk fun K10 hK10 => ?_))
  have kJ2 : ∀ {x11 : Bool},HL z2 x11 = some r -> Jn K10 [(4,nI z2),(5,.bool x11)] := by
   intro x11 h σ' hk
   unfold HL at h
   exact hK10 _ (lh hk rfl (Af ((by cases h; exact ⟨.inl rfl,rfl⟩))))
  refine sp 6 rfl (?_)
  rcases Ab h with ⟨g12,h⟩ | ⟨g12,h⟩
  ·refine qg 33 g12 rfl (sp 2 rfl (?_))
   obtain ⟨e13,g14,h⟩ := Aa h
   refine oGR rfl rfl (qI rfl Br g14 (sp 2 rfl (?_)))
   obtain ⟨v15,g16,h⟩ := Aa h
   exact oGR rfl rfl (qC (qa rfl (erD An _) (qa rfl (erD An _) Ax)) (Gf g16) (sp 4 rfl (evn (kJ2 h _ (okr rfl)))))
  ·exact qg 33 g12 rfl (sp 10 rfl (evn (kJ2 h _ (okr rfl))))
 refine AB (fun (s : Int × Int) => match s with | (y1,y2) => [(0,dL AJ a0),(1,dL As a1),(6,nI y1),(7,nI y2)]) _ _ _ _ hl (okr rfl) (fun _ => rfl) ?_
 rintro m ⟨y1,y2⟩ N h hN
 unfold HK at h
 dsimp only at h
 refine Ac fun K3 hK3 => rn 1 rfl ?_
 rcases Ab h with ⟨g4,h⟩ | ⟨g4,h⟩
 ·refine qT rfl g4 (Ae (hK3 _ (Az (rn 1 rfl (rs (sp 2 rfl (?_)))))))
  obtain ⟨e5,g6,h⟩ := Aa h
  refine qI rfl Br g6 (sp 2 rfl (?_))
  obtain ⟨v7,g8,h⟩ := Aa h
  refine qC (qa rfl (erD An _) (qa rfl (erD An _) Ax)) (Gf g8) (sp 1 rfl (evn ?_))
  rcases Ab h with ⟨g9,h⟩ | ⟨g9,h⟩
  ·exact qT rfl g9 (rg (sp 3 rfl (evn (hN _ _ h (okr rfl)))))
  ·exact qF rfl g9 (rg (sp 2 rfl (evn (hN _ _ h (okr rfl)))))
 ·exact qF rfl g4 (Aq (kXB1 (Option.some.inj h) _ (okr rfl)))
theorem Dd (x : List Int) : AX (Ah x) = true := (dcc (dco (fun _ => rfl) 3 _) dcn)
def GU (a0 : Y43) (a1 : List Int) (a2 : Int) : Option (Y43) := Ad (H7 a0.2.1 a1) fun v1 => cond v1.2 (chk (0 < List.length a0.2.2) (Ad (AO a0.2.2 v1.1) fun e7 => Ad (AO a0.2.2 v1.1) fun e9 => some (a0.1,a0.2.1,Jr a0.2.2 v1.1 (IntKind.i64.wrap (e7 + a2))))) (chk ((0 : Int) <= 0 ∧ 0 <= v1.1 ∧ v1.1 <= (List.length (AC 0 a0.2.1) : Int)) (chk (List.length ([] : List (Nat × (List Int))) + List.length (Ey (AC 0 a0.2.1) 0 v1.1) <= lim) (Ad (A5 a1) fun v13 => chk (List.length (H4 (([] : List (Nat × (List Int))) ++ (Ey (AC 0 a0.2.1) 0 v1.1))) + List.length (Pe ([v13] : List (List Int))) <= lim) (chk ((0 : Int) <= v1.1 ∧ v1.1 <= (List.length (AC 0 a0.2.1) : Int) ∧ (List.length (AC 0 a0.2.1) : Int) <= (List.length (AC 0 a0.2.1) : Int)) (chk (List.length ((H4 (([] : List (Nat × (List Int))) ++ (Ey (AC 0 a0.2.1) 0 v1.1))) ++ (Pe ([v13] : List (List Int)))) + List.length (H4 (Ey (AC 0 a0.2.1) v1.1 (List.length (AC 0 a0.2.1) : Int))) <= lim) (chk (okJ (a0.2.1) (((H4 (([] : List (Nat × (List Int))) ++ (Ey (AC 0 a0.2.1) 0 v1.1))) ++ (Pe ([v13] : List (List Int)))) ++ (H4 (Ey (AC 0 a0.2.1) v1.1 (List.length (AC 0 a0.2.1) : Int)))) [] = true) (chk ((0 : Int) <= 0 ∧ 0 <= v1.1 ∧ v1.1 <= (List.length a0.2.2 : Int)) (Ad (A5 (Ey a0.2.2 0 v1.1)) fun v20 => chk (List.length v20 + List.length [a2] <= lim) (chk ((0 : Int) <= v1.1 ∧ v1.1 <= (List.length a0.2.2 : Int) ∧ (List.length a0.2.2 : Int) <= (List.length a0.2.2 : Int)) (chk (List.length (v20 ++ [a2]) + List.length (Ey a0.2.2 v1.1 (List.length a0.2.2 : Int)) <= lim) (some (a0.1,List.map getM (((H4 (([] : List (Nat × (List Int))) ++ (Ey (AC 0 a0.2.1) 0 v1.1))) ++ (Pe ([v13] : List (List Int)))) ++ (H4 (Ey (AC 0 a0.2.1) v1.1 (List.length (AC 0 a0.2.1) : Int)))),(v20 ++ [a2]) ++ (Ey a0.2.2 v1.1 (List.length a0.2.2 : Int))))))))))))))
theorem OI {a0 : Y43} {a1 : List Int} {a2 : Int} {r : Y43} (h : GU a0 a1 a2 = some r) : co Tryz.prog 99 [nI a0.1,oL 42 Ah a0.2.1,oL 3 As a0.2.2] [dL As a1,nI a2] [nI r.1,oL 42 Ah r.2.1,oL 3 As r.2.2] := by
 unfold GU at h
 refine p8 nZ rfl rfl (SN (Gm (fun _ => rfl) _) (SN rfl rfl)) (mvv (LD (fun _ => rfl) _) (mvv rfl rfl)) (dcc rfl (dcc (dco Dd 42 _) (dcc (dco (fun _ => rfl) 3 _) dcn))) (dcc rfl (dcc (dco Dd 42 _) (dcc (dco (fun _ => rfl) 3 _) dcn))) (rs (sp 5 rfl (?_)))
 obtain ⟨v1,g2,h⟩ := Aa h
 refine qC (qa rfl (erD A3 _) (qa rfl (erG An _) Ax)) (OH g2) (sp 5 rfl (evn (Ac fun K3 hK3 => rn 1 rfl ?_)))
 rcases Ab h with ⟨g4,h⟩ | ⟨g4,h⟩
 ·refine qT rfl g4 (qk [0,2,6] rfl ?_)
  obtain ⟨g5,h⟩ := Aj h
  refine J1 (gLb (q := 900003) (b := 0) [nI a0.1,oL 42 Ah a0.2.1] [] rfl rfl rfl g5 ?_)
  intro gg6 mm6
  refine qk [0,2,6,900003] rfl (rs (sp 5 rfl (?_)))
  obtain ⟨e7,g8,h⟩ := Aa h
  refine qIt rfl rfl rfl rfl g8 (?_)
  refine qLe (i := v1.1) (es := 1) (q := 900003) 0 rfl rfl rfl rfl rfl rfl AM g8 rfl rfl (?_)
  refine sp 2 rfl (?_)
  obtain ⟨e9,g10,h⟩ := Aa h
  refine qIt rfl rfl rfl rfl g10 (?_)
  refine qSt (y0 := e9) (i := v1.1) (es := 1) 0 (IntKind.i64.wrap (e7 + a2)) [0] rfl rfl rfl rfl rfl rfl rfl rfl rfl rfl AM g10 (fun _ => rfl) (sdL (dcc rfl dcn)) (yc (snc rfl (snc (sO (dco Dd 42 _)) (snc rfl rfl))) yn) (?_)
  exact evn (J1 (gDb (q := 900003) (b := 0) [nI a0.1,oL 42 Ah a0.2.1] [] rfl rfl rfl (sl rfl) (qk [0] rfl (Af ((by cases h; exact ⟨.inl rfl,rfl,rfl⟩))))))
 ·refine qF rfl g4 (Ae (hK3 _ (qk [0,1,2,6] rfl (J1 (gSb (f := Ah) (l := a0.2.1) (q := 900001) (b := 0) [nI a0.1] [oL 3 As a0.2.2] rfl rfl rfl (fun _ => rfl) ?_)))))
  intro U us1 hU
  refine qk [0,1,2,6,900001] rfl (rd (by kernel_rfl) (sd 1 rfl (ed rfl (qBs Ah [] rfl rfl rfl A8 (sd 5 rfl (?_))))))
  obtain ⟨g11,h⟩ := Aj h
  refine ed rfl (qSl rfl (zpE A8) g11 (?_))
  obtain ⟨g12,h⟩ := Aj h
  refine ed rfl (qA (pE Ah U) ([] : List (Nat × (List Int))) (Ey (AC 0 a0.2.1) 0 v1.1) rfl rfl (Av (zpE A8) (Ey (AC 0 a0.2.1) 0 v1.1)) (R8 _) g12 (sd 1 rfl (?_)))
  obtain ⟨v13,g14,h⟩ := Aa h
  refine ed rfl (qC (qa rfl (erG An _) Ax) (BE g14) (ed rfl (qBs Ah [v13] rfl rfl rfl A8 (?_))))
  obtain ⟨g15,h⟩ := Aj h
  refine ed rfl (qA2 (mE Ah U) (H4 (([] : List (Nat × (List Int))) ++ (Ey (AC 0 a0.2.1) 0 v1.1))) (Pe ([v13] : List (List Int))) rfl rfl (Av A8 [v13]) Qc W1 Wt fU g15 (sd 5 rfl (?_)))
  obtain ⟨g16,h⟩ := Aj h
  refine ed rfl (qSl rfl (zpE A8) g16 (?_))
  obtain ⟨g17,h⟩ := Aj h
  refine ed rfl (qA2 (mE Ah U) ((H4 (([] : List (Nat × (List Int))) ++ (Ey (AC 0 a0.2.1) 0 v1.1))) ++ (Pe ([v13] : List (List Int)))) (H4 (Ey (AC 0 a0.2.1) v1.1 (List.length (AC 0 a0.2.1) : Int))) rfl rfl (Av (zpE A8) (Ey (AC 0 a0.2.1) v1.1 (List.length (AC 0 a0.2.1) : Int))) rfl rfl Qc ((R8 _).trans W1) g17 (sd 3 rfl (CK ?_)))
  obtain ⟨g18,h⟩ := Aj h
  refine J1 (gJb (f := Ah) (l := a0.2.1) (q := 900001) (b := 0) [nI a0.1] [oL 3 As a0.2.2] (((H4 (([] : List (Nat × (List Int))) ++ (Ey (AC 0 a0.2.1) 0 v1.1))) ++ (Pe ([v13] : List (List Int)))) ++ (H4 (Ey (AC 0 a0.2.1) v1.1 (List.length (AC 0 a0.2.1) : Int)))) rfl rfl rfl rfl (fun _ => rfl) hU g18 (qk [0,2,6] rfl (rgd (by kernel_rfl) (sd 6 rfl (?_)))))
  obtain ⟨g19,h⟩ := Aj h
  refine ed rfl (qSl rfl AM g19 (?_))
  obtain ⟨v20,g21,h⟩ := Aa h
  refine ed rfl (qC (qa rfl (erD An _) Ax) (BE g21) (sd 1 rfl (ed rfl (qBs As [a2] rfl rfl rfl AM (?_)))))
  obtain ⟨g22,h⟩ := Aj h
  refine ed rfl (qA As v20 [a2] rfl rfl (Av AM [a2]) rfl g22 (sd 5 rfl (?_)))
  obtain ⟨g23,h⟩ := Aj h
  refine ed rfl (qSl rfl AM g23 (?_))
  obtain ⟨g24,h⟩ := Aj h
  exact ed rfl (qA As (v20 ++ [a2]) (Ey a0.2.2 v1.1 (List.length a0.2.2 : Int)) rfl rfl (Av AM (Ey a0.2.2 v1.1 (List.length a0.2.2 : Int))) (HQ (fun _ => rfl) _) g24 (sd 3 rfl (CK ((by cases h; exact ⟨.inr rfl,rfl,rfl⟩)))))
def Fe (rec : ((List (Nat × (List Int))) × (List Int) × Int) -> Option ((List (Nat × (List Int))) × (List Int))) (y3 : Int) (x9 : List (Nat × (List Int))) (x10 : List Int) : Option ((List (Nat × (List Int))) × (List Int)) := rec (x9,x10,(IntKind.i64.wrap (y3 + 1)))
def D3 (a0 : Int × (List (Nat × (List Int))) × (List Int)) (rec : ((List (Nat × (List Int))) × (List Int) × Int) -> Option ((List (Nat × (List Int))) × (List Int))) (s : (List (Nat × (List Int))) × (List Int) × Int) : Option ((List (Nat × (List Int))) × (List Int)) := match s with
  | (y1,y2,y3) => cond (decide (y3 < (List.length a0.2.2 : Int))) (Ad (AO a0.2.2 y3) fun e7 => cond (e7 != 0) (Ad (AO a0.2.1 y3) fun e12 => chk (List.length y1 + List.length [e12] <= lim) (chk (List.length y2 + List.length [e7] <= lim) (Fe rec y3 (y1 ++ [e12]) (y2 ++ [e7])))) (Fe rec y3 y1 y2)) (some (y1,y2))
def Fu (a0 : Int × (List (Nat × (List Int))) × (List Int)) : Option ((Int × (List (Nat × (List Int))) × (List Int))) := Ad (Ao (D3 a0) fz (([] : List (Nat × (List Int))),([] : List Int),0)) fun o1 => (match o1 with
  | (z2,z3) => (some (a0.1,z2,z3)))
theorem Mu {U : Nat -> Value} {a0 : Int × (List (Nat × (List Int))) × (List Int)} {r : (Int × (List (Nat × (List Int))) × (List Int))} (h : Fu a0 = some r) : Ai Tryz.prog 100 [.agg [nI a0.1,dL (pE Ah U) a0.2.1,dL As a0.2.2]] (.agg [nI r.1,oL 42 (pE Ah U) r.2.1,oL 3 As r.2.2]) := by
 unfold Fu at h
 refine st gZ rfl (rn 2 rfl (Ac fun K1 hK1 => rn 1 rfl ?_))
 obtain ⟨o1,hl,hr1⟩ := Aa h
 have kXB1 : ∀ {z2 : List (Nat × (List Int))} {z3 : List Int},(z2,z3) = o1 -> Jn K1 [(2,.box [nI 0,oL 42 Ah [],oL 3 As []]),(3,.box [nI a0.1,oL 42 (pE Ah U) z2,oL 3 As z3])] := by
  intro z2 z3 h σ' hk
  subst h
  replace h := hr1
  try dsimp only at h
  exact hK1 _ (lh hk rfl (rn 1 rfl (Af ((by cases h; exact ⟨.inl rfl,rfl⟩)))))
 refine AB (fun (s : (List (Nat × (List Int))) × (List Int) × Int) => match s with | (y1,y2,y3) => [(1,.box [nI a0.1,dL (pE Ah U) a0.2.1,dL As a0.2.2]),(2,.box [nI 0,oL 42 Ah [],oL 3 As []]),(3,.box [nI a0.1,oL 42 (pE Ah U) y1,oL 3 As y2]),(10,dL As a0.2.2),(11,nI (List.length a0.2.2 : Int)),(12,nI y3)]) _ _ _ _ hl (okr rfl) (fun _ => rfl) ?_
 rintro m ⟨y1,y2,y3⟩ N h hN
 unfold D3 at h
 dsimp only at h
 refine rn 1 rfl (Ac fun K4 hK4 => ?_)
 rcases Ab h with ⟨g5,h⟩ | ⟨g5,h⟩
 ·refine qT rfl g5 (Ae (hK4 _ (Ac fun K6 hK6 => Az (rs (sp 1 rfl (?_))))))
  obtain ⟨e7,g8,h⟩ := Aa h
  refine qI rfl AM g8 (sp 3 rfl (evn (rn 1 rfl ?_)))
  have kJ2 : ∀ {x9 : List (Nat × (List Int))} {x10 : List Int},Fe (Ao (D3 a0) m) y3 x9 x10 = some o1 -> Jn K6 [(1,.box [nI a0.1,dL (pE Ah U) a0.2.1,dL As a0.2.2]),(2,.box [nI 0,oL 42 Ah [],oL 3 As []]),(3,.box [nI a0.1,oL 42 (pE Ah U) x9,oL 3 As x10]),(10,dL As a0.2.2),(11,nI (List.length a0.2.2 : Int)),(12,nI y3)] := by
   intro x9 x10 h σ' hk
   unfold Fe at h
   exact hK6 _ (lh hk rfl (rg (sp 2 rfl (evn (hN _ _ h (okr rfl))))))
  rcases Ab h with ⟨g11,h⟩ | ⟨g11,h⟩
  ·refine qT rfl g11 (rd (by kernel_rfl) (sd 5 rfl (?_)))
   obtain ⟨e12,g13,h⟩ := Aa h
   refine ed rfl (qI rfl (zpE A8) g13 (sd 1 rfl (ed rfl (qBs (pE Ah U) [e12] rfl rfl rfl (zpE A8) (?_)))))
   obtain ⟨g14,h⟩ := Aj h
   refine ed rfl (qA (pE Ah U) y1 [e12] rfl rfl (Av (zpE A8) [e12]) rfl g14 (sd 2 rfl (CK (rg (sp 3 rfl (qBs As [e7] rfl rfl rfl AM (?_)))))))
   obtain ⟨g15,h⟩ := Aj h
   exact qA As y2 [e7] rfl rfl (Av AM [e7]) rfl g15 (sp 2 rfl (evn (kJ2 h _ (okr rfl))))
  ·exact qF rfl g11 (Ae (kJ2 h _ (okr rfl)))
 ·exact qF rfl g5 (Aq (kXB1 (Option.some.inj h) _ (okr rfl)))
theorem IV (x : List Int) : BT (AJ x) = true := (bcc (Gm (fun _ => rfl) _) rfl)
theorem I2 (x : List Int) : IU (AJ x) = FN x := (vcc (LD (fun _ => rfl) _) rfl)
def BV (a0 : Y43) (a1 : List Int) (rec : (Int × (List (List Int)) × (List Int) × Int) -> Option (Int × (List (List Int)) × (List Int))) (s : Int × (List (List Int)) × (List Int) × Int) : Option (Int × (List (List Int)) × (List Int)) := match s with
  | (y1,y2,y3,y4) => cond (decide (y4 < (List.length a0.2.1 : Int))) (Ad (AO a0.2.1 y4) fun e15 => Ad (JA e15 a1) fun v17 => Ad (AO a0.2.2 y4) fun e19 => Ad (GU (y1,y2,y3) v17 e19) fun v21 => rec (v21.1,v21.2.1,v21.2.2,(IntKind.i64.wrap (y4 + 1)))) (some (y1,y2,y3))
def D2 (a0 : Y43) (a1 : List Int) : Option (Y43 × Bool) := Ad (A2 a0) fun v2 => cond (!v2) (some ((0,[],[]),false)) (Ad (Dg a0.1 a1) fun v5 => cond (!v5) (some ((0,[],[]),false)) (Ad (Ao (BV a0 a1) fz ((List.length a1 : Int),([] : List (List Int)),([] : List Int),0)) fun o1 => (match o1 with
  | (z9,z10,z11) => (Ad (Fu (z9,AC 0 z10,z11)) fun v23 => chk (okJ (z10) (H4 v23.2.1) [] = true) (Ad (A2 (v23.1,List.map getM (H4 v23.2.1),v23.2.2)) fun v27 => cond (!v27) (some ((0,[],[]),false)) (some ((v23.1,List.map getM (H4 v23.2.1),v23.2.2),true)))))))
theorem LM {a0 : Y43} {a1 : List Int} {r : Y43 × Bool} (h : D2 a0 a1 = some r) : Ai Tryz.prog 155 [.agg (Bf a0),dL As a1] (.tup [.agg (Al r.1),.bool r.2]) := by
 unfold D2 at h
 refine sta iW rfl (SN (bcc rfl (bcc (Gm IV _) (bcc (Gm (fun _ => rfl) _) rfl))) (SN (Gm (fun _ => rfl) _) rfl)) (mvv (vag (vcc rfl (vcc (LD I2 _) (vcc (LD (fun _ => rfl) _) rfl)))) (mvv (LD (fun _ => rfl) _) rfl)) (dcc (dag (dcc rfl (dcc (dco Dd 42 _) (dcc (dco (fun _ => rfl) 3 _) dcn)))) (dcc rfl dcn)) (rn 1 rfl (Ac fun K1 hK1 => rs (sp 1 rfl (?_))))
 obtain ⟨v2,g3,h⟩ := Aa h
 refine qC (qa rfl (erg (erc rfl (erc (erG Cv _) (erc (erG An _) rfl)))) Ax) (Df g3) (sp 2 rfl (?_))
 rcases Ab h with ⟨g4,h⟩ | ⟨g4,h⟩
 ·exact qg 13 g4 rfl (sp 6 rfl (evn (qT rfl rfl (rn 1 rfl (Af ((by cases h; exact ⟨.inl rfl,rfl⟩)))))))
 ·refine qg 13 g4 rfl (sp 3 rfl (?_))
  obtain ⟨v5,g6,h⟩ := Aa h
  refine oGR rfl rfl (qC (qs rfl (qa rfl (erG An _) Ax)) (KJ g6) (sp 2 rfl (evn ?_)))
  rcases Ab h with ⟨g7,h⟩ | ⟨g7,h⟩
  ·exact qT rfl g7 (rn 1 rfl (Af ((by cases h; exact ⟨.inl rfl,rfl⟩))))
  ·refine qF rfl g7 (Ae (hK1 _ (qk [1,2,4] rfl (rn 1 rfl (Ac fun K8 hK8 => rn 1 rfl ?_)))))
   obtain ⟨o1,hl,hr1⟩ := Aa h
   have kXB1 : ∀ {z9 : Int} {z10 : List (List Int)} {z11 : List Int},(z9,z10,z11) = o1 -> Jn K8 [(4,.box [nI 0,oL 42 Ah [],oL 3 As []]),(6,.box [nI z9,oL 42 Ah z10,oL 3 As z11])] := by
    intro z9 z10 z11 h σ' hk
    subst h
    replace h := hr1
    try dsimp only at h
    refine hK8 _ (lh hk rfl (qk [4,6] rfl (J1 (gSb (f := Ah) (l := z10) (q := 900001) (b := 6) [nI z9] [oL 3 As z11] rfl rfl rfl (fun _ => rfl) ?_))))
    intro U us1 hU
    refine kp [(4,.box [nI 0,oL 42 Ah [],oL 3 As []]),(6,.box [nI z9,oL 42 (pE Ah U) (AC 0 z10),oL 3 As z11]),(900001,.gh us1 (List.map (fun x => Kv (Ah x)) z10))] rfl rfl (rs (sp 1 rfl (?_)))
    obtain ⟨v23,g24,h⟩ := Aa h
    refine qCi rfl rfl rfl (Mu g24) (sp 2 rfl (evn (Ac fun K25 hK25 => qk [4,9,900001] rfl ?_)))
    obtain ⟨g26,h⟩ := Aj h
    refine J1 (gJb (f := Ah) (l := z10) (q := 900001) (b := 9) [nI v23.1] [oL 3 As v23.2.2] (H4 v23.2.1) rfl UB rfl rfl (fun _ => rfl) hU g26 (kp [(4,.box [nI 0,oL 42 Ah [],oL 3 As []]),(9,.box [nI v23.1,oL 42 Ah (List.map getM (H4 v23.2.1)),oL 3 As v23.2.2])] rfl rfl (rs (sp 1 rfl (?_)))))
    obtain ⟨v27,g28,h⟩ := Aa h
    refine qC (qa rfl (erg (erc rfl (erc (erD A3 _) (erc (erD An _) rfl)))) Ax) (Df g28) (sp 1 rfl (evn ?_))
    rcases Ab h with ⟨g29,h⟩ | ⟨g29,h⟩
    ·exact qT rfl g29 (rn 1 rfl (Af ((by cases h; exact ⟨.inl rfl,rfl⟩))))
    ·exact qF rfl g29 (Ae (hK25 _ (rn 1 rfl (Af ((by cases h; exact ⟨.inl rfl,rfl⟩))))))
   refine AB (fun (s : Int × (List (List Int)) × (List Int) × Int) => match s with | (y1,y2,y3,y4) => [(1,aL As a1),(2,.box [nI a0.1,aL FN a0.2.1,aL As a0.2.2]),(4,.box [nI 0,oL 42 Ah [],oL 3 As []]),(6,.box [nI y1,oL 42 Ah y2,oL 3 As y3]),(25,aL FN a0.2.1),(26,nI (List.length a0.2.1 : Int)),(27,nI y4)]) _ _ _ _ hl (okr rfl) (fun _ => rfl) ?_
   rintro m ⟨y1,y2,y3,y4⟩ N h hN
   unfold BV at h
   dsimp only at h
   refine rn 1 rfl (Ac fun K12 hK12 => ?_)
   rcases Ab h with ⟨g13,h⟩ | ⟨g13,h⟩
   ·refine qT rfl g13 (Ae (hK12 _ (Ac fun K14 hK14 => Az (rs (sp 1 rfl (?_))))))
    obtain ⟨e15,g16,h⟩ := Aa h
    refine qI rfl cj g16 (sp 3 rfl (evn (qk [1,2,4,6,7,8,25,26,27] rfl (rgt 8 (by kernel_rfl) (sd 2 rfl (?_))))))
    obtain ⟨v17,g18,h⟩ := Aa h
    refine ed rfl (qC (qa rfl (erG An _) (qa rfl (erG An _) Ax)) (P8 g18) (sd 3 rfl (?_)))
    obtain ⟨e19,g20,h⟩ := Aa h
    refine ed rfl (qI rfl AM g20 (sd 1 rfl (CK (bw ?_))))
    obtain ⟨v21,g22,h⟩ := Aa h
    exact qPo [1,2,4,25,26,27,34,39] rfl rfl rfl rfl (qa rfl (erO An _) (qs rfl Ax)) (dcc rfl (dcc (dco Dd 42 _) (dcc (dco (fun _ => rfl) 3 _) dcn))) (OI g22) rfl (yc (acf (fun _ => rfl) _) (yc (snc rfl (snc (sA (aca F9 _)) (snc (sA (aca (fun _ => rfl) _)) rfl))) (yc (snc rfl (snc rfl (snc rfl rfl))) (yc (acf F9 _) (yc rfl (yc rfl (yc (sdL (dcf (fun _ => rfl) _)) (yc rfl yn)))))))) (evn (hK14 _ (rg (sp 2 rfl (evn (hN _ _ h (okr rfl)))))))
   ·exact qF rfl g13 (Aq (kXB1 (Option.some.inj h) _ (okr rfl)))
def Fq (a0 : List AU) (a1 : Y51) : Option (Y53 × Bool) := Ad (EE a0 a1) fun v1 => cond (!v1.2) (some (((0,[],[]),(0,[],[])),false)) (Ad (B6 v1.1) fun v5 => Ad (D2 v5.1 a1.2.2) fun v7 => cond (!v7.2) (some (((0,[],[]),(0,[],[])),false)) (Ad (EU a1) fun v11 => some ((v11,v7.1),true)))
theorem Kq {a0 : List AU} {a1 : Y51} {r : Y53 × Bool} (h : Fq a0 a1 = some r) : Ai Tryz.prog 95 [.agg [dL At a0],.agg (Gt a1)] (.tup [.agg (Ag r.1),.bool r.2]) := by
 unfold Fq at h
 refine st nV rfl (rn 1 rfl (rs (sp 2 rfl (?_))))
 obtain ⟨v1,g2,h⟩ := Aa h
 refine qC (qa rfl (erg (erc (erD AH _) rfl)) (qa rfl (erg (erc rfl (erc (erD BB _) (erc (erD An _) rfl)))) Ax)) (P6 g2) (sp 6 rfl (evn (Ac fun K3 hK3 => rn 1 rfl ?_)))
 rcases Ab h with ⟨g4,h⟩ | ⟨g4,h⟩
 ·exact qT rfl g4 (rn 1 rfl (Af ((by cases h; exact ⟨.inl rfl,rfl⟩))))
 ·refine qF rfl g4 (Ae (hK3 _ (rs (sp 1 rfl (?_)))))
  obtain ⟨v5,g6,h⟩ := Aa h
  refine qC (qa rfl (erg (erc rfl (erc (erD A3 _) rfl))) Ax) (JZ g6) (sp 6 rfl (evn (rs (sp 3 rfl (?_)))))
  obtain ⟨v7,g8,h⟩ := Aa h
  refine qC (qa rfl (erg (erc rfl (erc (erD A3 _) (erc (erD An _) rfl)))) (qa rfl (erD An _) Ax)) (LM g8) (sp 6 rfl (evn (qk [3,4,10,11] rfl (Ac fun K9 hK9 => rn 1 rfl ?_))))
  rcases Ab h with ⟨g10,h⟩ | ⟨g10,h⟩
  ·exact qT rfl g10 (rn 1 rfl (Af ((by cases h; exact ⟨.inl rfl,rfl⟩))))
  ·refine qF rfl g10 (Ae (hK9 _ (rd (by kernel_rfl) (sd 1 rfl (?_)))))
   obtain ⟨v11,g12,h⟩ := Aa h
   exact ed rfl (qC (qa rfl (erg (erc rfl (erc (erD BB _) (erc (erD An _) rfl)))) Ax) (IX g12) (sd 4 rfl (CK (Af ((by cases h; exact ⟨.inl rfl,rfl⟩))))))
def Fw (x4 : Bool) : Option (Bool) := some x4
def BH (a0 : List AU) (a1 : Y53) : Option (Bool) := Ad (Fq a0 a1.1) fun v1 => cond v1.2 (Ad (DT v1.1.2 a1.2) fun v6 => Fw v6) (Fw false)
theorem Ka {a0 : List AU} {a1 : Y53} {r : Bool} (h : BH a0 a1 = some r) : Ai Tryz.prog 42 [.agg [dL At a0],.agg (AW a1)] (.bool r) := by
 unfold BH at h
 refine st ni rfl (rn 1 rfl (rs (sp 3 rfl (?_))))
 obtain ⟨v1,g2,h⟩ := Aa h
 refine qC (qa rfl (erg (erc (erD AH _) rfl)) (qa rfl (erg (erc rfl (erc (erD BB _) (erc (erD An _) rfl)))) Ax)) (Kq g2) (sp 6 rfl (evn (rk fun K3 hK3 => ?_)))
 have kJ1 : ∀ {x4 : Bool},Fw x4 = some r -> Jn K3 [(4,.bool x4)] := by
  intro x4 h σ' hk
  unfold Fw at h
  exact hK3 _ (lh hk rfl (Af ((by cases h; exact ⟨.inl rfl,rfl⟩))))
 refine sp 2 rfl (?_)
 rcases Ab h with ⟨g5,h⟩ | ⟨g5,h⟩
 ·refine qg 15 g5 rfl (sp 4 rfl (?_))
  obtain ⟨v6,g7,h⟩ := Aa h
  exact oGR rfl rfl (qC (qa rfl (erg (erc rfl (erc (erD A3 _) (erc (erD An _) rfl)))) (qa rfl (erg (erc rfl (erc (erD Ar _) (erc (erD An _) rfl)))) Ax)) (Jy g7) (sp 2 rfl (evn (kJ1 h _ (okr rfl)))))
 ·exact qg 15 g5 rfl (sp 7 rfl (evn (kJ1 h _ (okr rfl))))
def DI (a0 : Y29) (rec : Int -> Option (Sum (Unit) (Bool))) (y1 : Int) : Option (Sum (Unit) (Bool)) := cond (decide (y1 < (List.length a0.2.1 : Int))) (Ad (AO a0.2.1 y1) fun e11 => Ad (BH a0.1 e11) fun v13 => cond (!v13) (some (.inr false)) (Ad (AO a0.2.2 y1) fun e16 => Ad (DT e16 e11.2) fun v18 => cond (!v18) (some (.inr false)) (rec (IntKind.i64.wrap (y1 + 1))))) (some (.inl ()))
def Cr (a0 : Y29) : Option (Bool) := Ad (A9 a0.1) fun v2 => cond (!v2) (some false) (cond (decide (4 < (List.length a0.2.1 : Int))) (some false) (cond ((List.length a0.2.2 : Int) != (List.length a0.2.1 : Int)) (some false) (Ad (Ao (DI a0) fz 0) fun o1 => (match o1 with
  | .inl _ => (some true)
  | .inr r => some r))))
theorem Ly {a0 : Y29} {r : Bool} (h : Cr a0 = some r) : Ai Tryz.prog 9 [.agg (Bx a0)] (.bool r) := by
 unfold Cr at h
 refine st pL rfl (rn 2 rfl (Ac fun K1 hK1 => rs (sp 2 rfl (?_))))
 obtain ⟨v2,g3,h⟩ := Aa h
 refine qC (qa rfl (erg (erc (erD AH _) rfl)) Ax) (CB g3) (sp 2 rfl (?_))
 rcases Ab h with ⟨g4,h⟩ | ⟨g4,h⟩
 ·exact qg 11 g4 rfl (sp 14 rfl (evn (qT rfl rfl (rn 1 rfl (Af ((by cases h; exact ⟨.inl rfl,rfl⟩)))))))
 ·refine qg 11 g4 rfl (sp 6 rfl (?_))
  rcases Ab h with ⟨g5,h⟩ | ⟨g5,h⟩
  ·exact qg 17 g5 rfl (sp 8 rfl (evn (qk [3,25] rfl (qT rfl rfl (rn 1 rfl (Af ((by cases h; exact ⟨.inl rfl,rfl⟩))))))))
  ·refine qg 17 g5 rfl (sp 8 rfl (evn ?_))
   rcases Ab h with ⟨g6,h⟩ | ⟨g6,h⟩
   ·exact qT rfl g6 (rn 1 rfl (Af ((by cases h; exact ⟨.inl rfl,rfl⟩))))
   ·refine qF rfl g6 (Ae (hK1 _ (Ac fun K7 hK7 => rn 1 rfl ?_)))
    obtain ⟨o1,hl,hr1⟩ := Aa h
    have kXB1 : (.inl ()) = o1 -> Jn K7 [] := by
     intro h σ' hk
     subst h
     replace h := hr1
     try dsimp only at h
     exact hK7 _ (lh hk rfl (rn 1 rfl (Af ((by cases h; exact ⟨.inl rfl,rfl⟩)))))
    refine AB (fun (y1 : Int) => [(3,.box [dL At a0.1,dL AW a0.2.1,dL Bf a0.2.2]),(27,dL AW a0.2.1),(28,nI (List.length a0.2.1 : Int)),(29,nI y1)]) _ _ _ _ hl (okr rfl) (fun _ => rfl) ?_
    rintro m y1 N h hN
    unfold DI at h
    refine rn 1 rfl (Ac fun K8 hK8 => ?_)
    rcases Ab h with ⟨g9,h⟩ | ⟨g9,h⟩
    ·refine qT rfl g9 (Ae (hK8 _ (Ac fun K10 hK10 => Az (rs (sp 1 rfl (?_))))))
     obtain ⟨e11,g12,h⟩ := Aa h
     refine qI rfl C1 g12 (sp 4 rfl (evn (rd (by kernel_rfl) (sd 3 rfl (?_)))))
     obtain ⟨v13,g14,h⟩ := Aa h
     refine ed rfl (qC (qa rfl (erg (erc (erD AH _) rfl)) (qa rfl (erg (erc rfl (erc (erD BB _) (erc (erD An _) (erc rfl (erc (erD Ar _) (erc (erD An _) rfl))))))) Ax)) (Ka g14) (sd 2 rfl (?_)))
     rcases Ab h with ⟨g15,h⟩ | ⟨g15,h⟩
     ·exact qgd 39 g15 rfl (sd 10 rfl (CK (qT rfl rfl (rn 1 rfl (qk [2] rfl (Af ((by cases h; cases hr1; exact ⟨.inl rfl,rfl⟩))))))))
     ·refine qgd 39 g15 rfl (sd 3 rfl (?_))
      obtain ⟨e16,g17,h⟩ := Aa h
      refine ed rfl (oGR rfl rfl (qI rfl Jj g17 (sd 3 rfl (?_))))
      obtain ⟨v18,g19,h⟩ := Aa h
      refine ed rfl (oGR rfl rfl (qC (qa rfl (erg (erc rfl (erc (erD Ar _) (erc (erD An _) rfl)))) (qa rfl (erg (erc rfl (erc (erD Ar _) (erc (erD An _) rfl)))) Ax)) (Jy g19) (sd 2 rfl (CK ?_))))
      rcases Ab h with ⟨g20,h⟩ | ⟨g20,h⟩
      ·exact qT rfl g20 (rn 1 rfl (Af ((by cases h; cases hr1; exact ⟨.inl rfl,rfl⟩))))
      ·exact qF rfl g20 (Ae (hK10 _ (rg (sp 2 rfl (evn (hN _ _ h (okr rfl)))))))
    ·exact qF rfl g9 (Aq (kXB1 (Option.some.inj h) _ trivial))
def WZ (x : Y32) : List V := [nI x.1,dL Ah x.2]
theorem oM (x : Y32) : (WZ x).length = 2 := rfl
theorem mj (x : Y32) : erL (WZ x) = Gs x := (erc rfl (erc (erD A3 _) rfl))
def Dq (v1 : Y32 × Bool) (x6 : Bool) : Option (Y32 × Bool) := some (v1.1,x6)
def Dp (a1 : Y34) (v1 : Y32 × Bool) (x4 : Bool) : Option (Y32 × Bool) := cond x4 (cond (a1.2.1.1 == v1.1.1) (Dq v1 (a1.2.2.1 == v1.1.1)) (Dq v1 false)) (Dq v1 false)
def Gw (a0 : List AU) (a1 : Y34) : Option (Y32 × Bool) := Ad (BD a0 a1.1) fun v1 => cond v1.2 (Ad (AF a1.2.1) fun v10 => cond v10 (Ad (AF a1.2.2) fun v13 => Dp a1 v1 v13) (Dp a1 v1 false)) (Dp a1 v1 false)
theorem Ob {a0 : List AU} {a1 : Y34} {r : Y32 × Bool} (h : Gw a0 a1 = some r) : Ai Tryz.prog 147 [.agg [dL At a0],.agg (Gc a1)] (.tup [.agg (WZ r.1),.bool r.2]) := by
 unfold Gw at h
 refine st iO rfl (rn 1 rfl (rs (sp 3 rfl (?_))))
 obtain ⟨v1,g2,h⟩ := Aa h
 refine qC (qa rfl (erg (erc (erD AH _) rfl)) (qs rfl Ax)) (EC g2) (sp 6 rfl (evn (rk fun K3 hK3 => ?_)))
 have kJ1 : ∀ {x4 : Bool},Dp a1 v1 x4 = some r -> Jn K3 [(3,.box [.str a1.1,nI a1.2.1.1,dL AJ a1.2.1.2,nI a1.2.2.1,dL AJ a1.2.2.2]),(4,.box [nI 0,oL 42 Ah []]),(6,.box [nI v1.1.1,oL 42 Ah v1.1.2]),(7,.bool x4)] := by
  intro x4 h σ' hk
  unfold Dp at h
  refine hK3 _ (lh hk rfl (rdk (by kernel_rfl) fun K5 hK5 => ?_))
  have kJ2 : ∀ {x6 : Bool},Dq v1 x6 = some r -> Jn K5 [(4,.box [nI v1.1.1,dL Ah v1.1.2]),(5,.bool x6)] := by
   intro x6 h σ' hk
   unfold Dq at h
   exact hK5 _ (lh hk rfl (Af ((by cases h; exact ⟨.inl rfl,rfl⟩))))
  refine sd 3 rfl (?_)
  rcases Ab h with ⟨g7,h⟩ | ⟨g7,h⟩
  ·refine qgd 28 g7 rfl (sd 8 rfl (?_))
   rcases Ab h with ⟨g8,h⟩ | ⟨g8,h⟩
   ·exact qgd 36 g8 rfl (sd 9 rfl (CK (kJ2 h _ (okr rfl))))
   ·exact qgd 36 g8 rfl (sd 9 rfl (CK (kJ2 h _ (okr rfl))))
  ·exact qgd 28 g7 rfl (sd 17 rfl (CK (kJ2 h _ (okr rfl))))
 refine sp 2 rfl (?_)
 rcases Ab h with ⟨g9,h⟩ | ⟨g9,h⟩
 ·refine qg 16 g9 rfl (sp 2 rfl (?_))
  obtain ⟨v10,g11,h⟩ := Aa h
  refine oGR rfl rfl (qC (qa rfl (erg (erc rfl (erc (erD Ar _) rfl))) Ax) (AN g11) (sp 2 rfl (?_)))
  rcases Ab h with ⟨g12,h⟩ | ⟨g12,h⟩
  ·refine qg 21 g12 rfl (sp 2 rfl (?_))
   obtain ⟨v13,g14,h⟩ := Aa h
   exact oGR rfl rfl (qC (qa rfl (erg (erc rfl (erc (erD Ar _) rfl))) Ax) (AN g14) (sp 2 rfl (evn (kJ1 h _ (okr rfl)))))
  ·exact qg 21 g12 rfl (sp 5 rfl (evn (kJ1 h _ (okr rfl))))
 ·exact qg 16 g9 rfl (sp 10 rfl (evn (kJ1 h _ (okr rfl))))
def D0 (x4 : Bool) : Option (Bool) := some x4
def Cx (a0 : Y32) (a1 : List Int) : Option (Bool) := Ad (H7 a0.2 a1) fun v1 => Ad (AF a0) fun v5 => cond v5 (D0 v1.2) (D0 false)
theorem Gg {a0 : Y32} {a1 : List Int} {r : Bool} (h : Cx a0 a1 = some r) : Ai Tryz.prog 148 [.agg (Gs a0),dL As a1] (.bool r) := by
 unfold Cx at h
 refine st iP rfl (rn 1 rfl (rs (sp 3 rfl (?_))))
 obtain ⟨v1,g2,h⟩ := Aa h
 refine qC (qa rfl (erD Ar _) (qa rfl (erD An _) Ax)) (OH g2) (sp 5 rfl (evn (rk fun K3 hK3 => ?_)))
 have kJ1 : ∀ {x4 : Bool},D0 x4 = some r -> Jn K3 [(4,.bool x4)] := by
  intro x4 h σ' hk
  unfold D0 at h
  exact hK3 _ (lh hk rfl (Af ((by cases h; exact ⟨.inl rfl,rfl⟩))))
 refine sp 1 rfl (?_)
 obtain ⟨v5,g6,h⟩ := Aa h
 refine qC (qa rfl (erg (erc rfl (erc (erD Ar _) rfl))) Ax) (AN g6) (sp 1 rfl (?_))
 rcases Ab h with ⟨g7,h⟩ | ⟨g7,h⟩
 ·exact qg 16 g7 rfl (sp 3 rfl (evn (kJ1 h _ (okr rfl))))
 ·exact qg 16 g7 rfl (sp 3 rfl (evn (kJ1 h _ (okr rfl))))
def CE (rec : ((List (List Int)) × Int) -> Option ((List (List Int)))) (y2 : Int) (x14 : List (List Int)) : Option ((List (List Int))) := rec (x14,(IntKind.i64.wrap (y2 + 1)))
def CD (a1 : Y34) (v1 : Y32 × Bool) (rec : ((List (List Int)) × Int) -> Option ((List (List Int)))) (s : (List (List Int)) × Int) : Option ((List (List Int))) := match s with
  | (y1,y2) => cond (decide (y2 < (List.length a1.2.1.2 : Int))) (Ad (AO a1.2.1.2 y2) fun e10 => Ad (Cx v1.1 e10) fun v12 => cond (!v12) (Ad (A5 e10) fun v16 => chk (List.length y1 + List.length [v16] <= lim) (CE rec y2 (y1 ++ [v16]))) (CE rec y2 y1)) (some y1)
def CG (rec : ((List (List Int)) × Int) -> Option ((List (List Int)))) (y4 : Int) (x28 : List (List Int)) : Option ((List (List Int))) := rec (x28,(IntKind.i64.wrap (y4 + 1)))
def CF (rec : ((List (List Int)) × Int) -> Option ((List (List Int)))) (y3 : List (List Int)) (y4 : Int) (e24 : List Int) (x27 : Bool) : Option ((List (List Int))) := cond x27 (Ad (A5 e24) fun v30 => chk (List.length y3 + List.length [v30] <= lim) (CG rec y4 (y3 ++ [v30]))) (CG rec y4 y3)
def BU (a1 : Y34) (v1 : Y32 × Bool) (rec : ((List (List Int)) × Int) -> Option ((List (List Int)))) (s : (List (List Int)) × Int) : Option ((List (List Int))) := match s with
  | (y3,y4) => cond (decide (y4 < (List.length a1.2.2.2 : Int))) (Ad (AO a1.2.2.2 y4) fun e24 => Ad (Cx v1.1 e24) fun v33 => cond v33 (Ad (Cx a1.2.1 e24) fun v36 => CF rec y3 y4 e24 (!v36)) (CF rec y3 y4 e24 false)) (some y3)
def D1 (a0 : List AU) (a1 : Y34) : Option (Y34 × Bool) := Ad (Gw a0 a1) fun v1 => cond (!v1.2) (some (([],(0,[]),(0,[])),false)) (Ad (Ao (CD a1 v1) fz (([] : List (List Int)),0)) fun z6 => Ad (Ao (BU a1 v1) fz (([] : List (List Int)),0)) fun z20 => some ((a1.1,(v1.1.1,z6),(v1.1.1,z20)),true))
theorem LK {a0 : List AU} {a1 : Y34} {r : Y34 × Bool} (h : D1 a0 a1 = some r) : Ai Tryz.prog 87 [.agg [dL At a0],.agg (Gc a1)] (.tup [.agg (C3 r.1),.bool r.2]) := by
 unfold D1 at h
 refine st nN rfl (rn 1 rfl (rs (sp 2 rfl (?_))))
 obtain ⟨v1,g2,h⟩ := Aa h
 refine qC (qa rfl (erg (erc (erD AH _) rfl)) (qa rfl (erg (erc rfl (erc rfl (erc (erD Ar _) (erc rfl (erc (erD Ar _) rfl)))))) Ax)) (Ob g2) (sp 6 rfl (evn (Ac fun K3 hK3 => rn 1 rfl ?_)))
 rcases Ab h with ⟨g4,h⟩ | ⟨g4,h⟩
 ·exact qT rfl g4 (rn 1 rfl (Af ((by cases h; exact ⟨.inl rfl,rfl⟩))))
 ·refine qF rfl g4 (Ae (hK3 _ (rn 1 rfl (Ac fun K5 hK5 => rn 1 rfl (qk [3,4,6,8,33,34,35] rfl ?_)))))
  obtain ⟨o1,hl,hr1⟩ := Aa h
  have kXB1 : ∀ {z6 : List (List Int)},z6 = o1 -> Jn K5 [(3,.box [.str a1.1,nI a1.2.1.1,dL AJ a1.2.1.2,nI a1.2.2.1,dL AJ a1.2.2.2]),(4,.box [.str [],nI 0,oL 42 Ah [],nI 0,oL 42 Ah []]),(6,.box [nI v1.1.1,dL Ah v1.1.2]),(8,.box [.str a1.1,nI v1.1.1,oL 42 Ah z6,nI v1.1.1,oL 42 Ah []])] := by
   intro z6 h σ' hk
   subst h
   replace h := hr1
   try dsimp only at h
   refine hK5 _ (lh hk rfl (Ac fun K19 hK19 => rn 1 rfl ?_))
   obtain ⟨o3,hl,hr3⟩ := Aa h
   have kXB3 : ∀ {z20 : List (List Int)},z20 = o3 -> Jn K19 [(4,.box [.str [],nI 0,oL 42 Ah [],nI 0,oL 42 Ah []]),(8,.box [.str a1.1,nI v1.1.1,oL 42 Ah z6,nI v1.1.1,oL 42 Ah z20])] := by
    intro z20 h σ' hk
    subst h
    replace h := hr3
    try dsimp only at h
    exact hK19 _ (lh hk rfl (rn 1 rfl (Af ((by cases h; exact ⟨.inl rfl,rfl⟩)))))
   refine AB (fun (s : (List (List Int)) × Int) => match s with | (y3,y4) => [(3,.box [.str a1.1,nI a1.2.1.1,dL AJ a1.2.1.2,nI a1.2.2.1,dL AJ a1.2.2.2]),(4,.box [.str [],nI 0,oL 42 Ah [],nI 0,oL 42 Ah []]),(6,.box [nI v1.1.1,dL Ah v1.1.2]),(8,.box [.str a1.1,nI v1.1.1,oL 42 Ah z6,nI v1.1.1,oL 42 Ah y3]),(55,dL AJ a1.2.2.2),(56,nI (List.length a1.2.2.2 : Int)),(57,nI y4)]) _ _ _ _ hl (okr rfl) (fun _ => rfl) ?_
   rintro m ⟨y3,y4⟩ N h hN
   unfold BU at h
   dsimp only at h
   refine rn 1 rfl (Ac fun K21 hK21 => ?_)
   rcases Ab h with ⟨g22,h⟩ | ⟨g22,h⟩
   ·refine qT rfl g22 (Ae (hK21 _ (Ac fun K23 hK23 => Az (rs ?_))))
    obtain ⟨e24,g25,h⟩ := Aa h
    refine qI rfl Br g25 (sp 2 rfl (evn (rk fun K26 hK26 => ?_)))
    have kJ4 : ∀ {x27 : Bool},CF (Ao (BU a1 v1) m) y3 y4 e24 x27 = some o3 -> Jn K26 [(3,.box [.str a1.1,nI a1.2.1.1,dL AJ a1.2.1.2,nI a1.2.2.1,dL AJ a1.2.2.2]),(4,.box [.str [],nI 0,oL 42 Ah [],nI 0,oL 42 Ah []]),(6,.box [nI v1.1.1,dL Ah v1.1.2]),(8,.box [.str a1.1,nI v1.1.1,oL 42 Ah z6,nI v1.1.1,oL 42 Ah y3]),(12,dL As e24),(55,dL AJ a1.2.2.2),(56,nI (List.length a1.2.2.2 : Int)),(57,nI y4),(70,.bool x27)] := by
     intro x27 h σ' hk
     unfold CF at h
     refine hK26 _ (lh hk rfl ?_)
     have kJ5 : ∀ {x28 : List (List Int)},CG (Ao (BU a1 v1) m) y4 x28 = some o3 -> Jn K23 [(3,.box [.str a1.1,nI a1.2.1.1,dL AJ a1.2.1.2,nI a1.2.2.1,dL AJ a1.2.2.2]),(4,.box [.str [],nI 0,oL 42 Ah [],nI 0,oL 42 Ah []]),(6,.box [nI v1.1.1,dL Ah v1.1.2]),(8,.box [.str a1.1,nI v1.1.1,oL 42 Ah z6,nI v1.1.1,oL 42 Ah x28]),(55,dL AJ a1.2.2.2),(56,nI (List.length a1.2.2.2 : Int)),(57,nI y4)] := by
      intro x28 h σ' hk
      unfold CG at h
      exact hK23 _ (lh hk rfl (rg (sp 2 rfl (evn (hN _ _ h (okr rfl))))))
     rcases Ab h with ⟨g29,h⟩ | ⟨g29,h⟩
     ·refine qT rfl g29 (rgd (by kernel_rfl) (sd 4 rfl (?_)))
      obtain ⟨v30,g31,h⟩ := Aa h
      refine ed rfl (qC (qa rfl (erD An _) Ax) (BE g31) (ed rfl (qBs Ah [v30] rfl rfl rfl A8 (?_))))
      obtain ⟨g32,h⟩ := Aj h
      exact ed rfl (qA Ah y3 [v30] rfl rfl (Av A8 [v30]) rfl g32 (sd 3 rfl (CK (kJ5 h _ (okr rfl)))))
     ·exact qF rfl g29 (Ae (kJ5 h _ (okr rfl)))
    refine sp 2 rfl (?_)
    obtain ⟨v33,g34,h⟩ := Aa h
    refine qC (qa rfl (erg (erc rfl (erc (erD A3 _) rfl))) (qa rfl (erD An _) Ax)) (Gg g34) (sp 1 rfl (?_))
    rcases Ab h with ⟨g35,h⟩ | ⟨g35,h⟩
    ·refine qg 64 g35 rfl (sp 3 rfl (?_))
     obtain ⟨v36,g37,h⟩ := Aa h
     exact oGR rfl rfl (qC (qa rfl (erg (erc rfl (erc (erD Ar _) rfl))) (qa rfl (erD An _) Ax)) (Gg g37) (sp 2 rfl (evn (kJ4 h _ (okr rfl)))))
    ·exact qg 64 g35 rfl (sp 6 rfl (evn (kJ4 h _ (okr rfl))))
   ·exact qF rfl g22 (Aq (kXB3 (Option.some.inj h) _ (okr rfl)))
  refine AB (fun (s : (List (List Int)) × Int) => match s with | (y1,y2) => [(3,.box [.str a1.1,nI a1.2.1.1,dL AJ a1.2.1.2,nI a1.2.2.1,dL AJ a1.2.2.2]),(4,.box [.str [],nI 0,oL 42 Ah [],nI 0,oL 42 Ah []]),(6,.box [nI v1.1.1,dL Ah v1.1.2]),(8,.box [.str a1.1,nI v1.1.1,oL 42 Ah y1,nI v1.1.1,oL 42 Ah []]),(33,dL AJ a1.2.1.2),(34,nI (List.length a1.2.1.2 : Int)),(35,nI y2)]) _ _ _ _ hl (okr rfl) (fun _ => rfl) ?_
  rintro m ⟨y1,y2⟩ N h hN
  unfold CD at h
  dsimp only at h
  refine rn 1 rfl (Ac fun K7 hK7 => ?_)
  rcases Ab h with ⟨g8,h⟩ | ⟨g8,h⟩
  ·refine qT rfl g8 (Ae (hK7 _ (Ac fun K9 hK9 => Az (rs ?_))))
   obtain ⟨e10,g11,h⟩ := Aa h
   refine qI rfl Br g11 (sp 2 rfl (evn (rs (sp 2 rfl (?_)))))
   obtain ⟨v12,g13,h⟩ := Aa h
   refine qC (qa rfl (erg (erc rfl (erc (erD A3 _) rfl))) (qa rfl (erD An _) Ax)) (Gg g13) (sp 1 rfl (evn ?_))
   have kJ2 : ∀ {x14 : List (List Int)},CE (Ao (CD a1 v1) m) y2 x14 = some o1 -> Jn K9 [(3,.box [.str a1.1,nI a1.2.1.1,dL AJ a1.2.1.2,nI a1.2.2.1,dL AJ a1.2.2.2]),(4,.box [.str [],nI 0,oL 42 Ah [],nI 0,oL 42 Ah []]),(6,.box [nI v1.1.1,dL Ah v1.1.2]),(8,.box [.str a1.1,nI v1.1.1,oL 42 Ah x14,nI v1.1.1,oL 42 Ah []]),(33,dL AJ a1.2.1.2),(34,nI (List.length a1.2.1.2 : Int)),(35,nI y2)] := by
    intro x14 h σ' hk
    unfold CE at h
    exact hK9 _ (lh hk rfl (rg (sp 2 rfl (evn (hN _ _ h (okr rfl))))))
   rcases Ab h with ⟨g15,h⟩ | ⟨g15,h⟩
   ·refine qT rfl g15 (rgd (by kernel_rfl) (sd 4 rfl (?_)))
    obtain ⟨v16,g17,h⟩ := Aa h
    refine ed rfl (qC (qa rfl (erD An _) Ax) (BE g17) (ed rfl (qBs Ah [v16] rfl rfl rfl A8 (?_))))
    obtain ⟨g18,h⟩ := Aj h
    exact ed rfl (qA Ah y1 [v16] rfl rfl (Av A8 [v16]) rfl g18 (sd 3 rfl (CK (kJ2 h _ (okr rfl)))))
   ·exact qF rfl g15 (Ae (kJ2 h _ (okr rfl)))
  ·exact qF rfl g8 (Aq (kXB1 (Option.some.inj h) _ (okr rfl)))
end Go.Proofs.YtpcbnmcfplioeaaGreat
