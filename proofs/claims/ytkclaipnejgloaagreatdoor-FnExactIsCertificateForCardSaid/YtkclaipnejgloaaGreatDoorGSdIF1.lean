/-
  Functions of the program as typed functions, printed by gen.py, and that the program's functions do what they say. No conditions.
-/
import Derived.Test.YtkclaipnejgloaaGreatDoorGScIF1
namespace Go.Proofs.YtkclaipnejgloaaGreatDoor
open Go.RowKit
set_option linter.unusedVariables false
set_option maxRecDepth 100000
set_option maxHeartbeats 1000000
def C2 (a0 : List Int) (a1 : List Int) (rec : Int -> Option (Sum (Unit) (Int))) (y1 : Int) : Option (Sum (Unit) (Int)):=cond (decide (0 <= y1)) (Ad (AA a0 y1) fun e16 => Ad (AA a1 y1) fun e18 => cond (e16 != e18) (Ad (AA a0 y1) fun e21 => Ad (AA a1 y1) fun e23 => Ad (Cd e21 e23) fun v25 => some (.inr v25)) (rec (IntKind.i64.wrap (y1 - 1)))) (some (.inl ()))
def Es (a0 : List Int) (a1 : List Int) : Option (Int):=Ad (BZ a0) fun v2 => cond (!v2) (some 0) (Ad (BZ a1) fun v5 => cond (!v5) (some 0) (cond ((List.length a0 : Int) != (List.length a1 : Int)) (Ad (Cd (List.length a0 : Int) (List.length a1 : Int)) fun v10 => some v10) (Ad (Ah (C2 a0 a1) fz (IntKind.i64.wrap ((List.length a0 : Int) - 1))) fun o1 => (match o1 with
  | .inl _ => (some 0)
  | .inr r => some r))))
theorem Kk {a0 : List Int} {a1 : List Int} {r : Int} (h : Es a0 a1 = some r) : Ag Tryz.prog 145 [.agg [dL Ak a0],.agg [dL Ak a1]] (nI r):=by
 unfold Es at h
 refine st cx rfl (rn 1 rfl (Ac fun K1 hK1 => rs (sp 1 rfl (?_))))
 obtain ⟨v2,g3,h⟩:=Aa h
 refine qC (qa rfl (erg (erc (erD Al _) rfl)) Aw) (Fc g3) (sp 2 rfl (?_))
 rcases Ab h with ⟨g4,h⟩ | ⟨g4,h⟩
 ·exact qg 9 g4 rfl (sp 4 rfl (evn (qT rfl rfl (rn 1 rfl (Af ((by cases h; exact ⟨.inl rfl,rfl⟩)))))))
 ·refine qg 9 g4 rfl (sp 1 rfl (?_))
  obtain ⟨v5,g6,h⟩:=Aa h
  refine oGR rfl rfl (qC (qa rfl (erg (erc (erD Al _) rfl)) Aw) (Fc g6) (sp 2 rfl (evn ?_)))
  rcases Ab h with ⟨g7,h⟩ | ⟨g7,h⟩
  ·exact qT rfl g7 (rn 1 rfl (Af ((by cases h; exact ⟨.inl rfl,rfl⟩))))
  ·refine qF rfl g7 (Ae (hK1 _ (Ac fun K8 hK8 => rn 1 rfl (qk [2,3,20] rfl ?_))))
   rcases Ab h with ⟨g9,h⟩ | ⟨g9,h⟩
   ·refine qT rfl g9 (rs (sp 6 rfl (?_)))
    obtain ⟨v10,g11,h⟩:=Aa h
    exact qC (qs rfl (qs rfl Aw)) (ES g11) (sp 1 rfl (evn (Af ((by cases h; exact ⟨.inl rfl,rfl⟩)))))
   ·refine qF rfl g9 (Ae (hK8 _ (Ac fun K12 hK12 => rn 1 rfl ?_)))
    obtain ⟨o1,hl,hr1⟩:=Aa h
    have kXB1 : (.inl ()) = o1 -> Jn K12 []:=by
     intro h σ' hk
     subst h
     replace h:=hr1
     try dsimp only at h
     exact hK12 _ (lh hk rfl (rn 1 rfl (Af ((by cases h; exact ⟨.inl rfl,rfl⟩)))))
    refine Aq (fun (y1 : Int) => [(2,.box [dL Ak a0]),(3,.box [dL Ak a1]),(5,nI y1)]) _ _ _ _ hl (okr rfl) (fun _ => rfl) ?_
    rintro m y1 N h hN
    unfold C2 at h
    refine Ac fun K13 hK13 => rn 1 rfl ?_
    rcases Ab h with ⟨g14,h⟩ | ⟨g14,h⟩
    ·refine qT rfl g14 (Ae (hK13 _ (Ac fun K15 hK15 => Ap (rd (by kernel_rfl) (sd 3 rfl (?_))))))
     obtain ⟨e16,g17,h⟩:=Aa h
     refine ed rfl (qI rfl Ao g17 (sd 4 rfl (?_)))
     obtain ⟨e18,g19,h⟩:=Aa h
     refine ed rfl (qI rfl Ao g19 (sd 2 rfl (Ea ?_)))
     rcases Ab h with ⟨g20,h⟩ | ⟨g20,h⟩
     ·refine qT rfl g20 (rd (by kernel_rfl) (sd 3 rfl (?_)))
      obtain ⟨e21,g22,h⟩:=Aa h
      refine ed rfl (qI rfl Ao g22 (sd 4 rfl (?_)))
      obtain ⟨e23,g24,h⟩:=Aa h
      refine ed rfl (qI rfl Ao g24 (sd 1 rfl (?_)))
      obtain ⟨v25,g26,h⟩:=Aa h
      exact ed rfl (qC (qs rfl (qs rfl Aw)) (ES g26) (sd 1 rfl (Ea (Af ((by cases h; cases hr1; exact ⟨.inl rfl,rfl⟩))))))
     ·exact qF rfl g20 (Ae (hK15 _ (qk [2,3,5] rfl (rg (sp 3 rfl (evn (hN _ _ h (okr rfl))))))))
    ·exact qF rfl g14 (Aj (kXB1 (Option.some.inj h) _ trivial))
def Fe (a0 : List Int) (rec : Int -> Option (Sum (Unit) (Bool))) (y1 : Int) : Option (Sum (Unit) (Bool)):=cond (decide (y1 < (List.length a0 : Int))) (Ad (AA a0 y1) fun e11 => cond (decide (e11 < 0)) (some (.inr false)) (rec (IntKind.i64.wrap (y1 + 1)))) (some (.inl ()))
def BS (x23 : Bool) : Option (Bool):=some x23
def Ej (a0 : List Int) (a1 : List Br) (a2 : Int) (a3 : Int) : Option (Bool):=Ad (DU a1) fun v1 => cond (decide (a2 < 0)) (some false) (cond (decide (v1.2 < 1)) (some false) (cond (decide (100 < v1.2)) (some false) (Ad (Ah (Fe a0) fz 0) fun o1 => (match o1 with
  | .inl _ => (Ad (E5 a2 v1.2) fun v14 => Ad (DT a0 v1.1) fun v16 => Ad (E5 a3 v1.2) fun v18 => Ad (E4 v16.1 v18.1) fun v20 => cond v14.2 (cond v16.2 (cond v18.2 (cond v20.2 (Ad (Es v14.1 v20.1) fun v28 => BS (decide (v28 <= 0))) (BS false)) (BS false)) (BS false)) (BS false))
  | .inr r => some r))))
theorem IK {a0 : List Int} {a1 : List Br} {a2 : Int} {a3 : Int} {r : Bool} (h : Ej a0 a1 a2 a3 = some r) : Ag Tryz.prog 110 [dL Ak a0,dL A4 a1,nI a2,nI a3] (.bool r):=by
 unfold Ej at h
 refine st bL rfl (rn 1 rfl (rs (sp 1 rfl (?_))))
 obtain ⟨v1,g2,h⟩:=Aa h
 refine qC (qa rfl (erD FK _) Aw) (Kd g2) (sp 5 rfl (evn (Ac fun K3 hK3 => rs (sp 3 rfl (?_)))))
 rcases Ab h with ⟨g4,h⟩ | ⟨g4,h⟩
 ·exact qg 28 g4 rfl (sp 7 rfl (evn (qT rfl rfl (rn 1 rfl (Af ((by cases h; exact ⟨.inl rfl,rfl⟩)))))))
 ·refine qg 28 g4 rfl (sp 4 rfl (?_))
  rcases Ab h with ⟨g5,h⟩ | ⟨g5,h⟩
  ·exact qg 32 g5 rfl (sp 3 rfl (evn (qk [0,2,3,9,10,35] rfl (qT rfl rfl (rn 1 rfl (Af ((by cases h; exact ⟨.inl rfl,rfl⟩))))))))
  ·refine qg 32 g5 rfl (sp 3 rfl (evn ?_))
   rcases Ab h with ⟨g6,h⟩ | ⟨g6,h⟩
   ·exact qT rfl g6 (rn 1 rfl (Af ((by cases h; exact ⟨.inl rfl,rfl⟩))))
   ·refine qF rfl g6 (Ae (hK3 _ (Ac fun K7 hK7 => rn 1 rfl ?_)))
    obtain ⟨o1,hl,hr1⟩:=Aa h
    have kXB1 : (.inl ()) = o1 -> Jn K7 [(0,dL Ak a0),(2,nI a2),(3,nI a3),(9,oL 3 Ak v1.1),(10,nI v1.2)]:=by
     intro h σ' hk
     subst h
     replace h:=hr1
     try dsimp only at h
     refine hK7 _ (lh hk rfl (rs (sp 2 rfl (?_))))
     obtain ⟨v14,g15,h⟩:=Aa h
     refine qC (qs rfl (qs rfl Aw)) (Ih g15) (sp 6 rfl (evn (rs (sp 2 rfl (?_)))))
     obtain ⟨v16,g17,h⟩:=Aa h
     refine qC (qa rfl (erD Al _) (qa rfl (erD Al _) Aw)) (Kc g17) (sp 6 rfl (evn (rs (sp 2 rfl (?_)))))
     obtain ⟨v18,g19,h⟩:=Aa h
     refine qC (qs rfl (qs rfl Aw)) (Ih g19) (sp 6 rfl (evn (rs (sp 2 rfl (?_)))))
     obtain ⟨v20,g21,h⟩:=Aa h
     refine qC (qa rfl (erg (erc (erD Al _) rfl)) (qa rfl (erg (erc (erD Al _) rfl)) Aw)) (Ig g21) (sp 6 rfl (evn (rk fun K22 hK22 => ?_)))
     have kJ2 : ∀ {x23 : Bool},BS x23 = some r -> Jn K22 [(8,.bool x23)]:=by
      intro x23 h σ' hk
      unfold BS at h
      exact hK22 _ (lh hk rfl (Af ((by cases h; exact ⟨.inl rfl,rfl⟩))))
     refine sp 2 rfl (?_)
     rcases Ab h with ⟨g24,h⟩ | ⟨g24,h⟩
     ·refine qg 70 g24 rfl (sp 3 rfl (?_))
      rcases Ab h with ⟨g25,h⟩ | ⟨g25,h⟩
      ·refine qg 73 g25 rfl (sp 3 rfl (?_))
       rcases Ab h with ⟨g26,h⟩ | ⟨g26,h⟩
       ·refine qg 76 g26 rfl (sp 3 rfl (?_))
        rcases Ab h with ⟨g27,h⟩ | ⟨g27,h⟩
        ·refine qg 79 g27 rfl (sp 2 rfl (?_))
         obtain ⟨v28,g29,h⟩:=Aa h
         exact oGR rfl rfl (qC (qa rfl (erg (erc (erD Al _) rfl)) (qa rfl (erg (erc (erD Al _) rfl)) Aw)) (Kk g29) (sp 3 rfl (evn (kJ2 h _ (okr rfl)))))
        ·exact qg 79 g27 rfl (sp 6 rfl (evn (kJ2 h _ (okr rfl))))
       ·exact qg 76 g26 rfl (sp 9 rfl (evn (kJ2 h _ (okr rfl))))
      ·exact qg 73 g25 rfl (sp 12 rfl (evn (kJ2 h _ (okr rfl))))
     ·exact qg 70 g24 rfl (sp 15 rfl (evn (kJ2 h _ (okr rfl))))
    refine Aq (fun (y1 : Int) => [(0,dL Ak a0),(2,nI a2),(3,nI a3),(9,oL 3 Ak v1.1),(10,nI v1.2),(36,dL Ak a0),(37,nI (List.length a0 : Int)),(38,nI y1)]) _ _ _ _ hl (okr rfl) (fun _ => rfl) ?_
    rintro m y1 N h hN
    unfold Fe at h
    refine rn 1 rfl (Ac fun K8 hK8 => ?_)
    rcases Ab h with ⟨g9,h⟩ | ⟨g9,h⟩
    ·refine qT rfl g9 (Ae (hK8 _ (Ac fun K10 hK10 => Ap (rs ?_))))
     obtain ⟨e11,g12,h⟩:=Aa h
     refine qI rfl Ao g12 (sp 2 rfl (evn (rn 1 rfl ?_)))
     rcases Ab h with ⟨g13,h⟩ | ⟨g13,h⟩
     ·exact qT rfl g13 (rn 1 rfl (Af ((by cases h; cases hr1; exact ⟨.inl rfl,rfl⟩))))
     ·exact qF rfl g13 (Ae (hK10 _ (rg (sp 2 rfl (evn (hN _ _ h (okr rfl)))))))
    ·exact qF rfl g9 (Aj (kXB1 (Option.some.inj h) _ (okr rfl)))
def DD (a0 : List Int) (a1 : List Br) (a2 : Int) : Option (Bool):=Ad (Ej a0 a1 a2 1) fun v1 => some v1
theorem JR {a0 : List Int} {a1 : List Br} {a2 : Int} {r : Bool} (h : DD a0 a1 a2 = some r) : Ag Tryz.prog 60 [dL Ak a0,dL A4 a1,nI a2] (.bool r):=by
 unfold DD at h
 refine st iH rfl (rn 1 rfl (rs (sp 3 rfl (?_))))
 obtain ⟨v1,g2,h⟩:=Aa h
 exact qC (qa rfl (erD Al _) (qa rfl (erD FK _) (qs rfl (qs rfl Aw)))) (IK g2) (sp 1 rfl (evn (Af ((by cases h; exact ⟨.inl rfl,rfl⟩)))))
def GO (a0 : Y41) (a1 : Int) : Option (Int):=Ad (BF a0) fun v2 => cond (!v2) (some 0) (Ad (A2 a1 0 1000000) fun v5 => cond (!v5) (some 0) (some (IntKind.i64.wrap ((IntKind.i64.wrap ((IntKind.i64.wrap (2 * a0.1)) * (List.length a0.2.1 : Int))) * a1))))
theorem MZ {a0 : Y41} {a1 : Int} {r : Int} (h : GO a0 a1 = some r) : Ag Tryz.prog 111 [.agg (Bz a0),nI a1] (nI r):=by
 unfold GO at h
 refine st bM rfl (rn 1 rfl (Ac fun K1 hK1 => rs (sp 1 rfl (?_))))
 obtain ⟨v2,g3,h⟩:=Aa h
 refine qC (qa rfl (erg (erc rfl (erc (erD Ce _) (erc (erD Al _) rfl)))) Aw) (Eu g3) (sp 2 rfl (?_))
 rcases Ab h with ⟨g4,h⟩ | ⟨g4,h⟩
 ·exact qg 8 g4 rfl (sp 4 rfl (evn (qT rfl rfl (rn 1 rfl (Af ((by cases h; exact ⟨.inl rfl,rfl⟩)))))))
 ·refine qg 8 g4 rfl (sp 1 rfl (?_))
  obtain ⟨v5,g6,h⟩:=Aa h
  refine oGR rfl rfl (qC (qs rfl (qs rfl (qs rfl Aw))) (AZ g6) (sp 2 rfl (evn ?_)))
  rcases Ab h with ⟨g7,h⟩ | ⟨g7,h⟩
  ·exact qT rfl g7 (rn 1 rfl (Af ((by cases h; exact ⟨.inl rfl,rfl⟩))))
  ·exact qF rfl g7 (Ae (hK1 _ (rn 1 rfl (qk [4] rfl (Af ((by cases h; exact ⟨.inl rfl,rfl⟩)))))))
def Du (x2 : Bool) : Option (Bool):=some x2
def C6 (a0 : Y41) (a1 : List Int) (a2 : List Br) (a3 : Int) : Option (Bool):=Ad (BF a0) fun v3 => cond v3 (Ad (GO a0 1) fun v6 => Ad (Ej a1 a2 a3 v6) fun v8 => Du v8) (Du false)
theorem Ju {a0 : Y41} {a1 : List Int} {a2 : List Br} {a3 : Int} {r : Bool} (h : C6 a0 a1 a2 a3 = some r) : Ag Tryz.prog 61 [.agg (Bz a0),dL Ak a1,dL A4 a2,nI a3] (.bool r):=by
 unfold C6 at h
 refine st iI rfl (rn 1 rfl (rk fun K1 hK1 => ?_))
 have kJ1 : ∀ {x2 : Bool},Du x2 = some r -> Jn K1 [(8,.bool x2)]:=by
  intro x2 h σ' hk
  unfold Du at h
  exact hK1 _ (lh hk rfl (Af ((by cases h; exact ⟨.inl rfl,rfl⟩))))
 refine sp 1 rfl (?_)
 obtain ⟨v3,g4,h⟩:=Aa h
 refine qC (qa rfl (erg (erc rfl (erc (erD Ce _) (erc (erD Al _) rfl)))) Aw) (Eu g4) (sp 1 rfl (?_))
 rcases Ab h with ⟨g5,h⟩ | ⟨g5,h⟩
 ·refine qg 11 g5 rfl (sp 4 rfl (?_))
  obtain ⟨v6,g7,h⟩:=Aa h
  refine oGR rfl rfl (qC (qa rfl (erg (erc rfl (erc (erD Ce _) (erc (erD Al _) rfl)))) (qs rfl Aw)) (MZ g7) (?_))
  obtain ⟨v8,g9,h⟩:=Aa h
  exact oGR rfl rfl (qC (qa rfl (erD Al _) (qa rfl (erD FK _) (qs rfl (qs rfl Aw)))) (IK g9) (sp 2 rfl (evn (kJ1 h _ (okr rfl)))))
 ·exact qg 11 g5 rfl (sp 8 rfl (evn (kJ1 h _ (okr rfl))))
def CY (a1 : Y45) (rec : Int -> Option (Sum (Unit) (Bool))) (y1 : Int) : Option (Sum (Unit) (Bool)):=cond (decide (y1 < (List.length a1.2.2.1 : Int))) (Ad (AA a1.2.2.1 y1) fun e13 => Ad (A2 e13 0 16) fun v15 => cond (!v15) (some (.inr false)) (rec (IntKind.i64.wrap (y1 + 1)))) (some (.inl ()))
def CZ (x19 : Bool) : Option (Bool):=some x19
def Cu (a0 : Y41) (a1 : Y45) : Option (Bool):=Ad (Ec a0 a1.1) fun v2 => cond (!v2) (some false) (Ad (C3 a0 a1.2.1) fun v5 => cond (!v5) (some false) (cond ((List.length a1.2.2.1 : Int) != (List.length a0.2.1 : Int)) (some false) (Ad (Ah (CY a1) fz 0) fun o1 => (match o1 with
  | .inl _ => (Ad (DD a1.2.2.1 a1.2.1 a1.2.2.2.1) fun v20 => cond v20 (Ad (C6 a0 a1.2.2.1 a1.2.1 a1.2.2.2.2) fun v23 => CZ v23) (CZ false))
  | .inr r => some r))))
theorem Ji {a0 : Y41} {a1 : Y45} {r : Bool} (h : Cu a0 a1 = some r) : Ag Tryz.prog 29 [.agg (Bz a0),.agg (Jh a1)] (.bool r):=by
 unfold Cu at h
 refine st g0 rfl (rn 2 rfl (Ac fun K1 hK1 => rs (sp 3 rfl (?_))))
 obtain ⟨v2,g3,h⟩:=Aa h
 refine qC (qa rfl (erg (erc rfl (erc (erD Ce _) (erc (erD Al _) rfl)))) (qa rfl (erD Al _) Aw)) (II g3) (sp 2 rfl (?_))
 rcases Ab h with ⟨g4,h⟩ | ⟨g4,h⟩
 ·exact qg 14 g4 rfl (sp 15 rfl (evn (qT rfl rfl (rn 1 rfl (Af ((by cases h; exact ⟨.inl rfl,rfl⟩)))))))
 ·refine qg 14 g4 rfl (sp 3 rfl (?_))
  obtain ⟨v5,g6,h⟩:=Aa h
  refine oGR rfl rfl (qC (qa rfl (erg (erc rfl (erc (erD Ce _) (erc (erD Al _) rfl)))) (qa rfl (erD FK _) Aw)) (Js g6) (sp 3 rfl (?_)))
  rcases Ab h with ⟨g7,h⟩ | ⟨g7,h⟩
  ·exact qg 21 g7 rfl (sp 8 rfl (evn (qk [2,5,29] rfl (qT rfl rfl (rn 1 rfl (Af ((by cases h; exact ⟨.inl rfl,rfl⟩))))))))
  ·refine qg 21 g7 rfl (sp 8 rfl (evn ?_))
   rcases Ab h with ⟨g8,h⟩ | ⟨g8,h⟩
   ·exact qT rfl g8 (rn 1 rfl (Af ((by cases h; exact ⟨.inl rfl,rfl⟩))))
   ·refine qF rfl g8 (Ae (hK1 _ (Ac fun K9 hK9 => rn 1 rfl ?_)))
    obtain ⟨o1,hl,hr1⟩:=Aa h
    have kXB1 : (.inl ()) = o1 -> Jn K9 [(2,.box [nI a0.1,dL BM a0.2.1,dL Ak a0.2.2]),(5,.box [dL Ak a1.1,dL A4 a1.2.1,dL Ak a1.2.2.1,nI a1.2.2.2.1,nI a1.2.2.2.2])]:=by
     intro h σ' hk
     subst h
     replace h:=hr1
     try dsimp only at h
     refine hK9 _ (lh hk rfl (rk fun K18 hK18 => ?_))
     have kJ2 : ∀ {x19 : Bool},CZ x19 = some r -> Jn K18 [(4,.bool x19)]:=by
      intro x19 h σ' hk
      unfold CZ at h
      exact hK18 _ (lh hk rfl (Af ((by cases h; exact ⟨.inl rfl,rfl⟩))))
     refine sp 6 rfl (?_)
     obtain ⟨v20,g21,h⟩:=Aa h
     refine qC (qa rfl (erD Al _) (qa rfl (erD FK _) (qs rfl Aw))) (JR g21) (sp 1 rfl (?_))
     rcases Ab h with ⟨g22,h⟩ | ⟨g22,h⟩
     ·refine qg 48 g22 rfl (sp 7 rfl (?_))
      obtain ⟨v23,g24,h⟩:=Aa h
      exact oGR rfl rfl (qC (qa rfl (erg (erc rfl (erc (erD Ce _) (erc (erD Al _) rfl)))) (qa rfl (erD Al _) (qa rfl (erD FK _) (qs rfl Aw)))) (Ju g24) (sp 2 rfl (evn (kJ2 h _ (okr rfl)))))
     ·exact qg 48 g22 rfl (sp 10 rfl (evn (kJ2 h _ (okr rfl))))
    refine Aq (fun (y1 : Int) => [(2,.box [nI a0.1,dL BM a0.2.1,dL Ak a0.2.2]),(5,.box [dL Ak a1.1,dL A4 a1.2.1,dL Ak a1.2.2.1,nI a1.2.2.2.1,nI a1.2.2.2.2]),(31,dL Ak a1.2.2.1),(32,nI (List.length a1.2.2.1 : Int)),(33,nI y1)]) _ _ _ _ hl (okr rfl) (fun _ => rfl) ?_
    rintro m y1 N h hN
    unfold CY at h
    refine rn 1 rfl (Ac fun K10 hK10 => ?_)
    rcases Ab h with ⟨g11,h⟩ | ⟨g11,h⟩
    ·refine qT rfl g11 (Ae (hK10 _ (Ac fun K12 hK12 => Ap (rs ?_))))
     obtain ⟨e13,g14,h⟩:=Aa h
     refine qI rfl Ao g14 (sp 2 rfl (evn (rs (sp 1 rfl (?_)))))
     obtain ⟨v15,g16,h⟩:=Aa h
     refine qC (qs rfl (qs rfl (qs rfl Aw))) (AZ g16) (sp 1 rfl (evn ?_))
     rcases Ab h with ⟨g17,h⟩ | ⟨g17,h⟩
     ·exact qT rfl g17 (rn 1 rfl (Af ((by cases h; cases hr1; exact ⟨.inl rfl,rfl⟩))))
     ·exact qF rfl g17 (Ae (hK12 _ (rg (sp 2 rfl (evn (hN _ _ h (okr rfl)))))))
    ·exact qF rfl g11 (Aj (kXB1 (Option.some.inj h) _ (okr rfl)))
def G6 (a0 : List Int) (a1 : List Int) (rec : Int -> Option (Sum (Unit) (Bool))) (y1 : Int) : Option (Sum (Unit) (Bool)):=cond (decide (y1 < (List.length a0 : Int))) (Ad (AA a0 y1) fun e7 => Ad (AA a1 y1) fun e9 => cond (e7 != e9) (some (.inr false)) (rec (IntKind.i64.wrap (y1 + 1)))) (some (.inl ()))
def Hm (a0 : List Int) (a1 : List Int) : Option (Bool):=cond ((List.length a0 : Int) != (List.length a1 : Int)) (some false) (Ad (Ah (G6 a0 a1) fz 0) fun o1 => (match o1 with
  | .inl _ => (some true)
  | .inr r => some r))
theorem NW {a0 : List Int} {a1 : List Int} {r : Bool} (h : Hm a0 a1 = some r) : Ag Tryz.prog 30 [dL Ak a0,dL Ak a1] (.bool r):=by
 unfold Hm at h
 refine st hE rfl (rn 1 rfl (Ac fun K1 hK1 => rn 1 rfl ?_))
 rcases Ab h with ⟨g2,h⟩ | ⟨g2,h⟩
 ·exact qT rfl g2 (rn 1 rfl (Af ((by cases h; exact ⟨.inl rfl,rfl⟩))))
 ·refine qF rfl g2 (Ae (hK1 _ (Ac fun K3 hK3 => rn 1 rfl ?_)))
  obtain ⟨o1,hl,hr1⟩:=Aa h
  have kXB1 : (.inl ()) = o1 -> Jn K3 []:=by
   intro h σ' hk
   subst h
   replace h:=hr1
   try dsimp only at h
   exact hK3 _ (lh hk rfl (rn 1 rfl (Af ((by cases h; exact ⟨.inl rfl,rfl⟩)))))
  refine Aq (fun (y1 : Int) => [(0,dL Ak a0),(1,dL Ak a1),(12,nI (List.length a0 : Int)),(13,nI y1)]) _ _ _ _ hl (okr rfl) (fun _ => rfl) ?_
  rintro m y1 N h hN
  unfold G6 at h
  refine rn 1 rfl (Ac fun K4 hK4 => ?_)
  rcases Ab h with ⟨g5,h⟩ | ⟨g5,h⟩
  ·refine qT rfl g5 (Ae (hK4 _ (Ac fun K6 hK6 => Ap (rn 1 rfl (rd (by kernel_rfl) (sd 2 rfl (?_)))))))
   obtain ⟨e7,g8,h⟩:=Aa h
   refine ed rfl (qI rfl Ao g8 (sd 3 rfl (?_)))
   obtain ⟨e9,g10,h⟩:=Aa h
   refine ed rfl (qI rfl Ao g10 (sd 2 rfl (Ea ?_)))
   rcases Ab h with ⟨g11,h⟩ | ⟨g11,h⟩
   ·exact qT rfl g11 (rn 1 rfl (Af ((by cases h; cases hr1; exact ⟨.inl rfl,rfl⟩))))
   ·exact qF rfl g11 (Ae (hK6 _ (rg (sp 2 rfl (evn (hN _ _ h (okr rfl)))))))
  ·exact qF rfl g5 (Aj (kXB1 (Option.some.inj h) _ trivial))
def AV (x6 : Bool) : Option (Bool):=some x6
def Ci (a0 : List Y96) (a1 : Y41) (a2 : Y45) : Option (Bool):=Ad (GM a0 a1) fun v1 => Ad (Fj a0 a1 a2.1) fun v3 => cond v1.2 (cond v3.2.2 (Ad (Cu a1 a2) fun v9 => cond v9 (Ad (Hm v1.1 a2.2.2.1) fun v12 => cond v12 (cond ((List.length v3.1.2 : Int) == a2.2.2.2.1) (AV (v3.2.1 == a2.2.2.2.2)) (AV false)) (AV false)) (AV false)) (AV false)) (AV false)
theorem JQ {a0 : List Y96} {a1 : Y41} {a2 : Y45} {r : Bool} (h : Ci a0 a1 a2 = some r) : Ag Tryz.prog 11 [.agg [dL BY a0],.agg (Bz a1),.agg (Jh a2)] (.bool r):=by
 unfold Ci at h
 refine st gy rfl (rn 1 rfl (rs (sp 2 rfl (?_))))
 obtain ⟨v1,g2,h⟩:=Aa h
 refine qC (qa rfl (erg (erc (erD D1 _) rfl)) (qa rfl (erg (erc rfl (erc (erD Ce _) (erc (erD Al _) rfl)))) Aw)) (MX g2) (sp 5 rfl (evn (rs (sp 4 rfl (?_)))))
 obtain ⟨v3,g4,h⟩:=Aa h
 refine qC (qa rfl (erg (erc (erD D1 _) rfl)) (qa rfl (erg (erc rfl (erc (erD Ce _) (erc (erD Al _) rfl)))) (qa rfl (erD Al _) Aw))) (Li g4) (sp 8 rfl (evn (rk fun K5 hK5 => ?_)))
 have kJ1 : ∀ {x6 : Bool},AV x6 = some r -> Jn K5 [(6,.bool x6)]:=by
  intro x6 h σ' hk
  unfold AV at h
  exact hK5 _ (lh hk rfl (Af ((by cases h; exact ⟨.inl rfl,rfl⟩))))
 refine sp 2 rfl (?_)
 rcases Ab h with ⟨g7,h⟩ | ⟨g7,h⟩
 ·refine qg 28 g7 rfl (sp 3 rfl (?_))
  rcases Ab h with ⟨g8,h⟩ | ⟨g8,h⟩
  ·refine qg 31 g8 rfl (sp 2 rfl (?_))
   obtain ⟨v9,g10,h⟩:=Aa h
   refine oGR rfl rfl (qC (qa rfl (erg (erc rfl (erc (erD Ce _) (erc (erD Al _) rfl)))) (qa rfl (erg (erc (erD Al _) (erc (erD FK _) (erc (erD Al _) (erc rfl (erc rfl rfl)))))) Aw)) (Ji g10) (sp 2 rfl (?_)))
   rcases Ab h with ⟨g11,h⟩ | ⟨g11,h⟩
   ·refine qg 36 g11 rfl (sp 3 rfl (?_))
    obtain ⟨v12,g13,h⟩:=Aa h
    refine oGR rfl rfl (qC (qa rfl (erD Al _) (qa rfl (erD Al _) Aw)) (NW g13) (sp 2 rfl (?_)))
    rcases Ab h with ⟨g14,h⟩ | ⟨g14,h⟩
    ·refine qg 42 g14 rfl (sp 8 rfl (?_))
     rcases Ab h with ⟨g15,h⟩ | ⟨g15,h⟩
     ·exact qg 50 g15 rfl (sp 6 rfl (evn (kJ1 h _ (okr rfl))))
     ·exact qg 50 g15 rfl (sp 6 rfl (evn (kJ1 h _ (okr rfl))))
    ·exact qg 42 g14 rfl (sp 14 rfl (evn (kJ1 h _ (okr rfl))))
   ·exact qg 36 g11 rfl (sp 20 rfl (evn (kJ1 h _ (okr rfl))))
  ·exact qg 31 g8 rfl (sp 25 rfl (evn (kJ1 h _ (okr rfl))))
 ·exact qg 28 g7 rfl (sp 28 rfl (evn (kJ1 h _ (okr rfl))))
def Jl (a0 : List Int) (a1 : List Int) (rec : Int -> Option (Sum (Unit) (Bool))) (y1 : Int) : Option (Sum (Unit) (Bool)):=cond (decide (y1 < (List.length a0 : Int))) (Ad (AA a0 y1) fun e7 => Ad (AA a1 y1) fun e9 => cond (e7 != e9) (some (.inr false)) (rec (IntKind.i64.wrap (y1 + 1)))) (some (.inl ()))
def E7 (a0 : List Int) (a1 : List Int) : Option (Bool):=cond ((List.length a0 : Int) != (List.length a1 : Int)) (some false) (Ad (Ah (Jl a0 a1) fz 0) fun o1 => (match o1 with
  | .inl _ => (some true)
  | .inr r => some r))
theorem Hn {a0 : List Int} {a1 : List Int} {r : Bool} (h : E7 a0 a1 = some r) : Ag Tryz.prog 33 [dL Ak a0,dL Ak a1] (.bool r):=by
 unfold E7 at h
 refine st hZ rfl (rn 1 rfl (Ac fun K1 hK1 => rn 1 rfl ?_))
 rcases Ab h with ⟨g2,h⟩ | ⟨g2,h⟩
 ·exact qT rfl g2 (rn 1 rfl (Af ((by cases h; exact ⟨.inl rfl,rfl⟩))))
 ·refine qF rfl g2 (Ae (hK1 _ (Ac fun K3 hK3 => rn 1 rfl ?_)))
  obtain ⟨o1,hl,hr1⟩:=Aa h
  have kXB1 : (.inl ()) = o1 -> Jn K3 []:=by
   intro h σ' hk
   subst h
   replace h:=hr1
   try dsimp only at h
   exact hK3 _ (lh hk rfl (rn 1 rfl (Af ((by cases h; exact ⟨.inl rfl,rfl⟩)))))
  refine Aq (fun (y1 : Int) => [(0,dL Ak a0),(1,dL Ak a1),(5,nI y1)]) _ _ _ _ hl (okr rfl) (fun _ => rfl) ?_
  rintro m y1 N h hN
  unfold Jl at h
  refine Ac fun K4 hK4 => rn 1 rfl ?_
  rcases Ab h with ⟨g5,h⟩ | ⟨g5,h⟩
  ·refine qT rfl g5 (Ae (hK4 _ (Ac fun K6 hK6 => Ap (rd (by kernel_rfl) (sd 2 rfl (?_))))))
   obtain ⟨e7,g8,h⟩:=Aa h
   refine ed rfl (qI rfl Ao g8 (sd 3 rfl (?_)))
   obtain ⟨e9,g10,h⟩:=Aa h
   refine ed rfl (qI rfl Ao g10 (sd 2 rfl (Ea ?_)))
   rcases Ab h with ⟨g11,h⟩ | ⟨g11,h⟩
   ·exact qT rfl g11 (rn 1 rfl (Af ((by cases h; cases hr1; exact ⟨.inl rfl,rfl⟩))))
   ·exact qF rfl g11 (Ae (hK6 _ (rg (sp 3 rfl (evn (hN _ _ h (okr rfl)))))))
  ·exact qF rfl g5 (Aj (kXB1 (Option.some.inj h) _ trivial))
def IM (a0 : List (List Int)) (a1 : List (List Int)) (rec : Int -> Option (Sum (Unit) (Bool))) (y1 : Int) : Option (Sum (Unit) (Bool)):=cond (decide (y1 < (List.length a0 : Int))) (Ad (AA a0 y1) fun e7 => Ad (AA a1 y1) fun e9 => Ad (E7 e7 e9) fun v11 => cond (!v11) (some (.inr false)) (rec (IntKind.i64.wrap (y1 + 1)))) (some (.inl ()))
def HY (a0 : List (List Int)) (a1 : List (List Int)) : Option (Bool):=cond ((List.length a0 : Int) != (List.length a1 : Int)) (some false) (Ad (Ah (IM a0 a1) fz 0) fun o1 => (match o1 with
  | .inl _ => (some true)
  | .inr r => some r))
theorem OH {a0 : List (List Int)} {a1 : List (List Int)} {r : Bool} (h : HY a0 a1 = some r) : Ag Tryz.prog 146 [dL AL a0,dL AL a1] (.bool r):=by
 unfold HY at h
 refine st cy rfl (rn 1 rfl (Ac fun K1 hK1 => rn 1 rfl ?_))
 rcases Ab h with ⟨g2,h⟩ | ⟨g2,h⟩
 ·exact qT rfl g2 (rn 1 rfl (Af ((by cases h; exact ⟨.inl rfl,rfl⟩))))
 ·refine qF rfl g2 (Ae (hK1 _ (Ac fun K3 hK3 => rn 1 rfl ?_)))
  obtain ⟨o1,hl,hr1⟩:=Aa h
  have kXB1 : (.inl ()) = o1 -> Jn K3 []:=by
   intro h σ' hk
   subst h
   replace h:=hr1
   try dsimp only at h
   exact hK3 _ (lh hk rfl (rn 1 rfl (Af ((by cases h; exact ⟨.inl rfl,rfl⟩)))))
  refine Aq (fun (y1 : Int) => [(0,dL AL a0),(1,dL AL a1),(5,nI y1)]) _ _ _ _ hl (okr rfl) (fun _ => rfl) ?_
  rintro m y1 N h hN
  unfold IM at h
  refine Ac fun K4 hK4 => rn 1 rfl ?_
  rcases Ab h with ⟨g5,h⟩ | ⟨g5,h⟩
  ·refine qT rfl g5 (Ae (hK4 _ (Ac fun K6 hK6 => Ap (rd (by kernel_rfl) (sd 2 rfl (?_))))))
   obtain ⟨e7,g8,h⟩:=Aa h
   refine ed rfl (qI rfl AY g8 (sd 3 rfl (?_)))
   obtain ⟨e9,g10,h⟩:=Aa h
   refine ed rfl (qI rfl AY g10 (sd 1 rfl (?_)))
   obtain ⟨v11,g12,h⟩:=Aa h
   refine ed rfl (qC (qa rfl (erD Al _) (qa rfl (erD Al _) Aw)) (Hn g12) (sd 1 rfl (Ea ?_)))
   rcases Ab h with ⟨g13,h⟩ | ⟨g13,h⟩
   ·exact qT rfl g13 (rn 1 rfl (Af ((by cases h; cases hr1; exact ⟨.inl rfl,rfl⟩))))
   ·exact qF rfl g13 (Ae (hK6 _ (rg (sp 3 rfl (evn (hN _ _ h (okr rfl)))))))
  ·exact qF rfl g5 (Aj (kXB1 (Option.some.inj h) _ trivial))
def Gj (a0 : Y57) (a1 : Y57) : Option (Bool):=cond (a0.1 != a1.1) (some false) (Ad (HY a0.2 a1.2) fun v4 => cond (!v4) (some false) (some true))
theorem My {a0 : Y57} {a1 : Y57} {r : Bool} (h : Gj a0 a1 = some r) : Ag Tryz.prog 112 [.agg (Io a0),.agg (Io a1)] (.bool r):=by
 unfold Gj at h
 refine st bN rfl (rn 1 rfl (Ac fun K1 hK1 => rn 1 rfl ?_))
 rcases Ab h with ⟨g2,h⟩ | ⟨g2,h⟩
 ·exact qT rfl g2 (rn 1 rfl (Af ((by cases h; exact ⟨.inl rfl,rfl⟩))))
 ·refine qF rfl g2 (Ae (hK1 _ (Ac fun K3 hK3 => rs (sp 4 rfl (?_)))))
  obtain ⟨v4,g5,h⟩:=Aa h
  refine qC (qa rfl (erD Bc _) (qa rfl (erD Bc _) Aw)) (OH g5) (sp 1 rfl (evn ?_))
  rcases Ab h with ⟨g6,h⟩ | ⟨g6,h⟩
  ·exact qT rfl g6 (rn 1 rfl (Af ((by cases h; exact ⟨.inl rfl,rfl⟩))))
  ·exact qF rfl g6 (Ae (hK3 _ (rn 1 rfl (qk [4] rfl (Af ((by cases h; exact ⟨.inl rfl,rfl⟩)))))))
def Hf (a0 : Y96) (a1 : Y96) : Option (Bool):=cond (!(a0.1 == a1.1)) (some false) (Ad (Gj a0.2 a1.2) fun v4 => cond (!v4) (some false) (some true))
theorem OJ {a0 : Y96} {a1 : Y96} {r : Bool} (h : Hf a0 a1 = some r) : Ag Tryz.prog 62 [.agg (BY a0),.agg (BY a1)] (.bool r):=by
 unfold Hf at h
 refine st iJ rfl (rn 1 rfl (Ac fun K1 hK1 => rn 1 rfl ?_))
 rcases Ab h with ⟨g2,h⟩ | ⟨g2,h⟩
 ·exact qT rfl g2 (rn 1 rfl (Af ((by cases h; exact ⟨.inl rfl,rfl⟩))))
 ·refine qF rfl g2 (Ae (hK1 _ (Ac fun K3 hK3 => rs (sp 4 rfl (?_)))))
  obtain ⟨v4,g5,h⟩:=Aa h
  refine qC (qa rfl (erg (erc rfl (erc (erD Bc _) rfl))) (qa rfl (erg (erc rfl (erc (erD Bc _) rfl))) Aw)) (My g5) (sp 1 rfl (evn ?_))
  rcases Ab h with ⟨g6,h⟩ | ⟨g6,h⟩
  ·exact qT rfl g6 (rn 1 rfl (Af ((by cases h; exact ⟨.inl rfl,rfl⟩))))
  ·exact qF rfl g6 (Ae (hK3 _ (rn 1 rfl (qk [4] rfl (Af ((by cases h; exact ⟨.inl rfl,rfl⟩)))))))
def Ii (a0 : List Y96) (a1 : List Y96) (rec : Int -> Option (Sum (Unit) (Bool))) (y1 : Int) : Option (Sum (Unit) (Bool)):=cond (decide (y1 < (List.length a0 : Int))) (Ad (AA a0 y1) fun e7 => Ad (AA a1 y1) fun e9 => Ad (Hf e7 e9) fun v11 => cond (!v11) (some (.inr false)) (rec (IntKind.i64.wrap (y1 + 1)))) (some (.inl ()))
def Ho (a0 : List Y96) (a1 : List Y96) : Option (Bool):=cond ((List.length a0 : Int) != (List.length a1 : Int)) (some false) (Ad (Ah (Ii a0 a1) fz 0) fun o1 => (match o1 with
  | .inl _ => (some true)
  | .inr r => some r))
theorem N0 {a0 : List Y96} {a1 : List Y96} {r : Bool} (h : Ho a0 a1 = some r) : Ag Tryz.prog 31 [dL BY a0,dL BY a1] (.bool r):=by
 unfold Ho at h
 refine st hM rfl (rn 1 rfl (Ac fun K1 hK1 => rn 1 rfl ?_))
 rcases Ab h with ⟨g2,h⟩ | ⟨g2,h⟩
 ·exact qT rfl g2 (rn 1 rfl (Af ((by cases h; exact ⟨.inl rfl,rfl⟩))))
 ·refine qF rfl g2 (Ae (hK1 _ (Ac fun K3 hK3 => rn 1 rfl ?_)))
  obtain ⟨o1,hl,hr1⟩:=Aa h
  have kXB1 : (.inl ()) = o1 -> Jn K3 []:=by
   intro h σ' hk
   subst h
   replace h:=hr1
   try dsimp only at h
   exact hK3 _ (lh hk rfl (rn 1 rfl (Af ((by cases h; exact ⟨.inl rfl,rfl⟩)))))
  refine Aq (fun (y1 : Int) => [(0,dL BY a0),(1,dL BY a1),(5,nI y1)]) _ _ _ _ hl (okr rfl) (fun _ => rfl) ?_
  rintro m y1 N h hN
  unfold Ii at h
  refine Ac fun K4 hK4 => rn 1 rfl ?_
  rcases Ab h with ⟨g5,h⟩ | ⟨g5,h⟩
  ·refine qT rfl g5 (Ae (hK4 _ (Ac fun K6 hK6 => Ap (rd (by kernel_rfl) (sd 2 rfl (?_))))))
   obtain ⟨e7,g8,h⟩:=Aa h
   refine ed rfl (qI rfl J6 g8 (sd 3 rfl (?_)))
   obtain ⟨e9,g10,h⟩:=Aa h
   refine ed rfl (qI rfl J6 g10 (sd 1 rfl (?_)))
   obtain ⟨v11,g12,h⟩:=Aa h
   refine ed rfl (qC (qa rfl (erg (erc rfl (erc rfl (erc (erD Bc _) rfl)))) (qa rfl (erg (erc rfl (erc rfl (erc (erD Bc _) rfl)))) Aw)) (OJ g12) (sd 1 rfl (Ea ?_)))
   rcases Ab h with ⟨g13,h⟩ | ⟨g13,h⟩
   ·exact qT rfl g13 (rn 1 rfl (Af ((by cases h; cases hr1; exact ⟨.inl rfl,rfl⟩))))
   ·exact qF rfl g13 (Ae (hK6 _ (rg (sp 3 rfl (evn (hN _ _ h (okr rfl)))))))
  ·exact qF rfl g5 (Aj (kXB1 (Option.some.inj h) _ trivial))
def Gi (a0 : List Y96) (a1 : List Y96) : Option (Bool):=Ad (Ho a0 a1) fun v2 => cond (!v2) (some false) (some true)
theorem Mw {a0 : List Y96} {a1 : List Y96} {r : Bool} (h : Gi a0 a1 = some r) : Ag Tryz.prog 12 [.agg [dL BY a0],.agg [dL BY a1]] (.bool r):=by
 unfold Gi at h
 refine st gz rfl (rn 1 rfl (Ac fun K1 hK1 => rs (sp 4 rfl (?_))))
 obtain ⟨v2,g3,h⟩:=Aa h
 refine qC (qa rfl (erD D1 _) (qa rfl (erD D1 _) Aw)) (N0 g3) (sp 1 rfl (evn ?_))
 rcases Ab h with ⟨g4,h⟩ | ⟨g4,h⟩
 ·exact qT rfl g4 (rn 1 rfl (Af ((by cases h; exact ⟨.inl rfl,rfl⟩))))
 ·exact qF rfl g4 (Ae (hK1 _ (rn 1 rfl (Af ((by cases h; exact ⟨.inl rfl,rfl⟩))))))
def HE (a0 : Y78) (a1 : Y78) : Option (Bool):=cond (!(a0.1 == a1.1)) (some false) (Ad (E7 a0.2 a1.2) fun v4 => cond (!v4) (some false) (some true))
theorem PU {a0 : Y78} {a1 : Y78} {r : Bool} (h : HE a0 a1 = some r) : Ag Tryz.prog 63 [.agg (BM a0),.agg (BM a1)] (.bool r):=by
 unfold HE at h
 refine st iK rfl (rn 1 rfl (Ac fun K1 hK1 => rn 1 rfl ?_))
 rcases Ab h with ⟨g2,h⟩ | ⟨g2,h⟩
 ·exact qT rfl g2 (rn 1 rfl (Af ((by cases h; exact ⟨.inl rfl,rfl⟩))))
 ·refine qF rfl g2 (Ae (hK1 _ (Ac fun K3 hK3 => rs (sp 4 rfl (?_)))))
  obtain ⟨v4,g5,h⟩:=Aa h
  refine qC (qa rfl (erD Al _) (qa rfl (erD Al _) Aw)) (Hn g5) (sp 1 rfl (evn ?_))
  rcases Ab h with ⟨g6,h⟩ | ⟨g6,h⟩
  ·exact qT rfl g6 (rn 1 rfl (Af ((by cases h; exact ⟨.inl rfl,rfl⟩))))
  ·exact qF rfl g6 (Ae (hK3 _ (rn 1 rfl (qk [4] rfl (Af ((by cases h; exact ⟨.inl rfl,rfl⟩)))))))
def IL (a0 : List Y78) (a1 : List Y78) (rec : Int -> Option (Sum (Unit) (Bool))) (y1 : Int) : Option (Sum (Unit) (Bool)):=cond (decide (y1 < (List.length a0 : Int))) (Ad (AA a0 y1) fun e7 => Ad (AA a1 y1) fun e9 => Ad (HE e7 e9) fun v11 => cond (!v11) (some (.inr false)) (rec (IntKind.i64.wrap (y1 + 1)))) (some (.inl ()))
def HX (a0 : List Y78) (a1 : List Y78) : Option (Bool):=cond ((List.length a0 : Int) != (List.length a1 : Int)) (some false) (Ad (Ah (IL a0 a1) fz 0) fun o1 => (match o1 with
  | .inl _ => (some true)
  | .inr r => some r))
theorem OG {a0 : List Y78} {a1 : List Y78} {r : Bool} (h : HX a0 a1 = some r) : Ag Tryz.prog 32 [dL BM a0,dL BM a1] (.bool r):=by
 unfold HX at h
 refine st hO rfl (rn 1 rfl (Ac fun K1 hK1 => rn 1 rfl ?_))
 rcases Ab h with ⟨g2,h⟩ | ⟨g2,h⟩
 ·exact qT rfl g2 (rn 1 rfl (Af ((by cases h; exact ⟨.inl rfl,rfl⟩))))
 ·refine qF rfl g2 (Ae (hK1 _ (Ac fun K3 hK3 => rn 1 rfl ?_)))
  obtain ⟨o1,hl,hr1⟩:=Aa h
  have kXB1 : (.inl ()) = o1 -> Jn K3 []:=by
   intro h σ' hk
   subst h
   replace h:=hr1
   try dsimp only at h
   exact hK3 _ (lh hk rfl (rn 1 rfl (Af ((by cases h; exact ⟨.inl rfl,rfl⟩)))))
  refine Aq (fun (y1 : Int) => [(0,dL BM a0),(1,dL BM a1),(5,nI y1)]) _ _ _ _ hl (okr rfl) (fun _ => rfl) ?_
  rintro m y1 N h hN
  unfold IL at h
  refine Ac fun K4 hK4 => rn 1 rfl ?_
  rcases Ab h with ⟨g5,h⟩ | ⟨g5,h⟩
  ·refine qT rfl g5 (Ae (hK4 _ (Ac fun K6 hK6 => Ap (rd (by kernel_rfl) (sd 2 rfl (?_))))))
   obtain ⟨e7,g8,h⟩:=Aa h
   refine ed rfl (qI rfl G3 g8 (sd 3 rfl (?_)))
   obtain ⟨e9,g10,h⟩:=Aa h
   refine ed rfl (qI rfl G3 g10 (sd 1 rfl (?_)))
   obtain ⟨v11,g12,h⟩:=Aa h
   refine ed rfl (qC (qa rfl (erg (erc rfl (erc (erD Al _) rfl))) (qa rfl (erg (erc rfl (erc (erD Al _) rfl))) Aw)) (PU g12) (sd 1 rfl (Ea ?_)))
   rcases Ab h with ⟨g13,h⟩ | ⟨g13,h⟩
   ·exact qT rfl g13 (rn 1 rfl (Af ((by cases h; cases hr1; exact ⟨.inl rfl,rfl⟩))))
   ·exact qF rfl g13 (Ae (hK6 _ (rg (sp 3 rfl (evn (hN _ _ h (okr rfl)))))))
  ·exact qF rfl g5 (Aj (kXB1 (Option.some.inj h) _ trivial))
def HZ (a0 : Y41) (a1 : Y41) : Option (Bool):=cond (a0.1 != a1.1) (some false) (Ad (HX a0.2.1 a1.2.1) fun v4 => cond (!v4) (some false) (Ad (E7 a0.2.2 a1.2.2) fun v8 => cond (!v8) (some false) (some true)))
theorem OI {a0 : Y41} {a1 : Y41} {r : Bool} (h : HZ a0 a1 = some r) : Ag Tryz.prog 13 [.agg (Bz a0),.agg (Bz a1)] (.bool r):=by
 unfold HZ at h
 refine st gA rfl (rn 1 rfl (Ac fun K1 hK1 => rn 1 rfl ?_))
 rcases Ab h with ⟨g2,h⟩ | ⟨g2,h⟩
 ·exact qT rfl g2 (rn 1 rfl (Af ((by cases h; exact ⟨.inl rfl,rfl⟩))))
 ·refine qF rfl g2 (Ae (hK1 _ (Ac fun K3 hK3 => rs (sp 4 rfl (?_)))))
  obtain ⟨v4,g5,h⟩:=Aa h
  refine qC (qa rfl (erD Ce _) (qa rfl (erD Ce _) Aw)) (OG g5) (sp 1 rfl (evn ?_))
  rcases Ab h with ⟨g6,h⟩ | ⟨g6,h⟩
  ·exact qT rfl g6 (rn 1 rfl (Af ((by cases h; exact ⟨.inl rfl,rfl⟩))))
  ·refine qF rfl g6 (Ae (hK3 _ (Ac fun K7 hK7 => rs (sp 4 rfl (?_)))))
   obtain ⟨v8,g9,h⟩:=Aa h
   refine qC (qa rfl (erD Al _) (qa rfl (erD Al _) Aw)) (Hn g9) (sp 1 rfl (evn (qk [21] rfl ?_)))
   rcases Ab h with ⟨g10,h⟩ | ⟨g10,h⟩
   ·exact qT rfl g10 (rn 1 rfl (Af ((by cases h; exact ⟨.inl rfl,rfl⟩))))
   ·exact qF rfl g10 (Ae (hK7 _ (rn 1 rfl (Af ((by cases h; exact ⟨.inl rfl,rfl⟩))))))
def Fs (a0 : Br) (a1 : Br) : Option (Bool):=cond (a0.1 != a1.1) (some false) (cond (a0.2 != a1.2) (some false) (some true))
theorem Mx {a0 : Br} {a1 : Br} {r : Bool} (h : Fs a0 a1 = some r) : Ag Tryz.prog 64 [.agg (A4 a0),.agg (A4 a1)] (.bool r):=by
 unfold Fs at h
 refine st iL rfl (rn 1 rfl (Ac fun K1 hK1 => rn 1 rfl ?_))
 rcases Ab h with ⟨g2,h⟩ | ⟨g2,h⟩
 ·exact qT rfl g2 (rn 1 rfl (Af ((by cases h; exact ⟨.inl rfl,rfl⟩))))
 ·refine qF rfl g2 (Ae (hK1 _ (Ac fun K3 hK3 => rn 1 rfl ?_)))
  rcases Ab h with ⟨g4,h⟩ | ⟨g4,h⟩
  ·exact qT rfl g4 (rn 1 rfl (Af ((by cases h; exact ⟨.inl rfl,rfl⟩))))
  ·exact qF rfl g4 (Ae (hK3 _ (rn 1 rfl (qk [4] rfl (Af ((by cases h; exact ⟨.inl rfl,rfl⟩)))))))
def He (a0 : List Br) (a1 : List Br) (rec : Int -> Option (Sum (Unit) (Bool))) (y1 : Int) : Option (Sum (Unit) (Bool)):=cond (decide (y1 < (List.length a0 : Int))) (Ad (AA a0 y1) fun e7 => Ad (AA a1 y1) fun e9 => Ad (Fs e7 e9) fun v11 => cond (!v11) (some (.inr false)) (rec (IntKind.i64.wrap (y1 + 1)))) (some (.inl ()))
def FP (a0 : List Br) (a1 : List Br) : Option (Bool):=cond ((List.length a0 : Int) != (List.length a1 : Int)) (some false) (Ad (Ah (He a0 a1) fz 0) fun o1 => (match o1 with
  | .inl _ => (some true)
  | .inr r => some r))
theorem LM {a0 : List Br} {a1 : List Br} {r : Bool} (h : FP a0 a1 = some r) : Ag Tryz.prog 34 [dL A4 a0,dL A4 a1] (.bool r):=by
 unfold FP at h
 refine st ia rfl (rn 1 rfl (Ac fun K1 hK1 => rn 1 rfl ?_))
 rcases Ab h with ⟨g2,h⟩ | ⟨g2,h⟩
 ·exact qT rfl g2 (rn 1 rfl (Af ((by cases h; exact ⟨.inl rfl,rfl⟩))))
 ·refine qF rfl g2 (Ae (hK1 _ (Ac fun K3 hK3 => rn 1 rfl ?_)))
  obtain ⟨o1,hl,hr1⟩:=Aa h
  have kXB1 : (.inl ()) = o1 -> Jn K3 []:=by
   intro h σ' hk
   subst h
   replace h:=hr1
   try dsimp only at h
   exact hK3 _ (lh hk rfl (rn 1 rfl (Af ((by cases h; exact ⟨.inl rfl,rfl⟩)))))
  refine Aq (fun (y1 : Int) => [(0,dL A4 a0),(1,dL A4 a1),(5,nI y1)]) _ _ _ _ hl (okr rfl) (fun _ => rfl) ?_
  rintro m y1 N h hN
  unfold He at h
  refine Ac fun K4 hK4 => rn 1 rfl ?_
  rcases Ab h with ⟨g5,h⟩ | ⟨g5,h⟩
  ·refine qT rfl g5 (Ae (hK4 _ (Ac fun K6 hK6 => Ap (rd (by kernel_rfl) (sd 2 rfl (?_))))))
   obtain ⟨e7,g8,h⟩:=Aa h
   refine ed rfl (qI rfl FC g8 (sd 3 rfl (?_)))
   obtain ⟨e9,g10,h⟩:=Aa h
   refine ed rfl (qI rfl FC g10 (sd 1 rfl (?_)))
   obtain ⟨v11,g12,h⟩:=Aa h
   refine ed rfl (qC (qa rfl (erg (erc rfl (erc rfl rfl))) (qa rfl (erg (erc rfl (erc rfl rfl))) Aw)) (Mx g12) (sd 1 rfl (Ea ?_)))
   rcases Ab h with ⟨g13,h⟩ | ⟨g13,h⟩
   ·exact qT rfl g13 (rn 1 rfl (Af ((by cases h; cases hr1; exact ⟨.inl rfl,rfl⟩))))
   ·exact qF rfl g13 (Ae (hK6 _ (rg (sp 3 rfl (evn (hN _ _ h (okr rfl)))))))
  ·exact qF rfl g5 (Aj (kXB1 (Option.some.inj h) _ trivial))
def EU (a0 : Y45) (a1 : Y45) : Option (Bool):=Ad (E7 a0.1 a1.1) fun v2 => cond (!v2) (some false) (Ad (FP a0.2.1 a1.2.1) fun v6 => cond (!v6) (some false) (Ad (E7 a0.2.2.1 a1.2.2.1) fun v10 => cond (!v10) (some false) (cond (a0.2.2.2.1 != a1.2.2.2.1) (some false) (cond (a0.2.2.2.2 != a1.2.2.2.2) (some false) (some true)))))
theorem KT {a0 : Y45} {a1 : Y45} {r : Bool} (h : EU a0 a1 = some r) : Ag Tryz.prog 14 [.agg (Jh a0),.agg (Jh a1)] (.bool r):=by
 unfold EU at h
 refine st gB rfl (rn 1 rfl (Ac fun K1 hK1 => rs (sp 4 rfl (?_))))
 obtain ⟨v2,g3,h⟩:=Aa h
 refine qC (qa rfl (erD Al _) (qa rfl (erD Al _) Aw)) (Hn g3) (sp 1 rfl (evn ?_))
 rcases Ab h with ⟨g4,h⟩ | ⟨g4,h⟩
 ·exact qT rfl g4 (rn 1 rfl (Af ((by cases h; exact ⟨.inl rfl,rfl⟩))))
 ·refine qF rfl g4 (Ae (hK1 _ (Ac fun K5 hK5 => rs (sp 4 rfl (?_)))))
  obtain ⟨v6,g7,h⟩:=Aa h
  refine qC (qa rfl (erD FK _) (qa rfl (erD FK _) Aw)) (LM g7) (sp 1 rfl (evn ?_))
  rcases Ab h with ⟨g8,h⟩ | ⟨g8,h⟩
  ·exact qT rfl g8 (rn 1 rfl (Af ((by cases h; exact ⟨.inl rfl,rfl⟩))))
  ·refine qF rfl g8 (Ae (hK5 _ (qk [2,3] rfl (Ac fun K9 hK9 => rs (sp 4 rfl (?_))))))
   obtain ⟨v10,g11,h⟩:=Aa h
   refine qC (qa rfl (erD Al _) (qa rfl (erD Al _) Aw)) (Hn g11) (sp 1 rfl (evn ?_))
   rcases Ab h with ⟨g12,h⟩ | ⟨g12,h⟩
   ·exact qT rfl g12 (rn 1 rfl (Af ((by cases h; exact ⟨.inl rfl,rfl⟩))))
   ·refine qF rfl g12 (Ae (hK9 _ (Ac fun K13 hK13 => rn 1 rfl ?_)))
    rcases Ab h with ⟨g14,h⟩ | ⟨g14,h⟩
    ·exact qT rfl g14 (rn 1 rfl (Af ((by cases h; exact ⟨.inl rfl,rfl⟩))))
    ·refine qF rfl g14 (Ae (hK13 _ (Ac fun K15 hK15 => rn 1 rfl ?_)))
     rcases Ab h with ⟨g16,h⟩ | ⟨g16,h⟩
     ·exact qT rfl g16 (rn 1 rfl (qk [4] rfl (Af ((by cases h; exact ⟨.inl rfl,rfl⟩)))))
     ·exact qF rfl g16 (Ae (hK15 _ (rn 1 rfl (Af ((by cases h; exact ⟨.inl rfl,rfl⟩))))))
def Co (a0 : List Y75) (a1 : Y27) (a2 : Y30) : Option (Bool):=Ad (Gk a0 1048576) fun v1 => cond (decide (v1 < 0)) (some true) (Ad (H0 a1 v1) fun v5 => cond (decide (v5 < 0)) (some true) (Ad (EV a2 v5) fun v9 => cond (decide (v9 < 0)) (some true) (Ad (Ey a0) fun v13 => Ad (Gm a1) fun v15 => Ad (Cy a2) fun v17 => Ad (Cl v13 v15 v17) fun v19 => Ad (Ey a0) fun v21 => Ad (Gm a1) fun v23 => Ad (Cy a2) fun v25 => Ad (Ci v21 v23 v25) fun v27 => cond (!(v27 == v19)) (some false) (Ad (Ey a0) fun v32 => Ad (Gi v21 v32) fun v34 => cond (!v34) (some false) (Ad (Gm a1) fun v38 => Ad (HZ v23 v38) fun v40 => cond (!v40) (some false) (Ad (Cy a2) fun v44 => Ad (EU v25 v44) fun v46 => cond (!v46) (some false) (some true)))))))
theorem HW {a0 : List Y75} {a1 : Y27} {a2 : Y30} {r : Bool} (h : Co a0 a1 a2 = some r) : Ag Tryz.prog 3 [.agg [dL IE a0],.agg (Le a1),.agg (Lf a2)] (.bool r):=by
 unfold Co at h
 refine st kH rfl (rn 2 rfl (rs (sp 2 rfl (?_))))
 obtain ⟨v1,g2,h⟩:=Aa h
 refine qC (qa rfl (erg (erc (erD Ml _) rfl)) (qs rfl Aw)) (Mz g2) (sp 1 rfl (evn (Ac fun K3 hK3 => rn 1 rfl ?_)))
 rcases Ab h with ⟨g4,h⟩ | ⟨g4,h⟩
 ·exact qT rfl g4 (rn 1 rfl (Af ((by cases h; exact ⟨.inl rfl,rfl⟩))))
 ·refine qF rfl g4 (Ae (hK3 _ (rs (sp 2 rfl (?_)))))
  obtain ⟨v5,g6,h⟩:=Aa h
  refine qC (qa rfl (erg (erc rfl (erc (erD NE _) (erc (erD Al _) rfl)))) (qs rfl Aw)) (OM g6) (sp 1 rfl (evn (Ac fun K7 hK7 => rn 1 rfl (qk [3,4,5,7,22] rfl ?_))))
  rcases Ab h with ⟨g8,h⟩ | ⟨g8,h⟩
  ·exact qT rfl g8 (rn 1 rfl (Af ((by cases h; exact ⟨.inl rfl,rfl⟩))))
  ·refine qF rfl g8 (Ae (hK7 _ (rs (sp 2 rfl (?_)))))
   obtain ⟨v9,g10,h⟩:=Aa h
   refine qC (qa rfl (erg (erc (erD Al _) (erc (erD ND _) (erc (erD Al _) (erc rfl (erc rfl rfl)))))) (qs rfl Aw)) (KU g10) (sp 1 rfl (evn (Ac fun K11 hK11 => rn 1 rfl ?_)))
   rcases Ab h with ⟨g12,h⟩ | ⟨g12,h⟩
   ·exact qT rfl g12 (rn 1 rfl (Af ((by cases h; exact ⟨.inl rfl,rfl⟩))))
   ·refine qF rfl g12 (Ae (hK11 _ (rd (by kernel_rfl) (sd 1 rfl (?_)))))
    obtain ⟨v13,g14,h⟩:=Aa h
    refine ed rfl (qC (qa rfl (erg (erc (erD Ml _) rfl)) Aw) (HH g14) (sd 1 rfl (?_)))
    obtain ⟨v15,g16,h⟩:=Aa h
    refine ed rfl (qC (qa rfl (erg (erc rfl (erc (erD NE _) (erc (erD Al _) rfl)))) Aw) (Jm g16) (sd 1 rfl (?_)))
    obtain ⟨v17,g18,h⟩:=Aa h
    refine ed rfl (qC (qa rfl (erg (erc (erD Al _) (erc (erD ND _) (erc (erD Al _) (erc rfl (erc rfl rfl)))))) Aw) (GJ g18) (?_))
    obtain ⟨v19,g20,h⟩:=Aa h
    refine ed rfl (qC (qa rfl (erg (erc (erO PD _) rfl)) (qa rfl (erg (erc rfl (erc (erO QA _) (erc (erO Al _) rfl)))) (qa rfl (erg (erc (erO Al _) (erc (erO FK _) (erc (erO Al _) (erc rfl (erc rfl rfl)))))) Aw))) (J1 g20) (sd 1 rfl (Ea (qk [3,4,5,8] rfl (rs (sp 1 rfl (?_)))))))
    obtain ⟨v21,g22,h⟩:=Aa h
    refine qC (qa rfl (erg (erc (erD Ml _) rfl)) Aw) (HH g22) (sp 2 rfl (evn (rs (sp 1 rfl (?_)))))
    obtain ⟨v23,g24,h⟩:=Aa h
    refine qC (qa rfl (erg (erc rfl (erc (erD NE _) (erc (erD Al _) rfl)))) Aw) (Jm g24) (sp 2 rfl (evn (rs (sp 1 rfl (?_)))))
    obtain ⟨v25,g26,h⟩:=Aa h
    refine qC (qa rfl (erg (erc (erD Al _) (erc (erD ND _) (erc (erD Al _) (erc rfl (erc rfl rfl)))))) Aw) (GJ g26) (sp 2 rfl (evn (rs (sp 3 rfl (?_)))))
    obtain ⟨v27,g28,h⟩:=Aa h
    refine qC (qa rfl (erg (erc (erD PD _) rfl)) (qa rfl (erg (erc rfl (erc (erD QA _) (erc (erD Al _) rfl)))) (qa rfl (erg (erc (erD Al _) (erc (erD FK _) (erc (erD Al _) (erc rfl (erc rfl rfl)))))) Aw))) (JQ g28) (sp 1 rfl (evn (Ac fun K29 hK29 => rn 1 rfl ?_)))
    rcases Ab h with ⟨g30,h⟩ | ⟨g30,h⟩
    ·exact qT rfl g30 (rn 1 rfl (Af ((by cases h; exact ⟨.inl rfl,rfl⟩))))
    ·refine qF rfl g30 (Ae (hK29 _ (Ac fun K31 hK31 => rd (by kernel_rfl) (sd 2 rfl (?_)))))
     obtain ⟨v32,g33,h⟩:=Aa h
     refine ed rfl (qC (qa rfl (erg (erc (erD Ml _) rfl)) Aw) (HH g33) (?_))
     obtain ⟨v34,g35,h⟩:=Aa h
     refine ed rfl (qC (qa rfl (erg (erc (erD PD _) rfl)) (qa rfl (erg (erc (erO PD _) rfl)) Aw)) (Mw g35) (sd 1 rfl (Ea (qk [4,5,10,11,52] rfl ?_))))
     rcases Ab h with ⟨g36,h⟩ | ⟨g36,h⟩
     ·exact qT rfl g36 (rn 1 rfl (Af ((by cases h; exact ⟨.inl rfl,rfl⟩))))
     ·refine qF rfl g36 (Ae (hK31 _ (Ac fun K37 hK37 => rd (by kernel_rfl) (sd 2 rfl (?_)))))
      obtain ⟨v38,g39,h⟩:=Aa h
      refine ed rfl (qC (qa rfl (erg (erc rfl (erc (erD NE _) (erc (erD Al _) rfl)))) Aw) (Jm g39) (?_))
      obtain ⟨v40,g41,h⟩:=Aa h
      refine ed rfl (qC (qa rfl (erg (erc rfl (erc (erD QA _) (erc (erD Al _) rfl)))) (qa rfl (erg (erc rfl (erc (erO QA _) (erc (erO Al _) rfl)))) Aw)) (OI g41) (sd 1 rfl (Ea ?_)))
      rcases Ab h with ⟨g42,h⟩ | ⟨g42,h⟩
      ·exact qT rfl g42 (rn 1 rfl (Af ((by cases h; exact ⟨.inl rfl,rfl⟩))))
      ·refine qF rfl g42 (Ae (hK37 _ (Ac fun K43 hK43 => rd (by kernel_rfl) (sd 2 rfl (?_)))))
       obtain ⟨v44,g45,h⟩:=Aa h
       refine ed rfl (qC (qa rfl (erg (erc (erD Al _) (erc (erD ND _) (erc (erD Al _) (erc rfl (erc rfl rfl)))))) Aw) (GJ g45) (?_))
       obtain ⟨v46,g47,h⟩:=Aa h
       refine ed rfl (qC (qa rfl (erg (erc (erD Al _) (erc (erD FK _) (erc (erD Al _) (erc rfl (erc rfl rfl)))))) (qa rfl (erg (erc (erO Al _) (erc (erO FK _) (erc (erO Al _) (erc rfl (erc rfl rfl)))))) Aw)) (KT g47) (sd 1 rfl (Ea ?_)))
       rcases Ab h with ⟨g48,h⟩ | ⟨g48,h⟩
       ·exact qT rfl g48 (rn 1 rfl (qk [6] rfl (Af ((by cases h; exact ⟨.inl rfl,rfl⟩)))))
       ·exact qF rfl g48 (Ae (hK43 _ (rn 1 rfl (Af ((by cases h; exact ⟨.inl rfl,rfl⟩))))))
end Go.Proofs.YtkclaipnejgloaaGreatDoor
