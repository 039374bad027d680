/-
  Functions of the program as typed functions, printed by gen.py, and that the program's functions do what they say. No conditions.
-/
import Derived.Test.YtpcbnmcfplioeaaGreatGScNC1
namespace Go.Proofs.YtpcbnmcfplioeaaGreat
open Go.RowKit
set_option linter.unusedVariables false
set_option maxRecDepth 100000
set_option maxHeartbeats 1000000
def IF (a0 : Y34) (a1 : Y34) : Option (Bool):=cond (!(a0.1 == a1.1)) (some false) (Ad (D4 a0.2.1 a1.2.1) fun v4 => cond (!v4) (some false) (Ad (D4 a0.2.2 a1.2.2) fun v8 => cond (!v8) (some false) (some true)))
theorem QJ {a0 : Y34} {a1 : Y34} {r : Bool} (h : IF a0 a1 = some r) : Ai Tryz.prog 23 [.agg (Gc a0),.agg (Gc a1)] (.bool r):=by
 unfold IF at h
 refine st mZ rfl (rn 1 rfl (Ac fun K1 hK1 => rn 1 rfl ?_))
 rcases Ab h with ⟨g2,h⟩ | ⟨g2,h⟩
 ·exact qT rfl g2 (rn 1 rfl (Af ((by cases h; exact ⟨.inl rfl,rfl⟩))))
 ·refine qF rfl g2 (Ae (hK1 _ (Ac fun K3 hK3 => rs (sp 4 rfl (?_)))))
  obtain ⟨v4,g5,h⟩:=Aa h
  refine qC (qa rfl (erg (erc rfl (erc (erD Ar _) rfl))) (qa rfl (erg (erc rfl (erc (erD Ar _) rfl))) Ax)) (H9 g5) (sp 1 rfl (evn ?_))
  rcases Ab h with ⟨g6,h⟩ | ⟨g6,h⟩
  ·exact qT rfl g6 (rn 1 rfl (Af ((by cases h; exact ⟨.inl rfl,rfl⟩))))
  ·refine qF rfl g6 (Ae (hK3 _ (Ac fun K7 hK7 => rs (sp 4 rfl (?_)))))
   obtain ⟨v8,g9,h⟩:=Aa h
   refine qC (qa rfl (erg (erc rfl (erc (erD Ar _) rfl))) (qa rfl (erg (erc rfl (erc (erD Ar _) rfl))) Ax)) (H9 g9) (sp 1 rfl (evn (qk [21] rfl ?_)))
   rcases Ab h with ⟨g10,h⟩ | ⟨g10,h⟩
   ·exact qT rfl g10 (rn 1 rfl (Af ((by cases h; exact ⟨.inl rfl,rfl⟩))))
   ·exact qF rfl g10 (Ae (hK7 _ (rn 1 rfl (Af ((by cases h; exact ⟨.inl rfl,rfl⟩))))))
def FU (a0 : List Int) (rec : (Int × Int) -> Option (Sum (Int) (Int))) (s : Int × Int) : Option (Sum (Int) (Int)):=match s with
  | (y1,y2) => cond (decide (y2 < (List.length a0 : Int))) (Ad (AO a0 y2) fun e7 => cond (e7 != y1) (some (.inr (-1))) (rec ((IntKind.i64.wrap (y1 + 1)),(IntKind.i64.wrap (y2 + 1))))) (some (.inl y1))
def DL (a0 : List Int) (a1 : Int) : Option (Int):=Ad (Ao (FU a0) fz (a1,0)) fun o1 => (match o1 with
  | .inl z2 => (some z2)
  | .inr r => some r)
theorem GA {a0 : List Int} {a1 : Int} {r : Int} (h : DL a0 a1 = some r) : Ai Tryz.prog 76 [dL As a0,nI a1] (nI r):=by
 unfold DL at h
 refine st nM rfl (rn 1 rfl (Ac fun K1 hK1 => rn 1 rfl ?_))
 obtain ⟨o1,hl,hr1⟩:=Aa h
 have kXB1 : ∀ {z2 : Int},(.inl z2) = o1 -> Jn K1 [(1,nI z2)]:=by
  intro z2 h σ' hk
  subst h
  replace h:=hr1
  try dsimp only at h
  exact hK1 _ (lh hk rfl (rn 1 rfl (Af ((by cases h; exact ⟨.inl rfl,rfl⟩)))))
 refine AB (fun (s : Int × Int) => match s with | (y1,y2) => [(0,dL As a0),(1,nI y1),(5,nI y2)]) _ _ _ _ hl (okr rfl) (fun _ => rfl) ?_
 rintro m ⟨y1,y2⟩ N h hN
 unfold FU at h
 dsimp only at h
 refine Ac fun K3 hK3 => rn 1 rfl ?_
 rcases Ab h with ⟨g4,h⟩ | ⟨g4,h⟩
 ·refine qT rfl g4 (Ae (hK3 _ (Ac fun K5 hK5 => Az (Ac fun K6 hK6 => rs (sp 2 rfl (?_))))))
  obtain ⟨e7,g8,h⟩:=Aa h
  refine qI rfl AM g8 (sp 3 rfl (evn ?_))
  rcases Ab h with ⟨g9,h⟩ | ⟨g9,h⟩
  ·exact qT rfl g9 (rn 1 rfl (Af ((by cases h; cases hr1; exact ⟨.inl rfl,rfl⟩))))
  ·exact qF rfl g9 (Ae (hK6 _ (rg (sp 3 rfl (evn (hK5 _ (rg (sp 3 rfl (evn (hN _ _ h (okr rfl)))))))))))
 ·exact qF rfl g4 (Aq (kXB1 (Option.some.inj h) _ (okr rfl)))
def Fi (a0 : List (List Int)) (rec : (Int × Int) -> Option (Sum (Int) (Int))) (s : Int × Int) : Option (Sum (Int) (Int)):=match s with
  | (y1,y2) => cond (decide (y2 < (List.length a0 : Int))) (Ad (AO a0 y2) fun e6 => Ad (DL e6 y1) fun v8 => cond (decide (v8 < 0)) (some (.inr (-1))) (rec (v8,(IntKind.i64.wrap (y2 + 1))))) (some (.inl y1))
def EX (a0 : List (List Int)) (a1 : Int) : Option (Int):=Ad (Ao (Fi a0) fz (a1,0)) fun o1 => (match o1 with
  | .inl z2 => (some z2)
  | .inr r => some r)
theorem IZ {a0 : List (List Int)} {a1 : Int} {r : Int} (h : EX a0 a1 = some r) : Ai Tryz.prog 75 [dL AJ a0,nI a1] (nI r):=by
 unfold EX at h
 refine st nL rfl (rn 1 rfl (Ac fun K1 hK1 => rn 1 rfl ?_))
 obtain ⟨o1,hl,hr1⟩:=Aa h
 have kXB1 : ∀ {z2 : Int},(.inl z2) = o1 -> Jn K1 [(1,nI z2)]:=by
  intro z2 h σ' hk
  subst h
  replace h:=hr1
  try dsimp only at h
  exact hK1 _ (lh hk rfl (rn 1 rfl (Af ((by cases h; exact ⟨.inl rfl,rfl⟩)))))
 refine AB (fun (s : Int × Int) => match s with | (y1,y2) => [(0,dL AJ a0),(1,nI y1),(5,nI y2)]) _ _ _ _ hl (okr rfl) (fun _ => rfl) ?_
 rintro m ⟨y1,y2⟩ N h hN
 unfold Fi at h
 dsimp only at h
 refine Ac fun K3 hK3 => rn 1 rfl ?_
 rcases Ab h with ⟨g4,h⟩ | ⟨g4,h⟩
 ·refine qT rfl g4 (Ae (hK3 _ (Ac fun K5 hK5 => Az (rs (sp 2 rfl (?_))))))
  obtain ⟨e6,g7,h⟩:=Aa h
  refine qI rfl Br g7 (sp 2 rfl (?_))
  obtain ⟨v8,g9,h⟩:=Aa h
  refine qC (qa rfl (erD An _) (qs rfl Ax)) (GA g9) (sp 1 rfl (evn (rn 1 rfl ?_)))
  rcases Ab h with ⟨g10,h⟩ | ⟨g10,h⟩
  ·exact qT rfl g10 (rn 1 rfl (Af ((by cases h; cases hr1; exact ⟨.inl rfl,rfl⟩))))
  ·exact qF rfl g10 (Ae (hK5 _ (rg (sp 3 rfl (evn (hN _ _ h (okr rfl)))))))
 ·exact qF rfl g4 (Aq (kXB1 (Option.some.inj h) _ (okr rfl)))
def By (a0 : List Y43) (rec : (Int × Int) -> Option (Sum (Int) (Int))) (s : Int × Int) : Option (Sum (Int) (Int)):=match s with
  | (y1,y2) => cond (decide (y2 < (List.length a0 : Int))) (Ad (AO a0 y2) fun e7 => cond (e7.1 != y1) (some (.inr (-1))) (Ad (AO a0 y2) fun e10 => Ad (EX e10.2.1 (IntKind.i64.wrap (y1 + 1))) fun v12 => cond (decide (v12 < 0)) (some (.inr (-1))) (Ad (AO a0 y2) fun e16 => Ad (DL e16.2.2 v12) fun v18 => cond (decide (v18 < 0)) (some (.inr (-1))) (rec (v18,(IntKind.i64.wrap (y2 + 1))))))) (some (.inl y1))
def A7 (a0 : List Y43) (a1 : Int) : Option (Int):=Ad (Ao (By a0) fz (a1,0)) fun o1 => (match o1 with
  | .inl z2 => (some z2)
  | .inr r => some r)
theorem D5 {a0 : List Y43} {a1 : Int} {r : Int} (h : A7 a0 a1 = some r) : Ai Tryz.prog 28 [dL Bf a0,nI a1] (nI r):=by
 unfold A7 at h
 refine st m5 rfl (rn 1 rfl (Ac fun K1 hK1 => rn 1 rfl ?_))
 obtain ⟨o1,hl,hr1⟩:=Aa h
 have kXB1 : ∀ {z2 : Int},(.inl z2) = o1 -> Jn K1 [(1,nI z2)]:=by
  intro z2 h σ' hk
  subst h
  replace h:=hr1
  try dsimp only at h
  exact hK1 _ (lh hk rfl (rn 1 rfl (Af ((by cases h; exact ⟨.inl rfl,rfl⟩)))))
 refine AB (fun (s : Int × Int) => match s with | (y1,y2) => [(0,dL Bf a0),(1,nI y1),(5,nI y2)]) _ _ _ _ hl (okr rfl) (fun _ => rfl) ?_
 rintro m ⟨y1,y2⟩ N h hN
 unfold By at h
 dsimp only at h
 refine Ac fun K3 hK3 => rn 1 rfl ?_
 rcases Ab h with ⟨g4,h⟩ | ⟨g4,h⟩
 ·refine qT rfl g4 (Ae (hK3 _ (Ac fun K5 hK5 => Az (Ac fun K6 hK6 => rs (sp 2 rfl (?_))))))
  obtain ⟨e7,g8,h⟩:=Aa h
  refine qI rfl Jj g8 (sp 4 rfl (evn ?_))
  rcases Ab h with ⟨g9,h⟩ | ⟨g9,h⟩
  ·exact qT rfl g9 (rn 1 rfl (Af ((by cases h; cases hr1; exact ⟨.inl rfl,rfl⟩))))
  ·refine qF rfl g9 (Ae (hK6 _ (rn 1 rfl (rs (sp 2 rfl (?_))))))
   obtain ⟨e10,g11,h⟩:=Aa h
   refine qI rfl Jj g11 (sp 3 rfl (?_))
   obtain ⟨v12,g13,h⟩:=Aa h
   refine qC (qa rfl (erD Ar _) (qs rfl Ax)) (IZ g13) (sp 1 rfl (evn (qk [0,1,5] rfl (Ac fun K14 hK14 => rn 1 rfl ?_))))
   rcases Ab h with ⟨g15,h⟩ | ⟨g15,h⟩
   ·exact qT rfl g15 (rn 1 rfl (Af ((by cases h; cases hr1; exact ⟨.inl rfl,rfl⟩))))
   ·refine qF rfl g15 (Ae (hK14 _ (rs (sp 2 rfl (?_)))))
    obtain ⟨e16,g17,h⟩:=Aa h
    refine qI rfl Jj g17 (sp 3 rfl (?_))
    obtain ⟨v18,g19,h⟩:=Aa h
    refine qC (qa rfl (erD An _) (qs rfl Ax)) (GA g19) (sp 1 rfl (evn (rn 1 rfl ?_)))
    rcases Ab h with ⟨g20,h⟩ | ⟨g20,h⟩
    ·exact qT rfl g20 (rn 1 rfl (Af ((by cases h; cases hr1; exact ⟨.inl rfl,rfl⟩))))
    ·exact qF rfl g20 (Ae (hK5 _ (qk [0,1,5] rfl (rg (sp 3 rfl (evn (hN _ _ h (okr rfl))))))))
 ·exact qF rfl g4 (Aq (kXB1 (Option.some.inj h) _ (okr rfl)))
def EH (a0 : List AU) (rec : (Int × Int) -> Option (Sum (Int) (Int))) (s : Int × Int) : Option (Sum (Int) (Int)):=match s with
  | (y1,y2) => cond (decide (y2 < (List.length a0 : Int))) (Ad (AO a0 y2) fun e7 => Ad (EI y1) fun v9 => cond (!(e7.1 == v9)) (some (.inr (-1))) (Ad (AO a0 y2) fun e13 => cond (e13.2.1 != (IntKind.i64.wrap (y1 + 1))) (some (.inr (-1))) (Ad (AO a0 y2) fun e16 => Ad (EX e16.2.2 (IntKind.i64.wrap ((IntKind.i64.wrap (y1 + 1)) + 1))) fun v18 => cond (decide (v18 < 0)) (some (.inr (-1))) (rec (v18,(IntKind.i64.wrap (y2 + 1))))))) (some (.inl y1))
def GB (a0 : List AU) (a1 : Int) : Option (Int):=Ad (Ao (EH a0) fz (a1,0)) fun o1 => (match o1 with
  | .inl z2 => (some z2)
  | .inr r => some r)
theorem Og {a0 : List AU} {a1 : Int} {r : Int} (h : GB a0 a1 = some r) : Ai Tryz.prog 138 [dL At a0,nI a1] (nI r):=by
 unfold GB at h
 refine st iK rfl (rn 1 rfl (Ac fun K1 hK1 => rn 1 rfl ?_))
 obtain ⟨o1,hl,hr1⟩:=Aa h
 have kXB1 : ∀ {z2 : Int},(.inl z2) = o1 -> Jn K1 [(1,nI z2)]:=by
  intro z2 h σ' hk
  subst h
  replace h:=hr1
  try dsimp only at h
  exact hK1 _ (lh hk rfl (rn 1 rfl (Af ((by cases h; exact ⟨.inl rfl,rfl⟩)))))
 refine AB (fun (s : Int × Int) => match s with | (y1,y2) => [(0,dL At a0),(1,nI y1),(5,nI y2)]) _ _ _ _ hl (okr rfl) (fun _ => rfl) ?_
 rintro m ⟨y1,y2⟩ N h hN
 unfold EH at h
 dsimp only at h
 refine Ac fun K3 hK3 => rn 1 rfl ?_
 rcases Ab h with ⟨g4,h⟩ | ⟨g4,h⟩
 ·refine qT rfl g4 (Ae (hK3 _ (Ac fun K5 hK5 => Az (Ac fun K6 hK6 => rd (by kernel_rfl) (sd 2 rfl (?_))))))
  obtain ⟨e7,g8,h⟩:=Aa h
  refine ed rfl (qI rfl Cz g8 (sd 3 rfl (?_)))
  obtain ⟨v9,g10,h⟩:=Aa h
  refine ed rfl (qC (qs rfl Ax) (JK g10) (sd 1 rfl (CK ?_)))
  rcases Ab h with ⟨g11,h⟩ | ⟨g11,h⟩
  ·exact qT rfl g11 (rn 1 rfl (Af ((by cases h; cases hr1; exact ⟨.inl rfl,rfl⟩))))
  ·refine qF rfl g11 (Ae (hK6 _ (rn 1 rfl (Ac fun K12 hK12 => rs (sp 2 rfl (?_))))))
   obtain ⟨e13,g14,h⟩:=Aa h
   refine qI rfl Cz g14 (sp 5 rfl (evn (qk [0,1,5,29] rfl ?_)))
   rcases Ab h with ⟨g15,h⟩ | ⟨g15,h⟩
   ·exact qT rfl g15 (rn 1 rfl (Af ((by cases h; cases hr1; exact ⟨.inl rfl,rfl⟩))))
   ·refine qF rfl g15 (Ae (hK12 _ (rn 1 rfl (rs (sp 2 rfl (?_))))))
    obtain ⟨e16,g17,h⟩:=Aa h
    refine qI rfl Cz g17 (sp 4 rfl (?_))
    obtain ⟨v18,g19,h⟩:=Aa h
    refine qC (qa rfl (erD Ar _) (qs rfl Ax)) (IZ g19) (sp 1 rfl (evn (rn 1 rfl ?_)))
    rcases Ab h with ⟨g20,h⟩ | ⟨g20,h⟩
    ·exact qT rfl g20 (rn 1 rfl (Af ((by cases h; cases hr1; exact ⟨.inl rfl,rfl⟩))))
    ·exact qF rfl g20 (Ae (hK5 _ (qk [0,1,5] rfl (rg (sp 3 rfl (evn (hN _ _ h (okr rfl))))))))
 ·exact qF rfl g4 (Aq (kXB1 (Option.some.inj h) _ (okr rfl)))
def Fh (a0 : List AU) (a1 : Int) : Option (Int):=Ad (GB a0 a1) fun v1 => cond (decide (v1 < 0)) (some (-1)) (some v1)
theorem MQ {a0 : List AU} {a1 : Int} {r : Int} (h : Fh a0 a1 = some r) : Ai Tryz.prog 73 [.agg [dL At a0],nI a1] (nI r):=by
 unfold Fh at h
 refine st nJ rfl (rn 1 rfl (rs (sp 3 rfl (?_))))
 obtain ⟨v1,g2,h⟩:=Aa h
 refine qC (qa rfl (erD AH _) (qs rfl Ax)) (Og g2) (sp 1 rfl (evn (Ac fun K3 hK3 => rn 1 rfl ?_)))
 rcases Ab h with ⟨g4,h⟩ | ⟨g4,h⟩
 ·exact qT rfl g4 (rn 1 rfl (Af ((by cases h; exact ⟨.inl rfl,rfl⟩))))
 ·exact qF rfl g4 (Ae (hK3 _ (rn 1 rfl (Af ((by cases h; exact ⟨.inl rfl,rfl⟩))))))
def Ff (a0 : List CA) (rec : (Int × Int) -> Option (Sum (Int) (Int))) (s : Int × Int) : Option (Sum (Int) (Int)):=match s with
  | (y1,y2) => cond (decide (y2 < (List.length a0 : Int))) (Ad (AO a0 y2) fun e7 => Ad (EI y1) fun v9 => cond (!(e7.1 == v9)) (some (.inr (-1))) (Ad (AO a0 y2) fun e12 => Ad (DL e12.2 (IntKind.i64.wrap (y1 + 1))) fun v14 => cond (decide (v14 < 0)) (some (.inr (-1))) (rec (v14,(IntKind.i64.wrap (y2 + 1)))))) (some (.inl y1))
def G7 (a0 : List CA) (a1 : Int) : Option (Int):=Ad (Ao (Ff a0) fz (a1,0)) fun o1 => (match o1 with
  | .inl z2 => (some z2)
  | .inr r => some r)
theorem OU {a0 : List CA} {a1 : Int} {r : Int} (h : G7 a0 a1 = some r) : Ai Tryz.prog 139 [dL Bc a0,nI a1] (nI r):=by
 unfold G7 at h
 refine st iL rfl (rn 1 rfl (Ac fun K1 hK1 => rn 1 rfl ?_))
 obtain ⟨o1,hl,hr1⟩:=Aa h
 have kXB1 : ∀ {z2 : Int},(.inl z2) = o1 -> Jn K1 [(1,nI z2)]:=by
  intro z2 h σ' hk
  subst h
  replace h:=hr1
  try dsimp only at h
  exact hK1 _ (lh hk rfl (rn 1 rfl (Af ((by cases h; exact ⟨.inl rfl,rfl⟩)))))
 refine AB (fun (s : Int × Int) => match s with | (y1,y2) => [(0,dL Bc a0),(1,nI y1),(5,nI y2)]) _ _ _ _ hl (okr rfl) (fun _ => rfl) ?_
 rintro m ⟨y1,y2⟩ N h hN
 unfold Ff at h
 dsimp only at h
 refine Ac fun K3 hK3 => rn 1 rfl ?_
 rcases Ab h with ⟨g4,h⟩ | ⟨g4,h⟩
 ·refine qT rfl g4 (Ae (hK3 _ (Ac fun K5 hK5 => Az (Ac fun K6 hK6 => rd (by kernel_rfl) (sd 2 rfl (?_))))))
  obtain ⟨e7,g8,h⟩:=Aa h
  refine ed rfl (qI rfl GN g8 (sd 3 rfl (?_)))
  obtain ⟨v9,g10,h⟩:=Aa h
  refine ed rfl (qC (qs rfl Ax) (JK g10) (sd 1 rfl (CK ?_)))
  rcases Ab h with ⟨g11,h⟩ | ⟨g11,h⟩
  ·exact qT rfl g11 (rn 1 rfl (Af ((by cases h; cases hr1; exact ⟨.inl rfl,rfl⟩))))
  ·refine qF rfl g11 (Ae (hK6 _ (rn 1 rfl (rs (sp 2 rfl (?_))))))
   obtain ⟨e12,g13,h⟩:=Aa h
   refine qI rfl GN g13 (sp 3 rfl (?_))
   obtain ⟨v14,g15,h⟩:=Aa h
   refine qC (qa rfl (erD An _) (qs rfl Ax)) (GA g15) (sp 1 rfl (evn (qk [0,1,5] rfl (rn 1 rfl ?_))))
   rcases Ab h with ⟨g16,h⟩ | ⟨g16,h⟩
   ·exact qT rfl g16 (rn 1 rfl (Af ((by cases h; cases hr1; exact ⟨.inl rfl,rfl⟩))))
   ·exact qF rfl g16 (Ae (hK5 _ (rg (sp 3 rfl (evn (hN _ _ h (okr rfl)))))))
 ·exact qF rfl g4 (Aq (kXB1 (Option.some.inj h) _ (okr rfl)))
def Fj (a0 : List Y53) (rec : (Int × Int) -> Option (Sum (Int) (Int))) (s : Int × Int) : Option (Sum (Int) (Int)):=match s with
  | (y1,y2) => cond (decide (y2 < (List.length a0 : Int))) (Ad (AO a0 y2) fun e7 => cond (e7.1.1 != y1) (some (.inr (-1))) (Ad (AO a0 y2) fun e10 => Ad (G7 e10.1.2.1 (IntKind.i64.wrap (y1 + 1))) fun v12 => cond (decide (v12 < 0)) (some (.inr (-1))) (Ad (AO a0 y2) fun e16 => Ad (DL e16.1.2.2 v12) fun v18 => cond (decide (v18 < 0)) (some (.inr (-1))) (Ad (AO a0 y2) fun e23 => cond (e23.2.1 != v18) (some (.inr (-1))) (Ad (AO a0 y2) fun e26 => Ad (EX e26.2.2.1 (IntKind.i64.wrap (v18 + 1))) fun v28 => cond (decide (v28 < 0)) (some (.inr (-1))) (Ad (AO a0 y2) fun e32 => Ad (DL e32.2.2.2 v28) fun v34 => cond (decide (v34 < 0)) (some (.inr (-1))) (rec (v34,(IntKind.i64.wrap (y2 + 1)))))))))) (some (.inl y1))
def G8 (a0 : List Y53) (a1 : Int) : Option (Int):=Ad (Ao (Fj a0) fz (a1,0)) fun o1 => (match o1 with
  | .inl z2 => (some z2)
  | .inr r => some r)
theorem OV {a0 : List Y53} {a1 : Int} {r : Int} (h : G8 a0 a1 = some r) : Ai Tryz.prog 74 [dL AW a0,nI a1] (nI r):=by
 unfold G8 at h
 refine st nK rfl (rn 1 rfl (Ac fun K1 hK1 => rn 1 rfl ?_))
 obtain ⟨o1,hl,hr1⟩:=Aa h
 have kXB1 : ∀ {z2 : Int},(.inl z2) = o1 -> Jn K1 [(1,nI z2)]:=by
  intro z2 h σ' hk
  subst h
  replace h:=hr1
  try dsimp only at h
  exact hK1 _ (lh hk rfl (rn 1 rfl (Af ((by cases h; exact ⟨.inl rfl,rfl⟩)))))
 refine AB (fun (s : Int × Int) => match s with | (y1,y2) => [(0,dL AW a0),(1,nI y1),(5,nI y2)]) _ _ _ _ hl (okr rfl) (fun _ => rfl) ?_
 rintro m ⟨y1,y2⟩ N h hN
 unfold Fj at h
 dsimp only at h
 refine Ac fun K3 hK3 => rn 1 rfl ?_
 rcases Ab h with ⟨g4,h⟩ | ⟨g4,h⟩
 ·refine qT rfl g4 (Ae (hK3 _ (Ac fun K5 hK5 => Az (Ac fun K6 hK6 => rs (sp 2 rfl (?_))))))
  obtain ⟨e7,g8,h⟩:=Aa h
  refine qI rfl C1 g8 (sp 5 rfl (evn ?_))
  rcases Ab h with ⟨g9,h⟩ | ⟨g9,h⟩
  ·exact qT rfl g9 (rn 1 rfl (Af ((by cases h; cases hr1; exact ⟨.inl rfl,rfl⟩))))
  ·refine qF rfl g9 (Ae (hK6 _ (rn 1 rfl (rs (sp 2 rfl (?_))))))
   obtain ⟨e10,g11,h⟩:=Aa h
   refine qI rfl C1 g11 (sp 4 rfl (?_))
   obtain ⟨v12,g13,h⟩:=Aa h
   refine qC (qa rfl (erD BB _) (qs rfl Ax)) (OU g13) (sp 1 rfl (evn (qk [0,1,5] rfl (Ac fun K14 hK14 => rn 1 rfl ?_))))
   rcases Ab h with ⟨g15,h⟩ | ⟨g15,h⟩
   ·exact qT rfl g15 (rn 1 rfl (Af ((by cases h; cases hr1; exact ⟨.inl rfl,rfl⟩))))
   ·refine qF rfl g15 (Ae (hK14 _ (rs (sp 2 rfl (?_)))))
    obtain ⟨e16,g17,h⟩:=Aa h
    refine qI rfl C1 g17 (sp 4 rfl (?_))
    obtain ⟨v18,g19,h⟩:=Aa h
    refine qC (qa rfl (erD An _) (qs rfl Ax)) (GA g19) (sp 1 rfl (evn (Ac fun K20 hK20 => rn 1 rfl ?_)))
    rcases Ab h with ⟨g21,h⟩ | ⟨g21,h⟩
    ·exact qT rfl g21 (rn 1 rfl (Af ((by cases h; cases hr1; exact ⟨.inl rfl,rfl⟩))))
    ·refine qF rfl g21 (Ae (hK20 _ (qk [0,1,5] rfl (Ac fun K22 hK22 => rs (sp 2 rfl (?_))))))
     obtain ⟨e23,g24,h⟩:=Aa h
     refine qI rfl C1 g24 (sp 5 rfl (evn ?_))
     rcases Ab h with ⟨g25,h⟩ | ⟨g25,h⟩
     ·exact qT rfl g25 (rn 1 rfl (Af ((by cases h; cases hr1; exact ⟨.inl rfl,rfl⟩))))
     ·refine qF rfl g25 (Ae (hK22 _ (rn 1 rfl (rs (sp 2 rfl (?_))))))
      obtain ⟨e26,g27,h⟩:=Aa h
      refine qI rfl C1 g27 (sp 4 rfl (?_))
      obtain ⟨v28,g29,h⟩:=Aa h
      refine qC (qa rfl (erD Ar _) (qs rfl Ax)) (IZ g29) (sp 1 rfl (evn (Ac fun K30 hK30 => rn 1 rfl (qk [0,1,5,61] rfl ?_))))
      rcases Ab h with ⟨g31,h⟩ | ⟨g31,h⟩
      ·exact qT rfl g31 (rn 1 rfl (Af ((by cases h; cases hr1; exact ⟨.inl rfl,rfl⟩))))
      ·refine qF rfl g31 (Ae (hK30 _ (rs (sp 2 rfl (?_)))))
       obtain ⟨e32,g33,h⟩:=Aa h
       refine qI rfl C1 g33 (sp 4 rfl (?_))
       obtain ⟨v34,g35,h⟩:=Aa h
       refine qC (qa rfl (erD An _) (qs rfl Ax)) (GA g35) (sp 1 rfl (evn (rn 1 rfl ?_)))
       rcases Ab h with ⟨g36,h⟩ | ⟨g36,h⟩
       ·exact qT rfl g36 (rn 1 rfl (Af ((by cases h; cases hr1; exact ⟨.inl rfl,rfl⟩))))
       ·exact qF rfl g36 (Ae (hK5 _ (rg (sp 3 rfl (evn (hN _ _ h (okr rfl)))))))
 ·exact qF rfl g4 (Aq (kXB1 (Option.some.inj h) _ (okr rfl)))
def DU (a0 : Y29) (a1 : Int) : Option (Int):=Ad (Fh a0.1 a1) fun v1 => cond (decide (v1 < 0)) (some (-1)) (Ad (G8 a0.2.1 v1) fun v5 => cond (decide (v5 < 0)) (some (-1)) (Ad (A7 a0.2.2 v5) fun v9 => cond (decide (v9 < 0)) (some (-1)) (some v9)))
theorem JF {a0 : Y29} {a1 : Int} {r : Int} (h : DU a0 a1 = some r) : Ai Tryz.prog 27 [.agg (Bx a0),nI a1] (nI r):=by
 unfold DU at h
 refine st m3 rfl (rn 1 rfl (rs (sp 3 rfl (?_))))
 obtain ⟨v1,g2,h⟩:=Aa h
 refine qC (qa rfl (erg (erc (erD AH _) rfl)) (qs rfl Ax)) (MQ g2) (sp 1 rfl (evn (Ac fun K3 hK3 => rn 1 rfl ?_)))
 rcases Ab h with ⟨g4,h⟩ | ⟨g4,h⟩
 ·exact qT rfl g4 (rn 1 rfl (Af ((by cases h; exact ⟨.inl rfl,rfl⟩))))
 ·refine qF rfl g4 (Ae (hK3 _ (rs (sp 3 rfl (?_)))))
  obtain ⟨v5,g6,h⟩:=Aa h
  refine qC (qa rfl (erD MK _) (qs rfl Ax)) (OV g6) (sp 1 rfl (evn (Ac fun K7 hK7 => rn 1 rfl ?_)))
  rcases Ab h with ⟨g8,h⟩ | ⟨g8,h⟩
  ·exact qT rfl g8 (rn 1 rfl (qk [4] rfl (Af ((by cases h; exact ⟨.inl rfl,rfl⟩)))))
  ·refine qF rfl g8 (Ae (hK7 _ (rs (sp 3 rfl (?_)))))
   obtain ⟨v9,g10,h⟩:=Aa h
   refine qC (qa rfl (erD RE _) (qs rfl Ax)) (D5 g10) (sp 1 rfl (evn (Ac fun K11 hK11 => rn 1 rfl ?_)))
   rcases Ab h with ⟨g12,h⟩ | ⟨g12,h⟩
   ·exact qT rfl g12 (rn 1 rfl (Af ((by cases h; exact ⟨.inl rfl,rfl⟩))))
   ·exact qF rfl g12 (Ae (hK11 _ (rn 1 rfl (Af ((by cases h; exact ⟨.inl rfl,rfl⟩))))))
def Dt (a0 : Y62) (a1 : Y65) : Option (Bool):=Ad (GE a0 1048576) fun v1 => cond (decide (v1 < 0)) (some true) (Ad (II a1 v1) fun v5 => cond (decide (v5 < 0)) (some true) (Ad (Di a0) fun v9 => Ad (Fv a1) fun v11 => Ad (DW v9 v11) fun v13 => Ad (Di a0) fun v15 => Ad (Fv a1) fun v17 => Ad (CN v15 v17) fun v19 => Ad (Dh v19.1 v13.1) fun v22 => cond (!v22) (some false) (Ad (A6 v19.2.1 v13.2.1) fun v25 => cond (!v25) (some false) (cond (!(v19.2.2 == v13.2.2)) (some false) (Ad (Di a0) fun v30 => Ad (Dh v15 v30) fun v32 => cond (!v32) (some false) (Ad (Fv a1) fun v36 => Ad (IF v17 v36) fun v38 => cond (!v38) (some false) (Ad (GX v15 1) fun v41 => Ad (Ks v17 v41.2) fun v43 => cond (decide (v43.2 < 0)) (some false) (Ad (Dh v19.1 v13.1) fun v47 => cond (!v47) (some false) (Ad (A6 v19.2.1 v13.2.1) fun v50 => cond (!v50) (some false) (cond (!(v19.2.2 == v13.2.2)) (some false) (Ad (GX v19.1 1) fun v54 => Ad (EY v19.2.1 v54.2) fun v56 => Ad (DU v54.1 1) fun v58 => cond (decide (v58 < 0)) (some false) (Ad (A7 v56.1 v58) fun v62 => cond (decide (v62 < 0)) (some false) (cond (v62 != v56.2) (some false) (Ad (Di a0) fun v68 => Ad (Fv a1) fun v70 => Ad (CN v68 v70) fun v72 => Ad (Dh v72.1 v13.1) fun v75 => cond (!v75) (some false) (Ad (A6 v72.2.1 v13.2.1) fun v78 => cond (!v78) (some false) (cond (!(v72.2.2 == v13.2.2)) (some false) (Ad (DU v54.1 1) fun v82 => cond (decide (v82 < 0)) (some false) (Ad (A7 v56.1 v82) fun v86 => cond (decide (v86 < 0)) (some false) (cond (v86 != v56.2) (some false) (some true))))))))))))))))))))
theorem J0 {a0 : Y62} {a1 : Y65} {r : Bool} (h : Dt a0 a1 = some r) : Ai Tryz.prog 4 [.agg (J5 a0),.agg (U4 a1)] (.bool r):=by
 unfold Dt at h
 refine st pI rfl (rn 2 rfl (rs (sp 2 rfl (?_))))
 obtain ⟨v1,g2,h⟩:=Aa h
 refine qC (qa rfl (erg (erc (erG Nl _) (erc (erG Iw _) (erc (erG LI _) rfl)))) (qs rfl Ax)) (Oi g2) (sp 1 rfl (evn (Ac fun K3 hK3 => rn 1 rfl ?_)))
 rcases Ab h with ⟨g4,h⟩ | ⟨g4,h⟩
 ·exact qT rfl g4 (rn 1 rfl (Af ((by cases h; exact ⟨.inl rfl,rfl⟩))))
 ·refine qF rfl g4 (Ae (hK3 _ (rs (sp 2 rfl (?_)))))
  obtain ⟨v5,g6,h⟩:=Aa h
  refine qC (qa rfl (erg (erc rfl (erc rfl (erc (erG Cv _) (erc rfl (erc (erG Cv _) rfl)))))) (qs rfl Ax)) (QO g6) (sp 1 rfl (evn (Ac fun K7 hK7 => rn 1 rfl (qk [2,3,29] rfl ?_))))
  rcases Ab h with ⟨g8,h⟩ | ⟨g8,h⟩
  ·exact qT rfl g8 (rn 1 rfl (Af ((by cases h; exact ⟨.inl rfl,rfl⟩))))
  ·refine qF rfl g8 (Ae (hK7 _ (rd (by kernel_rfl) (sd 1 rfl (?_)))))
   obtain ⟨v9,g10,h⟩:=Aa h
   refine ed rfl (qC (qa rfl (erg (erc (erG Nl _) (erc (erG Iw _) (erc (erG LI _) rfl)))) Ax) (GY g10) (sd 1 rfl (?_)))
   obtain ⟨v11,g12,h⟩:=Aa h
   refine ed rfl (qC (qa rfl (erg (erc rfl (erc rfl (erc (erG Cv _) (erc rfl (erc (erG Cv _) rfl)))))) Ax) (Ip g12) (?_))
   obtain ⟨v13,g14,h⟩:=Aa h
   refine ed rfl (qC (qa rfl (erg (erc (erO E2 _) (erc (erO CL _) (erc (erO C4 _) rfl)))) (qa rfl (erg (erc rfl (erc rfl (erc (erO A3 _) (erc rfl (erc (erO A3 _) rfl)))))) Ax)) (M2 g14) (sd 8 rfl (CK (rs (sp 1 rfl (?_))))))
   obtain ⟨v15,g16,h⟩:=Aa h
   refine qC (qa rfl (erg (erc (erG Nl _) (erc (erG Iw _) (erc (erG LI _) rfl)))) Ax) (GY g16) (sp 2 rfl (evn (rs (sp 1 rfl (?_)))))
   obtain ⟨v17,g18,h⟩:=Aa h
   refine qC (qa rfl (erg (erc rfl (erc rfl (erc (erG Cv _) (erc rfl (erc (erG Cv _) rfl)))))) Ax) (Ip g18) (sp 2 rfl (evn (rs (sp 2 rfl (?_)))))
   obtain ⟨v19,g20,h⟩:=Aa h
   refine qC (qa rfl (erg (erc (erD E2 _) (erc (erD CL _) (erc (erD C4 _) rfl)))) (qa rfl (erg (erc rfl (erc rfl (erc (erD A3 _) (erc rfl (erc (erD A3 _) rfl)))))) Ax)) (Jz g20) (sp 8 rfl (evn (qk [2,3,6,7,8,9,10,11,12,13] rfl (Ac fun K21 hK21 => rs (sp 2 rfl (?_))))))
   obtain ⟨v22,g23,h⟩:=Aa h
   refine qC (qa rfl (erg (erc (erD E2 _) (erc (erD CL _) (erc (erD C4 _) rfl)))) (qa rfl (erg (erc (erD E2 _) (erc (erD CL _) (erc (erD C4 _) rfl)))) Ax)) (GW g23) (sp 2 rfl (?_))
   rcases Ab h with ⟨g24,h⟩ | ⟨g24,h⟩
   ·exact qg 54 g24 rfl (sp 10 rfl (evn (qT rfl rfl (rn 1 rfl (Af ((by cases h; exact ⟨.inl rfl,rfl⟩)))))))
   ·refine qg 54 g24 rfl (sp 2 rfl (?_))
    obtain ⟨v25,g26,h⟩:=Aa h
    refine oGR rfl rfl (qC (qa rfl (erD C4 _) (qa rfl (erD C4 _) Ax)) (C7 g26) (sp 3 rfl (?_)))
    rcases Ab h with ⟨g27,h⟩ | ⟨g27,h⟩
    ·exact qg 60 g27 rfl (sp 4 rfl (evn (qT rfl rfl (rn 1 rfl (qk [4] rfl (Af ((by cases h; exact ⟨.inl rfl,rfl⟩))))))))
    ·refine qg 60 g27 rfl (sp 4 rfl (evn ?_))
     rcases Ab h with ⟨g28,h⟩ | ⟨g28,h⟩
     ·exact qT rfl g28 (rn 1 rfl (Af ((by cases h; exact ⟨.inl rfl,rfl⟩))))
     ·refine qF rfl g28 (Ae (hK21 _ (Ac fun K29 hK29 => rd (by kernel_rfl) (sd 2 rfl (?_)))))
      obtain ⟨v30,g31,h⟩:=Aa h
      refine ed rfl (qC (qa rfl (erg (erc (erG Nl _) (erc (erG Iw _) (erc (erG LI _) rfl)))) Ax) (GY g31) (?_))
      obtain ⟨v32,g33,h⟩:=Aa h
      refine ed rfl (qC (qa rfl (erg (erc (erD E2 _) (erc (erD CL _) (erc (erD C4 _) rfl)))) (qa rfl (erg (erc (erO E2 _) (erc (erO CL _) (erc (erO C4 _) rfl)))) Ax)) (GW g33) (sd 1 rfl (CK ?_)))
      rcases Ab h with ⟨g34,h⟩ | ⟨g34,h⟩
      ·exact qT rfl g34 (rn 1 rfl (Af ((by cases h; exact ⟨.inl rfl,rfl⟩))))
      ·refine qF rfl g34 (Ae (hK29 _ (Ac fun K35 hK35 => rd (by kernel_rfl) (sd 2 rfl (?_)))))
       obtain ⟨v36,g37,h⟩:=Aa h
       refine ed rfl (qC (qa rfl (erg (erc rfl (erc rfl (erc (erG Cv _) (erc rfl (erc (erG Cv _) rfl)))))) Ax) (Ip g37) (?_))
       obtain ⟨v38,g39,h⟩:=Aa h
       refine ed rfl (qC (qa rfl (erg (erc rfl (erc rfl (erc (erD A3 _) (erc rfl (erc (erD A3 _) rfl)))))) (qa rfl (erg (erc rfl (erc rfl (erc (erO A3 _) (erc rfl (erc (erO A3 _) rfl)))))) Ax)) (QJ g39) (sd 1 rfl (CK (qk [2,3,6,7,8,9,10,11,12,13,74] rfl ?_))))
       rcases Ab h with ⟨g40,h⟩ | ⟨g40,h⟩
       ·exact qT rfl g40 (rn 1 rfl (Af ((by cases h; exact ⟨.inl rfl,rfl⟩))))
       ·refine qF rfl g40 (Ae (hK35 _ (rn 1 rfl (qk [2,3,6,7,8,9,10,11,12,13,14] rfl ?_))))
        obtain ⟨v41,g42,h⟩:=Aa h
        refine R7 (UL ER rfl rfl rfl) rfl rfl (JJ g42) (mi _) (YG (sfc (scc (sca Zi _) (scc (sca Zh _) (scc (sca Zg _) scn))) (sfc (scc rfl (scc rfl (scc (sca bb _) (scc rfl (scc (sca bb _) scn))))) (sfc (scc (sco QE _) (scc (sco ZE _) (scc (sco S6 _) scn))) (sfc (sdL (Dc S6 _)) (sfc rfl (sfs (sfc (scc rfl (scc rfl (scc (sco ZD _) (scc rfl (scc (sco ZD _) scn))))) (sfc (scc (sco QE _) (scc (sco ZE _) (scc (sco S6 _) scn))) (sfc (sdL (Dc S6 _)) (sfc rfl (sfc rfl sfn)))))))))))) rfl rfl ⟨by decide,by decide⟩ rfl rfl (kp [(2,.box [aL LG a0.1,aL Gq a0.2.1,aL J4 a0.2.2]),(3,.box [.str a1.1,nI a1.2.1.1,aL FN a1.2.1.2,nI a1.2.2.1,aL FN a1.2.2.2]),(6,.box [oL 123 Ak v13.1.1,oL 54 Ag v13.1.2.1,oL 44 Al v13.1.2.2]),(7,oL 44 Al v13.2.1),(8,.bool v13.2.2),(10,.box [.str v17.1,nI v17.2.1.1,oL 42 Ah v17.2.1.2,nI v17.2.2.1,oL 42 Ah v17.2.2.2]),(11,.box [oL 123 Ak v19.1.1,oL 54 Ag v19.1.2.1,oL 44 Al v19.1.2.2]),(12,oL 44 Al v19.2.1),(13,.bool v19.2.2),(14,nI v41.2)] rfl rfl (qk [2,3,6,7,8,10,11,12,13,14] rfl ?_))
        obtain ⟨v43,g44,h⟩:=Aa h
        refine R7 (UL ER rfl rfl rfl) rfl rfl (OX g44) (oQ _) (YG (sfc (scc (sca Zi _) (scc (sca Zh _) (scc (sca Zg _) scn))) (sfc (scc rfl (scc rfl (scc (sca bb _) (scc rfl (scc (sca bb _) scn))))) (sfc (scc (sco QE _) (scc (sco ZE _) (scc (sco S6 _) scn))) (sfc (sdL (Dc S6 _)) (sfc rfl (sfs (sfc (scc (sco QE _) (scc (sco ZE _) (scc (sco S6 _) scn))) (sfc (sdL (Dc S6 _)) (sfc rfl (sfc rfl sfn))))))))))) rfl rfl ⟨by decide,by decide⟩ rfl rfl (kp [(2,.box [aL LG a0.1,aL Gq a0.2.1,aL J4 a0.2.2]),(3,.box [.str a1.1,nI a1.2.1.1,aL FN a1.2.1.2,nI a1.2.2.1,aL FN a1.2.2.2]),(6,.box [oL 123 Ak v13.1.1,oL 54 Ag v13.1.2.1,oL 44 Al v13.1.2.2]),(7,oL 44 Al v13.2.1),(8,.bool v13.2.2),(11,.box [oL 123 Ak v19.1.1,oL 54 Ag v19.1.2.1,oL 44 Al v19.1.2.2]),(12,oL 44 Al v19.2.1),(13,.bool v19.2.2),(14,nI v43.2)] rfl rfl (Ac fun K45 hK45 => rs (sp 3 rfl (?_))))
        rcases Ab h with ⟨g46,h⟩ | ⟨g46,h⟩
        ·exact qg 83 g46 rfl (sp 16 rfl (evn (qT rfl rfl (rn 1 rfl (Af ((by cases h; exact ⟨.inl rfl,rfl⟩)))))))
        ·refine qg 83 g46 rfl (sp 2 rfl (?_))
         obtain ⟨v47,g48,h⟩:=Aa h
         refine oGR rfl rfl (qC (qa rfl (erg (erc (erD E2 _) (erc (erD CL _) (erc (erD C4 _) rfl)))) (qa rfl (erg (erc (erD E2 _) (erc (erD CL _) (erc (erD C4 _) rfl)))) Ax)) (GW g48) (sp 3 rfl (?_)))
         rcases Ab h with ⟨g49,h⟩ | ⟨g49,h⟩
         ·exact qg 89 g49 rfl (sp 10 rfl (evn (qk [2,3,6,7,8,11,12,99] rfl (qT rfl rfl (rn 1 rfl (Af ((by cases h; exact ⟨.inl rfl,rfl⟩))))))))
         ·refine qg 89 g49 rfl (sp 2 rfl (?_))
          obtain ⟨v50,g51,h⟩:=Aa h
          refine oGR rfl rfl (qC (qa rfl (erD C4 _) (qa rfl (erD C4 _) Ax)) (C7 g51) (sp 3 rfl (?_)))
          rcases Ab h with ⟨g52,h⟩ | ⟨g52,h⟩
          ·exact qg 95 g52 rfl (sp 4 rfl (evn (qT rfl rfl (rn 1 rfl (Af ((by cases h; exact ⟨.inl rfl,rfl⟩)))))))
          ·refine qg 95 g52 rfl (sp 4 rfl (evn ?_))
           rcases Ab h with ⟨g53,h⟩ | ⟨g53,h⟩
           ·exact qT rfl g53 (rn 1 rfl (Af ((by cases h; exact ⟨.inl rfl,rfl⟩))))
           ·refine qF rfl g53 (Ae (hK45 _ (rn 1 rfl (qk [2,3,6,7,8,11,12,15] rfl (qk [2,3,6,7,8,11,12,15] rfl ?_)))))
            obtain ⟨v54,g55,h⟩:=Aa h
            refine R7 (UL ER rfl rfl rfl) rfl rfl (JJ g55) (mi _) (YG (sfc (scc (sca Zi _) (scc (sca Zh _) (scc (sca Zg _) scn))) (sfc (scc rfl (scc rfl (scc (sca bb _) (scc rfl (scc (sca bb _) scn))))) (sfc (scc (sco QE _) (scc (sco ZE _) (scc (sco S6 _) scn))) (sfc (sdL (Dc S6 _)) (sfc rfl (sfs (sfc (sdL (Dc S6 _)) (sfc rfl sfn))))))))) rfl rfl ⟨by decide,by decide⟩ rfl rfl (kp [(2,.box [aL LG a0.1,aL Gq a0.2.1,aL J4 a0.2.2]),(3,.box [.str a1.1,nI a1.2.1.1,aL FN a1.2.1.2,nI a1.2.2.1,aL FN a1.2.2.2]),(6,.box [oL 123 Ak v13.1.1,oL 54 Ag v13.1.2.1,oL 44 Al v13.1.2.2]),(7,oL 44 Al v13.2.1),(8,.bool v13.2.2),(11,.box [oL 123 Ak v54.1.1,oL 54 Ag v54.1.2.1,oL 44 Al v54.1.2.2]),(12,oL 44 Al v19.2.1),(15,nI v54.2)] rfl rfl (qk [2,3,6,7,8,11,12,15] rfl ?_))
            obtain ⟨v56,g57,h⟩:=Aa h
            refine R7 (eR rfl) rfl rfl (JH g57) (Dc S6 _) (YG (sfc (scc (sca Zi _) (scc (sca Zh _) (scc (sca Zg _) scn))) (sfc (scc rfl (scc rfl (scc (sca bb _) (scc rfl (scc (sca bb _) scn))))) (sfc (scc (sco QE _) (scc (sco ZE _) (scc (sco S6 _) scn))) (sfc (sdL (Dc S6 _)) (sfc rfl (sfc (scc (sco QE _) (scc (sco ZE _) (scc (sco S6 _) scn))) (sfs (sfc rfl sfn))))))))) rfl rfl ⟨by decide,by decide⟩ rfl rfl (kp [(2,.box [aL LG a0.1,aL Gq a0.2.1,aL J4 a0.2.2]),(3,.box [.str a1.1,nI a1.2.1.1,aL FN a1.2.1.2,nI a1.2.2.1,aL FN a1.2.2.2]),(6,.box [oL 123 Ak v13.1.1,oL 54 Ag v13.1.2.1,oL 44 Al v13.1.2.2]),(7,oL 44 Al v13.2.1),(8,.bool v13.2.2),(11,.box [oL 123 Ak v54.1.1,oL 54 Ag v54.1.2.1,oL 44 Al v54.1.2.2]),(12,oL 44 Al v56.1),(15,nI v56.2)] rfl rfl (rn 1 rfl (rs (sp 2 rfl (?_)))))
            obtain ⟨v58,g59,h⟩:=Aa h
            refine qC (qa rfl (erg (erc (erD E2 _) (erc (erD CL _) (erc (erD C4 _) rfl)))) (qs rfl Ax)) (JF g59) (sp 1 rfl (evn (Ac fun K60 hK60 => rn 1 rfl ?_)))
            rcases Ab h with ⟨g61,h⟩ | ⟨g61,h⟩
            ·exact qT rfl g61 (rn 1 rfl (Af ((by cases h; exact ⟨.inl rfl,rfl⟩))))
            ·refine qF rfl g61 (Ae (hK60 _ (rs (sp 2 rfl (?_)))))
             obtain ⟨v62,g63,h⟩:=Aa h
             refine qC (qa rfl (erD C4 _) (qs rfl Ax)) (D5 g63) (sp 1 rfl (evn (Ac fun K64 hK64 => rn 1 rfl ?_)))
             rcases Ab h with ⟨g65,h⟩ | ⟨g65,h⟩
             ·exact qT rfl g65 (rn 1 rfl (qk [4] rfl (Af ((by cases h; exact ⟨.inl rfl,rfl⟩)))))
             ·refine qF rfl g65 (Ae (hK64 _ (Ac fun K66 hK66 => rn 1 rfl ?_)))
              rcases Ab h with ⟨g67,h⟩ | ⟨g67,h⟩
              ·exact qT rfl g67 (rn 1 rfl (Af ((by cases h; exact ⟨.inl rfl,rfl⟩))))
              ·refine qF rfl g67 (Ae (hK66 _ (rd (by kernel_rfl) (sd 1 rfl (?_)))))
               obtain ⟨v68,g69,h⟩:=Aa h
               refine ed rfl (qC (qa rfl (erg (erc (erG Nl _) (erc (erG Iw _) (erc (erG LI _) rfl)))) Ax) (GY g69) (sd 1 rfl (?_)))
               obtain ⟨v70,g71,h⟩:=Aa h
               refine ed rfl (qC (qa rfl (erg (erc rfl (erc rfl (erc (erG Cv _) (erc rfl (erc (erG Cv _) rfl)))))) Ax) (Ip g71) (?_))
               obtain ⟨v72,g73,h⟩:=Aa h
               refine ed rfl (qC (qa rfl (erg (erc (erO E2 _) (erc (erO CL _) (erc (erO C4 _) rfl)))) (qa rfl (erg (erc rfl (erc rfl (erc (erO A3 _) (erc rfl (erc (erO A3 _) rfl)))))) Ax)) (Jz g73) (sd 8 rfl (CK (Ac fun K74 hK74 => rs (sp 2 rfl (?_))))))
               obtain ⟨v75,g76,h⟩:=Aa h
               refine qC (qa rfl (erg (erc (erD E2 _) (erc (erD CL _) (erc (erD C4 _) rfl)))) (qa rfl (erg (erc (erD E2 _) (erc (erD CL _) (erc (erD C4 _) rfl)))) Ax)) (GW g76) (sp 2 rfl (?_))
               rcases Ab h with ⟨g77,h⟩ | ⟨g77,h⟩
               ·exact qg 132 g77 rfl (sp 10 rfl (evn (qk [11,12,15,142] rfl (qT rfl rfl (rn 1 rfl (Af ((by cases h; exact ⟨.inl rfl,rfl⟩))))))))
               ·refine qg 132 g77 rfl (sp 2 rfl (?_))
                obtain ⟨v78,g79,h⟩:=Aa h
                refine oGR rfl rfl (qC (qa rfl (erD C4 _) (qa rfl (erD C4 _) Ax)) (C7 g79) (sp 3 rfl (?_)))
                rcases Ab h with ⟨g80,h⟩ | ⟨g80,h⟩
                ·exact qg 138 g80 rfl (sp 4 rfl (evn (qT rfl rfl (rn 1 rfl (Af ((by cases h; exact ⟨.inl rfl,rfl⟩)))))))
                ·refine qg 138 g80 rfl (sp 4 rfl (evn ?_))
                 rcases Ab h with ⟨g81,h⟩ | ⟨g81,h⟩
                 ·exact qT rfl g81 (rn 1 rfl (Af ((by cases h; exact ⟨.inl rfl,rfl⟩))))
                 ·refine qF rfl g81 (Ae (hK74 _ (rn 1 rfl (qk [11,12,15,16] rfl (rs (sp 2 rfl (?_)))))))
                  obtain ⟨v82,g83,h⟩:=Aa h
                  refine qC (qa rfl (erg (erc (erD E2 _) (erc (erD CL _) (erc (erD C4 _) rfl)))) (qs rfl Ax)) (JF g83) (sp 1 rfl (evn (Ac fun K84 hK84 => rn 1 rfl ?_)))
                  rcases Ab h with ⟨g85,h⟩ | ⟨g85,h⟩
                  ·exact qT rfl g85 (rn 1 rfl (Af ((by cases h; exact ⟨.inl rfl,rfl⟩))))
                  ·refine qF rfl g85 (Ae (hK84 _ (rs (sp 2 rfl (?_)))))
                   obtain ⟨v86,g87,h⟩:=Aa h
                   refine qC (qa rfl (erD C4 _) (qs rfl Ax)) (D5 g87) (sp 1 rfl (evn (Ac fun K88 hK88 => rn 1 rfl ?_)))
                   rcases Ab h with ⟨g89,h⟩ | ⟨g89,h⟩
                   ·exact qT rfl g89 (rn 1 rfl (Af ((by cases h; exact ⟨.inl rfl,rfl⟩))))
                   ·refine qF rfl g89 (Ae (hK88 _ (qk [15,16] rfl (Ac fun K90 hK90 => rn 1 rfl ?_))))
                    rcases Ab h with ⟨g91,h⟩ | ⟨g91,h⟩
                    ·exact qT rfl g91 (rn 1 rfl (Af ((by cases h; exact ⟨.inl rfl,rfl⟩))))
                    ·exact qF rfl g91 (Ae (hK90 _ (rn 1 rfl (Af ((by cases h; exact ⟨.inl rfl,rfl⟩))))))
end Go.Proofs.YtpcbnmcfplioeaaGreat
