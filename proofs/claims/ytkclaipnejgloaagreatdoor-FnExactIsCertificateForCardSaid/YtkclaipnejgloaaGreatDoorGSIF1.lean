/-
  Functions of the program as typed functions, printed by gen.py, and that the program's functions do what they say. No conditions.
-/
import Derived.Test.YtkclaipnejgloaaGreatDoorKb
import Derived.Test.YtkclaipnejgloaaGreatDoorLit2IF1
namespace Go.Proofs.YtkclaipnejgloaaGreatDoor
open Go.RowKit
set_option linter.unusedVariables false
set_option maxRecDepth 100000
set_option maxHeartbeats 1000000
def FG (a0 : List Int) (a1 : Int) : Option (Int):=cond (decide ((IntKind.i64.wrap (a1 - (List.length a0 : Int))) < 0)) (some (-1)) (some (IntKind.i64.wrap (a1 - (List.length a0 : Int))))
theorem Hp {a0 : List Int} {a1 : Int} {r : Int} (h : FG a0 a1 = some r) : Ag Tryz.prog 17 [dL Ak a0,nI a1] (nI r):=by
 unfold FG at h
 refine st gF rfl (rn 2 rfl (Ac fun K1 hK1 => rn 1 rfl ?_))
 rcases Ab h with ⟨g2,h⟩ | ⟨g2,h⟩
 ·exact qT rfl g2 (rn 1 rfl (Af ((by cases h; exact ⟨.inl rfl,rfl⟩))))
 ·exact qF rfl g2 (Ae (hK1 _ (rn 1 rfl (Af ((by cases h; exact ⟨.inl rfl,rfl⟩))))))
def AL (x : List Int) : List V:=[dL Ak x]
theorem AY (x : List Int) : (AL x).length = 1:=rfl
theorem Bc (x : List Int) : erL (AL x) = AL x:=(erc (erD Al _) rfl)
def IOQ (a0 : List (List Int)) (rec : (Int × Int) -> Option (Sum (Int) (Int))) (s : Int × Int) : Option (Sum (Int) (Int)):=match s with
  | (y1,y2) => cond (decide (y2 < (List.length a0 : Int))) (Ad (AA a0 y2) fun e8 => Ad (FG e8 y1) fun v10 => cond (decide (v10 < 0)) (some (.inr (-1))) (rec (v10,(IntKind.i64.wrap (y2 + 1))))) (some (.inl y1))
def Ja (a0 : List (List Int)) (a1 : Int) : Option (Int):=cond (decide ((IntKind.i64.wrap (a1 - (List.length a0 : Int))) < 0)) (some (-1)) (Ad (Ah (IOQ a0) fz ((IntKind.i64.wrap (a1 - (List.length a0 : Int))),0)) fun o1 => (match o1 with
  | .inl z4 => (some z4)
  | .inr r => some r))
theorem OL {a0 : List (List Int)} {a1 : Int} {r : Int} (h : Ja a0 a1 = some r) : Ag Tryz.prog 113 [dL AL a0,nI a1] (nI r):=by
 unfold Ja at h
 refine st bO rfl (rn 2 rfl (Ac fun K1 hK1 => rn 1 rfl ?_))
 rcases Ab h with ⟨g2,h⟩ | ⟨g2,h⟩
 ·exact qT rfl g2 (rn 1 rfl (Af ((by cases h; exact ⟨.inl rfl,rfl⟩))))
 ·refine qF rfl g2 (Ae (hK1 _ (Ac fun K3 hK3 => rn 1 rfl ?_)))
  obtain ⟨o1,hl,hr1⟩:=Aa h
  have kXB1 : ∀ {z4 : Int},(.inl z4) = o1 -> Jn K3 [(1,nI z4)]:=by
   intro z4 h σ' hk
   subst h
   replace h:=hr1
   try dsimp only at h
   exact hK3 _ (lh hk rfl (rn 1 rfl (Af ((by cases h; exact ⟨.inl rfl,rfl⟩)))))
  refine Aq (fun (s : Int × Int) => match s with | (y1,y2) => [(0,dL AL a0),(1,nI y1),(5,nI y2)]) _ _ _ _ hl (okr rfl) (fun _ => rfl) ?_
  rintro m ⟨y1,y2⟩ N h hN
  unfold IOQ at h
  dsimp only at h
  refine Ac fun K5 hK5 => rn 1 rfl ?_
  rcases Ab h with ⟨g6,h⟩ | ⟨g6,h⟩
  ·refine qT rfl g6 (Ae (hK5 _ (Ac fun K7 hK7 => Ap (rs (sp 2 rfl (?_))))))
   obtain ⟨e8,g9,h⟩:=Aa h
   refine qI rfl AY g9 (sp 2 rfl (?_))
   obtain ⟨v10,g11,h⟩:=Aa h
   refine qC (qa rfl (erD Al _) (qs rfl Aw)) (Hp g11) (sp 1 rfl (evn (rn 1 rfl ?_)))
   rcases Ab h with ⟨g12,h⟩ | ⟨g12,h⟩
   ·exact qT rfl g12 (rn 1 rfl (Af ((by cases h; cases hr1; exact ⟨.inl rfl,rfl⟩))))
   ·exact qF rfl g12 (Ae (hK7 _ (rg (sp 3 rfl (evn (hN _ _ h (okr rfl)))))))
  ·exact qF rfl g6 (Aj (kXB1 (Option.some.inj h) _ (okr rfl)))
abbrev Y57:=Int × (List (List Int))
def O7 (x : Y57) : List V:=[nI x.1,dL AL x.2]
theorem jR (x : Y57) : (O7 x).length = 2:=rfl
theorem fX (x : Y57) : erL (O7 x) = O7 x:=(erc rfl (erc (erD Bc _) rfl))
def Gl (a0 : Y57) (a1 : Int) : Option (Int):=Ad (Ja a0.2 a1) fun v1 => cond (decide (v1 < 0)) (some (-1)) (some v1)
theorem MA {a0 : Y57} {a1 : Int} {r : Int} (h : Gl a0 a1 = some r) : Ag Tryz.prog 65 [.agg (O7 a0),nI a1] (nI r):=by
 unfold Gl at h
 refine st iM rfl (rn 1 rfl (rs (sp 3 rfl (?_))))
 obtain ⟨v1,g2,h⟩:=Aa h
 refine qC (qa rfl (erD Bc _) (qs rfl Aw)) (OL g2) (sp 1 rfl (evn (Ac fun K3 hK3 => rn 1 rfl ?_)))
 rcases Ab h with ⟨g4,h⟩ | ⟨g4,h⟩
 ·exact qT rfl g4 (rn 1 rfl (Af ((by cases h; exact ⟨.inl rfl,rfl⟩))))
 ·exact qF rfl g4 (Ae (hK3 _ (rn 1 rfl (Af ((by cases h; exact ⟨.inl rfl,rfl⟩))))))
abbrev Y75:=(List UInt8) × Y57
def IE (x : Y75) : List V:=[.str x.1,nI x.2.1,dL AL x.2.2]
theorem Si (x : Y75) : (IE x).length = 3:=rfl
theorem Ml (x : Y75) : erL (IE x) = IE x:=(erc rfl (erc rfl (erc (erD Bc _) rfl)))
def Hg (a0 : Y75) (a1 : Int) : Option (Int):=cond (decide ((IntKind.i64.wrap (a1 - (List.length a0.1 : Int))) < 0)) (some (-1)) (Ad (Gl a0.2 (IntKind.i64.wrap (a1 - (List.length a0.1 : Int)))) fun v3 => cond (decide (v3 < 0)) (some (-1)) (some v3))
theorem ON {a0 : Y75} {a1 : Int} {r : Int} (h : Hg a0 a1 = some r) : Ag Tryz.prog 35 [.agg (IE a0),nI a1] (nI r):=by
 unfold Hg at h
 refine st ib rfl (rn 2 rfl (Ac fun K1 hK1 => rn 1 rfl ?_))
 rcases Ab h with ⟨g2,h⟩ | ⟨g2,h⟩
 ·exact qT rfl g2 (rn 1 rfl (Af ((by cases h; exact ⟨.inl rfl,rfl⟩))))
 ·refine qF rfl g2 (Ae (hK1 _ (rs (sp 3 rfl (?_)))))
  obtain ⟨v3,g4,h⟩:=Aa h
  refine qC (qa rfl (erg (erc rfl (erc (erD Bc _) rfl))) (qs rfl Aw)) (MA g4) (sp 1 rfl (evn (Ac fun K5 hK5 => rn 1 rfl ?_)))
  rcases Ab h with ⟨g6,h⟩ | ⟨g6,h⟩
  ·exact qT rfl g6 (rn 1 rfl (qk [4] rfl (Af ((by cases h; exact ⟨.inl rfl,rfl⟩)))))
  ·exact qF rfl g6 (Ae (hK5 _ (rn 1 rfl (Af ((by cases h; exact ⟨.inl rfl,rfl⟩))))))
def Ij (a0 : List Y75) (rec : (Int × Int) -> Option (Sum (Int) (Int))) (s : Int × Int) : Option (Sum (Int) (Int)):=match s with
  | (y1,y2) => cond (decide (y2 < (List.length a0 : Int))) (Ad (AA a0 y2) fun e8 => Ad (Hg e8 y1) fun v10 => cond (decide (v10 < 0)) (some (.inr (-1))) (rec (v10,(IntKind.i64.wrap (y2 + 1))))) (some (.inl y1))
def It (a0 : List Y75) (a1 : Int) : Option (Int):=cond (decide ((IntKind.i64.wrap (a1 - (List.length a0 : Int))) < 0)) (some (-1)) (Ad (Ah (Ij a0) fz ((IntKind.i64.wrap (a1 - (List.length a0 : Int))),0)) fun o1 => (match o1 with
  | .inl z4 => (some z4)
  | .inr r => some r))
theorem N1 {a0 : List Y75} {a1 : Int} {r : Int} (h : It a0 a1 = some r) : Ag Tryz.prog 15 [dL IE a0,nI a1] (nI r):=by
 unfold It at h
 refine st gC rfl (rn 2 rfl (Ac fun K1 hK1 => rn 1 rfl ?_))
 rcases Ab h with ⟨g2,h⟩ | ⟨g2,h⟩
 ·exact qT rfl g2 (rn 1 rfl (Af ((by cases h; exact ⟨.inl rfl,rfl⟩))))
 ·refine qF rfl g2 (Ae (hK1 _ (Ac fun K3 hK3 => rn 1 rfl ?_)))
  obtain ⟨o1,hl,hr1⟩:=Aa h
  have kXB1 : ∀ {z4 : Int},(.inl z4) = o1 -> Jn K3 [(1,nI z4)]:=by
   intro z4 h σ' hk
   subst h
   replace h:=hr1
   try dsimp only at h
   exact hK3 _ (lh hk rfl (rn 1 rfl (Af ((by cases h; exact ⟨.inl rfl,rfl⟩)))))
  refine Aq (fun (s : Int × Int) => match s with | (y1,y2) => [(0,dL IE a0),(1,nI y1),(5,nI y2)]) _ _ _ _ hl (okr rfl) (fun _ => rfl) ?_
  rintro m ⟨y1,y2⟩ N h hN
  unfold Ij at h
  dsimp only at h
  refine Ac fun K5 hK5 => rn 1 rfl ?_
  rcases Ab h with ⟨g6,h⟩ | ⟨g6,h⟩
  ·refine qT rfl g6 (Ae (hK5 _ (Ac fun K7 hK7 => Ap (rs (sp 2 rfl (?_))))))
   obtain ⟨e8,g9,h⟩:=Aa h
   refine qI rfl Si g9 (sp 2 rfl (?_))
   obtain ⟨v10,g11,h⟩:=Aa h
   refine qC (qa rfl (erg (erc rfl (erc rfl (erc (erD Bc _) rfl)))) (qs rfl Aw)) (ON g11) (sp 1 rfl (evn (rn 1 rfl ?_)))
   rcases Ab h with ⟨g12,h⟩ | ⟨g12,h⟩
   ·exact qT rfl g12 (rn 1 rfl (Af ((by cases h; cases hr1; exact ⟨.inl rfl,rfl⟩))))
   ·exact qF rfl g12 (Ae (hK7 _ (rg (sp 3 rfl (evn (hN _ _ h (okr rfl)))))))
  ·exact qF rfl g6 (Aj (kXB1 (Option.some.inj h) _ (okr rfl)))
def Gk (a0 : List Y75) (a1 : Int) : Option (Int):=Ad (It a0 a1) fun v1 => cond (decide (v1 < 0)) (some (-1)) (some v1)
theorem Mz {a0 : List Y75} {a1 : Int} {r : Int} (h : Gk a0 a1 = some r) : Ag Tryz.prog 4 [.agg [dL IE a0],nI a1] (nI r):=by
 unfold Gk at h
 refine st kI rfl (rn 1 rfl (rs (sp 3 rfl (?_))))
 obtain ⟨v1,g2,h⟩:=Aa h
 refine qC (qa rfl (erD Ml _) (qs rfl Aw)) (N1 g2) (sp 1 rfl (evn (Ac fun K3 hK3 => rn 1 rfl ?_)))
 rcases Ab h with ⟨g4,h⟩ | ⟨g4,h⟩
 ·exact qT rfl g4 (rn 1 rfl (Af ((by cases h; exact ⟨.inl rfl,rfl⟩))))
 ·exact qF rfl g4 (Ae (hK3 _ (rn 1 rfl (Af ((by cases h; exact ⟨.inl rfl,rfl⟩))))))
abbrev Y78:=(List UInt8) × (List Int)
def MW (x : Y78) : List V:=[.str x.1,dL Ak x.2]
theorem Wb (x : Y78) : (MW x).length = 2:=rfl
theorem NE (x : Y78) : erL (MW x) = MW x:=(erc rfl (erc (erD Al _) rfl))
def HF (a0 : Y78) (a1 : Int) : Option (Int):=cond (decide ((IntKind.i64.wrap (a1 - (List.length a0.1 : Int))) < 0)) (some (-1)) (Ad (FG a0.2 (IntKind.i64.wrap (a1 - (List.length a0.1 : Int)))) fun v3 => cond (decide (v3 < 0)) (some (-1)) (some v3))
theorem PV {a0 : Y78} {a1 : Int} {r : Int} (h : HF a0 a1 = some r) : Ag Tryz.prog 36 [.agg (MW a0),nI a1] (nI r):=by
 unfold HF at h
 refine st ic rfl (rn 2 rfl (Ac fun K1 hK1 => rn 1 rfl ?_))
 rcases Ab h with ⟨g2,h⟩ | ⟨g2,h⟩
 ·exact qT rfl g2 (rn 1 rfl (Af ((by cases h; exact ⟨.inl rfl,rfl⟩))))
 ·refine qF rfl g2 (Ae (hK1 _ (rs (sp 3 rfl (?_)))))
  obtain ⟨v3,g4,h⟩:=Aa h
  refine qC (qa rfl (erD Al _) (qs rfl Aw)) (Hp g4) (sp 1 rfl (evn (Ac fun K5 hK5 => rn 1 rfl ?_)))
  rcases Ab h with ⟨g6,h⟩ | ⟨g6,h⟩
  ·exact qT rfl g6 (rn 1 rfl (qk [4] rfl (Af ((by cases h; exact ⟨.inl rfl,rfl⟩)))))
  ·exact qF rfl g6 (Ae (hK5 _ (rn 1 rfl (Af ((by cases h; exact ⟨.inl rfl,rfl⟩))))))
def IN (a0 : List Y78) (rec : (Int × Int) -> Option (Sum (Int) (Int))) (s : Int × Int) : Option (Sum (Int) (Int)):=match s with
  | (y1,y2) => cond (decide (y2 < (List.length a0 : Int))) (Ad (AA a0 y2) fun e8 => Ad (HF e8 y1) fun v10 => cond (decide (v10 < 0)) (some (.inr (-1))) (rec (v10,(IntKind.i64.wrap (y2 + 1))))) (some (.inl y1))
def I9 (a0 : List Y78) (a1 : Int) : Option (Int):=cond (decide ((IntKind.i64.wrap (a1 - (List.length a0 : Int))) < 0)) (some (-1)) (Ad (Ah (IN a0) fz ((IntKind.i64.wrap (a1 - (List.length a0 : Int))),0)) fun o1 => (match o1 with
  | .inl z4 => (some z4)
  | .inr r => some r))
theorem OK {a0 : List Y78} {a1 : Int} {r : Int} (h : I9 a0 a1 = some r) : Ag Tryz.prog 16 [dL MW a0,nI a1] (nI r):=by
 unfold I9 at h
 refine st gE rfl (rn 2 rfl (Ac fun K1 hK1 => rn 1 rfl ?_))
 rcases Ab h with ⟨g2,h⟩ | ⟨g2,h⟩
 ·exact qT rfl g2 (rn 1 rfl (Af ((by cases h; exact ⟨.inl rfl,rfl⟩))))
 ·refine qF rfl g2 (Ae (hK1 _ (Ac fun K3 hK3 => rn 1 rfl ?_)))
  obtain ⟨o1,hl,hr1⟩:=Aa h
  have kXB1 : ∀ {z4 : Int},(.inl z4) = o1 -> Jn K3 [(1,nI z4)]:=by
   intro z4 h σ' hk
   subst h
   replace h:=hr1
   try dsimp only at h
   exact hK3 _ (lh hk rfl (rn 1 rfl (Af ((by cases h; exact ⟨.inl rfl,rfl⟩)))))
  refine Aq (fun (s : Int × Int) => match s with | (y1,y2) => [(0,dL MW a0),(1,nI y1),(5,nI y2)]) _ _ _ _ hl (okr rfl) (fun _ => rfl) ?_
  rintro m ⟨y1,y2⟩ N h hN
  unfold IN at h
  dsimp only at h
  refine Ac fun K5 hK5 => rn 1 rfl ?_
  rcases Ab h with ⟨g6,h⟩ | ⟨g6,h⟩
  ·refine qT rfl g6 (Ae (hK5 _ (Ac fun K7 hK7 => Ap (rs (sp 2 rfl (?_))))))
   obtain ⟨e8,g9,h⟩:=Aa h
   refine qI rfl Wb g9 (sp 2 rfl (?_))
   obtain ⟨v10,g11,h⟩:=Aa h
   refine qC (qa rfl (erg (erc rfl (erc (erD Al _) rfl))) (qs rfl Aw)) (PV g11) (sp 1 rfl (evn (rn 1 rfl ?_)))
   rcases Ab h with ⟨g12,h⟩ | ⟨g12,h⟩
   ·exact qT rfl g12 (rn 1 rfl (Af ((by cases h; cases hr1; exact ⟨.inl rfl,rfl⟩))))
   ·exact qF rfl g12 (Ae (hK7 _ (rg (sp 3 rfl (evn (hN _ _ h (okr rfl)))))))
  ·exact qF rfl g6 (Aj (kXB1 (Option.some.inj h) _ (okr rfl)))
abbrev Y27:=Int × (List Y78) × (List Int)
def Le (x : Y27) : List V:=[nI x.1,dL MW x.2.1,dL Ak x.2.2]
theorem eY (x : Y27) : (Le x).length = 3:=rfl
theorem eG (x : Y27) : erL (Le x) = Le x:=(erc rfl (erc (erD NE _) (erc (erD Al _) rfl)))
def H0 (a0 : Y27) (a1 : Int) : Option (Int):=Ad (I9 a0.2.1 a1) fun v1 => cond (decide (v1 < 0)) (some (-1)) (Ad (FG a0.2.2 v1) fun v5 => cond (decide (v5 < 0)) (some (-1)) (some v5))
theorem OM {a0 : Y27} {a1 : Int} {r : Int} (h : H0 a0 a1 = some r) : Ag Tryz.prog 5 [.agg (Le a0),nI a1] (nI r):=by
 unfold H0 at h
 refine st kJ rfl (rn 1 rfl (rs (sp 3 rfl (?_))))
 obtain ⟨v1,g2,h⟩:=Aa h
 refine qC (qa rfl (erD NE _) (qs rfl Aw)) (OK g2) (sp 1 rfl (evn (Ac fun K3 hK3 => rn 1 rfl ?_)))
 rcases Ab h with ⟨g4,h⟩ | ⟨g4,h⟩
 ·exact qT rfl g4 (rn 1 rfl (Af ((by cases h; exact ⟨.inl rfl,rfl⟩))))
 ·refine qF rfl g4 (Ae (hK3 _ (rs (sp 3 rfl (?_)))))
  obtain ⟨v5,g6,h⟩:=Aa h
  refine qC (qa rfl (erD Al _) (qs rfl Aw)) (Hp g6) (sp 1 rfl (evn (Ac fun K7 hK7 => rn 1 rfl ?_)))
  rcases Ab h with ⟨g8,h⟩ | ⟨g8,h⟩
  ·exact qT rfl g8 (rn 1 rfl (qk [4] rfl (Af ((by cases h; exact ⟨.inl rfl,rfl⟩)))))
  ·exact qF rfl g8 (Ae (hK7 _ (rn 1 rfl (Af ((by cases h; exact ⟨.inl rfl,rfl⟩))))))
abbrev Br:=Int × Int
def OA (x : Br) : List V:=[nI x.1,nI x.2]
theorem YC (x : Br) : (OA x).length = 2:=rfl
theorem ND (x : Br) : erL (OA x) = OA x:=(erc rfl (erc rfl rfl))
def G7 (a0 : List Br) (a1 : Int) : Option (Int):=cond (decide ((IntKind.i64.wrap (a1 - (List.length a0 : Int))) < 0)) (some (-1)) (some (IntKind.i64.wrap (a1 - (List.length a0 : Int))))
theorem LN {a0 : List Br} {a1 : Int} {r : Int} (h : G7 a0 a1 = some r) : Ag Tryz.prog 18 [dL OA a0,nI a1] (nI r):=by
 unfold G7 at h
 refine st gG rfl (rn 2 rfl (Ac fun K1 hK1 => rn 1 rfl ?_))
 rcases Ab h with ⟨g2,h⟩ | ⟨g2,h⟩
 ·exact qT rfl g2 (rn 1 rfl (Af ((by cases h; exact ⟨.inl rfl,rfl⟩))))
 ·exact qF rfl g2 (Ae (hK1 _ (rn 1 rfl (Af ((by cases h; exact ⟨.inl rfl,rfl⟩))))))
abbrev Y30:=(List Int) × (List Br) × (List Int) × Int × Int
def Lf (x : Y30) : List V:=[dL Ak x.1,dL OA x.2.1,dL Ak x.2.2.1,nI x.2.2.2.1,nI x.2.2.2.2]
theorem eZ (x : Y30) : (Lf x).length = 5:=rfl
theorem eH (x : Y30) : erL (Lf x) = Lf x:=(erc (erD Al _) (erc (erD ND _) (erc (erD Al _) (erc rfl (erc rfl rfl)))))
def EV (a0 : Y30) (a1 : Int) : Option (Int):=Ad (FG a0.1 a1) fun v1 => cond (decide (v1 < 0)) (some (-1)) (Ad (G7 a0.2.1 v1) fun v5 => cond (decide (v5 < 0)) (some (-1)) (Ad (FG a0.2.2.1 v5) fun v9 => cond (decide (v9 < 0)) (some (-1)) (some v9)))
theorem KU {a0 : Y30} {a1 : Int} {r : Int} (h : EV a0 a1 = some r) : Ag Tryz.prog 6 [.agg (Lf a0),nI a1] (nI r):=by
 unfold EV at h
 refine st kK rfl (rn 1 rfl (rs (sp 3 rfl (?_))))
 obtain ⟨v1,g2,h⟩:=Aa h
 refine qC (qa rfl (erD Al _) (qs rfl Aw)) (Hp g2) (sp 1 rfl (evn (Ac fun K3 hK3 => rn 1 rfl ?_)))
 rcases Ab h with ⟨g4,h⟩ | ⟨g4,h⟩
 ·exact qT rfl g4 (rn 1 rfl (Af ((by cases h; exact ⟨.inl rfl,rfl⟩))))
 ·refine qF rfl g4 (Ae (hK3 _ (rs (sp 3 rfl (?_)))))
  obtain ⟨v5,g6,h⟩:=Aa h
  refine qC (qa rfl (erD ND _) (qs rfl Aw)) (LN g6) (sp 1 rfl (evn (Ac fun K7 hK7 => rn 1 rfl ?_)))
  rcases Ab h with ⟨g8,h⟩ | ⟨g8,h⟩
  ·exact qT rfl g8 (rn 1 rfl (qk [4] rfl (Af ((by cases h; exact ⟨.inl rfl,rfl⟩)))))
  ·refine qF rfl g8 (Ae (hK7 _ (rs (sp 3 rfl (?_)))))
   obtain ⟨v9,g10,h⟩:=Aa h
   refine qC (qa rfl (erD Al _) (qs rfl Aw)) (Hp g10) (sp 1 rfl (evn (Ac fun K11 hK11 => rn 1 rfl ?_)))
   rcases Ab h with ⟨g12,h⟩ | ⟨g12,h⟩
   ·exact qT rfl g12 (rn 1 rfl (Af ((by cases h; exact ⟨.inl rfl,rfl⟩))))
   ·exact qF rfl g12 (Ae (hK11 _ (rn 1 rfl (Af ((by cases h; exact ⟨.inl rfl,rfl⟩))))))
def As (x : List Int) : List V:=[oL 3 Ak x]
theorem Cf (x : List Int) : (As x).length = 1:=rfl
theorem I4 (x : List Int) : erL (As x) = AL x:=(erc (erO Al _) rfl)
def Io (x : Y57) : List V:=[nI x.1,dL AL x.2]
theorem jP (x : Y57) : (Io x).length = 2:=rfl
theorem fV (x : Y57) : erL (Io x) = Io x:=(erc rfl (erc (erD Bc _) rfl))
def ID (x : Y57) : List V:=[nI x.1,oL 26 As x.2]
theorem jQ (x : Y57) : (ID x).length = 2:=rfl
theorem fW (x : Y57) : erL (ID x) = Io x:=(erc rfl (erc (erO I4 _) rfl))
def HO (a0 : Y57) (rec : ((List (List Int)) × Int) -> Option ((List (List Int)))) (s : (List (List Int)) × Int) : Option ((List (List Int))):=match s with
  | (y1,y2) => cond (decide (y2 < (List.length a0.2 : Int))) (Ad (AA a0.2 y2) fun e6 => chk (List.length ([] : List Int) + List.length e6 <= lim) (chk (List.length y1 + List.length ([([] : List Int) ++ e6]) <= lim) (rec ((y1 ++ ([([] : List Int) ++ e6])),(IntKind.i64.wrap (y2 + 1)))))) (some y1)
def HJ (a0 : Y57) : Option (Y57):=Ad (Ah (HO a0) fz (([] : List (List Int)),0)) fun z2 => some (a0.1,z2)
theorem Ma {a0 : Y57} {r : Y57} (h : HJ a0 = some r) : Ag Tryz.prog 70 [.agg (Io a0)] (.agg (ID r)):=by
 unfold HJ at h
 refine st iR rfl (rn 2 rfl (Ac fun K1 hK1 => rn 1 rfl ?_))
 obtain ⟨o1,hl,hr1⟩:=Aa h
 have kXB1 : ∀ {z2 : List (List Int)},z2 = o1 -> Jn K1 [(2,.box [nI 0,oL 26 As []]),(3,.box [nI a0.1,oL 26 As z2])]:=by
  intro z2 h σ' hk
  subst h
  replace h:=hr1
  try dsimp only at h
  exact hK1 _ (lh hk rfl (rn 1 rfl (Af ((by cases h; exact ⟨.inl rfl,rfl⟩)))))
 refine Aq (fun (s : (List (List Int)) × Int) => match s with | (y1,y2) => [(1,.box [nI a0.1,dL AL a0.2]),(2,.box [nI 0,oL 26 As []]),(3,.box [nI a0.1,oL 26 As y1]),(4,nI y2)]) _ _ _ _ hl (okr rfl) (fun _ => rfl) ?_
 rintro m ⟨y1,y2⟩ N h hN
 unfold HO at h
 dsimp only at h
 refine Ac fun K3 hK3 => rn 1 rfl ?_
 rcases Ab h with ⟨g4,h⟩ | ⟨g4,h⟩
 ·refine qT rfl g4 (Ae (hK3 _ (Ac fun K5 hK5 => Ap (rgd (by kernel_rfl) (sd 2 rfl (ed rfl (qBs Ak [] rfl rfl rfl Ao (sd 3 rfl (?_)))))))))
  obtain ⟨e6,g7,h⟩:=Aa h
  refine ed rfl (qI rfl AY g7 (sd 1 rfl (?_)))
  obtain ⟨g8,h⟩:=An h
  refine ed rfl (qA Ak ([] : List Int) e6 rfl rfl (AE Ao e6) (LU (fun _ => rfl) _) g8 (ed rfl (qBs As [([] : List Int) ++ e6] rfl rfl rfl Cf (?_))))
  obtain ⟨g9,h⟩:=An h
  exact ed rfl (qA As y1 ([([] : List Int) ++ e6]) rfl rfl (AE Cf ([([] : List Int) ++ e6])) rfl g9 (sd 2 rfl (Ea (hK5 _ (rg (sp 3 rfl (evn (hN _ _ h (okr rfl)))))))))
 ·exact qF rfl g4 (Aj (kXB1 (Option.some.inj h) _ (okr rfl)))
def EC (a0 : List Int) (a1 : List Int) (rec : Int -> Option (Sum (Unit) (Int))) (y1 : Int) : Option (Sum (Unit) (Int)):=cond (decide (y1 < (List.length a0 : Int))) (cond (decide (y1 < (List.length a1 : Int))) (Ad (AA a0 y1) fun e7 => Ad (AA a1 y1) fun e9 => cond (decide (e7 < e9)) (some (.inr (-1))) (Ad (AA a0 y1) fun e12 => Ad (AA a1 y1) fun e14 => cond (decide (e14 < e12)) (some (.inr 1)) (rec (IntKind.i64.wrap (y1 + 1))))) (some (.inl ()))) (some (.inl ()))
def BA (a0 : List Int) (a1 : List Int) : Option (Int):=Ad (Ah (EC a0 a1) fz 0) fun o1 => (match o1 with
  | .inl _ => (cond (decide ((List.length a0 : Int) < (List.length a1 : Int))) (some (-1)) (cond (decide ((List.length a1 : Int) < (List.length a0 : Int))) (some 1) (some 0)))
  | .inr r => some r)
theorem DM {a0 : List Int} {a1 : List Int} {r : Int} (h : BA a0 a1 = some r) : Ag Tryz.prog 22 [dL Ak a0,dL Ak a1] (nI r):=by
 unfold BA at h
 refine st gP rfl (rn 1 rfl (Ac fun K1 hK1 => rn 1 rfl ?_))
 obtain ⟨o1,hl,hr1⟩:=Aa h
 have kXB1 : (.inl ()) = o1 -> Jn K1 [(0,dL Ak a0),(1,dL Ak a1)]:=by
  intro h σ' hk
  subst h
  replace h:=hr1
  try dsimp only at h
  refine hK1 _ (lh hk rfl (Ac fun K17 hK17 => rn 1 rfl ?_))
  rcases Ab h with ⟨g18,h⟩ | ⟨g18,h⟩
  ·exact qT rfl g18 (rn 1 rfl (Af ((by cases h; exact ⟨.inl rfl,rfl⟩))))
  ·refine qF rfl g18 (Ae (hK17 _ (Ac fun K19 hK19 => rn 1 rfl ?_)))
   rcases Ab h with ⟨g20,h⟩ | ⟨g20,h⟩
   ·exact qT rfl g20 (rn 1 rfl (Af ((by cases h; exact ⟨.inl rfl,rfl⟩))))
   ·exact qF rfl g20 (Ae (hK19 _ (rn 1 rfl (Af ((by cases h; exact ⟨.inl rfl,rfl⟩))))))
 refine Aq (fun (y1 : Int) => [(0,dL Ak a0),(1,dL Ak a1),(5,nI y1)]) _ _ _ _ hl (okr rfl) (fun _ => rfl) ?_
 rintro m y1 N h hN
 unfold EC at h
 refine Ac fun K2 hK2 => rs (sp 5 rfl (?_))
 rcases Ab h with ⟨g3,h⟩ | ⟨g3,h⟩
 ·refine qg 10 g3 rfl (sp 5 rfl (evn ?_))
  rcases Ab h with ⟨g4,h⟩ | ⟨g4,h⟩
  ·refine qT rfl g4 (Ae (hK2 _ (Ac fun K5 hK5 => Ap (Ac fun K6 hK6 => rd (by kernel_rfl) (sd 2 rfl (?_))))))
   obtain ⟨e7,g8,h⟩:=Aa h
   refine ed rfl (qI rfl Ao g8 (sd 3 rfl (?_)))
   obtain ⟨e9,g10,h⟩:=Aa h
   refine ed rfl (qI rfl Ao g10 (sd 2 rfl (Ea ?_)))
   rcases Ab h with ⟨g11,h⟩ | ⟨g11,h⟩
   ·exact qT rfl g11 (rn 1 rfl (Af ((by cases h; cases hr1; exact ⟨.inl rfl,rfl⟩))))
   ·refine qF rfl g11 (Ae (hK6 _ (rd (by kernel_rfl) (sd 2 rfl (?_)))))
    obtain ⟨e12,g13,h⟩:=Aa h
    refine ed rfl (qI rfl Ao g13 (sd 3 rfl (?_)))
    obtain ⟨e14,g15,h⟩:=Aa h
    refine ed rfl (qI rfl Ao g15 (sd 2 rfl (Ea (qk [0,1,5,35] rfl ?_))))
    rcases Ab h with ⟨g16,h⟩ | ⟨g16,h⟩
    ·exact qT rfl g16 (rn 1 rfl (Af ((by cases h; cases hr1; exact ⟨.inl rfl,rfl⟩))))
    ·exact qF rfl g16 (Ae (hK5 _ (rg (sp 3 rfl (evn (hN _ _ h (okr rfl)))))))
  ·exact qF rfl g4 (Aj (kXB1 (Option.some.inj h) _ (okr rfl)))
 ·exact qg 10 g3 rfl (sp 5 rfl (evn (qF rfl rfl (Aj (kXB1 (Option.some.inj h) _ (okr rfl))))))
def H9 (x2 : Bool) : Option (Bool):=some x2
def BN (a0 : Int) (a1 : Int) (a2 : Int) : Option (Bool):=cond (decide (a1 <= a0)) (H9 (decide (a0 <= a2))) (H9 false)
theorem Bv {a0 : Int} {a1 : Int} {a2 : Int} {r : Bool} (h : BN a0 a1 a2 = some r) : Ag Tryz.prog 45 [nI a0,nI a1,nI a2] (.bool r):=by
 unfold BN at h
 refine st ip rfl (rn 1 rfl (rk fun K1 hK1 => ?_))
 have kJ1 : ∀ {x2 : Bool},H9 x2 = some r -> Jn K1 [(6,.bool x2)]:=by
  intro x2 h σ' hk
  unfold H9 at h
  exact hK1 _ (lh hk rfl (Af ((by cases h; exact ⟨.inl rfl,rfl⟩))))
 refine sp 4 rfl (?_)
 rcases Ab h with ⟨g3,h⟩ | ⟨g3,h⟩
 ·exact qg 10 g3 rfl (sp 5 rfl (evn (kJ1 h _ (okr rfl))))
 ·exact qg 10 g3 rfl (sp 5 rfl (evn (kJ1 h _ (okr rfl))))
def EJ (a0 : List Int) (rec : Int -> Option (Sum (Unit) (Bool))) (y1 : Int) : Option (Sum (Unit) (Bool)):=cond (decide (y1 < (List.length a0 : Int))) (Ad (AA a0 y1) fun e5 => Ad (BN e5 0 99) fun v7 => cond (!v7) (some (.inr false)) (rec (IntKind.i64.wrap (y1 + 1)))) (some (.inl ()))
def Dn (a0 : List Int) : Option (Bool):=Ad (Ah (EJ a0) fz 0) fun o1 => (match o1 with
  | .inl _ => (some true)
  | .inr r => some r)
theorem H5 {a0 : List Int} {r : Bool} (h : Dn a0 = some r) : Ag Tryz.prog 69 [dL Ak a0] (.bool r):=by
 unfold Dn at h
 refine st iQ rfl (rn 1 rfl (Ac fun K1 hK1 => rn 1 rfl ?_))
 obtain ⟨o1,hl,hr1⟩:=Aa h
 have kXB1 : (.inl ()) = o1 -> Jn K1 []:=by
  intro h σ' hk
  subst h
  replace h:=hr1
  try dsimp only at h
  exact hK1 _ (lh hk rfl (rn 1 rfl (Af ((by cases h; exact ⟨.inl rfl,rfl⟩)))))
 refine Aq (fun (y1 : Int) => [(0,dL Ak a0),(3,nI y1)]) _ _ _ _ hl (okr rfl) (fun _ => rfl) ?_
 rintro m y1 N h hN
 unfold EJ at h
 refine Ac fun K2 hK2 => rn 1 rfl ?_
 rcases Ab h with ⟨g3,h⟩ | ⟨g3,h⟩
 ·refine qT rfl g3 (Ae (hK2 _ (Ac fun K4 hK4 => Ap (rs (sp 2 rfl (?_))))))
  obtain ⟨e5,g6,h⟩:=Aa h
  refine qI rfl Ao g6 (sp 1 rfl (?_))
  obtain ⟨v7,g8,h⟩:=Aa h
  refine qC (qs rfl (qs rfl (qs rfl Aw))) (Bv g8) (sp 1 rfl (evn ?_))
  rcases Ab h with ⟨g9,h⟩ | ⟨g9,h⟩
  ·exact qT rfl g9 (rn 1 rfl (Af ((by cases h; cases hr1; exact ⟨.inl rfl,rfl⟩))))
  ·exact qF rfl g9 (Ae (hK4 _ (rg (sp 3 rfl (evn (hN _ _ h (okr rfl)))))))
 ·exact qF rfl g3 (Aj (kXB1 (Option.some.inj h) _ trivial))
def Bg (rec : Int -> Option (Sum (Unit) (Bool))) (y1 : Int) (x11 : Bool) : Option (Sum (Unit) (Bool)):=cond x11 (some (.inr false)) (rec (IntKind.i64.wrap (y1 + 1)))
def CE (a0 : Y57) (rec : Int -> Option (Sum (Unit) (Bool))) (y1 : Int) : Option (Sum (Unit) (Bool)):=cond (decide (y1 < (List.length a0.2 : Int))) (Ad (AA a0.2 y1) fun e13 => cond ((List.length e13 : Int) != a0.1) (Bg rec y1 true) (Ad (AA a0.2 y1) fun e16 => Ad (Dn e16) fun v18 => cond (!v18) (Bg rec y1 true) (cond (decide (0 < y1)) (Ad (AA a0.2 (IntKind.i64.wrap (y1 - 1))) fun e22 => Ad (AA a0.2 y1) fun e24 => Ad (BA e22 e24) fun v26 => Bg rec y1 (decide (0 <= v26))) (Bg rec y1 false)))) (some (.inl ()))
def Ba (a0 : Y57) : Option (Bool):=Ad (BN a0.1 0 5) fun v2 => cond (!v2) (some false) (cond (decide (4000 < (List.length a0.2 : Int))) (some false) (Ad (Ah (CE a0) fz 0) fun o1 => (match o1 with
  | .inl _ => (some true)
  | .inr r => some r)))
theorem Dd {a0 : Y57} {r : Bool} (h : Ba a0 = some r) : Ag Tryz.prog 72 [.agg (Io a0)] (.bool r):=by
 unfold Ba at h
 refine st iT rfl (rn 1 rfl (Ac fun K1 hK1 => rs (sp 2 rfl (?_))))
 obtain ⟨v2,g3,h⟩:=Aa h
 refine qC (qs rfl (qs rfl (qs rfl Aw))) (Bv g3) (sp 2 rfl (?_))
 rcases Ab h with ⟨g4,h⟩ | ⟨g4,h⟩
 ·exact qg 8 g4 rfl (sp 5 rfl (evn (qT rfl rfl (rn 1 rfl (Af ((by cases h; exact ⟨.inl rfl,rfl⟩)))))))
 ·refine qg 8 g4 rfl (sp 5 rfl (evn ?_))
  rcases Ab h with ⟨g5,h⟩ | ⟨g5,h⟩
  ·exact qT rfl g5 (rn 1 rfl (Af ((by cases h; exact ⟨.inl rfl,rfl⟩))))
  ·refine qF rfl g5 (Ae (hK1 _ (qk [1] rfl (Ac fun K6 hK6 => rn 1 rfl ?_))))
   obtain ⟨o1,hl,hr1⟩:=Aa h
   have kXB1 : (.inl ()) = o1 -> Jn K6 []:=by
    intro h σ' hk
    subst h
    replace h:=hr1
    try dsimp only at h
    exact hK6 _ (lh hk rfl (rn 1 rfl (Af ((by cases h; exact ⟨.inl rfl,rfl⟩)))))
   refine Aq (fun (y1 : Int) => [(1,.box [nI a0.1,dL AL a0.2]),(3,nI y1)]) _ _ _ _ hl (okr rfl) (fun _ => rfl) ?_
   rintro m y1 N h hN
   unfold CE at h
   refine Ac fun K7 hK7 => rn 1 rfl ?_
   rcases Ab h with ⟨g8,h⟩ | ⟨g8,h⟩
   ·refine qT rfl g8 (Ae (hK7 _ (Ac fun K9 hK9 => Ap (rdk (by kernel_rfl) fun K10 hK10 => ?_))))
    have kJ2 : ∀ {x11 : Bool},Bg (Ah (CE a0) m) y1 x11 = some o1 -> Jn K10 [(1,.box [nI a0.1,dL AL a0.2]),(3,nI y1),(57,.bool x11)]:=by
     intro x11 h σ' hk
     unfold Bg at h
     refine hK10 _ (lh hk rfl ?_)
     rcases Ab h with ⟨g12,h⟩ | ⟨g12,h⟩
     ·exact qT rfl g12 (rn 1 rfl (Af ((by cases h; cases hr1; exact ⟨.inl rfl,rfl⟩))))
     ·exact qF rfl g12 (Ae (hK9 _ (rg (sp 3 rfl (evn (hN _ _ h (okr rfl)))))))
    refine sd 3 rfl (?_)
    obtain ⟨e13,g14,h⟩:=Aa h
    refine ed rfl (qI rfl AY g14 (sd 6 rfl (?_)))
    rcases Ab h with ⟨g15,h⟩ | ⟨g15,h⟩
    ·exact qgd 30 g15 rfl (sd 27 rfl (Ea (kJ2 h _ (okr rfl))))
    ·refine qgd 30 g15 rfl (sd 3 rfl (?_))
     obtain ⟨e16,g17,h⟩:=Aa h
     refine ed rfl (oGR rfl rfl (qI rfl AY g17 (sd 1 rfl (?_))))
     obtain ⟨v18,g19,h⟩:=Aa h
     refine ed rfl (oGR rfl rfl (qC (qa rfl (erD Al _) Aw) (H5 g19) (sd 3 rfl (?_))))
     rcases Ab h with ⟨g20,h⟩ | ⟨g20,h⟩
     ·exact qgd 39 g20 rfl (sd 18 rfl (Ea (kJ2 h _ (okr rfl))))
     ·refine qgd 39 g20 rfl (sd 3 rfl (?_))
      rcases Ab h with ⟨g21,h⟩ | ⟨g21,h⟩
      ·refine qgd 42 g21 rfl (sd 4 rfl (?_))
       obtain ⟨e22,g23,h⟩:=Aa h
       refine ed rfl (oGR rfl rfl (qI rfl AY g23 (sd 4 rfl (?_))))
       obtain ⟨e24,g25,h⟩:=Aa h
       refine ed rfl (oGR rfl rfl (qI rfl AY g25 (sd 1 rfl (?_))))
       obtain ⟨v26,g27,h⟩:=Aa h
       exact ed rfl (oGR rfl rfl (qC (qa rfl (erD Al _) (qa rfl (erD Al _) Aw)) (DM g27) (sd 3 rfl (Ea (kJ2 h _ (okr rfl))))))
      ·exact qgd 42 g21 rfl (sd 15 rfl (Ea (kJ2 h _ (okr rfl))))
   ·exact qF rfl g8 (Aj (kXB1 (Option.some.inj h) _ trivial))
def FI (a0 : List UInt8) (rec : Int -> Option (Sum (Unit) (Bool))) (y1 : Int) : Option (Sum (Unit) (Bool)):=cond (decide (y1 < (List.length a0 : Int))) (Ad (AA a0 y1) fun b5 => cond (decide ((UInt8.toNat b5 : Int) < 97)) (some (.inr false)) (Ad (AA a0 y1) fun b8 => cond (decide (122 < (UInt8.toNat b8 : Int))) (some (.inr false)) (rec (IntKind.i64.wrap (y1 + 1))))) (some (.inl ()))
def EP (a0 : List UInt8) : Option (Bool):=Ad (Ah (FI a0) fz 0) fun o1 => (match o1 with
  | .inl _ => (Ad (BN (List.length a0 : Int) 1 4) fun v11 => some v11)
  | .inr r => some r)
theorem Jg {a0 : List UInt8} {r : Bool} (h : EP a0 = some r) : Ag Tryz.prog 119 [.str a0] (.bool r):=by
 unfold EP at h
 refine st bU rfl (rn 1 rfl (Ac fun K1 hK1 => rn 1 rfl ?_))
 obtain ⟨o1,hl,hr1⟩:=Aa h
 have kXB1 : (.inl ()) = o1 -> Jn K1 [(0,.str a0)]:=by
  intro h σ' hk
  subst h
  replace h:=hr1
  try dsimp only at h
  refine hK1 _ (lh hk rfl (rs (sp 2 rfl (?_))))
  obtain ⟨v11,g12,h⟩:=Aa h
  exact qC (qs rfl (qs rfl (qs rfl Aw))) (Bv g12) (sp 1 rfl (evn (Af ((by cases h; exact ⟨.inl rfl,rfl⟩)))))
 refine Aq (fun (y1 : Int) => [(0,.str a0),(3,nI y1)]) _ _ _ _ hl (okr rfl) (fun _ => rfl) ?_
 rintro m y1 N h hN
 unfold FI at h
 refine Ac fun K2 hK2 => rn 1 rfl ?_
 rcases Ab h with ⟨g3,h⟩ | ⟨g3,h⟩
 ·refine qT rfl g3 (Ae (hK2 _ (Ac fun K4 hK4 => Ap (rs (sp 2 rfl (?_))))))
  obtain ⟨b5,g6,h⟩:=Aa h
  refine qX rfl g6 (sp 2 rfl (?_))
  rcases Ab h with ⟨g7,h⟩ | ⟨g7,h⟩
  ·exact qg 14 g7 rfl (sp 5 rfl (evn (qT rfl rfl (rn 1 rfl (Af ((by cases h; cases hr1; exact ⟨.inl rfl,rfl⟩)))))))
  ·refine qg 14 g7 rfl (sp 2 rfl (?_))
   obtain ⟨b8,g9,h⟩:=Aa h
   refine oGR rfl rfl (qX rfl g9 (sp 2 rfl (evn ?_)))
   rcases Ab h with ⟨g10,h⟩ | ⟨g10,h⟩
   ·exact qT rfl g10 (rn 1 rfl (qk [2] rfl (Af ((by cases h; cases hr1; exact ⟨.inl rfl,rfl⟩)))))
   ·exact qF rfl g10 (Ae (hK4 _ (rg (sp 3 rfl (evn (hN _ _ h (okr rfl)))))))
 ·exact qF rfl g3 (Aj (kXB1 (Option.some.inj h) _ (okr rfl)))
abbrev Y96:=(List UInt8) × Y57
def BY (x : Y96) : List V:=[.str x.1,nI x.2.1,dL AL x.2.2]
theorem J6 (x : Y96) : (BY x).length = 3:=rfl
theorem D1 (x : Y96) : erL (BY x) = BY x:=(erc rfl (erc rfl (erc (erD Bc _) rfl)))
def AI (rec : Int -> Option (Sum (Unit) (Bool))) (y1 : Int) (x8 : Bool) : Option (Sum (Unit) (Bool)):=cond x8 (some (.inr false)) (rec (IntKind.i64.wrap (y1 + 1)))
def CC (a0 : List Y96) (rec : Int -> Option (Sum (Unit) (Bool))) (y1 : Int) : Option (Sum (Unit) (Bool)):=cond (decide (y1 < (List.length a0 : Int))) (Ad (AA a0 y1) fun e5 => Ad (EP e5.1) fun v10 => cond (!v10) (AI rec y1 true) (cond (decide (0 < y1)) (Ad (AA a0 (IntKind.i64.wrap (y1 - 1))) fun e14 => cond (!Op.bytesLess e14.1 e5.1) (AI rec y1 true) (Ad (Ba e5.2) fun v17 => cond (!v17) (AI rec y1 true) (cond (decide (16 < (List.length e5.2.2 : Int))) (AI rec y1 true) (AI rec y1 (decide (e5.2.1 < 1)))))) (Ad (Ba e5.2) fun v21 => cond (!v21) (AI rec y1 true) (cond (decide (16 < (List.length e5.2.2 : Int))) (AI rec y1 true) (AI rec y1 (decide (e5.2.1 < 1))))))) (some (.inl ()))
def CO (a0 : List Y96) : Option (Bool):=Ad (Ah (CC a0) fz 0) fun o1 => (match o1 with
  | .inl _ => (some (decide ((List.length a0 : Int) <= 6)))
  | .inr r => some r)
theorem HB {a0 : List Y96} {r : Bool} (h : CO a0 = some r) : Ag Tryz.prog 75 [.agg [dL BY a0]] (.bool r):=by
 unfold CO at h
 refine st iW rfl (rn 1 rfl (Ac fun K1 hK1 => rn 1 rfl ?_))
 obtain ⟨o1,hl,hr1⟩:=Aa h
 have kXB1 : (.inl ()) = o1 -> Jn K1 [(1,.box [dL BY a0])]:=by
  intro h σ' hk
  subst h
  replace h:=hr1
  try dsimp only at h
  exact hK1 _ (lh hk rfl (rn 1 rfl (Af ((by cases h; exact ⟨.inl rfl,rfl⟩)))))
 refine Aq (fun (y1 : Int) => [(1,.box [dL BY a0]),(3,nI y1)]) _ _ _ _ hl (okr rfl) (fun _ => rfl) ?_
 rintro m y1 N h hN
 unfold CC at h
 refine Ac fun K2 hK2 => rn 1 rfl ?_
 rcases Ab h with ⟨g3,h⟩ | ⟨g3,h⟩
 ·refine qT rfl g3 (Ae (hK2 _ (Ac fun K4 hK4 => Ap (rs (sp 3 rfl (?_))))))
  obtain ⟨e5,g6,h⟩:=Aa h
  refine qI rfl J6 g6 (sp 3 rfl (evn (rdk (by kernel_rfl) fun K7 hK7 => ?_)))
  have kJ2 : ∀ {x8 : Bool},AI (Ah (CC a0) m) y1 x8 = some o1 -> Jn K7 [(1,.box [dL BY a0]),(3,nI y1),(55,.bool x8)]:=by
   intro x8 h σ' hk
   unfold AI at h
   refine hK7 _ (lh hk rfl ?_)
   rcases Ab h with ⟨g9,h⟩ | ⟨g9,h⟩
   ·exact qT rfl g9 (rn 1 rfl (Af ((by cases h; cases hr1; exact ⟨.inl rfl,rfl⟩))))
   ·exact qF rfl g9 (Ae (hK4 _ (rg (sp 3 rfl (evn (hN _ _ h (okr rfl)))))))
  refine sd 2 rfl (?_)
  obtain ⟨v10,g11,h⟩:=Aa h
  refine ed rfl (qC (qs rfl Aw) (Jg g11) (sd 2 rfl (?_)))
  rcases Ab h with ⟨g12,h⟩ | ⟨g12,h⟩
  ·exact qgd 21 g12 rfl (sd 34 rfl (Ea (kJ2 h _ (okr rfl))))
  ·refine qgd 21 g12 rfl (sd 3 rfl (?_))
   rcases Ab h with ⟨g13,h⟩ | ⟨g13,h⟩
   ·refine qgd 24 g13 rfl (sd 4 rfl (?_))
    obtain ⟨e14,g15,h⟩:=Aa h
    refine ed rfl (oGR rfl rfl (qI rfl J6 g15 (sd 8 rfl (?_))))
    rcases Ab h with ⟨g16,h⟩ | ⟨g16,h⟩
    ·exact qgd 37 g16 rfl (sd 18 rfl (Ea (kJ2 h _ (okr rfl))))
    ·refine qgd 37 g16 rfl (sd 2 rfl (?_))
     obtain ⟨v17,g18,h⟩:=Aa h
     refine ed rfl (oGR rfl rfl (qC (qa rfl (erg (erc rfl (erc (erD Bc _) rfl))) Aw) (Dd g18) (sd 3 rfl (?_))))
     rcases Ab h with ⟨g19,h⟩ | ⟨g19,h⟩
     ·exact qgd 43 g19 rfl (sd 12 rfl (Ea (kJ2 h _ (okr rfl))))
     ·refine qgd 43 g19 rfl (sd 7 rfl (?_))
      rcases Ab h with ⟨g20,h⟩ | ⟨g20,h⟩
      ·exact qgd 50 g20 rfl (sd 5 rfl (Ea (kJ2 h _ (okr rfl))))
      ·exact qgd 50 g20 rfl (sd 5 rfl (Ea (kJ2 h _ (okr rfl))))
   ·refine qgd 24 g13 rfl (sd 15 rfl (?_))
    obtain ⟨v21,g22,h⟩:=Aa h
    refine ed rfl (oGR rfl rfl (qC (qa rfl (erg (erc rfl (erc (erD Bc _) rfl))) Aw) (Dd g22) (sd 3 rfl (?_))))
    rcases Ab h with ⟨g23,h⟩ | ⟨g23,h⟩
    ·exact qgd 43 g23 rfl (sd 12 rfl (Ea (kJ2 h _ (okr rfl))))
    ·refine qgd 43 g23 rfl (sd 7 rfl (?_))
     rcases Ab h with ⟨g24,h⟩ | ⟨g24,h⟩
     ·exact qgd 50 g24 rfl (sd 5 rfl (Ea (kJ2 h _ (okr rfl))))
     ·exact qgd 50 g24 rfl (sd 5 rfl (Ea (kJ2 h _ (okr rfl))))
 ·exact qF rfl g3 (Aj (kXB1 (Option.some.inj h) _ (okr rfl)))
def Bu (a0 : List Y96) (a1 : List UInt8) (rec : Int -> Option (Sum (Unit) (Y57 × Bool))) (y1 : Int) : Option (Sum (Unit) (Y57 × Bool)):=cond (decide (y1 < (List.length a0 : Int))) (Ad (CO a0) fun v4 => cond v4 (Ad (AA a0 y1) fun e8 => cond (e8.1 == a1) (Ad (AA a0 y1) fun e11 => Ad (HJ e11.2) fun v13 => some (.inr (v13,true))) (rec (IntKind.i64.wrap (y1 + 1)))) (some (.inl ()))) (some (.inl ()))
def Dq (a0 : List Y96) (a1 : List UInt8) : Option (Y57 × Bool):=Ad (Ah (Bu a0 a1) fz 0) fun o1 => (match o1 with
  | .inl _ => (some ((0,[]),false))
  | .inr r => some r)
theorem H7 {a0 : List Y96} {a1 : List UInt8} {r : Y57 × Bool} (h : Dq a0 a1 = some r) : Ag Tryz.prog 73 [.agg [dL BY a0],.str a1] (.tup [.agg (ID r.1),.bool r.2]):=by
 unfold Dq at h
 refine st iU rfl (rn 1 rfl (Ac fun K1 hK1 => rn 1 rfl ?_))
 obtain ⟨o1,hl,hr1⟩:=Aa h
 have kXB1 : (.inl ()) = o1 -> Jn K1 [(4,.box [nI 0,oL 26 As []])]:=by
  intro h σ' hk
  subst h
  replace h:=hr1
  try dsimp only at h
  exact hK1 _ (lh hk rfl (rn 1 rfl (Af ((by cases h; exact ⟨.inl rfl,rfl⟩)))))
 refine Aq (fun (y1 : Int) => [(1,.str a1),(2,.box [dL BY a0]),(4,.box [nI 0,oL 26 As []]),(6,nI y1)]) _ _ _ _ hl (okr rfl) (fun _ => rfl) ?_
 rintro m y1 N h hN
 unfold Bu at h
 refine Ac fun K2 hK2 => rs (sp 6 rfl (?_))
 rcases Ab h with ⟨g3,h⟩ | ⟨g3,h⟩
 ·refine qg 12 g3 rfl (sp 1 rfl (?_))
  obtain ⟨v4,g5,h⟩:=Aa h
  refine oGR rfl rfl (qC (qa rfl (erg (erc (erD D1 _) rfl)) Aw) (HB g5) (sp 1 rfl (evn ?_)))
  rcases Ab h with ⟨g6,h⟩ | ⟨g6,h⟩
  ·refine qT rfl g6 (Ae (hK2 _ (Ac fun K7 hK7 => Ap (rs (sp 3 rfl (?_))))))
   obtain ⟨e8,g9,h⟩:=Aa h
   refine qI rfl J6 g9 (sp 4 rfl (evn ?_))
   rcases Ab h with ⟨g10,h⟩ | ⟨g10,h⟩
   ·refine qT rfl g10 (rs (sp 3 rfl (?_)))
    obtain ⟨e11,g12,h⟩:=Aa h
    refine qI rfl J6 g12 (sp 2 rfl (?_))
    obtain ⟨v13,g14,h⟩:=Aa h
    exact qC (qa rfl (erg (erc rfl (erc (erD Bc _) rfl))) Aw) (Ma g14) (sp 2 rfl (evn (Af ((by cases h; cases hr1; exact ⟨.inl rfl,rfl⟩)))))
   ·exact qF rfl g10 (Ae (hK7 _ (qk [1,2,4,6] rfl (rg (sp 3 rfl (evn (hN _ _ h (okr rfl))))))))
  ·exact qF rfl g6 (Aj (kXB1 (Option.some.inj h) _ (okr rfl)))
 ·exact qg 12 g3 rfl (sp 3 rfl (evn (qF rfl rfl (Aj (kXB1 (Option.some.inj h) _ (okr rfl))))))
def HP (a0 : List Int) (a1 : Int) (rec : Int -> Option (Sum (Unit) (Int))) (y1 : Int) : Option (Sum (Unit) (Int)):=cond (decide (y1 < (List.length a0 : Int))) (Ad (AA a0 y1) fun e5 => cond (e5 == a1) (some (.inr y1)) (rec (IntKind.i64.wrap (y1 + 1)))) (some (.inl ()))
def Fa (a0 : List Int) (a1 : Int) : Option (Int):=Ad (Ah (HP a0 a1) fz 0) fun o1 => (match o1 with
  | .inl _ => (some (-1))
  | .inr r => some r)
theorem GF {a0 : List Int} {a1 : Int} {r : Int} (h : Fa a0 a1 = some r) : Ag Tryz.prog 77 [dL Ak a0,nI a1] (nI r):=by
 unfold Fa at h
 refine st iY rfl (rn 1 rfl (Ac fun K1 hK1 => rn 1 rfl ?_))
 obtain ⟨o1,hl,hr1⟩:=Aa h
 have kXB1 : (.inl ()) = o1 -> Jn K1 []:=by
  intro h σ' hk
  subst h
  replace h:=hr1
  try dsimp only at h
  exact hK1 _ (lh hk rfl (rn 1 rfl (Af ((by cases h; exact ⟨.inl rfl,rfl⟩)))))
 refine Aq (fun (y1 : Int) => [(0,dL Ak a0),(1,nI a1),(5,nI y1)]) _ _ _ _ hl (okr rfl) (fun _ => rfl) ?_
 rintro m y1 N h hN
 unfold HP at h
 refine Ac fun K2 hK2 => rn 1 rfl ?_
 rcases Ab h with ⟨g3,h⟩ | ⟨g3,h⟩
 ·refine qT rfl g3 (Ae (hK2 _ (Ac fun K4 hK4 => Ap (rs (sp 2 rfl (?_))))))
  obtain ⟨e5,g6,h⟩:=Aa h
  refine qI rfl Ao g6 (sp 3 rfl (evn ?_))
  rcases Ab h with ⟨g7,h⟩ | ⟨g7,h⟩
  ·exact qT rfl g7 (rn 1 rfl (Af ((by cases h; cases hr1; exact ⟨.inl rfl,rfl⟩))))
  ·exact qF rfl g7 (Ae (hK4 _ (rg (sp 3 rfl (evn (hN _ _ h (okr rfl)))))))
 ·exact qF rfl g3 (Aj (kXB1 (Option.some.inj h) _ trivial))
def BM (x : Y78) : List V:=[.str x.1,dL Ak x.2]
theorem G3 (x : Y78) : (BM x).length = 2:=rfl
theorem Ce (x : Y78) : erL (BM x) = BM x:=(erc rfl (erc (erD Al _) rfl))
def DN (a0 : Y78) (a1 : Int) (rec : Int -> Option (Sum (Unit) (Bool))) (y1 : Int) : Option (Sum (Unit) (Bool)):=cond (decide (y1 < (List.length a0.2 : Int))) (Ad (AA a0.2 y1) fun e5 => cond (e5 == a1) (some (.inr true)) (rec (IntKind.i64.wrap (y1 + 1)))) (some (.inl ()))
def AQ (a0 : Y78) (a1 : Int) : Option (Bool):=Ad (Ah (DN a0 a1) fz 0) fun o1 => (match o1 with
  | .inl _ => (some false)
  | .inr r => some r)
theorem CA {a0 : Y78} {a1 : Int} {r : Bool} (h : AQ a0 a1 = some r) : Ag Tryz.prog 80 [.agg (BM a0),nI a1] (.bool r):=by
 unfold AQ at h
 refine st i3 rfl (rn 1 rfl (Ac fun K1 hK1 => rn 1 rfl ?_))
 obtain ⟨o1,hl,hr1⟩:=Aa h
 have kXB1 : (.inl ()) = o1 -> Jn K1 []:=by
  intro h σ' hk
  subst h
  replace h:=hr1
  try dsimp only at h
  exact hK1 _ (lh hk rfl (rn 1 rfl (Af ((by cases h; exact ⟨.inl rfl,rfl⟩)))))
 refine Aq (fun (y1 : Int) => [(1,nI a1),(2,.box [.str a0.1,dL Ak a0.2]),(5,nI y1)]) _ _ _ _ hl (okr rfl) (fun _ => rfl) ?_
 rintro m y1 N h hN
 unfold DN at h
 refine Ac fun K2 hK2 => rn 1 rfl ?_
 rcases Ab h with ⟨g3,h⟩ | ⟨g3,h⟩
 ·refine qT rfl g3 (Ae (hK2 _ (Ac fun K4 hK4 => Ap (rs (sp 3 rfl (?_))))))
  obtain ⟨e5,g6,h⟩:=Aa h
  refine qI rfl Ao g6 (sp 3 rfl (evn ?_))
  rcases Ab h with ⟨g7,h⟩ | ⟨g7,h⟩
  ·exact qT rfl g7 (rn 1 rfl (Af ((by cases h; cases hr1; exact ⟨.inl rfl,rfl⟩))))
  ·exact qF rfl g7 (Ae (hK4 _ (rg (sp 3 rfl (evn (hN _ _ h (okr rfl)))))))
 ·exact qF rfl g3 (Aj (kXB1 (Option.some.inj h) _ trivial))
abbrev Y41:=Int × (List Y78) × (List Int)
def Bz (x : Y41) : List V:=[nI x.1,dL BM x.2.1,dL Ak x.2.2]
theorem fc (x : Y41) : (Bz x).length = 3:=rfl
theorem eI (x : Y41) : erL (Bz x) = Bz x:=(erc rfl (erc (erD Ce _) (erc (erD Al _) rfl)))
def Fh (a0 : Y41) (y2 : Int) (rec : Int -> Option (Sum (Unit) (Bool))) (y4 : Int) : Option (Sum (Unit) (Bool)):=Ad (AA a0.2.1 y2) fun e25 => cond (decide (y4 < (List.length e25.2 : Int))) (Ad (AA a0.2.1 y2) fun e29 => Ad (AA e29.2 y4) fun e31 => Ad (BN e31 0 (IntKind.i64.wrap (a0.1 - 1))) fun v33 => cond (!v33) (some (.inr false)) (rec (IntKind.i64.wrap (y4 + 1)))) (some (.inl ()))
def DX (a0 : Y41) (rec : Int -> Option (Sum (Unit) (Bool))) (y2 : Int) : Option (Sum (Unit) (Bool)):=cond (decide (y2 < (List.length a0.2.1 : Int))) (Ad (AA a0.2.1 y2) fun e14 => Ad (EP e14.1) fun v16 => cond (!v16) (some (.inr false)) (Ad (AA a0.2.1 y2) fun e19 => Ad (BN (List.length e19.2 : Int) 1 5) fun v21 => cond (!v21) (some (.inr false)) (Ad (Ah (Fh a0 y2) fz 0) fun o2 => (match o2 with
  | .inl _ => (rec (IntKind.i64.wrap (y2 + 1)))
  | .inr r => some (.inr r))))) (some (.inl ()))
def D0 (rec : (Bool × Int) -> Option (Bool)) (y11 : Int) (x45 : Bool) : Option (Bool):=rec (x45,(IntKind.i64.wrap (y11 + 1)))
def BW (a0 : Y41) (y7 : Int) (rec : (Bool × Int) -> Option (Bool)) (s : Bool × Int) : Option (Bool):=match s with
  | (y10,y11) => cond (decide (y11 < (List.length a0.2.1 : Int))) (cond y10 (D0 rec y11 true) (Ad (AA a0.2.1 y11) fun e47 => Ad (AQ e47 y7) fun v49 => D0 rec y11 v49)) (some y10)
def DY (a0 : Y41) (rec : Int -> Option (Sum (Unit) (Bool))) (y7 : Int) : Option (Sum (Unit) (Bool)):=cond (decide (y7 < a0.1)) (Ad (Ah (BW a0 y7) fz (false,0)) fun z41 => cond (!z41) (some (.inr false)) (rec (IntKind.i64.wrap (y7 + 1)))) (some (.inl ()))
def DZ (a0 : Y41) (rec : Int -> Option (Sum (Unit) (Bool))) (y12 : Int) : Option (Sum (Unit) (Bool)):=cond (decide (y12 < (List.length a0.2.2 : Int))) (Ad (AA a0.2.2 y12) fun e56 => Ad (BN e56 0 (IntKind.i64.wrap (a0.1 - 1))) fun v58 => cond (!v58) (some (.inr false)) (chk ((0 : Int) <= 0 ∧ 0 <= y12 ∧ y12 <= (List.length a0.2.2 : Int)) (Ad (AA a0.2.2 y12) fun e62 => Ad (Fa (Cq a0.2.2 0 y12) e62) fun v64 => cond (decide (0 <= v64)) (some (.inr false)) (rec (IntKind.i64.wrap (y12 + 1)))))) (some (.inl ()))
def Bo (a0 : Y41) : Option (Bool):=Ad (BN a0.1 1 5) fun v2 => cond (!v2) (some false) (Ad (BN (List.length a0.2.1 : Int) 1 4) fun v5 => cond (!v5) (some false) (cond (decide (a0.1 < (List.length a0.2.2 : Int))) (some false) (Ad (Ah (DX a0) fz 0) fun o1 => (match o1 with
  | .inl _ => (Ad (Ah (DY a0) fz 0) fun o3 => (match o3 with
  | .inl _ => (Ad (Ah (DZ a0) fz 0) fun o6 => (match o6 with
  | .inl _ => (some true)
  | .inr r => some r))
  | .inr r => some r))
  | .inr r => some r))))
theorem Dp {a0 : Y41} {r : Bool} (h : Bo a0 = some r) : Ag Tryz.prog 74 [.agg (Bz a0)] (.bool r):=by
 unfold Bo at h
 refine st iV rfl (rn 1 rfl (Ac fun K1 hK1 => rs (sp 2 rfl (?_))))
 obtain ⟨v2,g3,h⟩:=Aa h
 refine qC (qs rfl (qs rfl (qs rfl Aw))) (Bv g3) (sp 2 rfl (?_))
 rcases Ab h with ⟨g4,h⟩ | ⟨g4,h⟩
 ·exact qg 13 g4 rfl (sp 14 rfl (evn (qT rfl rfl (rn 1 rfl (Af ((by cases h; exact ⟨.inl rfl,rfl⟩)))))))
 ·refine qg 13 g4 rfl (sp 3 rfl (?_))
  obtain ⟨v5,g6,h⟩:=Aa h
  refine oGR rfl rfl (qC (qs rfl (qs rfl (qs rfl Aw))) (Bv g6) (sp 3 rfl (?_)))
  rcases Ab h with ⟨g7,h⟩ | ⟨g7,h⟩
  ·exact qg 20 g7 rfl (sp 7 rfl (evn (qk [1,27] rfl (qT rfl rfl (rn 1 rfl (Af ((by cases h; exact ⟨.inl rfl,rfl⟩))))))))
  ·refine qg 20 g7 rfl (sp 7 rfl (evn ?_))
   rcases Ab h with ⟨g8,h⟩ | ⟨g8,h⟩
   ·exact qT rfl g8 (rn 1 rfl (Af ((by cases h; exact ⟨.inl rfl,rfl⟩))))
   ·refine qF rfl g8 (Ae (hK1 _ (Ac fun K9 hK9 => rn 1 rfl ?_)))
    obtain ⟨o1,hl,hr1⟩:=Aa h
    have kXB1 : (.inl ()) = o1 -> Jn K9 [(1,.box [nI a0.1,dL BM a0.2.1,dL Ak a0.2.2])]:=by
     intro h σ' hk
     subst h
     replace h:=hr1
     try dsimp only at h
     refine hK9 _ (lh hk rfl (Ac fun K36 hK36 => rn 1 rfl ?_))
     obtain ⟨o3,hl,hr3⟩:=Aa h
     have kXB3 : (.inl ()) = o3 -> Jn K36 [(1,.box [nI a0.1,dL BM a0.2.1,dL Ak a0.2.2])]:=by
      intro h σ' hk
      subst h
      replace h:=hr3
      try dsimp only at h
      refine hK36 _ (lh hk rfl (Ac fun K52 hK52 => rn 1 rfl ?_))
      obtain ⟨o6,hl,hr6⟩:=Aa h
      have kXB6 : (.inl ()) = o6 -> Jn K52 []:=by
       intro h σ' hk
       subst h
       replace h:=hr6
       try dsimp only at h
       exact hK52 _ (lh hk rfl (rn 1 rfl (Af ((by cases h; exact ⟨.inl rfl,rfl⟩)))))
      refine Aq (fun (y12 : Int) => [(1,.box [nI a0.1,dL BM a0.2.1,dL Ak a0.2.2]),(8,nI y12)]) _ _ _ _ hl (okr rfl) (fun _ => rfl) ?_
      rintro m y12 N h hN
      unfold DZ at h
      refine Ac fun K53 hK53 => rn 1 rfl ?_
      rcases Ab h with ⟨g54,h⟩ | ⟨g54,h⟩
      ·refine qT rfl g54 (Ae (hK53 _ (Ac fun K55 hK55 => Ap (rd (by kernel_rfl) (sd 3 rfl (?_))))))
       obtain ⟨e56,g57,h⟩:=Aa h
       refine ed rfl (qI rfl Ao g57 (sd 4 rfl (?_)))
       obtain ⟨v58,g59,h⟩:=Aa h
       refine ed rfl (qC (qs rfl (qs rfl (qs rfl Aw))) (Bv g59) (sd 2 rfl (?_)))
       rcases Ab h with ⟨g60,h⟩ | ⟨g60,h⟩
       ·exact qgd 121 g60 rfl (sd 12 rfl (Ea (qT rfl rfl (rn 1 rfl (qk [2] rfl (Af ((by cases h; cases hr6; exact ⟨.inl rfl,rfl⟩))))))))
       ·refine qgd 121 g60 rfl (sd 3 rfl (?_))
        obtain ⟨g61,h⟩:=An h
        refine ed rfl (oGR rfl rfl (qSl rfl Ao g61 (sd 3 rfl (?_))))
        obtain ⟨e62,g63,h⟩:=Aa h
        refine ed rfl (oGR rfl rfl (qI rfl Ao g63 (sd 1 rfl (?_))))
        obtain ⟨v64,g65,h⟩:=Aa h
        refine ed rfl (oGR rfl rfl (qC (qa rfl (erD Al _) (qs rfl Aw)) (GF g65) (sd 2 rfl (Ea ?_))))
        rcases Ab h with ⟨g66,h⟩ | ⟨g66,h⟩
        ·exact qT rfl g66 (rn 1 rfl (Af ((by cases h; cases hr6; exact ⟨.inl rfl,rfl⟩))))
        ·exact qF rfl g66 (Ae (hK55 _ (rg (sp 3 rfl (evn (hN _ _ h (okr rfl)))))))
      ·exact qF rfl g54 (Aj (kXB6 (Option.some.inj h) _ trivial))
     refine Aq (fun (y7 : Int) => [(1,.box [nI a0.1,dL BM a0.2.1,dL Ak a0.2.2]),(5,nI y7)]) _ _ _ _ hl (okr rfl) (fun _ => rfl) ?_
     rintro m y7 N h hN
     unfold DY at h
     refine Ac fun K37 hK37 => rn 1 rfl ?_
     rcases Ab h with ⟨g38,h⟩ | ⟨g38,h⟩
     ·refine qT rfl g38 (Ae (hK37 _ (Ac fun K39 hK39 => Ap (rn 1 rfl (Ac fun K40 hK40 => rn 1 rfl ?_)))))
      obtain ⟨o4,hl,hr4⟩:=Aa h
      have kXB4 : ∀ {z41 : Bool},z41 = o4 -> Jn K40 [(1,.box [nI a0.1,dL BM a0.2.1,dL Ak a0.2.2]),(5,nI y7),(6,.bool z41)]:=by
       intro z41 h σ' hk
       subst h
       replace h:=hr4
       try dsimp only at h
       refine hK40 _ (lh hk rfl (rn 1 rfl ?_))
       rcases Ab h with ⟨g51,h⟩ | ⟨g51,h⟩
       ·exact qT rfl g51 (rn 1 rfl (Af ((by cases h; cases hr3; exact ⟨.inl rfl,rfl⟩))))
       ·exact qF rfl g51 (Ae (hK39 _ (rg (sp 3 rfl (evn (hN _ _ h (okr rfl)))))))
      refine Aq (fun (s : Bool × Int) => match s with | (y10,y11) => [(1,.box [nI a0.1,dL BM a0.2.1,dL Ak a0.2.2]),(5,nI y7),(6,.bool y10),(7,nI y11)]) _ _ _ _ hl (okr rfl) (fun _ => rfl) ?_
      rintro m ⟨y10,y11⟩ N h hN
      unfold BW at h
      dsimp only at h
      refine Ac fun K42 hK42 => rn 1 rfl ?_
      rcases Ab h with ⟨g43,h⟩ | ⟨g43,h⟩
      ·refine qT rfl g43 (Ae (hK42 _ (Ac fun K44 hK44 => Ap ?_)))
       have kJ5 : ∀ {x45 : Bool},D0 (Ah (BW a0 y7) m) y11 x45 = some o4 -> Jn K44 [(1,.box [nI a0.1,dL BM a0.2.1,dL Ak a0.2.2]),(5,nI y7),(6,.bool x45),(7,nI y11)]:=by
        intro x45 h σ' hk
        unfold D0 at h
        exact hK44 _ (lh hk rfl (rg (sp 3 rfl (evn (hN _ _ h (okr rfl))))))
       refine rg (sp 2 rfl (?_))
       rcases Ab h with ⟨g46,h⟩ | ⟨g46,h⟩
       ·exact qg 93 g46 rfl (sp 9 rfl (evn (kJ5 h _ (okr rfl))))
       ·refine qg 93 g46 rfl (sp 3 rfl (?_))
        obtain ⟨e47,g48,h⟩:=Aa h
        refine oGR rfl rfl (qI rfl G3 g48 (sp 2 rfl (?_)))
        obtain ⟨v49,g50,h⟩:=Aa h
        exact oGR rfl rfl (qC (qa rfl (erg (erc rfl (erc (erD Al _) rfl))) (qs rfl Aw)) (CA g50) (sp 2 rfl (evn (kJ5 h _ (okr rfl)))))
      ·exact qF rfl g43 (Aj (kXB4 (Option.some.inj h) _ (okr rfl)))
     ·exact qF rfl g38 (Aj (kXB3 (Option.some.inj h) _ (okr rfl)))
    refine Aq (fun (y2 : Int) => [(1,.box [nI a0.1,dL BM a0.2.1,dL Ak a0.2.2]),(3,nI y2)]) _ _ _ _ hl (okr rfl) (fun _ => rfl) ?_
    rintro m y2 N h hN
    unfold DX at h
    refine Ac fun K10 hK10 => rn 1 rfl ?_
    rcases Ab h with ⟨g11,h⟩ | ⟨g11,h⟩
    ·refine qT rfl g11 (Ae (hK10 _ (Ac fun K12 hK12 => Ap (Ac fun K13 hK13 => rs (sp 3 rfl (?_))))))
     obtain ⟨e14,g15,h⟩:=Aa h
     refine qI rfl G3 g15 (sp 2 rfl (?_))
     obtain ⟨v16,g17,h⟩:=Aa h
     refine qC (qs rfl Aw) (Jg g17) (sp 2 rfl (?_))
     rcases Ab h with ⟨g18,h⟩ | ⟨g18,h⟩
     ·exact qg 43 g18 rfl (sp 10 rfl (evn (qT rfl rfl (rn 1 rfl (Af ((by cases h; cases hr1; exact ⟨.inl rfl,rfl⟩)))))))
     ·refine qg 43 g18 rfl (sp 3 rfl (?_))
      obtain ⟨e19,g20,h⟩:=Aa h
      refine oGR rfl rfl (qI rfl G3 g20 (sp 3 rfl (?_)))
      obtain ⟨v21,g22,h⟩:=Aa h
      refine oGR rfl rfl (qC (qs rfl (qs rfl (qs rfl Aw))) (Bv g22) (sp 2 rfl (evn (qk [1,3,53] rfl ?_))))
      rcases Ab h with ⟨g23,h⟩ | ⟨g23,h⟩
      ·exact qT rfl g23 (rn 1 rfl (Af ((by cases h; cases hr1; exact ⟨.inl rfl,rfl⟩))))
      ·refine qF rfl g23 (Ae (hK13 _ (rn 1 rfl ?_)))
       obtain ⟨o2,hl,hr2⟩:=Aa h
       have kXB2 : (.inl ()) = o2 -> Jn K12 [(1,.box [nI a0.1,dL BM a0.2.1,dL Ak a0.2.2]),(3,nI y2)]:=by
        intro h σ' hk
        subst h
        replace h:=hr2
        try dsimp only at h
        exact hK12 _ (lh hk rfl (rg (sp 3 rfl (evn (hN _ _ h (okr rfl))))))
       refine Aq (fun (y4 : Int) => [(1,.box [nI a0.1,dL BM a0.2.1,dL Ak a0.2.2]),(3,nI y2),(4,nI y4)]) _ _ _ _ hl (okr rfl) (fun _ => rfl) ?_
       rintro m y4 N h hN
       unfold Fh at h
       refine Ac fun K24 hK24 => rs (sp 4 rfl (?_))
       obtain ⟨e25,g26,h⟩:=Aa h
       refine qI rfl G3 g26 (sp 4 rfl (evn ?_))
       rcases Ab h with ⟨g27,h⟩ | ⟨g27,h⟩
       ·refine qT rfl g27 (Ae (hK24 _ (Ac fun K28 hK28 => Ap (rd (by kernel_rfl) (sd 3 rfl (?_))))))
        obtain ⟨e29,g30,h⟩:=Aa h
        refine ed rfl (qI rfl G3 g30 (sd 3 rfl (?_)))
        obtain ⟨e31,g32,h⟩:=Aa h
        refine ed rfl (qI rfl Ao g32 (sd 4 rfl (?_)))
        obtain ⟨v33,g34,h⟩:=Aa h
        refine ed rfl (qC (qs rfl (qs rfl (qs rfl Aw))) (Bv g34) (sd 1 rfl (Ea ?_)))
        rcases Ab h with ⟨g35,h⟩ | ⟨g35,h⟩
        ·exact qT rfl g35 (rn 1 rfl (Af ((by cases h; cases hr2; cases hr1; exact ⟨.inl rfl,rfl⟩))))
        ·exact qF rfl g35 (Ae (hK28 _ (qk [1,3,4] rfl (rg (sp 3 rfl (evn (hN _ _ h (okr rfl))))))))
       ·exact qF rfl g27 (Aj (kXB2 (Option.some.inj h) _ (okr rfl)))
    ·exact qF rfl g11 (Aj (kXB1 (Option.some.inj h) _ (okr rfl)))
def F6 (a0 : List Y96) (a1 : Y41) (rec : Int -> Option (Sum (Unit) (Bool))) (y1 : Int) : Option (Sum (Unit) (Bool)):=cond (decide (y1 < (List.length a1.2.1 : Int))) (Ad (AA a1.2.1 y1) fun e5 => Ad (Dq a0 e5.1) fun v7 => cond (!v7.2) (some (.inr false)) (Ad (AA a1.2.1 y1) fun e10 => cond (v7.1.1 != (List.length e10.2 : Int)) (some (.inr false)) (rec (IntKind.i64.wrap (y1 + 1))))) (some (.inl ()))
def EY (x14 : Bool) : Option (Bool):=some x14
def Fu (a0 : List Y96) (a1 : Y41) : Option (Bool):=Ad (Ah (F6 a0 a1) fz 0) fun o1 => (match o1 with
  | .inl _ => (Ad (Bo a1) fun v15 => cond v15 (Ad (CO a0) fun v18 => EY v18) (EY false))
  | .inr r => some r)
theorem JE {a0 : List Y96} {a1 : Y41} {r : Bool} (h : Fu a0 a1 = some r) : Ag Tryz.prog 41 [.agg [dL BY a0],.agg (Bz a1)] (.bool r):=by
 unfold Fu at h
 refine st ik rfl (rn 1 rfl (Ac fun K1 hK1 => rn 1 rfl ?_))
 obtain ⟨o1,hl,hr1⟩:=Aa h
 have kXB1 : (.inl ()) = o1 -> Jn K1 [(2,.box [dL BY a0]),(3,.box [nI a1.1,dL BM a1.2.1,dL Ak a1.2.2])]:=by
  intro h σ' hk
  subst h
  replace h:=hr1
  try dsimp only at h
  refine hK1 _ (lh hk rfl (rk fun K13 hK13 => ?_))
  have kJ2 : ∀ {x14 : Bool},EY x14 = some r -> Jn K13 [(4,.bool x14)]:=by
   intro x14 h σ' hk
   unfold EY at h
   exact hK13 _ (lh hk rfl (Af ((by cases h; exact ⟨.inl rfl,rfl⟩))))
  refine sp 1 rfl (?_)
  obtain ⟨v15,g16,h⟩:=Aa h
  refine qC (qa rfl (erg (erc rfl (erc (erD Ce _) (erc (erD Al _) rfl)))) Aw) (Dp g16) (sp 1 rfl (?_))
  rcases Ab h with ⟨g17,h⟩ | ⟨g17,h⟩
  ·refine qg 42 g17 rfl (sp 1 rfl (?_))
   obtain ⟨v18,g19,h⟩:=Aa h
   exact oGR rfl rfl (qC (qa rfl (erg (erc (erD D1 _) rfl)) Aw) (HB g19) (sp 2 rfl (evn (kJ2 h _ (okr rfl)))))
  ·exact qg 42 g17 rfl (sp 4 rfl (evn (kJ2 h _ (okr rfl))))
 refine Aq (fun (y1 : Int) => [(2,.box [dL BY a0]),(3,.box [nI a1.1,dL BM a1.2.1,dL Ak a1.2.2]),(5,nI y1)]) _ _ _ _ hl (okr rfl) (fun _ => rfl) ?_
 rintro m y1 N h hN
 unfold F6 at h
 refine Ac fun K2 hK2 => rn 1 rfl ?_
 rcases Ab h with ⟨g3,h⟩ | ⟨g3,h⟩
 ·refine qT rfl g3 (Ae (hK2 _ (Ac fun K4 hK4 => Ap (rd (by kernel_rfl) (sd 4 rfl (?_))))))
  obtain ⟨e5,g6,h⟩:=Aa h
  refine ed rfl (qI rfl G3 g6 (sd 2 rfl (?_)))
  obtain ⟨v7,g8,h⟩:=Aa h
  refine ed rfl (qC (qa rfl (erg (erc (erD D1 _) rfl)) (qs rfl Aw)) (H7 g8) (sd 6 rfl (Ea (rd (by kernel_rfl) (sd 3 rfl (?_))))))
  rcases Ab h with ⟨g9,h⟩ | ⟨g9,h⟩
  ·exact qgd 28 g9 rfl (sd 11 rfl (Ea (qk [2,3,5,39] rfl (qT rfl rfl (rn 1 rfl (Af ((by cases h; cases hr1; exact ⟨.inl rfl,rfl⟩))))))))
  ·refine qgd 28 g9 rfl (sd 5 rfl (?_))
   obtain ⟨e10,g11,h⟩:=Aa h
   refine ed rfl (oGR rfl rfl (qI rfl G3 g11 (sd 5 rfl (Ea ?_))))
   rcases Ab h with ⟨g12,h⟩ | ⟨g12,h⟩
   ·exact qT rfl g12 (rn 1 rfl (Af ((by cases h; cases hr1; exact ⟨.inl rfl,rfl⟩))))
   ·exact qF rfl g12 (Ae (hK4 _ (rg (sp 3 rfl (evn (hN _ _ h (okr rfl)))))))
 ·exact qF rfl g3 (Aj (kXB1 (Option.some.inj h) _ (okr rfl)))
def FX (rec : ((List (List Int)) × (List (List Int)) × (List (List Int))) -> Option ((List (List Int)))) (y3 : List (List Int)) (x18 : List (List Int)) (x19 : List (List Int)) (x20 : List Int) (x22 : Bool) : Option ((List (List Int))):=cond x22 (chk (List.length y3 + List.length [x20] <= lim) (rec (x18,x19,(y3 ++ [x20])))) (rec (x18,x19,y3))
def FW (rec : ((List (List Int)) × (List (List Int)) × (List (List Int))) -> Option ((List (List Int)))) (y3 : List (List Int)) (x18 : List (List Int)) (x19 : List (List Int)) (x20 : List Int) : Option ((List (List Int))):=cond ((List.length y3 : Int) == 0) (FX rec y3 x18 x19 x20 true) (Ad (AA y3 (IntKind.i64.wrap ((List.length y3 : Int) - 1))) fun e26 => Ad (BA e26 x20) fun v28 => FX rec y3 x18 x19 x20 (v28 != 0))
def Dy (rec : ((List (List Int)) × (List (List Int)) × (List (List Int))) -> Option ((List (List Int)))) (y1 : List (List Int)) (y2 : List (List Int)) (y3 : List (List Int)) (x16 : Int) : Option ((List (List Int))):=cond (decide (0 < x16)) (Ad (AA y2 0) fun e31 => chk ((0 : Int) <= 1 ∧ 1 <= (List.length y2 : Int) ∧ (List.length y2 : Int) <= (List.length y2 : Int)) (FW rec y3 y1 (Cq y2 1 (List.length y2 : Int)) e31)) (Ad (AA y1 0) fun e34 => chk ((0 : Int) <= 1 ∧ 1 <= (List.length y1 : Int) ∧ (List.length y1 : Int) <= (List.length y1 : Int)) (FW rec y3 (Cq y1 1 (List.length y1 : Int)) y2 e34))
def D9 (rec : ((List (List Int)) × (List (List Int)) × (List (List Int))) -> Option ((List (List Int)))) (y1 : List (List Int)) (y2 : List (List Int)) (y3 : List (List Int)) (x13 : Bool) : Option ((List (List Int))):=cond x13 (cond ((List.length y1 : Int) == 0) (Dy rec y1 y2 y3 1) (cond (decide (0 < (List.length y2 : Int))) (Ad (AA y1 0) fun e39 => Ad (AA y2 0) fun e41 => Ad (BA e39 e41) fun v43 => Dy rec y1 y2 y3 v43) (Dy rec y1 y2 y3 (-1)))) (some y3)
def BB  (rec : ((List (List Int)) × (List (List Int)) × (List (List Int))) -> Option ((List (List Int)))) (s : (List (List Int)) × (List (List Int)) × (List (List Int))) : Option ((List (List Int))):=match s with
  | (y1,y2,y3) => cond (decide (0 < (List.length y1 : Int))) (D9 rec y1 y2 y3 true) (D9 rec y1 y2 y3 (decide (0 < (List.length y2 : Int))))
def E0 (rec : ((List (List Int))) -> Option ((List (List Int)))) (a0 : (List (List Int))) : Option ((List (List Int))):=cond (decide ((List.length a0 : Int) < 2)) (some a0) (chk ((0 : Int) <= 0 ∧ 0 <= IntKind.i64.wrap (Int.tdiv (List.length a0 : Int) 2) ∧ IntKind.i64.wrap (Int.tdiv (List.length a0 : Int) 2) <= (List.length a0 : Int)) (Ad (rec (Cq a0 0 (IntKind.i64.wrap (Int.tdiv (List.length a0 : Int) 2)))) fun v4 => chk ((0 : Int) <= IntKind.i64.wrap (Int.tdiv (List.length a0 : Int) 2) ∧ IntKind.i64.wrap (Int.tdiv (List.length a0 : Int) 2) <= (List.length a0 : Int) ∧ (List.length a0 : Int) <= (List.length a0 : Int)) (Ad (rec (Cq a0 (IntKind.i64.wrap (Int.tdiv (List.length a0 : Int) 2)) (List.length a0 : Int))) fun v7 => Ad (Ah BB fz (v4,v7,([] : List (List Int)))) fun z10 => some z10)))
def Lv (a0 : List (List Int)) : Option ((List (List Int))):=Ah E0 fz a0
theorem Qk {a0 : List (List Int)} {r : (List (List Int))} (h : Lv a0 = some r) : Ag Tryz.prog 71 [dL AL a0] (dL AL r):=by
 suffices key : ∀ mF (a0 : List (List Int)) (r : (List (List Int))),Ah E0 mF a0 = some r -> Ag Tryz.prog 71 [dL AL a0] (dL AL r) from key fz a0 r h
 intro mF
 induction mF with
 | zero => intro a0 r h; cases h
 | succ mF ih0 =>
  intro a0 r h
  have ih : ∀ {a0 : List (List Int)} {r : (List (List Int))},Ah E0 mF a0 = some r -> Ag Tryz.prog 71 [dL AL a0] (dL AL r):=fun h => ih0 _ _ h
  change E0 (Ah E0 mF) a0 = some r at h
  unfold E0 at h
  try dsimp only at h
  refine st iS rfl (rn 1 rfl (Ac fun K1 hK1 => rn 1 rfl ?_))
  rcases Ab h with ⟨g2,h⟩ | ⟨g2,h⟩
  ·exact qT rfl g2 (rn 1 rfl (Af ((by cases h; exact ⟨.inl rfl,rfl⟩))))
  ·refine qF rfl g2 (Ae (hK1 _ (rn 1 rfl (rs (sp 2 rfl (?_))))))
   obtain ⟨g3,h⟩:=An h
   refine qSl rfl AY g3 (?_)
   obtain ⟨v4,g5,h⟩:=Aa h
   refine qC (qa rfl (erD Bc _) Aw) (ih g5) (sp 1 rfl (evn (rs (sp 2 rfl (?_)))))
   obtain ⟨g6,h⟩:=An h
   refine qSl rfl AY g6 (?_)
   obtain ⟨v7,g8,h⟩:=Aa h
   refine qC (qa rfl (erD Bc _) Aw) (ih g8) (sp 1 rfl (evn (qk [4,5] rfl (rs (qBs As [] rfl rfl rfl Cf (sp 1 rfl (evn (Ac fun K9 hK9 => ?_))))))))
   obtain ⟨o1,hl,hr1⟩:=Aa h
   have kXB1 : ∀ {z10 : List (List Int)},z10 = o1 -> Jn K9 [(6,oL 26 AL z10)]:=by
    intro z10 h σ' hk
    subst h
    replace h:=hr1
    try dsimp only at h
    exact hK9 _ (lh hk rfl (rn 1 rfl (Ez [(2,dL AL z10)] ⟨(ke rfl (erO Bc _)),trivial⟩ rfl (Af ((by cases h; exact ⟨.inl rfl,rfl⟩))))))
   refine Aq (fun (s : (List (List Int)) × (List (List Int)) × (List (List Int))) => match s with | (y1,y2,y3) => [(4,dL AL y1),(5,dL AL y2),(6,oL 26 AL y3)]) _ _ _ _ hl (okr rfl) (fun _ => rfl) ?_
   rintro m ⟨y1,y2,y3⟩ N h hN
   unfold BB at h
   dsimp only at h
   refine Ac fun K11 hK11 => rk fun K12 hK12 => ?_
   have kJ2 : ∀ {x13 : Bool},D9 (Ah BB m) y1 y2 y3 x13 = some o1 -> Jn K12 [(4,dL AL y1),(5,dL AL y2),(6,oL 26 AL y3),(32,.bool x13)]:=by
    intro x13 h σ' hk
    unfold D9 at h
    refine hK12 _ (lh hk rfl ?_)
    rcases Ab h with ⟨g14,h⟩ | ⟨g14,h⟩
    ·refine qT rfl g14 (Ae (hK11 _ (Ap (rn 1 rfl (Ac fun K15 hK15 => Ap (rn 1 rfl ?_))))))
     have kJ3 : ∀ {x16 : Int},Dy (Ah BB m) y1 y2 y3 x16 = some o1 -> Jn K15 [(4,dL AL y1),(5,dL AL y2),(6,oL 26 AL y3),(7,nI x16)]:=by
      intro x16 h σ' hk
      unfold Dy at h
      refine hK15 _ (lh hk rfl (rs (qBs Ak [] rfl rfl rfl Ao (sp 1 rfl (evn (Ac fun K17 hK17 => rn 1 rfl ?_))))))
      have kJ4 : ∀ {x18 : List (List Int)} {x19 : List (List Int)} {x20 : List Int},FW (Ah BB m) y3 x18 x19 x20 = some o1 -> Jn K17 [(4,dL AL x18),(5,dL AL x19),(6,oL 26 AL y3),(8,dL Ak x20)]:=by
       intro x18 x19 x20 h σ' hk
       unfold FW at h
       refine hK17 _ (lh hk rfl (rk fun K21 hK21 => ?_))
       have kJ5 : ∀ {x22 : Bool},FX (Ah BB m) y3 x18 x19 x20 x22 = some o1 -> Jn K21 [(4,dL AL x18),(5,dL AL x19),(6,oL 26 AL y3),(8,dL Ak x20),(74,.bool x22)]:=by
        intro x22 h σ' hk
        unfold FX at h
        refine hK21 _ (lh hk rfl ?_)
        rcases Ab h with ⟨g23,h⟩ | ⟨g23,h⟩
        ·refine qT rfl g23 (rg (sp 2 rfl (qBs AL [x20] rfl rfl rfl AY (?_))))
         obtain ⟨g24,h⟩:=An h
         exact qA AL y3 [x20] rfl rfl (AE AY [x20]) rfl g24 (sp 1 rfl (evn (hN _ _ h (okr rfl))))
        ·exact qF rfl g23 (Ae (hN _ _ h (okr rfl)))
       refine sp 4 rfl (?_)
       rcases Ab h with ⟨g25,h⟩ | ⟨g25,h⟩
       ·exact qg 64 g25 rfl (sp 10 rfl (evn (kJ5 h _ (okr rfl))))
       ·refine qg 64 g25 rfl (sp 4 rfl (?_))
        obtain ⟨e26,g27,h⟩:=Aa h
        refine oGR rfl rfl (qI rfl AY g27 (sp 2 rfl (?_)))
        obtain ⟨v28,g29,h⟩:=Aa h
        exact oGR rfl rfl (qC (qa rfl (erD Al _) (qa rfl (erD Al _) Aw)) (DM g29) (sp 2 rfl (evn (kJ5 h _ (okr rfl)))))
      rcases Ab h with ⟨g30,h⟩ | ⟨g30,h⟩
      ·refine qT rfl g30 (rs (sp 1 rfl (?_)))
       obtain ⟨e31,g32,h⟩:=Aa h
       refine qI rfl AY g32 (sp 2 rfl (evn (qk [4,5,6,8] rfl (rg (sp 1 rfl (?_))))))
       obtain ⟨g33,h⟩:=An h
       exact qSl rfl AY g33 (sp 1 rfl (evn (kJ4 h _ (okr rfl))))
      ·refine qF rfl g30 (rs (sp 1 rfl (?_)))
       obtain ⟨e34,g35,h⟩:=Aa h
       refine qI rfl AY g35 (sp 2 rfl (evn (rg (sp 1 rfl (?_)))))
       obtain ⟨g36,h⟩:=An h
       exact qSl rfl AY g36 (sp 1 rfl (evn (kJ4 h _ (okr rfl))))
     rcases Ab h with ⟨g37,h⟩ | ⟨g37,h⟩
     ·exact qT rfl g37 (rg (sp 1 rfl (evn (kJ3 h _ (okr rfl)))))
     ·refine qF rfl g37 (rn 1 rfl ?_)
      rcases Ab h with ⟨g38,h⟩ | ⟨g38,h⟩
      ·refine qT rfl g38 (rgd (by kernel_rfl) (sd 1 rfl (?_)))
       obtain ⟨e39,g40,h⟩:=Aa h
       refine ed rfl (qI rfl AY g40 (sd 2 rfl (?_)))
       obtain ⟨e41,g42,h⟩:=Aa h
       refine ed rfl (qI rfl AY g42 (sd 1 rfl (?_)))
       obtain ⟨v43,g44,h⟩:=Aa h
       exact ed rfl (qC (qa rfl (erD Al _) (qa rfl (erD Al _) Aw)) (DM g44) (sd 1 rfl (Ea (kJ3 h _ (okr rfl)))))
      ·exact qF rfl g38 (rg (sp 1 rfl (evn (kJ3 h _ (okr rfl)))))
    ·exact qF rfl g14 (Aj (kXB1 (Option.some.inj h) _ (okr rfl)))
   refine sp 4 rfl (?_)
   rcases Ab h with ⟨g45,h⟩ | ⟨g45,h⟩
   ·exact qg 28 g45 rfl (sp 4 rfl (evn (kJ2 h _ (okr rfl))))
   ·exact qg 28 g45 rfl (sp 4 rfl (evn (kJ2 h _ (okr rfl))))
def FJ (a0 : Int) (a1 : List (List Int)) (rec : Int -> Option (Sum (Unit) (Y57 × Bool))) (y1 : Int) : Option (Sum (Unit) (Y57 × Bool)):=cond (decide (y1 < (List.length a1 : Int))) (Ad (AA a1 y1) fun e5 => cond ((List.length e5 : Int) != a0) (some (.inr ((0,[]),false))) (Ad (AA a1 y1) fun e8 => Ad (Dn e8) fun v10 => cond (!v10) (some (.inr ((0,[]),false))) (rec (IntKind.i64.wrap (y1 + 1))))) (some (.inl ()))
def DP (a0 : Int) (a1 : List (List Int)) : Option (Y57 × Bool):=Ad (Ah (FJ a0 a1) fz 0) fun o1 => (match o1 with
  | .inl _ => (Ad (Lv a1) fun v13 => Ad (HJ (a0,v13)) fun v15 => Ad (Ba v15) fun v18 => cond (!v18) (some ((0,[]),false)) (some (v15,true)))
  | .inr r => some r)
theorem Hu {a0 : Int} {a1 : List (List Int)} {r : Y57 × Bool} (h : DP a0 a1 = some r) : Ag Tryz.prog 40 [nI a0,dL AL a1] (.tup [.agg (ID r.1),.bool r.2]):=by
 unfold DP at h
 refine st ij rfl (rn 1 rfl (Ac fun K1 hK1 => rn 1 rfl ?_))
 obtain ⟨o1,hl,hr1⟩:=Aa h
 have kXB1 : (.inl ()) = o1 -> Jn K1 [(0,nI a0),(1,dL AL a1),(4,.box [nI 0,oL 26 As []])]:=by
  intro h σ' hk
  subst h
  replace h:=hr1
  try dsimp only at h
  refine hK1 _ (lh hk rfl (rs (sp 2 rfl (?_))))
  obtain ⟨v13,g14,h⟩:=Aa h
  refine qC (qa rfl (erD Bc _) Aw) (Qk g14) (sp 1 rfl (?_))
  obtain ⟨v15,g16,h⟩:=Aa h
  refine qC (qa rfl (erg (erc rfl (erc (erD Bc _) rfl))) Aw) (Ma g16) (sp 2 rfl (evn (Ac fun K17 hK17 => rs (sp 1 rfl (?_)))))
  obtain ⟨v18,g19,h⟩:=Aa h
  refine qC (qa rfl (erg (erc rfl (erc (erD I4 _) rfl))) Aw) (Dd g19) (sp 1 rfl (evn ?_))
  rcases Ab h with ⟨g20,h⟩ | ⟨g20,h⟩
  ·exact qT rfl g20 (rn 1 rfl (Af ((by cases h; exact ⟨.inl rfl,rfl⟩))))
  ·exact qF rfl g20 (Ae (hK17 _ (rn 1 rfl (Af ((by cases h; exact ⟨.inl rfl,rfl⟩))))))
 refine Aq (fun (y1 : Int) => [(0,nI a0),(1,dL AL a1),(4,.box [nI 0,oL 26 As []]),(6,nI y1)]) _ _ _ _ hl (okr rfl) (fun _ => rfl) ?_
 rintro m y1 N h hN
 unfold FJ at h
 refine Ac fun K2 hK2 => rn 1 rfl ?_
 rcases Ab h with ⟨g3,h⟩ | ⟨g3,h⟩
 ·refine qT rfl g3 (Ae (hK2 _ (Ac fun K4 hK4 => Ap (rs (sp 2 rfl (?_))))))
  obtain ⟨e5,g6,h⟩:=Aa h
  refine qI rfl AY g6 (sp 5 rfl (?_))
  rcases Ab h with ⟨g7,h⟩ | ⟨g7,h⟩
  ·exact qg 21 g7 rfl (sp 7 rfl (evn (qT rfl rfl (rn 1 rfl (Af ((by cases h; cases hr1; exact ⟨.inl rfl,rfl⟩)))))))
  ·refine qg 21 g7 rfl (sp 2 rfl (?_))
   obtain ⟨e8,g9,h⟩:=Aa h
   refine oGR rfl rfl (qI rfl AY g9 (sp 1 rfl (?_)))
   obtain ⟨v10,g11,h⟩:=Aa h
   refine oGR rfl rfl (qC (qa rfl (erD Al _) Aw) (H5 g11) (sp 2 rfl (evn (qk [0,1,4,6,28] rfl ?_))))
   rcases Ab h with ⟨g12,h⟩ | ⟨g12,h⟩
   ·exact qT rfl g12 (rn 1 rfl (Af ((by cases h; cases hr1; exact ⟨.inl rfl,rfl⟩))))
   ·exact qF rfl g12 (Ae (hK4 _ (rg (sp 3 rfl (evn (hN _ _ h (okr rfl)))))))
 ·exact qF rfl g3 (Aj (kXB1 (Option.some.inj h) _ (okr rfl)))
def DG (rec : ((List Int) × Int) -> Option ((List Int))) (y2 : Int) (x8 : List Int) : Option ((List Int)):=rec (x8,(IntKind.i64.wrap (y2 + 1)))
def Ck (a0 : Y78) (rec : ((List Int) × Int) -> Option ((List Int))) (s : (List Int) × Int) : Option ((List Int)):=match s with
  | (y1,y2) => cond (decide (y2 < 5)) (Ad (AQ a0 y2) fun v6 => cond v6 (chk (List.length y1 + List.length [y2] <= lim) (DG rec y2 (y1 ++ [y2]))) (DG rec y2 y1)) (some y1)
def DL (a0 : Y78) : Option ((List Int)):=Ad (Ah (Ck a0) fz (([] : List Int),0)) fun z2 => some z2
theorem Iq {a0 : Y78} {r : (List Int)} (h : DL a0 = some r) : Ag Tryz.prog 76 [.agg (BM a0)] (oL 3 Ak r):=by
 unfold DL at h
 refine st iX rfl (rn 1 rfl (rs (qBs Ak [] rfl rfl rfl Ao (sp 1 rfl (evn (Ac fun K1 hK1 => rn 1 rfl ?_))))))
 obtain ⟨o1,hl,hr1⟩:=Aa h
 have kXB1 : ∀ {z2 : List Int},z2 = o1 -> Jn K1 [(3,oL 3 Ak z2)]:=by
  intro z2 h σ' hk
  subst h
  replace h:=hr1
  try dsimp only at h
  exact hK1 _ (lh hk rfl (rn 1 rfl (Af ((by cases h; exact ⟨.inl rfl,rfl⟩)))))
 refine Aq (fun (s : (List Int) × Int) => match s with | (y1,y2) => [(1,.box [.str a0.1,dL Ak a0.2]),(3,oL 3 Ak y1),(4,nI y2)]) _ _ _ _ hl (okr rfl) (fun _ => rfl) ?_
 rintro m ⟨y1,y2⟩ N h hN
 unfold Ck at h
 dsimp only at h
 refine Ac fun K3 hK3 => rn 1 rfl ?_
 rcases Ab h with ⟨g4,h⟩ | ⟨g4,h⟩
 ·refine qT rfl g4 (Ae (hK3 _ (Ac fun K5 hK5 => Ap (rs (sp 2 rfl (?_))))))
  obtain ⟨v6,g7,h⟩:=Aa h
  refine qC (qa rfl (erg (erc rfl (erc (erD Al _) rfl))) (qs rfl Aw)) (CA g7) (evn ?_)
  have kJ2 : ∀ {x8 : List Int},DG (Ah (Ck a0) m) y2 x8 = some o1 -> Jn K5 [(1,.box [.str a0.1,dL Ak a0.2]),(3,oL 3 Ak x8),(4,nI y2)]:=by
   intro x8 h σ' hk
   unfold DG at h
   exact hK5 _ (lh hk rfl (rg (sp 3 rfl (evn (hN _ _ h (okr rfl))))))
  rcases Ab h with ⟨g9,h⟩ | ⟨g9,h⟩
  ·refine qT rfl g9 (rg (sp 2 rfl (qBs Ak [y2] rfl rfl rfl Ao (?_))))
   obtain ⟨g10,h⟩:=An h
   exact qA Ak y1 [y2] rfl rfl (AE Ao [y2]) rfl g10 (sp 1 rfl (evn (kJ2 h _ (okr rfl))))
  ·exact qF rfl g9 (Ae (kJ2 h _ (okr rfl)))
 ·exact qF rfl g4 (Aj (kXB1 (Option.some.inj h) _ (okr rfl)))
def DV (a1 : Y78) (v1 : (List Int)) (v3 : Y57 × Bool) (y6 : Int) (rec : ((List Int) × Int) -> Option ((List Int))) (s : (List Int) × Int) : Option ((List Int)):=match s with
  | (y11,y12) => cond (decide (y12 < (List.length v1 : Int))) (Ad (AA v3.1.2 y6) fun e18 => Ad (AA v1 y12) fun e20 => Ad (Fa a1.2 e20) fun v22 => Ad (AA e18 v22) fun e24 => chk (List.length y11 + List.length [e24] <= lim) (rec ((y11 ++ [e24]),(IntKind.i64.wrap (y12 + 1))))) (some y11)
def BV (rec : (Bool × Int) -> Option (Bool)) (y14 : Int) (x36 : Bool) : Option (Bool):=rec (x36,(IntKind.i64.wrap (y14 + 1)))
def BU (a1 : Y78) (v1 : (List Int)) (v3 : Y57 × Bool) (y6 : Int) (z14 : List Int) (rec : (Bool × Int) -> Option (Bool)) (s : Bool × Int) : Option (Bool):=match s with
  | (y13,y14) => cond (decide (y14 < (List.length a1.2 : Int))) (Ad (AA a1.2 y14) fun e32 => Ad (Fa v1 e32) fun v34 => cond y13 (cond (decide (0 <= v34)) (Ad (AA z14 v34) fun e39 => Ad (AA v3.1.2 y6) fun e41 => Ad (AA e41 y14) fun e43 => BV rec y14 (e39 == e43)) (BV rec y14 false)) (BV rec y14 false)) (some y13)
def CN (rec : ((List (List Int)) × Int) -> Option ((List (List Int)))) (y6 : Int) (x45 : List (List Int)) : Option ((List (List Int))):=rec (x45,(IntKind.i64.wrap (y6 + 1)))
def BT (a1 : Y78) (v1 : (List Int)) (v3 : Y57 × Bool) (rec : ((List (List Int)) × Int) -> Option ((List (List Int)))) (s : (List (List Int)) × Int) : Option ((List (List Int))):=match s with
  | (y5,y6) => cond (decide (y6 < (List.length v3.1.2 : Int))) (Ad (Ah (DV a1 v1 v3 y6) fz (([] : List Int),0)) fun z14 => Ad (Ah (BU a1 v1 v3 y6 z14) fz (true,0)) fun z28 => cond z28 (chk (List.length y5 + List.length [z14] <= lim) (CN rec y6 (y5 ++ [z14]))) (CN rec y6 y5)) (some y5)
def Ek (a0 : List Y96) (a1 : Y78) : Option (Y57):=Ad (DL a1) fun v1 => Ad (Dq a0 a1.1) fun v3 => cond (!v3.2) (some ((List.length v1 : Int),[])) (cond (v3.1.1 != (List.length a1.2 : Int)) (some ((List.length v1 : Int),[])) (Ad (Ah (BT a1 v1 v3) fz (([] : List (List Int)),0)) fun z9 => Ad (DP (List.length v1 : Int) z9) fun v48 => cond (!v48.2) (some ((List.length v1 : Int),[])) (some v48.1)))
theorem IW {a0 : List Y96} {a1 : Y78} {r : Y57} (h : Ek a0 a1 = some r) : Ag Tryz.prog 42 [.agg [dL BY a0],.agg (BM a1)] (.agg (ID r)):=by
 unfold Ek at h
 refine st il rfl (rn 1 rfl (rs (sp 1 rfl (?_))))
 obtain ⟨v1,g2,h⟩:=Aa h
 refine qC (qa rfl (erg (erc rfl (erc (erD Al _) rfl))) Aw) (Iq g2) (sp 1 rfl (evn (rs (sp 3 rfl (?_)))))
 obtain ⟨v3,g4,h⟩:=Aa h
 refine qC (qa rfl (erg (erc (erD D1 _) rfl)) (qs rfl Aw)) (H7 g4) (sp 6 rfl (evn (rn 1 rfl (Ac fun K5 hK5 => rs (sp 3 rfl (?_))))))
 rcases Ab h with ⟨g6,h⟩ | ⟨g6,h⟩
 ·exact qg 32 g6 rfl (sp 7 rfl (evn (qT rfl rfl (rn 1 rfl (qk [4] rfl (Af ((by cases h; exact ⟨.inl rfl,rfl⟩))))))))
 ·refine qg 32 g6 rfl (sp 7 rfl (evn ?_))
  rcases Ab h with ⟨g7,h⟩ | ⟨g7,h⟩
  ·exact qT rfl g7 (rn 1 rfl (Af ((by cases h; exact ⟨.inl rfl,rfl⟩))))
  ·refine qF rfl g7 (Ae (hK5 _ (rs (qBs As [] rfl rfl rfl Cf (sp 1 rfl (evn (Ac fun K8 hK8 => rn 1 rfl ?_)))))))
   obtain ⟨o1,hl,hr1⟩:=Aa h
   have kXB1 : ∀ {z9 : List (List Int)},z9 = o1 -> Jn K8 [(4,.box [nI 0,oL 26 As []]),(5,oL 3 Ak v1),(8,.box [nI (List.length v1 : Int),oL 26 As []]),(9,oL 26 As z9)]:=by
    intro z9 h σ' hk
    subst h
    replace h:=hr1
    try dsimp only at h
    refine hK8 _ (lh hk rfl (rs (sp 3 rfl (?_))))
    obtain ⟨v48,g49,h⟩:=Aa h
    refine qC (qs rfl (qa rfl (erD I4 _) Aw)) (Hu g49) (sp 6 rfl (evn (Ac fun K50 hK50 => rn 1 rfl ?_)))
    rcases Ab h with ⟨g51,h⟩ | ⟨g51,h⟩
    ·exact qT rfl g51 (rn 1 rfl (Af ((by cases h; exact ⟨.inl rfl,rfl⟩))))
    ·exact qF rfl g51 (Ae (hK50 _ (rn 1 rfl (Af ((by cases h; exact ⟨.inl rfl,rfl⟩))))))
   refine Aq (fun (s : (List (List Int)) × Int) => match s with | (y5,y6) => [(3,.box [.str a1.1,dL Ak a1.2]),(4,.box [nI 0,oL 26 As []]),(5,oL 3 Ak v1),(6,.box [nI v3.1.1,oL 26 As v3.1.2]),(8,.box [nI (List.length v1 : Int),oL 26 As []]),(9,oL 26 As y5),(10,nI y6)]) _ _ _ _ hl (okr rfl) (fun _ => rfl) ?_
   rintro m ⟨y5,y6⟩ N h hN
   unfold BT at h
   dsimp only at h
   refine Ac fun K10 hK10 => rn 1 rfl ?_
   rcases Ab h with ⟨g11,h⟩ | ⟨g11,h⟩
   ·refine qT rfl g11 (Ae (hK10 _ (Ac fun K12 hK12 => Ap (rs (qBs Ak [] rfl rfl rfl Ao (sp 1 rfl (evn (Ac fun K13 hK13 => rn 1 rfl ?_))))))))
    obtain ⟨o2,hl,hr2⟩:=Aa h
    have kXB2 : ∀ {z14 : List Int},z14 = o2 -> Jn K13 [(3,.box [.str a1.1,dL Ak a1.2]),(4,.box [nI 0,oL 26 As []]),(5,oL 3 Ak v1),(6,.box [nI v3.1.1,oL 26 As v3.1.2]),(8,.box [nI (List.length v1 : Int),oL 26 As []]),(9,oL 26 As y5),(10,nI y6),(11,oL 3 Ak z14)]:=by
     intro z14 h σ' hk
     subst h
     replace h:=hr2
     try dsimp only at h
     refine hK13 _ (lh hk rfl (rn 1 rfl (Ac fun K27 hK27 => rn 1 rfl ?_)))
     obtain ⟨o3,hl,hr3⟩:=Aa h
     have kXB3 : ∀ {z28 : Bool},z28 = o3 -> Jn K27 [(3,.box [.str a1.1,dL Ak a1.2]),(4,.box [nI 0,oL 26 As []]),(5,oL 3 Ak v1),(6,.box [nI v3.1.1,oL 26 As v3.1.2]),(8,.box [nI (List.length v1 : Int),oL 26 As []]),(9,oL 26 As y5),(10,nI y6),(11,oL 3 Ak z14),(13,.bool z28)]:=by
      intro z28 h σ' hk
      subst h
      replace h:=hr3
      try dsimp only at h
      refine hK27 _ (lh hk rfl (rn 1 rfl ?_))
      have kJ5 : ∀ {x45 : List (List Int)},CN (Ah (BT a1 v1 v3) m) y6 x45 = some o1 -> Jn K12 [(3,.box [.str a1.1,dL Ak a1.2]),(4,.box [nI 0,oL 26 As []]),(5,oL 3 Ak v1),(6,.box [nI v3.1.1,oL 26 As v3.1.2]),(8,.box [nI (List.length v1 : Int),oL 26 As []]),(9,oL 26 As x45),(10,nI y6)]:=by
       intro x45 h σ' hk
       unfold CN at h
       exact hK12 _ (lh hk rfl (rg (sp 3 rfl (evn (hN _ _ h (okr rfl))))))
      rcases Ab h with ⟨g46,h⟩ | ⟨g46,h⟩
      ·refine qT rfl g46 (rg (sp 2 rfl (qBs As [z14] rfl rfl rfl Cf (?_))))
       obtain ⟨g47,h⟩:=An h
       exact qA As y5 [z14] rfl rfl (AE Cf [z14]) rfl g47 (sp 1 rfl (evn (kJ5 h _ (okr rfl))))
      ·exact qF rfl g46 (Ae (kJ5 h _ (okr rfl)))
     refine Aq (fun (s : Bool × Int) => match s with | (y13,y14) => [(3,.box [.str a1.1,dL Ak a1.2]),(4,.box [nI 0,oL 26 As []]),(5,oL 3 Ak v1),(6,.box [nI v3.1.1,oL 26 As v3.1.2]),(8,.box [nI (List.length v1 : Int),oL 26 As []]),(9,oL 26 As y5),(10,nI y6),(11,oL 3 Ak z14),(13,.bool y13),(14,nI y14)]) _ _ _ _ hl (okr rfl) (fun _ => rfl) ?_
     rintro m ⟨y13,y14⟩ N h hN
     unfold BU at h
     dsimp only at h
     refine Ac fun K29 hK29 => rn 1 rfl ?_
     rcases Ab h with ⟨g30,h⟩ | ⟨g30,h⟩
     ·refine qT rfl g30 (Ae (hK29 _ (Ac fun K31 hK31 => Ap (rs (sp 4 rfl (?_))))))
      obtain ⟨e32,g33,h⟩:=Aa h
      refine qI rfl Ao g33 (sp 1 rfl (?_))
      obtain ⟨v34,g35,h⟩:=Aa h
      refine qC (qa rfl (erD Al _) (qs rfl Aw)) (GF g35) (sp 1 rfl (evn ?_))
      have kJ4 : ∀ {x36 : Bool},BV (Ah (BU a1 v1 v3 y6 z14) m) y14 x36 = some o3 -> Jn K31 [(3,.box [.str a1.1,dL Ak a1.2]),(4,.box [nI 0,oL 26 As []]),(5,oL 3 Ak v1),(6,.box [nI v3.1.1,oL 26 As v3.1.2]),(8,.box [nI (List.length v1 : Int),oL 26 As []]),(9,oL 26 As y5),(10,nI y6),(11,oL 3 Ak z14),(13,.bool x36),(14,nI y14)]:=by
       intro x36 h σ' hk
       unfold BV at h
       exact hK31 _ (lh hk rfl (rg (sp 3 rfl (evn (hN _ _ h (okr rfl))))))
      refine rgd (by kernel_rfl) (sd 2 rfl (?_))
      rcases Ab h with ⟨g37,h⟩ | ⟨g37,h⟩
      ·refine qgd 88 g37 rfl (sd 4 rfl (?_))
       rcases Ab h with ⟨g38,h⟩ | ⟨g38,h⟩
       ·refine qgd 92 g38 rfl (sd 2 rfl (?_))
        obtain ⟨e39,g40,h⟩:=Aa h
        refine ed rfl (oGR rfl rfl (qI rfl Ao g40 (sd 4 rfl (?_))))
        obtain ⟨e41,g42,h⟩:=Aa h
        refine ed rfl (oGR rfl rfl (qI rfl Cf g42 (sd 2 rfl (?_))))
        obtain ⟨e43,g44,h⟩:=Aa h
        exact ed rfl (oGR rfl rfl (qI rfl Ao g44 (sd 4 rfl (Ea (kJ4 h _ (okr rfl))))))
       ·exact qgd 92 g38 rfl (sd 15 rfl (Ea (kJ4 h _ (okr rfl))))
      ·exact qgd 88 g37 rfl (sd 19 rfl (Ea (kJ4 h _ (okr rfl))))
     ·exact qF rfl g30 (Aj (kXB3 (Option.some.inj h) _ (okr rfl)))
    refine Aq (fun (s : (List Int) × Int) => match s with | (y11,y12) => [(3,.box [.str a1.1,dL Ak a1.2]),(4,.box [nI 0,oL 26 As []]),(5,oL 3 Ak v1),(6,.box [nI v3.1.1,oL 26 As v3.1.2]),(8,.box [nI (List.length v1 : Int),oL 26 As []]),(9,oL 26 As y5),(10,nI y6),(11,oL 3 Ak y11),(12,nI y12)]) _ _ _ _ hl (okr rfl) (fun _ => rfl) ?_
    rintro m ⟨y11,y12⟩ N h hN
    unfold DV at h
    dsimp only at h
    refine Ac fun K15 hK15 => rn 1 rfl ?_
    rcases Ab h with ⟨g16,h⟩ | ⟨g16,h⟩
    ·refine qT rfl g16 (Ae (hK15 _ (Ac fun K17 hK17 => Ap (rgd (by kernel_rfl) (sd 4 rfl (?_))))))
     obtain ⟨e18,g19,h⟩:=Aa h
     refine ed rfl (qI rfl Cf g19 (sd 5 rfl (?_)))
     obtain ⟨e20,g21,h⟩:=Aa h
     refine ed rfl (qI rfl Ao g21 (sd 1 rfl (?_)))
     obtain ⟨v22,g23,h⟩:=Aa h
     refine ed rfl (qC (qa rfl (erD Al _) (qs rfl Aw)) (GF g23) (?_))
     obtain ⟨e24,g25,h⟩:=Aa h
     refine ed rfl (qI rfl Ao g25 (sd 1 rfl (ed rfl (qBs Ak [e24] rfl rfl rfl Ao (?_)))))
     obtain ⟨g26,h⟩:=An h
     exact ed rfl (qA Ak y11 [e24] rfl rfl (AE Ao [e24]) rfl g26 (sd 1 rfl (Ea (hK17 _ (rg (sp 3 rfl (evn (hN _ _ h (okr rfl)))))))))
    ·exact qF rfl g16 (Aj (kXB2 (Option.some.inj h) _ (okr rfl)))
   ·exact qF rfl g11 (Aj (kXB1 (Option.some.inj h) _ (okr rfl)))
def EX (a0 : List Int) (rec : Int -> Option (Sum (Unit) (Bool))) (y1 : Int) : Option (Sum (Unit) (Bool)):=cond (decide (y1 < (List.length a0 : Int))) (Ad (AA a0 y1) fun e5 => Ad (BN e5 0 (IntKind.i64.wrap ((List.length a0 : Int) - 1))) fun v7 => cond (!v7) (some (.inr false)) (chk ((0 : Int) <= 0 ∧ 0 <= y1 ∧ y1 <= (List.length a0 : Int)) (Ad (AA a0 y1) fun e11 => Ad (Fa (Cq a0 0 y1) e11) fun v13 => cond (decide (0 <= v13)) (some (.inr false)) (rec (IntKind.i64.wrap (y1 + 1)))))) (some (.inl ()))
def DO (a0 : List Int) : Option (Bool):=Ad (Ah (EX a0) fz 0) fun o1 => (match o1 with
  | .inl _ => (some (decide ((List.length a0 : Int) <= 5)))
  | .inr r => some r)
theorem Ir {a0 : List Int} {r : Bool} (h : DO a0 = some r) : Ag Tryz.prog 78 [dL Ak a0] (.bool r):=by
 unfold DO at h
 refine st iZ rfl (rn 1 rfl (Ac fun K1 hK1 => rn 1 rfl ?_))
 obtain ⟨o1,hl,hr1⟩:=Aa h
 have kXB1 : (.inl ()) = o1 -> Jn K1 [(0,dL Ak a0)]:=by
  intro h σ' hk
  subst h
  replace h:=hr1
  try dsimp only at h
  exact hK1 _ (lh hk rfl (rn 1 rfl (Af ((by cases h; exact ⟨.inl rfl,rfl⟩)))))
 refine Aq (fun (y1 : Int) => [(0,dL Ak a0),(3,nI y1)]) _ _ _ _ hl (okr rfl) (fun _ => rfl) ?_
 rintro m y1 N h hN
 unfold EX at h
 refine Ac fun K2 hK2 => rn 1 rfl ?_
 rcases Ab h with ⟨g3,h⟩ | ⟨g3,h⟩
 ·refine qT rfl g3 (Ae (hK2 _ (Ac fun K4 hK4 => Ap (rd (by kernel_rfl) (sd 2 rfl (?_))))))
  obtain ⟨e5,g6,h⟩:=Aa h
  refine ed rfl (qI rfl Ao g6 (sd 4 rfl (?_)))
  obtain ⟨v7,g8,h⟩:=Aa h
  refine ed rfl (qC (qs rfl (qs rfl (qs rfl Aw))) (Bv g8) (sd 2 rfl (?_)))
  rcases Ab h with ⟨g9,h⟩ | ⟨g9,h⟩
  ·exact qgd 19 g9 rfl (sd 10 rfl (Ea (qT rfl rfl (rn 1 rfl (Af ((by cases h; cases hr1; exact ⟨.inl rfl,rfl⟩)))))))
  ·refine qgd 19 g9 rfl (sd 2 rfl (?_))
   obtain ⟨g10,h⟩:=An h
   refine ed rfl (oGR rfl rfl (qSl rfl Ao g10 (sd 2 rfl (?_))))
   obtain ⟨e11,g12,h⟩:=Aa h
   refine ed rfl (oGR rfl rfl (qI rfl Ao g12 (sd 1 rfl (?_))))
   obtain ⟨v13,g14,h⟩:=Aa h
   refine ed rfl (oGR rfl rfl (qC (qa rfl (erD Al _) (qs rfl Aw)) (GF g14) (sd 2 rfl (Ea (qk [0,3,29] rfl ?_)))))
   rcases Ab h with ⟨g15,h⟩ | ⟨g15,h⟩
   ·exact qT rfl g15 (rn 1 rfl (Af ((by cases h; cases hr1; exact ⟨.inl rfl,rfl⟩))))
   ·exact qF rfl g15 (Ae (hK4 _ (rg (sp 3 rfl (evn (hN _ _ h (okr rfl)))))))
 ·exact qF rfl g3 (Aj (kXB1 (Option.some.inj h) _ (okr rfl)))
def CP (x2 : Bool) : Option (Bool):=some x2
def El (a0 : Y41) (a1 : List Int) : Option (Bool):=Ad (Bo a0) fun v3 => cond v3 (cond ((List.length a1 : Int) == a0.1) (Ad (DO a1) fun v7 => CP v7) (CP false)) (CP false)
theorem IX {a0 : Y41} {a1 : List Int} {r : Bool} (h : El a0 a1 = some r) : Ag Tryz.prog 43 [.agg (Bz a0),dL Ak a1] (.bool r):=by
 unfold El at h
 refine st im rfl (rn 1 rfl (rk fun K1 hK1 => ?_))
 have kJ1 : ∀ {x2 : Bool},CP x2 = some r -> Jn K1 [(4,.bool x2)]:=by
  intro x2 h σ' hk
  unfold CP at h
  exact hK1 _ (lh hk rfl (Af ((by cases h; exact ⟨.inl rfl,rfl⟩))))
 refine sp 1 rfl (?_)
 obtain ⟨v3,g4,h⟩:=Aa h
 refine qC (qa rfl (erg (erc rfl (erc (erD Ce _) (erc (erD Al _) rfl)))) Aw) (Dp g4) (sp 1 rfl (?_))
 rcases Ab h with ⟨g5,h⟩ | ⟨g5,h⟩
 ·refine qg 7 g5 rfl (sp 7 rfl (?_))
  rcases Ab h with ⟨g6,h⟩ | ⟨g6,h⟩
  ·refine qg 14 g6 rfl (sp 1 rfl (?_))
   obtain ⟨v7,g8,h⟩:=Aa h
   exact oGR rfl rfl (qC (qa rfl (erD Al _) Aw) (Ir g8) (sp 2 rfl (evn (kJ1 h _ (okr rfl)))))
  ·exact qg 14 g6 rfl (sp 4 rfl (evn (kJ1 h _ (okr rfl))))
 ·exact qg 7 g5 rfl (sp 11 rfl (evn (kJ1 h _ (okr rfl))))
def HN (a0 : List Int) (a1 : List Int) (rec : ((List Int) × Int) -> Option ((List Int))) (s : (List Int) × Int) : Option ((List Int)):=match s with
  | (y1,y2) => cond (decide (y2 < (List.length a1 : Int))) (Ad (AA a1 y2) fun e6 => Ad (AA a0 e6) fun e8 => chk (List.length y1 + List.length [e8] <= lim) (rec ((y1 ++ [e8]),(IntKind.i64.wrap (y2 + 1))))) (some y1)
def IZ (a0 : List Int) (a1 : List Int) : Option ((List Int)):=Ad (Ah (HN a0 a1) fz (([] : List Int),0)) fun z2 => some z2
theorem Qj {a0 : List Int} {a1 : List Int} {r : (List Int)} (h : IZ a0 a1 = some r) : Ag Tryz.prog 147 [dL Ak a0,dL Ak a1] (oL 3 Ak r):=by
 unfold IZ at h
 refine st cz rfl (rn 1 rfl (rs (qBs Ak [] rfl rfl rfl Ao (sp 1 rfl (evn (Ac fun K1 hK1 => rn 1 rfl ?_))))))
 obtain ⟨o1,hl,hr1⟩:=Aa h
 have kXB1 : ∀ {z2 : List Int},z2 = o1 -> Jn K1 [(5,oL 3 Ak z2)]:=by
  intro z2 h σ' hk
  subst h
  replace h:=hr1
  try dsimp only at h
  exact hK1 _ (lh hk rfl (rn 1 rfl (Af ((by cases h; exact ⟨.inl rfl,rfl⟩)))))
 refine Aq (fun (s : (List Int) × Int) => match s with | (y1,y2) => [(0,dL Ak a0),(1,dL Ak a1),(5,oL 3 Ak y1),(6,nI y2)]) _ _ _ _ hl (okr rfl) (fun _ => rfl) ?_
 rintro m ⟨y1,y2⟩ N h hN
 unfold HN at h
 dsimp only at h
 refine Ac fun K3 hK3 => rn 1 rfl ?_
 rcases Ab h with ⟨g4,h⟩ | ⟨g4,h⟩
 ·refine qT rfl g4 (Ae (hK3 _ (Ac fun K5 hK5 => Ap (rg (sp 4 rfl (?_))))))
  obtain ⟨e6,g7,h⟩:=Aa h
  refine qI rfl Ao g7 (sp 1 rfl (?_))
  obtain ⟨e8,g9,h⟩:=Aa h
  refine qI rfl Ao g9 (sp 1 rfl (qBs Ak [e8] rfl rfl rfl Ao (?_)))
  obtain ⟨g10,h⟩:=An h
  exact qA Ak y1 [e8] rfl rfl (AE Ao [e8]) rfl g10 (sp 1 rfl (evn (hK5 _ (rg (sp 3 rfl (evn (hN _ _ h (okr rfl))))))))
 ·exact qF rfl g4 (Aj (kXB1 (Option.some.inj h) _ (okr rfl)))
def Fw (a0 : Y57) (a1 : List Int) (rec : Int -> Option (Sum (Unit) (Y57 × Bool))) (y1 : Int) : Option (Sum (Unit) (Y57 × Bool)):=cond (decide (y1 < (List.length a1 : Int))) (Ad (AA a1 y1) fun e5 => Ad (BN e5 0 (IntKind.i64.wrap (a0.1 - 1))) fun v7 => cond (!v7) (some (.inr ((0,[]),false))) (rec (IntKind.i64.wrap (y1 + 1)))) (some (.inl ()))
def Gv (a0 : Y57) (a1 : List Int) (rec : ((List (List Int)) × Int) -> Option ((List (List Int)))) (s : (List (List Int)) × Int) : Option ((List (List Int))):=match s with
  | (y2,y3) => cond (decide (y3 < (List.length a0.2 : Int))) (Ad (AA a0.2 y3) fun e20 => Ad (IZ e20 a1) fun v22 => chk (List.length y2 + List.length [v22] <= lim) (rec ((y2 ++ [v22]),(IntKind.i64.wrap (y3 + 1))))) (some y2)
def H8 (a0 : Y57) (a1 : List Int) : Option (Y57 × Bool):=Ad (Ah (Fw a0 a1) fz 0) fun o1 => (match o1 with
  | .inl _ => (Ad (Ba a0) fun v11 => cond (!v11) (some ((0,[]),false)) (cond (decide (5 < (List.length a1 : Int))) (some ((0,[]),false)) (Ad (Ah (Gv a0 a1) fz (([] : List (List Int)),0)) fun z16 => Ad (DP (List.length a1 : Int) z16) fun v25 => some (v25.1,v25.2))))
  | .inr r => some r)
theorem OV {a0 : Y57} {a1 : List Int} {r : Y57 × Bool} (h : H8 a0 a1 = some r) : Ag Tryz.prog 114 [.agg (Io a0),dL Ak a1] (.tup [.agg (ID r.1),.bool r.2]):=by
 unfold H8 at h
 refine st bP rfl (rn 1 rfl (Ac fun K1 hK1 => rn 1 rfl ?_))
 obtain ⟨o1,hl,hr1⟩:=Aa h
 have kXB1 : (.inl ()) = o1 -> Jn K1 [(1,dL Ak a1),(2,.box [nI a0.1,dL AL a0.2]),(4,.box [nI 0,oL 26 As []])]:=by
  intro h σ' hk
  subst h
  replace h:=hr1
  try dsimp only at h
  refine hK1 _ (lh hk rfl (Ac fun K10 hK10 => rs (sp 1 rfl (?_))))
  obtain ⟨v11,g12,h⟩:=Aa h
  refine qC (qa rfl (erg (erc rfl (erc (erD Bc _) rfl))) Aw) (Dd g12) (sp 2 rfl (?_))
  rcases Ab h with ⟨g13,h⟩ | ⟨g13,h⟩
  ·exact qg 30 g13 rfl (sp 4 rfl (evn (qT rfl rfl (rn 1 rfl (Af ((by cases h; exact ⟨.inl rfl,rfl⟩)))))))
  ·refine qg 30 g13 rfl (sp 4 rfl (evn ?_))
   rcases Ab h with ⟨g14,h⟩ | ⟨g14,h⟩
   ·exact qT rfl g14 (rn 1 rfl (Af ((by cases h; exact ⟨.inl rfl,rfl⟩))))
   ·refine qF rfl g14 (Ae (hK10 _ (rs (qBs As [] rfl rfl rfl Cf (sp 1 rfl (evn (Ac fun K15 hK15 => rn 1 rfl (qk [1,2,4,7,8] rfl ?_))))))))
    obtain ⟨o2,hl,hr2⟩:=Aa h
    have kXB2 : ∀ {z16 : List (List Int)},z16 = o2 -> Jn K15 [(1,dL Ak a1),(4,.box [nI 0,oL 26 As []]),(7,oL 26 As z16)]:=by
     intro z16 h σ' hk
     subst h
     replace h:=hr2
     try dsimp only at h
     refine hK15 _ (lh hk rfl (rs (sp 3 rfl (?_))))
     obtain ⟨v25,g26,h⟩:=Aa h
     exact qC (qs rfl (qa rfl (erD I4 _) Aw)) (Hu g26) (sp 6 rfl (evn (rn 1 rfl (Af ((by cases h; exact ⟨.inl rfl,rfl⟩))))))
    refine Aq (fun (s : (List (List Int)) × Int) => match s with | (y2,y3) => [(1,dL Ak a1),(2,.box [nI a0.1,dL AL a0.2]),(4,.box [nI 0,oL 26 As []]),(7,oL 26 As y2),(8,nI y3)]) _ _ _ _ hl (okr rfl) (fun _ => rfl) ?_
    rintro m ⟨y2,y3⟩ N h hN
    unfold Gv at h
    dsimp only at h
    refine Ac fun K17 hK17 => rn 1 rfl ?_
    rcases Ab h with ⟨g18,h⟩ | ⟨g18,h⟩
    ·refine qT rfl g18 (Ae (hK17 _ (Ac fun K19 hK19 => Ap (rg (sp 4 rfl (?_))))))
     obtain ⟨e20,g21,h⟩:=Aa h
     refine qI rfl AY g21 (sp 2 rfl (?_))
     obtain ⟨v22,g23,h⟩:=Aa h
     refine qC (qa rfl (erD Al _) (qa rfl (erD Al _) Aw)) (Qj g23) (qBs As [v22] rfl rfl rfl Cf (?_))
     obtain ⟨g24,h⟩:=An h
     exact qA As y2 [v22] rfl rfl (AE Cf [v22]) rfl g24 (sp 1 rfl (evn (hK19 _ (rg (sp 3 rfl (evn (hN _ _ h (okr rfl))))))))
    ·exact qF rfl g18 (Aj (kXB2 (Option.some.inj h) _ (okr rfl)))
 refine Aq (fun (y1 : Int) => [(1,dL Ak a1),(2,.box [nI a0.1,dL AL a0.2]),(4,.box [nI 0,oL 26 As []]),(6,nI y1)]) _ _ _ _ hl (okr rfl) (fun _ => rfl) ?_
 rintro m y1 N h hN
 unfold Fw at h
 refine Ac fun K2 hK2 => rn 1 rfl ?_
 rcases Ab h with ⟨g3,h⟩ | ⟨g3,h⟩
 ·refine qT rfl g3 (Ae (hK2 _ (Ac fun K4 hK4 => Ap (rd (by kernel_rfl) (sd 2 rfl (?_))))))
  obtain ⟨e5,g6,h⟩:=Aa h
  refine ed rfl (qI rfl Ao g6 (sd 4 rfl (?_)))
  obtain ⟨v7,g8,h⟩:=Aa h
  refine ed rfl (qC (qs rfl (qs rfl (qs rfl Aw))) (Bv g8) (sd 1 rfl (Ea ?_)))
  rcases Ab h with ⟨g9,h⟩ | ⟨g9,h⟩
  ·exact qT rfl g9 (rn 1 rfl (Af ((by cases h; cases hr1; exact ⟨.inl rfl,rfl⟩))))
  ·exact qF rfl g9 (Ae (hK4 _ (rg (sp 3 rfl (evn (hN _ _ h (okr rfl)))))))
 ·exact qF rfl g3 (Aj (kXB1 (Option.some.inj h) _ (okr rfl)))
def BC (x : Y57) : List V:=[nI x.1,dL AL x.2]
theorem Ns (x : Y57) : (BC x).length = 2:=rfl
theorem PC (x : Y57) : erL (BC x) = BC x:=(erc rfl (erc (erD Bc _) rfl))
def GH (x : Y57) : List V:=[nI x.1,oL 26 As x.2]
theorem KN (x : Y57) : (GH x).length = 2:=rfl
theorem Nd (x : Y57) : erL (GH x) = BC x:=(erc rfl (erc (erO I4 _) rfl))
def GX (a0 : Y57) (a1 : List Int) : Option (Y57 × Bool):=Ad (DO a1) fun v2 => cond (!v2) (some ((0,[]),false)) (cond ((List.length a1 : Int) != a0.1) (some ((0,[]),false)) (Ad (H8 a0 a1) fun v6 => cond (!v6.2) (some ((0,[]),false)) (some (v6.1,true))))
theorem M8 {a0 : Y57} {a1 : List Int} {r : Y57 × Bool} (h : GX a0 a1 = some r) : Ag Tryz.prog 66 [.agg (Io a0),dL Ak a1] (.tup [.agg (GH r.1),.bool r.2]):=by
 unfold GX at h
 refine st iN rfl (rn 1 rfl (Ac fun K1 hK1 => rs (sp 1 rfl (?_))))
 obtain ⟨v2,g3,h⟩:=Aa h
 refine qC (qa rfl (erD Al _) Aw) (Ir g3) (sp 2 rfl (?_))
 rcases Ab h with ⟨g4,h⟩ | ⟨g4,h⟩
 ·exact qg 11 g4 rfl (sp 6 rfl (evn (qT rfl rfl (rn 1 rfl (Af ((by cases h; exact ⟨.inl rfl,rfl⟩)))))))
 ·refine qg 11 g4 rfl (sp 6 rfl (evn ?_))
  rcases Ab h with ⟨g5,h⟩ | ⟨g5,h⟩
  ·exact qT rfl g5 (rn 1 rfl (Af ((by cases h; exact ⟨.inl rfl,rfl⟩))))
  ·refine qF rfl g5 (Ae (hK1 _ (qk [1,2,4] rfl (rs (sp 2 rfl (?_))))))
   obtain ⟨v6,g7,h⟩:=Aa h
   refine qC (qa rfl (erg (erc rfl (erc (erD Bc _) rfl))) (qa rfl (erD Al _) Aw)) (OV g7) (sp 6 rfl (evn (Ac fun K8 hK8 => rn 1 rfl ?_)))
   rcases Ab h with ⟨g9,h⟩ | ⟨g9,h⟩
   ·exact qT rfl g9 (rn 1 rfl (Af ((by cases h; exact ⟨.inl rfl,rfl⟩))))
   ·exact qF rfl g9 (Ae (hK8 _ (rn 1 rfl (Af ((by cases h; exact ⟨.inl rfl,rfl⟩))))))
def BJ (rec : ((List Int) × Int) -> Option ((List Int))) (y2 : Int) (x14 : List Int) : Option ((List Int)):=rec (x14,(IntKind.i64.wrap (y2 + 1)))
def BI (rec : ((List Int) × Int) -> Option ((List Int))) (y1 : List Int) (y2 : Int) (v10 : Int) (x13 : Bool) : Option ((List Int)):=cond x13 (chk (List.length y1 + List.length [v10] <= lim) (BJ rec y2 (y1 ++ [v10]))) (BJ rec y2 y1)
def Bf (a1 : List Int) (v1 : (List Int)) (rec : ((List Int) × Int) -> Option ((List Int))) (s : (List Int) × Int) : Option ((List Int)):=match s with
  | (y1,y2) => cond (decide (y2 < (List.length a1 : Int))) (Ad (AA a1 y2) fun e8 => Ad (Fa v1 e8) fun v10 => cond (decide (0 <= v10)) (Ad (Fa y1 v10) fun v18 => BI rec y1 y2 v10 (decide (v18 < 0))) (BI rec y1 y2 v10 false)) (some y1)
def DW (a0 : Y78) (a1 : List Int) : Option ((List Int)):=Ad (DL a0) fun v1 => Ad (Ah (Bf a1 v1) fz (([] : List Int),0)) fun z4 => some z4
theorem Kg {a0 : Y78} {a1 : List Int} {r : (List Int)} (h : DW a0 a1 = some r) : Ag Tryz.prog 67 [.agg (BM a0),dL Ak a1] (oL 3 Ak r):=by
 unfold DW at h
 refine st iO rfl (rn 1 rfl (rs (sp 1 rfl (?_))))
 obtain ⟨v1,g2,h⟩:=Aa h
 refine qC (qa rfl (erg (erc rfl (erc (erD Al _) rfl))) Aw) (Iq g2) (sp 1 rfl (evn (rs (qBs Ak [] rfl rfl rfl Ao (sp 1 rfl (evn (Ac fun K3 hK3 => rn 1 rfl ?_)))))))
 obtain ⟨o1,hl,hr1⟩:=Aa h
 have kXB1 : ∀ {z4 : List Int},z4 = o1 -> Jn K3 [(6,oL 3 Ak z4)]:=by
  intro z4 h σ' hk
  subst h
  replace h:=hr1
  try dsimp only at h
  exact hK3 _ (lh hk rfl (rn 1 rfl (Af ((by cases h; exact ⟨.inl rfl,rfl⟩)))))
 refine Aq (fun (s : (List Int) × Int) => match s with | (y1,y2) => [(1,dL Ak a1),(5,oL 3 Ak v1),(6,oL 3 Ak y1),(7,nI y2)]) _ _ _ _ hl (okr rfl) (fun _ => rfl) ?_
 rintro m ⟨y1,y2⟩ N h hN
 unfold Bf at h
 dsimp only at h
 refine Ac fun K5 hK5 => rn 1 rfl ?_
 rcases Ab h with ⟨g6,h⟩ | ⟨g6,h⟩
 ·refine qT rfl g6 (Ae (hK5 _ (Ac fun K7 hK7 => Ap (rs (sp 3 rfl (?_))))))
  obtain ⟨e8,g9,h⟩:=Aa h
  refine qI rfl Ao g9 (sp 1 rfl (?_))
  obtain ⟨v10,g11,h⟩:=Aa h
  refine qC (qa rfl (erD Al _) (qs rfl Aw)) (GF g11) (sp 1 rfl (evn (rk fun K12 hK12 => ?_)))
  have kJ2 : ∀ {x13 : Bool},BI (Ah (Bf a1 v1) m) y1 y2 v10 x13 = some o1 -> Jn K12 [(1,dL Ak a1),(5,oL 3 Ak v1),(6,oL 3 Ak y1),(7,nI y2),(8,nI v10),(31,.bool x13)]:=by
   intro x13 h σ' hk
   unfold BI at h
   refine hK12 _ (lh hk rfl ?_)
   have kJ3 : ∀ {x14 : List Int},BJ (Ah (Bf a1 v1) m) y2 x14 = some o1 -> Jn K7 [(1,dL Ak a1),(5,oL 3 Ak v1),(6,oL 3 Ak x14),(7,nI y2)]:=by
    intro x14 h σ' hk
    unfold BJ at h
    exact hK7 _ (lh hk rfl (rg (sp 3 rfl (evn (hN _ _ h (okr rfl))))))
   rcases Ab h with ⟨g15,h⟩ | ⟨g15,h⟩
   ·refine qT rfl g15 (rg (sp 2 rfl (qBs Ak [v10] rfl rfl rfl Ao (?_))))
    obtain ⟨g16,h⟩:=An h
    exact qA Ak y1 [v10] rfl rfl (AE Ao [v10]) rfl g16 (sp 1 rfl (evn (kJ3 h _ (okr rfl))))
   ·exact qF rfl g15 (Ae (kJ3 h _ (okr rfl)))
  refine sp 3 rfl (?_)
  rcases Ab h with ⟨g17,h⟩ | ⟨g17,h⟩
  ·refine qg 26 g17 rfl (sp 2 rfl (?_))
   obtain ⟨v18,g19,h⟩:=Aa h
   exact oGR rfl rfl (qC (qa rfl (erD Al _) (qs rfl Aw)) (GF g19) (sp 2 rfl (evn (kJ2 h _ (okr rfl)))))
  ·exact qg 26 g17 rfl (sp 5 rfl (evn (kJ2 h _ (okr rfl))))
 ·exact qF rfl g6 (Aj (kXB1 (Option.some.inj h) _ (okr rfl)))
def EW (a0 : List Y96) (a1 : Y41) (a2 : List Int) (rec : ((List Y57) × Int) -> Option (Sum ((List Y57)) ((List Y57) × Bool))) (s : (List Y57) × Int) : Option (Sum ((List Y57)) ((List Y57) × Bool)):=match s with
  | (y1,y2) => cond (decide (y2 < (List.length a1.2.1 : Int))) (Ad (AA a1.2.1 y2) fun e13 => Ad (Ek a0 e13) fun v15 => Ad (AA a1.2.1 y2) fun e17 => Ad (DW e17 a2) fun v19 => Ad (GX v15 v19) fun v21 => cond (!v21.2) (some (.inr (([] : List Y57),false))) (chk (List.length y1 + List.length [v21.1] <= lim) (rec ((y1 ++ [v21.1]),(IntKind.i64.wrap (y2 + 1)))))) (some (.inl y1))
def Gu (a0 : List Y96) (a1 : Y41) (a2 : List Int) : Option ((List Y57) × Bool):=Ad (Fu a0 a1) fun v2 => cond (!v2) (some (([] : List Y57),false)) (Ad (El a1 a2) fun v5 => cond (!v5) (some (([] : List Y57),false)) (Ad (Ah (EW a0 a1 a2) fz (([] : List Y57),0)) fun o1 => (match o1 with
  | .inl z9 => (some (z9,true))
  | .inr r => some r)))
theorem MK {a0 : List Y96} {a1 : Y41} {a2 : List Int} {r : (List Y57) × Bool} (h : Gu a0 a1 a2 = some r) : Ag Tryz.prog 37 [.agg [dL BY a0],.agg (Bz a1),dL Ak a2] (.tup [oL 111 GH r.1,.bool r.2]):=by
 unfold Gu at h
 refine st ie rfl (rn 1 rfl (rs (qBs GH [] rfl rfl rfl KN (sp 1 rfl (evn (Ac fun K1 hK1 => rs (sp 2 rfl (?_))))))))
 obtain ⟨v2,g3,h⟩:=Aa h
 refine qC (qa rfl (erg (erc (erD D1 _) rfl)) (qa rfl (erg (erc rfl (erc (erD Ce _) (erc (erD Al _) rfl)))) Aw)) (JE g3) (sp 2 rfl (?_))
 rcases Ab h with ⟨g4,h⟩ | ⟨g4,h⟩
 ·exact qg 17 g4 rfl (sp 5 rfl (evn (qT rfl rfl (rn 1 rfl (Af ((by cases h; exact ⟨.inl rfl,rfl⟩)))))))
 ·refine qg 17 g4 rfl (sp 2 rfl (?_))
  obtain ⟨v5,g6,h⟩:=Aa h
  refine oGR rfl rfl (qC (qa rfl (erg (erc rfl (erc (erD Ce _) (erc (erD Al _) rfl)))) (qa rfl (erD Al _) Aw)) (IX g6) (sp 2 rfl (evn ?_)))
  rcases Ab h with ⟨g7,h⟩ | ⟨g7,h⟩
  ·exact qT rfl g7 (rn 1 rfl (Af ((by cases h; exact ⟨.inl rfl,rfl⟩))))
  ·refine qF rfl g7 (Ae (hK1 _ (qk [2,3,4,8] rfl (Ac fun K8 hK8 => rn 1 rfl ?_))))
   obtain ⟨o1,hl,hr1⟩:=Aa h
   have kXB1 : ∀ {z9 : List Y57},(.inl z9) = o1 -> Jn K8 [(8,oL 111 GH z9)]:=by
    intro z9 h σ' hk
    subst h
    replace h:=hr1
    try dsimp only at h
    exact hK8 _ (lh hk rfl (rn 1 rfl (Af ((by cases h; exact ⟨.inl rfl,rfl⟩)))))
   refine Aq (fun (s : (List Y57) × Int) => match s with | (y1,y2) => [(2,dL Ak a2),(3,.box [dL BY a0]),(4,.box [nI a1.1,dL BM a1.2.1,dL Ak a1.2.2]),(8,oL 111 GH y1),(9,nI y2)]) _ _ _ _ hl (okr rfl) (fun _ => rfl) ?_
   rintro m ⟨y1,y2⟩ N h hN
   unfold EW at h
   dsimp only at h
   refine Ac fun K10 hK10 => rn 1 rfl ?_
   rcases Ab h with ⟨g11,h⟩ | ⟨g11,h⟩
   ·refine qT rfl g11 (Ae (hK10 _ (Ac fun K12 hK12 => Ap (rd (by kernel_rfl) (sd 4 rfl (?_))))))
    obtain ⟨e13,g14,h⟩:=Aa h
    refine ed rfl (qI rfl G3 g14 (sd 1 rfl (?_)))
    obtain ⟨v15,g16,h⟩:=Aa h
    refine ed rfl (qC (qa rfl (erg (erc (erD D1 _) rfl)) (qa rfl (erg (erc rfl (erc (erD Al _) rfl))) Aw)) (IW g16) (sd 3 rfl (?_)))
    obtain ⟨e17,g18,h⟩:=Aa h
    refine ed rfl (qI rfl G3 g18 (sd 2 rfl (?_)))
    obtain ⟨v19,g20,h⟩:=Aa h
    refine ed rfl (qC (qa rfl (erg (erc rfl (erc (erD Al _) rfl))) (qa rfl (erD Al _) Aw)) (Kg g20) (?_))
    obtain ⟨v21,g22,h⟩:=Aa h
    refine ed rfl (qC (qa rfl (erg (erc rfl (erc (erO I4 _) rfl))) (qa rfl (erO Al _) Aw)) (M8 g22) (sd 6 rfl (Ea (Ac fun K23 hK23 => rn 1 rfl (qk [2,3,4,8,9,10,50] rfl ?_)))))
    rcases Ab h with ⟨g24,h⟩ | ⟨g24,h⟩
    ·exact qT rfl g24 (rs (qBs GH [] rfl rfl rfl KN (sp 2 rfl (evn (Af ((by cases h; cases hr1; exact ⟨.inl rfl,rfl⟩)))))))
    ·refine qF rfl g24 (Ae (hK23 _ (rg (sp 2 rfl (qBs GH [v21.1] rfl rfl rfl KN (?_))))))
     obtain ⟨g25,h⟩:=An h
     exact qA GH y1 [v21.1] rfl rfl (AE KN [v21.1]) rfl g25 (sp 1 rfl (evn (hK12 _ (rg (sp 3 rfl (evn (hN _ _ h (okr rfl))))))))
   ·exact qF rfl g11 (Aj (kXB1 (Option.some.inj h) _ (okr rfl)))
def FU (a0 : List Y57) (rec : Int -> Option (Sum (Unit) (Bool))) (y1 : Int) : Option (Sum (Unit) (Bool)):=cond (decide (y1 < (List.length a0 : Int))) (Ad (AA a0 y1) fun e5 => cond ((List.length e5.2 : Int) == 0) (some (.inr true)) (rec (IntKind.i64.wrap (y1 + 1)))) (some (.inl ()))
def Hx (a0 : List Y57) : Option (Bool):=Ad (Ah (FU a0) fz 0) fun o1 => (match o1 with
  | .inl _ => (some false)
  | .inr r => some r)
theorem Ok {a0 : List Y57} {r : Bool} (h : Hx a0 = some r) : Ag Tryz.prog 38 [dL BC a0] (.bool r):=by
 unfold Hx at h
 refine st ig rfl (rn 1 rfl (Ac fun K1 hK1 => rn 1 rfl ?_))
 obtain ⟨o1,hl,hr1⟩:=Aa h
 have kXB1 : (.inl ()) = o1 -> Jn K1 []:=by
  intro h σ' hk
  subst h
  replace h:=hr1
  try dsimp only at h
  exact hK1 _ (lh hk rfl (rn 1 rfl (Af ((by cases h; exact ⟨.inl rfl,rfl⟩)))))
 refine Aq (fun (y1 : Int) => [(0,dL BC a0),(3,nI y1)]) _ _ _ _ hl (okr rfl) (fun _ => rfl) ?_
 rintro m y1 N h hN
 unfold FU at h
 refine Ac fun K2 hK2 => rn 1 rfl ?_
 rcases Ab h with ⟨g3,h⟩ | ⟨g3,h⟩
 ·refine qT rfl g3 (Ae (hK2 _ (Ac fun K4 hK4 => Ap (rs (sp 2 rfl (?_))))))
  obtain ⟨e5,g6,h⟩:=Aa h
  refine qI rfl Ns g6 (sp 4 rfl (evn ?_))
  rcases Ab h with ⟨g7,h⟩ | ⟨g7,h⟩
  ·exact qT rfl g7 (rn 1 rfl (Af ((by cases h; cases hr1; exact ⟨.inl rfl,rfl⟩))))
  ·exact qF rfl g7 (Ae (hK4 _ (rg (sp 3 rfl (evn (hN _ _ h (okr rfl)))))))
 ·exact qF rfl g3 (Aj (kXB1 (Option.some.inj h) _ trivial))
def Bn (rec : ((List Int) × Int) -> Option ((List Int))) (y2 : Int) (x13 : List Int) : Option ((List Int)):=rec (x13,(IntKind.i64.wrap (y2 + 1)))
def Bm (a0 : Y41) (a1 : Int) (rec : ((List Int) × Int) -> Option ((List Int))) (s : (List Int) × Int) : Option ((List Int)):=match s with
  | (y1,y2) => cond (decide (y2 < (List.length a0.2.1 : Int))) (Ad (Bo a0) fun v5 => cond v5 (Ad (AA a0.2.1 y2) fun e9 => Ad (AQ e9 a1) fun v11 => cond v11 (chk (List.length y1 + List.length [y2] <= lim) (Bn rec y2 (y1 ++ [y2]))) (Bn rec y2 y1)) (some y1)) (some y1)
def Da (a0 : Y41) (a1 : Int) : Option ((List Int)):=Ad (Ah (Bm a0 a1) fz (([] : List Int),0)) fun z2 => some z2
theorem JC {a0 : Y41} {a1 : Int} {r : (List Int)} (h : Da a0 a1 = some r) : Ag Tryz.prog 115 [.agg (Bz a0),nI a1] (oL 3 Ak r):=by
 unfold Da at h
 refine st bQ rfl (rn 1 rfl (rs (qBs Ak [] rfl rfl rfl Ao (sp 1 rfl (evn (Ac fun K1 hK1 => rn 1 rfl ?_))))))
 obtain ⟨o1,hl,hr1⟩:=Aa h
 have kXB1 : ∀ {z2 : List Int},z2 = o1 -> Jn K1 [(5,oL 3 Ak z2)]:=by
  intro z2 h σ' hk
  subst h
  replace h:=hr1
  try dsimp only at h
  exact hK1 _ (lh hk rfl (rn 1 rfl (Af ((by cases h; exact ⟨.inl rfl,rfl⟩)))))
 refine Aq (fun (s : (List Int) × Int) => match s with | (y1,y2) => [(1,nI a1),(2,.box [nI a0.1,dL BM a0.2.1,dL Ak a0.2.2]),(5,oL 3 Ak y1),(6,nI y2)]) _ _ _ _ hl (okr rfl) (fun _ => rfl) ?_
 rintro m ⟨y1,y2⟩ N h hN
 unfold Bm at h
 dsimp only at h
 refine Ac fun K3 hK3 => rs (sp 6 rfl (?_))
 rcases Ab h with ⟨g4,h⟩ | ⟨g4,h⟩
 ·refine qg 13 g4 rfl (sp 1 rfl (?_))
  obtain ⟨v5,g6,h⟩:=Aa h
  refine oGR rfl rfl (qC (qa rfl (erg (erc rfl (erc (erD Ce _) (erc (erD Al _) rfl)))) Aw) (Dp g6) (sp 1 rfl (evn ?_)))
  rcases Ab h with ⟨g7,h⟩ | ⟨g7,h⟩
  ·refine qT rfl g7 (Ae (hK3 _ (Ac fun K8 hK8 => Ap (rs (sp 3 rfl (?_))))))
   obtain ⟨e9,g10,h⟩:=Aa h
   refine qI rfl G3 g10 (sp 2 rfl (?_))
   obtain ⟨v11,g12,h⟩:=Aa h
   refine qC (qa rfl (erg (erc rfl (erc (erD Al _) rfl))) (qs rfl Aw)) (CA g12) (evn ?_)
   have kJ2 : ∀ {x13 : List Int},Bn (Ah (Bm a0 a1) m) y2 x13 = some o1 -> Jn K8 [(1,nI a1),(2,.box [nI a0.1,dL BM a0.2.1,dL Ak a0.2.2]),(5,oL 3 Ak x13),(6,nI y2)]:=by
    intro x13 h σ' hk
    unfold Bn at h
    exact hK8 _ (lh hk rfl (rg (sp 3 rfl (evn (hN _ _ h (okr rfl))))))
   rcases Ab h with ⟨g14,h⟩ | ⟨g14,h⟩
   ·refine qT rfl g14 (rg (sp 2 rfl (qBs Ak [y2] rfl rfl rfl Ao (?_))))
    obtain ⟨g15,h⟩:=An h
    exact qA Ak y1 [y2] rfl rfl (AE Ao [y2]) rfl g15 (sp 1 rfl (evn (kJ2 h _ (okr rfl))))
   ·exact qF rfl g14 (Ae (kJ2 h _ (okr rfl)))
  ·exact qF rfl g7 (Aj (kXB1 (Option.some.inj h) _ (okr rfl)))
 ·exact qg 13 g4 rfl (sp 3 rfl (evn (qF rfl rfl (Aj (kXB1 (Option.some.inj h) _ (okr rfl))))))
def J3 (a0 : Y57) : Option (Y57):=some a0
theorem Qh {a0 : Y57} {r : Y57} (h : J3 a0 = some r) : Ag Tryz.prog 169 [.agg (BC a0)] (.agg (Io r)):=by
 unfold J3 at h
 exact st cW rfl (rn 2 rfl (Af ((by cases h; exact ⟨.inl rfl,rfl⟩))))
def G9 (a0 : Y57) : Option (Bool):=Ad (J3 a0) fun v1 => Ad (Ba v1) fun v3 => some v3
theorem L8 {a0 : Y57} {r : Bool} (h : G9 a0 = some r) : Ag Tryz.prog 165 [.agg (BC a0)] (.bool r):=by
 unfold G9 at h
 refine st cR rfl (rn 1 rfl (rs (sp 1 rfl (?_))))
 obtain ⟨v1,g2,h⟩:=Aa h
 refine qC (qa rfl (erg (erc rfl (erc (erD Bc _) rfl))) Aw) (Qh g2) (?_)
 obtain ⟨v3,g4,h⟩:=Aa h
 exact qC (qa rfl (erg (erc rfl (erc (erD Bc _) rfl))) Aw) (Dd g4) (sp 1 rfl (evn (Af ((by cases h; exact ⟨.inl rfl,rfl⟩)))))
def AJ (a0 : Y57) (a1 : List Int) (rec : Int -> Option (Int)) (y1 : Int) : Option (Int):=cond (decide (y1 < (List.length a0.2 : Int))) (Ad (AA a0.2 y1) fun e10 => chk ((0 : Int) <= 0 ∧ 0 <= (List.length a1 : Int) ∧ (List.length a1 : Int) <= (List.length e10 : Int)) (Ad (BA (Cq e10 0 (List.length a1 : Int)) a1) fun v13 => cond (decide (v13 < 0)) (rec (IntKind.i64.wrap (y1 + 1))) (some y1))) (some y1)
def AK (a0 : Y57) (a1 : List Int) (rec : Int -> Option (Int)) (y2 : Int) : Option (Int):=cond (decide (y2 < (List.length a0.2 : Int))) (Ad (AA a0.2 y2) fun e20 => chk ((0 : Int) <= 0 ∧ 0 <= (List.length a1 : Int) ∧ (List.length a1 : Int) <= (List.length e20 : Int)) (Ad (BA (Cq e20 0 (List.length a1 : Int)) a1) fun v23 => cond (v23 == 0) (rec (IntKind.i64.wrap (y2 + 1))) (some y2))) (some y2)
def CU (a0 : Y57) (a1 : List Int) : Option (Int × Int):=Ad (G9 a0) fun v2 => cond (!v2) (some (0,0)) (cond (decide (a0.1 < (List.length a1 : Int))) (some (0,0)) (Ad (Ah (AJ a0 a1) fz 0) fun z7 => Ad (Ah (AK a0 a1) fz z7) fun z17 => some (z7,z17)))
theorem Kh {a0 : Y57} {a1 : List Int} {r : Int × Int} (h : CU a0 a1 = some r) : Ag Tryz.prog 148 [.agg (BC a0),dL Ak a1] (.tup [nI r.1,nI r.2]):=by
 unfold CU at h
 refine st cA rfl (rn 1 rfl (Ac fun K1 hK1 => rs (sp 1 rfl (?_))))
 obtain ⟨v2,g3,h⟩:=Aa h
 refine qC (qa rfl (erg (erc rfl (erc (erD Bc _) rfl))) Aw) (L8 g3) (sp 2 rfl (?_))
 rcases Ab h with ⟨g4,h⟩ | ⟨g4,h⟩
 ·exact qg 11 g4 rfl (sp 6 rfl (evn (qT rfl rfl (rn 1 rfl (Af ((by cases h; exact ⟨.inl rfl,rfl⟩)))))))
 ·refine qg 11 g4 rfl (sp 6 rfl (evn ?_))
  rcases Ab h with ⟨g5,h⟩ | ⟨g5,h⟩
  ·exact qT rfl g5 (rn 1 rfl (Af ((by cases h; exact ⟨.inl rfl,rfl⟩))))
  ·refine qF rfl g5 (Ae (hK1 _ (qk [1,2] rfl (rn 1 rfl (Ac fun K6 hK6 => ?_)))))
   obtain ⟨o1,hl,hr1⟩:=Aa h
   have kXB1 : ∀ {z7 : Int},z7 = o1 -> Jn K6 [(1,dL Ak a1),(2,.box [nI a0.1,dL AL a0.2]),(6,nI z7)]:=by
    intro z7 h σ' hk
    subst h
    replace h:=hr1
    try dsimp only at h
    refine hK6 _ (lh hk rfl (rn 1 rfl (Ac fun K16 hK16 => ?_)))
    obtain ⟨o2,hl,hr2⟩:=Aa h
    have kXB2 : ∀ {z17 : Int},z17 = o2 -> Jn K16 [(6,nI z7),(7,nI z17)]:=by
     intro z17 h σ' hk
     subst h
     replace h:=hr2
     try dsimp only at h
     exact hK16 _ (lh hk rfl (rn 1 rfl (Af ((by cases h; exact ⟨.inl rfl,rfl⟩)))))
    refine Aq (fun (y2 : Int) => [(1,dL Ak a1),(2,.box [nI a0.1,dL AL a0.2]),(6,nI z7),(7,nI y2)]) _ _ _ _ hl (okr rfl) (fun _ => rfl) ?_
    rintro m y2 N h hN
    unfold AK at h
    refine Ac fun K18 hK18 => rs (sp 6 rfl (?_))
    rcases Ab h with ⟨g19,h⟩ | ⟨g19,h⟩
    ·refine qg 44 g19 rfl (sp 3 rfl (?_))
     obtain ⟨e20,g21,h⟩:=Aa h
     refine oGR rfl rfl (qI rfl AY g21 (sp 3 rfl (?_)))
     obtain ⟨g22,h⟩:=An h
     refine oGR rfl rfl (qSl rfl Ao g22 (sp 1 rfl (?_)))
     obtain ⟨v23,g24,h⟩:=Aa h
     refine oGR rfl rfl (qC (qa rfl (erD Al _) (qa rfl (erD Al _) Aw)) (DM g24) (sp 2 rfl (evn ?_)))
     rcases Ab h with ⟨g25,h⟩ | ⟨g25,h⟩
     ·exact qT rfl g25 (Ae (hK18 _ (Ap (rg (sp 3 rfl (evn (hN _ _ h (okr rfl))))))))
     ·exact qF rfl g25 (Aj (kXB2 (Option.some.inj h) _ (okr rfl)))
    ·exact qg 44 g19 rfl (sp 12 rfl (evn (qk [1,2,6,7,56] rfl (qF rfl rfl (Aj (kXB2 (Option.some.inj h) _ (okr rfl)))))))
   refine Aq (fun (y1 : Int) => [(1,dL Ak a1),(2,.box [nI a0.1,dL AL a0.2]),(6,nI y1)]) _ _ _ _ hl (okr rfl) (fun _ => rfl) ?_
   rintro m y1 N h hN
   unfold AJ at h
   refine Ac fun K8 hK8 => rs (sp 6 rfl (?_))
   rcases Ab h with ⟨g9,h⟩ | ⟨g9,h⟩
   ·refine qg 23 g9 rfl (sp 3 rfl (?_))
    obtain ⟨e10,g11,h⟩:=Aa h
    refine oGR rfl rfl (qI rfl AY g11 (sp 3 rfl (?_)))
    obtain ⟨g12,h⟩:=An h
    refine oGR rfl rfl (qSl rfl Ao g12 (sp 1 rfl (?_)))
    obtain ⟨v13,g14,h⟩:=Aa h
    refine oGR rfl rfl (qC (qa rfl (erD Al _) (qa rfl (erD Al _) Aw)) (DM g14) (sp 2 rfl (evn ?_)))
    rcases Ab h with ⟨g15,h⟩ | ⟨g15,h⟩
    ·exact qT rfl g15 (Ae (hK8 _ (Ap (rg (sp 3 rfl (evn (hN _ _ h (okr rfl))))))))
    ·exact qF rfl g15 (Aj (kXB1 (Option.some.inj h) _ (okr rfl)))
   ·exact qg 23 g9 rfl (sp 12 rfl (evn (qk [1,2,6,35] rfl (qF rfl rfl (Aj (kXB1 (Option.some.inj h) _ (okr rfl)))))))
def CT (rec : ((List Int) × Int) -> Option ((List Int))) (y2 : Int) (x15 : List Int) : Option ((List Int)):=rec (x15,(IntKind.i64.wrap (y2 + 1)))
def BX (rec : ((List Int) × Int) -> Option ((List Int))) (y1 : List Int) (y2 : Int) (e11 : Int) (x14 : Bool) : Option ((List Int)):=cond x14 (chk (List.length y1 + List.length [e11] <= lim) (CT rec y2 (y1 ++ [e11]))) (CT rec y2 y1)
def AX (a0 : Y57) (a1 : List Int) (v1 : Int × Int) (rec : ((List Int) × Int) -> Option ((List Int))) (s : (List Int) × Int) : Option ((List Int)):=match s with
  | (y1,y2) => cond (decide (y2 < v1.2)) (cond (decide ((List.length a1 : Int) < a0.1)) (Ad (AA a0.2 y2) fun e9 => Ad (AA e9 (List.length a1 : Int)) fun e11 => cond ((List.length y1 : Int) == 0) (BX rec y1 y2 e11 true) (Ad (AA y1 (IntKind.i64.wrap ((List.length y1 : Int) - 1))) fun e19 => BX rec y1 y2 e11 (e19 != e11))) (some y1)) (some y1)
def Cn (a0 : Y57) (a1 : List Int) : Option ((List Int)):=Ad (CU a0 a1) fun v1 => Ad (Ah (AX a0 a1 v1) fz (([] : List Int),v1.1)) fun z4 => some z4
theorem Lu {a0 : Y57} {a1 : List Int} {r : (List Int)} (h : Cn a0 a1 = some r) : Ag Tryz.prog 116 [.agg (BC a0),dL Ak a1] (oL 3 Ak r):=by
 unfold Cn at h
 refine st bR rfl (rn 1 rfl (rs (qBs Ak [] rfl rfl rfl Ao (sp 1 rfl (evn (rs (sp 2 rfl (?_))))))))
 obtain ⟨v1,g2,h⟩:=Aa h
 refine qC (qa rfl (erg (erc rfl (erc (erD Bc _) rfl))) (qa rfl (erD Al _) Aw)) (Kh g2) (sp 5 rfl (evn (Ac fun K3 hK3 => rn 1 rfl ?_)))
 obtain ⟨o1,hl,hr1⟩:=Aa h
 have kXB1 : ∀ {z4 : List Int},z4 = o1 -> Jn K3 [(5,oL 3 Ak z4)]:=by
  intro z4 h σ' hk
  subst h
  replace h:=hr1
  try dsimp only at h
  exact hK3 _ (lh hk rfl (rn 1 rfl (Af ((by cases h; exact ⟨.inl rfl,rfl⟩)))))
 refine Aq (fun (s : (List Int) × Int) => match s with | (y1,y2) => [(1,dL Ak a1),(2,.box [nI a0.1,dL AL a0.2]),(5,oL 3 Ak y1),(7,nI v1.2),(8,nI y2)]) _ _ _ _ hl (okr rfl) (fun _ => rfl) ?_
 rintro m ⟨y1,y2⟩ N h hN
 unfold AX at h
 dsimp only at h
 refine Ac fun K5 hK5 => rs (sp 4 rfl (?_))
 rcases Ab h with ⟨g6,h⟩ | ⟨g6,h⟩
 ·refine qg 21 g6 rfl (sp 6 rfl (evn ?_))
  rcases Ab h with ⟨g7,h⟩ | ⟨g7,h⟩
  ·refine qT rfl g7 (Ae (hK5 _ (Ac fun K8 hK8 => Ap (rs (sp 3 rfl (?_))))))
   obtain ⟨e9,g10,h⟩:=Aa h
   refine qI rfl AY g10 (sp 3 rfl (?_))
   obtain ⟨e11,g12,h⟩:=Aa h
   refine qI rfl Ao g12 (sp 2 rfl (evn (rk fun K13 hK13 => ?_)))
   have kJ2 : ∀ {x14 : Bool},BX (Ah (AX a0 a1 v1) m) y1 y2 e11 x14 = some o1 -> Jn K13 [(1,dL Ak a1),(2,.box [nI a0.1,dL AL a0.2]),(5,oL 3 Ak y1),(7,nI v1.2),(8,nI y2),(9,nI e11),(51,.bool x14)]:=by
    intro x14 h σ' hk
    unfold BX at h
    refine hK13 _ (lh hk rfl ?_)
    have kJ3 : ∀ {x15 : List Int},CT (Ah (AX a0 a1 v1) m) y2 x15 = some o1 -> Jn K8 [(1,dL Ak a1),(2,.box [nI a0.1,dL AL a0.2]),(5,oL 3 Ak x15),(7,nI v1.2),(8,nI y2)]:=by
     intro x15 h σ' hk
     unfold CT at h
     exact hK8 _ (lh hk rfl (rg (sp 3 rfl (evn (hN _ _ h (okr rfl))))))
    rcases Ab h with ⟨g16,h⟩ | ⟨g16,h⟩
    ·refine qT rfl g16 (rg (sp 2 rfl (qBs Ak [e11] rfl rfl rfl Ao (?_))))
     obtain ⟨g17,h⟩:=An h
     exact qA Ak y1 [e11] rfl rfl (AE Ao [e11]) rfl g17 (sp 1 rfl (evn (kJ3 h _ (okr rfl))))
    ·exact qF rfl g16 (Ae (kJ3 h _ (okr rfl)))
   refine sp 4 rfl (?_)
   rcases Ab h with ⟨g18,h⟩ | ⟨g18,h⟩
   ·exact qg 42 g18 rfl (sp 9 rfl (evn (kJ2 h _ (okr rfl))))
   ·refine qg 42 g18 rfl (sp 4 rfl (?_))
    obtain ⟨e19,g20,h⟩:=Aa h
    exact oGR rfl rfl (qI rfl Ao g20 (sp 4 rfl (evn (kJ2 h _ (okr rfl)))))
  ·exact qF rfl g7 (Aj (kXB1 (Option.some.inj h) _ (okr rfl)))
 ·exact qg 21 g6 rfl (sp 6 rfl (evn (qk [1,2,5,7,8,27] rfl (qF rfl rfl (Aj (kXB1 (Option.some.inj h) _ (okr rfl)))))))
def Er (rec : ((List Int) × Int) -> Option ((List Int))) (y2 : Int) (x10 : List Int) : Option ((List Int)):=rec (x10,(IntKind.i64.wrap (y2 + 1)))
def Ds (a0 : Y78) (a1 : List Int) (a2 : List Int) (rec : ((List Int) × Int) -> Option ((List Int))) (s : (List Int) × Int) : Option ((List Int)):=match s with
  | (y1,y2) => cond (decide (y2 < (List.length a2 : Int))) (Ad (AA a1 y2) fun e6 => Ad (AQ a0 e6) fun v8 => cond v8 (Ad (AA a2 y2) fun e12 => chk (List.length y1 + List.length [e12] <= lim) (Er rec y2 (y1 ++ [e12]))) (Er rec y2 y1)) (some y1)
def G1 (a0 : Y78) (a1 : List Int) (a2 : List Int) : Option ((List Int)):=Ad (Ah (Ds a0 a1 a2) fz (([] : List Int),0)) fun z2 => some z2
theorem Nb {a0 : Y78} {a1 : List Int} {a2 : List Int} {r : (List Int)} (h : G1 a0 a1 a2 = some r) : Ag Tryz.prog 117 [.agg (BM a0),dL Ak a1,dL Ak a2] (oL 3 Ak r):=by
 unfold G1 at h
 refine st bS rfl (rn 1 rfl (rs (qBs Ak [] rfl rfl rfl Ao (sp 1 rfl (evn (Ac fun K1 hK1 => rn 1 rfl ?_))))))
 obtain ⟨o1,hl,hr1⟩:=Aa h
 have kXB1 : ∀ {z2 : List Int},z2 = o1 -> Jn K1 [(7,oL 3 Ak z2)]:=by
  intro z2 h σ' hk
  subst h
  replace h:=hr1
  try dsimp only at h
  exact hK1 _ (lh hk rfl (rn 1 rfl (Af ((by cases h; exact ⟨.inl rfl,rfl⟩)))))
 refine Aq (fun (s : (List Int) × Int) => match s with | (y1,y2) => [(1,dL Ak a1),(2,dL Ak a2),(3,.box [.str a0.1,dL Ak a0.2]),(7,oL 3 Ak y1),(8,nI y2)]) _ _ _ _ hl (okr rfl) (fun _ => rfl) ?_
 rintro m ⟨y1,y2⟩ N h hN
 unfold Ds at h
 dsimp only at h
 refine Ac fun K3 hK3 => rn 1 rfl ?_
 rcases Ab h with ⟨g4,h⟩ | ⟨g4,h⟩
 ·refine qT rfl g4 (Ae (hK3 _ (Ac fun K5 hK5 => Ap (rd (by kernel_rfl) (sd 3 rfl (?_))))))
  obtain ⟨e6,g7,h⟩:=Aa h
  refine ed rfl (qI rfl Ao g7 (sd 1 rfl (?_)))
  obtain ⟨v8,g9,h⟩:=Aa h
  refine ed rfl (qC (qa rfl (erg (erc rfl (erc (erD Al _) rfl))) (qs rfl Aw)) (CA g9) (Ea ?_))
  have kJ2 : ∀ {x10 : List Int},Er (Ah (Ds a0 a1 a2) m) y2 x10 = some o1 -> Jn K5 [(1,dL Ak a1),(2,dL Ak a2),(3,.box [.str a0.1,dL Ak a0.2]),(7,oL 3 Ak x10),(8,nI y2)]:=by
   intro x10 h σ' hk
   unfold Er at h
   exact hK5 _ (lh hk rfl (rg (sp 3 rfl (evn (hN _ _ h (okr rfl))))))
  rcases Ab h with ⟨g11,h⟩ | ⟨g11,h⟩
  ·refine qT rfl g11 (rg (sp 3 rfl (?_)))
   obtain ⟨e12,g13,h⟩:=Aa h
   refine qI rfl Ao g13 (sp 1 rfl (qBs Ak [e12] rfl rfl rfl Ao (?_)))
   obtain ⟨g14,h⟩:=An h
   exact qA Ak y1 [e12] rfl rfl (AE Ao [e12]) rfl g14 (sp 1 rfl (evn (kJ2 h _ (okr rfl))))
  ·exact qF rfl g11 (Ae (kJ2 h _ (okr rfl)))
 ·exact qF rfl g4 (Aj (kXB1 (Option.some.inj h) _ (okr rfl)))
def AU (a0 : List Int) (rec : Int -> Option (Sum (Unit) (Bool))) (y1 : Int) : Option (Sum (Unit) (Bool)):=cond (decide (y1 < (List.length a0 : Int))) (Ad (AA a0 y1) fun e5 => Ad (AA a0 (IntKind.i64.wrap (y1 - 1))) fun e7 => cond (decide (e5 <= e7)) (some (.inr false)) (rec (IntKind.i64.wrap (y1 + 1)))) (some (.inl ()))
def Cm (a0 : List Int) : Option (Bool):=Ad (Ah (AU a0) fz 1) fun o1 => (match o1 with
  | .inl _ => (some true)
  | .inr r => some r)
theorem I2 {a0 : List Int} {r : Bool} (h : Cm a0 = some r) : Ag Tryz.prog 166 [dL Ak a0] (.bool r):=by
 unfold Cm at h
 refine st cS rfl (rn 1 rfl (Ac fun K1 hK1 => rn 1 rfl ?_))
 obtain ⟨o1,hl,hr1⟩:=Aa h
 have kXB1 : (.inl ()) = o1 -> Jn K1 []:=by
  intro h σ' hk
  subst h
  replace h:=hr1
  try dsimp only at h
  exact hK1 _ (lh hk rfl (rn 1 rfl (Af ((by cases h; exact ⟨.inl rfl,rfl⟩)))))
 refine Aq (fun (y1 : Int) => [(0,dL Ak a0),(3,nI y1)]) _ _ _ _ hl (okr rfl) (fun _ => rfl) ?_
 rintro m y1 N h hN
 unfold AU at h
 refine Ac fun K2 hK2 => rn 1 rfl ?_
 rcases Ab h with ⟨g3,h⟩ | ⟨g3,h⟩
 ·refine qT rfl g3 (Ae (hK2 _ (Ac fun K4 hK4 => Ap (rd (by kernel_rfl) (sd 2 rfl (?_))))))
  obtain ⟨e5,g6,h⟩:=Aa h
  refine ed rfl (qI rfl Ao g6 (sd 4 rfl (?_)))
  obtain ⟨e7,g8,h⟩:=Aa h
  refine ed rfl (qI rfl Ao g8 (sd 2 rfl (Ea ?_)))
  rcases Ab h with ⟨g9,h⟩ | ⟨g9,h⟩
  ·exact qT rfl g9 (rn 1 rfl (Af ((by cases h; cases hr1; exact ⟨.inl rfl,rfl⟩))))
  ·exact qF rfl g9 (Ae (hK4 _ (rg (sp 3 rfl (evn (hN _ _ h (okr rfl)))))))
 ·exact qF rfl g3 (Aj (kXB1 (Option.some.inj h) _ trivial))
def G0 (a0 : List (List Int)) (rec : Int -> Option (Sum (Unit) (Bool))) (y1 : Int) : Option (Sum (Unit) (Bool)):=cond (decide (y1 < (List.length a0 : Int))) (Ad (AA a0 y1) fun e5 => Ad (Cm e5) fun v7 => cond (!v7) (some (.inr false)) (rec (IntKind.i64.wrap (y1 + 1)))) (some (.inl ()))
def IY (a0 : List (List Int)) : Option (Bool):=Ad (Ah (G0 a0) fz 0) fun o1 => (match o1 with
  | .inl _ => (some (decide (0 < (List.length a0 : Int))))
  | .inr r => some r)
theorem Qi {a0 : List (List Int)} {r : Bool} (h : IY a0 = some r) : Ag Tryz.prog 149 [dL AL a0] (.bool r):=by
 unfold IY at h
 refine st cB rfl (rn 1 rfl (Ac fun K1 hK1 => rn 1 rfl ?_))
 obtain ⟨o1,hl,hr1⟩:=Aa h
 have kXB1 : (.inl ()) = o1 -> Jn K1 [(0,dL AL a0)]:=by
  intro h σ' hk
  subst h
  replace h:=hr1
  try dsimp only at h
  exact hK1 _ (lh hk rfl (rn 1 rfl (Af ((by cases h; exact ⟨.inl rfl,rfl⟩)))))
 refine Aq (fun (y1 : Int) => [(0,dL AL a0),(3,nI y1)]) _ _ _ _ hl (okr rfl) (fun _ => rfl) ?_
 rintro m y1 N h hN
 unfold G0 at h
 refine Ac fun K2 hK2 => rn 1 rfl ?_
 rcases Ab h with ⟨g3,h⟩ | ⟨g3,h⟩
 ·refine qT rfl g3 (Ae (hK2 _ (Ac fun K4 hK4 => Ap (rs (sp 2 rfl (?_))))))
  obtain ⟨e5,g6,h⟩:=Aa h
  refine qI rfl AY g6 (sp 1 rfl (?_))
  obtain ⟨v7,g8,h⟩:=Aa h
  refine qC (qa rfl (erD Al _) Aw) (I2 g8) (sp 1 rfl (evn ?_))
  rcases Ab h with ⟨g9,h⟩ | ⟨g9,h⟩
  ·exact qT rfl g9 (rn 1 rfl (Af ((by cases h; cases hr1; exact ⟨.inl rfl,rfl⟩))))
  ·exact qF rfl g9 (Ae (hK4 _ (rg (sp 3 rfl (evn (hN _ _ h (okr rfl)))))))
 ·exact qF rfl g3 (Aj (kXB1 (Option.some.inj h) _ (okr rfl)))
def B5 (rec : (Int × Int) -> Option (Int)) (y2 : Int) (x8 : Int) : Option (Int):=rec (x8,(IntKind.i64.wrap (y2 + 1)))
def A7 (rec : (Int × Int) -> Option (Int)) (a0 : List (List Int)) (y1 : Int) (y2 : Int) (x7 : Bool) : Option (Int):=cond x7 (Ad (AA a0 y2) fun e10 => B5 rec y2 (List.length e10 : Int)) (B5 rec y2 y1)
def A6 (a0 : List (List Int)) (rec : (Int × Int) -> Option (Int)) (s : Int × Int) : Option (Int):=match s with
  | (y1,y2) => cond (decide (y2 < (List.length a0 : Int))) (cond (y2 == 0) (A7 rec a0 y1 y2 true) (Ad (AA a0 y2) fun e13 => A7 rec a0 y1 y2 (decide ((List.length e13 : Int) < y1)))) (some y1)
def ED (a0 : List (List Int)) : Option (Int):=Ad (Ah (A6 a0) fz (0,0)) fun z2 => some z2
theorem KA {a0 : List (List Int)} {r : Int} (h : ED a0 = some r) : Ag Tryz.prog 150 [dL AL a0] (nI r):=by
 unfold ED at h
 refine st cC rfl (rn 2 rfl (Ac fun K1 hK1 => rn 1 rfl ?_))
 obtain ⟨o1,hl,hr1⟩:=Aa h
 have kXB1 : ∀ {z2 : Int},z2 = o1 -> Jn K1 [(3,nI z2)]:=by
  intro z2 h σ' hk
  subst h
  replace h:=hr1
  try dsimp only at h
  exact hK1 _ (lh hk rfl (rn 1 rfl (Af ((by cases h; exact ⟨.inl rfl,rfl⟩)))))
 refine Aq (fun (s : Int × Int) => match s with | (y1,y2) => [(0,dL AL a0),(3,nI y1),(4,nI y2)]) _ _ _ _ hl (okr rfl) (fun _ => rfl) ?_
 rintro m ⟨y1,y2⟩ N h hN
 unfold A6 at h
 dsimp only at h
 refine Ac fun K3 hK3 => rn 1 rfl ?_
 rcases Ab h with ⟨g4,h⟩ | ⟨g4,h⟩
 ·refine qT rfl g4 (Ae (hK3 _ (Ac fun K5 hK5 => Ap (rk fun K6 hK6 => ?_))))
  have kJ2 : ∀ {x7 : Bool},A7 (Ah (A6 a0) m) a0 y1 y2 x7 = some o1 -> Jn K6 [(0,dL AL a0),(3,nI y1),(4,nI y2),(21,.bool x7)]:=by
   intro x7 h σ' hk
   unfold A7 at h
   refine hK6 _ (lh hk rfl ?_)
   have kJ3 : ∀ {x8 : Int},B5 (Ah (A6 a0) m) y2 x8 = some o1 -> Jn K5 [(0,dL AL a0),(3,nI x8),(4,nI y2)]:=by
    intro x8 h σ' hk
    unfold B5 at h
    exact hK5 _ (lh hk rfl (rg (sp 3 rfl (evn (hN _ _ h (okr rfl))))))
   rcases Ab h with ⟨g9,h⟩ | ⟨g9,h⟩
   ·refine qT rfl g9 (rg (sp 2 rfl (?_)))
    obtain ⟨e10,g11,h⟩:=Aa h
    exact qI rfl AY g11 (sp 3 rfl (evn (kJ3 h _ (okr rfl))))
   ·exact qF rfl g9 (Ae (kJ3 h _ (okr rfl)))
  refine sp 3 rfl (?_)
  rcases Ab h with ⟨g12,h⟩ | ⟨g12,h⟩
  ·exact qg 13 g12 rfl (sp 8 rfl (evn (kJ2 h _ (okr rfl))))
  ·refine qg 13 g12 rfl (sp 2 rfl (?_))
   obtain ⟨e13,g14,h⟩:=Aa h
   exact oGR rfl rfl (qI rfl AY g14 (sp 5 rfl (evn (kJ2 h _ (okr rfl)))))
 ·exact qF rfl g4 (Aj (kXB1 (Option.some.inj h) _ (okr rfl)))
def DQ (a0 : List (List Int)) (y2 : List Int) (y3 : Int) (rec : Int -> Option (Int)) (y5 : Int) : Option (Int):=cond (decide (0 < y5)) (Ad (AA y2 (IntKind.i64.wrap (y5 - 1))) fun e10 => Ad (AA a0 e10) fun e12 => Ad (AA e12 0) fun e14 => Ad (AA a0 y3) fun e16 => Ad (AA e16 0) fun e18 => cond (decide (e18 < e14)) (rec (IntKind.i64.wrap (y5 - 1))) (some y5)) (some y5)
def EQ (a0 : List (List Int)) (rec : ((List Int) × Int) -> Option ((List Int))) (s : (List Int) × Int) : Option ((List Int)):=match s with
  | (y2,y3) => cond (decide (y3 < (List.length a0 : Int))) (Ad (Ah (DQ a0 y2 y3) fz (List.length y2 : Int)) fun z7 => chk ((0 : Int) <= 0 ∧ 0 <= z7 ∧ z7 <= (List.length y2 : Int)) (chk (List.length ([] : List Int) + List.length (Cq y2 0 z7) <= lim) (chk (List.length (([] : List Int) ++ (Cq y2 0 z7)) + List.length [y3] <= lim) (chk ((0 : Int) <= z7 ∧ z7 <= (List.length y2 : Int) ∧ (List.length y2 : Int) <= (List.length y2 : Int)) (chk (List.length ((([] : List Int) ++ (Cq y2 0 z7)) ++ [y3]) + List.length (Cq y2 z7 (List.length y2 : Int)) <= lim) (rec ((((([] : List Int) ++ (Cq y2 0 z7)) ++ [y3]) ++ (Cq y2 z7 (List.length y2 : Int))),(IntKind.i64.wrap (y3 + 1))))))))) (some y2)
def Hw (a0 : List (List Int)) : Option ((List Int)):=Ad (Ah (EQ a0) fz (([] : List Int),0)) fun z2 => some z2
theorem Oj {a0 : List (List Int)} {r : (List Int)} (h : Hw a0 = some r) : Ag Tryz.prog 151 [dL AL a0] (oL 3 Ak r):=by
 unfold Hw at h
 refine st cD rfl (rn 1 rfl (rs (qBs Ak [] rfl rfl rfl Ao (sp 1 rfl (evn (Ac fun K1 hK1 => rn 1 rfl ?_))))))
 obtain ⟨o1,hl,hr1⟩:=Aa h
 have kXB1 : ∀ {z2 : List Int},z2 = o1 -> Jn K1 [(3,oL 3 Ak z2)]:=by
  intro z2 h σ' hk
  subst h
  replace h:=hr1
  try dsimp only at h
  exact hK1 _ (lh hk rfl (rn 1 rfl (Af ((by cases h; exact ⟨.inl rfl,rfl⟩)))))
 refine Aq (fun (s : (List Int) × Int) => match s with | (y2,y3) => [(0,dL AL a0),(3,oL 3 Ak y2),(4,nI y3)]) _ _ _ _ hl (okr rfl) (fun _ => rfl) ?_
 rintro m ⟨y2,y3⟩ N h hN
 unfold EQ at h
 dsimp only at h
 refine Ac fun K3 hK3 => rn 1 rfl ?_
 rcases Ab h with ⟨g4,h⟩ | ⟨g4,h⟩
 ·refine qT rfl g4 (Ae (hK3 _ (Ac fun K5 hK5 => Ap (rn 1 rfl (Ac fun K6 hK6 => ?_)))))
  obtain ⟨o2,hl,hr2⟩:=Aa h
  have kXB2 : ∀ {z7 : Int},z7 = o2 -> Jn K6 [(0,dL AL a0),(3,oL 3 Ak y2),(4,nI y3),(5,nI z7)]:=by
   intro z7 h σ' hk
   subst h
   replace h:=hr2
   try dsimp only at h
   refine hK6 _ (lh hk rfl (rgd (by kernel_rfl) (ed rfl (qBs Ak [] rfl rfl rfl Ao (sd 2 rfl (?_))))))
   obtain ⟨g21,h⟩:=An h
   refine ed rfl (qSl rfl Ao g21 (?_))
   obtain ⟨g22,h⟩:=An h
   refine ed rfl (qA Ak ([] : List Int) (Cq y2 0 z7) rfl rfl (AE Ao (Cq y2 0 z7)) (LU (fun _ => rfl) _) g22 (sd 1 rfl (ed rfl (qBs Ak [y3] rfl rfl rfl Ao (?_)))))
   obtain ⟨g23,h⟩:=An h
   refine ed rfl (qA Ak (([] : List Int) ++ (Cq y2 0 z7)) [y3] rfl rfl (AE Ao [y3]) rfl g23 (sd 2 rfl (?_)))
   obtain ⟨g24,h⟩:=An h
   refine ed rfl (qSl rfl Ao g24 (?_))
   obtain ⟨g25,h⟩:=An h
   exact ed rfl (qA Ak ((([] : List Int) ++ (Cq y2 0 z7)) ++ [y3]) (Cq y2 z7 (List.length y2 : Int)) rfl rfl (AE Ao (Cq y2 z7 (List.length y2 : Int))) (LU (fun _ => rfl) _) g25 (sd 1 rfl (Ea (hK5 _ (rg (sp 3 rfl (evn (hN _ _ h (okr rfl)))))))))
  refine Aq (fun (y5 : Int) => [(0,dL AL a0),(3,oL 3 Ak y2),(4,nI y3),(5,nI y5)]) _ _ _ _ hl (okr rfl) (fun _ => rfl) ?_
  rintro m y5 N h hN
  unfold DQ at h
  refine Ac fun K8 hK8 => rd (by kernel_rfl) (sd 3 rfl (?_))
  rcases Ab h with ⟨g9,h⟩ | ⟨g9,h⟩
  ·refine qgd 17 g9 rfl (sd 4 rfl (?_))
   obtain ⟨e10,g11,h⟩:=Aa h
   refine ed rfl (oGR rfl rfl (qI rfl Ao g11 (sd 1 rfl (?_))))
   obtain ⟨e12,g13,h⟩:=Aa h
   refine ed rfl (oGR rfl rfl (qI rfl AY g13 (sd 1 rfl (?_))))
   obtain ⟨e14,g15,h⟩:=Aa h
   refine ed rfl (oGR rfl rfl (qI rfl Ao g15 (sd 3 rfl (?_))))
   obtain ⟨e16,g17,h⟩:=Aa h
   refine ed rfl (oGR rfl rfl (qI rfl AY g17 (sd 1 rfl (?_))))
   obtain ⟨e18,g19,h⟩:=Aa h
   refine ed rfl (oGR rfl rfl (qI rfl Ao g19 (sd 3 rfl (Ea ?_))))
   rcases Ab h with ⟨g20,h⟩ | ⟨g20,h⟩
   ·exact qT rfl g20 (Ae (hK8 _ (Ap (rg (sp 3 rfl (evn (hN _ _ h (okr rfl))))))))
   ·exact qF rfl g20 (Aj (kXB2 (Option.some.inj h) _ (okr rfl)))
  ·exact qgd 17 g9 rfl (sd 18 rfl (Ea (qk [0,3,4,5,35] rfl (qF rfl rfl (Aj (kXB2 (Option.some.inj h) _ (okr rfl)))))))
 ·exact qF rfl g4 (Aj (kXB1 (Option.some.inj h) _ (okr rfl)))
def Ep (a0 : List Int) (a2 : Int) (rec : Int -> Option (Int)) (y1 : Int) : Option (Int):=cond (decide (y1 < (List.length a0 : Int))) (Ad (AA a0 y1) fun e5 => cond (decide (e5 < a2)) (rec (IntKind.i64.wrap (y1 + 1))) (some y1)) (some y1)
def GZ (a0 : List Int) (a1 : Int) (a2 : Int) : Option (Int):=Ad (Ah (Ep a0 a2) fz (if 0 < a1 then a1 else 0)) fun z2 => some (if (if (List.length a0 : Int) < 0 then 0 else (List.length a0 : Int)) < z2 then (if (List.length a0 : Int) < 0 then 0 else (List.length a0 : Int)) else z2)
theorem Na {a0 : List Int} {a1 : Int} {a2 : Int} {r : Int} (h : GZ a0 a1 a2 = some r) : Ag Tryz.prog 152 [dL Ak a0,nI a1,nI a2] (nI r):=by
 unfold GZ at h
 refine st cE rfl (rn 2 rfl (Ac fun K1 hK1 => ?_))
 obtain ⟨o1,hl,hr1⟩:=Aa h
 have kXB1 : ∀ {z2 : Int},z2 = o1 -> Jn K1 [(0,dL Ak a0),(7,nI z2)]:=by
  intro z2 h σ' hk
  subst h
  replace h:=hr1
  try dsimp only at h
  exact hK1 _ (lh hk rfl (rn 1 rfl (Af ((by cases h; exact ⟨.inl rfl,rfl⟩)))))
 refine Aq (fun (y1 : Int) => [(0,dL Ak a0),(2,nI a2),(7,nI y1)]) _ _ _ _ hl (okr rfl) (fun _ => rfl) ?_
 rintro m y1 N h hN
 unfold Ep at h
 refine Ac fun K3 hK3 => rs (sp 5 rfl (?_))
 rcases Ab h with ⟨g4,h⟩ | ⟨g4,h⟩
 ·refine qg 14 g4 rfl (sp 2 rfl (?_))
  obtain ⟨e5,g6,h⟩:=Aa h
  refine oGR rfl rfl (qI rfl Ao g6 (sp 4 rfl (evn ?_)))
  rcases Ab h with ⟨g7,h⟩ | ⟨g7,h⟩
  ·exact qT rfl g7 (Ae (hK3 _ (Ap (rg (sp 3 rfl (evn (hN _ _ h (okr rfl))))))))
  ·exact qF rfl g7 (Aj (kXB1 (Option.some.inj h) _ (okr rfl)))
 ·exact qg 14 g4 rfl (sp 7 rfl (evn (qF rfl rfl (Aj (kXB1 (Option.some.inj h) _ (okr rfl))))))
def Bq (rec : ((List Int) × (List Int) × Int × Int × Int) -> Option (Sum (Unit) ((List Int) × Int))) (a0 : List (List Int)) (v8 : (List Int)) (y3 : Int) (y5 : Int) (e17 : Int) (x26 : List Int) (x27 : List Int) : Option (Sum (Unit) ((List Int) × Int)):=Ad (AA x27 e17) fun e29 => Ad (AA a0 e17) fun e31 => cond (e29 == (List.length e31 : Int)) (some (.inr (x26,IntKind.i64.wrap (y5 + 1)))) (Ad (AA a0 e17) fun e34 => Ad (AA x27 e17) fun e36 => Ad (AA e34 e36) fun e38 => chk ((List.length v8 : Int) ≠ 0) (rec (x26,x27,(Int.tmod (IntKind.i64.wrap (y3 + 1)) (List.length v8 : Int)),e38,(IntKind.i64.wrap (y5 + 1)))))
def Bp (a0 : List (List Int)) (v8 : (List Int)) (rec : ((List Int) × (List Int) × Int × Int × Int) -> Option (Sum (Unit) ((List Int) × Int))) (s : (List Int) × (List Int) × Int × Int × Int) : Option (Sum (Unit) ((List Int) × Int)):=match s with
  | (y1,y2,y3,y4,y5) => Ad (AA v8 y3) fun e17 => Ad (AA a0 e17) fun e19 => Ad (AA y2 e17) fun e21 => Ad (AA e19 e21) fun e23 => cond (e23 == y4) (chk (List.length y1 + List.length [e23] <= lim) (Ad (AA y2 e17) fun e43 => Ad (AA y2 e17) fun e45 => Bq rec a0 v8 y3 y5 e17 (y1 ++ [e23]) (Ky y2 e17 (IntKind.i64.wrap (e43 + 1))))) (Ad (AA a0 e17) fun e47 => Ad (AA y2 e17) fun e49 => Ad (GZ e47 e49 y4) fun v51 => Ad (AA y2 e17) fun e53 => Bq rec a0 v8 y3 y5 e17 y1 (Ky y2 e17 v51))
def Df (a0 : List (List Int)) : Option ((List Int) × Int):=Ad (IY a0) fun v2 => cond (!v2) (some (([] : List Int),0)) (Ad (ED a0) fun v5 => cond (v5 == 0) (some (([] : List Int),0)) (Ad (Hw a0) fun v8 => chk ((0 : Int) <= (List.length a0 : Int) ∧ Int.toNat (List.length a0 : Int) <= lim) (Ad (AA v8 (IntKind.i64.wrap ((List.length v8 : Int) - 1))) fun e11 => Ad (AA a0 e11) fun e13 => Ad (AA e13 0) fun e15 => Ad (Ah (Bp a0 v8) fz (([] : List Int),(List.replicate (Int.toNat (List.length a0 : Int)) (0 : Int)),0,e15,0)) fun o1 => (match o1 with
  | .inl _ => (none)
  | .inr r => some r))))
theorem JG {a0 : List (List Int)} {r : (List Int) × Int} (h : Df a0 = some r) : Ag Tryz.prog 118 [dL AL a0] (.tup [oL 3 Ak r.1,nI r.2]):=by
 unfold Df at h
 refine st bT rfl (rn 1 rfl (rs (qBs Ak [] rfl rfl rfl Ao (sp 1 rfl (evn (Ac fun K1 hK1 => rs (sp 1 rfl (?_))))))))
 obtain ⟨v2,g3,h⟩:=Aa h
 refine qC (qa rfl (erD Bc _) Aw) (Qi g3) (sp 2 rfl (?_))
 rcases Ab h with ⟨g4,h⟩ | ⟨g4,h⟩
 ·exact qg 16 g4 rfl (sp 4 rfl (evn (qT rfl rfl (rn 1 rfl (Af ((by cases h; exact ⟨.inl rfl,rfl⟩)))))))
 ·refine qg 16 g4 rfl (sp 1 rfl (?_))
  obtain ⟨v5,g6,h⟩:=Aa h
  refine oGR rfl rfl (qC (qa rfl (erD Bc _) Aw) (KA g6) (sp 2 rfl (evn ?_)))
  rcases Ab h with ⟨g7,h⟩ | ⟨g7,h⟩
  ·exact qT rfl g7 (rn 1 rfl (Af ((by cases h; exact ⟨.inl rfl,rfl⟩))))
  ·refine qF rfl g7 (Ae (hK1 _ (qk [0,4] rfl (rs (sp 1 rfl (?_))))))
   obtain ⟨v8,g9,h⟩:=Aa h
   refine qC (qa rfl (erD Bc _) Aw) (Oj g9) (sp 1 rfl (evn (rs (sp 2 rfl (?_)))))
   obtain ⟨g10,h⟩:=An h
   refine qMu Ak (0 : Int) rfl rfl rfl rfl g10 rfl (qAu rfl rfl rfl rfl (evn (rn 1 rfl (rs (sp 5 rfl (?_))))))
   obtain ⟨e11,g12,h⟩:=Aa h
   refine qI rfl Ao g12 (sp 1 rfl (?_))
   obtain ⟨e13,g14,h⟩:=Aa h
   refine qI rfl AY g14 (sp 1 rfl (?_))
   obtain ⟨e15,g16,h⟩:=Aa h
   refine qI rfl Ao g16 (sp 2 rfl (evn (rn 1 rfl ?_)))
   obtain ⟨o1,hl,hr1⟩:=Aa h
   refine Aq (fun (s : (List Int) × (List Int) × Int × Int × Int) => match s with | (y1,y2,y3,y4,y5) => [(0,dL AL a0),(4,oL 3 Ak y1),(5,oL 3 Ak v8),(6,wL 3 Ak y2),(7,nI y3),(8,nI y4),(9,nI y5)]) _ _ _ _ hl (okr rfl) (fun _ => rfl) ?_
   rintro m ⟨y1,y2,y3,y4,y5⟩ N h hN
   unfold Bp at h
   dsimp only at h
   refine Ap (rs (sp 2 rfl (?_)))
   obtain ⟨e17,g18,h⟩:=Aa h
   refine qI rfl Ao g18 (sp 2 rfl (evn (rd (by kernel_rfl) (sd 2 rfl (?_)))))
   obtain ⟨e19,g20,h⟩:=Aa h
   refine ed rfl (qI rfl AY g20 (sd 3 rfl (?_)))
   obtain ⟨e21,g22,h⟩:=Aa h
   refine ed rfl (qIu rfl ⟨(Am g22).1,(Am g22).2.1⟩ (ed rfl (qLu 0 rfl rfl rfl Ao g22 rfl rfl rfl (?_))))
   obtain ⟨e23,g24,h⟩:=Aa h
   refine ed rfl (qI rfl Ao g24 (sd 2 rfl (Ea (rn 1 rfl (Ac fun K25 hK25 => rn 1 rfl ?_)))))
   have kJ2 : ∀ {x26 : List Int} {x27 : List Int},Bq (Ah (Bp a0 v8) m) a0 v8 y3 y5 e17 x26 x27 = some o1 -> Jn K25 [(0,dL AL a0),(4,oL 3 Ak x26),(5,oL 3 Ak v8),(6,wL 3 Ak x27),(7,nI y3),(9,nI (IntKind.i64.wrap (y5 + 1))),(10,nI e17)]:=by
    intro x26 x27 h σ' hk
    unfold Bq at h
    refine hK25 _ (lh hk rfl (Ac fun K28 hK28 => rd (by kernel_rfl) (sd 2 rfl (?_))))
    obtain ⟨e29,g30,h⟩:=Aa h
    refine ed rfl (qIu rfl ⟨(Am g30).1,(Am g30).2.1⟩ (ed rfl (qLu 0 rfl rfl rfl Ao g30 rfl rfl rfl (sd 2 rfl (?_)))))
    obtain ⟨e31,g32,h⟩:=Aa h
    refine ed rfl (qI rfl AY g32 (sd 3 rfl (Ea ?_)))
    rcases Ab h with ⟨g33,h⟩ | ⟨g33,h⟩
    ·exact qT rfl g33 (rn 1 rfl (Af ((by cases h; cases hr1; exact ⟨.inl rfl,rfl⟩))))
    ·refine qF rfl g33 (Ae (hK28 _ (rd (by kernel_rfl) (sd 2 rfl (?_)))))
     obtain ⟨e34,g35,h⟩:=Aa h
     refine ed rfl (qI rfl AY g35 (sd 3 rfl (?_)))
     obtain ⟨e36,g37,h⟩:=Aa h
     refine ed rfl (qIu rfl ⟨(Am g37).1,(Am g37).2.1⟩ (ed rfl (qLu 0 rfl rfl rfl Ao g37 rfl rfl rfl (?_))))
     obtain ⟨e38,g39,h⟩:=Aa h
     refine ed rfl (qI rfl Ao g39 (sd 2 rfl (Ea (rg (sp 4 rfl (?_))))))
     obtain ⟨g40,h⟩:=An h
     exact qB rfl ⟨rfl,g40⟩ rfl (sp 1 rfl (evn (hN _ _ h (okr rfl))))
   rcases Ab h with ⟨g41,h⟩ | ⟨g41,h⟩
   ·refine qT rfl g41 (rs (sp 2 rfl (qBs Ak [e23] rfl rfl rfl Ao (?_))))
    obtain ⟨g42,h⟩:=An h
    refine qA Ak y1 [e23] rfl rfl (AE Ao [e23]) rfl g42 (sp 1 rfl (evn (qk [0,4,5,6,7,9,10] rfl (rg (sp 4 rfl (?_))))))
    obtain ⟨e43,g44,h⟩:=Aa h
    refine qIu rfl ⟨(Am g44).1,(Am g44).2.1⟩ (qLu 0 rfl rfl rfl Ao g44 rfl rfl rfl (sp 1 rfl (?_)))
    obtain ⟨e45,g46,h⟩:=Aa h
    exact qIu rfl ⟨(Am g46).1,(Am g46).2.1⟩ (qSu (IntKind.i64.wrap (e43 + 1)) rfl rfl Ao ⟨(Am g46).1,(Am g46).2.1⟩ rfl rfl rfl rfl rfl rfl (evn (kJ2 h _ (okr rfl))))
   ·refine qF rfl g41 (rgd (by kernel_rfl) (sd 4 rfl (?_)))
    obtain ⟨e47,g48,h⟩:=Aa h
    refine ed rfl (qI rfl AY g48 (sd 3 rfl (?_)))
    obtain ⟨e49,g50,h⟩:=Aa h
    refine ed rfl (qIu rfl ⟨(Am g50).1,(Am g50).2.1⟩ (ed rfl (qLu 0 rfl rfl rfl Ao g50 rfl rfl rfl (sd 1 rfl (?_)))))
    obtain ⟨v51,g52,h⟩:=Aa h
    refine ed rfl (qC (qa rfl (erD Al _) (qs rfl (qs rfl Aw))) (Na g52) (?_))
    obtain ⟨e53,g54,h⟩:=Aa h
    exact ed rfl (qIu rfl ⟨(Am g54).1,(Am g54).2.1⟩ (ed rfl (qSu v51 rfl rfl Ao ⟨(Am g54).1,(Am g54).2.1⟩ rfl rfl rfl rfl rfl rfl (Ea (kJ2 h _ (okr rfl))))))
end Go.Proofs.YtkclaipnejgloaaGreatDoor
