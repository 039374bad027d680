/-
  Functions of the program as typed functions, printed by gen.py, and that the program's functions do what they say. No conditions.
-/
import Derived.Test.YtklcofndjkjldaaGreatKb
import Derived.Test.YtklcofndjkjldaaGreatLit2NT1
namespace Go.Proofs.YtklcofndjkjldaaGreat
open Go.RowKit
set_option linter.unusedVariables false
set_option maxRecDepth 100000
set_option maxHeartbeats 1000000
def LB (a0 : List Int) : Option (Bool):=some (decide (1048576 < (List.length a0 : Int)))
theorem Tk {a0 : List Int} {r : Bool} (h : LB a0 = some r) : Ai Tryz.prog 4 [dL cu8 a0] (.bool r):=by
 unfold LB at h
 exact st iM rfl (rn 2 rfl (Af ((by cases h; exact ⟨.inl rfl,rfl⟩))))
abbrev Y79:=(List Int) × Int × Int
def GE (a0 : List Int) (rec : (Int × Int) -> Option (Int)) (s : Int × Int) : Option (Int):=match s with
  | (y1,y2) => cond (decide (y2 < (List.length a0 : Int))) (cond (decide (y2 < 4000)) (Ad (AK a0 y2) fun e7 => rec ((WZ (IntKind.i64.wrap ((IntKind.i64.wrap ((IntKind.i64.wrap (y1 * 131)) + (IntKind.i64.wrap e7))) + 7)) 1073741823),(IntKind.i64.wrap (y2 + 1)))) (some y1)) (some y1)
def Jz (a0 : List Int) : Option (Y79):=Ad (Al (GE a0) fz ((IntKind.i64.wrap (10101 + (List.length a0 : Int))),0)) fun z2 => some (a0,0,z2)
theorem QE {a0 : List Int} {r : Y79} (h : Jz a0 = some r) : NewAt Tryz.prog 16 [aL cu8 a0] [aL cu8 r.1,nI r.2.1,nI r.2.2]:=by
 unfold Jz at h
 refine stn eD rfl rfl (rn 2 rfl (Ac fun K1 hK1 => rn 1 rfl ?_))
 obtain ⟨o1,hl,hr1⟩:=Aa h
 have kXB1 : ∀ {z2 : Int},z2 = o1 -> Jn K1 [(0,aL cu8 a0),(3,nI z2)]:=by
  intro z2 h σ' hk
  subst h
  replace h:=hr1
  try dsimp only at h
  exact hK1 _ (lh hk rfl (rn 1 rfl (Af ((by cases h; exact ⟨.inl rfl,31,rfl,rfl⟩)))))
 refine Ax (fun (s : Int × Int) => match s with | (y1,y2) => [(0,aL cu8 a0),(3,nI y1),(4,nI y2)]) _ _ _ _ hl (okr rfl) (fun _ => rfl) ?_
 rintro m ⟨y1,y2⟩ N h hN
 unfold GE at h
 dsimp only at h
 refine Ac fun K3 hK3 => rs (sp 5 rfl (?_))
 rcases Ab h with ⟨g4,h⟩ | ⟨g4,h⟩
 ·refine qg 12 g4 rfl (sp 3 rfl (evn ?_))
  rcases Ab h with ⟨g5,h⟩ | ⟨g5,h⟩
  ·refine qT rfl g5 (Ae (hK3 _ (Ac fun K6 hK6 => Au (rg (sp 4 rfl (?_))))))
   obtain ⟨e7,g8,h⟩:=Aa h
   exact qI rfl gN g8 (sp 6 rfl (evn (hK6 _ (rg (sp 3 rfl (evn (hN _ _ h (okr rfl))))))))
  ·exact qF rfl g5 (An (kXB1 (Option.some.inj h) _ (okr rfl)))
 ·exact qg 12 g4 rfl (sp 3 rfl (evn (qF rfl rfl (An (kXB1 (Option.some.inj h) _ (okr rfl))))))
def DO (a0 : List Int) (a1 : List Int) (rec : Int -> Option (Sum (Unit) (Int))) (y1 : Int) : Option (Sum (Unit) (Int)):=cond (decide (y1 < (List.length a0 : Int))) (cond (decide (y1 < (List.length a1 : Int))) (Ad (AK a0 y1) fun e7 => Ad (AK a1 y1) fun e9 => cond (decide (e7 < e9)) (some (.inr (-1))) (Ad (AK a0 y1) fun e12 => Ad (AK a1 y1) fun e14 => cond (decide (e14 < e12)) (some (.inr 1)) (rec (IntKind.i64.wrap (y1 + 1))))) (some (.inl ()))) (some (.inl ()))
def A5 (a0 : List Int) (a1 : List Int) : Option (Int):=Ad (Al (DO a0 a1) fz 0) fun o1 => (match o1 with
  | .inl _ => (cond (decide ((List.length a0 : Int) < (List.length a1 : Int))) (some (-1)) (cond (decide ((List.length a1 : Int) < (List.length a0 : Int))) (some 1) (some 0)))
  | .inr r => some r)
theorem Bu {a0 : List Int} {a1 : List Int} {r : Int} (h : A5 a0 a1 = some r) : Ai Tryz.prog 42 [dL Aq a0,dL Aq a1] (nI r):=by
 unfold A5 at h
 refine st fe rfl (rn 1 rfl (Ac fun K1 hK1 => rn 1 rfl ?_))
 obtain ⟨o1,hl,hr1⟩:=Aa h
 have kXB1 : (.inl ()) = o1 -> Jn K1 [(0,dL Aq a0),(1,dL Aq a1)]:=by
  intro h σ' hk
  subst h
  replace h:=hr1
  try dsimp only at h
  refine hK1 _ (lh hk rfl (Ac fun K17 hK17 => rn 1 rfl ?_))
  rcases Ab h with ⟨g18,h⟩ | ⟨g18,h⟩
  ·exact qT rfl g18 (rn 1 rfl (Af ((by cases h; exact ⟨.inl rfl,rfl⟩))))
  ·refine qF rfl g18 (Ae (hK17 _ (Ac fun K19 hK19 => rn 1 rfl ?_)))
   rcases Ab h with ⟨g20,h⟩ | ⟨g20,h⟩
   ·exact qT rfl g20 (rn 1 rfl (Af ((by cases h; exact ⟨.inl rfl,rfl⟩))))
   ·exact qF rfl g20 (Ae (hK19 _ (rn 1 rfl (Af ((by cases h; exact ⟨.inl rfl,rfl⟩))))))
 refine Ax (fun (y1 : Int) => [(0,dL Aq a0),(1,dL Aq a1),(5,nI y1)]) _ _ _ _ hl (okr rfl) (fun _ => rfl) ?_
 rintro m y1 N h hN
 unfold DO at h
 refine Ac fun K2 hK2 => rs (sp 5 rfl (?_))
 rcases Ab h with ⟨g3,h⟩ | ⟨g3,h⟩
 ·refine qg 10 g3 rfl (sp 5 rfl (evn ?_))
  rcases Ab h with ⟨g4,h⟩ | ⟨g4,h⟩
  ·refine qT rfl g4 (Ae (hK2 _ (Ac fun K5 hK5 => Au (Ac fun K6 hK6 => rd (by kernel_rfl) (sd 2 rfl (?_))))))
   obtain ⟨e7,g8,h⟩:=Aa h
   refine ed rfl (qI rfl AH g8 (sd 3 rfl (?_)))
   obtain ⟨e9,g10,h⟩:=Aa h
   refine ed rfl (qI rfl AH g10 (sd 2 rfl (BB ?_)))
   rcases Ab h with ⟨g11,h⟩ | ⟨g11,h⟩
   ·exact qT rfl g11 (rn 1 rfl (Af ((by cases h; cases hr1; exact ⟨.inl rfl,rfl⟩))))
   ·refine qF rfl g11 (Ae (hK6 _ (rd (by kernel_rfl) (sd 2 rfl (?_)))))
    obtain ⟨e12,g13,h⟩:=Aa h
    refine ed rfl (qI rfl AH g13 (sd 3 rfl (?_)))
    obtain ⟨e14,g15,h⟩:=Aa h
    refine ed rfl (qI rfl AH g15 (sd 2 rfl (BB (qk [0,1,5,35] rfl ?_))))
    rcases Ab h with ⟨g16,h⟩ | ⟨g16,h⟩
    ·exact qT rfl g16 (rn 1 rfl (Af ((by cases h; cases hr1; exact ⟨.inl rfl,rfl⟩))))
    ·exact qF rfl g16 (Ae (hK5 _ (rg (sp 3 rfl (evn (hN _ _ h (okr rfl)))))))
  ·exact qF rfl g4 (An (kXB1 (Option.some.inj h) _ (okr rfl)))
 ·exact qg 10 g3 rfl (sp 5 rfl (evn (qF rfl rfl (An (kXB1 (Option.some.inj h) _ (okr rfl))))))
abbrev Y32:=Int × (List (List Int))
def AG (x : List Int) : List V:=[dL Aq x]
theorem Bv (x : List Int) : (AG x).length = 1:=rfl
theorem As (x : List Int) : erL (AG x) = AG x:=(erc (erD Am _) rfl)
def ER (x : Y32) : List V:=[nI x.1,dL AG x.2]
theorem gJ (x : Y32) : (ER x).length = 2:=rfl
theorem dM (x : Y32) : erL (ER x) = ER x:=(erc rfl (erc (erD As _) rfl))
def D7 (a0 : Y32) (a1 : Y32) (rec : Int -> Option (Sum (Unit) (Bool))) (y1 : Int) : Option (Sum (Unit) (Bool)):=cond (decide (y1 < (List.length a0.2 : Int))) (Ad (AK a0.2 y1) fun e8 => Ad (AK a1.2 y1) fun e10 => Ad (A5 e8 e10) fun v12 => cond (v12 != 0) (some (.inr false)) (rec (IntKind.i64.wrap (y1 + 1)))) (some (.inl ()))
def B6 (a0 : Y32) (a1 : Y32) : Option (Bool):=cond (a0.1 != a1.1) (some false) (cond ((List.length a0.2 : Int) != (List.length a1.2 : Int)) (some false) (Ad (Al (D7 a0 a1) fz 0) fun o1 => (match o1 with
  | .inl _ => (some true)
  | .inr r => some r)))
theorem Gl {a0 : Y32} {a1 : Y32} {r : Bool} (h : B6 a0 a1 = some r) : Ai Tryz.prog 15 [.agg (ER a0),.agg (ER a1)] (.bool r):=by
 unfold B6 at h
 refine st eC rfl (rn 1 rfl (Ac fun K1 hK1 => rs (sp 6 rfl (?_))))
 rcases Ab h with ⟨g2,h⟩ | ⟨g2,h⟩
 ·exact qg 11 g2 rfl (sp 8 rfl (evn (qT rfl rfl (rn 1 rfl (Af ((by cases h; exact ⟨.inl rfl,rfl⟩)))))))
 ·refine qg 11 g2 rfl (sp 8 rfl (evn ?_))
  rcases Ab h with ⟨g3,h⟩ | ⟨g3,h⟩
  ·exact qT rfl g3 (rn 1 rfl (qk [4] rfl (Af ((by cases h; exact ⟨.inl rfl,rfl⟩)))))
  ·refine qF rfl g3 (Ae (hK1 _ (Ac fun K4 hK4 => rn 1 rfl ?_)))
   obtain ⟨o1,hl,hr1⟩:=Aa h
   have kXB1 : (.inl ()) = o1 -> Jn K4 []:=by
    intro h σ' hk
    subst h
    replace h:=hr1
    try dsimp only at h
    exact hK4 _ (lh hk rfl (rn 1 rfl (Af ((by cases h; exact ⟨.inl rfl,rfl⟩)))))
   refine Ax (fun (y1 : Int) => [(2,.box [nI a0.1,dL AG a0.2]),(3,.box [nI a1.1,dL AG a1.2]),(5,nI y1)]) _ _ _ _ hl (okr rfl) (fun _ => rfl) ?_
   rintro m y1 N h hN
   unfold D7 at h
   refine Ac fun K5 hK5 => rn 1 rfl ?_
   rcases Ab h with ⟨g6,h⟩ | ⟨g6,h⟩
   ·refine qT rfl g6 (Ae (hK5 _ (Ac fun K7 hK7 => Au (rd (by kernel_rfl) (sd 3 rfl (?_))))))
    obtain ⟨e8,g9,h⟩:=Aa h
    refine ed rfl (qI rfl Bv g9 (sd 4 rfl (?_)))
    obtain ⟨e10,g11,h⟩:=Aa h
    refine ed rfl (qI rfl Bv g11 (sd 1 rfl (?_)))
    obtain ⟨v12,g13,h⟩:=Aa h
    refine ed rfl (qC (qa rfl (erD Am _) (qa rfl (erD Am _) Ar)) (Bu g13) (sd 1 rfl (BB ?_)))
    rcases Ab h with ⟨g14,h⟩ | ⟨g14,h⟩
    ·exact qT rfl g14 (rn 1 rfl (Af ((by cases h; cases hr1; exact ⟨.inl rfl,rfl⟩))))
    ·exact qF rfl g14 (Ae (hK7 _ (rg (sp 3 rfl (evn (hN _ _ h (okr rfl)))))))
   ·exact qF rfl g6 (An (kXB1 (Option.some.inj h) _ trivial))
abbrev Y43:=Int × (List (List Int)) × (List Int)
def A7 (x : Y43) : List V:=[nI x.1,dL AG x.2.1,dL Aq x.2.2]
theorem JY (x : Y43) : (A7 x).length = 3:=rfl
theorem Hm (x : Y43) : erL (A7 x) = A7 x:=(erc rfl (erc (erD As _) (erc (erD Am _) rfl)))
def Cu (x2 : Bool) : Option (Bool):=some x2
def Bp (a0 : Y43) (a1 : Y43) : Option (Bool):=cond (a0.1 == a1.1) (Ad (B6 (0,a0.2.1) (0,a1.2.1)) fun v4 => cond v4 (Ad (A5 a0.2.2 a1.2.2) fun v7 => Cu (v7 == 0)) (Cu false)) (Cu false)
theorem CR {a0 : Y43} {a1 : Y43} {r : Bool} (h : Bp a0 a1 = some r) : Ai Tryz.prog 14 [.agg (A7 a0),.agg (A7 a1)] (.bool r):=by
 unfold Bp at h
 refine st eB rfl (rn 1 rfl (rk fun K1 hK1 => ?_))
 have kJ1 : ∀ {x2 : Bool},Cu x2 = some r -> Jn K1 [(4,.bool x2)]:=by
  intro x2 h σ' hk
  unfold Cu at h
  exact hK1 _ (lh hk rfl (Af ((by cases h; exact ⟨.inl rfl,rfl⟩))))
 refine sp 6 rfl (?_)
 rcases Ab h with ⟨g3,h⟩ | ⟨g3,h⟩
 ·refine qg 10 g3 rfl (sp 6 rfl (?_))
  obtain ⟨v4,g5,h⟩:=Aa h
  refine oGR rfl rfl (qC (qa rfl (erg (erc rfl (erc (erD As _) rfl))) (qa rfl (erg (erc rfl (erc (erD As _) rfl))) Ar)) (Gl g5) (sp 2 rfl (?_)))
  rcases Ab h with ⟨g6,h⟩ | ⟨g6,h⟩
  ·refine qg 19 g6 rfl (sp 4 rfl (?_))
   obtain ⟨v7,g8,h⟩:=Aa h
   exact oGR rfl rfl (qC (qa rfl (erD Am _) (qa rfl (erD Am _) Ar)) (Bu g8) (sp 3 rfl (evn (kJ1 h _ (okr rfl)))))
  ·exact qg 19 g6 rfl (sp 8 rfl (evn (kJ1 h _ (okr rfl))))
 ·exact qg 10 g3 rfl (sp 17 rfl (evn (kJ1 h _ (okr rfl))))
def In (x2 : Bool) : Option (Bool):=some x2
def Du (a0 : Int) (a1 : Int) (a2 : Int) : Option (Bool):=cond (decide (a1 <= a0)) (In (decide (a0 <= a2))) (In false)
theorem Dj {a0 : Int} {a1 : Int} {a2 : Int} {r : Bool} (h : Du a0 a1 a2 = some r) : Ai Tryz.prog 83 [nI a0,nI a1,nI a2] (.bool r):=by
 unfold Du at h
 refine st fY rfl (rn 1 rfl (rk fun K1 hK1 => ?_))
 have kJ1 : ∀ {x2 : Bool},In x2 = some r -> Jn K1 [(6,.bool x2)]:=by
  intro x2 h σ' hk
  unfold In at h
  exact hK1 _ (lh hk rfl (Af ((by cases h; exact ⟨.inl rfl,rfl⟩))))
 refine sp 4 rfl (?_)
 rcases Ab h with ⟨g3,h⟩ | ⟨g3,h⟩
 ·exact qg 10 g3 rfl (sp 5 rfl (evn (kJ1 h _ (okr rfl))))
 ·exact qg 10 g3 rfl (sp 5 rfl (evn (kJ1 h _ (okr rfl))))
def Fy (a0 : List UInt8) (rec : Int -> Option (Sum (Unit) (Bool))) (y1 : Int) : Option (Sum (Unit) (Bool)):=cond (decide (y1 < (List.length a0 : Int))) (Ad (AK a0 y1) fun b5 => cond (decide ((UInt8.toNat b5 : Int) < 97)) (some (.inr false)) (Ad (AK a0 y1) fun b8 => cond (decide (122 < (UInt8.toNat b8 : Int))) (some (.inr false)) (rec (IntKind.i64.wrap (y1 + 1))))) (some (.inl ()))
def Ej (a0 : List UInt8) : Option (Bool):=Ad (Al (Fy a0) fz 0) fun o1 => (match o1 with
  | .inl _ => (Ad (Du (List.length a0 : Int) 1 4) fun v11 => some v11)
  | .inr r => some r)
theorem Jc {a0 : List UInt8} {r : Bool} (h : Ej a0 = some r) : Ai Tryz.prog 81 [.str a0] (.bool r):=by
 unfold Ej at h
 refine st fW rfl (rn 1 rfl (Ac fun K1 hK1 => rn 1 rfl ?_))
 obtain ⟨o1,hl,hr1⟩:=Aa h
 have kXB1 : (.inl ()) = o1 -> Jn K1 [(0,.str a0)]:=by
  intro h σ' hk
  subst h
  replace h:=hr1
  try dsimp only at h
  refine hK1 _ (lh hk rfl (rs (sp 2 rfl (?_))))
  obtain ⟨v11,g12,h⟩:=Aa h
  exact qC (qs rfl (qs rfl (qs rfl Ar))) (Dj g12) (sp 1 rfl (evn (Af ((by cases h; exact ⟨.inl rfl,rfl⟩)))))
 refine Ax (fun (y1 : Int) => [(0,.str a0),(3,nI y1)]) _ _ _ _ hl (okr rfl) (fun _ => rfl) ?_
 rintro m y1 N h hN
 unfold Fy at h
 refine Ac fun K2 hK2 => rn 1 rfl ?_
 rcases Ab h with ⟨g3,h⟩ | ⟨g3,h⟩
 ·refine qT rfl g3 (Ae (hK2 _ (Ac fun K4 hK4 => Au (rs (sp 2 rfl (?_))))))
  obtain ⟨b5,g6,h⟩:=Aa h
  refine qX rfl g6 (sp 2 rfl (?_))
  rcases Ab h with ⟨g7,h⟩ | ⟨g7,h⟩
  ·exact qg 14 g7 rfl (sp 5 rfl (evn (qT rfl rfl (rn 1 rfl (Af ((by cases h; cases hr1; exact ⟨.inl rfl,rfl⟩)))))))
  ·refine qg 14 g7 rfl (sp 2 rfl (?_))
   obtain ⟨b8,g9,h⟩:=Aa h
   refine oGR rfl rfl (qX rfl g9 (sp 2 rfl (evn ?_)))
   rcases Ab h with ⟨g10,h⟩ | ⟨g10,h⟩
   ·exact qT rfl g10 (rn 1 rfl (qk [2] rfl (Af ((by cases h; cases hr1; exact ⟨.inl rfl,rfl⟩)))))
   ·exact qF rfl g10 (Ae (hK4 _ (rg (sp 3 rfl (evn (hN _ _ h (okr rfl)))))))
 ·exact qF rfl g3 (An (kXB1 (Option.some.inj h) _ (okr rfl)))
def D3 (a0 : List Int) (rec : Int -> Option (Sum (Unit) (Bool))) (y1 : Int) : Option (Sum (Unit) (Bool)):=cond (decide (y1 < (List.length a0 : Int))) (Ad (AK a0 y1) fun e5 => Ad (Du e5 0 99) fun v7 => cond (!v7) (some (.inr false)) (rec (IntKind.i64.wrap (y1 + 1)))) (some (.inl ()))
def B5 (a0 : List Int) : Option (Bool):=Ad (Al (D3 a0) fz 0) fun o1 => (match o1 with
  | .inl _ => (some true)
  | .inr r => some r)
theorem Gk {a0 : List Int} {r : Bool} (h : B5 a0 = some r) : Ai Tryz.prog 96 [dL Aq a0] (.bool r):=by
 unfold B5 at h
 refine st gp rfl (rn 1 rfl (Ac fun K1 hK1 => rn 1 rfl ?_))
 obtain ⟨o1,hl,hr1⟩:=Aa h
 have kXB1 : (.inl ()) = o1 -> Jn K1 []:=by
  intro h σ' hk
  subst h
  replace h:=hr1
  try dsimp only at h
  exact hK1 _ (lh hk rfl (rn 1 rfl (Af ((by cases h; exact ⟨.inl rfl,rfl⟩)))))
 refine Ax (fun (y1 : Int) => [(0,dL Aq a0),(3,nI y1)]) _ _ _ _ hl (okr rfl) (fun _ => rfl) ?_
 rintro m y1 N h hN
 unfold D3 at h
 refine Ac fun K2 hK2 => rn 1 rfl ?_
 rcases Ab h with ⟨g3,h⟩ | ⟨g3,h⟩
 ·refine qT rfl g3 (Ae (hK2 _ (Ac fun K4 hK4 => Au (rs (sp 2 rfl (?_))))))
  obtain ⟨e5,g6,h⟩:=Aa h
  refine qI rfl AH g6 (sp 1 rfl (?_))
  obtain ⟨v7,g8,h⟩:=Aa h
  refine qC (qs rfl (qs rfl (qs rfl Ar))) (Dj g8) (sp 1 rfl (evn ?_))
  rcases Ab h with ⟨g9,h⟩ | ⟨g9,h⟩
  ·exact qT rfl g9 (rn 1 rfl (Af ((by cases h; cases hr1; exact ⟨.inl rfl,rfl⟩))))
  ·exact qF rfl g9 (Ae (hK4 _ (rg (sp 3 rfl (evn (hN _ _ h (okr rfl)))))))
 ·exact qF rfl g3 (An (kXB1 (Option.some.inj h) _ trivial))
def Bi (rec : Int -> Option (Sum (Unit) (Bool))) (y1 : Int) (x11 : Bool) : Option (Sum (Unit) (Bool)):=cond x11 (some (.inr false)) (rec (IntKind.i64.wrap (y1 + 1)))
def Co (a0 : Y32) (rec : Int -> Option (Sum (Unit) (Bool))) (y1 : Int) : Option (Sum (Unit) (Bool)):=cond (decide (y1 < (List.length a0.2 : Int))) (Ad (AK a0.2 y1) fun e13 => cond ((List.length e13 : Int) != a0.1) (Bi rec y1 true) (Ad (AK a0.2 y1) fun e16 => Ad (B5 e16) fun v18 => cond (!v18) (Bi rec y1 true) (cond (decide (0 < y1)) (Ad (AK a0.2 (IntKind.i64.wrap (y1 - 1))) fun e22 => Ad (AK a0.2 y1) fun e24 => Ad (A5 e22 e24) fun v26 => Bi rec y1 (decide (0 <= v26))) (Bi rec y1 false)))) (some (.inl ()))
def AD (a0 : Y32) : Option (Bool):=Ad (Du a0.1 0 5) fun v2 => cond (!v2) (some false) (cond (decide (4000 < (List.length a0.2 : Int))) (some false) (Ad (Al (Co a0) fz 0) fun o1 => (match o1 with
  | .inl _ => (some true)
  | .inr r => some r)))
theorem AJ {a0 : Y32} {r : Bool} (h : AD a0 = some r) : Ai Tryz.prog 82 [.agg (ER a0)] (.bool r):=by
 unfold AD at h
 refine st fX rfl (rn 1 rfl (Ac fun K1 hK1 => rs (sp 2 rfl (?_))))
 obtain ⟨v2,g3,h⟩:=Aa h
 refine qC (qs rfl (qs rfl (qs rfl Ar))) (Dj g3) (sp 2 rfl (?_))
 rcases Ab h with ⟨g4,h⟩ | ⟨g4,h⟩
 ·exact qg 8 g4 rfl (sp 5 rfl (evn (qT rfl rfl (rn 1 rfl (Af ((by cases h; exact ⟨.inl rfl,rfl⟩)))))))
 ·refine qg 8 g4 rfl (sp 5 rfl (evn ?_))
  rcases Ab h with ⟨g5,h⟩ | ⟨g5,h⟩
  ·exact qT rfl g5 (rn 1 rfl (Af ((by cases h; exact ⟨.inl rfl,rfl⟩))))
  ·refine qF rfl g5 (Ae (hK1 _ (qk [1] rfl (Ac fun K6 hK6 => rn 1 rfl ?_))))
   obtain ⟨o1,hl,hr1⟩:=Aa h
   have kXB1 : (.inl ()) = o1 -> Jn K6 []:=by
    intro h σ' hk
    subst h
    replace h:=hr1
    try dsimp only at h
    exact hK6 _ (lh hk rfl (rn 1 rfl (Af ((by cases h; exact ⟨.inl rfl,rfl⟩)))))
   refine Ax (fun (y1 : Int) => [(1,.box [nI a0.1,dL AG a0.2]),(3,nI y1)]) _ _ _ _ hl (okr rfl) (fun _ => rfl) ?_
   rintro m y1 N h hN
   unfold Co at h
   refine Ac fun K7 hK7 => rn 1 rfl ?_
   rcases Ab h with ⟨g8,h⟩ | ⟨g8,h⟩
   ·refine qT rfl g8 (Ae (hK7 _ (Ac fun K9 hK9 => Au (rdk (by kernel_rfl) fun K10 hK10 => ?_))))
    have kJ2 : ∀ {x11 : Bool},Bi (Al (Co a0) m) y1 x11 = some o1 -> Jn K10 [(1,.box [nI a0.1,dL AG a0.2]),(3,nI y1),(57,.bool x11)]:=by
     intro x11 h σ' hk
     unfold Bi at h
     refine hK10 _ (lh hk rfl ?_)
     rcases Ab h with ⟨g12,h⟩ | ⟨g12,h⟩
     ·exact qT rfl g12 (rn 1 rfl (Af ((by cases h; cases hr1; exact ⟨.inl rfl,rfl⟩))))
     ·exact qF rfl g12 (Ae (hK9 _ (rg (sp 3 rfl (evn (hN _ _ h (okr rfl)))))))
    refine sd 3 rfl (?_)
    obtain ⟨e13,g14,h⟩:=Aa h
    refine ed rfl (qI rfl Bv g14 (sd 6 rfl (?_)))
    rcases Ab h with ⟨g15,h⟩ | ⟨g15,h⟩
    ·exact qgd 30 g15 rfl (sd 27 rfl (BB (kJ2 h _ (okr rfl))))
    ·refine qgd 30 g15 rfl (sd 3 rfl (?_))
     obtain ⟨e16,g17,h⟩:=Aa h
     refine ed rfl (oGR rfl rfl (qI rfl Bv g17 (sd 1 rfl (?_))))
     obtain ⟨v18,g19,h⟩:=Aa h
     refine ed rfl (oGR rfl rfl (qC (qa rfl (erD Am _) Ar) (Gk g19) (sd 3 rfl (?_))))
     rcases Ab h with ⟨g20,h⟩ | ⟨g20,h⟩
     ·exact qgd 39 g20 rfl (sd 18 rfl (BB (kJ2 h _ (okr rfl))))
     ·refine qgd 39 g20 rfl (sd 3 rfl (?_))
      rcases Ab h with ⟨g21,h⟩ | ⟨g21,h⟩
      ·refine qgd 42 g21 rfl (sd 4 rfl (?_))
       obtain ⟨e22,g23,h⟩:=Aa h
       refine ed rfl (oGR rfl rfl (qI rfl Bv g23 (sd 4 rfl (?_))))
       obtain ⟨e24,g25,h⟩:=Aa h
       refine ed rfl (oGR rfl rfl (qI rfl Bv g25 (sd 1 rfl (?_))))
       obtain ⟨v26,g27,h⟩:=Aa h
       exact ed rfl (oGR rfl rfl (qC (qa rfl (erD Am _) (qa rfl (erD Am _) Ar)) (Bu g27) (sd 3 rfl (BB (kJ2 h _ (okr rfl))))))
      ·exact qgd 42 g21 rfl (sd 15 rfl (BB (kJ2 h _ (okr rfl))))
   ·exact qF rfl g8 (An (kXB1 (Option.some.inj h) _ trivial))
abbrev Y88:=(List UInt8) × Y32
def AB (x : Y88) : List V:=[.str x.1,nI x.2.1,dL AG x.2.2]
theorem Ee (x : Y88) : (AB x).length = 3:=rfl
theorem AM (x : Y88) : erL (AB x) = AB x:=(erc rfl (erc rfl (erc (erD As _) rfl)))
def AR (rec : Int -> Option (Sum (Unit) (Bool))) (y1 : Int) (x8 : Bool) : Option (Sum (Unit) (Bool)):=cond x8 (some (.inr false)) (rec (IntKind.i64.wrap (y1 + 1)))
def Cn (a0 : List Y88) (rec : Int -> Option (Sum (Unit) (Bool))) (y1 : Int) : Option (Sum (Unit) (Bool)):=cond (decide (y1 < (List.length a0 : Int))) (Ad (AK a0 y1) fun e5 => Ad (Ej e5.1) fun v10 => cond (!v10) (AR rec y1 true) (cond (decide (0 < y1)) (Ad (AK a0 (IntKind.i64.wrap (y1 - 1))) fun e14 => cond (!Op.bytesLess e14.1 e5.1) (AR rec y1 true) (Ad (AD e5.2) fun v17 => cond (!v17) (AR rec y1 true) (cond (decide (16 < (List.length e5.2.2 : Int))) (AR rec y1 true) (AR rec y1 (decide (e5.2.1 < 1)))))) (Ad (AD e5.2) fun v21 => cond (!v21) (AR rec y1 true) (cond (decide (16 < (List.length e5.2.2 : Int))) (AR rec y1 true) (AR rec y1 (decide (e5.2.1 < 1))))))) (some (.inl ()))
def A2 (a0 : List Y88) : Option (Bool):=Ad (Al (Cn a0) fz 0) fun o1 => (match o1 with
  | .inl _ => (some (decide ((List.length a0 : Int) <= 6)))
  | .inr r => some r)
theorem BW {a0 : List Y88} {r : Bool} (h : A2 a0 = some r) : Ai Tryz.prog 31 [.agg [dL AB a0]] (.bool r):=by
 unfold A2 at h
 refine st eS rfl (rn 1 rfl (Ac fun K1 hK1 => rn 1 rfl ?_))
 obtain ⟨o1,hl,hr1⟩:=Aa h
 have kXB1 : (.inl ()) = o1 -> Jn K1 [(1,.box [dL AB a0])]:=by
  intro h σ' hk
  subst h
  replace h:=hr1
  try dsimp only at h
  exact hK1 _ (lh hk rfl (rn 1 rfl (Af ((by cases h; exact ⟨.inl rfl,rfl⟩)))))
 refine Ax (fun (y1 : Int) => [(1,.box [dL AB a0]),(3,nI y1)]) _ _ _ _ hl (okr rfl) (fun _ => rfl) ?_
 rintro m y1 N h hN
 unfold Cn at h
 refine Ac fun K2 hK2 => rn 1 rfl ?_
 rcases Ab h with ⟨g3,h⟩ | ⟨g3,h⟩
 ·refine qT rfl g3 (Ae (hK2 _ (Ac fun K4 hK4 => Au (rs (sp 3 rfl (?_))))))
  obtain ⟨e5,g6,h⟩:=Aa h
  refine qI rfl Ee g6 (sp 3 rfl (evn (rdk (by kernel_rfl) fun K7 hK7 => ?_)))
  have kJ2 : ∀ {x8 : Bool},AR (Al (Cn a0) m) y1 x8 = some o1 -> Jn K7 [(1,.box [dL AB a0]),(3,nI y1),(55,.bool x8)]:=by
   intro x8 h σ' hk
   unfold AR at h
   refine hK7 _ (lh hk rfl ?_)
   rcases Ab h with ⟨g9,h⟩ | ⟨g9,h⟩
   ·exact qT rfl g9 (rn 1 rfl (Af ((by cases h; cases hr1; exact ⟨.inl rfl,rfl⟩))))
   ·exact qF rfl g9 (Ae (hK4 _ (rg (sp 3 rfl (evn (hN _ _ h (okr rfl)))))))
  refine sd 2 rfl (?_)
  obtain ⟨v10,g11,h⟩:=Aa h
  refine ed rfl (qC (qs rfl Ar) (Jc g11) (sd 2 rfl (?_)))
  rcases Ab h with ⟨g12,h⟩ | ⟨g12,h⟩
  ·exact qgd 21 g12 rfl (sd 34 rfl (BB (kJ2 h _ (okr rfl))))
  ·refine qgd 21 g12 rfl (sd 3 rfl (?_))
   rcases Ab h with ⟨g13,h⟩ | ⟨g13,h⟩
   ·refine qgd 24 g13 rfl (sd 4 rfl (?_))
    obtain ⟨e14,g15,h⟩:=Aa h
    refine ed rfl (oGR rfl rfl (qI rfl Ee g15 (sd 8 rfl (?_))))
    rcases Ab h with ⟨g16,h⟩ | ⟨g16,h⟩
    ·exact qgd 37 g16 rfl (sd 18 rfl (BB (kJ2 h _ (okr rfl))))
    ·refine qgd 37 g16 rfl (sd 2 rfl (?_))
     obtain ⟨v17,g18,h⟩:=Aa h
     refine ed rfl (oGR rfl rfl (qC (qa rfl (erg (erc rfl (erc (erD As _) rfl))) Ar) (AJ g18) (sd 3 rfl (?_))))
     rcases Ab h with ⟨g19,h⟩ | ⟨g19,h⟩
     ·exact qgd 43 g19 rfl (sd 12 rfl (BB (kJ2 h _ (okr rfl))))
     ·refine qgd 43 g19 rfl (sd 7 rfl (?_))
      rcases Ab h with ⟨g20,h⟩ | ⟨g20,h⟩
      ·exact qgd 50 g20 rfl (sd 5 rfl (BB (kJ2 h _ (okr rfl))))
      ·exact qgd 50 g20 rfl (sd 5 rfl (BB (kJ2 h _ (okr rfl))))
   ·refine qgd 24 g13 rfl (sd 15 rfl (?_))
    obtain ⟨v21,g22,h⟩:=Aa h
    refine ed rfl (oGR rfl rfl (qC (qa rfl (erg (erc rfl (erc (erD As _) rfl))) Ar) (AJ g22) (sd 3 rfl (?_))))
    rcases Ab h with ⟨g23,h⟩ | ⟨g23,h⟩
    ·exact qgd 43 g23 rfl (sd 12 rfl (BB (kJ2 h _ (okr rfl))))
    ·refine qgd 43 g23 rfl (sd 7 rfl (?_))
     rcases Ab h with ⟨g24,h⟩ | ⟨g24,h⟩
     ·exact qgd 50 g24 rfl (sd 5 rfl (BB (kJ2 h _ (okr rfl))))
     ·exact qgd 50 g24 rfl (sd 5 rfl (BB (kJ2 h _ (okr rfl))))
 ·exact qF rfl g3 (An (kXB1 (Option.some.inj h) _ (okr rfl)))
def Ag (x : List Int) : List V:=[oL 3 Aq x]
theorem AW (x : List Int) : (Ag x).length = 1:=rfl
theorem AS (x : List Int) : erL (Ag x) = AG x:=(erc (erO Am _) rfl)
def GI (x : Y32) : List V:=[nI x.1,oL 42 Ag x.2]
theorem gL (x : Y32) : (GI x).length = 2:=rfl
theorem dO (x : Y32) : erL (GI x) = ER x:=(erc rfl (erc (erO AS _) rfl))
def H4 (a0 : Y32) (rec : ((List (List Int)) × Int) -> Option ((List (List Int)))) (s : (List (List Int)) × Int) : Option ((List (List Int))):=match s with
  | (y1,y2) => cond (decide (y2 < (List.length a0.2 : Int))) (Ad (AK a0.2 y2) fun e6 => chk (List.length ([] : List Int) + List.length e6 <= lim) (chk (List.length y1 + List.length ([([] : List Int) ++ e6]) <= lim) (rec ((y1 ++ ([([] : List Int) ++ e6])),(IntKind.i64.wrap (y2 + 1)))))) (some y1)
def EO (a0 : Y32) : Option (Y32):=Ad (Al (H4 a0) fz (([] : List (List Int)),0)) fun z2 => some (a0.1,z2)
theorem GF {a0 : Y32} {r : Y32} (h : EO a0 = some r) : Ai Tryz.prog 95 [.agg (ER a0)] (.agg (GI r)):=by
 unfold EO at h
 refine st gn rfl (rn 2 rfl (Ac fun K1 hK1 => rn 1 rfl ?_))
 obtain ⟨o1,hl,hr1⟩:=Aa h
 have kXB1 : ∀ {z2 : List (List Int)},z2 = o1 -> Jn K1 [(2,.box [nI 0,oL 42 Ag []]),(3,.box [nI a0.1,oL 42 Ag z2])]:=by
  intro z2 h σ' hk
  subst h
  replace h:=hr1
  try dsimp only at h
  exact hK1 _ (lh hk rfl (rn 1 rfl (Af ((by cases h; exact ⟨.inl rfl,rfl⟩)))))
 refine Ax (fun (s : (List (List Int)) × Int) => match s with | (y1,y2) => [(1,.box [nI a0.1,dL AG a0.2]),(2,.box [nI 0,oL 42 Ag []]),(3,.box [nI a0.1,oL 42 Ag y1]),(4,nI y2)]) _ _ _ _ hl (okr rfl) (fun _ => rfl) ?_
 rintro m ⟨y1,y2⟩ N h hN
 unfold H4 at h
 dsimp only at h
 refine Ac fun K3 hK3 => rn 1 rfl ?_
 rcases Ab h with ⟨g4,h⟩ | ⟨g4,h⟩
 ·refine qT rfl g4 (Ae (hK3 _ (Ac fun K5 hK5 => Au (rgd (by kernel_rfl) (sd 2 rfl (ed rfl (qBs Aq [] rfl rfl rfl AH (sd 3 rfl (?_)))))))))
  obtain ⟨e6,g7,h⟩:=Aa h
  refine ed rfl (qI rfl Bv g7 (sd 1 rfl (?_)))
  obtain ⟨g8,h⟩:=Ah h
  refine ed rfl (qA Aq ([] : List Int) e6 rfl rfl (Ap AH e6) (GJ (fun _ => rfl) _) g8 (ed rfl (qBs Ag [([] : List Int) ++ e6] rfl rfl rfl AW (?_))))
  obtain ⟨g9,h⟩:=Ah h
  exact ed rfl (qA Ag y1 ([([] : List Int) ++ e6]) rfl rfl (Ap AW ([([] : List Int) ++ e6])) rfl g9 (sd 2 rfl (BB (hK5 _ (rg (sp 3 rfl (evn (hN _ _ h (okr rfl)))))))))
 ·exact qF rfl g4 (An (kXB1 (Option.some.inj h) _ (okr rfl)))
def Bt (a0 : List Y88) (a1 : List UInt8) (rec : Int -> Option (Sum (Unit) (Y32 × Bool))) (y1 : Int) : Option (Sum (Unit) (Y32 × Bool)):=cond (decide (y1 < (List.length a0 : Int))) (Ad (A2 a0) fun v4 => cond v4 (Ad (AK a0 y1) fun e8 => cond (e8.1 == a1) (Ad (AK a0 y1) fun e11 => Ad (EO e11.2) fun v13 => some (.inr (v13,true))) (rec (IntKind.i64.wrap (y1 + 1)))) (some (.inl ()))) (some (.inl ()))
def Bj (a0 : List Y88) (a1 : List UInt8) : Option (Y32 × Bool):=Ad (Al (Bt a0 a1) fz 0) fun o1 => (match o1 with
  | .inl _ => (some ((0,[]),false))
  | .inr r => some r)
theorem C6 {a0 : List Y88} {a1 : List UInt8} {r : Y32 × Bool} (h : Bj a0 a1 = some r) : Ai Tryz.prog 71 [.agg [dL AB a0],.str a1] (.tup [.agg (GI r.1),.bool r.2]):=by
 unfold Bj at h
 refine st fM rfl (rn 1 rfl (Ac fun K1 hK1 => rn 1 rfl ?_))
 obtain ⟨o1,hl,hr1⟩:=Aa h
 have kXB1 : (.inl ()) = o1 -> Jn K1 [(4,.box [nI 0,oL 42 Ag []])]:=by
  intro h σ' hk
  subst h
  replace h:=hr1
  try dsimp only at h
  exact hK1 _ (lh hk rfl (rn 1 rfl (Af ((by cases h; exact ⟨.inl rfl,rfl⟩)))))
 refine Ax (fun (y1 : Int) => [(1,.str a1),(2,.box [dL AB a0]),(4,.box [nI 0,oL 42 Ag []]),(6,nI y1)]) _ _ _ _ hl (okr rfl) (fun _ => rfl) ?_
 rintro m y1 N h hN
 unfold Bt at h
 refine Ac fun K2 hK2 => rs (sp 6 rfl (?_))
 rcases Ab h with ⟨g3,h⟩ | ⟨g3,h⟩
 ·refine qg 12 g3 rfl (sp 1 rfl (?_))
  obtain ⟨v4,g5,h⟩:=Aa h
  refine oGR rfl rfl (qC (qa rfl (erg (erc (erD AM _) rfl)) Ar) (BW g5) (sp 1 rfl (evn ?_)))
  rcases Ab h with ⟨g6,h⟩ | ⟨g6,h⟩
  ·refine qT rfl g6 (Ae (hK2 _ (Ac fun K7 hK7 => Au (rs (sp 3 rfl (?_))))))
   obtain ⟨e8,g9,h⟩:=Aa h
   refine qI rfl Ee g9 (sp 4 rfl (evn ?_))
   rcases Ab h with ⟨g10,h⟩ | ⟨g10,h⟩
   ·refine qT rfl g10 (rs (sp 3 rfl (?_)))
    obtain ⟨e11,g12,h⟩:=Aa h
    refine qI rfl Ee g12 (sp 2 rfl (?_))
    obtain ⟨v13,g14,h⟩:=Aa h
    exact qC (qa rfl (erg (erc rfl (erc (erD As _) rfl))) Ar) (GF g14) (sp 2 rfl (evn (Af ((by cases h; cases hr1; exact ⟨.inl rfl,rfl⟩)))))
   ·exact qF rfl g10 (Ae (hK7 _ (qk [1,2,4,6] rfl (rg (sp 3 rfl (evn (hN _ _ h (okr rfl))))))))
  ·exact qF rfl g6 (An (kXB1 (Option.some.inj h) _ (okr rfl)))
 ·exact qg 12 g3 rfl (sp 3 rfl (evn (qF rfl rfl (An (kXB1 (Option.some.inj h) _ (okr rfl))))))
abbrev HI:=(List UInt8) × (List Int)
def Bk (x : HI) : List V:=[.str x.1,dL Aq x.2]
theorem FE (x : HI) : (Bk x).length = 2:=rfl
theorem Bl (x : HI) : erL (Bk x) = Bk x:=(erc rfl (erc (erD Am _) rfl))
def Df (a0 : HI) (a1 : Int) (rec : Int -> Option (Sum (Unit) (Bool))) (y1 : Int) : Option (Sum (Unit) (Bool)):=cond (decide (y1 < (List.length a0.2 : Int))) (Ad (AK a0.2 y1) fun e5 => cond (e5 == a1) (some (.inr true)) (rec (IntKind.i64.wrap (y1 + 1)))) (some (.inl ()))
def C4 (a0 : HI) (a1 : Int) : Option (Bool):=Ad (Al (Df a0 a1) fz 0) fun o1 => (match o1 with
  | .inl _ => (some false)
  | .inr r => some r)
theorem JR {a0 : HI} {a1 : Int} {r : Bool} (h : C4 a0 a1 = some r) : Ai Tryz.prog 113 [.agg (Bk a0),nI a1] (.bool r):=by
 unfold C4 at h
 refine st aP rfl (rn 1 rfl (Ac fun K1 hK1 => rn 1 rfl ?_))
 obtain ⟨o1,hl,hr1⟩:=Aa h
 have kXB1 : (.inl ()) = o1 -> Jn K1 []:=by
  intro h σ' hk
  subst h
  replace h:=hr1
  try dsimp only at h
  exact hK1 _ (lh hk rfl (rn 1 rfl (Af ((by cases h; exact ⟨.inl rfl,rfl⟩)))))
 refine Ax (fun (y1 : Int) => [(1,nI a1),(2,.box [.str a0.1,dL Aq a0.2]),(5,nI y1)]) _ _ _ _ hl (okr rfl) (fun _ => rfl) ?_
 rintro m y1 N h hN
 unfold Df at h
 refine Ac fun K2 hK2 => rn 1 rfl ?_
 rcases Ab h with ⟨g3,h⟩ | ⟨g3,h⟩
 ·refine qT rfl g3 (Ae (hK2 _ (Ac fun K4 hK4 => Au (rs (sp 3 rfl (?_))))))
  obtain ⟨e5,g6,h⟩:=Aa h
  refine qI rfl AH g6 (sp 3 rfl (evn ?_))
  rcases Ab h with ⟨g7,h⟩ | ⟨g7,h⟩
  ·exact qT rfl g7 (rn 1 rfl (Af ((by cases h; cases hr1; exact ⟨.inl rfl,rfl⟩))))
  ·exact qF rfl g7 (Ae (hK4 _ (rg (sp 3 rfl (evn (hN _ _ h (okr rfl)))))))
 ·exact qF rfl g3 (An (kXB1 (Option.some.inj h) _ trivial))
def H7 (a0 : List Int) (a1 : Int) (rec : Int -> Option (Sum (Unit) (Int))) (y1 : Int) : Option (Sum (Unit) (Int)):=cond (decide (y1 < (List.length a0 : Int))) (Ad (AK a0 y1) fun e5 => cond (e5 == a1) (some (.inr y1)) (rec (IntKind.i64.wrap (y1 + 1)))) (some (.inl ()))
def IY (a0 : List Int) (a1 : Int) : Option (Int):=Ad (Al (H7 a0 a1) fz 0) fun o1 => (match o1 with
  | .inl _ => (some (-1))
  | .inr r => some r)
theorem PM {a0 : List Int} {a1 : Int} {r : Int} (h : IY a0 a1 = some r) : Ai Tryz.prog 114 [dL Aq a0,nI a1] (nI r):=by
 unfold IY at h
 refine st aQ rfl (rn 1 rfl (Ac fun K1 hK1 => rn 1 rfl ?_))
 obtain ⟨o1,hl,hr1⟩:=Aa h
 have kXB1 : (.inl ()) = o1 -> Jn K1 []:=by
  intro h σ' hk
  subst h
  replace h:=hr1
  try dsimp only at h
  exact hK1 _ (lh hk rfl (rn 1 rfl (Af ((by cases h; exact ⟨.inl rfl,rfl⟩)))))
 refine Ax (fun (y1 : Int) => [(0,dL Aq a0),(1,nI a1),(5,nI y1)]) _ _ _ _ hl (okr rfl) (fun _ => rfl) ?_
 rintro m y1 N h hN
 unfold H7 at h
 refine Ac fun K2 hK2 => rn 1 rfl ?_
 rcases Ab h with ⟨g3,h⟩ | ⟨g3,h⟩
 ·refine qT rfl g3 (Ae (hK2 _ (Ac fun K4 hK4 => Au (rs (sp 2 rfl (?_))))))
  obtain ⟨e5,g6,h⟩:=Aa h
  refine qI rfl AH g6 (sp 3 rfl (evn ?_))
  rcases Ab h with ⟨g7,h⟩ | ⟨g7,h⟩
  ·exact qT rfl g7 (rn 1 rfl (Af ((by cases h; cases hr1; exact ⟨.inl rfl,rfl⟩))))
  ·exact qF rfl g7 (Ae (hK4 _ (rg (sp 3 rfl (evn (hN _ _ h (okr rfl)))))))
 ·exact qF rfl g3 (An (kXB1 (Option.some.inj h) _ trivial))
abbrev Y51:=Int × (List HI) × (List Int)
def Dg (x : Y51) : List V:=[nI x.1,dL Bk x.2.1,dL Aq x.2.2]
theorem db (x : Y51) : (Dg x).length = 3:=rfl
theorem cR (x : Y51) : erL (Dg x) = Dg x:=(erc rfl (erc (erD Bl _) (erc (erD Am _) rfl)))
def EZ (a0 : Y51) (y2 : Int) (rec : Int -> Option (Sum (Unit) (Bool))) (y4 : Int) : Option (Sum (Unit) (Bool)):=Ad (AK a0.2.1 y2) fun e25 => cond (decide (y4 < (List.length e25.2 : Int))) (Ad (AK a0.2.1 y2) fun e29 => Ad (AK e29.2 y4) fun e31 => Ad (Du e31 0 (IntKind.i64.wrap (a0.1 - 1))) fun v33 => cond (!v33) (some (.inr false)) (rec (IntKind.i64.wrap (y4 + 1)))) (some (.inl ()))
def Dp (a0 : Y51) (rec : Int -> Option (Sum (Unit) (Bool))) (y2 : Int) : Option (Sum (Unit) (Bool)):=cond (decide (y2 < (List.length a0.2.1 : Int))) (Ad (AK a0.2.1 y2) fun e14 => Ad (Ej e14.1) fun v16 => cond (!v16) (some (.inr false)) (Ad (AK a0.2.1 y2) fun e19 => Ad (Du (List.length e19.2 : Int) 1 5) fun v21 => cond (!v21) (some (.inr false)) (Ad (Al (EZ a0 y2) fz 0) fun o2 => (match o2 with
  | .inl _ => (rec (IntKind.i64.wrap (y2 + 1)))
  | .inr r => some (.inr r))))) (some (.inl ()))
def Dt (rec : (Bool × Int) -> Option (Bool)) (y11 : Int) (x45 : Bool) : Option (Bool):=rec (x45,(IntKind.i64.wrap (y11 + 1)))
def BN (a0 : Y51) (y7 : Int) (rec : (Bool × Int) -> Option (Bool)) (s : Bool × Int) : Option (Bool):=match s with
  | (y10,y11) => cond (decide (y11 < (List.length a0.2.1 : Int))) (cond y10 (Dt rec y11 true) (Ad (AK a0.2.1 y11) fun e47 => Ad (C4 e47 y7) fun v49 => Dt rec y11 v49)) (some y10)
def Dq (a0 : Y51) (rec : Int -> Option (Sum (Unit) (Bool))) (y7 : Int) : Option (Sum (Unit) (Bool)):=cond (decide (y7 < a0.1)) (Ad (Al (BN a0 y7) fz (false,0)) fun z41 => cond (!z41) (some (.inr false)) (rec (IntKind.i64.wrap (y7 + 1)))) (some (.inl ()))
def Ds (a0 : Y51) (rec : Int -> Option (Sum (Unit) (Bool))) (y12 : Int) : Option (Sum (Unit) (Bool)):=cond (decide (y12 < (List.length a0.2.2 : Int))) (Ad (AK a0.2.2 y12) fun e56 => Ad (Du e56 0 (IntKind.i64.wrap (a0.1 - 1))) fun v58 => cond (!v58) (some (.inr false)) (chk ((0 : Int) <= 0 ∧ 0 <= y12 ∧ y12 <= (List.length a0.2.2 : Int)) (Ad (AK a0.2.2 y12) fun e62 => Ad (IY (BX a0.2.2 0 y12) e62) fun v64 => cond (decide (0 <= v64)) (some (.inr false)) (rec (IntKind.i64.wrap (y12 + 1)))))) (some (.inl ()))
def CS (a0 : Y51) : Option (Bool):=Ad (Du a0.1 1 5) fun v2 => cond (!v2) (some false) (Ad (Du (List.length a0.2.1 : Int) 1 4) fun v5 => cond (!v5) (some false) (cond (decide (a0.1 < (List.length a0.2.2 : Int))) (some false) (Ad (Al (Dp a0) fz 0) fun o1 => (match o1 with
  | .inl _ => (Ad (Al (Dq a0) fz 0) fun o3 => (match o3 with
  | .inl _ => (Ad (Al (Ds a0) fz 0) fun o6 => (match o6 with
  | .inl _ => (some true)
  | .inr r => some r))
  | .inr r => some r))
  | .inr r => some r))))
theorem G9 {a0 : Y51} {r : Bool} (h : CS a0 = some r) : Ai Tryz.prog 88 [.agg (Dg a0)] (.bool r):=by
 unfold CS at h
 refine st gc rfl (rn 1 rfl (Ac fun K1 hK1 => rs (sp 2 rfl (?_))))
 obtain ⟨v2,g3,h⟩:=Aa h
 refine qC (qs rfl (qs rfl (qs rfl Ar))) (Dj g3) (sp 2 rfl (?_))
 rcases Ab h with ⟨g4,h⟩ | ⟨g4,h⟩
 ·exact qg 13 g4 rfl (sp 14 rfl (evn (qT rfl rfl (rn 1 rfl (Af ((by cases h; exact ⟨.inl rfl,rfl⟩)))))))
 ·refine qg 13 g4 rfl (sp 3 rfl (?_))
  obtain ⟨v5,g6,h⟩:=Aa h
  refine oGR rfl rfl (qC (qs rfl (qs rfl (qs rfl Ar))) (Dj g6) (sp 3 rfl (?_)))
  rcases Ab h with ⟨g7,h⟩ | ⟨g7,h⟩
  ·exact qg 20 g7 rfl (sp 7 rfl (evn (qk [1,27] rfl (qT rfl rfl (rn 1 rfl (Af ((by cases h; exact ⟨.inl rfl,rfl⟩))))))))
  ·refine qg 20 g7 rfl (sp 7 rfl (evn ?_))
   rcases Ab h with ⟨g8,h⟩ | ⟨g8,h⟩
   ·exact qT rfl g8 (rn 1 rfl (Af ((by cases h; exact ⟨.inl rfl,rfl⟩))))
   ·refine qF rfl g8 (Ae (hK1 _ (Ac fun K9 hK9 => rn 1 rfl ?_)))
    obtain ⟨o1,hl,hr1⟩:=Aa h
    have kXB1 : (.inl ()) = o1 -> Jn K9 [(1,.box [nI a0.1,dL Bk a0.2.1,dL Aq a0.2.2])]:=by
     intro h σ' hk
     subst h
     replace h:=hr1
     try dsimp only at h
     refine hK9 _ (lh hk rfl (Ac fun K36 hK36 => rn 1 rfl ?_))
     obtain ⟨o3,hl,hr3⟩:=Aa h
     have kXB3 : (.inl ()) = o3 -> Jn K36 [(1,.box [nI a0.1,dL Bk a0.2.1,dL Aq a0.2.2])]:=by
      intro h σ' hk
      subst h
      replace h:=hr3
      try dsimp only at h
      refine hK36 _ (lh hk rfl (Ac fun K52 hK52 => rn 1 rfl ?_))
      obtain ⟨o6,hl,hr6⟩:=Aa h
      have kXB6 : (.inl ()) = o6 -> Jn K52 []:=by
       intro h σ' hk
       subst h
       replace h:=hr6
       try dsimp only at h
       exact hK52 _ (lh hk rfl (rn 1 rfl (Af ((by cases h; exact ⟨.inl rfl,rfl⟩)))))
      refine Ax (fun (y12 : Int) => [(1,.box [nI a0.1,dL Bk a0.2.1,dL Aq a0.2.2]),(8,nI y12)]) _ _ _ _ hl (okr rfl) (fun _ => rfl) ?_
      rintro m y12 N h hN
      unfold Ds at h
      refine Ac fun K53 hK53 => rn 1 rfl ?_
      rcases Ab h with ⟨g54,h⟩ | ⟨g54,h⟩
      ·refine qT rfl g54 (Ae (hK53 _ (Ac fun K55 hK55 => Au (rd (by kernel_rfl) (sd 3 rfl (?_))))))
       obtain ⟨e56,g57,h⟩:=Aa h
       refine ed rfl (qI rfl AH g57 (sd 4 rfl (?_)))
       obtain ⟨v58,g59,h⟩:=Aa h
       refine ed rfl (qC (qs rfl (qs rfl (qs rfl Ar))) (Dj g59) (sd 2 rfl (?_)))
       rcases Ab h with ⟨g60,h⟩ | ⟨g60,h⟩
       ·exact qgd 121 g60 rfl (sd 12 rfl (BB (qT rfl rfl (rn 1 rfl (qk [2] rfl (Af ((by cases h; cases hr6; exact ⟨.inl rfl,rfl⟩))))))))
       ·refine qgd 121 g60 rfl (sd 3 rfl (?_))
        obtain ⟨g61,h⟩:=Ah h
        refine ed rfl (oGR rfl rfl (qSl rfl AH g61 (sd 3 rfl (?_))))
        obtain ⟨e62,g63,h⟩:=Aa h
        refine ed rfl (oGR rfl rfl (qI rfl AH g63 (sd 1 rfl (?_))))
        obtain ⟨v64,g65,h⟩:=Aa h
        refine ed rfl (oGR rfl rfl (qC (qa rfl (erD Am _) (qs rfl Ar)) (PM g65) (sd 2 rfl (BB ?_))))
        rcases Ab h with ⟨g66,h⟩ | ⟨g66,h⟩
        ·exact qT rfl g66 (rn 1 rfl (Af ((by cases h; cases hr6; exact ⟨.inl rfl,rfl⟩))))
        ·exact qF rfl g66 (Ae (hK55 _ (rg (sp 3 rfl (evn (hN _ _ h (okr rfl)))))))
      ·exact qF rfl g54 (An (kXB6 (Option.some.inj h) _ trivial))
     refine Ax (fun (y7 : Int) => [(1,.box [nI a0.1,dL Bk a0.2.1,dL Aq a0.2.2]),(5,nI y7)]) _ _ _ _ hl (okr rfl) (fun _ => rfl) ?_
     rintro m y7 N h hN
     unfold Dq at h
     refine Ac fun K37 hK37 => rn 1 rfl ?_
     rcases Ab h with ⟨g38,h⟩ | ⟨g38,h⟩
     ·refine qT rfl g38 (Ae (hK37 _ (Ac fun K39 hK39 => Au (rn 1 rfl (Ac fun K40 hK40 => rn 1 rfl ?_)))))
      obtain ⟨o4,hl,hr4⟩:=Aa h
      have kXB4 : ∀ {z41 : Bool},z41 = o4 -> Jn K40 [(1,.box [nI a0.1,dL Bk a0.2.1,dL Aq a0.2.2]),(5,nI y7),(6,.bool z41)]:=by
       intro z41 h σ' hk
       subst h
       replace h:=hr4
       try dsimp only at h
       refine hK40 _ (lh hk rfl (rn 1 rfl ?_))
       rcases Ab h with ⟨g51,h⟩ | ⟨g51,h⟩
       ·exact qT rfl g51 (rn 1 rfl (Af ((by cases h; cases hr3; exact ⟨.inl rfl,rfl⟩))))
       ·exact qF rfl g51 (Ae (hK39 _ (rg (sp 3 rfl (evn (hN _ _ h (okr rfl)))))))
      refine Ax (fun (s : Bool × Int) => match s with | (y10,y11) => [(1,.box [nI a0.1,dL Bk a0.2.1,dL Aq a0.2.2]),(5,nI y7),(6,.bool y10),(7,nI y11)]) _ _ _ _ hl (okr rfl) (fun _ => rfl) ?_
      rintro m ⟨y10,y11⟩ N h hN
      unfold BN at h
      dsimp only at h
      refine Ac fun K42 hK42 => rn 1 rfl ?_
      rcases Ab h with ⟨g43,h⟩ | ⟨g43,h⟩
      ·refine qT rfl g43 (Ae (hK42 _ (Ac fun K44 hK44 => Au ?_)))
       have kJ5 : ∀ {x45 : Bool},Dt (Al (BN a0 y7) m) y11 x45 = some o4 -> Jn K44 [(1,.box [nI a0.1,dL Bk a0.2.1,dL Aq a0.2.2]),(5,nI y7),(6,.bool x45),(7,nI y11)]:=by
        intro x45 h σ' hk
        unfold Dt at h
        exact hK44 _ (lh hk rfl (rg (sp 3 rfl (evn (hN _ _ h (okr rfl))))))
       refine rg (sp 2 rfl (?_))
       rcases Ab h with ⟨g46,h⟩ | ⟨g46,h⟩
       ·exact qg 93 g46 rfl (sp 9 rfl (evn (kJ5 h _ (okr rfl))))
       ·refine qg 93 g46 rfl (sp 3 rfl (?_))
        obtain ⟨e47,g48,h⟩:=Aa h
        refine oGR rfl rfl (qI rfl FE g48 (sp 2 rfl (?_)))
        obtain ⟨v49,g50,h⟩:=Aa h
        exact oGR rfl rfl (qC (qa rfl (erg (erc rfl (erc (erD Am _) rfl))) (qs rfl Ar)) (JR g50) (sp 2 rfl (evn (kJ5 h _ (okr rfl)))))
      ·exact qF rfl g43 (An (kXB4 (Option.some.inj h) _ (okr rfl)))
     ·exact qF rfl g38 (An (kXB3 (Option.some.inj h) _ (okr rfl)))
    refine Ax (fun (y2 : Int) => [(1,.box [nI a0.1,dL Bk a0.2.1,dL Aq a0.2.2]),(3,nI y2)]) _ _ _ _ hl (okr rfl) (fun _ => rfl) ?_
    rintro m y2 N h hN
    unfold Dp at h
    refine Ac fun K10 hK10 => rn 1 rfl ?_
    rcases Ab h with ⟨g11,h⟩ | ⟨g11,h⟩
    ·refine qT rfl g11 (Ae (hK10 _ (Ac fun K12 hK12 => Au (Ac fun K13 hK13 => rs (sp 3 rfl (?_))))))
     obtain ⟨e14,g15,h⟩:=Aa h
     refine qI rfl FE g15 (sp 2 rfl (?_))
     obtain ⟨v16,g17,h⟩:=Aa h
     refine qC (qs rfl Ar) (Jc g17) (sp 2 rfl (?_))
     rcases Ab h with ⟨g18,h⟩ | ⟨g18,h⟩
     ·exact qg 43 g18 rfl (sp 10 rfl (evn (qT rfl rfl (rn 1 rfl (Af ((by cases h; cases hr1; exact ⟨.inl rfl,rfl⟩)))))))
     ·refine qg 43 g18 rfl (sp 3 rfl (?_))
      obtain ⟨e19,g20,h⟩:=Aa h
      refine oGR rfl rfl (qI rfl FE g20 (sp 3 rfl (?_)))
      obtain ⟨v21,g22,h⟩:=Aa h
      refine oGR rfl rfl (qC (qs rfl (qs rfl (qs rfl Ar))) (Dj g22) (sp 2 rfl (evn (qk [1,3,53] rfl ?_))))
      rcases Ab h with ⟨g23,h⟩ | ⟨g23,h⟩
      ·exact qT rfl g23 (rn 1 rfl (Af ((by cases h; cases hr1; exact ⟨.inl rfl,rfl⟩))))
      ·refine qF rfl g23 (Ae (hK13 _ (rn 1 rfl ?_)))
       obtain ⟨o2,hl,hr2⟩:=Aa h
       have kXB2 : (.inl ()) = o2 -> Jn K12 [(1,.box [nI a0.1,dL Bk a0.2.1,dL Aq a0.2.2]),(3,nI y2)]:=by
        intro h σ' hk
        subst h
        replace h:=hr2
        try dsimp only at h
        exact hK12 _ (lh hk rfl (rg (sp 3 rfl (evn (hN _ _ h (okr rfl))))))
       refine Ax (fun (y4 : Int) => [(1,.box [nI a0.1,dL Bk a0.2.1,dL Aq a0.2.2]),(3,nI y2),(4,nI y4)]) _ _ _ _ hl (okr rfl) (fun _ => rfl) ?_
       rintro m y4 N h hN
       unfold EZ at h
       refine Ac fun K24 hK24 => rs (sp 4 rfl (?_))
       obtain ⟨e25,g26,h⟩:=Aa h
       refine qI rfl FE g26 (sp 4 rfl (evn ?_))
       rcases Ab h with ⟨g27,h⟩ | ⟨g27,h⟩
       ·refine qT rfl g27 (Ae (hK24 _ (Ac fun K28 hK28 => Au (rd (by kernel_rfl) (sd 3 rfl (?_))))))
        obtain ⟨e29,g30,h⟩:=Aa h
        refine ed rfl (qI rfl FE g30 (sd 3 rfl (?_)))
        obtain ⟨e31,g32,h⟩:=Aa h
        refine ed rfl (qI rfl AH g32 (sd 4 rfl (?_)))
        obtain ⟨v33,g34,h⟩:=Aa h
        refine ed rfl (qC (qs rfl (qs rfl (qs rfl Ar))) (Dj g34) (sd 1 rfl (BB ?_)))
        rcases Ab h with ⟨g35,h⟩ | ⟨g35,h⟩
        ·exact qT rfl g35 (rn 1 rfl (Af ((by cases h; cases hr2; cases hr1; exact ⟨.inl rfl,rfl⟩))))
        ·exact qF rfl g35 (Ae (hK28 _ (qk [1,3,4] rfl (rg (sp 3 rfl (evn (hN _ _ h (okr rfl))))))))
       ·exact qF rfl g27 (An (kXB2 (Option.some.inj h) _ (okr rfl)))
    ·exact qF rfl g11 (An (kXB1 (Option.some.inj h) _ (okr rfl)))
def F7 (a0 : List Y88) (a1 : Y51) (rec : Int -> Option (Sum (Unit) (Bool))) (y1 : Int) : Option (Sum (Unit) (Bool)):=cond (decide (y1 < (List.length a1.2.1 : Int))) (Ad (AK a1.2.1 y1) fun e5 => Ad (Bj a0 e5.1) fun v7 => cond (!v7.2) (some (.inr false)) (Ad (AK a1.2.1 y1) fun e10 => cond (v7.1.1 != (List.length e10.2 : Int)) (some (.inr false)) (rec (IntKind.i64.wrap (y1 + 1))))) (some (.inl ()))
def EC (x14 : Bool) : Option (Bool):=some x14
def DR (a0 : List Y88) (a1 : Y51) : Option (Bool):=Ad (Al (F7 a0 a1) fz 0) fun o1 => (match o1 with
  | .inl _ => (Ad (CS a1) fun v15 => cond v15 (Ad (A2 a0) fun v18 => EC v18) (EC false))
  | .inr r => some r)
theorem HV {a0 : List Y88} {a1 : Y51} {r : Bool} (h : DR a0 a1 = some r) : Ai Tryz.prog 40 [.agg [dL AB a0],.agg (Dg a1)] (.bool r):=by
 unfold DR at h
 refine st fb rfl (rn 1 rfl (Ac fun K1 hK1 => rn 1 rfl ?_))
 obtain ⟨o1,hl,hr1⟩:=Aa h
 have kXB1 : (.inl ()) = o1 -> Jn K1 [(2,.box [dL AB a0]),(3,.box [nI a1.1,dL Bk a1.2.1,dL Aq a1.2.2])]:=by
  intro h σ' hk
  subst h
  replace h:=hr1
  try dsimp only at h
  refine hK1 _ (lh hk rfl (rk fun K13 hK13 => ?_))
  have kJ2 : ∀ {x14 : Bool},EC x14 = some r -> Jn K13 [(4,.bool x14)]:=by
   intro x14 h σ' hk
   unfold EC at h
   exact hK13 _ (lh hk rfl (Af ((by cases h; exact ⟨.inl rfl,rfl⟩))))
  refine sp 1 rfl (?_)
  obtain ⟨v15,g16,h⟩:=Aa h
  refine qC (qa rfl (erg (erc rfl (erc (erD Bl _) (erc (erD Am _) rfl)))) Ar) (G9 g16) (sp 1 rfl (?_))
  rcases Ab h with ⟨g17,h⟩ | ⟨g17,h⟩
  ·refine qg 42 g17 rfl (sp 1 rfl (?_))
   obtain ⟨v18,g19,h⟩:=Aa h
   exact oGR rfl rfl (qC (qa rfl (erg (erc (erD AM _) rfl)) Ar) (BW g19) (sp 2 rfl (evn (kJ2 h _ (okr rfl)))))
  ·exact qg 42 g17 rfl (sp 4 rfl (evn (kJ2 h _ (okr rfl))))
 refine Ax (fun (y1 : Int) => [(2,.box [dL AB a0]),(3,.box [nI a1.1,dL Bk a1.2.1,dL Aq a1.2.2]),(5,nI y1)]) _ _ _ _ hl (okr rfl) (fun _ => rfl) ?_
 rintro m y1 N h hN
 unfold F7 at h
 refine Ac fun K2 hK2 => rn 1 rfl ?_
 rcases Ab h with ⟨g3,h⟩ | ⟨g3,h⟩
 ·refine qT rfl g3 (Ae (hK2 _ (Ac fun K4 hK4 => Au (rd (by kernel_rfl) (sd 4 rfl (?_))))))
  obtain ⟨e5,g6,h⟩:=Aa h
  refine ed rfl (qI rfl FE g6 (sd 2 rfl (?_)))
  obtain ⟨v7,g8,h⟩:=Aa h
  refine ed rfl (qC (qa rfl (erg (erc (erD AM _) rfl)) (qs rfl Ar)) (C6 g8) (sd 6 rfl (BB (rd (by kernel_rfl) (sd 3 rfl (?_))))))
  rcases Ab h with ⟨g9,h⟩ | ⟨g9,h⟩
  ·exact qgd 28 g9 rfl (sd 11 rfl (BB (qk [2,3,5,39] rfl (qT rfl rfl (rn 1 rfl (Af ((by cases h; cases hr1; exact ⟨.inl rfl,rfl⟩))))))))
  ·refine qgd 28 g9 rfl (sd 5 rfl (?_))
   obtain ⟨e10,g11,h⟩:=Aa h
   refine ed rfl (oGR rfl rfl (qI rfl FE g11 (sd 5 rfl (BB ?_))))
   rcases Ab h with ⟨g12,h⟩ | ⟨g12,h⟩
   ·exact qT rfl g12 (rn 1 rfl (Af ((by cases h; cases hr1; exact ⟨.inl rfl,rfl⟩))))
   ·exact qF rfl g12 (Ae (hK4 _ (rg (sp 3 rfl (evn (hN _ _ h (okr rfl)))))))
 ·exact qF rfl g3 (An (kXB1 (Option.some.inj h) _ (okr rfl)))
def FX (rec : ((List (List Int)) × (List (List Int)) × (List (List Int))) -> Option ((List (List Int)))) (y3 : List (List Int)) (x18 : List (List Int)) (x19 : List (List Int)) (x20 : List Int) (x22 : Bool) : Option ((List (List Int))):=cond x22 (chk (List.length y3 + List.length [x20] <= lim) (rec (x18,x19,(y3 ++ [x20])))) (rec (x18,x19,y3))
def FW (rec : ((List (List Int)) × (List (List Int)) × (List (List Int))) -> Option ((List (List Int)))) (y3 : List (List Int)) (x18 : List (List Int)) (x19 : List (List Int)) (x20 : List Int) : Option ((List (List Int))):=cond ((List.length y3 : Int) == 0) (FX rec y3 x18 x19 x20 true) (Ad (AK y3 (IntKind.i64.wrap ((List.length y3 : Int) - 1))) fun e26 => Ad (A5 e26 x20) fun v28 => FX rec y3 x18 x19 x20 (v28 != 0))
def CZ (rec : ((List (List Int)) × (List (List Int)) × (List (List Int))) -> Option ((List (List Int)))) (y1 : List (List Int)) (y2 : List (List Int)) (y3 : List (List Int)) (x16 : Int) : Option ((List (List Int))):=cond (decide (0 < x16)) (Ad (AK y2 0) fun e31 => chk ((0 : Int) <= 1 ∧ 1 <= (List.length y2 : Int) ∧ (List.length y2 : Int) <= (List.length y2 : Int)) (FW rec y3 y1 (BX y2 1 (List.length y2 : Int)) e31)) (Ad (AK y1 0) fun e34 => chk ((0 : Int) <= 1 ∧ 1 <= (List.length y1 : Int) ∧ (List.length y1 : Int) <= (List.length y1 : Int)) (FW rec y3 (BX y1 1 (List.length y1 : Int)) y2 e34))
def DA (rec : ((List (List Int)) × (List (List Int)) × (List (List Int))) -> Option ((List (List Int)))) (y1 : List (List Int)) (y2 : List (List Int)) (y3 : List (List Int)) (x13 : Bool) : Option ((List (List Int))):=cond x13 (cond ((List.length y1 : Int) == 0) (CZ rec y1 y2 y3 1) (cond (decide (0 < (List.length y2 : Int))) (Ad (AK y1 0) fun e39 => Ad (AK y2 0) fun e41 => Ad (A5 e39 e41) fun v43 => CZ rec y1 y2 y3 v43) (CZ rec y1 y2 y3 (-1)))) (some y3)
def BE  (rec : ((List (List Int)) × (List (List Int)) × (List (List Int))) -> Option ((List (List Int)))) (s : (List (List Int)) × (List (List Int)) × (List (List Int))) : Option ((List (List Int))):=match s with
  | (y1,y2,y3) => cond (decide (0 < (List.length y1 : Int))) (DA rec y1 y2 y3 true) (DA rec y1 y2 y3 (decide (0 < (List.length y2 : Int))))
def EH (rec : ((List (List Int))) -> Option ((List (List Int)))) (a0 : (List (List Int))) : Option ((List (List Int))):=cond (decide ((List.length a0 : Int) < 2)) (some a0) (chk ((0 : Int) <= 0 ∧ 0 <= IntKind.i64.wrap (Int.tdiv (List.length a0 : Int) 2) ∧ IntKind.i64.wrap (Int.tdiv (List.length a0 : Int) 2) <= (List.length a0 : Int)) (Ad (rec (BX a0 0 (IntKind.i64.wrap (Int.tdiv (List.length a0 : Int) 2)))) fun v4 => chk ((0 : Int) <= IntKind.i64.wrap (Int.tdiv (List.length a0 : Int) 2) ∧ IntKind.i64.wrap (Int.tdiv (List.length a0 : Int) 2) <= (List.length a0 : Int) ∧ (List.length a0 : Int) <= (List.length a0 : Int)) (Ad (rec (BX a0 (IntKind.i64.wrap (Int.tdiv (List.length a0 : Int) 2)) (List.length a0 : Int))) fun v7 => Ad (Al BE fz (v4,v7,([] : List (List Int)))) fun z10 => some z10)))
def Lg (a0 : List (List Int)) : Option ((List (List Int))):=Al EH fz a0
theorem PK {a0 : List (List Int)} {r : (List (List Int))} (h : Lg a0 = some r) : Ai Tryz.prog 112 [dL AG a0] (dL AG r):=by
 suffices key : ∀ mF (a0 : List (List Int)) (r : (List (List Int))),Al EH mF a0 = some r -> Ai Tryz.prog 112 [dL AG a0] (dL AG r) from key fz a0 r h
 intro mF
 induction mF with
 | zero => intro a0 r h; cases h
 | succ mF ih0 =>
  intro a0 r h
  have ih : ∀ {a0 : List (List Int)} {r : (List (List Int))},Al EH mF a0 = some r -> Ai Tryz.prog 112 [dL AG a0] (dL AG r):=fun h => ih0 _ _ h
  change EH (Al EH mF) a0 = some r at h
  unfold EH at h
  try dsimp only at h
  refine st aO rfl (rn 1 rfl (Ac fun K1 hK1 => rn 1 rfl ?_))
  rcases Ab h with ⟨g2,h⟩ | ⟨g2,h⟩
  ·exact qT rfl g2 (rn 1 rfl (Af ((by cases h; exact ⟨.inl rfl,rfl⟩))))
  ·refine qF rfl g2 (Ae (hK1 _ (rn 1 rfl (rs (sp 2 rfl (?_))))))
   obtain ⟨g3,h⟩:=Ah h
   refine qSl rfl Bv g3 (?_)
   obtain ⟨v4,g5,h⟩:=Aa h
   refine qC (qa rfl (erD As _) Ar) (ih g5) (sp 1 rfl (evn (rs (sp 2 rfl (?_)))))
   obtain ⟨g6,h⟩:=Ah h
   refine qSl rfl Bv g6 (?_)
   obtain ⟨v7,g8,h⟩:=Aa h
   refine qC (qa rfl (erD As _) Ar) (ih g8) (sp 1 rfl (evn (qk [4,5] rfl (rs (qBs Ag [] rfl rfl rfl AW (sp 1 rfl (evn (Ac fun K9 hK9 => ?_))))))))
   obtain ⟨o1,hl,hr1⟩:=Aa h
   have kXB1 : ∀ {z10 : List (List Int)},z10 = o1 -> Jn K9 [(6,oL 42 AG z10)]:=by
    intro z10 h σ' hk
    subst h
    replace h:=hr1
    try dsimp only at h
    exact hK9 _ (lh hk rfl (rn 1 rfl (HS [(2,dL AG z10)] ⟨(ke rfl (erO As _)),trivial⟩ rfl (Af ((by cases h; exact ⟨.inl rfl,rfl⟩))))))
   refine Ax (fun (s : (List (List Int)) × (List (List Int)) × (List (List Int))) => match s with | (y1,y2,y3) => [(4,dL AG y1),(5,dL AG y2),(6,oL 42 AG y3)]) _ _ _ _ hl (okr rfl) (fun _ => rfl) ?_
   rintro m ⟨y1,y2,y3⟩ N h hN
   unfold BE at h
   dsimp only at h
   refine Ac fun K11 hK11 => rk fun K12 hK12 => ?_
   have kJ2 : ∀ {x13 : Bool},DA (Al BE m) y1 y2 y3 x13 = some o1 -> Jn K12 [(4,dL AG y1),(5,dL AG y2),(6,oL 42 AG y3),(32,.bool x13)]:=by
    intro x13 h σ' hk
    unfold DA at h
    refine hK12 _ (lh hk rfl ?_)
    rcases Ab h with ⟨g14,h⟩ | ⟨g14,h⟩
    ·refine qT rfl g14 (Ae (hK11 _ (Au (rn 1 rfl (Ac fun K15 hK15 => Au (rn 1 rfl ?_))))))
     have kJ3 : ∀ {x16 : Int},CZ (Al BE m) y1 y2 y3 x16 = some o1 -> Jn K15 [(4,dL AG y1),(5,dL AG y2),(6,oL 42 AG y3),(7,nI x16)]:=by
      intro x16 h σ' hk
      unfold CZ at h
      refine hK15 _ (lh hk rfl (rs (qBs Aq [] rfl rfl rfl AH (sp 1 rfl (evn (Ac fun K17 hK17 => rn 1 rfl ?_))))))
      have kJ4 : ∀ {x18 : List (List Int)} {x19 : List (List Int)} {x20 : List Int},FW (Al BE m) y3 x18 x19 x20 = some o1 -> Jn K17 [(4,dL AG x18),(5,dL AG x19),(6,oL 42 AG y3),(8,dL Aq x20)]:=by
       intro x18 x19 x20 h σ' hk
       unfold FW at h
       refine hK17 _ (lh hk rfl (rk fun K21 hK21 => ?_))
       have kJ5 : ∀ {x22 : Bool},FX (Al BE m) y3 x18 x19 x20 x22 = some o1 -> Jn K21 [(4,dL AG x18),(5,dL AG x19),(6,oL 42 AG y3),(8,dL Aq x20),(74,.bool x22)]:=by
        intro x22 h σ' hk
        unfold FX at h
        refine hK21 _ (lh hk rfl ?_)
        rcases Ab h with ⟨g23,h⟩ | ⟨g23,h⟩
        ·refine qT rfl g23 (rg (sp 2 rfl (qBs AG [x20] rfl rfl rfl Bv (?_))))
         obtain ⟨g24,h⟩:=Ah h
         exact qA AG y3 [x20] rfl rfl (Ap Bv [x20]) rfl g24 (sp 1 rfl (evn (hN _ _ h (okr rfl))))
        ·exact qF rfl g23 (Ae (hN _ _ h (okr rfl)))
       refine sp 4 rfl (?_)
       rcases Ab h with ⟨g25,h⟩ | ⟨g25,h⟩
       ·exact qg 64 g25 rfl (sp 10 rfl (evn (kJ5 h _ (okr rfl))))
       ·refine qg 64 g25 rfl (sp 4 rfl (?_))
        obtain ⟨e26,g27,h⟩:=Aa h
        refine oGR rfl rfl (qI rfl Bv g27 (sp 2 rfl (?_)))
        obtain ⟨v28,g29,h⟩:=Aa h
        exact oGR rfl rfl (qC (qa rfl (erD Am _) (qa rfl (erD Am _) Ar)) (Bu g29) (sp 2 rfl (evn (kJ5 h _ (okr rfl)))))
      rcases Ab h with ⟨g30,h⟩ | ⟨g30,h⟩
      ·refine qT rfl g30 (rs (sp 1 rfl (?_)))
       obtain ⟨e31,g32,h⟩:=Aa h
       refine qI rfl Bv g32 (sp 2 rfl (evn (qk [4,5,6,8] rfl (rg (sp 1 rfl (?_))))))
       obtain ⟨g33,h⟩:=Ah h
       exact qSl rfl Bv g33 (sp 1 rfl (evn (kJ4 h _ (okr rfl))))
      ·refine qF rfl g30 (rs (sp 1 rfl (?_)))
       obtain ⟨e34,g35,h⟩:=Aa h
       refine qI rfl Bv g35 (sp 2 rfl (evn (rg (sp 1 rfl (?_)))))
       obtain ⟨g36,h⟩:=Ah h
       exact qSl rfl Bv g36 (sp 1 rfl (evn (kJ4 h _ (okr rfl))))
     rcases Ab h with ⟨g37,h⟩ | ⟨g37,h⟩
     ·exact qT rfl g37 (rg (sp 1 rfl (evn (kJ3 h _ (okr rfl)))))
     ·refine qF rfl g37 (rn 1 rfl ?_)
      rcases Ab h with ⟨g38,h⟩ | ⟨g38,h⟩
      ·refine qT rfl g38 (rgd (by kernel_rfl) (sd 1 rfl (?_)))
       obtain ⟨e39,g40,h⟩:=Aa h
       refine ed rfl (qI rfl Bv g40 (sd 2 rfl (?_)))
       obtain ⟨e41,g42,h⟩:=Aa h
       refine ed rfl (qI rfl Bv g42 (sd 1 rfl (?_)))
       obtain ⟨v43,g44,h⟩:=Aa h
       exact ed rfl (qC (qa rfl (erD Am _) (qa rfl (erD Am _) Ar)) (Bu g44) (sd 1 rfl (BB (kJ3 h _ (okr rfl)))))
      ·exact qF rfl g38 (rg (sp 1 rfl (evn (kJ3 h _ (okr rfl)))))
    ·exact qF rfl g14 (An (kXB1 (Option.some.inj h) _ (okr rfl)))
   refine sp 4 rfl (?_)
   rcases Ab h with ⟨g45,h⟩ | ⟨g45,h⟩
   ·exact qg 28 g45 rfl (sp 4 rfl (evn (kJ2 h _ (okr rfl))))
   ·exact qg 28 g45 rfl (sp 4 rfl (evn (kJ2 h _ (okr rfl))))
def FA (a0 : Int) (a1 : List (List Int)) (rec : Int -> Option (Sum (Unit) (Y32 × Bool))) (y1 : Int) : Option (Sum (Unit) (Y32 × Bool)):=cond (decide (y1 < (List.length a1 : Int))) (Ad (AK a1 y1) fun e5 => cond ((List.length e5 : Int) != a0) (some (.inr ((0,[]),false))) (Ad (AK a1 y1) fun e8 => Ad (B5 e8) fun v10 => cond (!v10) (some (.inr ((0,[]),false))) (rec (IntKind.i64.wrap (y1 + 1))))) (some (.inl ()))
def B3 (a0 : Int) (a1 : List (List Int)) : Option (Y32 × Bool):=Ad (Al (FA a0 a1) fz 0) fun o1 => (match o1 with
  | .inl _ => (Ad (Lg a1) fun v13 => Ad (EO (a0,v13)) fun v15 => Ad (AD v15) fun v18 => cond (!v18) (some ((0,[]),false)) (some (v15,true)))
  | .inr r => some r)
theorem EF {a0 : Int} {a1 : List (List Int)} {r : Y32 × Bool} (h : B3 a0 a1 = some r) : Ai Tryz.prog 84 [nI a0,dL AG a1] (.tup [.agg (GI r.1),.bool r.2]):=by
 unfold B3 at h
 refine st fZ rfl (rn 1 rfl (Ac fun K1 hK1 => rn 1 rfl ?_))
 obtain ⟨o1,hl,hr1⟩:=Aa h
 have kXB1 : (.inl ()) = o1 -> Jn K1 [(0,nI a0),(1,dL AG a1),(4,.box [nI 0,oL 42 Ag []])]:=by
  intro h σ' hk
  subst h
  replace h:=hr1
  try dsimp only at h
  refine hK1 _ (lh hk rfl (rs (sp 2 rfl (?_))))
  obtain ⟨v13,g14,h⟩:=Aa h
  refine qC (qa rfl (erD As _) Ar) (PK g14) (sp 1 rfl (?_))
  obtain ⟨v15,g16,h⟩:=Aa h
  refine qC (qa rfl (erg (erc rfl (erc (erD As _) rfl))) Ar) (GF g16) (sp 2 rfl (evn (Ac fun K17 hK17 => rs (sp 1 rfl (?_)))))
  obtain ⟨v18,g19,h⟩:=Aa h
  refine qC (qa rfl (erg (erc rfl (erc (erD AS _) rfl))) Ar) (AJ g19) (sp 1 rfl (evn ?_))
  rcases Ab h with ⟨g20,h⟩ | ⟨g20,h⟩
  ·exact qT rfl g20 (rn 1 rfl (Af ((by cases h; exact ⟨.inl rfl,rfl⟩))))
  ·exact qF rfl g20 (Ae (hK17 _ (rn 1 rfl (Af ((by cases h; exact ⟨.inl rfl,rfl⟩))))))
 refine Ax (fun (y1 : Int) => [(0,nI a0),(1,dL AG a1),(4,.box [nI 0,oL 42 Ag []]),(6,nI y1)]) _ _ _ _ hl (okr rfl) (fun _ => rfl) ?_
 rintro m y1 N h hN
 unfold FA at h
 refine Ac fun K2 hK2 => rn 1 rfl ?_
 rcases Ab h with ⟨g3,h⟩ | ⟨g3,h⟩
 ·refine qT rfl g3 (Ae (hK2 _ (Ac fun K4 hK4 => Au (rs (sp 2 rfl (?_))))))
  obtain ⟨e5,g6,h⟩:=Aa h
  refine qI rfl Bv g6 (sp 5 rfl (?_))
  rcases Ab h with ⟨g7,h⟩ | ⟨g7,h⟩
  ·exact qg 21 g7 rfl (sp 7 rfl (evn (qT rfl rfl (rn 1 rfl (Af ((by cases h; cases hr1; exact ⟨.inl rfl,rfl⟩)))))))
  ·refine qg 21 g7 rfl (sp 2 rfl (?_))
   obtain ⟨e8,g9,h⟩:=Aa h
   refine oGR rfl rfl (qI rfl Bv g9 (sp 1 rfl (?_)))
   obtain ⟨v10,g11,h⟩:=Aa h
   refine oGR rfl rfl (qC (qa rfl (erD Am _) Ar) (Gk g11) (sp 2 rfl (evn (qk [0,1,4,6,28] rfl ?_))))
   rcases Ab h with ⟨g12,h⟩ | ⟨g12,h⟩
   ·exact qT rfl g12 (rn 1 rfl (Af ((by cases h; cases hr1; exact ⟨.inl rfl,rfl⟩))))
   ·exact qF rfl g12 (Ae (hK4 _ (rg (sp 3 rfl (evn (hN _ _ h (okr rfl)))))))
 ·exact qF rfl g3 (An (kXB1 (Option.some.inj h) _ (okr rfl)))
def IOQ (x : List Int) : List V:=[aL Aq x]
theorem XK (x : List Int) : (IOQ x).length = 1:=rfl
theorem FJ (x : List Int) : erL (IOQ x) = AG x:=(erc (erG Am _) rfl)
def HK (x : Y88) : List V:=[.str x.1,nI x.2.1,aL IOQ x.2.2]
theorem gM (x : Y88) : (HK x).length = 3:=rfl
theorem Fo (x : Y88) : erL (HK x) = AB x:=(erc rfl (erc rfl (erc (erG FJ _) rfl)))
def KM (x : HI) : List V:=[.str x.1,aL Aq x.2]
theorem Vx (x : HI) : (KM x).length = 2:=rfl
theorem Mc (x : HI) : erL (KM x) = Bk x:=(erc rfl (erc (erG Am _) rfl))
theorem CH (x : List Int) : Fh (Ag x) = true:=(dcc (dco (fun _ => rfl) 3 _) dcn)
theorem R7 (x : HI) : IM (KM x) = true:=(acc rfl (acc (aca (fun _ => rfl) _) rfl))
theorem G4 (x : List Int) : IM (IOQ x) = true:=(acc (aca (fun _ => rfl) _) rfl)
theorem KA (x : Y88) : IM (HK x) = true:=(acc rfl (acc rfl (acc (aca G4 _) rfl)))
theorem RV (x : HI) : BQ (Bk x) = true:=(bcc rfl (bcc (F9 (fun _ => rfl) _) rfl))
theorem SQ (x : HI) : Iv (Bk x) = KM x:=(vcc rfl (vcc (J8 (fun _ => rfl) _) rfl))
theorem Iw (x : List Int) : BQ (AG x) = true:=(bcc (F9 (fun _ => rfl) _) rfl)
theorem MU (x : Y88) : BQ (AB x) = true:=(bcc rfl (bcc rfl (bcc (F9 Iw _) rfl)))
theorem IA (x : List Int) : Iv (AG x) = IOQ x:=(vcc (J8 (fun _ => rfl) _) rfl)
theorem Ng (x : Y88) : Iv (AB x) = HK x:=(vcc rfl (vcc rfl (vcc (J8 IA _) rfl)))
def FY (rec : ((List Int) × Bool × Int) -> Option ((List Int) × Bool)) (v6 : Y32 × Bool) (y5 : Int) (y9 : List Int) (y11 : Int) (e23 : Int) (x26 : Bool) : Option ((List Int) × Bool):=chk (0 < List.length y9) (Ad (AK v6.1.2 y5) fun e29 => Ad (AK e29 y11) fun e31 => Ad (AK y9 e23) fun e33 => rec ((It y9 e23 e31),x26,(IntKind.i64.wrap (y11 + 1))))
def C0 (a1 : Y51) (a2 : Int) (v6 : Y32 × Bool) (y5 : Int) (rec : ((List Int) × Bool × Int) -> Option ((List Int) × Bool)) (s : (List Int) × Bool × Int) : Option ((List Int) × Bool):=match s with
  | (y9,y10,y11) => cond (decide (y11 < v6.1.1)) (cond y10 (Ad (AK a1.2.1 a2) fun e21 => Ad (AK e21.2 y11) fun e23 => Ad (AK y9 e23) fun e35 => cond (e35 == (-1)) (FY rec v6 y5 y9 y11 e23 true) (Ad (AK y9 e23) fun e38 => Ad (AK v6.1.2 y5) fun e40 => Ad (AK e40 y11) fun e42 => FY rec v6 y5 y9 y11 e23 (e38 == e42))) (some (y9,y10))) (some (y9,y10))
def FZ (rec : ((List (List Int)) × Int) -> Option ((List (List Int)))) (y5 : Int) (x44 : List (List Int)) : Option ((List (List Int))):=rec (x44,(IntKind.i64.wrap (y5 + 1)))
def DB (a0 : List Y88) (a1 : Y51) (a2 : Int) (a3 : List Int) (v6 : Y32 × Bool) (frec : ((List Y88) × Y51 × Int × (List Int)) -> Option ((List (List Int)))) (rec : ((List (List Int)) × Int) -> Option ((List (List Int)))) (s : (List (List Int)) × Int) : Option ((List (List Int))):=match s with
  | (y4,y5) => cond (decide (y5 < (List.length v6.1.2 : Int))) (chk (List.length ([] : List Int) + List.length a3 <= lim) (Ad (Al (C0 a1 a2 v6 y5) fz ((([] : List Int) ++ a3),true,0)) fun o2 => (match o2 with
  | (z15,z16) => (cond z16 (Ad (frec (a0,a1,(IntKind.i64.wrap (a2 + 1)),z15)) fun v46 => chk (List.length y4 + List.length v46 <= lim) (FZ rec y5 (y4 ++ v46))) (FZ rec y5 y4))))) (some y4)
def B4 (rec : ((List Y88) × Y51 × Int × (List Int)) -> Option ((List (List Int)))) (s : (List Y88) × Y51 × Int × (List Int)) : Option ((List (List Int))):=match s with
  | (a0,a1,a2,a3) => cond (a2 == (List.length a1.2.1 : Int)) (chk (List.length ([] : List Int) + List.length a3 <= lim) (some ([([] : List Int) ++ a3]))) (Ad (AK a1.2.1 a2) fun e4 => Ad (Bj a0 e4.1) fun v6 => Ad (Al (DB a0 a1 a2 a3 v6 rec) fz (([] : List (List Int)),0)) fun z9 => some z9)
def Lh (a0 : List Y88) (a1 : Y51) (a2 : Int) (a3 : List Int) : Option ((List (List Int))):=Al B4 fz (a0,a1,a2,a3)
theorem PN {a0 : List Y88} {a1 : Y51} {a2 : Int} {a3 : List Int} {r : (List (List Int))} (h : Lh a0 a1 a2 a3 = some r) : Ai Tryz.prog 87 [.agg [dL AB a0],.agg (Dg a1),nI a2,dL Aq a3] (oL 42 Ag r):=by
 suffices key : ∀ mF (a0 : List Y88) (a1 : Y51) (a2 : Int) (a3 : List Int) (r : (List (List Int))),Al B4 mF (a0,a1,a2,a3) = some r -> Ai Tryz.prog 87 [.agg [dL AB a0],.agg (Dg a1),nI a2,dL Aq a3] (oL 42 Ag r) from key fz a0 a1 a2 a3 r h
 intro mF
 induction mF with
 | zero => intro a0 a1 a2 a3 r h; cases h
 | succ mF ih0 =>
  intro a0 a1 a2 a3 r h
  have ih : ∀ {a0 : List Y88} {a1 : Y51} {a2 : Int} {a3 : List Int} {r : (List (List Int))},Al B4 mF (a0,a1,a2,a3) = some r -> Ai Tryz.prog 87 [.agg [dL AB a0],.agg (Dg a1),nI a2,dL Aq a3] (oL 42 Ag r):=fun h => ih0 _ _ _ _ _ h
  change B4 (Al B4 mF) (a0,a1,a2,a3) = some r at h
  unfold B4 at h
  try dsimp only at h
  refine sta gb rfl (OX (bcc (F9 MU _) rfl) (OX (bcc rfl (bcc (F9 RV _) (bcc (F9 (fun _ => rfl) _) rfl))) (OX rfl (OX (F9 (fun _ => rfl) _) rfl)))) (mvv (vag (vcc (J8 Ng _) rfl)) (mvv (vag (vcc rfl (vcc (J8 SQ _) (vcc (J8 (fun _ => rfl) _) rfl)))) (mvv rfl (mvv (J8 (fun _ => rfl) _) rfl)))) (dco CH 42 _) (rn 1 rfl (Ac fun K1 hK1 => rn 1 rfl ?_))
  rcases Ab h with ⟨g2,h⟩ | ⟨g2,h⟩
  ·refine qT rfl g2 (rs (qBs Aq [] rfl rfl rfl AH (sp 1 rfl (?_))))
   obtain ⟨g3,h⟩:=Ah h
   exact qA Aq ([] : List Int) a3 rfl rfl (Ap AH a3) (GJ (fun _ => rfl) _) g3 (qBs Ag [([] : List Int) ++ a3] rfl rfl rfl AW (sp 1 rfl (evn (Af ((by cases h; exact ⟨.inl rfl,rfl⟩))))))
  ·refine qF rfl g2 (Ae (hK1 _ (rs (qBs Ag [] rfl rfl rfl AW (sp 1 rfl (evn (rd (by kernel_rfl) (sd 4 rfl (?_)))))))))
   obtain ⟨e4,g5,h⟩:=Aa h
   refine ed rfl (qI rfl Vx g5 (sd 2 rfl (?_)))
   obtain ⟨v6,g7,h⟩:=Aa h
   refine ed rfl (qC (qa rfl (erg (erc (erG Fo _) rfl)) (qs rfl Ar)) (C6 g7) (sd 6 rfl (BB (Ac fun K8 hK8 => rn 1 rfl (qk [2,3,4,5,9,10,12] rfl ?_)))))
   obtain ⟨o1,hl,hr1⟩:=Aa h
   have kXB1 : ∀ {z9 : List (List Int)},z9 = o1 -> Jn K8 [(9,oL 42 Ag z9)]:=by
    intro z9 h σ' hk
    subst h
    replace h:=hr1
    try dsimp only at h
    exact hK8 _ (lh hk rfl (rn 1 rfl (Af ((by cases h; exact ⟨.inl rfl,rfl⟩)))))
   refine Ax (fun (s : (List (List Int)) × Int) => match s with | (y4,y5) => [(2,nI a2),(3,aL Aq a3),(4,.box [aL HK a0]),(5,.box [nI a1.1,aL KM a1.2.1,aL Aq a1.2.2]),(9,oL 42 Ag y4),(10,.box [nI v6.1.1,oL 42 Ag v6.1.2]),(12,nI y5)]) _ _ _ _ hl (okr rfl) (fun _ => rfl) ?_
   rintro m ⟨y4,y5⟩ N h hN
   unfold DB at h
   dsimp only at h
   refine Ac fun K10 hK10 => rn 1 rfl ?_
   rcases Ab h with ⟨g11,h⟩ | ⟨g11,h⟩
   ·refine qT rfl g11 (Ae (hK10 _ (Ac fun K12 hK12 => Au (rs (qBs Aq [] rfl rfl rfl AH (sp 1 rfl (?_)))))))
    obtain ⟨g13,h⟩:=Ah h
    refine qA Aq ([] : List Int) a3 rfl rfl (Ap AH a3) (GJ (fun _ => rfl) _) g13 (sp 1 rfl (evn (rn 1 rfl (Ac fun K14 hK14 => rn 1 rfl ?_))))
    obtain ⟨o2,hl,hr2⟩:=Aa h
    have kXB2 : ∀ {z15 : List Int} {z16 : Bool},(z15,z16) = o2 -> Jn K14 [(2,nI a2),(3,aL Aq a3),(4,.box [aL HK a0]),(5,.box [nI a1.1,aL KM a1.2.1,aL Aq a1.2.2]),(9,oL 42 Ag y4),(10,.box [nI v6.1.1,oL 42 Ag v6.1.2]),(12,nI y5),(13,oL 3 Aq z15),(14,.bool z16)]:=by
     intro z15 z16 h σ' hk
     subst h
     replace h:=hr2
     try dsimp only at h
     refine hK14 _ (lh hk rfl (rn 1 rfl ?_))
     have kJ4 : ∀ {x44 : List (List Int)},FZ (Al (DB a0 a1 a2 a3 v6 (Al B4 mF)) m) y5 x44 = some o1 -> Jn K12 [(2,nI a2),(3,aL Aq a3),(4,.box [aL HK a0]),(5,.box [nI a1.1,aL KM a1.2.1,aL Aq a1.2.2]),(9,oL 42 Ag x44),(10,.box [nI v6.1.1,oL 42 Ag v6.1.2]),(12,nI y5)]:=by
      intro x44 h σ' hk
      unfold FZ at h
      exact hK12 _ (lh hk rfl (rg (sp 3 rfl (evn (hN _ _ h (okr rfl))))))
     rcases Ab h with ⟨g45,h⟩ | ⟨g45,h⟩
     ·refine qT rfl g45 (rg (sp 6 rfl (?_)))
      obtain ⟨v46,g47,h⟩:=Aa h
      refine qC (qa rfl (erg (erc (erG Fo _) rfl)) (qa rfl (erg (erc rfl (erc (erG Mc _) (erc (erG Am _) rfl)))) (qs rfl (qa rfl (erD Am _) Ar)))) (ih g47) (?_)
      obtain ⟨g48,h⟩:=Ah h
      exact qA Ag y4 v46 rfl rfl (Ap AW v46) rfl g48 (sp 1 rfl (evn (kJ4 h _ (okr rfl))))
     ·exact qF rfl g45 (Ae (kJ4 h _ (okr rfl)))
    refine Ax (fun (s : (List Int) × Bool × Int) => match s with | (y9,y10,y11) => [(2,nI a2),(3,aL Aq a3),(4,.box [aL HK a0]),(5,.box [nI a1.1,aL KM a1.2.1,aL Aq a1.2.2]),(9,oL 42 Ag y4),(10,.box [nI v6.1.1,oL 42 Ag v6.1.2]),(12,nI y5),(13,oL 3 Aq y9),(14,.bool y10),(15,nI y11)]) _ _ _ _ hl (okr rfl) (fun _ => rfl) ?_
    rintro m ⟨y9,y10,y11⟩ N h hN
    unfold C0 at h
    dsimp only at h
    refine Ac fun K17 hK17 => rs (sp 5 rfl (?_))
    rcases Ab h with ⟨g18,h⟩ | ⟨g18,h⟩
    ·refine qg 52 g18 rfl (sp 2 rfl (evn ?_))
     rcases Ab h with ⟨g19,h⟩ | ⟨g19,h⟩
     ·refine qT rfl g19 (Ae (hK17 _ (Ac fun K20 hK20 => Au (rs (sp 3 rfl (?_))))))
      obtain ⟨e21,g22,h⟩:=Aa h
      refine qI rfl Vx g22 (sp 3 rfl (?_))
      obtain ⟨e23,g24,h⟩:=Aa h
      refine qI rfl AH g24 (sp 2 rfl (evn (rdk (by kernel_rfl) fun K25 hK25 => ?_)))
      have kJ3 : ∀ {x26 : Bool},FY (Al (C0 a1 a2 v6 y5) m) v6 y5 y9 y11 e23 x26 = some o2 -> Jn K25 [(2,nI a2),(3,aL Aq a3),(4,.box [aL HK a0]),(5,.box [nI a1.1,aL KM a1.2.1,aL Aq a1.2.2]),(9,oL 42 Ag y4),(10,.box [nI v6.1.1,oL 42 Ag v6.1.2]),(12,nI y5),(13,oL 3 Aq y9),(14,.bool x26),(15,nI y11),(16,nI e23)]:=by
       intro x26 h σ' hk
       unfold FY at h
       refine hK25 _ (lh hk rfl (qk [2,3,4,5,9,10,12,13,14,15,16] rfl ?_))
       obtain ⟨g27,h⟩:=Ah h
       refine Ih (gLs (q:=900003) (b:=13) rfl rfl rfl g27 ?_)
       intro gg28 mm28
       refine qk [2,3,4,5,9,10,12,13,14,15,16,900003] rfl (Rl (rg (sp 5 rfl (?_))))
       obtain ⟨e29,g30,h⟩:=Aa h
       refine qI rfl AW g30 (sp 2 rfl (?_))
       obtain ⟨e31,g32,h⟩:=Aa h
       refine qI rfl AH g32 (sp 1 rfl (?_))
       obtain ⟨e33,g34,h⟩:=Aa h
       refine qIt rfl rfl rfl rfl g34 (?_)
       refine qSt (y0:=e33) (i:=e23) (es:=1) 0 e31 [2,3,4,5,9,10,12,13,14,15] rfl rfl rfl rfl rfl rfl rfl rfl rfl rfl AH g34 (fun _ => rfl) (sdL (dcc rfl dcn)) (yc rfl (yc (acf (fun _ => rfl) _) (yc (snc (sA (aca KA _)) rfl) (yc (snc rfl (snc (sA (aca R7 _)) (snc (sA (aca (fun _ => rfl) _)) rfl))) (yc (sdL (dcf CH _)) (yc (snc rfl (snc (sO (dco CH 42 _)) rfl)) (yc rfl (yc rfl (yc rfl (yc rfl yn)))))))))) (?_)
       exact evn (gDs (q:=900003) (b:=13) rfl rfl rfl (sl rfl) (hK20 _ (rg (sp 3 rfl (evn (hN _ _ h (okr rfl)))))))
      refine sd 2 rfl (?_)
      obtain ⟨e35,g36,h⟩:=Aa h
      refine ed rfl (qI rfl AH g36 (sd 3 rfl (?_)))
      rcases Ab h with ⟨g37,h⟩ | ⟨g37,h⟩
      ·exact qgd 71 g37 rfl (sd 15 rfl (BB (kJ3 h _ (okr rfl))))
      ·refine qgd 71 g37 rfl (sd 2 rfl (?_))
       obtain ⟨e38,g39,h⟩:=Aa h
       refine ed rfl (oGR rfl rfl (qI rfl AH g39 (sd 4 rfl (?_))))
       obtain ⟨e40,g41,h⟩:=Aa h
       refine ed rfl (oGR rfl rfl (qI rfl AW g41 (sd 2 rfl (?_))))
       obtain ⟨e42,g43,h⟩:=Aa h
       exact ed rfl (oGR rfl rfl (qI rfl AH g43 (sd 4 rfl (BB (kJ3 h _ (okr rfl))))))
     ·exact qF rfl g19 (An (kXB2 (Option.some.inj h) _ (okr rfl)))
    ·exact qg 52 g18 rfl (sp 2 rfl (evn (qk [2,3,4,5,9,10,12,13,14,15,54] rfl (qF rfl rfl (An (kXB2 (Option.some.inj h) _ (okr rfl)))))))
   ·exact qF rfl g11 (An (kXB1 (Option.some.inj h) _ (okr rfl)))
def CQ (a1 : Y51) (rec : ((List Int)) -> Option ((List Int))) (y1 : (List Int)) : Option ((List Int)):=cond (decide ((List.length y1 : Int) < a1.1)) (chk (List.length y1 + List.length [-1] <= lim) (rec (y1 ++ [-1]))) (some y1)
def BZ (a0 : List Y88) (a1 : Y51) : Option (Y32):=Ad (DR a0 a1) fun v2 => cond (!v2) (some (0,[])) (Ad (Al (CQ a1) fz ([] : List Int)) fun z6 => Ad (Lh a0 a1 0 z6) fun v10 => Ad (B3 a1.1 v10) fun v12 => cond (!v12.2) (some (0,[])) (some v12.1))
theorem Jb {a0 : List Y88} {a1 : Y51} {r : Y32} (h : BZ a0 a1 = some r) : Ai Tryz.prog 39 [.agg [dL AB a0],.agg (Dg a1)] (.agg (GI r)):=by
 unfold BZ at h
 refine st fa rfl (rn 1 rfl (Ac fun K1 hK1 => rs (sp 2 rfl (?_))))
 obtain ⟨v2,g3,h⟩:=Aa h
 refine qC (qa rfl (erg (erc (erD AM _) rfl)) (qa rfl (erg (erc rfl (erc (erD Bl _) (erc (erD Am _) rfl)))) Ar)) (HV g3) (sp 1 rfl (evn ?_))
 rcases Ab h with ⟨g4,h⟩ | ⟨g4,h⟩
 ·exact qT rfl g4 (rn 1 rfl (Af ((by cases h; exact ⟨.inl rfl,rfl⟩))))
 ·refine qF rfl g4 (Ae (hK1 _ (rs (qBs Aq [] rfl rfl rfl AH (sp 1 rfl (evn (Ac fun K5 hK5 => ?_)))))))
  obtain ⟨o1,hl,hr1⟩:=Aa h
  have kXB1 : ∀ {z6 : List Int},z6 = o1 -> Jn K5 [(2,.box [dL AB a0]),(3,.box [nI a1.1,dL Bk a1.2.1,dL Aq a1.2.2]),(4,.box [nI 0,oL 42 Ag []]),(5,oL 3 Aq z6)]:=by
   intro z6 h σ' hk
   subst h
   replace h:=hr1
   try dsimp only at h
   refine hK5 _ (lh hk rfl (rd (by kernel_rfl) (sd 5 rfl (?_))))
   obtain ⟨v10,g11,h⟩:=Aa h
   refine ed rfl (qC (qa rfl (erg (erc (erD AM _) rfl)) (qa rfl (erg (erc rfl (erc (erD Bl _) (erc (erD Am _) rfl)))) (qs rfl (qa rfl (erD Am _) Ar)))) (PN g11) (?_))
   obtain ⟨v12,g13,h⟩:=Aa h
   refine ed rfl (qC (qs rfl (qa rfl (erO AS _) Ar)) (EF g13) (sd 6 rfl (BB (Ac fun K14 hK14 => rn 1 rfl ?_))))
   rcases Ab h with ⟨g15,h⟩ | ⟨g15,h⟩
   ·exact qT rfl g15 (rn 1 rfl (Af ((by cases h; exact ⟨.inl rfl,rfl⟩))))
   ·exact qF rfl g15 (Ae (hK14 _ (rn 1 rfl (Af ((by cases h; exact ⟨.inl rfl,rfl⟩))))))
  refine Ax (fun (y1 : List Int) => [(2,.box [dL AB a0]),(3,.box [nI a1.1,dL Bk a1.2.1,dL Aq a1.2.2]),(4,.box [nI 0,oL 42 Ag []]),(5,oL 3 Aq y1)]) _ _ _ _ hl (okr rfl) (fun _ => rfl) ?_
  rintro m y1 N h hN
  unfold CQ at h
  refine Ac fun K7 hK7 => rn 1 rfl ?_
  rcases Ab h with ⟨g8,h⟩ | ⟨g8,h⟩
  ·refine qT rfl g8 (Ae (hK7 _ (Au (rg (sp 1 rfl (qBs Aq [-1] rfl rfl rfl AH (?_)))))))
   obtain ⟨g9,h⟩:=Ah h
   exact qA Aq y1 [-1] rfl rfl (Ap AH [-1]) rfl g9 (sp 1 rfl (evn (hN _ _ h (okr rfl))))
  ·exact qF rfl g8 (An (kXB1 (Option.some.inj h) _ (okr rfl)))
def Av (x : Y43) : List V:=[nI x.1,oL 42 Ag x.2.1,oL 3 Aq x.2.2]
theorem Dw (x : Y43) : (Av x).length = 3:=rfl
theorem Hn (x : Y43) : erL (Av x) = A7 x:=(erc rfl (erc (erO AS _) (erc (erO Am _) rfl)))
def Bz (a0 : Y32) (rec : ((List Int) × Int) -> Option ((List Int))) (s : (List Int) × Int) : Option ((List Int)):=match s with
  | (y1,y2) => cond (decide (y2 < (List.length a0.2 : Int))) (chk (List.length y1 + List.length [1] <= lim) (rec ((y1 ++ [1]),(IntKind.i64.wrap (y2 + 1))))) (some y1)
def Ce (a0 : Y32) : Option (Y43 × Bool):=Ad (AD a0) fun v2 => cond (!v2) (some ((0,[],[]),false)) (Ad (EO a0) fun v5 => Ad (Al (Bz a0) fz (([] : List Int),0)) fun z8 => some ((a0.1,v5.2,z8),true))
theorem I0 {a0 : Y32} {r : Y43 × Bool} (h : Ce a0 = some r) : Ai Tryz.prog 109 [.agg (ER a0)] (.tup [.agg (Av r.1),.bool r.2]):=by
 unfold Ce at h
 refine st aK rfl (rn 1 rfl (Ac fun K1 hK1 => rs (sp 1 rfl (?_))))
 obtain ⟨v2,g3,h⟩:=Aa h
 refine qC (qa rfl (erg (erc rfl (erc (erD As _) rfl))) Ar) (AJ g3) (sp 1 rfl (evn ?_))
 rcases Ab h with ⟨g4,h⟩ | ⟨g4,h⟩
 ·exact qT rfl g4 (rn 1 rfl (Af ((by cases h; exact ⟨.inl rfl,rfl⟩))))
 ·refine qF rfl g4 (Ae (hK1 _ (rs (sp 1 rfl (?_)))))
  obtain ⟨v5,g6,h⟩:=Aa h
  refine qC (qa rfl (erg (erc rfl (erc (erD As _) rfl))) Ar) (GF g6) (sp 2 rfl (evn (rn 1 rfl (Ac fun K7 hK7 => rn 1 rfl ?_))))
  obtain ⟨o1,hl,hr1⟩:=Aa h
  have kXB1 : ∀ {z8 : List Int},z8 = o1 -> Jn K7 [(2,.box [nI 0,oL 42 Ag [],oL 3 Aq []]),(5,.box [nI a0.1,oL 42 Ag v5.2,oL 3 Aq z8])]:=by
   intro z8 h σ' hk
   subst h
   replace h:=hr1
   try dsimp only at h
   exact hK7 _ (lh hk rfl (rn 1 rfl (Af ((by cases h; exact ⟨.inl rfl,rfl⟩)))))
  refine Ax (fun (s : (List Int) × Int) => match s with | (y1,y2) => [(1,.box [nI a0.1,dL AG a0.2]),(2,.box [nI 0,oL 42 Ag [],oL 3 Aq []]),(5,.box [nI a0.1,oL 42 Ag v5.2,oL 3 Aq y1]),(6,nI y2)]) _ _ _ _ hl (okr rfl) (fun _ => rfl) ?_
  rintro m ⟨y1,y2⟩ N h hN
  unfold Bz at h
  dsimp only at h
  refine Ac fun K9 hK9 => rn 1 rfl ?_
  rcases Ab h with ⟨g10,h⟩ | ⟨g10,h⟩
  ·refine qT rfl g10 (Ae (hK9 _ (Ac fun K11 hK11 => Au (rg (sp 2 rfl (qBs Aq [1] rfl rfl rfl AH (?_)))))))
   obtain ⟨g12,h⟩:=Ah h
   exact qA Aq y1 [1] rfl rfl (Ap AH [1]) rfl g12 (sp 2 rfl (evn (hK11 _ (rg (sp 3 rfl (evn (hN _ _ h (okr rfl))))))))
  ·exact qF rfl g10 (An (kXB1 (Option.some.inj h) _ (okr rfl)))
def D8 (a0 : Y43) (rec : Int -> Option (Sum (Unit) (Bool))) (y1 : Int) : Option (Sum (Unit) (Bool)):=cond (decide (y1 < (List.length a0.2.2 : Int))) (Ad (AK a0.2.2 y1) fun e10 => cond (e10 == 0) (some (.inr false)) (Ad (AK a0.2.2 y1) fun e13 => Ad (Du e13 (-1000000) 1000000) fun v15 => cond (!v15) (some (.inr false)) (rec (IntKind.i64.wrap (y1 + 1))))) (some (.inl ()))
def Bh (a0 : Y43) : Option (Bool):=cond ((List.length a0.2.1 : Int) != (List.length a0.2.2 : Int)) (some false) (Ad (AD (a0.1,a0.2.1)) fun v3 => cond (!v3) (some false) (Ad (Al (D8 a0) fz 0) fun o1 => (match o1 with
  | .inl _ => (some true)
  | .inr r => some r)))
theorem ED {a0 : Y43} {r : Bool} (h : Bh a0 = some r) : Ai Tryz.prog 35 [.agg (A7 a0)] (.bool r):=by
 unfold Bh at h
 refine st eW rfl (rn 1 rfl (Ac fun K1 hK1 => rs (sp 8 rfl (?_))))
 rcases Ab h with ⟨g2,h⟩ | ⟨g2,h⟩
 ·exact qg 11 g2 rfl (sp 8 rfl (evn (qT rfl rfl (rn 1 rfl (Af ((by cases h; exact ⟨.inl rfl,rfl⟩)))))))
 ·refine qg 11 g2 rfl (sp 5 rfl (?_))
  obtain ⟨v3,g4,h⟩:=Aa h
  refine oGR rfl rfl (qC (qa rfl (erg (erc rfl (erc (erD As _) rfl))) Ar) (AJ g4) (sp 2 rfl (evn ?_)))
  rcases Ab h with ⟨g5,h⟩ | ⟨g5,h⟩
  ·exact qT rfl g5 (rn 1 rfl (qk [2] rfl (Af ((by cases h; exact ⟨.inl rfl,rfl⟩)))))
  ·refine qF rfl g5 (Ae (hK1 _ (Ac fun K6 hK6 => rn 1 rfl ?_)))
   obtain ⟨o1,hl,hr1⟩:=Aa h
   have kXB1 : (.inl ()) = o1 -> Jn K6 []:=by
    intro h σ' hk
    subst h
    replace h:=hr1
    try dsimp only at h
    exact hK6 _ (lh hk rfl (rn 1 rfl (Af ((by cases h; exact ⟨.inl rfl,rfl⟩)))))
   refine Ax (fun (y1 : Int) => [(1,.box [nI a0.1,dL AG a0.2.1,dL Aq a0.2.2]),(3,nI y1)]) _ _ _ _ hl (okr rfl) (fun _ => rfl) ?_
   rintro m y1 N h hN
   unfold D8 at h
   refine Ac fun K7 hK7 => rn 1 rfl ?_
   rcases Ab h with ⟨g8,h⟩ | ⟨g8,h⟩
   ·refine qT rfl g8 (Ae (hK7 _ (Ac fun K9 hK9 => Au (rs (sp 3 rfl (?_))))))
    obtain ⟨e10,g11,h⟩:=Aa h
    refine qI rfl AH g11 (sp 3 rfl (?_))
    rcases Ab h with ⟨g12,h⟩ | ⟨g12,h⟩
    ·exact qg 33 g12 rfl (sp 8 rfl (evn (qT rfl rfl (rn 1 rfl (Af ((by cases h; cases hr1; exact ⟨.inl rfl,rfl⟩)))))))
    ·refine qg 33 g12 rfl (sp 3 rfl (?_))
     obtain ⟨e13,g14,h⟩:=Aa h
     refine oGR rfl rfl (qI rfl AH g14 (sp 1 rfl (?_)))
     obtain ⟨v15,g16,h⟩:=Aa h
     refine oGR rfl rfl (qC (qs rfl (qs rfl (qs rfl Ar))) (Dj g16) (sp 2 rfl (evn (qk [1,3,41] rfl ?_))))
     rcases Ab h with ⟨g17,h⟩ | ⟨g17,h⟩
     ·exact qT rfl g17 (rn 1 rfl (Af ((by cases h; cases hr1; exact ⟨.inl rfl,rfl⟩))))
     ·exact qF rfl g17 (Ae (hK9 _ (rg (sp 3 rfl (evn (hN _ _ h (okr rfl)))))))
   ·exact qF rfl g8 (An (kXB1 (Option.some.inj h) _ trivial))
def Gp (a0 : Y32) (a1 : List Int) (rec : (Int × Int) -> Option (Int)) (s : Int × Int) : Option (Int):=match s with
  | (y1,y2) => cond (decide (y1 < y2)) (Ad (AK a0.2 (IntKind.i64.wrap (Int.tdiv (IntKind.i64.wrap (y1 + y2)) 2))) fun e5 => Ad (A5 e5 a1) fun v7 => cond (decide (v7 < 0)) (rec ((IntKind.i64.wrap ((IntKind.i64.wrap (Int.tdiv (IntKind.i64.wrap (y1 + y2)) 2)) + 1)),y2)) (rec (y1,(IntKind.i64.wrap (Int.tdiv (IntKind.i64.wrap (y1 + y2)) 2))))) (some y1)
def Gq (z2 : Int) (x11 : Bool) : Option (Int × Bool):=some (z2,x11)
def Fn (a0 : Y32) (a1 : List Int) : Option (Int × Bool):=Ad (Al (Gp a0 a1) fz (0,(List.length a0.2 : Int))) fun z2 => cond (decide (z2 < (List.length a0.2 : Int))) (Ad (AK a0.2 z2) fun e13 => Ad (A5 e13 a1) fun v15 => Gq z2 (v15 == 0)) (Gq z2 false)
theorem Jl {a0 : Y32} {a1 : List Int} {r : Int × Bool} (h : Fn a0 a1 = some r) : Ai Tryz.prog 85 [.agg (ER a0),dL Aq a1] (.tup [nI r.1,.bool r.2]):=by
 unfold Fn at h
 refine st f0 rfl (rn 3 rfl (Ac fun K1 hK1 => ?_))
 obtain ⟨o1,hl,hr1⟩:=Aa h
 have kXB1 : ∀ {z2 : Int},z2 = o1 -> Jn K1 [(1,dL Aq a1),(2,.box [nI a0.1,dL AG a0.2]),(6,nI z2)]:=by
  intro z2 h σ' hk
  subst h
  replace h:=hr1
  try dsimp only at h
  refine hK1 _ (lh hk rfl (rk fun K10 hK10 => ?_))
  have kJ2 : ∀ {x11 : Bool},Gq z2 x11 = some r -> Jn K10 [(4,nI z2),(5,.bool x11)]:=by
   intro x11 h σ' hk
   unfold Gq at h
   exact hK10 _ (lh hk rfl (Af ((by cases h; exact ⟨.inl rfl,rfl⟩))))
  refine sp 7 rfl (?_)
  rcases Ab h with ⟨g12,h⟩ | ⟨g12,h⟩
  ·refine qg 36 g12 rfl (sp 3 rfl (?_))
   obtain ⟨e13,g14,h⟩:=Aa h
   refine oGR rfl rfl (qI rfl Bv g14 (sp 2 rfl (?_)))
   obtain ⟨v15,g16,h⟩:=Aa h
   exact oGR rfl rfl (qC (qa rfl (erD Am _) (qa rfl (erD Am _) Ar)) (Bu g16) (sp 4 rfl (evn (kJ2 h _ (okr rfl)))))
  ·exact qg 36 g12 rfl (sp 11 rfl (evn (kJ2 h _ (okr rfl))))
 refine Ax (fun (s : Int × Int) => match s with | (y1,y2) => [(1,dL Aq a1),(2,.box [nI a0.1,dL AG a0.2]),(6,nI y1),(7,nI y2)]) _ _ _ _ hl (okr rfl) (fun _ => rfl) ?_
 rintro m ⟨y1,y2⟩ N h hN
 unfold Gp at h
 dsimp only at h
 refine Ac fun K3 hK3 => rn 1 rfl ?_
 rcases Ab h with ⟨g4,h⟩ | ⟨g4,h⟩
 ·refine qT rfl g4 (Ae (hK3 _ (Au (rn 1 rfl (rs (sp 3 rfl (?_)))))))
  obtain ⟨e5,g6,h⟩:=Aa h
  refine qI rfl Bv g6 (sp 2 rfl (?_))
  obtain ⟨v7,g8,h⟩:=Aa h
  refine qC (qa rfl (erD Am _) (qa rfl (erD Am _) Ar)) (Bu g8) (sp 1 rfl (evn ?_))
  rcases Ab h with ⟨g9,h⟩ | ⟨g9,h⟩
  ·exact qT rfl g9 (rg (sp 3 rfl (evn (hN _ _ h (okr rfl)))))
  ·exact qF rfl g9 (rg (sp 2 rfl (evn (hN _ _ h (okr rfl)))))
 ·exact qF rfl g4 (An (kXB1 (Option.some.inj h) _ (okr rfl)))
def FU (a1 : List (List Int)) (a2 : List Int) (v1 : Y32 × Bool) (rec : ((List Int) × Int) -> Option ((List Int))) (s : (List Int) × Int) : Option ((List Int)):=match s with
  | (y1,y2) => cond (decide (y2 < (List.length a1 : Int))) (Ad (AK a1 y2) fun e11 => Ad (Fn v1.1 e11) fun v13 => Ad (AK y1 v13.1) fun e15 => Ad (AK a2 y2) fun e17 => Ad (AK y1 v13.1) fun e19 => rec ((It y1 v13.1 (IntKind.i64.wrap (e15 + e17))),(IntKind.i64.wrap (y2 + 1)))) (some y1)
def FV (rec : ((List (Nat × (List Int))) × (List Int) × Int) -> Option ((List (Nat × (List Int))) × (List Int))) (y5 : Int) (x29 : List (Nat × (List Int))) (x30 : List Int) : Option ((List (Nat × (List Int))) × (List Int)):=rec (x29,x30,(IntKind.i64.wrap (y5 + 1)))
def EN (v1 : Y32 × Bool) (z7 : List Int) (rec : ((List (Nat × (List Int))) × (List Int) × Int) -> Option ((List (Nat × (List Int))) × (List Int))) (s : (List (Nat × (List Int))) × (List Int) × Int) : Option ((List (Nat × (List Int))) × (List Int)):=match s with
  | (y3,y4,y5) => cond (decide (y5 < (List.length (AA 0 v1.1.2) : Int))) (Ad (AK z7 y5) fun e27 => cond (e27 != 0) (Ad (AK (AA 0 v1.1.2) y5) fun e32 => chk (List.length y3 + List.length [e32] <= lim) (Ad (AK z7 y5) fun e35 => chk (List.length y4 + List.length [e35] <= lim) (FV rec y5 (y3 ++ [e32]) (y4 ++ [e35])))) (FV rec y5 y3 y4)) (some (y3,y4))
def Hb (a0 : Int) (a1 : List (List Int)) (a2 : List Int) : Option (Y43 × Bool):=Ad (B3 a0 a1) fun v1 => cond (!v1.2) (some ((0,[],[]),false)) (chk ((0 : Int) <= (List.length v1.1.2 : Int) ∧ Int.toNat (List.length v1.1.2 : Int) <= lim) (Ad (Al (FU a1 a2 v1) fz ((List.replicate (Int.toNat (List.length v1.1.2 : Int)) (0 : Int)),0)) fun z7 => Ad (Al (EN v1 z7) fz (([] : List (Nat × (List Int))),([] : List Int),0)) fun o2 => (match o2 with
  | (z22,z23) => (chk (okJ (v1.1.2) (HL z22) [] = true) (Ad (Bh (a0,List.map getM (HL z22),z23)) fun v40 => cond (!v40) (some ((0,[],[]),false)) (some ((a0,List.map getM (HL z22),z23),true)))))))
theorem LV {a0 : Int} {a1 : List (List Int)} {a2 : List Int} {r : Y43 × Bool} (h : Hb a0 a1 a2 = some r) : Ai Tryz.prog 36 [nI a0,dL AG a1,dL Aq a2] (.tup [.agg (Av r.1),.bool r.2]):=by
 unfold Hb at h
 refine st eX rfl (rn 1 rfl (rs (sp 2 rfl (?_))))
 obtain ⟨v1,g2,h⟩:=Aa h
 refine qC (qs rfl (qa rfl (erD As _) Ar)) (EF g2) (sp 6 rfl (evn (Ac fun K3 hK3 => rn 1 rfl ?_)))
 rcases Ab h with ⟨g4,h⟩ | ⟨g4,h⟩
 ·exact qT rfl g4 (rn 1 rfl (Af ((by cases h; exact ⟨.inl rfl,rfl⟩))))
 ·refine qF rfl g4 (Ae (hK3 _ (rs (sp 3 rfl (?_)))))
  obtain ⟨g5,h⟩:=Ah h
  refine qMu Aq (0 : Int) rfl rfl rfl rfl g5 rfl (qAu rfl rfl rfl rfl (evn (Ac fun K6 hK6 => rn 1 rfl (qk [0,1,2,6,8,10,11] rfl ?_))))
  obtain ⟨o1,hl,hr1⟩:=Aa h
  have kXB1 : ∀ {z7 : List Int},z7 = o1 -> Jn K6 [(0,nI a0),(6,.box [nI 0,oL 42 Ag [],oL 3 Aq []]),(8,.box [nI v1.1.1,oL 42 Ag v1.1.2]),(10,wL 3 Aq z7)]:=by
   intro z7 h σ' hk
   subst h
   replace h:=hr1
   try dsimp only at h
   refine hK6 _ (lh hk rfl (qk [0,6,8,10] rfl (Ih (gSb (f:=Ag) (l:=v1.1.2) (q:=900001) (b:=8) [nI v1.1.1] [] rfl rfl rfl (fun _ => rfl) ?_))))
   intro U us1 hU
   refine kp [(0,nI a0),(6,.box [nI 0,oL 42 Ag [],oL 3 Aq []]),(8,.box [nI v1.1.1,oL 42 (pE Ag U) (AA 0 v1.1.2)]),(10,wL 3 Aq z7),(900001,.gh us1 (List.map (fun x => Jo (Ag x)) v1.1.2))] rfl rfl (rn 1 rfl (Ac fun K21 hK21 => rn 1 rfl ?_))
   obtain ⟨o2,hl,hr2⟩:=Aa h
   have kXB2 : ∀ {z22 : List (Nat × (List Int))} {z23 : List Int},(z22,z23) = o2 -> Jn K21 [(6,.box [nI 0,oL 42 Ag [],oL 3 Aq []]),(14,.box [nI a0,oL 42 (pE Ag U) z22,oL 3 Aq z23]),(900001,.gh us1 (List.map (fun x => Jo (Ag x)) v1.1.2))]:=by
    intro z22 z23 h σ' hk
    subst h
    replace h:=hr2
    try dsimp only at h
    refine hK21 _ (lh hk rfl (Ac fun K38 hK38 => qk [6,14,900001] rfl ?_))
    obtain ⟨g39,h⟩:=Ah h
    refine Ih (gJb (f:=Ag) (l:=v1.1.2) (q:=900001) (b:=14) [nI a0] [oL 3 Aq z23] (HL z22) rfl Rq rfl rfl (fun _ => rfl) hU g39 (kp [(6,.box [nI 0,oL 42 Ag [],oL 3 Aq []]),(14,.box [nI a0,oL 42 Ag (List.map getM (HL z22)),oL 3 Aq z23])] rfl rfl (rs (sp 1 rfl (?_)))))
    obtain ⟨v40,g41,h⟩:=Aa h
    refine qC (qa rfl (erg (erc rfl (erc (erD AS _) (erc (erD Am _) rfl)))) Ar) (ED g41) (sp 1 rfl (evn ?_))
    rcases Ab h with ⟨g42,h⟩ | ⟨g42,h⟩
    ·exact qT rfl g42 (rn 1 rfl (Af ((by cases h; exact ⟨.inl rfl,rfl⟩))))
    ·exact qF rfl g42 (Ae (hK38 _ (rn 1 rfl (Af ((by cases h; exact ⟨.inl rfl,rfl⟩))))))
   refine Ax (fun (s : (List (Nat × (List Int))) × (List Int) × Int) => match s with | (y3,y4,y5) => [(6,.box [nI 0,oL 42 Ag [],oL 3 Aq []]),(8,.box [nI v1.1.1,oL 42 (pE Ag U) (AA 0 v1.1.2)]),(10,wL 3 Aq z7),(14,.box [nI a0,oL 42 (pE Ag U) y3,oL 3 Aq y4]),(15,nI y5),(900001,.gh us1 (List.map (fun x => Jo (Ag x)) v1.1.2))]) _ _ _ _ hl (okr rfl) (fun _ => rfl) ?_
   rintro m ⟨y3,y4,y5⟩ N h hN
   unfold EN at h
   dsimp only at h
   refine Ac fun K24 hK24 => rn 1 rfl ?_
   rcases Ab h with ⟨g25,h⟩ | ⟨g25,h⟩
   ·refine qT rfl g25 (Ae (hK24 _ (Ac fun K26 hK26 => Au (rs (sp 2 rfl (?_))))))
    obtain ⟨e27,g28,h⟩:=Aa h
    refine qIu rfl ⟨(Bc g28).1,(Bc g28).2.1⟩ (qLu 0 rfl rfl rfl AH g28 rfl rfl rfl (sp 1 rfl (evn ?_)))
    have kJ3 : ∀ {x29 : List (Nat × (List Int))} {x30 : List Int},FV (Al (EN v1 z7) m) y5 x29 x30 = some o2 -> Jn K26 [(6,.box [nI 0,oL 42 Ag [],oL 3 Aq []]),(8,.box [nI v1.1.1,oL 42 (pE Ag U) (AA 0 v1.1.2)]),(10,wL 3 Aq z7),(14,.box [nI a0,oL 42 (pE Ag U) x29,oL 3 Aq x30]),(15,nI y5),(900001,.gh us1 (List.map (fun x => Jo (Ag x)) v1.1.2))]:=by
     intro x29 x30 h σ' hk
     unfold FV at h
     exact hK26 _ (lh hk rfl (rg (sp 3 rfl (evn (hN _ _ h (okr rfl))))))
    rcases Ab h with ⟨g31,h⟩ | ⟨g31,h⟩
    ·refine qT rfl g31 (rd (by kernel_rfl) (sd 5 rfl (?_)))
     obtain ⟨e32,g33,h⟩:=Aa h
     refine ed rfl (qI rfl (zpE AW) g33 (sd 1 rfl (ed rfl (qBs (pE Ag U) [e32] rfl rfl rfl (zpE AW) (?_)))))
     obtain ⟨g34,h⟩:=Ah h
     refine ed rfl (qA (pE Ag U) y3 [e32] rfl rfl (Ap (zpE AW) [e32]) rfl g34 (sd 2 rfl (BB (rgd (by kernel_rfl) (sd 4 rfl (?_))))))
     obtain ⟨e35,g36,h⟩:=Aa h
     refine ed rfl (qIu rfl ⟨(Bc g36).1,(Bc g36).2.1⟩ (ed rfl (qLu 0 rfl rfl rfl AH g36 rfl rfl rfl (ed rfl (qBs Aq [e35] rfl rfl rfl AH (?_))))))
     obtain ⟨g37,h⟩:=Ah h
     exact ed rfl (qA Aq y4 [e35] rfl rfl (Ap AH [e35]) rfl g37 (sd 2 rfl (BB (kJ3 h _ (okr rfl)))))
    ·exact qF rfl g31 (Ae (kJ3 h _ (okr rfl)))
   ·exact qF rfl g25 (An (kXB2 (Option.some.inj h) _ (okr rfl)))
  refine Ax (fun (s : (List Int) × Int) => match s with | (y1,y2) => [(0,nI a0),(1,dL AG a1),(2,dL Aq a2),(6,.box [nI 0,oL 42 Ag [],oL 3 Aq []]),(8,.box [nI v1.1.1,oL 42 Ag v1.1.2]),(10,wL 3 Aq y1),(11,nI y2)]) _ _ _ _ hl (okr rfl) (fun _ => rfl) ?_
  rintro m ⟨y1,y2⟩ N h hN
  unfold FU at h
  dsimp only at h
  refine Ac fun K8 hK8 => rn 1 rfl ?_
  rcases Ab h with ⟨g9,h⟩ | ⟨g9,h⟩
  ·refine qT rfl g9 (Ae (hK8 _ (Ac fun K10 hK10 => Au (rd (by kernel_rfl) (sd 3 rfl (?_))))))
   obtain ⟨e11,g12,h⟩:=Aa h
   refine ed rfl (qI rfl Bv g12 (sd 1 rfl (?_)))
   obtain ⟨v13,g14,h⟩:=Aa h
   refine ed rfl (qC (qa rfl (erg (erc rfl (erc (erD AS _) rfl))) (qa rfl (erD Am _) Ar)) (Jl g14) (sd 5 rfl (BB (rgd (by kernel_rfl) (sd 4 rfl (?_))))))
   obtain ⟨e15,g16,h⟩:=Aa h
   refine ed rfl (qIu rfl ⟨(Bc g16).1,(Bc g16).2.1⟩ (ed rfl (qLu 0 rfl rfl rfl AH g16 rfl rfl rfl (sd 2 rfl (?_)))))
   obtain ⟨e17,g18,h⟩:=Aa h
   refine ed rfl (qI rfl AH g18 (sd 2 rfl (?_)))
   obtain ⟨e19,g20,h⟩:=Aa h
   exact ed rfl (qIu rfl ⟨(Bc g20).1,(Bc g20).2.1⟩ (ed rfl (qSu (IntKind.i64.wrap (e15 + e17)) rfl rfl AH ⟨(Bc g20).1,(Bc g20).2.1⟩ rfl rfl rfl rfl rfl rfl (BB (hK10 _ (rg (sp 3 rfl (evn (hN _ _ h (okr rfl))))))))))
  ·exact qF rfl g9 (An (kXB1 (Option.some.inj h) _ (okr rfl)))
def H3 (a0 : List Int) (a1 : List Int) (rec : ((List Int) × Int) -> Option ((List Int))) (s : (List Int) × Int) : Option ((List Int)):=match s with
  | (y1,y2) => cond (decide (y2 < (List.length a1 : Int))) (Ad (AK a1 y2) fun e6 => Ad (AK a0 e6) fun e8 => chk (List.length y1 + List.length [e8] <= lim) (rec ((y1 ++ [e8]),(IntKind.i64.wrap (y2 + 1))))) (some y1)
def HX (a0 : List Int) (a1 : List Int) : Option ((List Int)):=Ad (Al (H3 a0 a1) fz (([] : List Int),0)) fun z2 => some z2
theorem LW {a0 : List Int} {a1 : List Int} {r : (List Int)} (h : HX a0 a1 = some r) : Ai Tryz.prog 89 [dL Aq a0,dL Aq a1] (oL 3 Aq r):=by
 unfold HX at h
 refine st gd rfl (rn 1 rfl (rs (qBs Aq [] rfl rfl rfl AH (sp 1 rfl (evn (Ac fun K1 hK1 => rn 1 rfl ?_))))))
 obtain ⟨o1,hl,hr1⟩:=Aa h
 have kXB1 : ∀ {z2 : List Int},z2 = o1 -> Jn K1 [(5,oL 3 Aq z2)]:=by
  intro z2 h σ' hk
  subst h
  replace h:=hr1
  try dsimp only at h
  exact hK1 _ (lh hk rfl (rn 1 rfl (Af ((by cases h; exact ⟨.inl rfl,rfl⟩)))))
 refine Ax (fun (s : (List Int) × Int) => match s with | (y1,y2) => [(0,dL Aq a0),(1,dL Aq a1),(5,oL 3 Aq y1),(6,nI y2)]) _ _ _ _ hl (okr rfl) (fun _ => rfl) ?_
 rintro m ⟨y1,y2⟩ N h hN
 unfold H3 at h
 dsimp only at h
 refine Ac fun K3 hK3 => rn 1 rfl ?_
 rcases Ab h with ⟨g4,h⟩ | ⟨g4,h⟩
 ·refine qT rfl g4 (Ae (hK3 _ (Ac fun K5 hK5 => Au (rg (sp 4 rfl (?_))))))
  obtain ⟨e6,g7,h⟩:=Aa h
  refine qI rfl AH g7 (sp 1 rfl (?_))
  obtain ⟨e8,g9,h⟩:=Aa h
  refine qI rfl AH g9 (sp 1 rfl (qBs Aq [e8] rfl rfl rfl AH (?_)))
  obtain ⟨g10,h⟩:=Ah h
  exact qA Aq y1 [e8] rfl rfl (Ap AH [e8]) rfl g10 (sp 1 rfl (evn (hK5 _ (rg (sp 3 rfl (evn (hN _ _ h (okr rfl))))))))
 ·exact qF rfl g4 (An (kXB1 (Option.some.inj h) _ (okr rfl)))
def Ea (a0 : Y43) (a1 : List Int) (rec : Int -> Option (Sum (Unit) (Y43 × Bool))) (y1 : Int) : Option (Sum (Unit) (Y43 × Bool)):=cond (decide (y1 < (List.length a1 : Int))) (Ad (AK a1 y1) fun e5 => Ad (Du e5 0 (IntKind.i64.wrap (a0.1 - 1))) fun v7 => cond (!v7) (some (.inr ((0,[],[]),false))) (rec (IntKind.i64.wrap (y1 + 1)))) (some (.inl ()))
def CF (a0 : Y43) (a1 : List Int) (rec : ((List (List Int)) × Int) -> Option ((List (List Int)))) (s : (List (List Int)) × Int) : Option ((List (List Int))):=match s with
  | (y2,y3) => cond (decide (y3 < (List.length a0.2.1 : Int))) (Ad (AK a0.2.1 y3) fun e20 => Ad (HX e20 a1) fun v22 => chk (List.length y2 + List.length [v22] <= lim) (rec ((y2 ++ [v22]),(IntKind.i64.wrap (y3 + 1))))) (some y2)
def DT (a0 : Y43) (a1 : List Int) : Option (Y43 × Bool):=Ad (Al (Ea a0 a1) fz 0) fun o1 => (match o1 with
  | .inl _ => (Ad (Bh a0) fun v11 => cond (!v11) (some ((0,[],[]),false)) (cond (decide (5 < (List.length a1 : Int))) (some ((0,[],[]),false)) (Ad (Al (CF a0 a1) fz (([] : List (List Int)),0)) fun z16 => Ad (Hb (List.length a1 : Int) z16 a0.2.2) fun v25 => some (v25.1,v25.2))))
  | .inr r => some r)
theorem Kt {a0 : Y43} {a1 : List Int} {r : Y43 × Bool} (h : DT a0 a1 = some r) : Ai Tryz.prog 110 [.agg (A7 a0),dL Aq a1] (.tup [.agg (Av r.1),.bool r.2]):=by
 unfold DT at h
 refine st aM rfl (rn 1 rfl (Ac fun K1 hK1 => rn 1 rfl ?_))
 obtain ⟨o1,hl,hr1⟩:=Aa h
 have kXB1 : (.inl ()) = o1 -> Jn K1 [(1,dL Aq a1),(2,.box [nI a0.1,dL AG a0.2.1,dL Aq a0.2.2]),(4,.box [nI 0,oL 42 Ag [],oL 3 Aq []])]:=by
  intro h σ' hk
  subst h
  replace h:=hr1
  try dsimp only at h
  refine hK1 _ (lh hk rfl (Ac fun K10 hK10 => rs (sp 1 rfl (?_))))
  obtain ⟨v11,g12,h⟩:=Aa h
  refine qC (qa rfl (erg (erc rfl (erc (erD As _) (erc (erD Am _) rfl)))) Ar) (ED g12) (sp 2 rfl (?_))
  rcases Ab h with ⟨g13,h⟩ | ⟨g13,h⟩
  ·exact qg 30 g13 rfl (sp 4 rfl (evn (qT rfl rfl (rn 1 rfl (Af ((by cases h; exact ⟨.inl rfl,rfl⟩)))))))
  ·refine qg 30 g13 rfl (sp 4 rfl (evn ?_))
   rcases Ab h with ⟨g14,h⟩ | ⟨g14,h⟩
   ·exact qT rfl g14 (rn 1 rfl (Af ((by cases h; exact ⟨.inl rfl,rfl⟩))))
   ·refine qF rfl g14 (Ae (hK10 _ (rs (qBs Ag [] rfl rfl rfl AW (sp 1 rfl (evn (Ac fun K15 hK15 => rn 1 rfl (qk [1,2,4,7,8] rfl ?_))))))))
    obtain ⟨o2,hl,hr2⟩:=Aa h
    have kXB2 : ∀ {z16 : List (List Int)},z16 = o2 -> Jn K15 [(1,dL Aq a1),(2,.box [nI a0.1,dL AG a0.2.1,dL Aq a0.2.2]),(4,.box [nI 0,oL 42 Ag [],oL 3 Aq []]),(7,oL 42 Ag z16)]:=by
     intro z16 h σ' hk
     subst h
     replace h:=hr2
     try dsimp only at h
     refine hK15 _ (lh hk rfl (rs (sp 5 rfl (?_))))
     obtain ⟨v25,g26,h⟩:=Aa h
     exact qC (qs rfl (qa rfl (erD AS _) (qa rfl (erD Am _) Ar))) (LV g26) (sp 6 rfl (evn (rn 1 rfl (Af ((by cases h; exact ⟨.inl rfl,rfl⟩))))))
    refine Ax (fun (s : (List (List Int)) × Int) => match s with | (y2,y3) => [(1,dL Aq a1),(2,.box [nI a0.1,dL AG a0.2.1,dL Aq a0.2.2]),(4,.box [nI 0,oL 42 Ag [],oL 3 Aq []]),(7,oL 42 Ag y2),(8,nI y3)]) _ _ _ _ hl (okr rfl) (fun _ => rfl) ?_
    rintro m ⟨y2,y3⟩ N h hN
    unfold CF at h
    dsimp only at h
    refine Ac fun K17 hK17 => rn 1 rfl ?_
    rcases Ab h with ⟨g18,h⟩ | ⟨g18,h⟩
    ·refine qT rfl g18 (Ae (hK17 _ (Ac fun K19 hK19 => Au (rg (sp 4 rfl (?_))))))
     obtain ⟨e20,g21,h⟩:=Aa h
     refine qI rfl Bv g21 (sp 2 rfl (?_))
     obtain ⟨v22,g23,h⟩:=Aa h
     refine qC (qa rfl (erD Am _) (qa rfl (erD Am _) Ar)) (LW g23) (qBs Ag [v22] rfl rfl rfl AW (?_))
     obtain ⟨g24,h⟩:=Ah h
     exact qA Ag y2 [v22] rfl rfl (Ap AW [v22]) rfl g24 (sp 1 rfl (evn (hK19 _ (rg (sp 3 rfl (evn (hN _ _ h (okr rfl))))))))
    ·exact qF rfl g18 (An (kXB2 (Option.some.inj h) _ (okr rfl)))
 refine Ax (fun (y1 : Int) => [(1,dL Aq a1),(2,.box [nI a0.1,dL AG a0.2.1,dL Aq a0.2.2]),(4,.box [nI 0,oL 42 Ag [],oL 3 Aq []]),(6,nI y1)]) _ _ _ _ hl (okr rfl) (fun _ => rfl) ?_
 rintro m y1 N h hN
 unfold Ea at h
 refine Ac fun K2 hK2 => rn 1 rfl ?_
 rcases Ab h with ⟨g3,h⟩ | ⟨g3,h⟩
 ·refine qT rfl g3 (Ae (hK2 _ (Ac fun K4 hK4 => Au (rd (by kernel_rfl) (sd 2 rfl (?_))))))
  obtain ⟨e5,g6,h⟩:=Aa h
  refine ed rfl (qI rfl AH g6 (sd 4 rfl (?_)))
  obtain ⟨v7,g8,h⟩:=Aa h
  refine ed rfl (qC (qs rfl (qs rfl (qs rfl Ar))) (Dj g8) (sd 1 rfl (BB ?_)))
  rcases Ab h with ⟨g9,h⟩ | ⟨g9,h⟩
  ·exact qT rfl g9 (rn 1 rfl (Af ((by cases h; cases hr1; exact ⟨.inl rfl,rfl⟩))))
  ·exact qF rfl g9 (Ae (hK4 _ (rg (sp 3 rfl (evn (hN _ _ h (okr rfl)))))))
 ·exact qF rfl g3 (An (kXB1 (Option.some.inj h) _ (okr rfl)))
def C8 (a0 : List Y88) (a1 : Y51) : Option (Y43 × Bool):=Ad (BZ a0 a1) fun v1 => Ad (DR a0 a1) fun v4 => cond (!v4) (some ((0,[],[]),false)) (cond (v1.1 != a1.1) (some ((0,[],[]),false)) (Ad (Ce v1) fun v8 => Ad (DT v8.1 a1.2.2) fun v10 => some (v10.1,v10.2)))
theorem JT {a0 : List Y88} {a1 : Y51} {r : Y43 × Bool} (h : C8 a0 a1 = some r) : Ai Tryz.prog 75 [.agg [dL AB a0],.agg (Dg a1)] (.tup [.agg (Av r.1),.bool r.2]):=by
 unfold C8 at h
 refine st fQ rfl (rn 1 rfl (rs (sp 2 rfl (?_))))
 obtain ⟨v1,g2,h⟩:=Aa h
 refine qC (qa rfl (erg (erc (erD AM _) rfl)) (qa rfl (erg (erc rfl (erc (erD Bl _) (erc (erD Am _) rfl)))) Ar)) (Jb g2) (sp 2 rfl (evn (Ac fun K3 hK3 => rs (sp 2 rfl (?_)))))
 obtain ⟨v4,g5,h⟩:=Aa h
 refine qC (qa rfl (erg (erc (erD AM _) rfl)) (qa rfl (erg (erc rfl (erc (erD Bl _) (erc (erD Am _) rfl)))) Ar)) (HV g5) (sp 2 rfl (?_))
 rcases Ab h with ⟨g6,h⟩ | ⟨g6,h⟩
 ·exact qg 18 g6 rfl (sp 6 rfl (evn (qT rfl rfl (rn 1 rfl (Af ((by cases h; exact ⟨.inl rfl,rfl⟩)))))))
 ·refine qg 18 g6 rfl (sp 6 rfl (evn ?_))
  rcases Ab h with ⟨g7,h⟩ | ⟨g7,h⟩
  ·exact qT rfl g7 (rn 1 rfl (qk [4,5] rfl (Af ((by cases h; exact ⟨.inl rfl,rfl⟩)))))
  ·refine qF rfl g7 (Ae (hK3 _ (rs (sp 1 rfl (?_)))))
   obtain ⟨v8,g9,h⟩:=Aa h
   refine qC (qa rfl (erg (erc rfl (erc (erD AS _) rfl))) Ar) (I0 g9) (sp 6 rfl (evn (rs (sp 3 rfl (?_)))))
   obtain ⟨v10,g11,h⟩:=Aa h
   exact qC (qa rfl (erg (erc rfl (erc (erD AS _) (erc (erD Am _) rfl)))) (qa rfl (erD Am _) Ar)) (Kt g11) (sp 6 rfl (evn (rn 1 rfl (Af ((by cases h; exact ⟨.inl rfl,rfl⟩))))))
abbrev Y53:=Y51 × Y43
def AV (x : Y53) : List V:=[nI x.1.1,dL Bk x.1.2.1,dL Aq x.1.2.2,nI x.2.1,dL AG x.2.2.1,dL Aq x.2.2.2]
theorem EQ (x : Y53) : (AV x).length = 6:=rfl
theorem JL (x : Y53) : erL (AV x) = AV x:=(erc rfl (erc (erD Bl _) (erc (erD Am _) (erc rfl (erc (erD As _) (erc (erD Am _) rfl))))))
def Fz (x4 : Bool) : Option (Bool):=some x4
def A6 (a0 : List Y88) (a1 : Y53) : Option (Bool):=Ad (C8 a0 a1.1) fun v1 => cond v1.2 (Ad (Bp v1.1 a1.2) fun v6 => Fz v6) (Fz false)
theorem Jd {a0 : List Y88} {a1 : Y53} {r : Bool} (h : A6 a0 a1 = some r) : Ai Tryz.prog 32 [.agg [dL AB a0],.agg (AV a1)] (.bool r):=by
 unfold A6 at h
 refine st eT rfl (rn 1 rfl (rs (sp 3 rfl (?_))))
 obtain ⟨v1,g2,h⟩:=Aa h
 refine qC (qa rfl (erg (erc (erD AM _) rfl)) (qa rfl (erg (erc rfl (erc (erD Bl _) (erc (erD Am _) rfl)))) Ar)) (JT g2) (sp 6 rfl (evn (rk fun K3 hK3 => ?_)))
 have kJ1 : ∀ {x4 : Bool},Fz x4 = some r -> Jn K3 [(4,.bool x4)]:=by
  intro x4 h σ' hk
  unfold Fz at h
  exact hK3 _ (lh hk rfl (Af ((by cases h; exact ⟨.inl rfl,rfl⟩))))
 refine sp 2 rfl (?_)
 rcases Ab h with ⟨g5,h⟩ | ⟨g5,h⟩
 ·refine qg 15 g5 rfl (sp 3 rfl (?_))
  obtain ⟨v6,g7,h⟩:=Aa h
  exact oGR rfl rfl (qC (qa rfl (erg (erc rfl (erc (erD AS _) (erc (erD Am _) rfl)))) (qa rfl (erg (erc rfl (erc (erD As _) (erc (erD Am _) rfl)))) Ar)) (CR g7) (sp 2 rfl (evn (kJ1 h _ (okr rfl)))))
 ·exact qg 15 g5 rfl (sp 6 rfl (evn (kJ1 h _ (okr rfl))))
abbrev Y29:=(List Y88) × (List Y53) × (List Y43)
def AL (x : Y29) : List V:=[dL AB x.1,dL AV x.2.1,dL A7 x.2.2]
theorem RE (x : Y29) : (AL x).length = 3:=rfl
theorem QY (x : Y29) : erL (AL x) = AL x:=(erc (erD AM _) (erc (erD JL _) (erc (erD Hm _) rfl)))
def BJ (a0 : Y29) (rec : Int -> Option (Sum (Unit) (Bool))) (y1 : Int) : Option (Sum (Unit) (Bool)):=cond (decide (y1 < (List.length a0.2.1 : Int))) (Ad (AK a0.2.1 y1) fun e11 => Ad (A6 a0.1 e11) fun v13 => cond (!v13) (some (.inr false)) (Ad (AK a0.2.1 y1) fun e16 => Ad (AK a0.2.2 y1) fun e18 => Ad (Bp e16.2 e18) fun v20 => cond (!v20) (some (.inr false)) (rec (IntKind.i64.wrap (y1 + 1))))) (some (.inl ()))
def A3 (a0 : Y29) : Option (Bool):=Ad (A2 a0.1) fun v2 => cond (!v2) (some false) (cond ((List.length a0.2.1 : Int) != (List.length a0.2.2 : Int)) (some false) (cond (decide (4 < (List.length a0.2.1 : Int))) (some false) (Ad (Al (BJ a0) fz 0) fun o1 => (match o1 with
  | .inl _ => (some true)
  | .inr r => some r))))
theorem D9 {a0 : Y29} {r : Bool} (h : A3 a0 = some r) : Ai Tryz.prog 9 [.agg (AL a0)] (.bool r):=by
 unfold A3 at h
 refine st iR rfl (rn 1 rfl (Ac fun K1 hK1 => rs (sp 2 rfl (?_))))
 obtain ⟨v2,g3,h⟩:=Aa h
 refine qC (qa rfl (erg (erc (erD AM _) rfl)) Ar) (BW g3) (sp 2 rfl (?_))
 rcases Ab h with ⟨g4,h⟩ | ⟨g4,h⟩
 ·exact qg 8 g4 rfl (sp 14 rfl (evn (qT rfl rfl (rn 1 rfl (Af ((by cases h; exact ⟨.inl rfl,rfl⟩)))))))
 ·refine qg 8 g4 rfl (sp 9 rfl (?_))
  rcases Ab h with ⟨g5,h⟩ | ⟨g5,h⟩
  ·exact qg 17 g5 rfl (sp 5 rfl (evn (qk [1,22] rfl (qT rfl rfl (rn 1 rfl (Af ((by cases h; exact ⟨.inl rfl,rfl⟩))))))))
  ·refine qg 17 g5 rfl (sp 5 rfl (evn ?_))
   rcases Ab h with ⟨g6,h⟩ | ⟨g6,h⟩
   ·exact qT rfl g6 (rn 1 rfl (Af ((by cases h; exact ⟨.inl rfl,rfl⟩))))
   ·refine qF rfl g6 (Ae (hK1 _ (Ac fun K7 hK7 => rn 1 rfl ?_)))
    obtain ⟨o1,hl,hr1⟩:=Aa h
    have kXB1 : (.inl ()) = o1 -> Jn K7 []:=by
     intro h σ' hk
     subst h
     replace h:=hr1
     try dsimp only at h
     exact hK7 _ (lh hk rfl (rn 1 rfl (Af ((by cases h; exact ⟨.inl rfl,rfl⟩)))))
    refine Ax (fun (y1 : Int) => [(1,.box [dL AB a0.1,dL AV a0.2.1,dL A7 a0.2.2]),(3,nI y1)]) _ _ _ _ hl (okr rfl) (fun _ => rfl) ?_
    rintro m y1 N h hN
    unfold BJ at h
    refine Ac fun K8 hK8 => rn 1 rfl ?_
    rcases Ab h with ⟨g9,h⟩ | ⟨g9,h⟩
    ·refine qT rfl g9 (Ae (hK8 _ (Ac fun K10 hK10 => Au (rd (by kernel_rfl) (sd 5 rfl (?_))))))
     obtain ⟨e11,g12,h⟩:=Aa h
     refine ed rfl (qI rfl EQ g12 (sd 1 rfl (?_)))
     obtain ⟨v13,g14,h⟩:=Aa h
     refine ed rfl (qC (qa rfl (erg (erc (erD AM _) rfl)) (qa rfl (erg (erc rfl (erc (erD Bl _) (erc (erD Am _) (erc rfl (erc (erD As _) (erc (erD Am _) rfl))))))) Ar)) (Jd g14) (sd 2 rfl (?_)))
     rcases Ab h with ⟨g15,h⟩ | ⟨g15,h⟩
     ·exact qgd 39 g15 rfl (sd 14 rfl (BB (qT rfl rfl (rn 1 rfl (qk [2] rfl (Af ((by cases h; cases hr1; exact ⟨.inl rfl,rfl⟩))))))))
     ·refine qgd 39 g15 rfl (sd 3 rfl (?_))
      obtain ⟨e16,g17,h⟩:=Aa h
      refine ed rfl (oGR rfl rfl (qI rfl EQ g17 (sd 5 rfl (?_))))
      obtain ⟨e18,g19,h⟩:=Aa h
      refine ed rfl (oGR rfl rfl (qI rfl JY g19 (sd 1 rfl (?_))))
      obtain ⟨v20,g21,h⟩:=Aa h
      refine ed rfl (oGR rfl rfl (qC (qa rfl (erg (erc rfl (erc (erD As _) (erc (erD Am _) rfl)))) (qa rfl (erg (erc rfl (erc (erD As _) (erc (erD Am _) rfl)))) Ar)) (CR g21) (sd 2 rfl (BB ?_))))
      rcases Ab h with ⟨g22,h⟩ | ⟨g22,h⟩
      ·exact qT rfl g22 (rn 1 rfl (Af ((by cases h; cases hr1; exact ⟨.inl rfl,rfl⟩))))
      ·exact qF rfl g22 (Ae (hK10 _ (rg (sp 3 rfl (evn (hN _ _ h (okr rfl)))))))
    ·exact qF rfl g9 (An (kXB1 (Option.some.inj h) _ trivial))
def Cl (a0 : Y43) (a1 : Y43) : Option (Y43 × Bool):=Ad (Bh a0) fun v2 => cond (!v2) (some ((0,[],[]),false)) (Ad (Bh a1) fun v5 => cond (!v5) (some ((0,[],[]),false)) (cond (a0.1 != a1.1) (some ((0,[],[]),false)) (chk (List.length ([] : List (List Int)) + List.length a0.2.1 <= lim) (chk (List.length (([] : List (List Int)) ++ a0.2.1) + List.length a1.2.1 <= lim) (chk (List.length ([] : List Int) + List.length a0.2.2 <= lim) (chk (List.length (([] : List Int) ++ a0.2.2) + List.length a1.2.2 <= lim) (Ad (Hb a0.1 ((([] : List (List Int)) ++ a0.2.1) ++ a1.2.1) ((([] : List Int) ++ a0.2.2) ++ a1.2.2)) fun v13 => some (v13.1,v13.2))))))))
theorem GD {a0 : Y43} {a1 : Y43} {r : Y43 × Bool} (h : Cl a0 a1 = some r) : Ai Tryz.prog 11 [.agg (A7 a0),.agg (A7 a1)] (.tup [.agg (Av r.1),.bool r.2]):=by
 unfold Cl at h
 refine st ep rfl (rn 1 rfl (Ac fun K1 hK1 => rs (sp 1 rfl (?_))))
 obtain ⟨v2,g3,h⟩:=Aa h
 refine qC (qa rfl (erg (erc rfl (erc (erD As _) (erc (erD Am _) rfl)))) Ar) (ED g3) (sp 2 rfl (?_))
 rcases Ab h with ⟨g4,h⟩ | ⟨g4,h⟩
 ·exact qg 11 g4 rfl (sp 11 rfl (evn (qT rfl rfl (rn 1 rfl (Af ((by cases h; exact ⟨.inl rfl,rfl⟩)))))))
 ·refine qg 11 g4 rfl (sp 1 rfl (?_))
  obtain ⟨v5,g6,h⟩:=Aa h
  refine oGR rfl rfl (qC (qa rfl (erg (erc rfl (erc (erD As _) (erc (erD Am _) rfl)))) Ar) (ED g6) (sp 3 rfl (?_)))
  rcases Ab h with ⟨g7,h⟩ | ⟨g7,h⟩
  ·exact qg 16 g7 rfl (sp 6 rfl (evn (qk [2,3,4,22] rfl (qT rfl rfl (rn 1 rfl (Af ((by cases h; exact ⟨.inl rfl,rfl⟩))))))))
  ·refine qg 16 g7 rfl (sp 6 rfl (evn ?_))
   rcases Ab h with ⟨g8,h⟩ | ⟨g8,h⟩
   ·exact qT rfl g8 (rn 1 rfl (Af ((by cases h; exact ⟨.inl rfl,rfl⟩))))
   ·refine qF rfl g8 (Ae (hK1 _ (rd (by kernel_rfl) (sd 2 rfl (ed rfl (qBs Ag [] rfl rfl rfl AW (sd 2 rfl (?_))))))))
    obtain ⟨g9,h⟩:=Ah h
    refine ed rfl (qA AG ([] : List (List Int)) a0.2.1 rfl rfl (Ap Bv a0.2.1) (GJ (fun _ => rfl) _) g9 (sd 2 rfl (?_)))
    obtain ⟨g10,h⟩:=Ah h
    refine ed rfl (qA AG (([] : List (List Int)) ++ a0.2.1) a1.2.1 rfl rfl (Ap Bv a1.2.1) (GJ (fun _ => rfl) _) g10 (ed rfl (qBs Aq [] rfl rfl rfl AH (sd 2 rfl (?_)))))
    obtain ⟨g11,h⟩:=Ah h
    refine ed rfl (qA Aq ([] : List Int) a0.2.2 rfl rfl (Ap AH a0.2.2) (GJ (fun _ => rfl) _) g11 (sd 2 rfl (?_)))
    obtain ⟨g12,h⟩:=Ah h
    refine ed rfl (qA Aq (([] : List Int) ++ a0.2.2) a1.2.2 rfl rfl (Ap AH a1.2.2) (GJ (fun _ => rfl) _) g12 (?_))
    obtain ⟨v13,g14,h⟩:=Aa h
    exact ed rfl (qC (qs rfl (qa rfl (erO As _) (qa rfl (erO Am _) Ar))) (LV g14) (sd 6 rfl (BB (qk [4,6,7] rfl (rn 1 rfl (Af ((by cases h; exact ⟨.inl rfl,rfl⟩))))))))
def Aw (x : Y88) : List V:=[.str x.1,nI x.2.1,oL 42 Ag x.2.2]
theorem Gt (x : Y88) : (Aw x).length = 3:=rfl
theorem DF (x : Y88) : erL (Aw x) = AB x:=(erc rfl (erc rfl (erc (erO AS _) rfl)))
def H5 (a0 : List Y88) (rec : ((List Y88) × Int) -> Option ((List Y88))) (s : (List Y88) × Int) : Option ((List Y88)):=match s with
  | (y1,y2) => cond (decide (y2 < (List.length a0 : Int))) (Ad (AK a0 y2) fun e6 => Ad (EO e6.2) fun v8 => Ad (AK a0 y2) fun e10 => chk (List.length y1 + List.length [(e10.1,v8)] <= lim) (rec ((y1 ++ [(e10.1,v8)]),(IntKind.i64.wrap (y2 + 1))))) (some y1)
def EP (a0 : List Y88) : Option ((List Y88)):=Ad (Al (H5 a0) fz (([] : List Y88),0)) fun z2 => some z2
theorem GH {a0 : List Y88} {r : (List Y88)} (h : EP a0 = some r) : Ai Tryz.prog 67 [.agg [dL AB a0]] (.agg [oL 89 Aw r]):=by
 unfold EP at h
 refine st fI rfl (rn 2 rfl (Ac fun K1 hK1 => rn 1 rfl ?_))
 obtain ⟨o1,hl,hr1⟩:=Aa h
 have kXB1 : ∀ {z2 : List Y88},z2 = o1 -> Jn K1 [(2,.box [oL 89 Aw []]),(3,.box [oL 89 Aw z2])]:=by
  intro z2 h σ' hk
  subst h
  replace h:=hr1
  try dsimp only at h
  exact hK1 _ (lh hk rfl (rn 1 rfl (Af ((by cases h; exact ⟨.inl rfl,rfl⟩)))))
 refine Ax (fun (s : (List Y88) × Int) => match s with | (y1,y2) => [(1,.box [dL AB a0]),(2,.box [oL 89 Aw []]),(3,.box [oL 89 Aw y1]),(4,nI y2)]) _ _ _ _ hl (okr rfl) (fun _ => rfl) ?_
 rintro m ⟨y1,y2⟩ N h hN
 unfold H5 at h
 dsimp only at h
 refine Ac fun K3 hK3 => rn 1 rfl ?_
 rcases Ab h with ⟨g4,h⟩ | ⟨g4,h⟩
 ·refine qT rfl g4 (Ae (hK3 _ (Ac fun K5 hK5 => Au (rs (sp 3 rfl (?_))))))
  obtain ⟨e6,g7,h⟩:=Aa h
  refine qI rfl Ee g7 (sp 2 rfl (?_))
  obtain ⟨v8,g9,h⟩:=Aa h
  refine qC (qa rfl (erg (erc rfl (erc (erD As _) rfl))) Ar) (GF g9) (sp 2 rfl (evn (rgd (by kernel_rfl) (sd 5 rfl (?_)))))
  obtain ⟨e10,g11,h⟩:=Aa h
  refine ed rfl (qI rfl Ee g11 (sd 4 rfl (ed rfl (qBs Aw [(e10.1,v8)] rfl rfl rfl Gt (?_)))))
  obtain ⟨g12,h⟩:=Ah h
  exact ed rfl (qA Aw y1 [(e10.1,v8)] rfl rfl (Ap Gt [(e10.1,v8)]) rfl g12 (sd 2 rfl (BB (hK5 _ (rg (sp 3 rfl (evn (hN _ _ h (okr rfl)))))))))
 ·exact qF rfl g4 (An (kXB1 (Option.some.inj h) _ (okr rfl)))
def EE (a0 : Y43) (rec : ((List Int) × Int) -> Option ((List Int))) (s : (List Int) × Int) : Option ((List Int)):=match s with
  | (y1,y2) => cond (decide (y2 < (List.length a0.2.2 : Int))) (Ad (AK a0.2.2 y2) fun e8 => chk (List.length y1 + List.length [IntKind.i64.wrap (0 - e8)] <= lim) (rec ((y1 ++ [IntKind.i64.wrap (0 - e8)]),(IntKind.i64.wrap (y2 + 1))))) (some y1)
def Ba (a0 : Y43) : Option (Y43):=Ad (EO (0,a0.2.1)) fun v1 => Ad (Al (EE a0) fz (([] : List Int),0)) fun z4 => some (a0.1,v1.2,z4)
theorem BO {a0 : Y43} {r : Y43} (h : Ba a0 = some r) : Ai Tryz.prog 69 [.agg (A7 a0)] (.agg (Av r)):=by
 unfold Ba at h
 refine st fK rfl (rn 1 rfl (rs (sp 3 rfl (?_))))
 obtain ⟨v1,g2,h⟩:=Aa h
 refine qC (qa rfl (erg (erc rfl (erc (erD As _) rfl))) Ar) (GF g2) (sp 2 rfl (evn (rn 1 rfl (Ac fun K3 hK3 => rn 1 rfl ?_))))
 obtain ⟨o1,hl,hr1⟩:=Aa h
 have kXB1 : ∀ {z4 : List Int},z4 = o1 -> Jn K3 [(2,.box [nI 0,oL 42 Ag [],oL 3 Aq []]),(4,.box [nI a0.1,oL 42 Ag v1.2,oL 3 Aq z4])]:=by
  intro z4 h σ' hk
  subst h
  replace h:=hr1
  try dsimp only at h
  exact hK3 _ (lh hk rfl (rn 1 rfl (Af ((by cases h; exact ⟨.inl rfl,rfl⟩)))))
 refine Ax (fun (s : (List Int) × Int) => match s with | (y1,y2) => [(1,.box [nI a0.1,dL AG a0.2.1,dL Aq a0.2.2]),(2,.box [nI 0,oL 42 Ag [],oL 3 Aq []]),(4,.box [nI a0.1,oL 42 Ag v1.2,oL 3 Aq y1]),(5,nI y2)]) _ _ _ _ hl (okr rfl) (fun _ => rfl) ?_
 rintro m ⟨y1,y2⟩ N h hN
 unfold EE at h
 dsimp only at h
 refine Ac fun K5 hK5 => rn 1 rfl ?_
 rcases Ab h with ⟨g6,h⟩ | ⟨g6,h⟩
 ·refine qT rfl g6 (Ae (hK5 _ (Ac fun K7 hK7 => Au (rgd (by kernel_rfl) (sd 5 rfl (?_))))))
  obtain ⟨e8,g9,h⟩:=Aa h
  refine ed rfl (qI rfl AH g9 (sd 2 rfl (ed rfl (qBs Aq [IntKind.i64.wrap (0 - e8)] rfl rfl rfl AH (?_)))))
  obtain ⟨g10,h⟩:=Ah h
  exact ed rfl (qA Aq y1 [IntKind.i64.wrap (0 - e8)] rfl rfl (Ap AH [IntKind.i64.wrap (0 - e8)]) rfl g10 (sd 2 rfl (BB (hK7 _ (rg (sp 3 rfl (evn (hN _ _ h (okr rfl)))))))))
 ·exact qF rfl g6 (An (kXB1 (Option.some.inj h) _ (okr rfl)))
def Bb (x : HI) : List V:=[.str x.1,oL 3 Aq x.2]
theorem Kx (x : HI) : (Bb x).length = 2:=rfl
theorem Md (x : HI) : erL (Bb x) = Bk x:=(erc rfl (erc (erO Am _) rfl))
def Mb (x : Y51) : List V:=[nI x.1,oL 112 Bb x.2.1,oL 3 Aq x.2.2]
theorem dc (x : Y51) : (Mb x).length = 3:=rfl
theorem cS (x : Y51) : erL (Mb x) = Dg x:=(erc rfl (erc (erO Md _) (erc (erO Am _) rfl)))
def H6 (a0 : Y51) (rec : ((List HI) × Int) -> Option ((List HI))) (s : (List HI) × Int) : Option ((List HI)):=match s with
  | (y1,y2) => cond (decide (y2 < (List.length a0.2.1 : Int))) (Ad (AK a0.2.1 y2) fun e7 => Ad (AK a0.2.1 y2) fun e9 => chk (List.length ([] : List Int) + List.length e9.2 <= lim) (chk (List.length y1 + List.length ([(e7.1,([] : List Int) ++ e9.2)]) <= lim) (rec ((y1 ++ ([(e7.1,([] : List Int) ++ e9.2)])),(IntKind.i64.wrap (y2 + 1)))))) (some y1)
def Gs (a0 : Y51) : Option (Y51):=chk (List.length ([] : List Int) + List.length a0.2.2 <= lim) (Ad (Al (H6 a0) fz (([] : List HI),0)) fun z3 => some (a0.1,z3,([] : List Int) ++ a0.2.2))
theorem JV {a0 : Y51} {r : Y51} (h : Gs a0 = some r) : Ai Tryz.prog 76 [.agg (Dg a0)] (.agg (Mb r)):=by
 unfold Gs at h
 refine st fR rfl (rn 1 rfl (rd (by kernel_rfl) (sd 2 rfl (ed rfl (qBs Aq [] rfl rfl rfl AH (sd 2 rfl (?_)))))))
 obtain ⟨g1,h⟩:=Ah h
 refine ed rfl (qA Aq ([] : List Int) a0.2.2 rfl rfl (Ap AH a0.2.2) (GJ (fun _ => rfl) _) g1 (sd 3 rfl (BB (Ac fun K2 hK2 => rn 1 rfl ?_))))
 obtain ⟨o1,hl,hr1⟩:=Aa h
 have kXB1 : ∀ {z3 : List HI},z3 = o1 -> Jn K2 [(2,.box [nI 0,oL 112 Bb [],oL 3 Aq []]),(3,.box [nI a0.1,oL 112 Bb z3,oL 3 Aq (([] : List Int) ++ a0.2.2)])]:=by
  intro z3 h σ' hk
  subst h
  replace h:=hr1
  try dsimp only at h
  exact hK2 _ (lh hk rfl (rn 1 rfl (Af ((by cases h; exact ⟨.inl rfl,rfl⟩)))))
 refine Ax (fun (s : (List HI) × Int) => match s with | (y1,y2) => [(1,.box [nI a0.1,dL Bk a0.2.1,dL Aq a0.2.2]),(2,.box [nI 0,oL 112 Bb [],oL 3 Aq []]),(3,.box [nI a0.1,oL 112 Bb y1,oL 3 Aq (([] : List Int) ++ a0.2.2)]),(4,nI y2)]) _ _ _ _ hl (okr rfl) (fun _ => rfl) ?_
 rintro m ⟨y1,y2⟩ N h hN
 unfold H6 at h
 dsimp only at h
 refine Ac fun K4 hK4 => rn 1 rfl ?_
 rcases Ab h with ⟨g5,h⟩ | ⟨g5,h⟩
 ·refine qT rfl g5 (Ae (hK4 _ (Ac fun K6 hK6 => Au (rgd (by kernel_rfl) (sd 5 rfl (?_))))))
  obtain ⟨e7,g8,h⟩:=Aa h
  refine ed rfl (qI rfl FE g8 (sd 2 rfl (ed rfl (qBs Aq [] rfl rfl rfl AH (sd 3 rfl (?_))))))
  obtain ⟨e9,g10,h⟩:=Aa h
  refine ed rfl (qI rfl FE g10 (sd 2 rfl (?_)))
  obtain ⟨g11,h⟩:=Ah h
  refine ed rfl (qA Aq ([] : List Int) e9.2 rfl rfl (Ap AH e9.2) (GJ (fun _ => rfl) _) g11 (sd 1 rfl (ed rfl (qBs Bb [(e7.1,([] : List Int) ++ e9.2)] rfl rfl rfl Kx (?_)))))
  obtain ⟨g12,h⟩:=Ah h
  exact ed rfl (qA Bb y1 ([(e7.1,([] : List Int) ++ e9.2)]) rfl rfl (Ap Kx ([(e7.1,([] : List Int) ++ e9.2)])) rfl g12 (sd 2 rfl (BB (hK6 _ (rg (sp 3 rfl (evn (hN _ _ h (okr rfl)))))))))
 ·exact qF rfl g5 (An (kXB1 (Option.some.inj h) _ (okr rfl)))
def Ao (x : Y53) : List V:=[nI x.1.1,oL 112 Bb x.1.2.1,oL 3 Aq x.1.2.2,nI x.2.1,oL 42 Ag x.2.2.1,oL 3 Aq x.2.2.2]
theorem FF (x : Y53) : (Ao x).length = 6:=rfl
theorem Ci (x : Y53) : erL (Ao x) = AV x:=(erc rfl (erc (erO Md _) (erc (erO Am _) (erc rfl (erc (erO AS _) (erc (erO Am _) rfl))))))
def Ip (a0 : Y53) : Option (Y53):=Ad (Gs a0.1) fun v1 => Ad (Ba a0.2) fun v3 => Ad (Ba v3) fun v5 => some (v1,v5)
theorem Ov {a0 : Y53} {r : Y53} (h : Ip a0 = some r) : Ai Tryz.prog 68 [.agg (AV a0)] (.agg (Ao r)):=by
 unfold Ip at h
 refine st fJ rfl (rn 1 rfl (rd (by kernel_rfl) (sd 2 rfl (?_))))
 obtain ⟨v1,g2,h⟩:=Aa h
 refine ed rfl (qC (qa rfl (erg (erc rfl (erc (erD Bl _) (erc (erD Am _) rfl)))) Ar) (JV g2) (sd 2 rfl (?_)))
 obtain ⟨v3,g4,h⟩:=Aa h
 refine ed rfl (qC (qa rfl (erg (erc rfl (erc (erD As _) (erc (erD Am _) rfl)))) Ar) (BO g4) (?_))
 obtain ⟨v5,g6,h⟩:=Aa h
 exact ed rfl (qC (qa rfl (erg (erc rfl (erc (erO AS _) (erc (erO Am _) rfl)))) Ar) (BO g6) (sd 2 rfl (BB (Af ((by cases h; exact ⟨.inl rfl,rfl⟩))))))
def BR (x : Y29) : List V:=[oL 89 Aw x.1,oL 54 Ao x.2.1,oL 44 Av x.2.2]
theorem RH (x : Y29) : (BR x).length = 3:=rfl
theorem Q1 (x : Y29) : erL (BR x) = AL x:=(erc (erO DF _) (erc (erO Ci _) (erc (erO Hn _) rfl)))
def HB (a0 : Y29) (rec : ((List Y53) × Int) -> Option ((List Y53))) (s : (List Y53) × Int) : Option ((List Y53)):=match s with
  | (y1,y2) => cond (decide (y2 < (List.length a0.2.1 : Int))) (Ad (AK a0.2.1 y2) fun e8 => Ad (Ip e8) fun v10 => chk (List.length y1 + List.length [v10] <= lim) (rec ((y1 ++ [v10]),(IntKind.i64.wrap (y2 + 1))))) (some y1)
def HC (a0 : Y29) (rec : ((List Y43) × Int) -> Option ((List Y43))) (s : (List Y43) × Int) : Option ((List Y43)):=match s with
  | (y3,y4) => cond (decide (y4 < (List.length a0.2.2 : Int))) (Ad (AK a0.2.2 y4) fun e18 => Ad (Ba e18) fun v20 => Ad (Ba v20) fun v22 => chk (List.length y3 + List.length [v22] <= lim) (rec ((y3 ++ [v22]),(IntKind.i64.wrap (y4 + 1))))) (some y3)
def Gn (a0 : Y29) : Option (Y29):=Ad (EP a0.1) fun v1 => Ad (Al (HB a0) fz (([] : List Y53),0)) fun z4 => Ad (Al (HC a0) fz (([] : List Y43),0)) fun z14 => some (v1,z4,z14)
theorem Jk {a0 : Y29} {r : Y29} (h : Gn a0 = some r) : Ai Tryz.prog 24 [.agg (AL a0)] (.agg (BR r)):=by
 unfold Gn at h
 refine st eL rfl (rn 1 rfl (rs (sp 2 rfl (?_))))
 obtain ⟨v1,g2,h⟩:=Aa h
 refine qC (qa rfl (erg (erc (erD AM _) rfl)) Ar) (GH g2) (sp 2 rfl (evn (rn 1 rfl (Ac fun K3 hK3 => rn 1 rfl ?_))))
 obtain ⟨o1,hl,hr1⟩:=Aa h
 have kXB1 : ∀ {z4 : List Y53},z4 = o1 -> Jn K3 [(1,.box [dL AB a0.1,dL AV a0.2.1,dL A7 a0.2.2]),(2,.box [oL 89 Aw [],oL 54 Ao [],oL 44 Av []]),(4,.box [oL 89 Aw v1,oL 54 Ao z4,oL 44 Av []])]:=by
  intro z4 h σ' hk
  subst h
  replace h:=hr1
  try dsimp only at h
  refine hK3 _ (lh hk rfl (Ac fun K13 hK13 => rn 1 rfl ?_))
  obtain ⟨o2,hl,hr2⟩:=Aa h
  have kXB2 : ∀ {z14 : List Y43},z14 = o2 -> Jn K13 [(2,.box [oL 89 Aw [],oL 54 Ao [],oL 44 Av []]),(4,.box [oL 89 Aw v1,oL 54 Ao z4,oL 44 Av z14])]:=by
   intro z14 h σ' hk
   subst h
   replace h:=hr2
   try dsimp only at h
   exact hK13 _ (lh hk rfl (rn 1 rfl (Af ((by cases h; exact ⟨.inl rfl,rfl⟩)))))
  refine Ax (fun (s : (List Y43) × Int) => match s with | (y3,y4) => [(1,.box [dL AB a0.1,dL AV a0.2.1,dL A7 a0.2.2]),(2,.box [oL 89 Aw [],oL 54 Ao [],oL 44 Av []]),(4,.box [oL 89 Aw v1,oL 54 Ao z4,oL 44 Av y3]),(6,nI y4)]) _ _ _ _ hl (okr rfl) (fun _ => rfl) ?_
  rintro m ⟨y3,y4⟩ N h hN
  unfold HC at h
  dsimp only at h
  refine Ac fun K15 hK15 => rn 1 rfl ?_
  rcases Ab h with ⟨g16,h⟩ | ⟨g16,h⟩
  ·refine qT rfl g16 (Ae (hK15 _ (Ac fun K17 hK17 => Au (rgd (by kernel_rfl) (sd 5 rfl (?_))))))
   obtain ⟨e18,g19,h⟩:=Aa h
   refine ed rfl (qI rfl JY g19 (sd 1 rfl (?_)))
   obtain ⟨v20,g21,h⟩:=Aa h
   refine ed rfl (qC (qa rfl (erg (erc rfl (erc (erD As _) (erc (erD Am _) rfl)))) Ar) (BO g21) (?_))
   obtain ⟨v22,g23,h⟩:=Aa h
   refine ed rfl (qC (qa rfl (erg (erc rfl (erc (erO AS _) (erc (erO Am _) rfl)))) Ar) (BO g23) (ed rfl (qBs Av [v22] rfl rfl rfl Dw (?_))))
   obtain ⟨g24,h⟩:=Ah h
   exact ed rfl (qA Av y3 [v22] rfl rfl (Ap Dw [v22]) rfl g24 (sd 2 rfl (BB (hK17 _ (rg (sp 3 rfl (evn (hN _ _ h (okr rfl)))))))))
  ·exact qF rfl g16 (An (kXB2 (Option.some.inj h) _ (okr rfl)))
 refine Ax (fun (s : (List Y53) × Int) => match s with | (y1,y2) => [(1,.box [dL AB a0.1,dL AV a0.2.1,dL A7 a0.2.2]),(2,.box [oL 89 Aw [],oL 54 Ao [],oL 44 Av []]),(4,.box [oL 89 Aw v1,oL 54 Ao y1,oL 44 Av []]),(5,nI y2)]) _ _ _ _ hl (okr rfl) (fun _ => rfl) ?_
 rintro m ⟨y1,y2⟩ N h hN
 unfold HB at h
 dsimp only at h
 refine Ac fun K5 hK5 => rn 1 rfl ?_
 rcases Ab h with ⟨g6,h⟩ | ⟨g6,h⟩
 ·refine qT rfl g6 (Ae (hK5 _ (Ac fun K7 hK7 => Au (rgd (by kernel_rfl) (sd 5 rfl (?_))))))
  obtain ⟨e8,g9,h⟩:=Aa h
  refine ed rfl (qI rfl EQ g9 (sd 1 rfl (?_)))
  obtain ⟨v10,g11,h⟩:=Aa h
  refine ed rfl (qC (qa rfl (erg (erc rfl (erc (erD Bl _) (erc (erD Am _) (erc rfl (erc (erD As _) (erc (erD Am _) rfl))))))) Ar) (Ov g11) (ed rfl (qBs Ao [v10] rfl rfl rfl FF (?_))))
  obtain ⟨g12,h⟩:=Ah h
  exact ed rfl (qA Ao y1 [v10] rfl rfl (Ap FF [v10]) rfl g12 (sd 2 rfl (BB (hK7 _ (rg (sp 3 rfl (evn (hN _ _ h (okr rfl)))))))))
 ·exact qF rfl g6 (An (kXB1 (Option.some.inj h) _ (okr rfl)))
def EA (rec : ((List (List Int)) × Int) -> Option ((List (List Int)))) (y2 : Int) (x18 : List (List Int)) : Option ((List (List Int))):=rec (x18,(IntKind.i64.wrap (y2 + 1)))
def Ez (a0 : Y32) (a1 : Y32) (rec : ((List (List Int)) × Int) -> Option ((List (List Int)))) (s : (List (List Int)) × Int) : Option ((List (List Int))):=match s with
  | (y1,y2) => cond (decide (y2 < (List.length a0.2 : Int))) (Ad (AK a0.2 y2) fun e14 => Ad (Fn a1 e14) fun v16 => cond (!v16.2) (Ad (AK a0.2 y2) fun e20 => chk (List.length ([] : List Int) + List.length e20 <= lim) (chk (List.length y1 + List.length ([([] : List Int) ++ e20]) <= lim) (EA rec y2 (y1 ++ ([([] : List Int) ++ e20]))))) (EA rec y2 y1)) (some y1)
def Cm (a0 : Y32) (a1 : Y32) : Option (Y32 × Bool):=Ad (AD a0) fun v2 => cond (!v2) (some ((0,[]),false)) (Ad (AD a1) fun v5 => cond (!v5) (some ((0,[]),false)) (cond (a0.1 != a1.1) (some ((0,[]),false)) (Ad (Al (Ez a0 a1) fz (([] : List (List Int)),0)) fun z10 => some ((a0.1,z10),true))))
theorem E9 {a0 : Y32} {a1 : Y32} {r : Y32 × Bool} (h : Cm a0 a1 = some r) : Ai Tryz.prog 72 [.agg (ER a0),.agg (ER a1)] (.tup [.agg (GI r.1),.bool r.2]):=by
 unfold Cm at h
 refine st fN rfl (rn 1 rfl (Ac fun K1 hK1 => rs (sp 1 rfl (?_))))
 obtain ⟨v2,g3,h⟩:=Aa h
 refine qC (qa rfl (erg (erc rfl (erc (erD As _) rfl))) Ar) (AJ g3) (sp 2 rfl (?_))
 rcases Ab h with ⟨g4,h⟩ | ⟨g4,h⟩
 ·exact qg 13 g4 rfl (sp 11 rfl (evn (qT rfl rfl (rn 1 rfl (Af ((by cases h; exact ⟨.inl rfl,rfl⟩)))))))
 ·refine qg 13 g4 rfl (sp 1 rfl (?_))
  obtain ⟨v5,g6,h⟩:=Aa h
  refine oGR rfl rfl (qC (qa rfl (erg (erc rfl (erc (erD As _) rfl))) Ar) (AJ g6) (sp 3 rfl (?_)))
  rcases Ab h with ⟨g7,h⟩ | ⟨g7,h⟩
  ·exact qg 18 g7 rfl (sp 6 rfl (evn (qk [2,3,4,24] rfl (qT rfl rfl (rn 1 rfl (Af ((by cases h; exact ⟨.inl rfl,rfl⟩))))))))
  ·refine qg 18 g7 rfl (sp 6 rfl (evn ?_))
   rcases Ab h with ⟨g8,h⟩ | ⟨g8,h⟩
   ·exact qT rfl g8 (rn 1 rfl (Af ((by cases h; exact ⟨.inl rfl,rfl⟩))))
   ·refine qF rfl g8 (Ae (hK1 _ (rn 1 rfl (Ac fun K9 hK9 => rn 1 rfl ?_))))
    obtain ⟨o1,hl,hr1⟩:=Aa h
    have kXB1 : ∀ {z10 : List (List Int)},z10 = o1 -> Jn K9 [(4,.box [nI 0,oL 42 Ag []]),(6,.box [nI a0.1,oL 42 Ag z10])]:=by
     intro z10 h σ' hk
     subst h
     replace h:=hr1
     try dsimp only at h
     exact hK9 _ (lh hk rfl (rn 1 rfl (Af ((by cases h; exact ⟨.inl rfl,rfl⟩)))))
    refine Ax (fun (s : (List (List Int)) × Int) => match s with | (y1,y2) => [(2,.box [nI a0.1,dL AG a0.2]),(3,.box [nI a1.1,dL AG a1.2]),(4,.box [nI 0,oL 42 Ag []]),(6,.box [nI a0.1,oL 42 Ag y1]),(7,nI y2)]) _ _ _ _ hl (okr rfl) (fun _ => rfl) ?_
    rintro m ⟨y1,y2⟩ N h hN
    unfold Ez at h
    dsimp only at h
    refine Ac fun K11 hK11 => rn 1 rfl ?_
    rcases Ab h with ⟨g12,h⟩ | ⟨g12,h⟩
    ·refine qT rfl g12 (Ae (hK11 _ (Ac fun K13 hK13 => Au (rd (by kernel_rfl) (sd 4 rfl (?_))))))
     obtain ⟨e14,g15,h⟩:=Aa h
     refine ed rfl (qI rfl Bv g15 (sd 1 rfl (?_)))
     obtain ⟨v16,g17,h⟩:=Aa h
     refine ed rfl (qC (qa rfl (erg (erc rfl (erc (erD As _) rfl))) (qa rfl (erD Am _) Ar)) (Jl g17) (sd 5 rfl (BB (rn 1 rfl ?_))))
     have kJ2 : ∀ {x18 : List (List Int)},EA (Al (Ez a0 a1) m) y2 x18 = some o1 -> Jn K13 [(2,.box [nI a0.1,dL AG a0.2]),(3,.box [nI a1.1,dL AG a1.2]),(4,.box [nI 0,oL 42 Ag []]),(6,.box [nI a0.1,oL 42 Ag x18]),(7,nI y2)]:=by
      intro x18 h σ' hk
      unfold EA at h
      exact hK13 _ (lh hk rfl (rg (sp 3 rfl (evn (hN _ _ h (okr rfl))))))
     rcases Ab h with ⟨g19,h⟩ | ⟨g19,h⟩
     ·refine qT rfl g19 (rgd (by kernel_rfl) (sd 2 rfl (ed rfl (qBs Aq [] rfl rfl rfl AH (sd 3 rfl (?_))))))
      obtain ⟨e20,g21,h⟩:=Aa h
      refine ed rfl (qI rfl Bv g21 (sd 1 rfl (?_)))
      obtain ⟨g22,h⟩:=Ah h
      refine ed rfl (qA Aq ([] : List Int) e20 rfl rfl (Ap AH e20) (GJ (fun _ => rfl) _) g22 (ed rfl (qBs Ag [([] : List Int) ++ e20] rfl rfl rfl AW (?_))))
      obtain ⟨g23,h⟩:=Ah h
      exact ed rfl (qA Ag y1 ([([] : List Int) ++ e20]) rfl rfl (Ap AW ([([] : List Int) ++ e20])) rfl g23 (sd 2 rfl (BB (kJ2 h _ (okr rfl)))))
     ·exact qF rfl g19 (Ae (kJ2 h _ (okr rfl)))
    ·exact qF rfl g12 (An (kXB1 (Option.some.inj h) _ (okr rfl)))
abbrev Y34:=(List UInt8) × Y32 × Y32
def Eo (x : Y34) : List V:=[.str x.1,nI x.2.1.1,dL AG x.2.1.2,nI x.2.2.1,dL AG x.2.2.2]
theorem cH (x : Y34) : (Eo x).length = 5:=rfl
theorem ZV (x : Y34) : erL (Eo x) = Eo x:=(erc rfl (erc rfl (erc (erD As _) (erc rfl (erc (erD As _) rfl)))))
def C7 (x4 : Bool) : Option (Bool):=some x4
def Io (a0 : List Y88) (a1 : Y34) : Option (Bool):=Ad (Bj a0 a1.1) fun v1 => cond v1.2 (Ad (AD a1.2.1) fun v6 => cond v6 (Ad (AD a1.2.2) fun v9 => cond v9 (cond (a1.2.1.1 == v1.1.1) (C7 (a1.2.2.1 == v1.1.1)) (C7 false)) (C7 false)) (C7 false)) (C7 false)
theorem Ou {a0 : List Y88} {a1 : Y34} {r : Bool} (h : Io a0 a1 = some r) : Ai Tryz.prog 108 [.agg [dL AB a0],.agg (Eo a1)] (.bool r):=by
 unfold Io at h
 refine st aJ rfl (rn 1 rfl (rs (sp 3 rfl (?_))))
 obtain ⟨v1,g2,h⟩:=Aa h
 refine qC (qa rfl (erg (erc (erD AM _) rfl)) (qs rfl Ar)) (C6 g2) (sp 6 rfl (evn (rk fun K3 hK3 => ?_)))
 have kJ1 : ∀ {x4 : Bool},C7 x4 = some r -> Jn K3 [(4,.bool x4)]:=by
  intro x4 h σ' hk
  unfold C7 at h
  exact hK3 _ (lh hk rfl (Af ((by cases h; exact ⟨.inl rfl,rfl⟩))))
 refine sp 2 rfl (?_)
 rcases Ab h with ⟨g5,h⟩ | ⟨g5,h⟩
 ·refine qg 15 g5 rfl (sp 2 rfl (?_))
  obtain ⟨v6,g7,h⟩:=Aa h
  refine oGR rfl rfl (qC (qa rfl (erg (erc rfl (erc (erD As _) rfl))) Ar) (AJ g7) (sp 2 rfl (?_)))
  rcases Ab h with ⟨g8,h⟩ | ⟨g8,h⟩
  ·refine qg 20 g8 rfl (sp 2 rfl (?_))
   obtain ⟨v9,g10,h⟩:=Aa h
   refine oGR rfl rfl (qC (qa rfl (erg (erc rfl (erc (erD As _) rfl))) Ar) (AJ g10) (sp 2 rfl (?_)))
   rcases Ab h with ⟨g11,h⟩ | ⟨g11,h⟩
   ·refine qg 25 g11 rfl (sp 8 rfl (?_))
    rcases Ab h with ⟨g12,h⟩ | ⟨g12,h⟩
    ·exact qg 33 g12 rfl (sp 8 rfl (evn (kJ1 h _ (okr rfl))))
    ·exact qg 33 g12 rfl (sp 8 rfl (evn (kJ1 h _ (okr rfl))))
   ·exact qg 25 g11 rfl (sp 16 rfl (evn (kJ1 h _ (okr rfl))))
  ·exact qg 20 g8 rfl (sp 21 rfl (evn (kJ1 h _ (okr rfl))))
 ·exact qg 15 g5 rfl (sp 26 rfl (evn (kJ1 h _ (okr rfl))))
def MX (x : Y34) : List V:=[.str x.1,nI x.2.1.1,oL 42 Ag x.2.1.2,nI x.2.2.1,oL 42 Ag x.2.2.2]
theorem cJ (x : Y34) : (MX x).length = 5:=rfl
theorem ZX (x : Y34) : erL (MX x) = Eo x:=(erc rfl (erc rfl (erc (erO AS _) (erc rfl (erc (erO AS _) rfl)))))
def DS (a0 : List Y88) (a1 : Y34) : Option (Y34 × Bool):=Ad (Io a0 a1) fun v2 => cond (!v2) (some (([],(0,[]),(0,[])),false)) (Ad (Bj a0 a1.1) fun v5 => Ad (Cm a1.2.1 v5.1) fun v7 => Ad (Cm a1.2.2 a1.2.1) fun v9 => Ad (Cm v9.1 v5.1) fun v11 => Ad (Cm v9.1 v11.1) fun v13 => some ((a1.1,v7.1,v13.1),true))
theorem Ks {a0 : List Y88} {a1 : Y34} {r : Y34 × Bool} (h : DS a0 a1 = some r) : Ai Tryz.prog 70 [.agg [dL AB a0],.agg (Eo a1)] (.tup [.agg (MX r.1),.bool r.2]):=by
 unfold DS at h
 refine st fL rfl (rn 1 rfl (Ac fun K1 hK1 => rs (sp 2 rfl (?_))))
 obtain ⟨v2,g3,h⟩:=Aa h
 refine qC (qa rfl (erg (erc (erD AM _) rfl)) (qa rfl (erg (erc rfl (erc rfl (erc (erD As _) (erc rfl (erc (erD As _) rfl)))))) Ar)) (Ou g3) (sp 1 rfl (evn ?_))
 rcases Ab h with ⟨g4,h⟩ | ⟨g4,h⟩
 ·exact qT rfl g4 (rn 1 rfl (Af ((by cases h; exact ⟨.inl rfl,rfl⟩))))
 ·refine qF rfl g4 (Ae (hK1 _ (rs (sp 3 rfl (?_)))))
  obtain ⟨v5,g6,h⟩:=Aa h
  refine qC (qa rfl (erg (erc (erD AM _) rfl)) (qs rfl Ar)) (C6 g6) (sp 6 rfl (evn (rs (sp 3 rfl (?_)))))
  obtain ⟨v7,g8,h⟩:=Aa h
  refine qC (qa rfl (erg (erc rfl (erc (erD As _) rfl))) (qa rfl (erg (erc rfl (erc (erD AS _) rfl))) Ar)) (E9 g8) (sp 6 rfl (evn (qk [3,4,6,8] rfl (rs (sp 4 rfl (?_))))))
  obtain ⟨v9,g10,h⟩:=Aa h
  refine qC (qa rfl (erg (erc rfl (erc (erD As _) rfl))) (qa rfl (erg (erc rfl (erc (erD As _) rfl))) Ar)) (E9 g10) (sp 6 rfl (evn (rs (sp 2 rfl (?_)))))
  obtain ⟨v11,g12,h⟩:=Aa h
  refine qC (qa rfl (erg (erc rfl (erc (erD AS _) rfl))) (qa rfl (erg (erc rfl (erc (erD AS _) rfl))) Ar)) (E9 g12) (sp 6 rfl (evn (rs (sp 2 rfl (?_)))))
  obtain ⟨v13,g14,h⟩:=Aa h
  exact qC (qa rfl (erg (erc rfl (erc (erD AS _) rfl))) (qa rfl (erg (erc rfl (erc (erD AS _) rfl))) Ar)) (E9 g14) (sp 6 rfl (evn (rn 1 rfl (Af ((by cases h; exact ⟨.inl rfl,rfl⟩))))))
def Jy (a0 : Y32) (a1 : Y32) : Option (Y32 × Bool):=Ad (AD a0) fun v2 => cond (!v2) (some ((0,[]),false)) (Ad (AD a1) fun v5 => cond (!v5) (some ((0,[]),false)) (cond (a0.1 != a1.1) (some ((0,[]),false)) (chk (List.length ([] : List (List Int)) + List.length a0.2 <= lim) (chk (List.length (([] : List (List Int)) ++ a0.2) + List.length a1.2 <= lim) (Ad (B3 a0.1 ((([] : List (List Int)) ++ a0.2) ++ a1.2)) fun v11 => some (v11.1,v11.2))))))
theorem QD {a0 : Y32} {a1 : Y32} {r : Y32 × Bool} (h : Jy a0 a1 = some r) : Ai Tryz.prog 73 [.agg (ER a0),.agg (ER a1)] (.tup [.agg (GI r.1),.bool r.2]):=by
 unfold Jy at h
 refine st fO rfl (rn 1 rfl (Ac fun K1 hK1 => rs (sp 1 rfl (?_))))
 obtain ⟨v2,g3,h⟩:=Aa h
 refine qC (qa rfl (erg (erc rfl (erc (erD As _) rfl))) Ar) (AJ g3) (sp 2 rfl (?_))
 rcases Ab h with ⟨g4,h⟩ | ⟨g4,h⟩
 ·exact qg 11 g4 rfl (sp 11 rfl (evn (qT rfl rfl (rn 1 rfl (Af ((by cases h; exact ⟨.inl rfl,rfl⟩)))))))
 ·refine qg 11 g4 rfl (sp 1 rfl (?_))
  obtain ⟨v5,g6,h⟩:=Aa h
  refine oGR rfl rfl (qC (qa rfl (erg (erc rfl (erc (erD As _) rfl))) Ar) (AJ g6) (sp 3 rfl (?_)))
  rcases Ab h with ⟨g7,h⟩ | ⟨g7,h⟩
  ·exact qg 16 g7 rfl (sp 6 rfl (evn (qk [2,3,4,22] rfl (qT rfl rfl (rn 1 rfl (Af ((by cases h; exact ⟨.inl rfl,rfl⟩))))))))
  ·refine qg 16 g7 rfl (sp 6 rfl (evn ?_))
   rcases Ab h with ⟨g8,h⟩ | ⟨g8,h⟩
   ·exact qT rfl g8 (rn 1 rfl (Af ((by cases h; exact ⟨.inl rfl,rfl⟩))))
   ·refine qF rfl g8 (Ae (hK1 _ (rd (by kernel_rfl) (sd 2 rfl (ed rfl (qBs Ag [] rfl rfl rfl AW (sd 2 rfl (?_))))))))
    obtain ⟨g9,h⟩:=Ah h
    refine ed rfl (qA AG ([] : List (List Int)) a0.2 rfl rfl (Ap Bv a0.2) (GJ (fun _ => rfl) _) g9 (sd 2 rfl (?_)))
    obtain ⟨g10,h⟩:=Ah h
    refine ed rfl (qA AG (([] : List (List Int)) ++ a0.2) a1.2 rfl rfl (Ap Bv a1.2) (GJ (fun _ => rfl) _) g10 (?_))
    obtain ⟨v11,g12,h⟩:=Aa h
    exact ed rfl (qC (qs rfl (qa rfl (erO As _) Ar)) (EF g12) (sd 6 rfl (BB (rn 1 rfl (qk [4,5] rfl (Af ((by cases h; exact ⟨.inl rfl,rfl⟩))))))))
end Go.Proofs.YtklcofndjkjldaaGreat
