/-
  Functions of the program as typed functions, printed by gen.py, and that the program's functions do what they say. No conditions.
-/
import Derived.Test.YtkclaipnejgloaaGreatDoorGSbIF1
namespace Go.Proofs.YtkclaipnejgloaaGreatDoor
open Go.RowKit
set_option linter.unusedVariables false
set_option maxRecDepth 100000
set_option maxHeartbeats 1000000
def I8 (a0 : List Int) (a1 : List Int) (rec : ((List Int) × Int) -> Option ((List Int))) (s : (List Int) × Int) : Option ((List Int)):=match s with
  | (y1,y2) => cond (decide (y2 < (List.length a1 : Int))) (Ad (AA a1 y2) fun e6 => Ad (AA a0 e6) fun e8 => chk (List.length y1 + List.length [e8] <= lim) (rec ((y1 ++ [e8]),(IntKind.i64.wrap (y2 + 1))))) (some y1)
def IJ (a0 : List Int) (a1 : List Int) : Option ((List Int)):=Ad (Ah (I8 a0 a1) fz (([] : List Int),0)) fun z2 => some z2
theorem NV {a0 : List Int} {a1 : List Int} {r : (List Int)} (h : IJ a0 a1 = some r) : Ag Tryz.prog 96 [dL Ak a0,dL Ak a1] (oL 3 Ak r):=by
 unfold IJ at h
 refine st jj rfl (rn 1 rfl (rs (qBs Ak [] rfl rfl rfl Ao (sp 1 rfl (evn (Ac fun K1 hK1 => rn 1 rfl ?_))))))
 obtain ⟨o1,hl,hr1⟩:=Aa h
 have kXB1 : ∀ {z2 : List Int},z2 = o1 -> Jn K1 [(5,oL 3 Ak z2)]:=by
  intro z2 h σ' hk
  subst h
  replace h:=hr1
  try dsimp only at h
  exact hK1 _ (lh hk rfl (rn 1 rfl (Af ((by cases h; exact ⟨.inl rfl,rfl⟩)))))
 refine Aq (fun (s : (List Int) × Int) => match s with | (y1,y2) => [(0,dL Ak a0),(5,oL 3 Ak y1),(9,dL Ak a1),(10,nI (List.length a1 : Int)),(11,nI y2)]) _ _ _ _ hl (okr rfl) (fun _ => rfl) ?_
 rintro m ⟨y1,y2⟩ N h hN
 unfold I8 at h
 dsimp only at h
 refine rn 1 rfl (Ac fun K3 hK3 => ?_)
 rcases Ab h with ⟨g4,h⟩ | ⟨g4,h⟩
 ·refine qT rfl g4 (Ae (hK3 _ (Ac fun K5 hK5 => Ap (rs ?_))))
  obtain ⟨e6,g7,h⟩:=Aa h
  refine qI rfl Ao g7 (sp 2 rfl (evn (rg (sp 3 rfl (?_)))))
  obtain ⟨e8,g9,h⟩:=Aa h
  refine qI rfl Ao g9 (sp 1 rfl (qBs Ak [e8] rfl rfl rfl Ao (?_)))
  obtain ⟨g10,h⟩:=An h
  exact qA Ak y1 [e8] rfl rfl (AE Ao [e8]) rfl g10 (sp 1 rfl (evn (hK5 _ (rg (sp 2 rfl (evn (hN _ _ h (okr rfl))))))))
 ·exact qF rfl g4 (Aj (kXB1 (Option.some.inj h) _ (okr rfl)))
def E6 (rec : ((List (Nat × (List Int))) × (List (Nat × (List Int))) × (List (Nat × (List Int)))) -> Option ((List (Nat × (List Int))))) (y2 : List (Nat × (List Int))) (x20 : List (Nat × (List Int))) (x24 : List (Nat × (List Int))) : Option ((List (Nat × (List Int)))):=chk ((0 : Int) <= 1 ∧ 1 <= (List.length y2 : Int) ∧ (List.length y2 : Int) <= (List.length y2 : Int)) (rec (x20,(Cq y2 1 (List.length y2 : Int)),x24))
def Dw (rec : ((List (Nat × (List Int))) × (List (Nat × (List Int))) × (List (Nat × (List Int)))) -> Option ((List (Nat × (List Int))))) (y2 : List (Nat × (List Int))) (x18 : Int) (x20 : List (Nat × (List Int))) (x21 : List (Nat × (List Int))) : Option ((List (Nat × (List Int)))):=cond (decide (0 <= x18)) (cond (decide (0 < x18)) (Ad (AA y2 0) fun e27 => chk (List.length x21 + List.length [e27] <= lim) (E6 rec y2 x20 (x21 ++ [e27]))) (E6 rec y2 x20 x21)) (rec (x20,y2,x21))
def Cr (rec : ((List (Nat × (List Int))) × (List (Nat × (List Int))) × (List (Nat × (List Int)))) -> Option ((List (Nat × (List Int))))) (y1 : List (Nat × (List Int))) (y2 : List (Nat × (List Int))) (y3 : List (Nat × (List Int))) (x18 : Int) : Option ((List (Nat × (List Int)))):=cond (decide (x18 <= 0)) (Ad (AA y1 0) fun e31 => chk (List.length y3 + List.length [e31] <= lim) (chk ((0 : Int) <= 1 ∧ 1 <= (List.length y1 : Int) ∧ (List.length y1 : Int) <= (List.length y1 : Int)) (Dw rec y2 x18 (Cq y1 1 (List.length y1 : Int)) (y3 ++ [e31])))) (Dw rec y2 x18 y1 y3)
def Dv (rec : ((List (Nat × (List Int))) × (List (Nat × (List Int))) × (List (Nat × (List Int)))) -> Option ((List (Nat × (List Int))))) (y1 : List (Nat × (List Int))) (y2 : List (Nat × (List Int))) (y3 : List (Nat × (List Int))) (x15 : Bool) : Option ((List (Nat × (List Int)))):=cond x15 (cond ((List.length y1 : Int) == 0) (Cr rec y1 y2 y3 1) (cond (decide (0 < (List.length y2 : Int))) (Ad (AA y1 0) fun e37 => Ad (AA y2 0) fun e39 => Ad (CX e37.2 e39.2) fun v41 => Cr rec y1 y2 y3 v41) (Cr rec y1 y2 y3 (-1)))) (some y3)
def Bl  (rec : ((List (Nat × (List Int))) × (List (Nat × (List Int))) × (List (Nat × (List Int)))) -> Option ((List (Nat × (List Int))))) (s : (List (Nat × (List Int))) × (List (Nat × (List Int))) × (List (Nat × (List Int)))) : Option ((List (Nat × (List Int)))):=match s with
  | (y1,y2,y3) => cond (decide (0 < (List.length y1 : Int))) (Dv rec y1 y2 y3 true) (Dv rec y1 y2 y3 (decide (0 < (List.length y2 : Int))))
def ET (rec : ((List (List Int))) -> Option ((List (List Int)))) (a0 : (List (List Int))) : Option ((List (List Int))):=cond (decide ((List.length a0 : Int) < 2)) (Ad (GC a0) fun v3 => some v3) (chk ((0 : Int) <= 0 ∧ 0 <= IntKind.i64.wrap (Int.tdiv (List.length a0 : Int) 2) ∧ IntKind.i64.wrap (Int.tdiv (List.length a0 : Int) 2) <= (List.length a0 : Int)) (Ad (rec (Cq a0 0 (IntKind.i64.wrap (Int.tdiv (List.length a0 : Int) 2)))) fun v6 => chk ((0 : Int) <= IntKind.i64.wrap (Int.tdiv (List.length a0 : Int) 2) ∧ IntKind.i64.wrap (Int.tdiv (List.length a0 : Int) 2) <= (List.length a0 : Int) ∧ (List.length a0 : Int) <= (List.length a0 : Int)) (Ad (rec (Cq a0 (IntKind.i64.wrap (Int.tdiv (List.length a0 : Int) 2)) (List.length a0 : Int))) fun v9 => Ad (Ah Bl fz ((I0 0 v6),(I0 (List.length v6) v9),([] : List (Nat × (List Int))))) fun z12 => chk (okJ (v6 ++ v9) (List.map Sum.inl z12) [] = true) (some (List.map getM (List.map Sum.inl z12))))))
def JU (a0 : List (List Int)) : Option ((List (List Int))):=Ah ET fz a0
theorem LL {a0 : List (List Int)} {r : (List (List Int))} (h : JU a0 = some r) : Ag Tryz.prog 97 [dL AL a0] (oL 26 As r):=by
 suffices key : ∀ mF (a0 : List (List Int)) (r : (List (List Int))),Ah ET mF a0 = some r -> Ag Tryz.prog 97 [dL AL a0] (oL 26 As r) from key fz a0 r h
 intro mF
 induction mF with
 | zero => intro a0 r h; cases h
 | succ mF ih0 =>
  intro a0 r h
  have ih : ∀ {a0 : List (List Int)} {r : (List (List Int))},Ah ET mF a0 = some r -> Ag Tryz.prog 97 [dL AL a0] (oL 26 As r):=fun h => ih0 _ _ h
  change ET (Ah ET mF) a0 = some r at h
  unfold ET at h
  try dsimp only at h
  refine st jk rfl (rn 1 rfl (Ac fun K1 hK1 => rn 1 rfl ?_))
  rcases Ab h with ⟨g2,h⟩ | ⟨g2,h⟩
  ·refine qT rfl g2 (rs (sp 1 rfl (?_)))
   obtain ⟨v3,g4,h⟩:=Aa h
   exact qC (qa rfl (erD Bc _) Aw) (Ko g4) (sp 1 rfl (evn (Af ((by cases h; exact ⟨.inl rfl,rfl⟩)))))
  ·refine qF rfl g2 (Ae (hK1 _ (rn 1 rfl (rd (by kernel_rfl) (sd 2 rfl (?_))))))
   obtain ⟨g5,h⟩:=An h
   refine ed rfl (qSl rfl AY g5 (?_))
   obtain ⟨v6,g7,h⟩:=Aa h
   refine ed rfl (qC (qa rfl (erD Bc _) Aw) (ih g7) (sd 2 rfl (?_)))
   obtain ⟨g8,h⟩:=An h
   refine ed rfl (qSl rfl AY g8 (?_))
   obtain ⟨v9,g10,h⟩:=Aa h
   refine ed rfl (qC (qa rfl (erD Bc _) Aw) (ih g10) (sd 2 rfl (Ea (qk [4,5] rfl (U7 (f:=As) (s1:=4) (s2:=5) (g1:=900001) (g2:=900002) rfl rfl rfl rfl ⟨by decide,by decide,by decide,by decide,by decide,by decide⟩ (Q8 (fun _ => rfl)) (Q8 (fun _ => rfl)) (fun _ => rfl) (fun _ => rfl) (fun _ => rfl) (fun _ => rfl) ?_)))))
   intro U us1 us2 hu1 hu2 hU
   refine kp [(4,oL 26 (pE As U) (I0 0 v6)),(5,oL 26 (pE As U) (I0 (List.length v6) v9)),(900001,.gh us1 (List.map (fun x => KW (As x)) v6)),(900002,.gh us2 (List.map (fun x => KW (As x)) v9))] rfl rfl (rn 1 rfl (Ac fun K11 hK11 => ?_))
   obtain ⟨o1,hl,hr1⟩:=Aa h
   have kXB1 : ∀ {z12 : List (Nat × (List Int))},z12 = o1 -> Jn K11 [(6,oL 26 (pE As U) z12),(900001,.gh us1 (List.map (fun x => KW (As x)) v6)),(900002,.gh us2 (List.map (fun x => KW (As x)) v9))]:=by
    intro z12 h σ' hk
    subst h
    replace h:=hr1
    try dsimp only at h
    refine hK11 _ (lh hk rfl (qk [6,900001,900002] rfl ?_))
    obtain ⟨g44,h⟩:=An h
    exact WU (g1:=900001) (g2:=900002) rfl rfl (by decide) (WS (f:=As) (s:=6) (q:=900001) (l:=v6 ++ v9) (U:=U) (L:=List.map Sum.inl z12) ZJ rfl List.map_append.symm (by decide) (WJ (fun _ => rfl)) hU g44 rfl rfl (kp [(6,oL 26 As (List.map getM (List.map Sum.inl z12)))] rfl rfl (rn 1 rfl (Af ((by cases h; exact ⟨.inl rfl,rfl⟩))))))
   refine Aq (fun (s : (List (Nat × (List Int))) × (List (Nat × (List Int))) × (List (Nat × (List Int)))) => match s with | (y1,y2,y3) => [(4,dL (pE As U) y1),(5,dL (pE As U) y2),(6,oL 26 (pE As U) y3),(900001,.gh us1 (List.map (fun x => KW (As x)) v6)),(900002,.gh us2 (List.map (fun x => KW (As x)) v9))]) _ _ _ _ hl ⟨(kd rfl rfl),(kd rfl rfl),kr,kr,kr,trivial⟩ (fun _ => rfl) ?_
   rintro m ⟨y1,y2,y3⟩ N h hN
   unfold Bl at h
   dsimp only at h
   refine Ac fun K13 hK13 => rk fun K14 hK14 => ?_
   have kJ2 : ∀ {x15 : Bool},Dv (Ah Bl m) y1 y2 y3 x15 = some o1 -> Jn K14 [(4,dL (pE As U) y1),(5,dL (pE As U) y2),(6,oL 26 (pE As U) y3),(31,.bool x15),(900001,.gh us1 (List.map (fun x => KW (As x)) v6)),(900002,.gh us2 (List.map (fun x => KW (As x)) v9))]:=by
    intro x15 h σ' hk
    unfold Dv at h
    refine hK14 _ (lh hk rfl ?_)
    rcases Ab h with ⟨g16,h⟩ | ⟨g16,h⟩
    ·refine qT rfl g16 (Ae (hK13 _ (Ap (rn 1 rfl (Ac fun K17 hK17 => rn 1 rfl ?_)))))
     have kJ3 : ∀ {x18 : Int},Cr (Ah Bl m) y1 y2 y3 x18 = some o1 -> Jn K17 [(4,dL (pE As U) y1),(5,dL (pE As U) y2),(6,oL 26 (pE As U) y3),(7,nI x18),(900001,.gh us1 (List.map (fun x => KW (As x)) v6)),(900002,.gh us2 (List.map (fun x => KW (As x)) v9))]:=by
      intro x18 h σ' hk
      unfold Cr at h
      refine hK17 _ (lh hk rfl (Ac fun K19 hK19 => rn 1 rfl ?_))
      have kJ4 : ∀ {x20 : List (Nat × (List Int))} {x21 : List (Nat × (List Int))},Dw (Ah Bl m) y2 x18 x20 x21 = some o1 -> Jn K19 [(4,dL (pE As U) x20),(5,dL (pE As U) y2),(6,oL 26 (pE As U) x21),(7,nI x18),(900001,.gh us1 (List.map (fun x => KW (As x)) v6)),(900002,.gh us2 (List.map (fun x => KW (As x)) v9))]:=by
       intro x20 x21 h σ' hk
       unfold Dw at h
       refine hK19 _ (lh hk rfl (rn 1 rfl ?_))
       rcases Ab h with ⟨g22,h⟩ | ⟨g22,h⟩
       ·refine qT rfl g22 (Ac fun K23 hK23 => rn 1 rfl ?_)
        have kJ5 : ∀ {x24 : List (Nat × (List Int))},E6 (Ah Bl m) y2 x20 x24 = some o1 -> Jn K23 [(4,dL (pE As U) x20),(5,dL (pE As U) y2),(6,oL 26 (pE As U) x24),(900001,.gh us1 (List.map (fun x => KW (As x)) v6)),(900002,.gh us2 (List.map (fun x => KW (As x)) v9))]:=by
         intro x24 h σ' hk
         unfold E6 at h
         refine hK23 _ (lh hk rfl (rg (sp 1 rfl (?_))))
         obtain ⟨g25,h⟩:=An h
         exact qSl rfl (zpE Cf) g25 (sp 1 rfl (evn (hN _ _ h (okr rfl))))
        rcases Ab h with ⟨g26,h⟩ | ⟨g26,h⟩
        ·refine qT rfl g26 (rg (sp 2 rfl (?_)))
         obtain ⟨e27,g28,h⟩:=Aa h
         refine qI rfl (zpE Cf) g28 (sp 1 rfl (qBs (pE As U) [e27] rfl rfl rfl (zpE Cf) (?_)))
         obtain ⟨g29,h⟩:=An h
         exact qA (pE As U) x21 [e27] rfl rfl (AE (zpE Cf) [e27]) rfl g29 (sp 1 rfl (evn (kJ5 h _ (okr rfl))))
        ·exact qF rfl g26 (Ae (kJ5 h _ (okr rfl)))
       ·exact qF rfl g22 (Ae (hN _ _ h (okr rfl)))
      rcases Ab h with ⟨g30,h⟩ | ⟨g30,h⟩
      ·refine qT rfl g30 (rs (sp 2 rfl (?_)))
       obtain ⟨e31,g32,h⟩:=Aa h
       refine qI rfl (zpE Cf) g32 (sp 1 rfl (qBs (pE As U) [e31] rfl rfl rfl (zpE Cf) (?_)))
       obtain ⟨g33,h⟩:=An h
       refine qA (pE As U) y3 [e31] rfl rfl (AE (zpE Cf) [e31]) rfl g33 (sp 1 rfl (evn (rg (sp 1 rfl (?_)))))
       obtain ⟨g34,h⟩:=An h
       exact qSl rfl (zpE Cf) g34 (sp 1 rfl (evn (kJ4 h _ (okr rfl))))
      ·exact qF rfl g30 (Ae (kJ4 h _ (okr rfl)))
     rcases Ab h with ⟨g35,h⟩ | ⟨g35,h⟩
     ·exact qT rfl g35 (rg (sp 1 rfl (evn (kJ3 h _ (okr rfl)))))
     ·refine qF rfl g35 (rn 1 rfl (qk [4,5,6,7,37,900001,900002] rfl ?_))
      rcases Ab h with ⟨g36,h⟩ | ⟨g36,h⟩
      ·refine qT rfl g36 (rgd (by kernel_rfl) (sd 1 rfl (?_)))
       obtain ⟨e37,g38,h⟩:=Aa h
       refine ed rfl (qI rfl (zpE Cf) g38 (sd 2 rfl (?_)))
       obtain ⟨e39,g40,h⟩:=Aa h
       refine ed rfl (qI rfl (zpE Cf) g40 (sd 1 rfl (?_)))
       obtain ⟨v41,g42,h⟩:=Aa h
       exact ed rfl (qC (qa rfl (erP Al Al _) (qa rfl (erP Al Al _) Aw)) (F2 g42) (sd 1 rfl (Ea (kJ3 h _ (okr rfl)))))
      ·exact qF rfl g36 (Ae (kJ3 h _ (okr rfl)))
    ·exact qF rfl g16 (Aj (kXB1 (Option.some.inj h) _ (okr rfl)))
   refine sp 4 rfl (?_)
   rcases Ab h with ⟨g43,h⟩ | ⟨g43,h⟩
   ·exact qg 27 g43 rfl (sp 4 rfl (evn (kJ2 h _ (okr rfl))))
   ·exact qg 27 g43 rfl (sp 4 rfl (evn (kJ2 h _ (okr rfl))))
def CF (rec : ((List Int) × Bool × Int) -> Option ((List Int) × Bool)) (e16 : List Int) (y9 : List Int) (y11 : Int) (e25 : Int) (x30 : Bool) : Option ((List Int) × Bool):=Ad (AA e16 y11) fun e31 => Ad (AA y9 e25) fun e33 => rec ((Ky y9 e25 e31),x30,(IntKind.i64.wrap (y11 + 1)))
def BP (a1 : Y78) (e16 : List Int) (rec : ((List Int) × Bool × Int) -> Option ((List Int) × Bool)) (s : (List Int) × Bool × Int) : Option ((List Int) × Bool):=match s with
  | (y9,y10,y11) => cond (decide (y11 < (List.length a1.2 : Int))) (Ad (AA a1.2 y11) fun e25 => Ad (Gf a1.2 e25) fun v27 => cond y10 (Ad (AA e16 v27) fun e36 => Ad (AA e16 y11) fun e38 => CF rec e16 y9 y11 e25 (e36 == e38)) (CF rec e16 y9 y11 e25 false)) (some (y9,y10))
def CG (rec : ((List (List Int)) × Int) -> Option ((List (List Int)))) (y5 : Int) (x40 : List (List Int)) : Option ((List (List Int))):=rec (x40,(IntKind.i64.wrap (y5 + 1)))
def BO (a1 : Y78) (v1 : (List Int)) (v3 : Y57 × Bool) (rec : ((List (List Int)) × Int) -> Option ((List (List Int)))) (s : (List (List Int)) × Int) : Option ((List (List Int))):=match s with
  | (y4,y5) => cond (decide (y5 < (List.length v3.1.2 : Int))) (Ad (AA v3.1.2 y5) fun e16 => chk ((0 : Int) <= 5 ∧ Int.toNat 5 <= lim) (Ad (Ah (BP a1 e16) fz ((List.replicate (Int.toNat 5) (0 : Int)),true,0)) fun o2 => (match o2 with
  | (z20,z21) => (cond z21 (Ad (IJ z20 v1) fun v42 => chk (List.length y4 + List.length [v42] <= lim) (CG rec y5 (y4 ++ [v42]))) (CG rec y5 y4))))) (some y4)
def Eb (a0 : List Y96) (a1 : Y78) : Option (Y57):=Ad (DK a1) fun v1 => Ad (Dh a0 a1.1) fun v3 => cond (!v3.2) (some ((List.length v1 : Int),[])) (cond (v3.1.1 != (List.length a1.2 : Int)) (some ((List.length v1 : Int),[])) (Ad (DE 5 a1.2) fun v8 => cond (!v8) (some ((List.length v1 : Int),[])) (Ad (Ah (BO a1 v1 v3) fz (([] : List (List Int)),0)) fun z12 => Ad (JU z12) fun v45 => some ((List.length v1 : Int),v45))))
theorem IH {a0 : List Y96} {a1 : Y78} {r : Y57} (h : Eb a0 a1 = some r) : Ag Tryz.prog 52 [.agg [dL BY a0],.agg (BM a1)] (.agg (ID r)):=by
 unfold Eb at h
 refine st iz rfl (rn 1 rfl (rs (sp 1 rfl (?_))))
 obtain ⟨v1,g2,h⟩:=Aa h
 refine qC (qa rfl (erg (erc rfl (erc (erD Al _) rfl))) Aw) (Ip g2) (sp 1 rfl (evn (rn 1 rfl (rs (sp 3 rfl (?_))))))
 obtain ⟨v3,g4,h⟩:=Aa h
 refine qC (qa rfl (erg (erc (erD D1 _) rfl)) (qs rfl Aw)) (HS g4) (sp 6 rfl (evn (Ac fun K5 hK5 => rs (sp 3 rfl (?_)))))
 rcases Ab h with ⟨g6,h⟩ | ⟨g6,h⟩
 ·exact qg 31 g6 rfl (sp 13 rfl (evn (qk [3,4,5,6,7,44] rfl (qT rfl rfl (rn 1 rfl (Af ((by cases h; exact ⟨.inl rfl,rfl⟩))))))))
 ·refine qg 31 g6 rfl (sp 8 rfl (?_))
  rcases Ab h with ⟨g7,h⟩ | ⟨g7,h⟩
  ·exact qg 39 g7 rfl (sp 5 rfl (evn (qT rfl rfl (rn 1 rfl (Af ((by cases h; exact ⟨.inl rfl,rfl⟩)))))))
  ·refine qg 39 g7 rfl (sp 2 rfl (?_))
   obtain ⟨v8,g9,h⟩:=Aa h
   refine oGR rfl rfl (qC (qs rfl (qa rfl (erD Al _) Aw)) (Jw g9) (sp 2 rfl (evn ?_)))
   rcases Ab h with ⟨g10,h⟩ | ⟨g10,h⟩
   ·exact qT rfl g10 (rn 1 rfl (Af ((by cases h; exact ⟨.inl rfl,rfl⟩))))
   ·refine qF rfl g10 (Ae (hK5 _ (qk [3,4,5,6,7] rfl (rn 1 rfl (Ac fun K11 hK11 => rn 1 rfl ?_)))))
    obtain ⟨o1,hl,hr1⟩:=Aa h
    have kXB1 : ∀ {z12 : List (List Int)},z12 = o1 -> Jn K11 [(4,.box [nI 0,oL 26 As []]),(6,.box [nI (List.length v1 : Int),oL 26 As []]),(9,oL 26 As z12)]:=by
     intro z12 h σ' hk
     subst h
     replace h:=hr1
     try dsimp only at h
     refine hK11 _ (lh hk rfl (rs (sp 1 rfl (?_))))
     obtain ⟨v45,g46,h⟩:=Aa h
     exact qC (qa rfl (erD I4 _) Aw) (LL g46) (sp 2 rfl (evn (rn 1 rfl (Af ((by cases h; exact ⟨.inl rfl,rfl⟩))))))
    refine Aq (fun (s : (List (List Int)) × Int) => match s with | (y4,y5) => [(3,.box [.str a1.1,dL Ak a1.2]),(4,.box [nI 0,oL 26 As []]),(5,oL 3 Ak v1),(6,.box [nI (List.length v1 : Int),oL 26 As []]),(9,oL 26 As y4),(47,dL As v3.1.2),(48,nI (List.length v3.1.2 : Int)),(49,nI y5)]) _ _ _ _ hl (okr rfl) (fun _ => rfl) ?_
    rintro m ⟨y4,y5⟩ N h hN
    unfold BO at h
    dsimp only at h
    refine rn 1 rfl (Ac fun K13 hK13 => ?_)
    rcases Ab h with ⟨g14,h⟩ | ⟨g14,h⟩
    ·refine qT rfl g14 (Ae (hK13 _ (Ac fun K15 hK15 => Ap (rs ?_))))
     obtain ⟨e16,g17,h⟩:=Aa h
     refine qI rfl Cf g17 (sp 2 rfl (evn (rs ?_)))
     obtain ⟨g18,h⟩:=An h
     refine qMu Ak (0 : Int) rfl rfl rfl rfl g18 rfl (qAu rfl rfl rfl rfl (evn (rn 1 rfl (Ac fun K19 hK19 => rn 1 rfl ?_))))
     obtain ⟨o2,hl,hr2⟩:=Aa h
     have kXB2 : ∀ {z20 : List Int} {z21 : Bool},(z20,z21) = o2 -> Jn K19 [(3,.box [.str a1.1,dL Ak a1.2]),(4,.box [nI 0,oL 26 As []]),(5,oL 3 Ak v1),(6,.box [nI (List.length v1 : Int),oL 26 As []]),(9,oL 26 As y4),(12,wL 3 Ak z20),(13,.bool z21),(47,dL As v3.1.2),(48,nI (List.length v3.1.2 : Int)),(49,nI y5)]:=by
      intro z20 z21 h σ' hk
      subst h
      replace h:=hr2
      try dsimp only at h
      refine hK19 _ (lh hk rfl (rn 1 rfl ?_))
      have kJ4 : ∀ {x40 : List (List Int)},CG (Ah (BO a1 v1 v3) m) y5 x40 = some o1 -> Jn K15 [(3,.box [.str a1.1,dL Ak a1.2]),(4,.box [nI 0,oL 26 As []]),(5,oL 3 Ak v1),(6,.box [nI (List.length v1 : Int),oL 26 As []]),(9,oL 26 As x40),(47,dL As v3.1.2),(48,nI (List.length v3.1.2 : Int)),(49,nI y5)]:=by
       intro x40 h σ' hk
       unfold CG at h
       exact hK15 _ (lh hk rfl (rg (sp 2 rfl (evn (hN _ _ h (okr rfl))))))
      rcases Ab h with ⟨g41,h⟩ | ⟨g41,h⟩
      ·refine qT rfl g41 (rg (sp 1 rfl (qTu rfl rfl rfl (sp 1 rfl (?_)))))
       obtain ⟨v42,g43,h⟩:=Aa h
       refine qC (qa rfl (erO Al _) (qa rfl (erD Al _) Aw)) (NV g43) (qBs As [v42] rfl rfl rfl Cf (?_))
       obtain ⟨g44,h⟩:=An h
       exact qA As y4 [v42] rfl rfl (AE Cf [v42]) rfl g44 (sp 1 rfl (evn (kJ4 h _ (okr rfl))))
      ·exact qF rfl g41 (Ae (kJ4 h _ (okr rfl)))
     refine Aq (fun (s : (List Int) × Bool × Int) => match s with | (y9,y10,y11) => [(3,.box [.str a1.1,dL Ak a1.2]),(4,.box [nI 0,oL 26 As []]),(5,oL 3 Ak v1),(6,.box [nI (List.length v1 : Int),oL 26 As []]),(9,oL 26 As y4),(11,dL Ak e16),(12,wL 3 Ak y9),(13,.bool y10),(47,dL As v3.1.2),(48,nI (List.length v3.1.2 : Int)),(49,nI y5),(55,dL Ak a1.2),(56,nI (List.length a1.2 : Int)),(57,nI y11)]) _ _ _ _ hl (okr rfl) (fun _ => rfl) ?_
     rintro m ⟨y9,y10,y11⟩ N h hN
     unfold BP at h
     dsimp only at h
     refine rn 1 rfl (Ac fun K22 hK22 => ?_)
     rcases Ab h with ⟨g23,h⟩ | ⟨g23,h⟩
     ·refine qT rfl g23 (Ae (hK22 _ (Ac fun K24 hK24 => Ap (rs (sp 1 rfl (?_))))))
      obtain ⟨e25,g26,h⟩:=Aa h
      refine qI rfl Ao g26 (sp 3 rfl (evn (rs (sp 3 rfl (?_)))))
      obtain ⟨v27,g28,h⟩:=Aa h
      refine qC (qa rfl (erD Al _) (qs rfl Aw)) (Jj g28) (sp 1 rfl (evn (rdk (by kernel_rfl) fun K29 hK29 => ?_)))
      have kJ3 : ∀ {x30 : Bool},CF (Ah (BP a1 e16) m) e16 y9 y11 e25 x30 = some o2 -> Jn K29 [(3,.box [.str a1.1,dL Ak a1.2]),(4,.box [nI 0,oL 26 As []]),(5,oL 3 Ak v1),(6,.box [nI (List.length v1 : Int),oL 26 As []]),(9,oL 26 As y4),(11,dL Ak e16),(12,wL 3 Ak y9),(13,.bool x30),(14,nI y11),(15,nI e25),(47,dL As v3.1.2),(48,nI (List.length v3.1.2 : Int)),(49,nI y5),(55,dL Ak a1.2),(56,nI (List.length a1.2 : Int)),(57,nI y11)]:=by
       intro x30 h σ' hk
       unfold CF at h
       refine hK29 _ (lh hk rfl (rg (sp 4 rfl (?_))))
       obtain ⟨e31,g32,h⟩:=Aa h
       refine qI rfl Ao g32 (sp 1 rfl (?_))
       obtain ⟨e33,g34,h⟩:=Aa h
       exact qIu rfl ⟨(Am g34).1,(Am g34).2.1⟩ (qSu e31 rfl rfl Ao ⟨(Am g34).1,(Am g34).2.1⟩ rfl rfl rfl rfl rfl rfl (evn (hK24 _ (rg (sp 2 rfl (evn (hN _ _ h (okr rfl))))))))
      refine sd 2 rfl (?_)
      rcases Ab h with ⟨g35,h⟩ | ⟨g35,h⟩
      ·refine qgd 67 g35 rfl (sd 2 rfl (?_))
       obtain ⟨e36,g37,h⟩:=Aa h
       refine ed rfl (oGR rfl rfl (qI rfl Ao g37 (sd 3 rfl (?_))))
       obtain ⟨e38,g39,h⟩:=Aa h
       exact ed rfl (oGR rfl rfl (qI rfl Ao g39 (sd 4 rfl (Ea (kJ3 h _ (okr rfl))))))
      ·exact qgd 67 g35 rfl (sd 11 rfl (Ea (kJ3 h _ (okr rfl))))
     ·exact qF rfl g23 (Aj (kXB2 (Option.some.inj h) _ (okr rfl)))
    ·exact qF rfl g14 (Aj (kXB1 (Option.some.inj h) _ (okr rfl)))
def Gz (a0 : List Y96) (a1 : Y41) (rec : ((List Int) × Int) -> Option ((List Int))) (s : (List Int) × Int) : Option ((List Int)):=match s with
  | (y1,y2) => cond (decide (y2 < (List.length a1.2.1 : Int))) (Ad (AA a1.2.1 y2) fun e10 => Ad (Eb a0 e10) fun v12 => chk (List.length y1 + List.length [(List.length v12.2 : Int)] <= lim) (rec ((y1 ++ [(List.length v12.2 : Int)]),(IntKind.i64.wrap (y2 + 1))))) (some y1)
def GM (a0 : List Y96) (a1 : Y41) : Option ((List Int) × Bool):=Ad (Fi a0 a1) fun v2 => cond (!v2) (some (([] : List Int),false)) (Ad (Ah (Gz a0 a1) fz (([] : List Int),0)) fun z6 => some (z6,true))
theorem MX {a0 : List Y96} {a1 : Y41} {r : (List Int) × Bool} (h : GM a0 a1 = some r) : Ag Tryz.prog 27 [.agg [dL BY a0],.agg (Bz a1)] (.tup [oL 3 Ak r.1,.bool r.2]):=by
 unfold GM at h
 refine st gY rfl (rn 1 rfl (Ac fun K1 hK1 => rs (sp 2 rfl (?_))))
 obtain ⟨v2,g3,h⟩:=Aa h
 refine qC (qa rfl (erg (erc (erD D1 _) rfl)) (qa rfl (erg (erc rfl (erc (erD Ce _) (erc (erD Al _) rfl)))) Aw)) (Jt g3) (sp 1 rfl (evn ?_))
 rcases Ab h with ⟨g4,h⟩ | ⟨g4,h⟩
 ·exact qT rfl g4 (rn 1 rfl (Af ((by cases h; exact ⟨.inl rfl,rfl⟩))))
 ·refine qF rfl g4 (Ae (hK1 _ (rn 1 rfl (Ac fun K5 hK5 => rn 1 rfl ?_))))
  obtain ⟨o1,hl,hr1⟩:=Aa h
  have kXB1 : ∀ {z6 : List Int},z6 = o1 -> Jn K5 [(6,oL 3 Ak z6)]:=by
   intro z6 h σ' hk
   subst h
   replace h:=hr1
   try dsimp only at h
   exact hK5 _ (lh hk rfl (rn 1 rfl (Af ((by cases h; exact ⟨.inl rfl,rfl⟩)))))
  refine Aq (fun (s : (List Int) × Int) => match s with | (y1,y2) => [(2,.box [dL BY a0]),(6,oL 3 Ak y1),(14,dL BM a1.2.1),(15,nI (List.length a1.2.1 : Int)),(16,nI y2)]) _ _ _ _ hl (okr rfl) (fun _ => rfl) ?_
  rintro m ⟨y1,y2⟩ N h hN
  unfold Gz at h
  dsimp only at h
  refine rn 1 rfl (Ac fun K7 hK7 => ?_)
  rcases Ab h with ⟨g8,h⟩ | ⟨g8,h⟩
  ·refine qT rfl g8 (Ae (hK7 _ (Ac fun K9 hK9 => Ap (rs ?_))))
   obtain ⟨e10,g11,h⟩:=Aa h
   refine qI rfl G3 g11 (sp 3 rfl (evn (rg (sp 3 rfl (?_)))))
   obtain ⟨v12,g13,h⟩:=Aa h
   refine qC (qa rfl (erg (erc (erD D1 _) rfl)) (qa rfl (erg (erc rfl (erc (erD Al _) rfl))) Aw)) (IH g13) (qFd 1 (by kernel_rfl) rfl (sp 1 rfl (qBs Ak [(List.length v12.2 : Int)] rfl rfl rfl Ao (?_))))
   obtain ⟨g14,h⟩:=An h
   exact qA Ak y1 [(List.length v12.2 : Int)] rfl rfl (AE Ao [(List.length v12.2 : Int)]) rfl g14 (sp 1 rfl (evn (hK9 _ (rg (sp 2 rfl (evn (hN _ _ h (okr rfl))))))))
  ·exact qF rfl g8 (Aj (kXB1 (Option.some.inj h) _ (okr rfl)))
def CI (x2 : Bool) : Option (Bool):=some x2
def Ec (a0 : Y41) (a1 : List Int) : Option (Bool):=Ad (BF a0) fun v3 => cond v3 (cond ((List.length a1 : Int) == a0.1) (Ad (Gg a1 a0.1) fun v7 => CI v7) (CI false)) (CI false)
theorem II {a0 : Y41} {a1 : List Int} {r : Bool} (h : Ec a0 a1 = some r) : Ag Tryz.prog 57 [.agg (Bz a0),dL Ak a1] (.bool r):=by
 unfold Ec at h
 refine st iE rfl (rn 1 rfl (rk fun K1 hK1 => ?_))
 have kJ1 : ∀ {x2 : Bool},CI x2 = some r -> Jn K1 [(4,.bool x2)]:=by
  intro x2 h σ' hk
  unfold CI at h
  exact hK1 _ (lh hk rfl (Af ((by cases h; exact ⟨.inl rfl,rfl⟩))))
 refine sp 1 rfl (?_)
 obtain ⟨v3,g4,h⟩:=Aa h
 refine qC (qa rfl (erg (erc rfl (erc (erD Ce _) (erc (erD Al _) rfl)))) Aw) (Eu g4) (sp 1 rfl (?_))
 rcases Ab h with ⟨g5,h⟩ | ⟨g5,h⟩
 ·refine qg 7 g5 rfl (sp 7 rfl (?_))
  rcases Ab h with ⟨g6,h⟩ | ⟨g6,h⟩
  ·refine qg 14 g6 rfl (sp 3 rfl (?_))
   obtain ⟨v7,g8,h⟩:=Aa h
   exact oGR rfl rfl (qC (qa rfl (erD Al _) (qs rfl Aw)) (Jk g8) (sp 2 rfl (evn (kJ1 h _ (okr rfl)))))
  ·exact qg 14 g6 rfl (sp 6 rfl (evn (kJ1 h _ (okr rfl))))
 ·exact qg 7 g5 rfl (sp 13 rfl (evn (kJ1 h _ (okr rfl))))
def DB (x2 : Bool) : Option (Bool):=some x2
def F3 (a0 : List Int) : Option (Bool):=cond (decide ((List.length a0 : Int) <= 5)) (Ad (Gg a0 (List.length a0 : Int)) fun v4 => DB v4) (DB false)
theorem KR {a0 : List Int} {r : Bool} (h : F3 a0 = some r) : Ag Tryz.prog 132 [dL Ak a0] (.bool r):=by
 unfold F3 at h
 refine st cf rfl (rn 1 rfl (rk fun K1 hK1 => ?_))
 have kJ1 : ∀ {x2 : Bool},DB x2 = some r -> Jn K1 [(2,.bool x2)]:=by
  intro x2 h σ' hk
  unfold DB at h
  exact hK1 _ (lh hk rfl (Af ((by cases h; exact ⟨.inl rfl,rfl⟩))))
 refine sp 4 rfl (?_)
 rcases Ab h with ⟨g3,h⟩ | ⟨g3,h⟩
 ·refine qg 6 g3 rfl (sp 3 rfl (?_))
  obtain ⟨v4,g5,h⟩:=Aa h
  exact oGR rfl rfl (qC (qa rfl (erD Al _) (qs rfl Aw)) (Jk g5) (sp 2 rfl (evn (kJ1 h _ (okr rfl)))))
 ·exact qg 6 g3 rfl (sp 6 rfl (evn (kJ1 h _ (okr rfl))))
def FF (a0 : Int) (a1 : List (List Int)) (rec : Int -> Option (Sum (Unit) (Y57 × Bool))) (y1 : Int) : Option (Sum (Unit) (Y57 × Bool)):=cond (decide (y1 < (List.length a1 : Int))) (Ad (AA a1 y1) fun e5 => cond ((List.length e5 : Int) != a0) (some (.inr ((0,[]),false))) (Ad (Dg e5) fun v8 => cond (!v8) (some (.inr ((0,[]),false))) (rec (IntKind.i64.wrap (y1 + 1))))) (some (.inl ()))
def FO (a0 : Int) (a1 : List (List Int)) : Option (Y57 × Bool):=Ad (Ah (FF a0 a1) fz 0) fun o1 => (match o1 with
  | .inl _ => (Ad (JU a1) fun v11 => Ad (A9 (a0,v11)) fun v14 => cond (!v14) (some ((0,[]),false)) (some ((a0,v11),true)))
  | .inr r => some r)
theorem LK {a0 : Int} {a1 : List (List Int)} {r : Y57 × Bool} (h : FO a0 a1 = some r) : Ag Tryz.prog 156 [nI a0,dL AL a1] (.tup [.agg (ID r.1),.bool r.2]):=by
 unfold FO at h
 refine st cI rfl (rn 1 rfl (Ac fun K1 hK1 => rn 1 rfl ?_))
 obtain ⟨o1,hl,hr1⟩:=Aa h
 have kXB1 : (.inl ()) = o1 -> Jn K1 [(0,nI a0),(1,dL AL a1),(4,.box [nI 0,oL 26 As []])]:=by
  intro h σ' hk
  subst h
  replace h:=hr1
  try dsimp only at h
  refine hK1 _ (lh hk rfl (rs (sp 2 rfl (?_))))
  obtain ⟨v11,g12,h⟩:=Aa h
  refine qC (qa rfl (erD Bc _) Aw) (LL g12) (sp 3 rfl (evn (Ac fun K13 hK13 => rs (sp 1 rfl (?_)))))
  obtain ⟨v14,g15,h⟩:=Aa h
  refine qC (qa rfl (erg (erc rfl (erc (erD I4 _) rfl))) Aw) (C5 g15) (sp 1 rfl (evn ?_))
  rcases Ab h with ⟨g16,h⟩ | ⟨g16,h⟩
  ·exact qT rfl g16 (rn 1 rfl (Af ((by cases h; exact ⟨.inl rfl,rfl⟩))))
  ·exact qF rfl g16 (Ae (hK13 _ (rn 1 rfl (Af ((by cases h; exact ⟨.inl rfl,rfl⟩))))))
 refine Aq (fun (y1 : Int) => [(0,nI a0),(1,dL AL a1),(4,.box [nI 0,oL 26 As []]),(9,dL AL a1),(10,nI (List.length a1 : Int)),(11,nI y1)]) _ _ _ _ hl (okr rfl) (fun _ => rfl) ?_
 rintro m y1 N h hN
 unfold FF at h
 refine rn 1 rfl (Ac fun K2 hK2 => ?_)
 rcases Ab h with ⟨g3,h⟩ | ⟨g3,h⟩
 ·refine qT rfl g3 (Ae (hK2 _ (Ac fun K4 hK4 => Ap (rs ?_))))
  obtain ⟨e5,g6,h⟩:=Aa h
  refine qI rfl AY g6 (sp 2 rfl (evn (rs (sp 5 rfl (?_)))))
  rcases Ab h with ⟨g7,h⟩ | ⟨g7,h⟩
  ·exact qg 19 g7 rfl (sp 4 rfl (evn (qT rfl rfl (rn 1 rfl (Af ((by cases h; cases hr1; exact ⟨.inl rfl,rfl⟩)))))))
  ·refine qg 19 g7 rfl (sp 1 rfl (?_))
   obtain ⟨v8,g9,h⟩:=Aa h
   refine oGR rfl rfl (qC (qa rfl (erD Al _) Aw) (HR g9) (sp 2 rfl (evn ?_)))
   rcases Ab h with ⟨g10,h⟩ | ⟨g10,h⟩
   ·exact qT rfl g10 (rn 1 rfl (qk [4,5] rfl (Af ((by cases h; cases hr1; exact ⟨.inl rfl,rfl⟩)))))
   ·exact qF rfl g10 (Ae (hK4 _ (rg (sp 2 rfl (evn (hN _ _ h (okr rfl)))))))
 ·exact qF rfl g3 (Aj (kXB1 (Option.some.inj h) _ (okr rfl)))
def Gb (a0 : Y57) (a1 : List Int) (rec : ((List (List Int)) × Int) -> Option ((List (List Int)))) (s : (List (List Int)) × Int) : Option ((List (List Int))):=match s with
  | (y1,y2) => cond (decide (y2 < (List.length a0.2 : Int))) (Ad (AA a0.2 y2) fun e13 => Ad (IJ e13 a1) fun v15 => chk (List.length y1 + List.length [v15] <= lim) (rec ((y1 ++ [v15]),(IntKind.i64.wrap (y2 + 1))))) (some y1)
def HT (a0 : Y57) (a1 : List Int) : Option (Y57 × Bool):=Ad (A9 a0) fun v2 => cond (!v2) (some ((0,[]),false)) (Ad (DE a0.1 a1) fun v5 => cond (!v5) (some ((0,[]),false)) (Ad (Ah (Gb a0 a1) fz (([] : List (List Int)),0)) fun z9 => Ad (FO (List.length a1 : Int) z9) fun v18 => some (v18.1,v18.2)))
theorem OD {a0 : Y57} {a1 : List Int} {r : Y57 × Bool} (h : HT a0 a1 = some r) : Ag Tryz.prog 133 [.agg (Io a0),dL Ak a1] (.tup [.agg (ID r.1),.bool r.2]):=by
 unfold HT at h
 refine st cg rfl (rn 1 rfl (Ac fun K1 hK1 => rs (sp 1 rfl (?_))))
 obtain ⟨v2,g3,h⟩:=Aa h
 refine qC (qa rfl (erg (erc rfl (erc (erD Bc _) rfl))) Aw) (C5 g3) (sp 2 rfl (?_))
 rcases Ab h with ⟨g4,h⟩ | ⟨g4,h⟩
 ·exact qg 12 g4 rfl (sp 6 rfl (evn (qT rfl rfl (rn 1 rfl (Af ((by cases h; exact ⟨.inl rfl,rfl⟩)))))))
 ·refine qg 12 g4 rfl (sp 3 rfl (?_))
  obtain ⟨v5,g6,h⟩:=Aa h
  refine oGR rfl rfl (qC (qs rfl (qa rfl (erD Al _) Aw)) (Jw g6) (sp 2 rfl (evn ?_)))
  rcases Ab h with ⟨g7,h⟩ | ⟨g7,h⟩
  ·exact qT rfl g7 (rn 1 rfl (Af ((by cases h; exact ⟨.inl rfl,rfl⟩))))
  ·refine qF rfl g7 (Ae (hK1 _ (qk [1,2,4] rfl (rn 1 rfl (Ac fun K8 hK8 => rn 1 rfl ?_)))))
   obtain ⟨o1,hl,hr1⟩:=Aa h
   have kXB1 : ∀ {z9 : List (List Int)},z9 = o1 -> Jn K8 [(1,dL Ak a1),(4,.box [nI 0,oL 26 As []]),(6,oL 26 As z9)]:=by
    intro z9 h σ' hk
    subst h
    replace h:=hr1
    try dsimp only at h
    refine hK8 _ (lh hk rfl (rs (sp 3 rfl (?_))))
    obtain ⟨v18,g19,h⟩:=Aa h
    exact qC (qs rfl (qa rfl (erD I4 _) Aw)) (LK g19) (sp 4 rfl (evn (Af ((by cases h; exact ⟨.inl rfl,rfl⟩)))))
   refine Aq (fun (s : (List (List Int)) × Int) => match s with | (y1,y2) => [(1,dL Ak a1),(4,.box [nI 0,oL 26 As []]),(6,oL 26 As y1),(21,dL AL a0.2),(22,nI (List.length a0.2 : Int)),(23,nI y2)]) _ _ _ _ hl (okr rfl) (fun _ => rfl) ?_
   rintro m ⟨y1,y2⟩ N h hN
   unfold Gb at h
   dsimp only at h
   refine rn 1 rfl (Ac fun K10 hK10 => ?_)
   rcases Ab h with ⟨g11,h⟩ | ⟨g11,h⟩
   ·refine qT rfl g11 (Ae (hK10 _ (Ac fun K12 hK12 => Ap (rs ?_))))
    obtain ⟨e13,g14,h⟩:=Aa h
    refine qI rfl AY g14 (sp 2 rfl (evn (rg (sp 3 rfl (?_)))))
    obtain ⟨v15,g16,h⟩:=Aa h
    refine qC (qa rfl (erD Al _) (qa rfl (erD Al _) Aw)) (NV g16) (qBs As [v15] rfl rfl rfl Cf (?_))
    obtain ⟨g17,h⟩:=An h
    exact qA As y1 [v15] rfl rfl (AE Cf [v15]) rfl g17 (sp 1 rfl (evn (hK12 _ (rg (sp 2 rfl (evn (hN _ _ h (okr rfl))))))))
   ·exact qF rfl g11 (Aj (kXB1 (Option.some.inj h) _ (okr rfl)))
def GN (a0 : Y57) (a1 : List Int) : Option (Y57 × Bool):=Ad (F3 a1) fun v2 => cond (!v2) (some ((0,[]),false)) (cond ((List.length a1 : Int) != a0.1) (some ((0,[]),false)) (Ad (HT a0 a1) fun v6 => cond (!v6.2) (some ((0,[]),false)) (some (v6.1,true))))
theorem MY {a0 : Y57} {a1 : List Int} {r : Y57 × Bool} (h : GN a0 a1 = some r) : Ag Tryz.prog 98 [.agg (Io a0),dL Ak a1] (.tup [.agg (GH r.1),.bool r.2]):=by
 unfold GN at h
 refine st jl rfl (rn 1 rfl (Ac fun K1 hK1 => rs (sp 1 rfl (?_))))
 obtain ⟨v2,g3,h⟩:=Aa h
 refine qC (qa rfl (erD Al _) Aw) (KR g3) (sp 2 rfl (?_))
 rcases Ab h with ⟨g4,h⟩ | ⟨g4,h⟩
 ·exact qg 11 g4 rfl (sp 6 rfl (evn (qT rfl rfl (rn 1 rfl (Af ((by cases h; exact ⟨.inl rfl,rfl⟩)))))))
 ·refine qg 11 g4 rfl (sp 6 rfl (evn ?_))
  rcases Ab h with ⟨g5,h⟩ | ⟨g5,h⟩
  ·exact qT rfl g5 (rn 1 rfl (Af ((by cases h; exact ⟨.inl rfl,rfl⟩))))
  ·refine qF rfl g5 (Ae (hK1 _ (qk [1,2,4] rfl (rs (sp 2 rfl (?_))))))
   obtain ⟨v6,g7,h⟩:=Aa h
   refine qC (qa rfl (erg (erc rfl (erc (erD Bc _) rfl))) (qa rfl (erD Al _) Aw)) (OD g7) (sp 6 rfl (evn (Ac fun K8 hK8 => rn 1 rfl ?_)))
   rcases Ab h with ⟨g9,h⟩ | ⟨g9,h⟩
   ·exact qT rfl g9 (rn 1 rfl (Af ((by cases h; exact ⟨.inl rfl,rfl⟩))))
   ·exact qF rfl g9 (Ae (hK8 _ (rn 1 rfl (Af ((by cases h; exact ⟨.inl rfl,rfl⟩))))))
def BE (rec : ((List Int) × Int) -> Option ((List Int))) (y2 : Int) (x14 : List Int) : Option ((List Int)):=rec (x14,(IntKind.i64.wrap (y2 + 1)))
def BD (rec : ((List Int) × Int) -> Option ((List Int))) (y1 : List Int) (y2 : Int) (v10 : Int) (x13 : Bool) : Option ((List Int)):=cond x13 (chk (List.length y1 + List.length [v10] <= lim) (BE rec y2 (y1 ++ [v10]))) (BE rec y2 y1)
def Be (a1 : List Int) (v1 : (List Int)) (rec : ((List Int) × Int) -> Option ((List Int))) (s : (List Int) × Int) : Option ((List Int)):=match s with
  | (y1,y2) => cond (decide (y2 < (List.length a1 : Int))) (Ad (AA a1 y2) fun e8 => Ad (Gf v1 e8) fun v10 => cond (decide (0 <= v10)) (Ad (Hd y1 v10) fun v18 => BD rec y1 y2 v10 (!v18)) (BD rec y1 y2 v10 false)) (some y1)
def DR (a0 : Y78) (a1 : List Int) : Option ((List Int)):=Ad (DK a0) fun v1 => Ad (Ah (Be a1 v1) fz (([] : List Int),0)) fun z4 => some z4
theorem Kb {a0 : Y78} {a1 : List Int} {r : (List Int)} (h : DR a0 a1 = some r) : Ag Tryz.prog 99 [.agg (BM a0),dL Ak a1] (oL 3 Ak r):=by
 unfold DR at h
 refine st jm rfl (rn 1 rfl (rs (sp 1 rfl (?_))))
 obtain ⟨v1,g2,h⟩:=Aa h
 refine qC (qa rfl (erg (erc rfl (erc (erD Al _) rfl))) Aw) (Ip g2) (sp 1 rfl (evn (rn 1 rfl (Ac fun K3 hK3 => rn 1 rfl ?_))))
 obtain ⟨o1,hl,hr1⟩:=Aa h
 have kXB1 : ∀ {z4 : List Int},z4 = o1 -> Jn K3 [(6,oL 3 Ak z4)]:=by
  intro z4 h σ' hk
  subst h
  replace h:=hr1
  try dsimp only at h
  exact hK3 _ (lh hk rfl (rn 1 rfl (Af ((by cases h; exact ⟨.inl rfl,rfl⟩)))))
 refine Aq (fun (s : (List Int) × Int) => match s with | (y1,y2) => [(5,oL 3 Ak v1),(6,oL 3 Ak y1),(12,dL Ak a1),(13,nI (List.length a1 : Int)),(14,nI y2)]) _ _ _ _ hl (okr rfl) (fun _ => rfl) ?_
 rintro m ⟨y1,y2⟩ N h hN
 unfold Be at h
 dsimp only at h
 refine rn 1 rfl (Ac fun K5 hK5 => ?_)
 rcases Ab h with ⟨g6,h⟩ | ⟨g6,h⟩
 ·refine qT rfl g6 (Ae (hK5 _ (Ac fun K7 hK7 => Ap (rs ?_))))
  obtain ⟨e8,g9,h⟩:=Aa h
  refine qI rfl Ao g9 (sp 2 rfl (evn (rs (sp 2 rfl (?_)))))
  obtain ⟨v10,g11,h⟩:=Aa h
  refine qC (qa rfl (erD Al _) (qs rfl Aw)) (Jj g11) (sp 1 rfl (evn (rk fun K12 hK12 => ?_)))
  have kJ2 : ∀ {x13 : Bool},BD (Ah (Be a1 v1) m) y1 y2 v10 x13 = some o1 -> Jn K12 [(5,oL 3 Ak v1),(6,oL 3 Ak y1),(9,nI v10),(12,dL Ak a1),(13,nI (List.length a1 : Int)),(14,nI y2),(28,.bool x13)]:=by
   intro x13 h σ' hk
   unfold BD at h
   refine hK12 _ (lh hk rfl ?_)
   have kJ3 : ∀ {x14 : List Int},BE (Ah (Be a1 v1) m) y2 x14 = some o1 -> Jn K7 [(5,oL 3 Ak v1),(6,oL 3 Ak x14),(12,dL Ak a1),(13,nI (List.length a1 : Int)),(14,nI y2)]:=by
    intro x14 h σ' hk
    unfold BE at h
    exact hK7 _ (lh hk rfl (rg (sp 2 rfl (evn (hN _ _ h (okr rfl))))))
   rcases Ab h with ⟨g15,h⟩ | ⟨g15,h⟩
   ·refine qT rfl g15 (rg (sp 2 rfl (qBs Ak [v10] rfl rfl rfl Ao (?_))))
    obtain ⟨g16,h⟩:=An h
    exact qA Ak y1 [v10] rfl rfl (AE Ao [v10]) rfl g16 (sp 1 rfl (evn (kJ3 h _ (okr rfl))))
   ·exact qF rfl g15 (Ae (kJ3 h _ (okr rfl)))
  refine sp 3 rfl (?_)
  rcases Ab h with ⟨g17,h⟩ | ⟨g17,h⟩
  ·refine qg 23 g17 rfl (sp 2 rfl (?_))
   obtain ⟨v18,g19,h⟩:=Aa h
   exact oGR rfl rfl (qC (qa rfl (erD Al _) (qs rfl Aw)) (JT g19) (sp 2 rfl (evn (kJ2 h _ (okr rfl)))))
  ·exact qg 23 g17 rfl (sp 5 rfl (evn (kJ2 h _ (okr rfl))))
 ·exact qF rfl g6 (Aj (kXB1 (Option.some.inj h) _ (okr rfl)))
def F1 (a0 : List Y96) (a1 : Y41) (a2 : List Int) (rec : ((List Y57) × Int) -> Option ((List Y57))) (s : (List Y57) × Int) : Option ((List Y57)):=match s with
  | (y1,y2) => cond (decide (y2 < (List.length a1.2.1 : Int))) (Ad (AA a1.2.1 y2) fun e13 => Ad (Eb a0 e13) fun v15 => Ad (DR e13 a2) fun v17 => Ad (GN v15 v17) fun v19 => chk (List.length y1 + List.length [v19.1] <= lim) (rec ((y1 ++ [v19.1]),(IntKind.i64.wrap (y2 + 1))))) (some y1)
def Ga (a0 : List Y96) (a1 : Y41) (a2 : List Int) : Option ((List Y57) × Bool):=Ad (Fi a0 a1) fun v2 => cond (!v2) (some (([] : List Y57),false)) (Ad (Ec a1 a2) fun v5 => cond (!v5) (some (([] : List Y57),false)) (Ad (Ah (F1 a0 a1 a2) fz (([] : List Y57),0)) fun z9 => some (z9,true)))
theorem Mr {a0 : List Y96} {a1 : Y41} {a2 : List Int} {r : (List Y57) × Bool} (h : Ga a0 a1 a2 = some r) : Ag Tryz.prog 53 [.agg [dL BY a0],.agg (Bz a1),dL Ak a2] (.tup [oL 111 GH r.1,.bool r.2]):=by
 unfold Ga at h
 refine st iA rfl (rn 1 rfl (Ac fun K1 hK1 => rs (sp 2 rfl (?_))))
 obtain ⟨v2,g3,h⟩:=Aa h
 refine qC (qa rfl (erg (erc (erD D1 _) rfl)) (qa rfl (erg (erc rfl (erc (erD Ce _) (erc (erD Al _) rfl)))) Aw)) (Jt g3) (sp 2 rfl (?_))
 rcases Ab h with ⟨g4,h⟩ | ⟨g4,h⟩
 ·exact qg 17 g4 rfl (sp 5 rfl (evn (qT rfl rfl (rn 1 rfl (Af ((by cases h; exact ⟨.inl rfl,rfl⟩)))))))
 ·refine qg 17 g4 rfl (sp 2 rfl (?_))
  obtain ⟨v5,g6,h⟩:=Aa h
  refine oGR rfl rfl (qC (qa rfl (erg (erc rfl (erc (erD Ce _) (erc (erD Al _) rfl)))) (qa rfl (erD Al _) Aw)) (II g6) (sp 2 rfl (evn ?_)))
  rcases Ab h with ⟨g7,h⟩ | ⟨g7,h⟩
  ·exact qT rfl g7 (rn 1 rfl (Af ((by cases h; exact ⟨.inl rfl,rfl⟩))))
  ·refine qF rfl g7 (Ae (hK1 _ (qk [2,3,4] rfl (rn 1 rfl (Ac fun K8 hK8 => rn 1 rfl ?_)))))
   obtain ⟨o1,hl,hr1⟩:=Aa h
   have kXB1 : ∀ {z9 : List Y57},z9 = o1 -> Jn K8 [(8,oL 111 GH z9)]:=by
    intro z9 h σ' hk
    subst h
    replace h:=hr1
    try dsimp only at h
    exact hK8 _ (lh hk rfl (rn 1 rfl (Af ((by cases h; exact ⟨.inl rfl,rfl⟩)))))
   refine Aq (fun (s : (List Y57) × Int) => match s with | (y1,y2) => [(2,dL Ak a2),(3,.box [dL BY a0]),(8,oL 111 GH y1),(24,dL BM a1.2.1),(25,nI (List.length a1.2.1 : Int)),(26,nI y2)]) _ _ _ _ hl (okr rfl) (fun _ => rfl) ?_
   rintro m ⟨y1,y2⟩ N h hN
   unfold F1 at h
   dsimp only at h
   refine rn 1 rfl (Ac fun K10 hK10 => ?_)
   rcases Ab h with ⟨g11,h⟩ | ⟨g11,h⟩
   ·refine qT rfl g11 (Ae (hK10 _ (Ac fun K12 hK12 => Ap (rs ?_))))
    obtain ⟨e13,g14,h⟩:=Aa h
    refine qI rfl G3 g14 (sp 3 rfl (evn (rd (by kernel_rfl) (sd 2 rfl (?_)))))
    obtain ⟨v15,g16,h⟩:=Aa h
    refine ed rfl (qC (qa rfl (erg (erc (erD D1 _) rfl)) (qa rfl (erg (erc rfl (erc (erD Al _) rfl))) Aw)) (IH g16) (sd 2 rfl (?_)))
    obtain ⟨v17,g18,h⟩:=Aa h
    refine ed rfl (qC (qa rfl (erg (erc rfl (erc (erD Al _) rfl))) (qa rfl (erD Al _) Aw)) (Kb g18) (?_))
    obtain ⟨v19,g20,h⟩:=Aa h
    refine ed rfl (qC (qa rfl (erg (erc rfl (erc (erO I4 _) rfl))) (qa rfl (erO Al _) Aw)) (MY g20) (sd 6 rfl (Ea (rg (sp 2 rfl (qBs GH [v19.1] rfl rfl rfl KN (?_)))))))
    obtain ⟨g21,h⟩:=An h
    exact qA GH y1 [v19.1] rfl rfl (AE KN [v19.1]) rfl g21 (sp 1 rfl (evn (hK12 _ (rg (sp 2 rfl (evn (hN _ _ h (okr rfl))))))))
   ·exact qF rfl g11 (Aj (kXB1 (Option.some.inj h) _ (okr rfl)))
def Fp (a0 : List Y57) (rec : Int -> Option (Sum (Unit) (Bool))) (y1 : Int) : Option (Sum (Unit) (Bool)):=cond (decide (y1 < (List.length a0 : Int))) (Ad (AA a0 y1) fun e5 => cond ((List.length e5.2 : Int) == 0) (some (.inr true)) (rec (IntKind.i64.wrap (y1 + 1)))) (some (.inl ()))
def GR (a0 : List Y57) : Option (Bool):=Ad (Ah (Fp a0) fz 0) fun o1 => (match o1 with
  | .inl _ => (some false)
  | .inr r => some r)
theorem M4 {a0 : List Y57} {r : Bool} (h : GR a0 = some r) : Ag Tryz.prog 54 [dL BC a0] (.bool r):=by
 unfold GR at h
 refine st iB rfl (rn 1 rfl (Ac fun K1 hK1 => rn 1 rfl ?_))
 obtain ⟨o1,hl,hr1⟩:=Aa h
 have kXB1 : (.inl ()) = o1 -> Jn K1 []:=by
  intro h σ' hk
  subst h
  replace h:=hr1
  try dsimp only at h
  exact hK1 _ (lh hk rfl (rn 1 rfl (Af ((by cases h; exact ⟨.inl rfl,rfl⟩)))))
 refine Aq (fun (y1 : Int) => [(5,dL BC a0),(6,nI (List.length a0 : Int)),(7,nI y1)]) _ _ _ _ hl (okr rfl) (fun _ => rfl) ?_
 rintro m y1 N h hN
 unfold Fp at h
 refine rn 1 rfl (Ac fun K2 hK2 => ?_)
 rcases Ab h with ⟨g3,h⟩ | ⟨g3,h⟩
 ·refine qT rfl g3 (Ae (hK2 _ (Ac fun K4 hK4 => Ap (rs ?_))))
  obtain ⟨e5,g6,h⟩:=Aa h
  refine qI rfl Ns g6 (sp 3 rfl (evn (rn 1 rfl ?_)))
  rcases Ab h with ⟨g7,h⟩ | ⟨g7,h⟩
  ·exact qT rfl g7 (rn 1 rfl (Af ((by cases h; cases hr1; exact ⟨.inl rfl,rfl⟩))))
  ·exact qF rfl g7 (Ae (hK4 _ (rg (sp 2 rfl (evn (hN _ _ h (okr rfl)))))))
 ·exact qF rfl g3 (Aj (kXB1 (Option.some.inj h) _ trivial))
def At (a0 : List Int) (rec : Int -> Option (Sum (Unit) (Bool))) (y1 : Int) : Option (Sum (Unit) (Bool)):=cond (decide (y1 < (List.length a0 : Int))) (Ad (AA a0 (IntKind.i64.wrap (y1 - 1))) fun e5 => Ad (AA a0 y1) fun e7 => cond (decide (e7 <= e5)) (some (.inr false)) (rec (IntKind.i64.wrap (y1 + 1)))) (some (.inl ()))
def Cj (a0 : List Int) : Option (Bool):=Ad (Ah (At a0) fz 1) fun o1 => (match o1 with
  | .inl _ => (some true)
  | .inr r => some r)
theorem I1 {a0 : List Int} {r : Bool} (h : Cj a0 = some r) : Ag Tryz.prog 136 [dL Ak a0] (.bool r):=by
 unfold Cj at h
 refine st ck rfl (rn 1 rfl (Ac fun K1 hK1 => rn 1 rfl ?_))
 obtain ⟨o1,hl,hr1⟩:=Aa h
 have kXB1 : (.inl ()) = o1 -> Jn K1 []:=by
  intro h σ' hk
  subst h
  replace h:=hr1
  try dsimp only at h
  exact hK1 _ (lh hk rfl (rn 1 rfl (Af ((by cases h; exact ⟨.inl rfl,rfl⟩)))))
 refine Aq (fun (y1 : Int) => [(0,dL Ak a0),(3,nI y1)]) _ _ _ _ hl (okr rfl) (fun _ => rfl) ?_
 rintro m y1 N h hN
 unfold At at h
 refine Ac fun K2 hK2 => rn 1 rfl ?_
 rcases Ab h with ⟨g3,h⟩ | ⟨g3,h⟩
 ·refine qT rfl g3 (Ae (hK2 _ (Ac fun K4 hK4 => Ap (rd (by kernel_rfl) (sd 3 rfl (?_))))))
  obtain ⟨e5,g6,h⟩:=Aa h
  refine ed rfl (qI rfl Ao g6 (sd 3 rfl (?_)))
  obtain ⟨e7,g8,h⟩:=Aa h
  refine ed rfl (qI rfl Ao g8 (sd 2 rfl (Ea ?_)))
  rcases Ab h with ⟨g9,h⟩ | ⟨g9,h⟩
  ·exact qT rfl g9 (rn 1 rfl (Af ((by cases h; cases hr1; exact ⟨.inl rfl,rfl⟩))))
  ·exact qF rfl g9 (Ae (hK4 _ (rg (sp 3 rfl (evn (hN _ _ h (okr rfl)))))))
 ·exact qF rfl g3 (Aj (kXB1 (Option.some.inj h) _ trivial))
def C9 (a0 : List (List Int)) (rec : Int -> Option (Sum (Unit) (Bool))) (y1 : Int) : Option (Sum (Unit) (Bool)):=cond (decide (y1 < (List.length a0 : Int))) (Ad (AA a0 y1) fun e5 => Ad (Cj e5) fun v7 => cond (!v7) (some (.inr false)) (rec (IntKind.i64.wrap (y1 + 1)))) (some (.inl ()))
def Ew (a0 : List (List Int)) : Option (Bool):=Ad (Ah (C9 a0) fz 0) fun o1 => (match o1 with
  | .inl _ => (some (decide (0 < (List.length a0 : Int))))
  | .inr r => some r)
theorem Km {a0 : List (List Int)} {r : Bool} (h : Ew a0 = some r) : Ag Tryz.prog 102 [dL AL a0] (.bool r):=by
 unfold Ew at h
 refine st bD rfl (rn 1 rfl (Ac fun K1 hK1 => rn 1 rfl ?_))
 obtain ⟨o1,hl,hr1⟩:=Aa h
 have kXB1 : (.inl ()) = o1 -> Jn K1 [(0,dL AL a0)]:=by
  intro h σ' hk
  subst h
  replace h:=hr1
  try dsimp only at h
  exact hK1 _ (lh hk rfl (rn 1 rfl (Af ((by cases h; exact ⟨.inl rfl,rfl⟩)))))
 refine Aq (fun (y1 : Int) => [(0,dL AL a0),(5,dL AL a0),(6,nI (List.length a0 : Int)),(7,nI y1)]) _ _ _ _ hl (okr rfl) (fun _ => rfl) ?_
 rintro m y1 N h hN
 unfold C9 at h
 refine rn 1 rfl (Ac fun K2 hK2 => ?_)
 rcases Ab h with ⟨g3,h⟩ | ⟨g3,h⟩
 ·refine qT rfl g3 (Ae (hK2 _ (Ac fun K4 hK4 => Ap (rs ?_))))
  obtain ⟨e5,g6,h⟩:=Aa h
  refine qI rfl AY g6 (sp 2 rfl (evn (rs (sp 1 rfl (?_)))))
  obtain ⟨v7,g8,h⟩:=Aa h
  refine qC (qa rfl (erD Al _) Aw) (I1 g8) (sp 1 rfl (evn ?_))
  rcases Ab h with ⟨g9,h⟩ | ⟨g9,h⟩
  ·exact qT rfl g9 (rn 1 rfl (Af ((by cases h; cases hr1; exact ⟨.inl rfl,rfl⟩))))
  ·exact qF rfl g9 (Ae (hK4 _ (rg (sp 2 rfl (evn (hN _ _ h (okr rfl)))))))
 ·exact qF rfl g3 (Aj (kXB1 (Option.some.inj h) _ (okr rfl)))
def B4 (rec : (Int × Int) -> Option (Int)) (y2 : Int) (x10 : Int) : Option (Int):=rec (x10,(IntKind.i64.wrap (y2 + 1)))
def EH (rec : (Int × Int) -> Option (Int)) (y1 : Int) (y2 : Int) (e6 : List Int) (x9 : Bool) : Option (Int):=cond x9 (B4 rec y2 (List.length e6 : Int)) (B4 rec y2 y1)
def A5 (a0 : List (List Int)) (rec : (Int × Int) -> Option (Int)) (s : Int × Int) : Option (Int):=match s with
  | (y1,y2) => cond (decide (y2 < (List.length a0 : Int))) (Ad (AA a0 y2) fun e6 => cond (y2 == 0) (EH rec y1 y2 e6 true) (EH rec y1 y2 e6 (decide ((List.length e6 : Int) < y1)))) (some y1)
def Ev (a0 : List (List Int)) : Option (Int):=Ad (Ah (A5 a0) fz (0,0)) fun z2 => some z2
theorem Kl {a0 : List (List Int)} {r : Int} (h : Ev a0 = some r) : Ag Tryz.prog 103 [dL AL a0] (nI r):=by
 unfold Ev at h
 refine st bE rfl (rn 2 rfl (Ac fun K1 hK1 => rn 1 rfl ?_))
 obtain ⟨o1,hl,hr1⟩:=Aa h
 have kXB1 : ∀ {z2 : Int},z2 = o1 -> Jn K1 [(3,nI z2)]:=by
  intro z2 h σ' hk
  subst h
  replace h:=hr1
  try dsimp only at h
  exact hK1 _ (lh hk rfl (rn 1 rfl (Af ((by cases h; exact ⟨.inl rfl,rfl⟩)))))
 refine Aq (fun (s : Int × Int) => match s with | (y1,y2) => [(3,nI y1),(6,dL AL a0),(7,nI (List.length a0 : Int)),(8,nI y2)]) _ _ _ _ hl (okr rfl) (fun _ => rfl) ?_
 rintro m ⟨y1,y2⟩ N h hN
 unfold A5 at h
 dsimp only at h
 refine rn 1 rfl (Ac fun K3 hK3 => ?_)
 rcases Ab h with ⟨g4,h⟩ | ⟨g4,h⟩
 ·refine qT rfl g4 (Ae (hK3 _ (Ac fun K5 hK5 => Ap (rs (sp 1 rfl (?_))))))
  obtain ⟨e6,g7,h⟩:=Aa h
  refine qI rfl AY g7 (sp 3 rfl (evn (rk fun K8 hK8 => ?_)))
  have kJ2 : ∀ {x9 : Bool},EH (Ah (A5 a0) m) y1 y2 e6 x9 = some o1 -> Jn K8 [(3,nI y1),(5,dL Ak e6),(6,dL AL a0),(7,nI (List.length a0 : Int)),(8,nI y2),(20,.bool x9)]:=by
   intro x9 h σ' hk
   unfold EH at h
   refine hK8 _ (lh hk rfl ?_)
   have kJ3 : ∀ {x10 : Int},B4 (Ah (A5 a0) m) y2 x10 = some o1 -> Jn K5 [(3,nI x10),(6,dL AL a0),(7,nI (List.length a0 : Int)),(8,nI y2)]:=by
    intro x10 h σ' hk
    unfold B4 at h
    exact hK5 _ (lh hk rfl (rg (sp 2 rfl (evn (hN _ _ h (okr rfl))))))
   rcases Ab h with ⟨g11,h⟩ | ⟨g11,h⟩
   ·exact qT rfl g11 (rg (sp 3 rfl (evn (kJ3 h _ (okr rfl)))))
   ·exact qF rfl g11 (Ae (kJ3 h _ (okr rfl)))
  refine sp 3 rfl (?_)
  rcases Ab h with ⟨g12,h⟩ | ⟨g12,h⟩
  ·exact qg 15 g12 rfl (sp 5 rfl (evn (kJ2 h _ (okr rfl))))
  ·exact qg 15 g12 rfl (sp 5 rfl (evn (kJ2 h _ (okr rfl))))
 ·exact qF rfl g4 (Aj (kXB1 (Option.some.inj h) _ (okr rfl)))
def Eg (a0 : List Int) (a2 : Int) (rec : Int -> Option (Sum (Unit) (Int))) (y1 : Int) : Option (Sum (Unit) (Int)):=cond (decide (y1 < (List.length a0 : Int))) (Ad (AA a0 y1) fun e5 => cond (decide (a2 <= e5)) (some (.inr y1)) (rec (IntKind.i64.wrap (y1 + 1)))) (some (.inl ()))
def GP (a0 : List Int) (a1 : Int) (a2 : Int) : Option (Int):=Ad (Ah (Eg a0 a2) fz (if 0 < a1 then a1 else 0)) fun o1 => (match o1 with
  | .inl _ => (some (List.length a0 : Int))
  | .inr r => some r)
theorem M0 {a0 : List Int} {a1 : Int} {a2 : Int} {r : Int} (h : GP a0 a1 a2 = some r) : Ag Tryz.prog 104 [dL Ak a0,nI a1,nI a2] (nI r):=by
 unfold GP at h
 refine st bF rfl (rn 1 rfl (Ac fun K1 hK1 => rn 1 rfl ?_))
 obtain ⟨o1,hl,hr1⟩:=Aa h
 have kXB1 : (.inl ()) = o1 -> Jn K1 [(0,dL Ak a0)]:=by
  intro h σ' hk
  subst h
  replace h:=hr1
  try dsimp only at h
  exact hK1 _ (lh hk rfl (rn 1 rfl (Af ((by cases h; exact ⟨.inl rfl,rfl⟩)))))
 refine Aq (fun (y1 : Int) => [(0,dL Ak a0),(2,nI a2),(7,nI y1)]) _ _ _ _ hl (okr rfl) (fun _ => rfl) ?_
 rintro m y1 N h hN
 unfold Eg at h
 refine Ac fun K2 hK2 => rn 1 rfl ?_
 rcases Ab h with ⟨g3,h⟩ | ⟨g3,h⟩
 ·refine qT rfl g3 (Ae (hK2 _ (Ac fun K4 hK4 => Ap (rs (sp 2 rfl (?_))))))
  obtain ⟨e5,g6,h⟩:=Aa h
  refine qI rfl Ao g6 (sp 3 rfl (evn ?_))
  rcases Ab h with ⟨g7,h⟩ | ⟨g7,h⟩
  ·exact qT rfl g7 (rn 1 rfl (Af ((by cases h; cases hr1; exact ⟨.inl rfl,rfl⟩))))
  ·exact qF rfl g7 (Ae (hK4 _ (rg (sp 3 rfl (evn (hN _ _ h (okr rfl)))))))
 ·exact qF rfl g3 (Aj (kXB1 (Option.some.inj h) _ (okr rfl)))
def A1 (y2 : List (List Int)) (e13 : List Int) (rec : Int -> Option (Int)) (y5 : Int) : Option (Int):=cond (decide (0 < y5)) (Ad (AA y2 (IntKind.i64.wrap (y5 - 1))) fun e19 => Ad (AA e19 0) fun e21 => Ad (AA e13 0) fun e23 => cond (decide (e23 < e21)) (rec (IntKind.i64.wrap (y5 - 1))) (some y5)) (some y5)
def Bi (a0 : List (List Int)) (rec : ((List (List Int)) × Int) -> Option ((List (List Int)))) (s : (List (List Int)) × Int) : Option ((List (List Int))):=match s with
  | (y2,y3) => cond (decide (y3 < (List.length a0 : Int))) (Ad (AA a0 y3) fun e13 => Ad (Ah (A1 y2 e13) fz (List.length y2 : Int)) fun z16 => chk ((0 : Int) <= 0 ∧ 0 <= z16 ∧ z16 <= (List.length y2 : Int)) (chk (List.length ([] : List (List Int)) + List.length (Cq y2 0 z16) <= lim) (chk (List.length (([] : List (List Int)) ++ (Cq y2 0 z16)) + List.length [e13] <= lim) (chk ((0 : Int) <= z16 ∧ z16 <= (List.length y2 : Int) ∧ (List.length y2 : Int) <= (List.length y2 : Int)) (chk (List.length ((([] : List (List Int)) ++ (Cq y2 0 z16)) ++ [e13]) + List.length (Cq y2 z16 (List.length y2 : Int)) <= lim) (rec ((((([] : List (List Int)) ++ (Cq y2 0 z16)) ++ [e13]) ++ (Cq y2 z16 (List.length y2 : Int))),(IntKind.i64.wrap (y3 + 1))))))))) (some y2)
def Bk (rec : ((List Int) × Int × (List Int) × Int) -> Option (Sum (Unit) ((List Int) × Int))) (z9 : List (List Int)) (y9 : Int) (e38 : List Int) (x45 : List Int) (x46 : List Int) : Option (Sum (Unit) ((List Int) × Int)):=Ad (AA x45 (Int.tmod (IntKind.i64.wrap (y9 - 1)) (List.length z9 : Int))) fun e48 => cond (e48 == (List.length e38 : Int)) (some (.inr (x46,y9))) (Ad (AA x45 (Int.tmod (IntKind.i64.wrap (y9 - 1)) (List.length z9 : Int))) fun e51 => Ad (AA e38 e51) fun e53 => rec (x45,e53,x46,(IntKind.i64.wrap (y9 + 1))))
def Bj (z9 : List (List Int)) (rec : ((List Int) × Int × (List Int) × Int) -> Option (Sum (Unit) ((List Int) × Int))) (s : (List Int) × Int × (List Int) × Int) : Option (Sum (Unit) ((List Int) × Int)):=match s with
  | (y6,y7,y8,y9) => chk ((List.length z9 : Int) ≠ 0) (Ad (AA z9 (Int.tmod (IntKind.i64.wrap (y9 - 1)) (List.length z9 : Int))) fun e38 => Ad (AA y6 (Int.tmod (IntKind.i64.wrap (y9 - 1)) (List.length z9 : Int))) fun e41 => Ad (AA e38 e41) fun e43 => cond (e43 == y7) (chk (List.length y8 + List.length [y7] <= lim) (Ad (AA y6 (Int.tmod (IntKind.i64.wrap (y9 - 1)) (List.length z9 : Int))) fun e57 => Ad (AA y6 (Int.tmod (IntKind.i64.wrap (y9 - 1)) (List.length z9 : Int))) fun e59 => Bk rec z9 y9 e38 (Ky y6 (Int.tmod (IntKind.i64.wrap (y9 - 1)) (List.length z9 : Int)) (IntKind.i64.wrap (e57 + 1))) (y8 ++ [y7]))) (Ad (AA y6 (Int.tmod (IntKind.i64.wrap (y9 - 1)) (List.length z9 : Int))) fun e61 => Ad (GP e38 e61 y7) fun v63 => Ad (AA y6 (Int.tmod (IntKind.i64.wrap (y9 - 1)) (List.length z9 : Int))) fun e65 => Bk rec z9 y9 e38 (Ky y6 (Int.tmod (IntKind.i64.wrap (y9 - 1)) (List.length z9 : Int)) v63) y8))
def C7 (a0 : List (List Int)) : Option ((List Int) × Int):=Ad (Ew a0) fun v2 => cond (!v2) (some (([] : List Int),0)) (Ad (Ev a0) fun v5 => cond (v5 == 0) (some (([] : List Int),0)) (Ad (Ah (Bi a0) fz (([] : List (List Int)),0)) fun z9 => chk ((0 : Int) <= (List.length z9 : Int) ∧ Int.toNat (List.length z9 : Int) <= lim) (Ad (AA z9 (IntKind.i64.wrap ((List.length z9 : Int) - 1))) fun e32 => Ad (AA e32 0) fun e34 => Ad (Ah (Bj z9) fz ((List.replicate (Int.toNat (List.length z9 : Int)) (0 : Int)),e34,([] : List Int),1)) fun o3 => (match o3 with
  | .inl _ => (none)
  | .inr r => some r))))
theorem Jv {a0 : List (List Int)} {r : (List Int) × Int} (h : C7 a0 = some r) : Ag Tryz.prog 56 [dL AL a0] (.tup [oL 3 Ak r.1,nI r.2]):=by
 unfold C7 at h
 refine st iD rfl (rn 1 rfl (Ac fun K1 hK1 => rs (sp 1 rfl (?_))))
 obtain ⟨v2,g3,h⟩:=Aa h
 refine qC (qa rfl (erD Bc _) Aw) (Km g3) (sp 2 rfl (?_))
 rcases Ab h with ⟨g4,h⟩ | ⟨g4,h⟩
 ·exact qg 17 g4 rfl (sp 4 rfl (evn (qT rfl rfl (rn 1 rfl (Af ((by cases h; exact ⟨.inl rfl,rfl⟩)))))))
 ·refine qg 17 g4 rfl (sp 1 rfl (?_))
  obtain ⟨v5,g6,h⟩:=Aa h
  refine oGR rfl rfl (qC (qa rfl (erD Bc _) Aw) (Kl g6) (sp 2 rfl (evn ?_)))
  rcases Ab h with ⟨g7,h⟩ | ⟨g7,h⟩
  ·exact qT rfl g7 (rn 1 rfl (Af ((by cases h; exact ⟨.inl rfl,rfl⟩))))
  ·refine qF rfl g7 (Ae (hK1 _ (rn 1 rfl (qk [0,4] rfl (Ac fun K8 hK8 => rn 1 rfl ?_)))))
   obtain ⟨o1,hl,hr1⟩:=Aa h
   have kXB1 : ∀ {z9 : List (List Int)},z9 = o1 -> Jn K8 [(4,oL 26 AL z9)]:=by
    intro z9 h σ' hk
    subst h
    replace h:=hr1
    try dsimp only at h
    refine hK8 _ (lh hk rfl (rs (sp 2 rfl (?_))))
    obtain ⟨g31,h⟩:=An h
    refine qMu Ak (0 : Int) rfl rfl rfl rfl g31 rfl (qAu rfl rfl rfl rfl (evn (rs (sp 4 rfl (?_)))))
    obtain ⟨e32,g33,h⟩:=Aa h
    refine qI rfl AY g33 (sp 1 rfl (?_))
    obtain ⟨e34,g35,h⟩:=Aa h
    refine qI rfl Ao g35 (sp 2 rfl (evn (rn 2 rfl ?_)))
    obtain ⟨o3,hl,hr3⟩:=Aa h
    refine Aq (fun (s : (List Int) × Int × (List Int) × Int) => match s with | (y6,y7,y8,y9) => [(4,oL 26 AL z9),(8,wL 3 Ak y6),(9,nI y7),(10,oL 3 Ak y8),(11,nI y9)]) _ _ _ _ hl (okr rfl) (fun _ => rfl) ?_
    rintro m ⟨y6,y7,y8,y9⟩ N h hN
    unfold Bj at h
    dsimp only at h
    refine Ac fun K36 hK36 => Ap (rs (sp 4 rfl (?_)))
    obtain ⟨g37,h⟩:=An h
    refine qB rfl ⟨rfl,g37⟩ rfl (sp 1 rfl (evn (rs (sp 2 rfl (?_)))))
    obtain ⟨e38,g39,h⟩:=Aa h
    refine qI rfl AY g39 (sp 2 rfl (evn (Ac fun K40 hK40 => rs (sp 3 rfl (?_)))))
    obtain ⟨e41,g42,h⟩:=Aa h
    refine qIu rfl ⟨(Am g42).1,(Am g42).2.1⟩ (qLu 0 rfl rfl rfl Ao g42 rfl rfl rfl (?_))
    obtain ⟨e43,g44,h⟩:=Aa h
    refine qI rfl Ao g44 (sp 3 rfl (evn ?_))
    have kJ4 : ∀ {x45 : List Int} {x46 : List Int},Bk (Ah (Bj z9) m) z9 y9 e38 x45 x46 = some o3 -> Jn K40 [(4,oL 26 AL z9),(8,wL 3 Ak x45),(10,oL 3 Ak x46),(11,nI y9),(12,nI (Int.tmod (IntKind.i64.wrap (y9 - 1)) (List.length z9 : Int))),(13,dL Ak e38)]:=by
     intro x45 x46 h σ' hk
     unfold Bk at h
     refine hK40 _ (lh hk rfl (Ac fun K47 hK47 => rs (sp 2 rfl (?_))))
     obtain ⟨e48,g49,h⟩:=Aa h
     refine qIu rfl ⟨(Am g49).1,(Am g49).2.1⟩ (qLu 0 rfl rfl rfl Ao g49 rfl rfl rfl (sp 3 rfl (evn ?_)))
     rcases Ab h with ⟨g50,h⟩ | ⟨g50,h⟩
     ·exact qT rfl g50 (rn 1 rfl (Af ((by cases h; cases hr3; exact ⟨.inl rfl,rfl⟩))))
     ·refine qF rfl g50 (Ae (hK47 _ (rg (sp 3 rfl (?_)))))
      obtain ⟨e51,g52,h⟩:=Aa h
      refine qIu rfl ⟨(Am g52).1,(Am g52).2.1⟩ (qLu 0 rfl rfl rfl Ao g52 rfl rfl rfl (?_))
      obtain ⟨e53,g54,h⟩:=Aa h
      exact qI rfl Ao g54 (sp 2 rfl (evn (hK36 _ (rg (sp 3 rfl (evn (hN _ _ h (okr rfl))))))))
    rcases Ab h with ⟨g55,h⟩ | ⟨g55,h⟩
    ·refine qT rfl g55 (rs (sp 2 rfl (qBs Ak [y7] rfl rfl rfl Ao (?_))))
     obtain ⟨g56,h⟩:=An h
     refine qA Ak y8 [y7] rfl rfl (AE Ao [y7]) rfl g56 (sp 1 rfl (evn (rg (sp 2 rfl (?_)))))
     obtain ⟨e57,g58,h⟩:=Aa h
     refine qIu rfl ⟨(Am g58).1,(Am g58).2.1⟩ (qLu 0 rfl rfl rfl Ao g58 rfl rfl rfl (sp 1 rfl (?_)))
     obtain ⟨e59,g60,h⟩:=Aa h
     exact qIu rfl ⟨(Am g60).1,(Am g60).2.1⟩ (qSu (IntKind.i64.wrap (e57 + 1)) rfl rfl Ao ⟨(Am g60).1,(Am g60).2.1⟩ rfl rfl rfl rfl rfl rfl (evn (kJ4 h _ (okr rfl))))
    ·refine qF rfl g55 (rg (sp 5 rfl (?_)))
     obtain ⟨e61,g62,h⟩:=Aa h
     refine qIu rfl ⟨(Am g62).1,(Am g62).2.1⟩ (qLu 0 rfl rfl rfl Ao g62 rfl rfl rfl (sp 1 rfl (?_)))
     obtain ⟨v63,g64,h⟩:=Aa h
     refine qC (qa rfl (erD Al _) (qs rfl (qs rfl Aw))) (M0 g64) (?_)
     obtain ⟨e65,g66,h⟩:=Aa h
     exact qIu rfl ⟨(Am g66).1,(Am g66).2.1⟩ (qSu v63 rfl rfl Ao ⟨(Am g66).1,(Am g66).2.1⟩ rfl rfl rfl rfl rfl rfl (evn (kJ4 h _ (okr rfl))))
   refine Aq (fun (s : (List (List Int)) × Int) => match s with | (y2,y3) => [(4,oL 26 AL y2),(22,dL AL a0),(23,nI (List.length a0 : Int)),(24,nI y3)]) _ _ _ _ hl (okr rfl) (fun _ => rfl) ?_
   rintro m ⟨y2,y3⟩ N h hN
   unfold Bi at h
   dsimp only at h
   refine rn 1 rfl (Ac fun K10 hK10 => ?_)
   rcases Ab h with ⟨g11,h⟩ | ⟨g11,h⟩
   ·refine qT rfl g11 (Ae (hK10 _ (Ac fun K12 hK12 => Ap (rs ?_))))
    obtain ⟨e13,g14,h⟩:=Aa h
    refine qI rfl AY g14 (sp 2 rfl (evn (rn 1 rfl (Ac fun K15 hK15 => ?_))))
    obtain ⟨o2,hl,hr2⟩:=Aa h
    have kXB2 : ∀ {z16 : Int},z16 = o2 -> Jn K15 [(4,oL 26 AL y2),(6,dL Ak e13),(7,nI z16),(22,dL AL a0),(23,nI (List.length a0 : Int)),(24,nI y3)]:=by
     intro z16 h σ' hk
     subst h
     replace h:=hr2
     try dsimp only at h
     refine hK15 _ (lh hk rfl (rgd (by kernel_rfl) (ed rfl (qBs As [] rfl rfl rfl Cf (sd 2 rfl (?_))))))
     obtain ⟨g26,h⟩:=An h
     refine ed rfl (qSl rfl AY g26 (?_))
     obtain ⟨g27,h⟩:=An h
     refine ed rfl (qA AL ([] : List (List Int)) (Cq y2 0 z16) rfl rfl (AE AY (Cq y2 0 z16)) (LU (fun _ => rfl) _) g27 (sd 1 rfl (ed rfl (qBs AL [e13] rfl rfl rfl AY (?_)))))
     obtain ⟨g28,h⟩:=An h
     refine ed rfl (qA AL (([] : List (List Int)) ++ (Cq y2 0 z16)) [e13] rfl rfl (AE AY [e13]) rfl g28 (sd 2 rfl (?_)))
     obtain ⟨g29,h⟩:=An h
     refine ed rfl (qSl rfl AY g29 (?_))
     obtain ⟨g30,h⟩:=An h
     exact ed rfl (qA AL ((([] : List (List Int)) ++ (Cq y2 0 z16)) ++ [e13]) (Cq y2 z16 (List.length y2 : Int)) rfl rfl (AE AY (Cq y2 z16 (List.length y2 : Int))) (LU (fun _ => rfl) _) g30 (sd 1 rfl (Ea (hK12 _ (rg (sp 2 rfl (evn (hN _ _ h (okr rfl)))))))))
    refine Aq (fun (y5 : Int) => [(4,oL 26 AL y2),(6,dL Ak e13),(7,nI y5),(22,dL AL a0),(23,nI (List.length a0 : Int)),(24,nI y3)]) _ _ _ _ hl (okr rfl) (fun _ => rfl) ?_
    rintro m y5 N h hN
    unfold A1 at h
    refine Ac fun K17 hK17 => rd (by kernel_rfl) (sd 3 rfl (?_))
    rcases Ab h with ⟨g18,h⟩ | ⟨g18,h⟩
    ·refine qgd 32 g18 rfl (sd 3 rfl (?_))
     obtain ⟨e19,g20,h⟩:=Aa h
     refine ed rfl (oGR rfl rfl (qI rfl AY g20 (sd 1 rfl (?_))))
     obtain ⟨e21,g22,h⟩:=Aa h
     refine ed rfl (oGR rfl rfl (qI rfl Ao g22 (sd 2 rfl (?_))))
     obtain ⟨e23,g24,h⟩:=Aa h
     refine ed rfl (oGR rfl rfl (qI rfl Ao g24 (sd 3 rfl (Ea ?_))))
     rcases Ab h with ⟨g25,h⟩ | ⟨g25,h⟩
     ·exact qT rfl g25 (Ae (hK17 _ (Ap (rg (sp 3 rfl (evn (hN _ _ h (okr rfl))))))))
     ·exact qF rfl g25 (Aj (kXB2 (Option.some.inj h) _ (okr rfl)))
    ·exact qgd 32 g18 rfl (sd 12 rfl (Ea (qk [4,6,7,22,23,24,44] rfl (qF rfl rfl (Aj (kXB2 (Option.some.inj h) _ (okr rfl)))))))
   ·exact qF rfl g11 (Aj (kXB1 (Option.some.inj h) _ (okr rfl)))
def Gd (a0 : Y57) : Option (Y57):=some a0
theorem Mt {a0 : Y57} {r : Y57} (h : Gd a0 = some r) : Ag Tryz.prog 168 [.agg (BC a0)] (.agg (Io r)):=by
 unfold Gd at h
 exact st cU rfl (rn 2 rfl (Af ((by cases h; exact ⟨.inl rfl,rfl⟩))))
def EO (a0 : Y57) : Option (Bool):=Ad (Gd a0) fun v1 => Ad (A9 v1) fun v3 => some v3
theorem I7 {a0 : Y57} {r : Bool} (h : EO a0 = some r) : Ag Tryz.prog 157 [.agg (BC a0)] (.bool r):=by
 unfold EO at h
 refine st cJ rfl (rn 1 rfl (rs (sp 1 rfl (?_))))
 obtain ⟨v1,g2,h⟩:=Aa h
 refine qC (qa rfl (erg (erc rfl (erc (erD Bc _) rfl))) Aw) (Mt g2) (?_)
 obtain ⟨v3,g4,h⟩:=Aa h
 exact qC (qa rfl (erg (erc rfl (erc (erD Bc _) rfl))) Aw) (C5 g4) (sp 1 rfl (evn (Af ((by cases h; exact ⟨.inl rfl,rfl⟩)))))
def D5 (a0 : Y57) (a1 : List Int) (rec : Int -> Option (Int)) (y1 : Int) : Option (Int):=cond (decide (y1 < (List.length a0.2 : Int))) (Ad (AA a0.2 y1) fun e10 => chk ((0 : Int) <= 0 ∧ 0 <= (List.length a1 : Int) ∧ (List.length a1 : Int) <= (List.length e10 : Int)) (Ad (CX (Cq e10 0 (List.length a1 : Int)) a1) fun v13 => cond (decide (v13 < 0)) (rec (IntKind.i64.wrap (y1 + 1))) (some y1))) (some y1)
def D6 (a0 : Y57) (a1 : List Int) (rec : Int -> Option (Int)) (y2 : Int) : Option (Int):=cond (decide (y2 < (List.length a0.2 : Int))) (Ad (AA a0.2 y2) fun e20 => chk ((0 : Int) <= 0 ∧ 0 <= (List.length a1 : Int) ∧ (List.length a1 : Int) <= (List.length e20 : Int)) (Ad (CX (Cq e20 0 (List.length a1 : Int)) a1) fun v23 => cond (v23 == 0) (rec (IntKind.i64.wrap (y2 + 1))) (some y2))) (some y2)
def CM (a0 : Y57) (a1 : List Int) : Option (Int × Int):=cond (decide (a0.1 < (List.length a1 : Int))) (some (0,0)) (Ad (EO a0) fun v3 => cond (!v3) (some (0,0)) (Ad (Ah (D5 a0 a1) fz 0) fun z7 => Ad (Ah (D6 a0 a1) fz z7) fun z17 => some (z7,z17)))
theorem Ke {a0 : Y57} {a1 : List Int} {r : Int × Int} (h : CM a0 a1 = some r) : Ag Tryz.prog 158 [.agg (BC a0),dL Ak a1] (.tup [nI r.1,nI r.2]):=by
 unfold CM at h
 refine st cK rfl (rn 2 rfl (Ac fun K1 hK1 => rs (sp 5 rfl (?_))))
 rcases Ab h with ⟨g2,h⟩ | ⟨g2,h⟩
 ·exact qg 15 g2 rfl (sp 4 rfl (evn (qT rfl rfl (rn 1 rfl (Af ((by cases h; exact ⟨.inl rfl,rfl⟩)))))))
 ·refine qg 15 g2 rfl (sp 1 rfl (?_))
  obtain ⟨v3,g4,h⟩:=Aa h
  refine oGR rfl rfl (qC (qa rfl (erg (erc rfl (erc (erD Bc _) rfl))) Aw) (I7 g4) (sp 2 rfl (evn ?_)))
  rcases Ab h with ⟨g5,h⟩ | ⟨g5,h⟩
  ·exact qT rfl g5 (rn 1 rfl (Af ((by cases h; exact ⟨.inl rfl,rfl⟩))))
  ·refine qF rfl g5 (Ae (hK1 _ (qk [1,2,6] rfl (rn 1 rfl (Ac fun K6 hK6 => ?_)))))
   obtain ⟨o1,hl,hr1⟩:=Aa h
   have kXB1 : ∀ {z7 : Int},z7 = o1 -> Jn K6 [(1,dL Ak a1),(2,.box [nI a0.1,dL AL a0.2]),(6,nI (List.length a1 : Int)),(7,nI z7)]:=by
    intro z7 h σ' hk
    subst h
    replace h:=hr1
    try dsimp only at h
    refine hK6 _ (lh hk rfl (rn 1 rfl (Ac fun K16 hK16 => ?_)))
    obtain ⟨o2,hl,hr2⟩:=Aa h
    have kXB2 : ∀ {z17 : Int},z17 = o2 -> Jn K16 [(7,nI z7),(8,nI z17)]:=by
     intro z17 h σ' hk
     subst h
     replace h:=hr2
     try dsimp only at h
     exact hK16 _ (lh hk rfl (rn 1 rfl (Af ((by cases h; exact ⟨.inl rfl,rfl⟩)))))
    refine Aq (fun (y2 : Int) => [(1,dL Ak a1),(2,.box [nI a0.1,dL AL a0.2]),(6,nI (List.length a1 : Int)),(7,nI z7),(8,nI y2)]) _ _ _ _ hl (okr rfl) (fun _ => rfl) ?_
    rintro m y2 N h hN
    unfold D6 at h
    refine Ac fun K18 hK18 => rs (sp 6 rfl (?_))
    rcases Ab h with ⟨g19,h⟩ | ⟨g19,h⟩
    ·refine qg 45 g19 rfl (sp 3 rfl (?_))
     obtain ⟨e20,g21,h⟩:=Aa h
     refine oGR rfl rfl (qI rfl AY g21 (sp 2 rfl (?_)))
     obtain ⟨g22,h⟩:=An h
     refine oGR rfl rfl (qSl rfl Ao g22 (sp 1 rfl (?_)))
     obtain ⟨v23,g24,h⟩:=Aa h
     refine oGR rfl rfl (qC (qa rfl (erD Al _) (qa rfl (erD Al _) Aw)) (F2 g24) (sp 2 rfl (evn ?_)))
     rcases Ab h with ⟨g25,h⟩ | ⟨g25,h⟩
     ·exact qT rfl g25 (Ae (hK18 _ (Ap (rg (sp 3 rfl (evn (hN _ _ h (okr rfl))))))))
     ·exact qF rfl g25 (Aj (kXB2 (Option.some.inj h) _ (okr rfl)))
    ·exact qg 45 g19 rfl (sp 11 rfl (evn (qk [1,2,6,7,8,56] rfl (qF rfl rfl (Aj (kXB2 (Option.some.inj h) _ (okr rfl)))))))
   refine Aq (fun (y1 : Int) => [(1,dL Ak a1),(2,.box [nI a0.1,dL AL a0.2]),(6,nI (List.length a1 : Int)),(7,nI y1)]) _ _ _ _ hl (okr rfl) (fun _ => rfl) ?_
   rintro m y1 N h hN
   unfold D5 at h
   refine Ac fun K8 hK8 => rs (sp 6 rfl (?_))
   rcases Ab h with ⟨g9,h⟩ | ⟨g9,h⟩
   ·refine qg 25 g9 rfl (sp 3 rfl (?_))
    obtain ⟨e10,g11,h⟩:=Aa h
    refine oGR rfl rfl (qI rfl AY g11 (sp 2 rfl (?_)))
    obtain ⟨g12,h⟩:=An h
    refine oGR rfl rfl (qSl rfl Ao g12 (sp 1 rfl (?_)))
    obtain ⟨v13,g14,h⟩:=Aa h
    refine oGR rfl rfl (qC (qa rfl (erD Al _) (qa rfl (erD Al _) Aw)) (F2 g14) (sp 2 rfl (evn ?_)))
    rcases Ab h with ⟨g15,h⟩ | ⟨g15,h⟩
    ·exact qT rfl g15 (Ae (hK8 _ (Ap (rg (sp 3 rfl (evn (hN _ _ h (okr rfl))))))))
    ·exact qF rfl g15 (Aj (kXB1 (Option.some.inj h) _ (okr rfl)))
   ·exact qg 25 g9 rfl (sp 11 rfl (evn (qk [1,2,6,7,36] rfl (qF rfl rfl (Aj (kXB1 (Option.some.inj h) _ (okr rfl)))))))
def CL (rec : ((List Int) × Int) -> Option ((List Int))) (y2 : Int) (x18 : List Int) : Option ((List Int)):=rec (x18,(IntKind.i64.wrap (y2 + 1)))
def BR (rec : ((List Int) × Int) -> Option ((List Int))) (a1 : List Int) (y1 : List Int) (y2 : Int) (e14 : List Int) (x17 : Bool) : Option ((List Int)):=cond x17 (Ad (AA e14 (List.length a1 : Int)) fun e20 => chk (List.length y1 + List.length [e20] <= lim) (CL rec y2 (y1 ++ [e20]))) (CL rec y2 y1)
def BQ (a0 : Y57) (a1 : List Int) (v6 : Int × Int) (rec : ((List Int) × Int) -> Option ((List Int))) (s : (List Int) × Int) : Option ((List Int)):=match s with
  | (y1,y2) => cond (decide (y2 < (List.length (Cq a0.2 v6.1 v6.2) : Int))) (Ad (AA (Cq a0.2 v6.1 v6.2) y2) fun e14 => cond ((List.length y1 : Int) == 0) (BR rec a1 y1 y2 e14 true) (Ad (AA y1 (IntKind.i64.wrap ((List.length y1 : Int) - 1))) fun e24 => Ad (AA e14 (List.length a1 : Int)) fun e26 => BR rec a1 y1 y2 e14 (e24 != e26))) (some y1)
def Dj (a0 : Y57) (a1 : List Int) : Option ((List Int)):=cond (decide (a0.1 <= (List.length a1 : Int))) (some ([] : List Int)) (Ad (EO a0) fun v3 => cond (!v3) (some ([] : List Int)) (Ad (CM a0 a1) fun v6 => chk ((0 : Int) <= v6.1 ∧ v6.1 <= v6.2 ∧ v6.2 <= (List.length a0.2 : Int)) (Ad (Ah (BQ a0 a1 v6) fz (([] : List Int),0)) fun z10 => some z10)))
theorem Lk {a0 : Y57} {a1 : List Int} {r : (List Int)} (h : Dj a0 a1 = some r) : Ag Tryz.prog 135 [.agg (BC a0),dL Ak a1] (oL 3 Ak r):=by
 unfold Dj at h
 refine st cj rfl (rn 2 rfl (Ac fun K1 hK1 => rs (sp 5 rfl (?_))))
 rcases Ab h with ⟨g2,h⟩ | ⟨g2,h⟩
 ·exact qg 17 g2 rfl (sp 4 rfl (evn (qT rfl rfl (rn 1 rfl (Af ((by cases h; exact ⟨.inl rfl,rfl⟩)))))))
 ·refine qg 17 g2 rfl (sp 1 rfl (?_))
  obtain ⟨v3,g4,h⟩:=Aa h
  refine oGR rfl rfl (qC (qa rfl (erg (erc rfl (erc (erD Bc _) rfl))) Aw) (I7 g4) (sp 2 rfl (evn ?_)))
  rcases Ab h with ⟨g5,h⟩ | ⟨g5,h⟩
  ·exact qT rfl g5 (rn 1 rfl (Af ((by cases h; exact ⟨.inl rfl,rfl⟩))))
  ·refine qF rfl g5 (Ae (hK1 _ (qk [1,2,5] rfl (rn 1 rfl (rs (sp 2 rfl (?_)))))))
   obtain ⟨v6,g7,h⟩:=Aa h
   refine qC (qa rfl (erg (erc rfl (erc (erD Bc _) rfl))) (qa rfl (erD Al _) Aw)) (Ke g7) (sp 5 rfl (evn (Ac fun K8 hK8 => rs (sp 4 rfl (?_)))))
   obtain ⟨g9,h⟩:=An h
   refine qSl rfl AY g9 (sp 2 rfl (evn ?_))
   obtain ⟨o1,hl,hr1⟩:=Aa h
   have kXB1 : ∀ {z10 : List Int},z10 = o1 -> Jn K8 [(6,oL 3 Ak z10)]:=by
    intro z10 h σ' hk
    subst h
    replace h:=hr1
    try dsimp only at h
    exact hK8 _ (lh hk rfl (rn 1 rfl (Af ((by cases h; exact ⟨.inl rfl,rfl⟩)))))
   refine Aq (fun (s : (List Int) × Int) => match s with | (y1,y2) => [(5,nI (List.length a1 : Int)),(6,oL 3 Ak y1),(32,dL AL (Cq a0.2 v6.1 v6.2)),(33,nI (List.length (Cq a0.2 v6.1 v6.2) : Int)),(34,nI y2)]) _ _ _ _ hl (okr rfl) (fun _ => rfl) ?_
   rintro m ⟨y1,y2⟩ N h hN
   unfold BQ at h
   dsimp only at h
   refine rn 1 rfl (Ac fun K11 hK11 => ?_)
   rcases Ab h with ⟨g12,h⟩ | ⟨g12,h⟩
   ·refine qT rfl g12 (Ae (hK11 _ (Ac fun K13 hK13 => Ap (rs ?_))))
    obtain ⟨e14,g15,h⟩:=Aa h
    refine qI rfl AY g15 (sp 2 rfl (evn (rdk (by kernel_rfl) fun K16 hK16 => ?_)))
    have kJ2 : ∀ {x17 : Bool},BR (Ah (BQ a0 a1 v6) m) a1 y1 y2 e14 x17 = some o1 -> Jn K16 [(5,nI (List.length a1 : Int)),(6,oL 3 Ak y1),(10,dL Ak e14),(32,dL AL (Cq a0.2 v6.1 v6.2)),(33,nI (List.length (Cq a0.2 v6.1 v6.2) : Int)),(34,nI y2),(53,.bool x17)]:=by
     intro x17 h σ' hk
     unfold BR at h
     refine hK16 _ (lh hk rfl ?_)
     have kJ3 : ∀ {x18 : List Int},CL (Ah (BQ a0 a1 v6) m) y2 x18 = some o1 -> Jn K13 [(5,nI (List.length a1 : Int)),(6,oL 3 Ak x18),(32,dL AL (Cq a0.2 v6.1 v6.2)),(33,nI (List.length (Cq a0.2 v6.1 v6.2) : Int)),(34,nI y2)]:=by
      intro x18 h σ' hk
      unfold CL at h
      exact hK13 _ (lh hk rfl (rg (sp 2 rfl (evn (hN _ _ h (okr rfl))))))
     rcases Ab h with ⟨g19,h⟩ | ⟨g19,h⟩
     ·refine qT rfl g19 (rg (sp 3 rfl (?_)))
      obtain ⟨e20,g21,h⟩:=Aa h
      refine qI rfl Ao g21 (sp 1 rfl (qBs Ak [e20] rfl rfl rfl Ao (?_)))
      obtain ⟨g22,h⟩:=An h
      exact qA Ak y1 [e20] rfl rfl (AE Ao [e20]) rfl g22 (sp 1 rfl (evn (kJ3 h _ (okr rfl))))
     ·exact qF rfl g19 (Ae (kJ3 h _ (okr rfl)))
    refine sd 4 rfl (?_)
    rcases Ab h with ⟨g23,h⟩ | ⟨g23,h⟩
    ·exact qgd 41 g23 rfl (sd 12 rfl (Ea (kJ2 h _ (okr rfl))))
    ·refine qgd 41 g23 rfl (sd 4 rfl (?_))
     obtain ⟨e24,g25,h⟩:=Aa h
     refine ed rfl (oGR rfl rfl (qI rfl Ao g25 (sd 3 rfl (?_))))
     obtain ⟨e26,g27,h⟩:=Aa h
     exact ed rfl (oGR rfl rfl (qI rfl Ao g27 (sd 3 rfl (Ea (kJ2 h _ (okr rfl))))))
   ·exact qF rfl g12 (Aj (kXB1 (Option.some.inj h) _ (okr rfl)))
def Eh (rec : ((List (List Int)) × Int) -> Option ((List (List Int)))) (y6 : Int) (x6 : List (List Int)) : Option ((List (List Int))):=rec (x6,(IntKind.i64.wrap (y6 + 1)))
def Ei (rec : ((List Int) × Int) -> Option ((List Int))) (y14 : Int) (x26 : List Int) : Option ((List Int)):=rec (x26,(IntKind.i64.wrap (y14 + 1)))
def Dl (a2 : List Int) (a3 : List Int) (e7 : Y78) (rec : ((List Int) × Int) -> Option ((List Int))) (s : (List Int) × Int) : Option ((List Int)):=match s with
  | (y13,y14) => cond (decide (y14 < (List.length a3 : Int))) (Ad (AA a3 y14) fun e20 => Ad (AA a2 y14) fun e22 => Ad (AP e7 e22) fun v24 => cond v24 (chk (List.length y13 + List.length [e20] <= lim) (Ei rec y14 (y13 ++ [e20]))) (Ei rec y14 y13)) (some y13)
def Dk (a0 : Y41) (a1 : List Y57) (a2 : List Int) (a3 : List Int) (rec : ((List (List Int)) × Int) -> Option ((List (List Int)))) (s : (List (List Int)) × Int) : Option ((List (List Int))):=match s with
  | (y5,y6) => cond (decide (y6 < (List.length a0.2.1 : Int))) (Ad (AA a0.2.1 y6) fun e7 => Ad (AA a2 (List.length a3 : Int)) fun e10 => Ad (AP e7 e10) fun v12 => cond (!v12) (Eh rec y6 y5) (Ad (Ah (Dl a2 a3 e7) fz (([] : List Int),0)) fun z16 => Ad (AA a1 y6) fun e29 => Ad (Dj e29 z16) fun v31 => chk (List.length y5 + List.length [v31] <= lim) (Eh rec y6 (y5 ++ [v31])))) (some y5)
def GQ (a0 : Y41) (a1 : List Y57) (a2 : List Int) (a3 : List Int) : Option ((List (List Int))):=Ad (Ah (Dk a0 a1 a2 a3) fz (([] : List (List Int)),0)) fun z2 => some z2
theorem M2 {a0 : Y41} {a1 : List Y57} {a2 : List Int} {a3 : List Int} {r : (List (List Int))} (h : GQ a0 a1 a2 a3 = some r) : Ag Tryz.prog 100 [.agg (Bz a0),dL BC a1,dL Ak a2,dL Ak a3] (oL 26 As r):=by
 unfold GQ at h
 refine st bB rfl (rn 2 rfl (Ac fun K1 hK1 => rn 1 rfl ?_))
 obtain ⟨o1,hl,hr1⟩:=Aa h
 have kXB1 : ∀ {z2 : List (List Int)},z2 = o1 -> Jn K1 [(9,oL 26 As z2)]:=by
  intro z2 h σ' hk
  subst h
  replace h:=hr1
  try dsimp only at h
  exact hK1 _ (lh hk rfl (rn 1 rfl (Af ((by cases h; exact ⟨.inl rfl,rfl⟩)))))
 refine Aq (fun (s : (List (List Int)) × Int) => match s with | (y5,y6) => [(1,dL BC a1),(2,dL Ak a2),(3,dL Ak a3),(9,oL 26 As y5),(16,dL BM a0.2.1),(17,nI (List.length a0.2.1 : Int)),(18,nI y6)]) _ _ _ _ hl (okr rfl) (fun _ => rfl) ?_
 rintro m ⟨y5,y6⟩ N h hN
 unfold Dk at h
 dsimp only at h
 refine rn 1 rfl (Ac fun K3 hK3 => ?_)
 rcases Ab h with ⟨g4,h⟩ | ⟨g4,h⟩
 ·refine qT rfl g4 (Ae (hK3 _ (Ac fun K5 hK5 => ?_)))
  have kJ2 : ∀ {x6 : List (List Int)},Eh (Ah (Dk a0 a1 a2 a3) m) y6 x6 = some o1 -> Jn K5 [(1,dL BC a1),(2,dL Ak a2),(3,dL Ak a3),(9,oL 26 As x6),(16,dL BM a0.2.1),(17,nI (List.length a0.2.1 : Int)),(18,nI y6)]:=by
   intro x6 h σ' hk
   unfold Eh at h
   exact hK5 _ (lh hk rfl (rg (sp 2 rfl (evn (hN _ _ h (okr rfl))))))
  refine Ap (rs (sp 1 rfl (?_)))
  obtain ⟨e7,g8,h⟩:=Aa h
  refine qI rfl G3 g8 (sp 4 rfl (evn (Ac fun K9 hK9 => rd (by kernel_rfl) (sd 4 rfl (?_)))))
  obtain ⟨e10,g11,h⟩:=Aa h
  refine ed rfl (qI rfl Ao g11 (sd 1 rfl (?_)))
  obtain ⟨v12,g13,h⟩:=Aa h
  refine ed rfl (qC (qa rfl (erg (erc rfl (erc (erD Al _) rfl))) (qs rfl Aw)) (D2 g13) (sd 1 rfl (Ea ?_)))
  rcases Ab h with ⟨g14,h⟩ | ⟨g14,h⟩
  ·exact qT rfl g14 (Aj (kJ2 h _ (okr rfl)))
  ·refine qF rfl g14 (Ae (hK9 _ (rn 1 rfl (Ac fun K15 hK15 => rn 1 rfl ?_))))
   obtain ⟨o3,hl,hr3⟩:=Aa h
   have kXB3 : ∀ {z16 : List Int},z16 = o3 -> Jn K15 [(1,dL BC a1),(2,dL Ak a2),(3,dL Ak a3),(9,oL 26 As y5),(10,nI y6),(12,oL 3 Ak z16),(16,dL BM a0.2.1),(17,nI (List.length a0.2.1 : Int)),(18,nI y6)]:=by
    intro z16 h σ' hk
    subst h
    replace h:=hr3
    try dsimp only at h
    refine hK15 _ (lh hk rfl (rg (sp 3 rfl (?_))))
    obtain ⟨e29,g30,h⟩:=Aa h
    refine qI rfl Ns g30 (sp 2 rfl (?_))
    obtain ⟨v31,g32,h⟩:=Aa h
    refine qC (qa rfl (erg (erc rfl (erc (erD Bc _) rfl))) (qa rfl (erD Al _) Aw)) (Lk g32) (qBs As [v31] rfl rfl rfl Cf (?_))
    obtain ⟨g33,h⟩:=An h
    exact qA As y5 [v31] rfl rfl (AE Cf [v31]) rfl g33 (sp 1 rfl (evn (kJ2 h _ (okr rfl))))
   refine Aq (fun (s : (List Int) × Int) => match s with | (y13,y14) => [(1,dL BC a1),(2,dL Ak a2),(3,dL Ak a3),(9,oL 26 As y5),(10,nI y6),(11,.box [.str e7.1,dL Ak e7.2]),(12,oL 3 Ak y13),(16,dL BM a0.2.1),(17,nI (List.length a0.2.1 : Int)),(18,nI y6),(31,dL Ak a3),(32,nI (List.length a3 : Int)),(33,nI y14)]) _ _ _ _ hl (okr rfl) (fun _ => rfl) ?_
   rintro m ⟨y13,y14⟩ N h hN
   unfold Dl at h
   dsimp only at h
   refine rn 1 rfl (Ac fun K17 hK17 => ?_)
   rcases Ab h with ⟨g18,h⟩ | ⟨g18,h⟩
   ·refine qT rfl g18 (Ae (hK17 _ (Ac fun K19 hK19 => Ap (rs (sp 1 rfl (?_))))))
    obtain ⟨e20,g21,h⟩:=Aa h
    refine qI rfl Ao g21 (sp 3 rfl (evn (rd (by kernel_rfl) (sd 3 rfl (?_)))))
    obtain ⟨e22,g23,h⟩:=Aa h
    refine ed rfl (qI rfl Ao g23 (sd 1 rfl (?_)))
    obtain ⟨v24,g25,h⟩:=Aa h
    refine ed rfl (qC (qa rfl (erg (erc rfl (erc (erD Al _) rfl))) (qs rfl Aw)) (D2 g25) (Ea ?_))
    have kJ4 : ∀ {x26 : List Int},Ei (Ah (Dl a2 a3 e7) m) y14 x26 = some o3 -> Jn K19 [(1,dL BC a1),(2,dL Ak a2),(3,dL Ak a3),(9,oL 26 As y5),(10,nI y6),(11,.box [.str e7.1,dL Ak e7.2]),(12,oL 3 Ak x26),(16,dL BM a0.2.1),(17,nI (List.length a0.2.1 : Int)),(18,nI y6),(31,dL Ak a3),(32,nI (List.length a3 : Int)),(33,nI y14)]:=by
     intro x26 h σ' hk
     unfold Ei at h
     exact hK19 _ (lh hk rfl (rg (sp 2 rfl (evn (hN _ _ h (okr rfl))))))
    rcases Ab h with ⟨g27,h⟩ | ⟨g27,h⟩
    ·refine qT rfl g27 (rg (sp 2 rfl (qBs Ak [e20] rfl rfl rfl Ao (?_))))
     obtain ⟨g28,h⟩:=An h
     exact qA Ak y13 [e20] rfl rfl (AE Ao [e20]) rfl g28 (sp 1 rfl (evn (kJ4 h _ (okr rfl))))
    ·exact qF rfl g27 (Ae (kJ4 h _ (okr rfl)))
   ·exact qF rfl g18 (Aj (kXB3 (Option.some.inj h) _ (okr rfl)))
 ·exact qF rfl g4 (Aj (kXB1 (Option.some.inj h) _ (okr rfl)))
def AT (e13 : List Int) (v17 : (List Int) × Int) (rec : ((List (List Int)) × Int) -> Option ((List (List Int)))) (s : (List (List Int)) × Int) : Option ((List (List Int))):=match s with
  | (y29,y30) => cond (decide (y30 < (List.length v17.1 : Int))) (Ad (AA v17.1 y30) fun e23 => Ad (GB e13) fun v25 => chk (List.length v25 + List.length [e23] <= lim) (chk (List.length y29 + List.length ([v25 ++ [e23]]) <= lim) (rec ((y29 ++ ([v25 ++ [e23]])),(IntKind.i64.wrap (y30 + 1)))))) (some y29)
def AS (a0 : Y41) (a1 : List Y57) (a2 : List Int) (y10 : List (List Int)) (rec : (Int × (List (List Int)) × Int) -> Option (Int × (List (List Int)))) (s : Int × (List (List Int)) × Int) : Option (Int × (List (List Int))):=match s with
  | (y24,y25,y26) => cond (decide (y26 < (List.length y10 : Int))) (Ad (AA y10 y26) fun e13 => Ad (GQ a0 a1 a2 e13) fun v15 => Ad (C7 v15) fun v17 => Ad (Ah (AT e13 v17) fz (y25,0)) fun z19 => rec ((IntKind.i64.wrap (y24 + v17.2)),z19,(IntKind.i64.wrap (y26 + 1)))) (some (y24,y25))
def AR (a0 : Y41) (a1 : List Y57) (a2 : List Int) (a3 : Int) (rec : ((List (List Int)) × Int × Int) -> Option ((List (List Int)) × Int)) (s : (List (List Int)) × Int × Int) : Option ((List (List Int)) × Int):=match s with
  | (y10,y11,y12) => cond (decide (y12 < a3)) (Ad (Ah (AS a0 a1 a2 y10) fz (y11,([] : List (List Int)),0)) fun o2 => (match o2 with
  | (z8,z9) => (rec (z9,z8,(IntKind.i64.wrap (y12 + 1)))))) (some (y10,y11))
def Bx (a0 : Y41) (a1 : List Y57) (a2 : List Int) (a3 : Int) : Option ((List (List Int)) × Int × Bool):=Ad (Ah (AR a0 a1 a2 a3) fz (([[]]),0,0)) fun o1 => (match o1 with
  | (z2,z3) => (some (z2,z3,decide ((List.length z2 : Int) <= 4000))))
theorem HV {a0 : Y41} {a1 : List Y57} {a2 : List Int} {a3 : Int} {r : (List (List Int)) × Int × Bool} (h : Bx a0 a1 a2 a3 = some r) : Ag Tryz.prog 55 [.agg (Bz a0),dL BC a1,dL Ak a2,nI a3,.fn 56] (.tup [oL 26 As r.1,nI r.2.1,.bool r.2.2]):=by
 unfold Bx at h
 refine st iC rfl (rn 1 rfl (rs (qBs Ak [] rfl rfl rfl Ao (qBs As [[]] rfl rfl rfl Cf (sp 1 rfl (evn (rn 1 rfl (Ac fun K1 hK1 => rn 1 rfl ?_))))))))
 obtain ⟨o1,hl,hr1⟩:=Aa h
 have kXB1 : ∀ {z2 : List (List Int)} {z3 : Int},(z2,z3) = o1 -> Jn K1 [(13,oL 26 As z2),(14,nI z3)]:=by
  intro z2 z3 h σ' hk
  subst h
  replace h:=hr1
  try dsimp only at h
  exact hK1 _ (lh hk rfl (rn 1 rfl (Af ((by cases h; exact ⟨.inl rfl,rfl⟩)))))
 refine Aq (fun (s : (List (List Int)) × Int × Int) => match s with | (y10,y11,y12) => [(1,dL BC a1),(2,dL Ak a2),(3,nI a3),(4,.fn 56),(5,.box [nI a0.1,dL BM a0.2.1,dL Ak a0.2.2]),(13,oL 26 As y10),(14,nI y11),(15,nI y12)]) _ _ _ _ hl (okr rfl) (fun _ => rfl) ?_
 rintro m ⟨y10,y11,y12⟩ N h hN
 unfold AR at h
 dsimp only at h
 refine Ac fun K4 hK4 => rn 1 rfl ?_
 rcases Ab h with ⟨g5,h⟩ | ⟨g5,h⟩
 ·refine qT rfl g5 (Ae (hK4 _ (Ac fun K6 hK6 => Ap (rn 1 rfl (Ac fun K7 hK7 => rn 1 rfl ?_)))))
  obtain ⟨o2,hl,hr2⟩:=Aa h
  have kXB2 : ∀ {z8 : Int} {z9 : List (List Int)},(z8,z9) = o2 -> Jn K7 [(1,dL BC a1),(2,dL Ak a2),(3,nI a3),(4,.fn 56),(5,.box [nI a0.1,dL BM a0.2.1,dL Ak a0.2.2]),(14,nI z8),(15,nI y12),(16,oL 26 As z9)]:=by
   intro z8 z9 h σ' hk
   subst h
   replace h:=hr2
   try dsimp only at h
   exact hK7 _ (lh hk rfl (rg (sp 2 rfl (evn (hK6 _ (rg (sp 3 rfl (evn (hN _ _ h (okr rfl))))))))))
  refine Aq (fun (s : Int × (List (List Int)) × Int) => match s with | (y24,y25,y26) => [(1,dL BC a1),(2,dL Ak a2),(3,nI a3),(4,.fn 56),(5,.box [nI a0.1,dL BM a0.2.1,dL Ak a0.2.2]),(14,nI y24),(15,nI y12),(16,oL 26 As y25),(30,dL As y10),(31,nI (List.length y10 : Int)),(32,nI y26)]) _ _ _ _ hl (okr rfl) (fun _ => rfl) ?_
  rintro m ⟨y24,y25,y26⟩ N h hN
  unfold AS at h
  dsimp only at h
  refine rn 1 rfl (Ac fun K10 hK10 => ?_)
  rcases Ab h with ⟨g11,h⟩ | ⟨g11,h⟩
  ·refine qT rfl g11 (Ae (hK10 _ (Ac fun K12 hK12 => Ap (rs ?_))))
   obtain ⟨e13,g14,h⟩:=Aa h
   refine qI rfl Cf g14 (sp 2 rfl (evn (rs (sp 5 rfl (?_)))))
   obtain ⟨v15,g16,h⟩:=Aa h
   refine qC (qa rfl (erg (erc rfl (erc (erD Ce _) (erc (erD Al _) rfl)))) (qa rfl (erD PC _) (qa rfl (erD Al _) (qa rfl (erD Al _) Aw)))) (M2 g16) (?_)
   obtain ⟨v17,g18,h⟩:=Aa h
   refine qCt rfl (qa rfl (erO I4 _) Aw) (Jv g18) (sp 5 rfl (evn (rn 2 rfl ?_)))
   obtain ⟨o3,hl,hr3⟩:=Aa h
   have kXB3 : ∀ {z19 : List (List Int)},z19 = o3 -> Jn K12 [(1,dL BC a1),(2,dL Ak a2),(3,nI a3),(4,.fn 56),(5,.box [nI a0.1,dL BM a0.2.1,dL Ak a0.2.2]),(14,nI (IntKind.i64.wrap (y24 + v17.2))),(15,nI y12),(16,oL 26 As z19),(30,dL As y10),(31,nI (List.length y10 : Int)),(32,nI y26)]:=by
    intro z19 h σ' hk
    subst h
    replace h:=hr3
    try dsimp only at h
    exact hK12 _ (lh hk rfl (rg (sp 2 rfl (evn (hN _ _ h (okr rfl))))))
   refine Aq (fun (s : (List (List Int)) × Int) => match s with | (y29,y30) => [(1,dL BC a1),(2,dL Ak a2),(3,nI a3),(4,.fn 56),(5,.box [nI a0.1,dL BM a0.2.1,dL Ak a0.2.2]),(14,nI (IntKind.i64.wrap (y24 + v17.2))),(15,nI y12),(16,oL 26 As y29),(18,dL Ak e13),(30,dL As y10),(31,nI (List.length y10 : Int)),(32,nI y26),(49,dL Ak v17.1),(50,nI (List.length v17.1 : Int)),(51,nI y30)]) _ _ _ _ hl (okr rfl) (fun _ => rfl) ?_
   rintro m ⟨y29,y30⟩ N h hN
   unfold AT at h
   dsimp only at h
   refine rn 1 rfl (Ac fun K20 hK20 => ?_)
   rcases Ab h with ⟨g21,h⟩ | ⟨g21,h⟩
   ·refine qT rfl g21 (Ae (hK20 _ (Ac fun K22 hK22 => Ap (rs ?_))))
    obtain ⟨e23,g24,h⟩:=Aa h
    refine qI rfl Ao g24 (sp 2 rfl (evn (rg (sp 2 rfl (?_)))))
    obtain ⟨v25,g26,h⟩:=Aa h
    refine qC (qa rfl (erD Al _) Aw) (Kn g26) (sp 1 rfl (qBs Ak [e23] rfl rfl rfl Ao (?_)))
    obtain ⟨g27,h⟩:=An h
    refine qA Ak v25 [e23] rfl rfl (AE Ao [e23]) rfl g27 (qBs As [v25 ++ [e23]] rfl rfl rfl Cf (?_))
    obtain ⟨g28,h⟩:=An h
    exact qA As y29 ([v25 ++ [e23]]) rfl rfl (AE Cf ([v25 ++ [e23]])) rfl g28 (sp 1 rfl (evn (hK22 _ (rg (sp 2 rfl (evn (hN _ _ h (okr rfl))))))))
   ·exact qF rfl g21 (Aj (kXB3 (Option.some.inj h) _ (okr rfl)))
  ·exact qF rfl g11 (Aj (kXB2 (Option.some.inj h) _ (okr rfl)))
 ·exact qF rfl g5 (Aj (kXB1 (Option.some.inj h) _ (okr rfl)))
def Fj (a0 : List Y96) (a1 : Y41) (a2 : List Int) : Option (Y57 × Int × Bool):=Ad (Ga a0 a1 a2) fun v1 => cond (!v1.2) (some ((0,[]),0,false)) (Ad (GR v1.1) fun v6 => cond v6 (some ((a1.1,[]),0,true)) (Ad (Bx a1 v1.1 a2 a1.1) fun v9 => cond (!v9.2.2) (some ((0,[]),0,false)) (some ((a1.1,v9.1),v9.2.1,true))))
theorem Li {a0 : List Y96} {a1 : Y41} {a2 : List Int} {r : Y57 × Int × Bool} (h : Fj a0 a1 a2 = some r) : Ag Tryz.prog 28 [.agg [dL BY a0],.agg (Bz a1),dL Ak a2] (.tup [.agg (ID r.1),nI r.2.1,.bool r.2.2]):=by
 unfold Fj at h
 refine st gZ rfl (rn 1 rfl (rs (sp 3 rfl (?_))))
 obtain ⟨v1,g2,h⟩:=Aa h
 refine qC (qa rfl (erg (erc (erD D1 _) rfl)) (qa rfl (erg (erc rfl (erc (erD Ce _) (erc (erD Al _) rfl)))) (qa rfl (erD Al _) Aw))) (Mr g2) (sp 5 rfl (evn (Ac fun K3 hK3 => rn 1 rfl ?_)))
 rcases Ab h with ⟨g4,h⟩ | ⟨g4,h⟩
 ·exact qT rfl g4 (rn 1 rfl (Af ((by cases h; exact ⟨.inl rfl,rfl⟩))))
 ·refine qF rfl g4 (Ae (hK3 _ (Ac fun K5 hK5 => rs (sp 1 rfl (?_)))))
  obtain ⟨v6,g7,h⟩:=Aa h
  refine qC (qa rfl (erD Nd _) Aw) (M4 g7) (evn ?_)
  rcases Ab h with ⟨g8,h⟩ | ⟨g8,h⟩
  ·exact qT rfl g8 (rn 1 rfl (qk [6,7,8] rfl (Af ((by cases h; exact ⟨.inl rfl,rfl⟩)))))
  ·refine qF rfl g8 (Ae (hK5 _ (rs (sp 5 rfl (?_)))))
   obtain ⟨v9,g10,h⟩:=Aa h
   refine qC (qa rfl (erg (erc rfl (erc (erD Ce _) (erc (erD Al _) rfl)))) (qa rfl (erD Nd _) (qa rfl (erD Al _) (qs rfl (qs rfl Aw))))) (HV g10) (sp 7 rfl (evn (Ac fun K11 hK11 => rn 1 rfl ?_)))
   rcases Ab h with ⟨g12,h⟩ | ⟨g12,h⟩
   ·exact qT rfl g12 (rn 1 rfl (Af ((by cases h; exact ⟨.inl rfl,rfl⟩))))
   ·exact qF rfl g12 (Ae (hK11 _ (rn 1 rfl (Af ((by cases h; exact ⟨.inl rfl,rfl⟩))))))
def Lm  (rec : (Int × Int) -> Option (Int)) (s : Int × Int) : Option (Int):=match s with
  | (y1,y2) => cond (y2 != 0) (chk (y2 ≠ 0) (rec (y2,(Int.tmod y1 y2)))) (some y1)
def JS (a0 : Int) (a1 : Int) : Option (Int):=Ad (Ah Lm fz (a0,a1)) fun z2 => some z2
theorem Mu {a0 : Int} {a1 : Int} {r : Int} (h : JS a0 a1 = some r) : Ag Tryz.prog 159 [nI a0,nI a1] (nI r):=by
 unfold JS at h
 refine st cL rfl (rn 1 rfl (Ac fun K1 hK1 => ?_))
 obtain ⟨o1,hl,hr1⟩:=Aa h
 have kXB1 : ∀ {z2 : Int},z2 = o1 -> Jn K1 [(0,nI z2)]:=by
  intro z2 h σ' hk
  subst h
  replace h:=hr1
  try dsimp only at h
  exact hK1 _ (lh hk rfl (rn 1 rfl (Af ((by cases h; exact ⟨.inl rfl,rfl⟩)))))
 refine Aq (fun (s : Int × Int) => match s with | (y1,y2) => [(0,nI y1),(1,nI y2)]) _ _ _ _ hl (okr rfl) (fun _ => rfl) ?_
 rintro m ⟨y1,y2⟩ N h hN
 unfold Lm at h
 dsimp only at h
 refine Ac fun K3 hK3 => rn 1 rfl ?_
 rcases Ab h with ⟨g4,h⟩ | ⟨g4,h⟩
 ·refine qT rfl g4 (Ae (hK3 _ (Ap (rgd (by kernel_rfl) (sd 3 rfl (?_))))))
  obtain ⟨g5,h⟩:=An h
  exact ed rfl (qB rfl ⟨rfl,g5⟩ rfl (sd 2 rfl (Ea (hN _ _ h (okr rfl)))))
 ·exact qF rfl g4 (Aj (kXB1 (Option.some.inj h) _ (okr rfl)))
def KH (a0 : Int) : Option (Int):=some (if a0 < (IntKind.i64.wrap (0 - a0)) then (IntKind.i64.wrap (0 - a0)) else a0)
theorem Pc {a0 : Int} {r : Int} (h : KH a0 = some r) : Ag Tryz.prog 160 [nI a0] (nI r):=by
 unfold KH at h
 exact st cM rfl (rn 2 rfl (Af ((by cases h; exact ⟨.inl rfl,rfl⟩))))
def Cw (x2 : Bool) : Option (Bool):=some x2
def A8 (a0 : Br) : Option (Bool):=Ad (A2 a0.2 1 1000000000) fun v3 => cond v3 (Ad (A2 a0.1 (-1000000000) 1000000000) fun v6 => cond v6 (Ad (KH a0.1) fun v9 => Ad (JS v9 a0.2) fun v11 => Cw (v11 == 1)) (Cw false)) (Cw false)
theorem C4 {a0 : Br} {r : Bool} (h : A8 a0 = some r) : Ag Tryz.prog 137 [.agg (A4 a0)] (.bool r):=by
 unfold A8 at h
 refine st cl rfl (rn 1 rfl (rdk (by kernel_rfl) fun K1 hK1 => ?_))
 have kJ1 : ∀ {x2 : Bool},Cw x2 = some r -> Jn K1 [(2,.bool x2)]:=by
  intro x2 h σ' hk
  unfold Cw at h
  exact hK1 _ (lh hk rfl (Af ((by cases h; exact ⟨.inl rfl,rfl⟩))))
 refine sd 2 rfl (?_)
 obtain ⟨v3,g4,h⟩:=Aa h
 refine ed rfl (qC (qs rfl (qs rfl (qs rfl Aw))) (AZ g4) (sd 1 rfl (?_)))
 rcases Ab h with ⟨g5,h⟩ | ⟨g5,h⟩
 ·refine qgd 6 g5 rfl (sd 2 rfl (?_))
  obtain ⟨v6,g7,h⟩:=Aa h
  refine ed rfl (oGR rfl rfl (qC (qs rfl (qs rfl (qs rfl Aw))) (AZ g7) (sd 2 rfl (?_))))
  rcases Ab h with ⟨g8,h⟩ | ⟨g8,h⟩
  ·refine qgd 11 g8 rfl (sd 2 rfl (?_))
   obtain ⟨v9,g10,h⟩:=Aa h
   refine ed rfl (oGR rfl rfl (qC (qs rfl Aw) (Pc g10) (sd 2 rfl (?_))))
   obtain ⟨v11,g12,h⟩:=Aa h
   exact ed rfl (oGR rfl rfl (qC (qs rfl (qs rfl Aw)) (Mu g12) (sd 3 rfl (Ea (kJ1 h _ (okr rfl))))))
  ·exact qgd 11 g8 rfl (sd 9 rfl (Ea (kJ1 h _ (okr rfl))))
 ·exact qgd 6 g5 rfl (sd 14 rfl (Ea (kJ1 h _ (okr rfl))))
def F5 (a0 : List Br) (rec : Int -> Option (Sum (Unit) (Bool))) (y1 : Int) : Option (Sum (Unit) (Bool)):=cond (decide (y1 < (List.length a0 : Int))) (Ad (AA a0 y1) fun e5 => Ad (A8 e5) fun v7 => cond (!v7) (some (.inr false)) (Ad (A2 e5.1 0 1000) fun v10 => cond (!v10) (some (.inr false)) (cond (decide (1000 < e5.2)) (some (.inr false)) (rec (IntKind.i64.wrap (y1 + 1)))))) (some (.inl ()))
def Gc (a0 : List Br) : Option (Bool):=Ad (Ah (F5 a0) fz 0) fun o1 => (match o1 with
  | .inl _ => (some true)
  | .inr r => some r)
theorem Ms {a0 : List Br} {r : Bool} (h : Gc a0 = some r) : Ag Tryz.prog 106 [dL A4 a0] (.bool r):=by
 unfold Gc at h
 refine st bH rfl (rn 1 rfl (Ac fun K1 hK1 => rn 1 rfl ?_))
 obtain ⟨o1,hl,hr1⟩:=Aa h
 have kXB1 : (.inl ()) = o1 -> Jn K1 []:=by
  intro h σ' hk
  subst h
  replace h:=hr1
  try dsimp only at h
  exact hK1 _ (lh hk rfl (rn 1 rfl (Af ((by cases h; exact ⟨.inl rfl,rfl⟩)))))
 refine Aq (fun (y1 : Int) => [(5,dL A4 a0),(6,nI (List.length a0 : Int)),(7,nI y1)]) _ _ _ _ hl (okr rfl) (fun _ => rfl) ?_
 rintro m y1 N h hN
 unfold F5 at h
 refine rn 1 rfl (Ac fun K2 hK2 => ?_)
 rcases Ab h with ⟨g3,h⟩ | ⟨g3,h⟩
 ·refine qT rfl g3 (Ae (hK2 _ (Ac fun K4 hK4 => Ap (rs ?_))))
  obtain ⟨e5,g6,h⟩:=Aa h
  refine qI rfl FC g6 (sp 3 rfl (evn (rs (sp 1 rfl (?_)))))
  obtain ⟨v7,g8,h⟩:=Aa h
  refine qC (qa rfl (erg (erc rfl (erc rfl rfl))) Aw) (C4 g8) (sp 2 rfl (?_))
  rcases Ab h with ⟨g9,h⟩ | ⟨g9,h⟩
  ·exact qg 14 g9 rfl (sp 10 rfl (evn (qT rfl rfl (rn 1 rfl (Af ((by cases h; cases hr1; exact ⟨.inl rfl,rfl⟩)))))))
  ·refine qg 14 g9 rfl (sp 2 rfl (?_))
   obtain ⟨v10,g11,h⟩:=Aa h
   refine oGR rfl rfl (qC (qs rfl (qs rfl (qs rfl Aw))) (AZ g11) (sp 3 rfl (?_)))
   rcases Ab h with ⟨g12,h⟩ | ⟨g12,h⟩
   ·exact qg 20 g12 rfl (sp 4 rfl (evn (qk [5,6,7,24] rfl (qT rfl rfl (rn 1 rfl (Af ((by cases h; cases hr1; exact ⟨.inl rfl,rfl⟩))))))))
   ·refine qg 20 g12 rfl (sp 4 rfl (evn ?_))
    rcases Ab h with ⟨g13,h⟩ | ⟨g13,h⟩
    ·exact qT rfl g13 (rn 1 rfl (Af ((by cases h; cases hr1; exact ⟨.inl rfl,rfl⟩))))
    ·exact qF rfl g13 (Ae (hK4 _ (rg (sp 2 rfl (evn (hN _ _ h (okr rfl)))))))
 ·exact qF rfl g3 (Aj (kXB1 (Option.some.inj h) _ trivial))
def GA (x2 : Bool) : Option (Bool):=some x2
def FV (a0 : Br) (a1 : Br) : Option (Bool):=Ad (A8 a0) fun v3 => cond v3 (Ad (A8 a1) fun v6 => GA v6) (GA false)
theorem J7 {a0 : Br} {a1 : Br} {r : Bool} (h : FV a0 a1 = some r) : Ag Tryz.prog 139 [.agg (A4 a0),.agg (A4 a1)] (.bool r):=by
 unfold FV at h
 refine st co rfl (rn 1 rfl (rk fun K1 hK1 => ?_))
 have kJ1 : ∀ {x2 : Bool},GA x2 = some r -> Jn K1 [(4,.bool x2)]:=by
  intro x2 h σ' hk
  unfold GA at h
  exact hK1 _ (lh hk rfl (Af ((by cases h; exact ⟨.inl rfl,rfl⟩))))
 refine sp 1 rfl (?_)
 obtain ⟨v3,g4,h⟩:=Aa h
 refine qC (qa rfl (erg (erc rfl (erc rfl rfl))) Aw) (C4 g4) (sp 1 rfl (?_))
 rcases Ab h with ⟨g5,h⟩ | ⟨g5,h⟩
 ·refine qg 7 g5 rfl (sp 1 rfl (?_))
  obtain ⟨v6,g7,h⟩:=Aa h
  exact oGR rfl rfl (qC (qa rfl (erg (erc rfl (erc rfl rfl))) Aw) (C4 g7) (sp 2 rfl (evn (kJ1 h _ (okr rfl)))))
 ·exact qg 7 g5 rfl (sp 4 rfl (evn (kJ1 h _ (okr rfl))))
def Di (x10 : Int) (x11 : Int) : Option (Br × Bool):=Ad (KH x10) fun v12 => Ad (JS v12 x11) fun v14 => chk (v14 ≠ 0) (chk (v14 ≠ 0) (Ad (A8 (IntKind.i64.wrap (Int.tdiv x10 v14),IntKind.i64.wrap (Int.tdiv x11 v14))) fun v19 => cond (!v19) (some ((0,0),false)) (some ((IntKind.i64.wrap (Int.tdiv x10 v14),IntKind.i64.wrap (Int.tdiv x11 v14)),true))))
def FN (a0 : Int) (a1 : Int) : Option (Br × Bool):=cond (a1 == 0) (some ((0,0),false)) (Ad (A2 a0 (-4000000000000000000) 4000000000000000000) fun v3 => cond (!v3) (some ((0,0),false)) (Ad (A2 a1 (-4000000000000000000) 4000000000000000000) fun v6 => cond (!v6) (some ((0,0),false)) (cond (decide (a1 < 0)) (Di (IntKind.i64.wrap (0 - a0)) (IntKind.i64.wrap (0 - a1))) (Di a0 a1))))
theorem LJ {a0 : Int} {a1 : Int} {r : Br × Bool} (h : FN a0 a1 = some r) : Ag Tryz.prog 161 [nI a0,nI a1] (.tup [.agg (A4 r.1),.bool r.2]):=by
 unfold FN at h
 refine st cN rfl (rn 1 rfl (Ac fun K1 hK1 => rs (sp 3 rfl (?_))))
 rcases Ab h with ⟨g2,h⟩ | ⟨g2,h⟩
 ·exact qg 10 g2 rfl (sp 9 rfl (evn (qT rfl rfl (rn 1 rfl (Af ((by cases h; exact ⟨.inl rfl,rfl⟩)))))))
 ·refine qg 10 g2 rfl (sp 1 rfl (?_))
  obtain ⟨v3,g4,h⟩:=Aa h
  refine oGR rfl rfl (qC (qs rfl (qs rfl (qs rfl Aw))) (AZ g4) (sp 3 rfl (?_)))
  rcases Ab h with ⟨g5,h⟩ | ⟨g5,h⟩
  ·exact qg 15 g5 rfl (sp 4 rfl (evn (qT rfl rfl (rn 1 rfl (qk [4,5] rfl (Af ((by cases h; exact ⟨.inl rfl,rfl⟩))))))))
  ·refine qg 15 g5 rfl (sp 1 rfl (?_))
   obtain ⟨v6,g7,h⟩:=Aa h
   refine oGR rfl rfl (qC (qs rfl (qs rfl (qs rfl Aw))) (AZ g7) (sp 2 rfl (evn ?_)))
   rcases Ab h with ⟨g8,h⟩ | ⟨g8,h⟩
   ·exact qT rfl g8 (rn 1 rfl (Af ((by cases h; exact ⟨.inl rfl,rfl⟩))))
   ·refine qF rfl g8 (Ae (hK1 _ (Ac fun K9 hK9 => rn 1 rfl ?_)))
    have kJ1 : ∀ {x10 : Int} {x11 : Int},Di x10 x11 = some r -> Jn K9 [(0,nI x10),(1,nI x11),(4,.box [nI 0,nI 0])]:=by
     intro x10 x11 h σ' hk
     unfold Di at h
     refine hK9 _ (lh hk rfl (rs (sp 1 rfl (?_))))
     obtain ⟨v12,g13,h⟩:=Aa h
     refine qC (qs rfl Aw) (Pc g13) (sp 1 rfl (?_))
     obtain ⟨v14,g15,h⟩:=Aa h
     refine qC (qs rfl (qs rfl Aw)) (Mu g15) (sp 1 rfl (evn (rd (by kernel_rfl) (sd 2 rfl (?_)))))
     obtain ⟨g16,h⟩:=An h
     refine ed rfl (qB rfl ⟨rfl,g16⟩ rfl (sd 2 rfl (?_)))
     obtain ⟨g17,h⟩:=An h
     refine ed rfl (qB rfl ⟨rfl,g17⟩ rfl (sd 3 rfl (Ea (Ac fun K18 hK18 => rs (sp 1 rfl (?_))))))
     obtain ⟨v19,g20,h⟩:=Aa h
     refine qC (qa rfl (erg (erc rfl (erc rfl rfl))) Aw) (C4 g20) (sp 1 rfl (evn ?_))
     rcases Ab h with ⟨g21,h⟩ | ⟨g21,h⟩
     ·exact qT rfl g21 (rn 1 rfl (Af ((by cases h; exact ⟨.inl rfl,rfl⟩))))
     ·exact qF rfl g21 (Ae (hK18 _ (rn 1 rfl (Af ((by cases h; exact ⟨.inl rfl,rfl⟩))))))
    rcases Ab h with ⟨g22,h⟩ | ⟨g22,h⟩
    ·exact qT rfl g22 (rg (sp 6 rfl (evn (kJ1 h _ (okr rfl)))))
    ·exact qF rfl g22 (Ae (kJ1 h _ (okr rfl)))
def FM (a0 : Br) (a1 : Br) : Option (Br × Bool):=Ad (FV a0 a1) fun v2 => cond (!v2) (some ((0,0),false)) (Ad (FN (IntKind.i64.wrap ((IntKind.i64.wrap (a0.1 * a1.2)) + (IntKind.i64.wrap (a1.1 * a0.2)))) (IntKind.i64.wrap (a0.2 * a1.2))) fun v5 => some (v5.1,v5.2))
theorem LI {a0 : Br} {a1 : Br} {r : Br × Bool} (h : FM a0 a1 = some r) : Ag Tryz.prog 138 [.agg (A4 a0),.agg (A4 a1)] (.tup [.agg (A4 r.1),.bool r.2]):=by
 unfold FM at h
 refine st cm rfl (rn 1 rfl (Ac fun K1 hK1 => rs (sp 2 rfl (?_))))
 obtain ⟨v2,g3,h⟩:=Aa h
 refine qC (qa rfl (erg (erc rfl (erc rfl rfl))) (qa rfl (erg (erc rfl (erc rfl rfl))) Aw)) (J7 g3) (sp 1 rfl (evn ?_))
 rcases Ab h with ⟨g4,h⟩ | ⟨g4,h⟩
 ·exact qT rfl g4 (rn 1 rfl (Af ((by cases h; exact ⟨.inl rfl,rfl⟩))))
 ·refine qF rfl g4 (Ae (hK1 _ (rs (sp 16 rfl (?_)))))
  obtain ⟨v5,g6,h⟩:=Aa h
  exact qC (qs rfl (qs rfl Aw)) (LJ g6) (sp 4 rfl (evn (qk [4,5] rfl (Af ((by cases h; exact ⟨.inl rfl,rfl⟩))))))
def CK (a0 : List Br) (rec : (Int × Int × Int) -> Option (Sum (Int × Int) (Br × Bool))) (s : Int × Int × Int) : Option (Sum (Int × Int) (Br × Bool)):=match s with
  | (y1,y2,y3) => cond (decide (y3 < (List.length a0 : Int))) (Ad (AA a0 y3) fun e7 => Ad (FM (y1,y2) e7) fun v9 => cond (!v9.2) (some (.inr ((0,0),false))) (rec (v9.1.1,v9.1.2,(IntKind.i64.wrap (y3 + 1))))) (some (.inl (y1,y2)))
def Fk (a0 : List Br) : Option (Br × Bool):=Ad (Ah (CK a0) fz (0,1,0)) fun o1 => (match o1 with
  | .inl (z2,z3) => (some ((z2,z3),true))
  | .inr r => some r)
theorem Lj {a0 : List Br} {r : Br × Bool} (h : Fk a0 = some r) : Ag Tryz.prog 108 [dL A4 a0] (.tup [.agg (A4 r.1),.bool r.2]):=by
 unfold Fk at h
 refine st bJ rfl (rn 2 rfl (Ac fun K1 hK1 => rn 1 rfl ?_))
 obtain ⟨o1,hl,hr1⟩:=Aa h
 have kXB1 : ∀ {z2 : Int} {z3 : Int},(.inl (z2,z3)) = o1 -> Jn K1 [(2,.box [nI 0,nI 0]),(4,.box [nI z2,nI z3])]:=by
  intro z2 z3 h σ' hk
  subst h
  replace h:=hr1
  try dsimp only at h
  exact hK1 _ (lh hk rfl (rn 1 rfl (Af ((by cases h; exact ⟨.inl rfl,rfl⟩)))))
 refine Aq (fun (s : Int × Int × Int) => match s with | (y1,y2,y3) => [(2,.box [nI 0,nI 0]),(4,.box [nI y1,nI y2]),(10,dL A4 a0),(11,nI (List.length a0 : Int)),(12,nI y3)]) _ _ _ _ hl (okr rfl) (fun _ => rfl) ?_
 rintro m ⟨y1,y2,y3⟩ N h hN
 unfold CK at h
 dsimp only at h
 refine rn 1 rfl (Ac fun K4 hK4 => ?_)
 rcases Ab h with ⟨g5,h⟩ | ⟨g5,h⟩
 ·refine qT rfl g5 (Ae (hK4 _ (Ac fun K6 hK6 => Ap (rs ?_))))
  obtain ⟨e7,g8,h⟩:=Aa h
  refine qI rfl FC g8 (sp 3 rfl (evn (rs (sp 2 rfl (?_)))))
  obtain ⟨v9,g10,h⟩:=Aa h
  refine qC (qa rfl (erg (erc rfl (erc rfl rfl))) (qa rfl (erg (erc rfl (erc rfl rfl))) Aw)) (LI g10) (sp 6 rfl (evn (Ac fun K11 hK11 => rn 1 rfl ?_)))
  rcases Ab h with ⟨g12,h⟩ | ⟨g12,h⟩
  ·exact qT rfl g12 (rn 1 rfl (Af ((by cases h; cases hr1; exact ⟨.inl rfl,rfl⟩))))
  ·exact qF rfl g12 (Ae (hK11 _ (qk [2,4,7,10,11,12] rfl (rg (sp 2 rfl (evn (hK6 _ (rg (sp 2 rfl (evn (hN _ _ h (okr rfl))))))))))))
 ·exact qF rfl g5 (Aj (kXB1 (Option.some.inj h) _ (okr rfl)))
def DA (a0 : Br) (a1 : Br) : Option (Int):=Ad (FV a0 a1) fun v2 => cond (!v2) (some 0) (Ad (Cd (IntKind.i64.wrap (a0.1 * a1.2)) (IntKind.i64.wrap (a1.1 * a0.2))) fun v5 => some v5)
theorem JP {a0 : Br} {a1 : Br} {r : Int} (h : DA a0 a1 = some r) : Ag Tryz.prog 109 [.agg (A4 a0),.agg (A4 a1)] (nI r):=by
 unfold DA at h
 refine st bK rfl (rn 1 rfl (Ac fun K1 hK1 => rs (sp 2 rfl (?_))))
 obtain ⟨v2,g3,h⟩:=Aa h
 refine qC (qa rfl (erg (erc rfl (erc rfl rfl))) (qa rfl (erg (erc rfl (erc rfl rfl))) Aw)) (J7 g3) (sp 1 rfl (evn ?_))
 rcases Ab h with ⟨g4,h⟩ | ⟨g4,h⟩
 ·exact qT rfl g4 (rn 1 rfl (Af ((by cases h; exact ⟨.inl rfl,rfl⟩))))
 ·refine qF rfl g4 (Ae (hK1 _ (rs (sp 10 rfl (?_)))))
  obtain ⟨v5,g6,h⟩:=Aa h
  exact qC (qs rfl (qs rfl Aw)) (ES g6) (sp 1 rfl (evn (Af ((by cases h; exact ⟨.inl rfl,rfl⟩)))))
def B7 (rec : ((List Br) × Int) -> Option ((List Br))) (y7 : Int) (x22 : List Br) : Option ((List Br)):=rec (x22,(IntKind.i64.wrap (y7 + 1)))
def B6 (a0 : Y41) (a1 : List Br) (y3 : Int) (rec : ((List Br) × Int) -> Option ((List Br))) (s : (List Br) × Int) : Option ((List Br)):=match s with
  | (y6,y7) => cond (decide (y7 < (List.length a0.2.1 : Int))) (Ad (AA a0.2.1 y7) fun e18 => Ad (AP e18 y3) fun v20 => cond v20 (Ad (AA a1 y7) fun e24 => chk (List.length y6 + List.length [e24] <= lim) (B7 rec y7 (y6 ++ [e24]))) (B7 rec y7 y6)) (some y6)
def Dt (a0 : Y41) (a1 : List Br) (rec : Int -> Option (Sum (Unit) (Bool))) (y3 : Int) : Option (Sum (Unit) (Bool)):=cond (decide (y3 < a0.1)) (Ad (Ah (B6 a0 a1 y3) fz (([] : List Br),0)) fun z14 => Ad (Fk z14) fun v27 => cond (!v27.2) (some (.inr false)) (Ad (DA v27.1 (1,1)) fun v30 => cond (decide (v30 < 0)) (some (.inr false)) (rec (IntKind.i64.wrap (y3 + 1))))) (some (.inl ()))
def C3 (a0 : Y41) (a1 : List Br) : Option (Bool):=Ad (BF a0) fun v2 => cond (!v2) (some false) (cond ((List.length a1 : Int) != (List.length a0.2.1 : Int)) (some false) (Ad (Gc a1) fun v6 => cond (!v6) (some false) (Ad (Ah (Dt a0 a1) fz 0) fun o1 => (match o1 with
  | .inl _ => (some true)
  | .inr r => some r))))
theorem Js {a0 : Y41} {a1 : List Br} {r : Bool} (h : C3 a0 a1 = some r) : Ag Tryz.prog 58 [.agg (Bz a0),dL A4 a1] (.bool r):=by
 unfold C3 at h
 refine st iF rfl (rn 1 rfl (Ac fun K1 hK1 => rs (sp 1 rfl (?_))))
 obtain ⟨v2,g3,h⟩:=Aa h
 refine qC (qa rfl (erg (erc rfl (erc (erD Ce _) (erc (erD Al _) rfl)))) Aw) (Eu g3) (sp 2 rfl (?_))
 rcases Ab h with ⟨g4,h⟩ | ⟨g4,h⟩
 ·exact qg 14 g4 rfl (sp 12 rfl (evn (qT rfl rfl (rn 1 rfl (Af ((by cases h; exact ⟨.inl rfl,rfl⟩)))))))
 ·refine qg 14 g4 rfl (sp 8 rfl (?_))
  rcases Ab h with ⟨g5,h⟩ | ⟨g5,h⟩
  ·exact qg 22 g5 rfl (sp 4 rfl (evn (qk [1,2,26] rfl (qT rfl rfl (rn 1 rfl (Af ((by cases h; exact ⟨.inl rfl,rfl⟩))))))))
  ·refine qg 22 g5 rfl (sp 1 rfl (?_))
   obtain ⟨v6,g7,h⟩:=Aa h
   refine oGR rfl rfl (qC (qa rfl (erD FK _) Aw) (Ms g7) (sp 2 rfl (evn ?_)))
   rcases Ab h with ⟨g8,h⟩ | ⟨g8,h⟩
   ·exact qT rfl g8 (rn 1 rfl (Af ((by cases h; exact ⟨.inl rfl,rfl⟩))))
   ·refine qF rfl g8 (Ae (hK1 _ (Ac fun K9 hK9 => rn 1 rfl ?_)))
    obtain ⟨o1,hl,hr1⟩:=Aa h
    have kXB1 : (.inl ()) = o1 -> Jn K9 []:=by
     intro h σ' hk
     subst h
     replace h:=hr1
     try dsimp only at h
     exact hK9 _ (lh hk rfl (rn 1 rfl (Af ((by cases h; exact ⟨.inl rfl,rfl⟩)))))
    refine Aq (fun (y3 : Int) => [(1,dL A4 a1),(2,.box [nI a0.1,dL BM a0.2.1,dL Ak a0.2.2]),(5,nI y3)]) _ _ _ _ hl (okr rfl) (fun _ => rfl) ?_
    rintro m y3 N h hN
    unfold Dt at h
    refine Ac fun K10 hK10 => rn 1 rfl ?_
    rcases Ab h with ⟨g11,h⟩ | ⟨g11,h⟩
    ·refine qT rfl g11 (Ae (hK10 _ (Ac fun K12 hK12 => Ap (rn 1 rfl (Ac fun K13 hK13 => rn 1 rfl ?_)))))
     obtain ⟨o2,hl,hr2⟩:=Aa h
     have kXB2 : ∀ {z14 : List Br},z14 = o2 -> Jn K13 [(1,dL A4 a1),(2,.box [nI a0.1,dL BM a0.2.1,dL Ak a0.2.2]),(5,nI y3),(6,oL 101 A4 z14)]:=by
      intro z14 h σ' hk
      subst h
      replace h:=hr2
      try dsimp only at h
      refine hK13 _ (lh hk rfl (rs (sp 1 rfl (?_))))
      obtain ⟨v27,g28,h⟩:=Aa h
      refine qC (qa rfl (erD FK _) Aw) (Lj g28) (sp 6 rfl (evn (rs (sp 3 rfl (?_)))))
      rcases Ab h with ⟨g29,h⟩ | ⟨g29,h⟩
      ·exact qg 59 g29 rfl (sp 5 rfl (evn (qT rfl rfl (rn 1 rfl (Af ((by cases h; cases hr1; exact ⟨.inl rfl,rfl⟩)))))))
      ·refine qg 59 g29 rfl (sp 2 rfl (?_))
       obtain ⟨v30,g31,h⟩:=Aa h
       refine oGR rfl rfl (qC (qa rfl (erg (erc rfl (erc rfl rfl))) (qa rfl (erg (erc rfl (erc rfl rfl))) Aw)) (JP g31) (sp 2 rfl (evn ?_)))
       rcases Ab h with ⟨g32,h⟩ | ⟨g32,h⟩
       ·exact qT rfl g32 (rn 1 rfl (Af ((by cases h; cases hr1; exact ⟨.inl rfl,rfl⟩))))
       ·exact qF rfl g32 (Ae (hK12 _ (qk [1,2,5] rfl (rg (sp 3 rfl (evn (hN _ _ h (okr rfl))))))))
     refine Aq (fun (s : (List Br) × Int) => match s with | (y6,y7) => [(1,dL A4 a1),(2,.box [nI a0.1,dL BM a0.2.1,dL Ak a0.2.2]),(5,nI y3),(6,oL 101 A4 y6),(34,dL BM a0.2.1),(35,nI (List.length a0.2.1 : Int)),(36,nI y7)]) _ _ _ _ hl (okr rfl) (fun _ => rfl) ?_
     rintro m ⟨y6,y7⟩ N h hN
     unfold B6 at h
     dsimp only at h
     refine rn 1 rfl (Ac fun K15 hK15 => ?_)
     rcases Ab h with ⟨g16,h⟩ | ⟨g16,h⟩
     ·refine qT rfl g16 (Ae (hK15 _ (Ac fun K17 hK17 => Ap (rs (sp 1 rfl (?_))))))
      obtain ⟨e18,g19,h⟩:=Aa h
      refine qI rfl G3 g19 (sp 4 rfl (evn (rs (sp 2 rfl (?_)))))
      obtain ⟨v20,g21,h⟩:=Aa h
      refine qC (qa rfl (erg (erc rfl (erc (erD Al _) rfl))) (qs rfl Aw)) (D2 g21) (evn ?_)
      have kJ3 : ∀ {x22 : List Br},B7 (Ah (B6 a0 a1 y3) m) y7 x22 = some o2 -> Jn K17 [(1,dL A4 a1),(2,.box [nI a0.1,dL BM a0.2.1,dL Ak a0.2.2]),(5,nI y3),(6,oL 101 A4 x22),(34,dL BM a0.2.1),(35,nI (List.length a0.2.1 : Int)),(36,nI y7)]:=by
       intro x22 h σ' hk
       unfold B7 at h
       exact hK17 _ (lh hk rfl (rg (sp 2 rfl (evn (hN _ _ h (okr rfl))))))
      rcases Ab h with ⟨g23,h⟩ | ⟨g23,h⟩
      ·refine qT rfl g23 (rg (sp 3 rfl (?_)))
       obtain ⟨e24,g25,h⟩:=Aa h
       refine qI rfl FC g25 (sp 1 rfl (qBs A4 [e24] rfl rfl rfl FC (?_)))
       obtain ⟨g26,h⟩:=An h
       exact qA A4 y6 [e24] rfl rfl (AE FC [e24]) rfl g26 (sp 1 rfl (evn (kJ3 h _ (okr rfl))))
      ·exact qF rfl g23 (Ae (kJ3 h _ (okr rfl)))
     ·exact qF rfl g16 (Aj (kXB2 (Option.some.inj h) _ (okr rfl)))
    ·exact qF rfl g11 (Aj (kXB1 (Option.some.inj h) _ trivial))
def D3 (a0 : List Br) (rec : Int -> Option (Sum (Unit) ((List Int) × Int))) (y1 : Int) : Option (Sum (Unit) ((List Int) × Int)):=cond (decide (y1 < (List.length a0 : Int))) (Ad (AA a0 y1) fun e5 => Ad (A8 e5) fun v7 => cond (!v7) (some (.inr (([] : List Int),0))) (cond (decide (e5.1 < 0)) (some (.inr (([] : List Int),0))) (rec (IntKind.i64.wrap (y1 + 1))))) (some (.inl ()))
def BH (a0 : List Br) (rec : (Int × Int) -> Option (Sum (Int) ((List Int) × Int))) (s : Int × Int) : Option (Sum (Int) ((List Int) × Int)):=match s with
  | (y2,y3) => cond (decide (y3 < (List.length a0 : Int))) (Ad (AA a0 y3) fun e16 => Ad (JS y2 e16.2) fun v18 => chk (v18 ≠ 0) (cond (decide (1000 < (IntKind.i64.wrap ((IntKind.i64.wrap (Int.tdiv y2 v18)) * e16.2)))) (some (.inr (([] : List Int),0))) (rec ((IntKind.i64.wrap ((IntKind.i64.wrap (Int.tdiv y2 v18)) * e16.2)),(IntKind.i64.wrap (y3 + 1)))))) (some (.inl y2))
def D4 (a0 : List Br) (z12 : Int) (rec : ((List Int) × Int) -> Option ((List Int))) (s : (List Int) × Int) : Option ((List Int)):=match s with
  | (y4,y5) => cond (decide (y5 < (List.length a0 : Int))) (Ad (AA a0 y5) fun e27 => chk (e27.2 ≠ 0) (chk (List.length y4 + List.length [IntKind.i64.wrap (e27.1 * (IntKind.i64.wrap (Int.tdiv z12 e27.2)))] <= lim) (rec ((y4 ++ [IntKind.i64.wrap (e27.1 * (IntKind.i64.wrap (Int.tdiv z12 e27.2)))]),(IntKind.i64.wrap (y5 + 1)))))) (some y4)
def DU (a0 : List Br) : Option ((List Int) × Int):=Ad (Ah (D3 a0) fz 0) fun o1 => (match o1 with
  | .inl _ => (Ad (Ah (BH a0) fz (1,0)) fun o2 => (match o2 with
  | .inl z12 => (Ad (Ah (D4 a0 z12) fz (([] : List Int),0)) fun z23 => some (z23,z12))
  | .inr r => some r))
  | .inr r => some r)
theorem Kd {a0 : List Br} {r : (List Int) × Int} (h : DU a0 = some r) : Ag Tryz.prog 141 [dL A4 a0] (.tup [oL 3 Ak r.1,nI r.2]):=by
 unfold DU at h
 refine st ct rfl (rn 2 rfl (Ac fun K1 hK1 => rn 1 rfl ?_))
 obtain ⟨o1,hl,hr1⟩:=Aa h
 have kXB1 : (.inl ()) = o1 -> Jn K1 [(0,dL A4 a0),(4,nI 1)]:=by
  intro h σ' hk
  subst h
  replace h:=hr1
  try dsimp only at h
  refine hK1 _ (lh hk rfl (Ac fun K11 hK11 => rn 1 rfl ?_))
  obtain ⟨o2,hl,hr2⟩:=Aa h
  have kXB2 : ∀ {z12 : Int},(.inl z12) = o2 -> Jn K11 [(0,dL A4 a0),(4,nI z12)]:=by
   intro z12 h σ' hk
   subst h
   replace h:=hr2
   try dsimp only at h
   refine hK11 _ (lh hk rfl (rn 1 rfl (Ac fun K22 hK22 => rn 1 rfl ?_)))
   obtain ⟨o3,hl,hr3⟩:=Aa h
   have kXB3 : ∀ {z23 : List Int},z23 = o3 -> Jn K22 [(4,nI z12),(9,oL 3 Ak z23)]:=by
    intro z23 h σ' hk
    subst h
    replace h:=hr3
    try dsimp only at h
    exact hK22 _ (lh hk rfl (rn 1 rfl (Af ((by cases h; exact ⟨.inl rfl,rfl⟩)))))
   refine Aq (fun (s : (List Int) × Int) => match s with | (y4,y5) => [(4,nI z12),(9,oL 3 Ak y4),(45,dL A4 a0),(46,nI (List.length a0 : Int)),(47,nI y5)]) _ _ _ _ hl (okr rfl) (fun _ => rfl) ?_
   rintro m ⟨y4,y5⟩ N h hN
   unfold D4 at h
   dsimp only at h
   refine rn 1 rfl (Ac fun K24 hK24 => ?_)
   rcases Ab h with ⟨g25,h⟩ | ⟨g25,h⟩
   ·refine qT rfl g25 (Ae (hK24 _ (Ac fun K26 hK26 => Ap (rs ?_))))
    obtain ⟨e27,g28,h⟩:=Aa h
    refine qI rfl FC g28 (sp 3 rfl (evn (rgd (by kernel_rfl) (sd 6 rfl (?_)))))
    obtain ⟨g29,h⟩:=An h
    refine ed rfl (qB rfl ⟨rfl,g29⟩ rfl (sd 1 rfl (ed rfl (qBs Ak [IntKind.i64.wrap (e27.1 * (IntKind.i64.wrap (Int.tdiv z12 e27.2)))] rfl rfl rfl Ao (?_)))))
    obtain ⟨g30,h⟩:=An h
    exact ed rfl (qA Ak y4 [IntKind.i64.wrap (e27.1 * (IntKind.i64.wrap (Int.tdiv z12 e27.2)))] rfl rfl (AE Ao [IntKind.i64.wrap (e27.1 * (IntKind.i64.wrap (Int.tdiv z12 e27.2)))]) rfl g30 (sd 1 rfl (Ea (hK26 _ (rg (sp 2 rfl (evn (hN _ _ h (okr rfl)))))))))
   ·exact qF rfl g25 (Aj (kXB3 (Option.some.inj h) _ (okr rfl)))
  refine Aq (fun (s : Int × Int) => match s with | (y2,y3) => [(0,dL A4 a0),(4,nI y2),(27,dL A4 a0),(28,nI (List.length a0 : Int)),(29,nI y3)]) _ _ _ _ hl (okr rfl) (fun _ => rfl) ?_
  rintro m ⟨y2,y3⟩ N h hN
  unfold BH at h
  dsimp only at h
  refine rn 1 rfl (Ac fun K13 hK13 => ?_)
  rcases Ab h with ⟨g14,h⟩ | ⟨g14,h⟩
  ·refine qT rfl g14 (Ae (hK13 _ (Ac fun K15 hK15 => Ap (rs ?_))))
   obtain ⟨e16,g17,h⟩:=Aa h
   refine qI rfl FC g17 (sp 3 rfl (evn (rd (by kernel_rfl) (sd 4 rfl (?_)))))
   obtain ⟨v18,g19,h⟩:=Aa h
   refine ed rfl (qC (qs rfl (qs rfl Aw)) (Mu g19) (?_))
   obtain ⟨g20,h⟩:=An h
   refine ed rfl (qB rfl ⟨rfl,g20⟩ rfl (sd 4 rfl (Ea (rn 1 rfl ?_))))
   rcases Ab h with ⟨g21,h⟩ | ⟨g21,h⟩
   ·exact qT rfl g21 (rn 1 rfl (Af ((by cases h; cases hr2; exact ⟨.inl rfl,rfl⟩))))
   ·exact qF rfl g21 (Ae (hK15 _ (qk [0,4,27,28,29] rfl (rg (sp 2 rfl (evn (hN _ _ h (okr rfl))))))))
  ·exact qF rfl g14 (Aj (kXB2 (Option.some.inj h) _ (okr rfl)))
 refine Aq (fun (y1 : Int) => [(0,dL A4 a0),(4,nI 1),(12,dL A4 a0),(13,nI (List.length a0 : Int)),(14,nI y1)]) _ _ _ _ hl (okr rfl) (fun _ => rfl) ?_
 rintro m y1 N h hN
 unfold D3 at h
 refine rn 1 rfl (Ac fun K2 hK2 => ?_)
 rcases Ab h with ⟨g3,h⟩ | ⟨g3,h⟩
 ·refine qT rfl g3 (Ae (hK2 _ (Ac fun K4 hK4 => Ap (rs ?_))))
  obtain ⟨e5,g6,h⟩:=Aa h
  refine qI rfl FC g6 (sp 3 rfl (evn (rs (sp 1 rfl (?_)))))
  obtain ⟨v7,g8,h⟩:=Aa h
  refine qC (qa rfl (erg (erc rfl (erc rfl rfl))) Aw) (C4 g8) (sp 2 rfl (?_))
  rcases Ab h with ⟨g9,h⟩ | ⟨g9,h⟩
  ·exact qg 21 g9 rfl (sp 4 rfl (evn (qT rfl rfl (rn 1 rfl (Af ((by cases h; cases hr1; exact ⟨.inl rfl,rfl⟩)))))))
  ·refine qg 21 g9 rfl (sp 4 rfl (evn ?_))
   rcases Ab h with ⟨g10,h⟩ | ⟨g10,h⟩
   ·exact qT rfl g10 (rn 1 rfl (qk [2,3] rfl (Af ((by cases h; cases hr1; exact ⟨.inl rfl,rfl⟩)))))
   ·exact qF rfl g10 (Ae (hK4 _ (rg (sp 2 rfl (evn (hN _ _ h (okr rfl)))))))
 ·exact qF rfl g3 (Aj (kXB1 (Option.some.inj h) _ (okr rfl)))
def ER (a0 : List Int) (rec : Int -> Option (Sum (Unit) (Bool))) (y1 : Int) : Option (Sum (Unit) (Bool)):=cond (decide (y1 < (List.length a0 : Int))) (Ad (AA a0 y1) fun e5 => Ad (A2 e5 0 9) fun v7 => cond (!v7) (some (.inr false)) (rec (IntKind.i64.wrap (y1 + 1)))) (some (.inl ()))
def DC (x11 : Bool) : Option (Bool):=some x11
def BZ (a0 : List Int) : Option (Bool):=Ad (Ah (ER a0) fz 0) fun o1 => (match o1 with
  | .inl _ => (cond (decide ((List.length a0 : Int) <= 60)) (cond ((List.length a0 : Int) == 0) (DC true) (Ad (AA a0 (IntKind.i64.wrap ((List.length a0 : Int) - 1))) fun e14 => DC (e14 != 0))) (DC false))
  | .inr r => some r)
theorem Fc {a0 : List Int} {r : Bool} (h : BZ a0 = some r) : Ag Tryz.prog 163 [.agg [dL Ak a0]] (.bool r):=by
 unfold BZ at h
 refine st cP rfl (rn 2 rfl (Ac fun K1 hK1 => rn 1 rfl ?_))
 obtain ⟨o1,hl,hr1⟩:=Aa h
 have kXB1 : (.inl ()) = o1 -> Jn K1 [(1,.box [dL Ak a0]),(3,nI (List.length a0 : Int))]:=by
  intro h σ' hk
  subst h
  replace h:=hr1
  try dsimp only at h
  refine hK1 _ (lh hk rfl (rk fun K10 hK10 => ?_))
  have kJ2 : ∀ {x11 : Bool},DC x11 = some r -> Jn K10 [(2,.bool x11)]:=by
   intro x11 h σ' hk
   unfold DC at h
   exact hK10 _ (lh hk rfl (Af ((by cases h; exact ⟨.inl rfl,rfl⟩))))
  refine sp 3 rfl (?_)
  rcases Ab h with ⟨g12,h⟩ | ⟨g12,h⟩
  ·refine qg 22 g12 rfl (sp 3 rfl (?_))
   rcases Ab h with ⟨g13,h⟩ | ⟨g13,h⟩
   ·exact qg 25 g13 rfl (sp 10 rfl (evn (kJ2 h _ (okr rfl))))
   ·refine qg 25 g13 rfl (sp 4 rfl (?_))
    obtain ⟨e14,g15,h⟩:=Aa h
    exact oGR rfl rfl (qI rfl Ao g15 (sp 5 rfl (evn (kJ2 h _ (okr rfl)))))
  ·exact qg 22 g12 rfl (sp 13 rfl (evn (kJ2 h _ (okr rfl))))
 refine Aq (fun (y1 : Int) => [(1,.box [dL Ak a0]),(3,nI (List.length a0 : Int)),(10,dL Ak a0),(11,nI (List.length a0 : Int)),(12,nI y1)]) _ _ _ _ hl (okr rfl) (fun _ => rfl) ?_
 rintro m y1 N h hN
 unfold ER at h
 refine rn 1 rfl (Ac fun K2 hK2 => ?_)
 rcases Ab h with ⟨g3,h⟩ | ⟨g3,h⟩
 ·refine qT rfl g3 (Ae (hK2 _ (Ac fun K4 hK4 => Ap (rs ?_))))
  obtain ⟨e5,g6,h⟩:=Aa h
  refine qI rfl Ao g6 (sp 2 rfl (evn (rs (sp 1 rfl (?_)))))
  obtain ⟨v7,g8,h⟩:=Aa h
  refine qC (qs rfl (qs rfl (qs rfl Aw))) (AZ g8) (sp 1 rfl (evn ?_))
  rcases Ab h with ⟨g9,h⟩ | ⟨g9,h⟩
  ·exact qT rfl g9 (rn 1 rfl (Af ((by cases h; cases hr1; exact ⟨.inl rfl,rfl⟩))))
  ·exact qF rfl g9 (Ae (hK4 _ (rg (sp 2 rfl (evn (hN _ _ h (okr rfl)))))))
 ·exact qF rfl g3 (Aj (kXB1 (Option.some.inj h) _ (okr rfl)))
def Fm (rec : ((List Int) × Int × Int) -> Option ((List Int))) (y1 : List Int) (y3 : Int) (x9 : Int) : Option ((List Int)):=chk (List.length y1 + List.length [Int.tmod x9 10] <= lim) (rec ((y1 ++ [Int.tmod x9 10]),(IntKind.i64.wrap (Int.tdiv x9 10)),(IntKind.i64.wrap (y3 + 1))))
def Fl (rec : ((List Int) × Int × Int) -> Option ((List Int))) (a0 : List Int) (y1 : List Int) (y2 : Int) (y3 : Int) (x5 : Bool) : Option ((List Int)):=cond x5 (cond (decide (y3 < (List.length a0 : Int))) (Ad (AA a0 y3) fun e12 => Fm rec y1 y3 (IntKind.i64.wrap (y2 + e12))) (Fm rec y1 y3 y2)) (some y1)
def Ex (a0 : List Int) (rec : ((List Int) × Int × Int) -> Option ((List Int))) (s : (List Int) × Int × Int) : Option ((List Int)):=match s with
  | (y1,y2,y3) => cond (decide (y3 < (List.length a0 : Int))) (Fl rec a0 y1 y2 y3 true) (Fl rec a0 y1 y2 y3 (decide (0 < y2)))
def Ge (z2 : List Int) (rec : Int -> Option (Int)) (y4 : Int) : Option (Int):=cond (decide (0 < y4)) (Ad (AA z2 (IntKind.i64.wrap (y4 - 1))) fun e19 => cond (e19 == 0) (rec (IntKind.i64.wrap (y4 - 1))) (some y4)) (some y4)
def HU (a0 : List Int) : Option ((List Int) × Bool):=Ad (Ah (Ex a0) fz (([] : List Int),0,0)) fun z2 => Ad (Ah (Ge z2) fz (List.length z2 : Int)) fun z16 => chk ((0 : Int) <= 0 ∧ 0 <= z16 ∧ z16 <= (List.length z2 : Int)) (cond (decide (60 < z16)) (some ([],false)) (some (Cq z2 0 z16,true)))
theorem OE {a0 : List Int} {r : (List Int) × Bool} (h : HU a0 = some r) : Ag Tryz.prog 164 [dL Ak a0] (.tup [.agg [dL Ak r.1],.bool r.2]):=by
 unfold HU at h
 refine st cQ rfl (rn 3 rfl (Ac fun K1 hK1 => rn 1 rfl ?_))
 obtain ⟨o1,hl,hr1⟩:=Aa h
 have kXB1 : ∀ {z2 : List Int},z2 = o1 -> Jn K1 [(2,.box [oL 3 Ak []]),(4,.box [oL 3 Ak z2])]:=by
  intro z2 h σ' hk
  subst h
  replace h:=hr1
  try dsimp only at h
  refine hK1 _ (lh hk rfl (rn 1 rfl (Ac fun K15 hK15 => ?_)))
  obtain ⟨o4,hl,hr4⟩:=Aa h
  have kXB4 : ∀ {z16 : Int},z16 = o4 -> Jn K15 [(2,.box [oL 3 Ak []]),(4,.box [oL 3 Ak z2]),(7,nI z16)]:=by
   intro z16 h σ' hk
   subst h
   replace h:=hr4
   try dsimp only at h
   refine hK15 _ (lh hk rfl (rs (sp 3 rfl (?_))))
   obtain ⟨g22,h⟩:=An h
   refine qSl rfl Ao g22 (sp 2 rfl (evn (Ac fun K23 hK23 => rn 1 rfl ?_)))
   rcases Ab h with ⟨g24,h⟩ | ⟨g24,h⟩
   ·exact qT rfl g24 (rn 1 rfl (Ez [(2,.box [dL Ak []]),(3,.bool false)] ⟨(kb (cwe rfl rfl cwn)),kr,trivial⟩ rfl (Af ((by cases h; exact ⟨.inl rfl,rfl⟩)))))
   ·exact qF rfl g24 (Ae (hK23 _ (rn 1 rfl (Af ((by cases h; exact ⟨.inl rfl,rfl⟩))))))
  refine Aq (fun (y4 : Int) => [(2,.box [oL 3 Ak []]),(4,.box [oL 3 Ak z2]),(7,nI y4)]) _ _ _ _ hl (okr rfl) (fun _ => rfl) ?_
  rintro m y4 N h hN
  unfold Ge at h
  refine Ac fun K17 hK17 => rs (sp 3 rfl (?_))
  rcases Ab h with ⟨g18,h⟩ | ⟨g18,h⟩
  ·refine qg 42 g18 rfl (sp 4 rfl (?_))
   obtain ⟨e19,g20,h⟩:=Aa h
   refine oGR rfl rfl (qI rfl Ao g20 (sp 3 rfl (evn ?_)))
   rcases Ab h with ⟨g21,h⟩ | ⟨g21,h⟩
   ·exact qT rfl g21 (Ae (hK17 _ (Ap (rg (sp 3 rfl (evn (hN _ _ h (okr rfl))))))))
   ·exact qF rfl g21 (Aj (kXB4 (Option.some.inj h) _ (okr rfl)))
  ·exact qg 42 g18 rfl (sp 8 rfl (evn (qF rfl rfl (Aj (kXB4 (Option.some.inj h) _ (okr rfl))))))
 refine Aq (fun (s : (List Int) × Int × Int) => match s with | (y1,y2,y3) => [(0,dL Ak a0),(2,.box [oL 3 Ak []]),(4,.box [oL 3 Ak y1]),(5,nI y2),(6,nI y3)]) _ _ _ _ hl (okr rfl) (fun _ => rfl) ?_
 rintro m ⟨y1,y2,y3⟩ N h hN
 unfold Ex at h
 dsimp only at h
 refine Ac fun K3 hK3 => rk fun K4 hK4 => ?_
 have kJ2 : ∀ {x5 : Bool},Fl (Ah (Ex a0) m) a0 y1 y2 y3 x5 = some o1 -> Jn K4 [(0,dL Ak a0),(2,.box [oL 3 Ak []]),(4,.box [oL 3 Ak y1]),(5,nI y2),(6,nI y3),(15,.bool x5)]:=by
  intro x5 h σ' hk
  unfold Fl at h
  refine hK4 _ (lh hk rfl ?_)
  rcases Ab h with ⟨g6,h⟩ | ⟨g6,h⟩
  ·refine qT rfl g6 (Ae (hK3 _ (Ac fun K7 hK7 => Ap (Ac fun K8 hK8 => rn 1 rfl ?_))))
   have kJ3 : ∀ {x9 : Int},Fm (Ah (Ex a0) m) y1 y3 x9 = some o1 -> Jn K8 [(0,dL Ak a0),(2,.box [oL 3 Ak []]),(4,.box [oL 3 Ak y1]),(5,nI x9),(6,nI y3)]:=by
    intro x9 h σ' hk
    unfold Fm at h
    refine hK8 _ (lh hk rfl (rs (sp 4 rfl (qBs Ak [Int.tmod x9 10] rfl rfl rfl Ao (?_)))))
    obtain ⟨g10,h⟩:=An h
    exact qA Ak y1 [Int.tmod x9 10] rfl rfl (AE Ao [Int.tmod x9 10]) rfl g10 (sp 2 rfl (evn (rg (sp 3 rfl (evn (hK7 _ (rg (sp 3 rfl (evn (hN _ _ h (okr rfl)))))))))))
   rcases Ab h with ⟨g11,h⟩ | ⟨g11,h⟩
   ·refine qT rfl g11 (rg (sp 3 rfl (?_)))
    obtain ⟨e12,g13,h⟩:=Aa h
    exact qI rfl Ao g13 (sp 3 rfl (evn (kJ3 h _ (okr rfl))))
   ·exact qF rfl g11 (Ae (kJ3 h _ (okr rfl)))
  ·exact qF rfl g6 (Aj (kXB1 (Option.some.inj h) _ (okr rfl)))
 refine sp 5 rfl (?_)
 rcases Ab h with ⟨g14,h⟩ | ⟨g14,h⟩
 ·exact qg 12 g14 rfl (sp 3 rfl (evn (kJ2 h _ (okr rfl))))
 ·exact qg 12 g14 rfl (sp 3 rfl (evn (kJ2 h _ (okr rfl))))
def Ee (a1 : List Int) (y4 : Int) (e14 : Int) (rec : ((List Int) × Int) -> Option ((List Int))) (s : (List Int) × Int) : Option ((List Int)):=match s with
  | (y7,y8) => cond (decide (y8 < (List.length a1 : Int))) (Ad (AA a1 y8) fun e20 => Ad (AA y7 (IntKind.i64.wrap (y4 + y8))) fun e22 => Ad (AA y7 (IntKind.i64.wrap (y4 + y8))) fun e24 => rec ((Ky y7 (IntKind.i64.wrap (y4 + y8)) (IntKind.i64.wrap (e22 + (IntKind.i64.wrap (e14 * e20))))),(IntKind.i64.wrap (y8 + 1)))) (some y7)
def Ed (a0 : List Int) (a1 : List Int) (rec : ((List Int) × Int) -> Option ((List Int))) (s : (List Int) × Int) : Option ((List Int)):=match s with
  | (y3,y4) => cond (decide (y4 < (List.length a0 : Int))) (Ad (AA a0 y4) fun e14 => Ad (Ah (Ee a1 y4 e14) fz (y3,0)) fun z16 => rec (z16,(IntKind.i64.wrap (y4 + 1)))) (some y3)
def E4 (a0 : List Int) (a1 : List Int) : Option ((List Int) × Bool):=Ad (BZ a0) fun v2 => cond (!v2) (some ([],false)) (Ad (BZ a1) fun v5 => cond (!v5) (some ([],false)) (chk ((0 : Int) <= IntKind.i64.wrap ((List.length a0 : Int) + (List.length a1 : Int)) ∧ Int.toNat (IntKind.i64.wrap ((List.length a0 : Int) + (List.length a1 : Int))) <= lim) (Ad (Ah (Ed a0 a1) fz ((List.replicate (Int.toNat (IntKind.i64.wrap ((List.length a0 : Int) + (List.length a1 : Int)))) (0 : Int)),0)) fun z10 => Ad (HU z10) fun v26 => some (v26.1,v26.2))))
theorem Ig {a0 : List Int} {a1 : List Int} {r : (List Int) × Bool} (h : E4 a0 a1 = some r) : Ag Tryz.prog 144 [.agg [dL Ak a0],.agg [dL Ak a1]] (.tup [.agg [dL Ak r.1],.bool r.2]):=by
 unfold E4 at h
 refine st cw rfl (rn 1 rfl (Ac fun K1 hK1 => rs (sp 1 rfl (?_))))
 obtain ⟨v2,g3,h⟩:=Aa h
 refine qC (qa rfl (erg (erc (erD Al _) rfl)) Aw) (Fc g3) (sp 2 rfl (?_))
 rcases Ab h with ⟨g4,h⟩ | ⟨g4,h⟩
 ·exact qg 14 g4 rfl (sp 4 rfl (evn (qT rfl rfl (rn 1 rfl (Ez [(4,.box [dL Ak []]),(5,.bool false)] ⟨(kb (cwe rfl rfl cwn)),kr,trivial⟩ rfl (Af ((by cases h; exact ⟨.inl rfl,rfl⟩))))))))
 ·refine qg 14 g4 rfl (sp 1 rfl (?_))
  obtain ⟨v5,g6,h⟩:=Aa h
  refine oGR rfl rfl (qC (qa rfl (erg (erc (erD Al _) rfl)) Aw) (Fc g6) (sp 2 rfl (evn ?_)))
  rcases Ab h with ⟨g7,h⟩ | ⟨g7,h⟩
  ·exact qT rfl g7 (rn 1 rfl (Ez [(4,.box [dL Ak []]),(5,.bool false)] ⟨(kb (cwe rfl rfl cwn)),kr,trivial⟩ rfl (Af ((by cases h; exact ⟨.inl rfl,rfl⟩)))))
  ·refine qF rfl g7 (Ae (hK1 _ (rs (sp 7 rfl (?_)))))
   obtain ⟨g8,h⟩:=An h
   refine qMu Ak (0 : Int) rfl rfl rfl rfl g8 rfl (qAu rfl rfl rfl rfl (evn (Ac fun K9 hK9 => rn 1 rfl ?_)))
   obtain ⟨o1,hl,hr1⟩:=Aa h
   have kXB1 : ∀ {z10 : List Int},z10 = o1 -> Jn K9 [(4,.box [oL 3 Ak []]),(6,wL 3 Ak z10)]:=by
    intro z10 h σ' hk
    subst h
    replace h:=hr1
    try dsimp only at h
    refine hK9 _ (lh hk rfl (rs (qTu rfl rfl rfl (?_))))
    obtain ⟨v26,g27,h⟩:=Aa h
    exact qC (qa rfl (erO Al _) Aw) (OE g27) (sp 4 rfl (evn (Af ((by cases h; exact ⟨.inl rfl,rfl⟩)))))
   refine Aq (fun (s : (List Int) × Int) => match s with | (y3,y4) => [(3,.box [dL Ak a1]),(4,.box [oL 3 Ak []]),(6,wL 3 Ak y3),(29,dL Ak a0),(30,nI (List.length a0 : Int)),(31,nI y4)]) _ _ _ _ hl (okr rfl) (fun _ => rfl) ?_
   rintro m ⟨y3,y4⟩ N h hN
   unfold Ed at h
   dsimp only at h
   refine rn 1 rfl (Ac fun K11 hK11 => ?_)
   rcases Ab h with ⟨g12,h⟩ | ⟨g12,h⟩
   ·refine qT rfl g12 (Ae (hK11 _ (Ac fun K13 hK13 => Ap (rs (sp 1 rfl (?_))))))
    obtain ⟨e14,g15,h⟩:=Aa h
    refine qI rfl Ao g15 (sp 3 rfl (evn (rn 1 rfl ?_)))
    obtain ⟨o2,hl,hr2⟩:=Aa h
    have kXB2 : ∀ {z16 : List Int},z16 = o2 -> Jn K13 [(3,.box [dL Ak a1]),(4,.box [oL 3 Ak []]),(6,wL 3 Ak z16),(29,dL Ak a0),(30,nI (List.length a0 : Int)),(31,nI y4)]:=by
     intro z16 h σ' hk
     subst h
     replace h:=hr2
     try dsimp only at h
     exact hK13 _ (lh hk rfl (rg (sp 2 rfl (evn (hN _ _ h (okr rfl))))))
    refine Aq (fun (s : (List Int) × Int) => match s with | (y7,y8) => [(3,.box [dL Ak a1]),(4,.box [oL 3 Ak []]),(6,wL 3 Ak y7),(7,nI y4),(8,nI e14),(29,dL Ak a0),(30,nI (List.length a0 : Int)),(31,nI y4),(37,dL Ak a1),(38,nI (List.length a1 : Int)),(39,nI y8)]) _ _ _ _ hl (okr rfl) (fun _ => rfl) ?_
    rintro m ⟨y7,y8⟩ N h hN
    unfold Ee at h
    dsimp only at h
    refine rn 1 rfl (Ac fun K17 hK17 => ?_)
    rcases Ab h with ⟨g18,h⟩ | ⟨g18,h⟩
    ·refine qT rfl g18 (Ae (hK17 _ (Ac fun K19 hK19 => Ap (rs (sp 1 rfl (?_))))))
     obtain ⟨e20,g21,h⟩:=Aa h
     refine qI rfl Ao g21 (sp 3 rfl (evn (rg (sp 4 rfl (?_)))))
     obtain ⟨e22,g23,h⟩:=Aa h
     refine qIu rfl ⟨(Am g23).1,(Am g23).2.1⟩ (qLu 0 rfl rfl rfl Ao g23 rfl rfl rfl (sp 4 rfl (?_)))
     obtain ⟨e24,g25,h⟩:=Aa h
     exact qIu rfl ⟨(Am g25).1,(Am g25).2.1⟩ (qSu (IntKind.i64.wrap (e22 + (IntKind.i64.wrap (e14 * e20)))) rfl rfl Ao ⟨(Am g25).1,(Am g25).2.1⟩ rfl rfl rfl rfl rfl rfl (evn (hK19 _ (rg (sp 2 rfl (evn (hN _ _ h (okr rfl))))))))
    ·exact qF rfl g18 (Aj (kXB2 (Option.some.inj h) _ (okr rfl)))
   ·exact qF rfl g12 (Aj (kXB1 (Option.some.inj h) _ (okr rfl)))
def F9  (rec : (Int × (List Int)) -> Option ((List Int))) (s : Int × (List Int)) : Option ((List Int)):=match s with
  | (y1,y2) => cond (decide (0 < y1)) (chk (List.length y2 + List.length [Int.tmod y1 10] <= lim) (rec ((IntKind.i64.wrap (Int.tdiv y1 10)),(y2 ++ [Int.tmod y1 10])))) (some y2)
def Ct (a0 : Int) : Option ((List Int)):=Ad (Ah F9 fz (a0,([] : List Int))) fun z2 => some z2
theorem GI {a0 : Int} {r : (List Int)} (h : Ct a0 = some r) : Ag Tryz.prog 162 [nI a0] (.agg [oL 3 Ak r]):=by
 unfold Ct at h
 refine st cO rfl (rn 2 rfl (Ac fun K1 hK1 => ?_))
 obtain ⟨o1,hl,hr1⟩:=Aa h
 have kXB1 : ∀ {z2 : List Int},z2 = o1 -> Jn K1 [(2,.box [oL 3 Ak []]),(3,.box [oL 3 Ak z2])]:=by
  intro z2 h σ' hk
  subst h
  replace h:=hr1
  try dsimp only at h
  exact hK1 _ (lh hk rfl (rn 1 rfl (Af ((by cases h; exact ⟨.inl rfl,rfl⟩)))))
 refine Aq (fun (s : Int × (List Int)) => match s with | (y1,y2) => [(0,nI y1),(2,.box [oL 3 Ak []]),(3,.box [oL 3 Ak y2])]) _ _ _ _ hl (okr rfl) (fun _ => rfl) ?_
 rintro m ⟨y1,y2⟩ N h hN
 unfold F9 at h
 dsimp only at h
 refine Ac fun K3 hK3 => rn 1 rfl ?_
 rcases Ab h with ⟨g4,h⟩ | ⟨g4,h⟩
 ·refine qT rfl g4 (Ae (hK3 _ (Ap (rs (sp 4 rfl (qBs Ak [Int.tmod y1 10] rfl rfl rfl Ao (?_)))))))
  obtain ⟨g5,h⟩:=An h
  exact qA Ak y2 [Int.tmod y1 10] rfl rfl (AE Ao [Int.tmod y1 10]) rfl g5 (sp 2 rfl (evn (rg (sp 3 rfl (evn (hN _ _ h (okr rfl)))))))
 ·exact qF rfl g4 (Aj (kXB1 (Option.some.inj h) _ (okr rfl)))
def Ef (a0 : Int) (a1 : Int) (rec : ((List Int) × Int) -> Option (Sum ((List Int)) ((List Int) × Bool))) (s : (List Int) × Int) : Option (Sum ((List Int)) ((List Int) × Bool)):=match s with
  | (y1,y2) => cond (decide (y2 < a1)) (Ad (Ct a0) fun v13 => Ad (E4 y1 v13) fun v15 => cond (!v15.2) (some (.inr ([],false))) (rec (v15.1,(IntKind.i64.wrap (y2 + 1))))) (some (.inl y1))
def E5 (a0 : Int) (a1 : Int) : Option ((List Int) × Bool):=cond (decide (a0 < 0)) (some ([],false)) (Ad (A2 a1 0 100) fun v3 => cond (!v3) (some ([],false)) (Ad (Ct 1) fun v6 => Ad (Ah (Ef a0 a1) fz (v6,0)) fun o1 => (match o1 with
  | .inl z9 => (some (z9,true))
  | .inr r => some r)))
theorem Ih {a0 : Int} {a1 : Int} {r : (List Int) × Bool} (h : E5 a0 a1 = some r) : Ag Tryz.prog 142 [nI a0,nI a1] (.tup [.agg [dL Ak r.1],.bool r.2]):=by
 unfold E5 at h
 refine st cu rfl (rn 1 rfl (Ac fun K1 hK1 => rs (sp 3 rfl (?_))))
 rcases Ab h with ⟨g2,h⟩ | ⟨g2,h⟩
 ·exact qg 12 g2 rfl (sp 4 rfl (evn (qT rfl rfl (rn 1 rfl (Ez [(4,.box [dL Ak []]),(5,.bool false)] ⟨(kb (cwe rfl rfl cwn)),kr,trivial⟩ rfl (Af ((by cases h; exact ⟨.inl rfl,rfl⟩))))))))
 ·refine qg 12 g2 rfl (sp 1 rfl (?_))
  obtain ⟨v3,g4,h⟩:=Aa h
  refine oGR rfl rfl (qC (qs rfl (qs rfl (qs rfl Aw))) (AZ g4) (sp 2 rfl (evn ?_)))
  rcases Ab h with ⟨g5,h⟩ | ⟨g5,h⟩
  ·exact qT rfl g5 (rn 1 rfl (Ez [(4,.box [dL Ak []]),(5,.bool false)] ⟨(kb (cwe rfl rfl cwn)),kr,trivial⟩ rfl (Af ((by cases h; exact ⟨.inl rfl,rfl⟩)))))
  ·refine qF rfl g5 (Ae (hK1 _ (rs ?_)))
   obtain ⟨v6,g7,h⟩:=Aa h
   refine qC (qs rfl Aw) (GI g7) (sp 2 rfl (evn (Ac fun K8 hK8 => rn 1 rfl ?_)))
   obtain ⟨o1,hl,hr1⟩:=Aa h
   have kXB1 : ∀ {z9 : List Int},(.inl z9) = o1 -> Jn K8 [(4,.box [oL 3 Ak []]),(6,.box [dL Ak z9])]:=by
    intro z9 h σ' hk
    subst h
    replace h:=hr1
    try dsimp only at h
    exact hK8 _ (lh hk rfl (rn 1 rfl (Af ((by cases h; exact ⟨.inl rfl,rfl⟩)))))
   refine Aq (fun (s : (List Int) × Int) => match s with | (y1,y2) => [(0,nI a0),(1,nI a1),(4,.box [oL 3 Ak []]),(6,.box [dL Ak y1]),(7,nI y2)]) _ _ _ _ hl ⟨kr,kr,kr,(kb (cwd rfl rfl cwn)),kr,trivial⟩ (fun _ => rfl) ?_
   rintro m ⟨y1,y2⟩ N h hN
   unfold Ef at h
   dsimp only at h
   refine Ac fun K10 hK10 => rn 1 rfl ?_
   rcases Ab h with ⟨g11,h⟩ | ⟨g11,h⟩
   ·refine qT rfl g11 (Ae (hK10 _ (Ac fun K12 hK12 => Ap (rd (by kernel_rfl) (sd 2 rfl (?_))))))
    obtain ⟨v13,g14,h⟩:=Aa h
    refine ed rfl (qC (qs rfl Aw) (GI g14) (?_))
    obtain ⟨v15,g16,h⟩:=Aa h
    refine ed rfl (qC (qa rfl (erg (erc (erD Al _) rfl)) (qa rfl (erg (erc (erO Al _) rfl)) Aw)) (Ig g16) (sd 6 rfl (Ea (Ac fun K17 hK17 => rn 1 rfl ?_))))
    rcases Ab h with ⟨g18,h⟩ | ⟨g18,h⟩
    ·exact qT rfl g18 (rn 1 rfl (Ez [(4,.box [dL Ak []]),(5,.bool false)] ⟨(kb (cwe rfl rfl cwn)),kr,trivial⟩ rfl (Af ((by cases h; cases hr1; exact ⟨.inl rfl,rfl⟩)))))
    ·exact qF rfl g18 (Ae (hK17 _ (rg (sp 2 rfl (evn (hK12 _ (rg (sp 3 rfl (evn (hN _ _ h (okr rfl)))))))))))
   ·exact qF rfl g11 (Aj (kXB1 (Option.some.inj h) _ (okr rfl)))
def BG (a0 : List Int) (a1 : List Int) (rec : ((List Int) × Int) -> Option (Sum ((List Int)) ((List Int) × Bool))) (s : (List Int) × Int) : Option (Sum ((List Int)) ((List Int) × Bool)):=match s with
  | (y1,y2) => cond (decide (y2 < (List.length a0 : Int))) (Ad (AA a0 y2) fun e10 => Ad (AA a1 y2) fun e12 => Ad (E5 e10 e12) fun v14 => Ad (E4 y1 v14.1) fun v16 => cond (!v14.2) (some (.inr ([],false))) (cond (!v16.2) (some (.inr ([],false))) (rec (v16.1,(IntKind.i64.wrap (y2 + 1)))))) (some (.inl y1))
def DT (a0 : List Int) (a1 : List Int) : Option ((List Int) × Bool):=cond ((List.length a0 : Int) != (List.length a1 : Int)) (some ([],false)) (Ad (Ct 1) fun v3 => Ad (Ah (BG a0 a1) fz (v3,0)) fun o1 => (match o1 with
  | .inl z6 => (some (z6,true))
  | .inr r => some r))
theorem Kc {a0 : List Int} {a1 : List Int} {r : (List Int) × Bool} (h : DT a0 a1 = some r) : Ag Tryz.prog 143 [dL Ak a0,dL Ak a1] (.tup [.agg [dL Ak r.1],.bool r.2]):=by
 unfold DT at h
 refine st cv rfl (rn 1 rfl (Ac fun K1 hK1 => rn 1 rfl ?_))
 rcases Ab h with ⟨g2,h⟩ | ⟨g2,h⟩
 ·exact qT rfl g2 (rn 1 rfl (Ez [(4,.box [dL Ak []]),(5,.bool false)] ⟨(kb (cwe rfl rfl cwn)),kr,trivial⟩ rfl (Af ((by cases h; exact ⟨.inl rfl,rfl⟩)))))
 ·refine qF rfl g2 (Ae (hK1 _ (rs ?_)))
  obtain ⟨v3,g4,h⟩:=Aa h
  refine qC (qs rfl Aw) (GI g4) (sp 2 rfl (evn (Ac fun K5 hK5 => rn 1 rfl ?_)))
  obtain ⟨o1,hl,hr1⟩:=Aa h
  have kXB1 : ∀ {z6 : List Int},(.inl z6) = o1 -> Jn K5 [(4,.box [oL 3 Ak []]),(6,.box [dL Ak z6])]:=by
   intro z6 h σ' hk
   subst h
   replace h:=hr1
   try dsimp only at h
   exact hK5 _ (lh hk rfl (rn 1 rfl (Af ((by cases h; exact ⟨.inl rfl,rfl⟩)))))
  refine Aq (fun (s : (List Int) × Int) => match s with | (y1,y2) => [(0,dL Ak a0),(1,dL Ak a1),(4,.box [oL 3 Ak []]),(6,.box [dL Ak y1]),(20,nI (List.length a0 : Int)),(21,nI y2)]) _ _ _ _ hl ⟨kr,kr,kr,(kb (cwd rfl rfl cwn)),kr,kr,trivial⟩ (fun _ => rfl) ?_
  rintro m ⟨y1,y2⟩ N h hN
  unfold BG at h
  dsimp only at h
  refine rn 1 rfl (Ac fun K7 hK7 => ?_)
  rcases Ab h with ⟨g8,h⟩ | ⟨g8,h⟩
  ·refine qT rfl g8 (Ae (hK7 _ (Ac fun K9 hK9 => Ap (rn 1 rfl (rd (by kernel_rfl) (sd 2 rfl (?_)))))))
   obtain ⟨e10,g11,h⟩:=Aa h
   refine ed rfl (qI rfl Ao g11 (sd 3 rfl (?_)))
   obtain ⟨e12,g13,h⟩:=Aa h
   refine ed rfl (qI rfl Ao g13 (sd 1 rfl (?_)))
   obtain ⟨v14,g15,h⟩:=Aa h
   refine ed rfl (qC (qs rfl (qs rfl Aw)) (Ih g15) (sd 6 rfl (Ea (rs (sp 2 rfl (?_))))))
   obtain ⟨v16,g17,h⟩:=Aa h
   refine qC (qa rfl (erg (erc (erD Al _) rfl)) (qa rfl (erg (erc (erD Al _) rfl)) Aw)) (Ig g17) (sp 6 rfl (evn (qk [0,1,4,6,9,10,11,20,21] rfl (Ac fun K18 hK18 => rs (sp 3 rfl (?_))))))
   rcases Ab h with ⟨g19,h⟩ | ⟨g19,h⟩
   ·exact qg 44 g19 rfl (sp 3 rfl (evn (qT rfl rfl (rn 1 rfl (Ez [(4,.box [dL Ak []]),(5,.bool false)] ⟨(kb (cwe rfl rfl cwn)),kr,trivial⟩ rfl (Af ((by cases h; cases hr1; exact ⟨.inl rfl,rfl⟩))))))))
   ·refine qg 44 g19 rfl (sp 3 rfl (evn ?_))
    rcases Ab h with ⟨g20,h⟩ | ⟨g20,h⟩
    ·exact qT rfl g20 (rn 1 rfl (Ez [(4,.box [dL Ak []]),(5,.bool false)] ⟨(kb (cwe rfl rfl cwn)),kr,trivial⟩ rfl (Af ((by cases h; cases hr1; exact ⟨.inl rfl,rfl⟩)))))
    ·exact qF rfl g20 (Ae (hK18 _ (rg (sp 2 rfl (evn (hK9 _ (rg (sp 2 rfl (evn (hN _ _ h (okr rfl)))))))))))
  ·exact qF rfl g8 (Aj (kXB1 (Option.some.inj h) _ (okr rfl)))
end Go.Proofs.YtkclaipnejgloaaGreatDoor
