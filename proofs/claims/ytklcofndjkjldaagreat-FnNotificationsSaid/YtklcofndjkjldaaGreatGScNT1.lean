/-
  Functions of the program as typed functions, printed by gen.py, and that the program's functions do what they say. No conditions.
-/
import Derived.Test.YtklcofndjkjldaaGreatGSbNT1
namespace Go.Proofs.YtklcofndjkjldaaGreat
open Go.RowKit
set_option linter.unusedVariables false
set_option maxRecDepth 100000
set_option maxHeartbeats 1000000
def GY (a0 : List (List Int)) (rec : ((List (List Int)) × Int) -> Option ((List (List Int)))) (s : (List (List Int)) × Int) : Option ((List (List Int))):=match s with
  | (y1,y2) => cond (decide (y2 < (List.length a0 : Int))) (Ad (AK a0 y2) fun e6 => Ad (A8 e6) fun v8 => chk (List.length y1 + List.length [v8] <= lim) (rec ((y1 ++ [v8]),(IntKind.i64.wrap (y2 + 1))))) (some y1)
def CU (a0 : List (List Int)) : Option ((List (List Int))):=Ad (Al (GY a0) fz (([] : List (List Int)),0)) fun z2 => some z2
theorem E5 {a0 : List (List Int)} {r : (List (List Int))} (h : CU a0 = some r) : Ai Tryz.prog 102 [dL AG a0] (oL 42 Ag r):=by
 unfold CU at h
 refine st aD rfl (rn 2 rfl (Ac fun K1 hK1 => rn 1 rfl ?_))
 obtain ⟨o1,hl,hr1⟩:=Aa h
 have kXB1 : ∀ {z2 : List (List Int)},z2 = o1 -> Jn K1 [(3,oL 42 Ag z2)]:=by
  intro z2 h σ' hk
  subst h
  replace h:=hr1
  try dsimp only at h
  exact hK1 _ (lh hk rfl (rn 1 rfl (Af ((by cases h; exact ⟨.inl rfl,rfl⟩)))))
 refine Ax (fun (s : (List (List Int)) × Int) => match s with | (y1,y2) => [(3,oL 42 Ag y1),(6,dL AG a0),(7,nI (List.length a0 : Int)),(8,nI y2)]) _ _ _ _ hl (okr rfl) (fun _ => rfl) ?_
 rintro m ⟨y1,y2⟩ N h hN
 unfold GY at h
 dsimp only at h
 refine rn 1 rfl (Ac fun K3 hK3 => ?_)
 rcases Ab h with ⟨g4,h⟩ | ⟨g4,h⟩
 ·refine qT rfl g4 (Ae (hK3 _ (Ac fun K5 hK5 => Au (rs ?_))))
  obtain ⟨e6,g7,h⟩:=Aa h
  refine qI rfl Bv g7 (sp 2 rfl (evn (rg (sp 2 rfl (?_)))))
  obtain ⟨v8,g9,h⟩:=Aa h
  refine qC (qa rfl (erD Am _) Ar) (By g9) (qBs Ag [v8] rfl rfl rfl AW (?_))
  obtain ⟨g10,h⟩:=Ah h
  exact qA Ag y1 [v8] rfl rfl (Ap AW [v8]) rfl g10 (sp 1 rfl (evn (hK5 _ (rg (sp 2 rfl (evn (hN _ _ h (okr rfl))))))))
 ·exact qF rfl g4 (An (kXB1 (Option.some.inj h) _ (okr rfl)))
def EM (rec : ((List (Nat × (List Int))) × (List (Nat × (List Int))) × (List (Nat × (List Int)))) -> Option ((List (Nat × (List Int))))) (y2 : List (Nat × (List Int))) (x20 : List (Nat × (List Int))) (x24 : List (Nat × (List Int))) : Option ((List (Nat × (List Int)))):=chk ((0 : Int) <= 1 ∧ 1 <= (List.length y2 : Int) ∧ (List.length y2 : Int) <= (List.length y2 : Int)) (rec (x20,(BX y2 1 (List.length y2 : Int)),x24))
def CX (rec : ((List (Nat × (List Int))) × (List (Nat × (List Int))) × (List (Nat × (List Int)))) -> Option ((List (Nat × (List Int))))) (y2 : List (Nat × (List Int))) (x18 : Int) (x20 : List (Nat × (List Int))) (x21 : List (Nat × (List Int))) : Option ((List (Nat × (List Int)))):=cond (decide (0 <= x18)) (cond (decide (0 < x18)) (Ad (AK y2 0) fun e27 => chk (List.length x21 + List.length [e27] <= lim) (EM rec y2 x20 (x21 ++ [e27]))) (EM rec y2 x20 x21)) (rec (x20,y2,x21))
def Ch (rec : ((List (Nat × (List Int))) × (List (Nat × (List Int))) × (List (Nat × (List Int)))) -> Option ((List (Nat × (List Int))))) (y1 : List (Nat × (List Int))) (y2 : List (Nat × (List Int))) (y3 : List (Nat × (List Int))) (x18 : Int) : Option ((List (Nat × (List Int)))):=cond (decide (x18 <= 0)) (Ad (AK y1 0) fun e31 => chk (List.length y3 + List.length [e31] <= lim) (chk ((0 : Int) <= 1 ∧ 1 <= (List.length y1 : Int) ∧ (List.length y1 : Int) <= (List.length y1 : Int)) (CX rec y2 x18 (BX y1 1 (List.length y1 : Int)) (y3 ++ [e31])))) (CX rec y2 x18 y1 y3)
def CV (rec : ((List (Nat × (List Int))) × (List (Nat × (List Int))) × (List (Nat × (List Int)))) -> Option ((List (Nat × (List Int))))) (y1 : List (Nat × (List Int))) (y2 : List (Nat × (List Int))) (y3 : List (Nat × (List Int))) (x15 : Bool) : Option ((List (Nat × (List Int)))):=cond x15 (cond ((List.length y1 : Int) == 0) (Ch rec y1 y2 y3 1) (cond (decide (0 < (List.length y2 : Int))) (Ad (AK y1 0) fun e37 => Ad (AK y2 0) fun e39 => Ad (Cv e37.2 e39.2) fun v41 => Ch rec y1 y2 y3 v41) (Ch rec y1 y2 y3 (-1)))) (some y3)
def Bo  (rec : ((List (Nat × (List Int))) × (List (Nat × (List Int))) × (List (Nat × (List Int)))) -> Option ((List (Nat × (List Int))))) (s : (List (Nat × (List Int))) × (List (Nat × (List Int))) × (List (Nat × (List Int)))) : Option ((List (Nat × (List Int)))):=match s with
  | (y1,y2,y3) => cond (decide (0 < (List.length y1 : Int))) (CV rec y1 y2 y3 true) (CV rec y1 y2 y3 (decide (0 < (List.length y2 : Int))))
def Ex (rec : ((List (List Int))) -> Option ((List (List Int)))) (a0 : (List (List Int))) : Option ((List (List Int))):=cond (decide ((List.length a0 : Int) < 2)) (Ad (CU a0) fun v3 => some v3) (chk ((0 : Int) <= 0 ∧ 0 <= IntKind.i64.wrap (Int.tdiv (List.length a0 : Int) 2) ∧ IntKind.i64.wrap (Int.tdiv (List.length a0 : Int) 2) <= (List.length a0 : Int)) (Ad (rec (BX a0 0 (IntKind.i64.wrap (Int.tdiv (List.length a0 : Int) 2)))) fun v6 => chk ((0 : Int) <= IntKind.i64.wrap (Int.tdiv (List.length a0 : Int) 2) ∧ IntKind.i64.wrap (Int.tdiv (List.length a0 : Int) 2) <= (List.length a0 : Int) ∧ (List.length a0 : Int) <= (List.length a0 : Int)) (Ad (rec (BX a0 (IntKind.i64.wrap (Int.tdiv (List.length a0 : Int) 2)) (List.length a0 : Int))) fun v9 => Ad (Al Bo fz ((AA 0 v6),(AA (List.length v6) v9),([] : List (Nat × (List Int))))) fun z12 => chk (okJ (v6 ++ v9) (List.map Sum.inl z12) [] = true) (some (List.map getM (List.map Sum.inl z12))))))
def IR (a0 : List (List Int)) : Option ((List (List Int))):=Al Ex fz a0
theorem JO {a0 : List (List Int)} {r : (List (List Int))} (h : IR a0 = some r) : Ai Tryz.prog 120 [dL AG a0] (oL 42 Ag r):=by
 suffices key : ∀ mF (a0 : List (List Int)) (r : (List (List Int))),Al Ex mF a0 = some r -> Ai Tryz.prog 120 [dL AG a0] (oL 42 Ag r) from key fz a0 r h
 intro mF
 induction mF with
 | zero => intro a0 r h; cases h
 | succ mF ih0 =>
  intro a0 r h
  have ih : ∀ {a0 : List (List Int)} {r : (List (List Int))},Al Ex mF a0 = some r -> Ai Tryz.prog 120 [dL AG a0] (oL 42 Ag r):=fun h => ih0 _ _ h
  change Ex (Al Ex mF) a0 = some r at h
  unfold Ex at h
  try dsimp only at h
  refine st aW rfl (rn 1 rfl (Ac fun K1 hK1 => rn 1 rfl ?_))
  rcases Ab h with ⟨g2,h⟩ | ⟨g2,h⟩
  ·refine qT rfl g2 (rs (sp 1 rfl (?_)))
   obtain ⟨v3,g4,h⟩:=Aa h
   exact qC (qa rfl (erD As _) Ar) (E5 g4) (sp 1 rfl (evn (Af ((by cases h; exact ⟨.inl rfl,rfl⟩)))))
  ·refine qF rfl g2 (Ae (hK1 _ (rn 1 rfl (rd (by kernel_rfl) (sd 2 rfl (?_))))))
   obtain ⟨g5,h⟩:=Ah h
   refine ed rfl (qSl rfl Bv g5 (?_))
   obtain ⟨v6,g7,h⟩:=Aa h
   refine ed rfl (qC (qa rfl (erD As _) Ar) (ih g7) (sd 2 rfl (?_)))
   obtain ⟨g8,h⟩:=Ah h
   refine ed rfl (qSl rfl Bv g8 (?_))
   obtain ⟨v9,g10,h⟩:=Aa h
   refine ed rfl (qC (qa rfl (erD As _) Ar) (ih g10) (sd 2 rfl (BB (qk [4,5] rfl (Ux (f:=Ag) (s1:=4) (s2:=5) (g1:=900001) (g2:=900002) rfl rfl rfl rfl ⟨by decide,by decide,by decide,by decide,by decide,by decide⟩ (QG (fun _ => rfl)) (QG (fun _ => rfl)) (fun _ => rfl) (fun _ => rfl) (fun _ => rfl) (fun _ => rfl) ?_)))))
   intro U us1 us2 hu1 hu2 hU
   refine kp [(4,oL 42 (pE Ag U) (AA 0 v6)),(5,oL 42 (pE Ag U) (AA (List.length v6) v9)),(900001,.gh us1 (List.map (fun x => Jo (Ag x)) v6)),(900002,.gh us2 (List.map (fun x => Jo (Ag x)) v9))] rfl rfl (rn 1 rfl (Ac fun K11 hK11 => ?_))
   obtain ⟨o1,hl,hr1⟩:=Aa h
   have kXB1 : ∀ {z12 : List (Nat × (List Int))},z12 = o1 -> Jn K11 [(6,oL 42 (pE Ag U) z12),(900001,.gh us1 (List.map (fun x => Jo (Ag x)) v6)),(900002,.gh us2 (List.map (fun x => Jo (Ag x)) v9))]:=by
    intro z12 h σ' hk
    subst h
    replace h:=hr1
    try dsimp only at h
    refine hK11 _ (lh hk rfl (qk [6,900001,900002] rfl ?_))
    obtain ⟨g44,h⟩:=Ah h
    exact Wl (g1:=900001) (g2:=900002) rfl rfl (by decide) (Wj (f:=Ag) (s:=6) (q:=900001) (l:=v6 ++ v9) (U:=U) (L:=List.map Sum.inl z12) YY rfl List.map_append.symm (by decide) (V8 (fun _ => rfl)) hU g44 rfl rfl (kp [(6,oL 42 Ag (List.map getM (List.map Sum.inl z12)))] rfl rfl (rn 1 rfl (Af ((by cases h; exact ⟨.inl rfl,rfl⟩))))))
   refine Ax (fun (s : (List (Nat × (List Int))) × (List (Nat × (List Int))) × (List (Nat × (List Int)))) => match s with | (y1,y2,y3) => [(4,dL (pE Ag U) y1),(5,dL (pE Ag U) y2),(6,oL 42 (pE Ag U) y3),(900001,.gh us1 (List.map (fun x => Jo (Ag x)) v6)),(900002,.gh us2 (List.map (fun x => Jo (Ag x)) v9))]) _ _ _ _ hl ⟨(kd rfl rfl),(kd rfl rfl),kr,kr,kr,trivial⟩ (fun _ => rfl) ?_
   rintro m ⟨y1,y2,y3⟩ N h hN
   unfold Bo at h
   dsimp only at h
   refine Ac fun K13 hK13 => rk fun K14 hK14 => ?_
   have kJ2 : ∀ {x15 : Bool},CV (Al Bo m) y1 y2 y3 x15 = some o1 -> Jn K14 [(4,dL (pE Ag U) y1),(5,dL (pE Ag U) y2),(6,oL 42 (pE Ag U) y3),(31,.bool x15),(900001,.gh us1 (List.map (fun x => Jo (Ag x)) v6)),(900002,.gh us2 (List.map (fun x => Jo (Ag x)) v9))]:=by
    intro x15 h σ' hk
    unfold CV at h
    refine hK14 _ (lh hk rfl ?_)
    rcases Ab h with ⟨g16,h⟩ | ⟨g16,h⟩
    ·refine qT rfl g16 (Ae (hK13 _ (Au (rn 1 rfl (Ac fun K17 hK17 => rn 1 rfl ?_)))))
     have kJ3 : ∀ {x18 : Int},Ch (Al Bo m) y1 y2 y3 x18 = some o1 -> Jn K17 [(4,dL (pE Ag U) y1),(5,dL (pE Ag U) y2),(6,oL 42 (pE Ag U) y3),(7,nI x18),(900001,.gh us1 (List.map (fun x => Jo (Ag x)) v6)),(900002,.gh us2 (List.map (fun x => Jo (Ag x)) v9))]:=by
      intro x18 h σ' hk
      unfold Ch at h
      refine hK17 _ (lh hk rfl (Ac fun K19 hK19 => rn 1 rfl ?_))
      have kJ4 : ∀ {x20 : List (Nat × (List Int))} {x21 : List (Nat × (List Int))},CX (Al Bo m) y2 x18 x20 x21 = some o1 -> Jn K19 [(4,dL (pE Ag U) x20),(5,dL (pE Ag U) y2),(6,oL 42 (pE Ag U) x21),(7,nI x18),(900001,.gh us1 (List.map (fun x => Jo (Ag x)) v6)),(900002,.gh us2 (List.map (fun x => Jo (Ag x)) v9))]:=by
       intro x20 x21 h σ' hk
       unfold CX at h
       refine hK19 _ (lh hk rfl (rn 1 rfl ?_))
       rcases Ab h with ⟨g22,h⟩ | ⟨g22,h⟩
       ·refine qT rfl g22 (Ac fun K23 hK23 => rn 1 rfl ?_)
        have kJ5 : ∀ {x24 : List (Nat × (List Int))},EM (Al Bo m) y2 x20 x24 = some o1 -> Jn K23 [(4,dL (pE Ag U) x20),(5,dL (pE Ag U) y2),(6,oL 42 (pE Ag U) x24),(900001,.gh us1 (List.map (fun x => Jo (Ag x)) v6)),(900002,.gh us2 (List.map (fun x => Jo (Ag x)) v9))]:=by
         intro x24 h σ' hk
         unfold EM at h
         refine hK23 _ (lh hk rfl (rg (sp 1 rfl (?_))))
         obtain ⟨g25,h⟩:=Ah h
         exact qSl rfl (zpE AW) g25 (sp 1 rfl (evn (hN _ _ h (okr rfl))))
        rcases Ab h with ⟨g26,h⟩ | ⟨g26,h⟩
        ·refine qT rfl g26 (rg (sp 2 rfl (?_)))
         obtain ⟨e27,g28,h⟩:=Aa h
         refine qI rfl (zpE AW) g28 (sp 1 rfl (qBs (pE Ag U) [e27] rfl rfl rfl (zpE AW) (?_)))
         obtain ⟨g29,h⟩:=Ah h
         exact qA (pE Ag U) x21 [e27] rfl rfl (Ap (zpE AW) [e27]) rfl g29 (sp 1 rfl (evn (kJ5 h _ (okr rfl))))
        ·exact qF rfl g26 (Ae (kJ5 h _ (okr rfl)))
       ·exact qF rfl g22 (Ae (hN _ _ h (okr rfl)))
      rcases Ab h with ⟨g30,h⟩ | ⟨g30,h⟩
      ·refine qT rfl g30 (rs (sp 2 rfl (?_)))
       obtain ⟨e31,g32,h⟩:=Aa h
       refine qI rfl (zpE AW) g32 (sp 1 rfl (qBs (pE Ag U) [e31] rfl rfl rfl (zpE AW) (?_)))
       obtain ⟨g33,h⟩:=Ah h
       refine qA (pE Ag U) y3 [e31] rfl rfl (Ap (zpE AW) [e31]) rfl g33 (sp 1 rfl (evn (rg (sp 1 rfl (?_)))))
       obtain ⟨g34,h⟩:=Ah h
       exact qSl rfl (zpE AW) g34 (sp 1 rfl (evn (kJ4 h _ (okr rfl))))
      ·exact qF rfl g30 (Ae (kJ4 h _ (okr rfl)))
     rcases Ab h with ⟨g35,h⟩ | ⟨g35,h⟩
     ·exact qT rfl g35 (rg (sp 1 rfl (evn (kJ3 h _ (okr rfl)))))
     ·refine qF rfl g35 (rn 1 rfl (qk [4,5,6,7,37,900001,900002] rfl ?_))
      rcases Ab h with ⟨g36,h⟩ | ⟨g36,h⟩
      ·refine qT rfl g36 (rgd (by kernel_rfl) (sd 1 rfl (?_)))
       obtain ⟨e37,g38,h⟩:=Aa h
       refine ed rfl (qI rfl (zpE AW) g38 (sd 2 rfl (?_)))
       obtain ⟨e39,g40,h⟩:=Aa h
       refine ed rfl (qI rfl (zpE AW) g40 (sd 1 rfl (?_)))
       obtain ⟨v41,g42,h⟩:=Aa h
       exact ed rfl (qC (qa rfl (erP Am Am _) (qa rfl (erP Am Am _) Ar)) (F3 g42) (sd 1 rfl (BB (kJ3 h _ (okr rfl)))))
      ·exact qF rfl g36 (Ae (kJ3 h _ (okr rfl)))
    ·exact qF rfl g16 (An (kXB1 (Option.some.inj h) _ (okr rfl)))
   refine sp 4 rfl (?_)
   rcases Ab h with ⟨g43,h⟩ | ⟨g43,h⟩
   ·exact qg 27 g43 rfl (sp 4 rfl (evn (kJ2 h _ (okr rfl))))
   ·exact qg 27 g43 rfl (sp 4 rfl (evn (kJ2 h _ (okr rfl))))
def CO (a0 : Y32) : Option (Y32):=Ad (CU a0.2) fun v1 => some (a0.1,v1)
theorem G6 {a0 : Y32} {r : Y32} (h : CO a0 = some r) : Ai Tryz.prog 100 [.agg (ER a0)] (.agg (GI r)):=by
 unfold CO at h
 refine st aB rfl (rn 1 rfl (rd (by kernel_rfl) (sd 4 rfl (?_))))
 obtain ⟨v1,g2,h⟩:=Aa h
 exact ed rfl (qC (qa rfl (erD As _) Ar) (E5 g2) (sd 2 rfl (BB (Af ((by cases h; exact ⟨.inl rfl,rfl⟩))))))
def CA  : Option (Y32 × Bool):=some ((0,[]),false)
def D1 (a0 : List Y88) (a1 : List UInt8) (rec : Int -> Option (Sum (Unit) (Y32 × Bool))) (y2 : Int) : Option (Sum (Unit) (Y32 × Bool)):=cond (decide (y2 < (List.length a0 : Int))) (Ad (AK a0 y2) fun e8 => cond (e8.1 == a1) (Ad (CO e8.2) fun v11 => some (.inr (v11,true))) (rec (IntKind.i64.wrap (y2 + 1)))) (some (.inl ()))
def Bx (a0 : List Y88) (a1 : List UInt8) : Option (Y32 × Bool):=Ad (Bd a0) fun v2 => cond v2 (Ad (Al (D1 a0 a1) fz 0) fun o2 => (match o2 with
  | .inl _ => (CA )
  | .inr r => some r)) (CA )
theorem Es {a0 : List Y88} {a1 : List UInt8} {r : Y32 × Bool} (h : Bx a0 a1 = some r) : Ai Tryz.prog 55 [.agg [dL AB a0],.str a1] (.tup [.agg (GI r.1),.bool r.2]):=by
 unfold Bx at h
 refine st fv rfl (rn 1 rfl (Ac fun K1 hK1 => rs (sp 1 rfl (?_))))
 obtain ⟨v2,g3,h⟩:=Aa h
 refine qC (qa rfl (erg (erc (erD AM _) rfl)) Ar) (Cz g3) (evn ?_)
 have kJ1 : CA = some r -> Jn K1 [(4,.box [nI 0,oL 42 Ag []])]:=by
  intro h σ' hk
  unfold CA at h
  exact hK1 _ (lh hk rfl (rn 1 rfl (Af ((by cases h; exact ⟨.inl rfl,rfl⟩)))))
 rcases Ab h with ⟨g4,h⟩ | ⟨g4,h⟩
 ·refine qT rfl g4 (rn 1 rfl ?_)
  obtain ⟨o2,hl,hr2⟩:=Aa h
  have kXB2 : (.inl ()) = o2 -> Jn K1 [(4,.box [nI 0,oL 42 Ag []])]:=by
   intro h σ' hk
   subst h
   replace h:=hr2
   try dsimp only at h
   exact kJ1 h _ ⟨hk.1,trivial⟩
  refine Ax (fun (y2 : Int) => [(1,.str a1),(4,.box [nI 0,oL 42 Ag []]),(11,dL AB a0),(12,nI (List.length a0 : Int)),(13,nI y2)]) _ _ _ _ hl (okr rfl) (fun _ => rfl) ?_
  rintro m y2 N h hN
  unfold D1 at h
  refine rn 1 rfl (Ac fun K5 hK5 => ?_)
  rcases Ab h with ⟨g6,h⟩ | ⟨g6,h⟩
  ·refine qT rfl g6 (Ae (hK5 _ (Ac fun K7 hK7 => Au (rs ?_))))
   obtain ⟨e8,g9,h⟩:=Aa h
   refine qI rfl Ee g9 (sp 3 rfl (evn (rn 1 rfl ?_)))
   rcases Ab h with ⟨g10,h⟩ | ⟨g10,h⟩
   ·refine qT rfl g10 (rs (sp 2 rfl (?_)))
    obtain ⟨v11,g12,h⟩:=Aa h
    exact qC (qa rfl (erg (erc rfl (erc (erD As _) rfl))) Ar) (G6 g12) (sp 2 rfl (evn (Af ((by cases h; cases hr2; exact ⟨.inl rfl,rfl⟩)))))
   ·exact qF rfl g10 (Ae (hK7 _ (rg (sp 2 rfl (evn (hN _ _ h (okr rfl)))))))
  ·exact qF rfl g6 (An (kXB2 (Option.some.inj h) _ (okr rfl)))
 ·exact qF rfl g4 (Ae (kJ1 h _ (okr rfl)))
def Hq (a0 : List Int) (a1 : Int) (rec : Int -> Option (Sum (Unit) (Int))) (y1 : Int) : Option (Sum (Unit) (Int)):=cond (decide (y1 < (List.length a0 : Int))) (Ad (AK a0 y1) fun e5 => cond (e5 == a1) (some (.inr y1)) (rec (IntKind.i64.wrap (y1 + 1)))) (some (.inl ()))
def Fl (a0 : List Int) (a1 : Int) : Option (Int):=Ad (Al (Hq a0 a1) fz 0) fun o1 => (match o1 with
  | .inl _ => (some (-1))
  | .inr r => some r)
theorem H0 {a0 : List Int} {a1 : Int} {r : Int} (h : Fl a0 a1 = some r) : Ai Tryz.prog 132 [dL Aq a0,nI a1] (nI r):=by
 unfold Fl at h
 refine st bg rfl (rn 1 rfl (Ac fun K1 hK1 => rn 1 rfl ?_))
 obtain ⟨o1,hl,hr1⟩:=Aa h
 have kXB1 : (.inl ()) = o1 -> Jn K1 []:=by
  intro h σ' hk
  subst h
  replace h:=hr1
  try dsimp only at h
  exact hK1 _ (lh hk rfl (rn 1 rfl (Af ((by cases h; exact ⟨.inl rfl,rfl⟩)))))
 refine Ax (fun (y1 : Int) => [(1,nI a1),(7,dL Aq a0),(8,nI (List.length a0 : Int)),(9,nI y1)]) _ _ _ _ hl (okr rfl) (fun _ => rfl) ?_
 rintro m y1 N h hN
 unfold Hq at h
 refine rn 1 rfl (Ac fun K2 hK2 => ?_)
 rcases Ab h with ⟨g3,h⟩ | ⟨g3,h⟩
 ·refine qT rfl g3 (Ae (hK2 _ (Ac fun K4 hK4 => Au (rs (sp 1 rfl (?_))))))
  obtain ⟨e5,g6,h⟩:=Aa h
  refine qI rfl AH g6 (sp 3 rfl (evn (rn 1 rfl ?_)))
  rcases Ab h with ⟨g7,h⟩ | ⟨g7,h⟩
  ·exact qT rfl g7 (rn 1 rfl (Af ((by cases h; cases hr1; exact ⟨.inl rfl,rfl⟩))))
  ·exact qF rfl g7 (Ae (hK4 _ (rg (sp 2 rfl (evn (hN _ _ h (okr rfl)))))))
 ·exact qF rfl g3 (An (kXB1 (Option.some.inj h) _ trivial))
def HQ (a0 : List Int) (a1 : Int) : Option (Bool):=Ad (Fl a0 a1) fun v1 => some (decide (0 <= v1))
theorem LA {a0 : List Int} {a1 : Int} {r : Bool} (h : HQ a0 a1 = some r) : Ai Tryz.prog 136 [dL Aq a0,nI a1] (.bool r):=by
 unfold HQ at h
 refine st bk rfl (rn 1 rfl (rs (sp 2 rfl (?_))))
 obtain ⟨v1,g2,h⟩:=Aa h
 exact qC (qa rfl (erD Am _) (qs rfl Ar)) (H0 g2) (sp 2 rfl (evn (Af ((by cases h; exact ⟨.inl rfl,rfl⟩)))))
def Hr (a0 : List Int) (a1 : Int) (rec : Int -> Option (Sum (Unit) (Bool))) (y1 : Int) : Option (Sum (Unit) (Bool)):=cond (decide (y1 < (List.length a0 : Int))) (Ad (AK a0 y1) fun e5 => Ad (Ck e5 0 (IntKind.i64.wrap (a1 - 1))) fun v7 => cond (!v7) (some (.inr false)) (chk ((0 : Int) <= 0 ∧ 0 <= y1 ∧ y1 <= (List.length a0 : Int)) (Ad (HQ (BX a0 0 y1) e5) fun v11 => cond v11 (some (.inr false)) (rec (IntKind.i64.wrap (y1 + 1)))))) (some (.inl ()))
def Ig (a0 : List Int) (a1 : Int) : Option (Bool):=Ad (Al (Hr a0 a1) fz 0) fun o1 => (match o1 with
  | .inl _ => (some true)
  | .inr r => some r)
theorem Oi {a0 : List Int} {a1 : Int} {r : Bool} (h : Ig a0 a1 = some r) : Ai Tryz.prog 134 [dL Aq a0,nI a1] (.bool r):=by
 unfold Ig at h
 refine st bi rfl (rn 1 rfl (Ac fun K1 hK1 => rn 1 rfl ?_))
 obtain ⟨o1,hl,hr1⟩:=Aa h
 have kXB1 : (.inl ()) = o1 -> Jn K1 []:=by
  intro h σ' hk
  subst h
  replace h:=hr1
  try dsimp only at h
  exact hK1 _ (lh hk rfl (rn 1 rfl (Af ((by cases h; exact ⟨.inl rfl,rfl⟩)))))
 refine Ax (fun (y1 : Int) => [(0,dL Aq a0),(1,nI a1),(7,dL Aq a0),(8,nI (List.length a0 : Int)),(9,nI y1)]) _ _ _ _ hl (okr rfl) (fun _ => rfl) ?_
 rintro m y1 N h hN
 unfold Hr at h
 refine rn 1 rfl (Ac fun K2 hK2 => ?_)
 rcases Ab h with ⟨g3,h⟩ | ⟨g3,h⟩
 ·refine qT rfl g3 (Ae (hK2 _ (Ac fun K4 hK4 => Au (rs (sp 1 rfl (?_))))))
  obtain ⟨e5,g6,h⟩:=Aa h
  refine qI rfl AH g6 (sp 3 rfl (evn (rs (sp 3 rfl (?_)))))
  obtain ⟨v7,g8,h⟩:=Aa h
  refine qC (qs rfl (qs rfl (qs rfl Ar))) (CY g8) (sp 2 rfl (?_))
  rcases Ab h with ⟨g9,h⟩ | ⟨g9,h⟩
  ·exact qg 19 g9 rfl (sp 6 rfl (evn (qT rfl rfl (rn 1 rfl (Af ((by cases h; cases hr1; exact ⟨.inl rfl,rfl⟩)))))))
  ·refine qg 19 g9 rfl (sp 2 rfl (?_))
   obtain ⟨g10,h⟩:=Ah h
   refine oGR rfl rfl (qSl rfl AH g10 (sp 1 rfl (?_)))
   obtain ⟨v11,g12,h⟩:=Aa h
   refine oGR rfl rfl (qC (qa rfl (erD Am _) (qs rfl Ar)) (LA g12) (sp 1 rfl (evn (qk [0,1,7,8,9,25] rfl ?_))))
   rcases Ab h with ⟨g13,h⟩ | ⟨g13,h⟩
   ·exact qT rfl g13 (rn 1 rfl (Af ((by cases h; cases hr1; exact ⟨.inl rfl,rfl⟩))))
   ·exact qF rfl g13 (Ae (hK4 _ (rg (sp 2 rfl (evn (hN _ _ h (okr rfl)))))))
 ·exact qF rfl g3 (An (kXB1 (Option.some.inj h) _ trivial))
def Dn (a0 : Y51) (e17 : HI) (rec : ((List Bool) × Int) -> Option (Sum ((List Bool)) (Bool))) (s : (List Bool) × Int) : Option (Sum ((List Bool)) (Bool)):=match s with
  | (y7,y8) => cond (decide (y8 < (List.length e17.2 : Int))) (Ad (AK e17.2 y8) fun e30 => Ad (Ck e30 0 (IntKind.i64.wrap (a0.1 - 1))) fun v33 => cond (!v33) (some (.inr false)) (Ad (AK y7 e30) fun e36 => rec ((It y7 e30 true),(IntKind.i64.wrap (y8 + 1))))) (some (.inl y7))
def Cs (a0 : Y51) (rec : ((List Bool) × Int) -> Option (Sum ((List Bool)) (Bool))) (s : (List Bool) × Int) : Option (Sum ((List Bool)) (Bool)):=match s with
  | (y3,y4) => cond (decide (y4 < (List.length a0.2.1 : Int))) (Ad (AK a0.2.1 y4) fun e17 => Ad (Ef e17.1) fun v20 => cond (!v20) (some (.inr false)) (Ad (Ck (List.length e17.2 : Int) 1 5) fun v23 => cond (!v23) (some (.inr false)) (Ad (Al (Dn a0 e17) fz (y3,0)) fun o2 => (match o2 with
  | .inl z26 => (rec (z26,(IntKind.i64.wrap (y4 + 1))))
  | .inr r => some (.inr r))))) (some (.inl y3))
def ET (z13 : List Bool) (rec : Int -> Option (Sum (Unit) (Bool))) (y9 : Int) : Option (Sum (Unit) (Bool)):=cond (decide (y9 < (List.length z13 : Int))) (Ad (AK z13 y9) fun e42 => cond (!e42) (some (.inr false)) (rec (IntKind.i64.wrap (y9 + 1)))) (some (.inl ()))
def E3 (a0 : Y51) : Option (Bool):=Ad (Ck a0.1 1 5) fun v2 => cond (!v2) (some false) (Ad (Ck (List.length a0.2.1 : Int) 1 4) fun v5 => cond (!v5) (some false) (Ad (Ig a0.2.2 a0.1) fun v8 => cond (!v8) (some false) (chk ((0 : Int) <= a0.1 ∧ Int.toNat a0.1 <= lim) (Ad (Al (Cs a0) fz ((List.replicate (Int.toNat a0.1) (false : Bool)),0)) fun o1 => (match o1 with
  | .inl z13 => (Ad (Al (ET z13) fz 0) fun o3 => (match o3 with
  | .inl _ => (some true)
  | .inr r => some r))
  | .inr r => some r)))))
theorem K0 {a0 : Y51} {r : Bool} (h : E3 a0 = some r) : Ai Tryz.prog 129 [.agg (Dg a0)] (.bool r):=by
 unfold E3 at h
 refine st bd rfl (rn 2 rfl (Ac fun K1 hK1 => rs (sp 1 rfl (?_))))
 obtain ⟨v2,g3,h⟩:=Aa h
 refine qC (qs rfl (qs rfl (qs rfl Ar))) (CY g3) (sp 2 rfl (?_))
 rcases Ab h with ⟨g4,h⟩ | ⟨g4,h⟩
 ·exact qg 16 g4 rfl (sp 13 rfl (evn (qT rfl rfl (rn 1 rfl (Af ((by cases h; exact ⟨.inl rfl,rfl⟩)))))))
 ·refine qg 16 g4 rfl (sp 3 rfl (?_))
  obtain ⟨v5,g6,h⟩:=Aa h
  refine oGR rfl rfl (qC (qs rfl (qs rfl (qs rfl Ar))) (CY g6) (sp 3 rfl (?_)))
  rcases Ab h with ⟨g7,h⟩ | ⟨g7,h⟩
  ·exact qg 23 g7 rfl (sp 6 rfl (evn (qk [1,3,29] rfl (qT rfl rfl (rn 1 rfl (Af ((by cases h; exact ⟨.inl rfl,rfl⟩))))))))
  ·refine qg 23 g7 rfl (sp 3 rfl (?_))
   obtain ⟨v8,g9,h⟩:=Aa h
   refine oGR rfl rfl (qC (qa rfl (erD Am _) (qs rfl Ar)) (Oi g9) (sp 2 rfl (evn ?_)))
   rcases Ab h with ⟨g10,h⟩ | ⟨g10,h⟩
   ·exact qT rfl g10 (rn 1 rfl (Af ((by cases h; exact ⟨.inl rfl,rfl⟩))))
   ·refine qF rfl g10 (Ae (hK1 _ (rs (sp 1 rfl (?_)))))
    obtain ⟨g11,h⟩:=Ah h
    refine qMu cbl (false : Bool) rfl rfl rfl rfl g11 rfl (qAu rfl rfl rfl rfl (evn (Ac fun K12 hK12 => rn 1 rfl ?_)))
    obtain ⟨o1,hl,hr1⟩:=Aa h
    have kXB1 : ∀ {z13 : List Bool},(.inl z13) = o1 -> Jn K12 [(4,wL 4 cbl z13)]:=by
     intro z13 h σ' hk
     subst h
     replace h:=hr1
     try dsimp only at h
     refine hK12 _ (lh hk rfl (Ac fun K38 hK38 => rn 1 rfl ?_))
     obtain ⟨o3,hl,hr3⟩:=Aa h
     have kXB3 : (.inl ()) = o3 -> Jn K38 []:=by
      intro h σ' hk
      subst h
      replace h:=hr3
      try dsimp only at h
      exact hK38 _ (lh hk rfl (rn 1 rfl (Af ((by cases h; exact ⟨.inl rfl,rfl⟩)))))
     refine Ax (fun (y9 : Int) => [(4,wL 4 cbl z13),(67,.same 4),(68,nI (List.length z13 : Int)),(69,nI y9)]) _ _ _ _ hl (okr rfl) (fun _ => rfl) ?_
     rintro m y9 N h hN
     unfold ET at h
     refine rn 1 rfl (Ac fun K39 hK39 => ?_)
     rcases Ab h with ⟨g40,h⟩ | ⟨g40,h⟩
     ·refine qT rfl g40 (Ae (hK39 _ (Ac fun K41 hK41 => Au (rs ?_))))
      obtain ⟨e42,g43,h⟩:=Aa h
      refine qIu rfl ⟨(Bc g43).1,(Bc g43).2.1⟩ (qLu 0 rfl rfl rfl iq g43 rfl rfl rfl (sp 1 rfl (evn (rn 1 rfl ?_))))
      rcases Ab h with ⟨g44,h⟩ | ⟨g44,h⟩
      ·exact qT rfl g44 (rn 1 rfl (Af ((by cases h; cases hr3; exact ⟨.inl rfl,rfl⟩))))
      ·exact qF rfl g44 (Ae (hK41 _ (rg (sp 2 rfl (evn (hN _ _ h (okr rfl)))))))
     ·exact qF rfl g40 (An (kXB3 (Option.some.inj h) _ trivial))
    refine Ax (fun (s : (List Bool) × Int) => match s with | (y3,y4) => [(3,nI a0.1),(4,wL 4 cbl y3),(33,dL Bk a0.2.1),(34,nI (List.length a0.2.1 : Int)),(35,nI y4)]) _ _ _ _ hl (okr rfl) (fun _ => rfl) ?_
    rintro m ⟨y3,y4⟩ N h hN
    unfold Cs at h
    dsimp only at h
    refine rn 1 rfl (Ac fun K14 hK14 => ?_)
    rcases Ab h with ⟨g15,h⟩ | ⟨g15,h⟩
    ·refine qT rfl g15 (Ae (hK14 _ (Ac fun K16 hK16 => Au (rs ?_))))
     obtain ⟨e17,g18,h⟩:=Aa h
     refine qI rfl FE g18 (sp 3 rfl (evn (Ac fun K19 hK19 => rs (sp 2 rfl (?_)))))
     obtain ⟨v20,g21,h⟩:=Aa h
     refine qC (qs rfl Ar) (I3 g21) (sp 2 rfl (?_))
     rcases Ab h with ⟨g22,h⟩ | ⟨g22,h⟩
     ·exact qg 43 g22 rfl (sp 6 rfl (evn (qT rfl rfl (rn 1 rfl (Af ((by cases h; cases hr1; exact ⟨.inl rfl,rfl⟩)))))))
     ·refine qg 43 g22 rfl (sp 3 rfl (?_))
      obtain ⟨v23,g24,h⟩:=Aa h
      refine oGR rfl rfl (qC (qs rfl (qs rfl (qs rfl Ar))) (CY g24) (sp 2 rfl (evn (qk [3,4,6,33,34,35,49] rfl ?_))))
      rcases Ab h with ⟨g25,h⟩ | ⟨g25,h⟩
      ·exact qT rfl g25 (rn 1 rfl (Af ((by cases h; cases hr1; exact ⟨.inl rfl,rfl⟩))))
      ·refine qF rfl g25 (Ae (hK19 _ (rn 1 rfl ?_)))
       obtain ⟨o2,hl,hr2⟩:=Aa h
       have kXB2 : ∀ {z26 : List Bool},(.inl z26) = o2 -> Jn K16 [(3,nI a0.1),(4,wL 4 cbl z26),(33,dL Bk a0.2.1),(34,nI (List.length a0.2.1 : Int)),(35,nI y4)]:=by
        intro z26 h σ' hk
        subst h
        replace h:=hr2
        try dsimp only at h
        exact hK16 _ (lh hk rfl (rg (sp 2 rfl (evn (hN _ _ h (okr rfl))))))
       refine Ax (fun (s : (List Bool) × Int) => match s with | (y7,y8) => [(3,nI a0.1),(4,wL 4 cbl y7),(33,dL Bk a0.2.1),(34,nI (List.length a0.2.1 : Int)),(35,nI y4),(51,dL Aq e17.2),(52,nI (List.length e17.2 : Int)),(53,nI y8)]) _ _ _ _ hl (okr rfl) (fun _ => rfl) ?_
       rintro m ⟨y7,y8⟩ N h hN
       unfold Dn at h
       dsimp only at h
       refine rn 1 rfl (Ac fun K27 hK27 => ?_)
       rcases Ab h with ⟨g28,h⟩ | ⟨g28,h⟩
       ·refine qT rfl g28 (Ae (hK27 _ (Ac fun K29 hK29 => Au (rs ?_))))
        obtain ⟨e30,g31,h⟩:=Aa h
        refine qI rfl AH g31 (sp 2 rfl (evn (Ac fun K32 hK32 => rs (sp 3 rfl (?_)))))
        obtain ⟨v33,g34,h⟩:=Aa h
        refine qC (qs rfl (qs rfl (qs rfl Ar))) (CY g34) (sp 1 rfl (evn ?_))
        rcases Ab h with ⟨g35,h⟩ | ⟨g35,h⟩
        ·exact qT rfl g35 (rn 1 rfl (Af ((by cases h; cases hr2; cases hr1; exact ⟨.inl rfl,rfl⟩))))
        ·refine qF rfl g35 (Ae (hK32 _ (rg (sp 2 rfl (?_)))))
         obtain ⟨e36,g37,h⟩:=Aa h
         exact qIu rfl ⟨(Bc g37).1,(Bc g37).2.1⟩ (qSu true rfl rfl iq ⟨(Bc g37).1,(Bc g37).2.1⟩ rfl rfl rfl rfl rfl rfl (evn (hK29 _ (rg (sp 2 rfl (evn (hN _ _ h (okr rfl))))))))
       ·exact qF rfl g28 (An (kXB2 (Option.some.inj h) _ (okr rfl)))
    ·exact qF rfl g15 (An (kXB1 (Option.some.inj h) _ (okr rfl)))
def F5 (a0 : List Y88) (a1 : Y51) (rec : Int -> Option (Sum (Unit) (Bool))) (y1 : Int) : Option (Sum (Unit) (Bool)):=cond (decide (y1 < (List.length a1.2.1 : Int))) (Ad (AK a1.2.1 y1) fun e12 => Ad (Bx a0 e12.1) fun v14 => cond (!v14.2) (some (.inr false)) (cond (v14.1.1 != (List.length e12.2 : Int)) (some (.inr false)) (rec (IntKind.i64.wrap (y1 + 1))))) (some (.inl ()))
def Gf (a0 : List Y88) (a1 : Y51) : Option (Bool):=Ad (E3 a1) fun v2 => cond (!v2) (some false) (Ad (Bd a0) fun v5 => cond (!v5) (some false) (Ad (Al (F5 a0 a1) fz 0) fun o1 => (match o1 with
  | .inl _ => (some true)
  | .inr r => some r)))
theorem Mm {a0 : List Y88} {a1 : Y51} {r : Bool} (h : Gf a0 a1 = some r) : Ai Tryz.prog 121 [.agg [dL AB a0],.agg (Dg a1)] (.bool r):=by
 unfold Gf at h
 refine st aX rfl (rn 1 rfl (Ac fun K1 hK1 => rs (sp 1 rfl (?_))))
 obtain ⟨v2,g3,h⟩:=Aa h
 refine qC (qa rfl (erg (erc rfl (erc (erD Bl _) (erc (erD Am _) rfl)))) Ar) (K0 g3) (sp 2 rfl (?_))
 rcases Ab h with ⟨g4,h⟩ | ⟨g4,h⟩
 ·exact qg 12 g4 rfl (sp 4 rfl (evn (qT rfl rfl (rn 1 rfl (Af ((by cases h; exact ⟨.inl rfl,rfl⟩)))))))
 ·refine qg 12 g4 rfl (sp 1 rfl (?_))
  obtain ⟨v5,g6,h⟩:=Aa h
  refine oGR rfl rfl (qC (qa rfl (erg (erc (erD AM _) rfl)) Ar) (Cz g6) (sp 2 rfl (evn ?_)))
  rcases Ab h with ⟨g7,h⟩ | ⟨g7,h⟩
  ·exact qT rfl g7 (rn 1 rfl (Af ((by cases h; exact ⟨.inl rfl,rfl⟩))))
  ·refine qF rfl g7 (Ae (hK1 _ (Ac fun K8 hK8 => rn 1 rfl (qk [2,18,19,20] rfl ?_))))
   obtain ⟨o1,hl,hr1⟩:=Aa h
   have kXB1 : (.inl ()) = o1 -> Jn K8 []:=by
    intro h σ' hk
    subst h
    replace h:=hr1
    try dsimp only at h
    exact hK8 _ (lh hk rfl (rn 1 rfl (Af ((by cases h; exact ⟨.inl rfl,rfl⟩)))))
   refine Ax (fun (y1 : Int) => [(2,.box [dL AB a0]),(18,dL Bk a1.2.1),(19,nI (List.length a1.2.1 : Int)),(20,nI y1)]) _ _ _ _ hl (okr rfl) (fun _ => rfl) ?_
   rintro m y1 N h hN
   unfold F5 at h
   refine rn 1 rfl (Ac fun K9 hK9 => ?_)
   rcases Ab h with ⟨g10,h⟩ | ⟨g10,h⟩
   ·refine qT rfl g10 (Ae (hK9 _ (Ac fun K11 hK11 => Au (rs ?_))))
    obtain ⟨e12,g13,h⟩:=Aa h
    refine qI rfl FE g13 (sp 3 rfl (evn (rs (sp 3 rfl (?_)))))
    obtain ⟨v14,g15,h⟩:=Aa h
    refine qC (qa rfl (erg (erc (erD AM _) rfl)) (qs rfl Ar)) (Es g15) (sp 6 rfl (evn (rs (sp 3 rfl (?_)))))
    rcases Ab h with ⟨g16,h⟩ | ⟨g16,h⟩
    ·exact qg 33 g16 rfl (sp 7 rfl (evn (qT rfl rfl (rn 1 rfl (qk [4] rfl (Af ((by cases h; cases hr1; exact ⟨.inl rfl,rfl⟩))))))))
    ·refine qg 33 g16 rfl (sp 7 rfl (evn ?_))
     rcases Ab h with ⟨g17,h⟩ | ⟨g17,h⟩
     ·exact qT rfl g17 (rn 1 rfl (Af ((by cases h; cases hr1; exact ⟨.inl rfl,rfl⟩))))
     ·exact qF rfl g17 (Ae (hK11 _ (rg (sp 2 rfl (evn (hN _ _ h (okr rfl)))))))
   ·exact qF rfl g10 (An (kXB1 (Option.some.inj h) _ trivial))
def Ca (a0 : HI) (a1 : Int) : Option (Bool):=Ad (HQ a0.2 a1) fun v1 => some v1
theorem JN {a0 : HI} {a1 : Int} {r : Bool} (h : Ca a0 a1 = some r) : Ai Tryz.prog 135 [.agg (Bk a0),nI a1] (.bool r):=by
 unfold Ca at h
 refine st bj rfl (rn 1 rfl (rs (sp 3 rfl (?_))))
 obtain ⟨v1,g2,h⟩:=Aa h
 exact qC (qa rfl (erD Am _) (qs rfl Ar)) (LA g2) (sp 1 rfl (evn (Af ((by cases h; exact ⟨.inl rfl,rfl⟩)))))
def C1 (rec : ((List Int) × Int) -> Option ((List Int))) (y2 : Int) (x8 : List Int) : Option ((List Int)):=rec (x8,(IntKind.i64.wrap (y2 + 1)))
def B9 (a0 : HI) (rec : ((List Int) × Int) -> Option ((List Int))) (s : (List Int) × Int) : Option ((List Int)):=match s with
  | (y1,y2) => cond (decide (y2 < 5)) (Ad (Ca a0 y2) fun v6 => cond v6 (chk (List.length y1 + List.length [y2] <= lim) (C1 rec y2 (y1 ++ [y2]))) (C1 rec y2 y1)) (some y1)
def Db (a0 : HI) : Option ((List Int)):=Ad (Al (B9 a0) fz (([] : List Int),0)) fun z2 => some z2
theorem IC {a0 : HI} {r : (List Int)} (h : Db a0 = some r) : Ai Tryz.prog 130 [.agg (Bk a0)] (oL 3 Aq r):=by
 unfold Db at h
 refine st be rfl (rn 2 rfl (Ac fun K1 hK1 => rn 1 rfl ?_))
 obtain ⟨o1,hl,hr1⟩:=Aa h
 have kXB1 : ∀ {z2 : List Int},z2 = o1 -> Jn K1 [(3,oL 3 Aq z2)]:=by
  intro z2 h σ' hk
  subst h
  replace h:=hr1
  try dsimp only at h
  exact hK1 _ (lh hk rfl (rn 1 rfl (Af ((by cases h; exact ⟨.inl rfl,rfl⟩)))))
 refine Ax (fun (s : (List Int) × Int) => match s with | (y1,y2) => [(1,.box [.str a0.1,dL Aq a0.2]),(3,oL 3 Aq y1),(4,nI y2)]) _ _ _ _ hl (okr rfl) (fun _ => rfl) ?_
 rintro m ⟨y1,y2⟩ N h hN
 unfold B9 at h
 dsimp only at h
 refine Ac fun K3 hK3 => rn 1 rfl ?_
 rcases Ab h with ⟨g4,h⟩ | ⟨g4,h⟩
 ·refine qT rfl g4 (Ae (hK3 _ (Ac fun K5 hK5 => Au (rs (sp 2 rfl (?_))))))
  obtain ⟨v6,g7,h⟩:=Aa h
  refine qC (qa rfl (erg (erc rfl (erc (erD Am _) rfl))) (qs rfl Ar)) (JN g7) (evn ?_)
  have kJ2 : ∀ {x8 : List Int},C1 (Al (B9 a0) m) y2 x8 = some o1 -> Jn K5 [(1,.box [.str a0.1,dL Aq a0.2]),(3,oL 3 Aq x8),(4,nI y2)]:=by
   intro x8 h σ' hk
   unfold C1 at h
   exact hK5 _ (lh hk rfl (rg (sp 3 rfl (evn (hN _ _ h (okr rfl))))))
  rcases Ab h with ⟨g9,h⟩ | ⟨g9,h⟩
  ·refine qT rfl g9 (rg (sp 2 rfl (qBs Aq [y2] rfl rfl rfl AH (?_))))
   obtain ⟨g10,h⟩:=Ah h
   exact qA Aq y1 [y2] rfl rfl (Ap AH [y2]) rfl g10 (sp 1 rfl (evn (kJ2 h _ (okr rfl))))
  ·exact qF rfl g9 (Ae (kJ2 h _ (okr rfl)))
 ·exact qF rfl g4 (An (kXB1 (Option.some.inj h) _ (okr rfl)))
def De (a0 : Int) (a1 : List Int) (rec : Int -> Option (Sum (Unit) (Bool))) (y1 : Int) : Option (Sum (Unit) (Bool)):=cond (decide (y1 < (List.length a1 : Int))) (Ad (AK a1 y1) fun e7 => Ad (Ck e7 0 (IntKind.i64.wrap (a0 - 1))) fun v9 => cond (!v9) (some (.inr false)) (rec (IntKind.i64.wrap (y1 + 1)))) (some (.inl ()))
def C2 (a0 : Int) (a1 : List Int) : Option (Bool):=cond (decide (5 < (List.length a1 : Int))) (some false) (Ad (Al (De a0 a1) fz 0) fun o1 => (match o1 with
  | .inl _ => (some true)
  | .inr r => some r))
theorem Js {a0 : Int} {a1 : List Int} {r : Bool} (h : C2 a0 a1 = some r) : Ai Tryz.prog 125 [nI a0,dL Aq a1] (.bool r):=by
 unfold C2 at h
 refine st a9 rfl (rn 1 rfl (Ac fun K1 hK1 => rn 1 rfl ?_))
 rcases Ab h with ⟨g2,h⟩ | ⟨g2,h⟩
 ·exact qT rfl g2 (rn 1 rfl (Af ((by cases h; exact ⟨.inl rfl,rfl⟩))))
 ·refine qF rfl g2 (Ae (hK1 _ (Ac fun K3 hK3 => rn 1 rfl ?_)))
  obtain ⟨o1,hl,hr1⟩:=Aa h
  have kXB1 : (.inl ()) = o1 -> Jn K3 []:=by
   intro h σ' hk
   subst h
   replace h:=hr1
   try dsimp only at h
   exact hK3 _ (lh hk rfl (rn 1 rfl (Af ((by cases h; exact ⟨.inl rfl,rfl⟩)))))
  refine Ax (fun (y1 : Int) => [(0,nI a0),(10,dL Aq a1),(11,nI (List.length a1 : Int)),(12,nI y1)]) _ _ _ _ hl (okr rfl) (fun _ => rfl) ?_
  rintro m y1 N h hN
  unfold De at h
  refine rn 1 rfl (Ac fun K4 hK4 => ?_)
  rcases Ab h with ⟨g5,h⟩ | ⟨g5,h⟩
  ·refine qT rfl g5 (Ae (hK4 _ (Ac fun K6 hK6 => Au (rs ?_))))
   obtain ⟨e7,g8,h⟩:=Aa h
   refine qI rfl AH g8 (sp 2 rfl (evn (rs (sp 3 rfl (?_)))))
   obtain ⟨v9,g10,h⟩:=Aa h
   refine qC (qs rfl (qs rfl (qs rfl Ar))) (CY g10) (sp 1 rfl (evn ?_))
   rcases Ab h with ⟨g11,h⟩ | ⟨g11,h⟩
   ·exact qT rfl g11 (rn 1 rfl (Af ((by cases h; cases hr1; exact ⟨.inl rfl,rfl⟩))))
   ·exact qF rfl g11 (Ae (hK6 _ (rg (sp 2 rfl (evn (hN _ _ h (okr rfl)))))))
  ·exact qF rfl g5 (An (kXB1 (Option.some.inj h) _ trivial))
def I6 (a0 : List Int) (a1 : List Int) (rec : ((List Int) × Int) -> Option ((List Int))) (s : (List Int) × Int) : Option ((List Int)):=match s with
  | (y1,y2) => cond (decide (y2 < (List.length a1 : Int))) (Ad (AK a1 y2) fun e6 => Ad (AK a0 e6) fun e8 => chk (List.length y1 + List.length [e8] <= lim) (rec ((y1 ++ [e8]),(IntKind.i64.wrap (y2 + 1))))) (some y1)
def IQ (a0 : List Int) (a1 : List Int) : Option ((List Int)):=Ad (Al (I6 a0 a1) fz (([] : List Int),0)) fun z2 => some z2
theorem NJ {a0 : List Int} {a1 : List Int} {r : (List Int)} (h : IQ a0 a1 = some r) : Ai Tryz.prog 126 [dL Aq a0,dL Aq a1] (oL 3 Aq r):=by
 unfold IQ at h
 refine st ba rfl (rn 1 rfl (rs (qBs Aq [] rfl rfl rfl AH (sp 1 rfl (evn (Ac fun K1 hK1 => rn 1 rfl ?_))))))
 obtain ⟨o1,hl,hr1⟩:=Aa h
 have kXB1 : ∀ {z2 : List Int},z2 = o1 -> Jn K1 [(5,oL 3 Aq z2)]:=by
  intro z2 h σ' hk
  subst h
  replace h:=hr1
  try dsimp only at h
  exact hK1 _ (lh hk rfl (rn 1 rfl (Af ((by cases h; exact ⟨.inl rfl,rfl⟩)))))
 refine Ax (fun (s : (List Int) × Int) => match s with | (y1,y2) => [(0,dL Aq a0),(5,oL 3 Aq y1),(9,dL Aq a1),(10,nI (List.length a1 : Int)),(11,nI y2)]) _ _ _ _ hl (okr rfl) (fun _ => rfl) ?_
 rintro m ⟨y1,y2⟩ N h hN
 unfold I6 at h
 dsimp only at h
 refine rn 1 rfl (Ac fun K3 hK3 => ?_)
 rcases Ab h with ⟨g4,h⟩ | ⟨g4,h⟩
 ·refine qT rfl g4 (Ae (hK3 _ (Ac fun K5 hK5 => Au (rs ?_))))
  obtain ⟨e6,g7,h⟩:=Aa h
  refine qI rfl AH g7 (sp 2 rfl (evn (rg (sp 3 rfl (?_)))))
  obtain ⟨e8,g9,h⟩:=Aa h
  refine qI rfl AH g9 (sp 1 rfl (qBs Aq [e8] rfl rfl rfl AH (?_)))
  obtain ⟨g10,h⟩:=Ah h
  exact qA Aq y1 [e8] rfl rfl (Ap AH [e8]) rfl g10 (sp 1 rfl (evn (hK5 _ (rg (sp 2 rfl (evn (hN _ _ h (okr rfl))))))))
 ·exact qF rfl g4 (An (kXB1 (Option.some.inj h) _ (okr rfl)))
def Cp (rec : ((List Int) × Bool × Int) -> Option ((List Int) × Bool)) (e16 : List Int) (y9 : List Int) (y11 : Int) (e25 : Int) (x30 : Bool) : Option ((List Int) × Bool):=Ad (AK e16 y11) fun e31 => Ad (AK y9 e25) fun e33 => rec ((It y9 e25 e31),x30,(IntKind.i64.wrap (y11 + 1)))
def BL (a1 : HI) (e16 : List Int) (rec : ((List Int) × Bool × Int) -> Option ((List Int) × Bool)) (s : (List Int) × Bool × Int) : Option ((List Int) × Bool):=match s with
  | (y9,y10,y11) => cond (decide (y11 < (List.length a1.2 : Int))) (Ad (AK a1.2 y11) fun e25 => Ad (Fl a1.2 e25) fun v27 => cond y10 (Ad (AK e16 v27) fun e36 => Ad (AK e16 y11) fun e38 => Cp rec e16 y9 y11 e25 (e36 == e38)) (Cp rec e16 y9 y11 e25 false)) (some (y9,y10))
def Cq (rec : ((List (List Int)) × Int) -> Option ((List (List Int)))) (y5 : Int) (x40 : List (List Int)) : Option ((List (List Int))):=rec (x40,(IntKind.i64.wrap (y5 + 1)))
def BK (a1 : HI) (v1 : (List Int)) (v3 : Y32 × Bool) (rec : ((List (List Int)) × Int) -> Option ((List (List Int)))) (s : (List (List Int)) × Int) : Option ((List (List Int))):=match s with
  | (y4,y5) => cond (decide (y5 < (List.length v3.1.2 : Int))) (Ad (AK v3.1.2 y5) fun e16 => chk ((0 : Int) <= 5 ∧ Int.toNat 5 <= lim) (Ad (Al (BL a1 e16) fz ((List.replicate (Int.toNat 5) (0 : Int)),true,0)) fun o2 => (match o2 with
  | (z20,z21) => (cond z21 (Ad (IQ z20 v1) fun v42 => chk (List.length y4 + List.length [v42] <= lim) (Cq rec y5 (y4 ++ [v42]))) (Cq rec y5 y4))))) (some y4)
def E2 (a0 : List Y88) (a1 : HI) : Option (Y32):=Ad (Db a1) fun v1 => Ad (Bx a0 a1.1) fun v3 => cond (!v3.2) (some ((List.length v1 : Int),[])) (cond (v3.1.1 != (List.length a1.2 : Int)) (some ((List.length v1 : Int),[])) (Ad (C2 5 a1.2) fun v8 => cond (!v8) (some ((List.length v1 : Int),[])) (Ad (Al (BK a1 v1 v3) fz (([] : List (List Int)),0)) fun z12 => Ad (IR z12) fun v45 => some ((List.length v1 : Int),v45))))
theorem KY {a0 : List Y88} {a1 : HI} {r : Y32} (h : E2 a0 a1 = some r) : Ai Tryz.prog 131 [.agg [dL AB a0],.agg (Bk a1)] (.agg (GI r)):=by
 unfold E2 at h
 refine st bf rfl (rn 1 rfl (rs (sp 1 rfl (?_))))
 obtain ⟨v1,g2,h⟩:=Aa h
 refine qC (qa rfl (erg (erc rfl (erc (erD Am _) rfl))) Ar) (IC g2) (sp 1 rfl (evn (rn 1 rfl (rs (sp 3 rfl (?_))))))
 obtain ⟨v3,g4,h⟩:=Aa h
 refine qC (qa rfl (erg (erc (erD AM _) rfl)) (qs rfl Ar)) (Es g4) (sp 6 rfl (evn (Ac fun K5 hK5 => rs (sp 3 rfl (?_)))))
 rcases Ab h with ⟨g6,h⟩ | ⟨g6,h⟩
 ·exact qg 31 g6 rfl (sp 13 rfl (evn (qk [3,4,5,6,7,44] rfl (qT rfl rfl (rn 1 rfl (Af ((by cases h; exact ⟨.inl rfl,rfl⟩))))))))
 ·refine qg 31 g6 rfl (sp 8 rfl (?_))
  rcases Ab h with ⟨g7,h⟩ | ⟨g7,h⟩
  ·exact qg 39 g7 rfl (sp 5 rfl (evn (qT rfl rfl (rn 1 rfl (Af ((by cases h; exact ⟨.inl rfl,rfl⟩)))))))
  ·refine qg 39 g7 rfl (sp 2 rfl (?_))
   obtain ⟨v8,g9,h⟩:=Aa h
   refine oGR rfl rfl (qC (qs rfl (qa rfl (erD Am _) Ar)) (Js g9) (sp 2 rfl (evn ?_)))
   rcases Ab h with ⟨g10,h⟩ | ⟨g10,h⟩
   ·exact qT rfl g10 (rn 1 rfl (Af ((by cases h; exact ⟨.inl rfl,rfl⟩))))
   ·refine qF rfl g10 (Ae (hK5 _ (qk [3,4,5,6,7] rfl (rn 1 rfl (Ac fun K11 hK11 => rn 1 rfl ?_)))))
    obtain ⟨o1,hl,hr1⟩:=Aa h
    have kXB1 : ∀ {z12 : List (List Int)},z12 = o1 -> Jn K11 [(4,.box [nI 0,oL 42 Ag []]),(6,.box [nI (List.length v1 : Int),oL 42 Ag []]),(9,oL 42 Ag z12)]:=by
     intro z12 h σ' hk
     subst h
     replace h:=hr1
     try dsimp only at h
     refine hK11 _ (lh hk rfl (rs (sp 1 rfl (?_))))
     obtain ⟨v45,g46,h⟩:=Aa h
     exact qC (qa rfl (erD AS _) Ar) (JO g46) (sp 2 rfl (evn (rn 1 rfl (Af ((by cases h; exact ⟨.inl rfl,rfl⟩))))))
    refine Ax (fun (s : (List (List Int)) × Int) => match s with | (y4,y5) => [(3,.box [.str a1.1,dL Aq a1.2]),(4,.box [nI 0,oL 42 Ag []]),(5,oL 3 Aq v1),(6,.box [nI (List.length v1 : Int),oL 42 Ag []]),(9,oL 42 Ag y4),(47,dL Ag v3.1.2),(48,nI (List.length v3.1.2 : Int)),(49,nI y5)]) _ _ _ _ hl (okr rfl) (fun _ => rfl) ?_
    rintro m ⟨y4,y5⟩ N h hN
    unfold BK at h
    dsimp only at h
    refine rn 1 rfl (Ac fun K13 hK13 => ?_)
    rcases Ab h with ⟨g14,h⟩ | ⟨g14,h⟩
    ·refine qT rfl g14 (Ae (hK13 _ (Ac fun K15 hK15 => Au (rs ?_))))
     obtain ⟨e16,g17,h⟩:=Aa h
     refine qI rfl AW g17 (sp 2 rfl (evn (rs ?_)))
     obtain ⟨g18,h⟩:=Ah h
     refine qMu Aq (0 : Int) rfl rfl rfl rfl g18 rfl (qAu rfl rfl rfl rfl (evn (rn 1 rfl (Ac fun K19 hK19 => rn 1 rfl ?_))))
     obtain ⟨o2,hl,hr2⟩:=Aa h
     have kXB2 : ∀ {z20 : List Int} {z21 : Bool},(z20,z21) = o2 -> Jn K19 [(3,.box [.str a1.1,dL Aq a1.2]),(4,.box [nI 0,oL 42 Ag []]),(5,oL 3 Aq v1),(6,.box [nI (List.length v1 : Int),oL 42 Ag []]),(9,oL 42 Ag y4),(12,wL 3 Aq z20),(13,.bool z21),(47,dL Ag v3.1.2),(48,nI (List.length v3.1.2 : Int)),(49,nI y5)]:=by
      intro z20 z21 h σ' hk
      subst h
      replace h:=hr2
      try dsimp only at h
      refine hK19 _ (lh hk rfl (rn 1 rfl ?_))
      have kJ4 : ∀ {x40 : List (List Int)},Cq (Al (BK a1 v1 v3) m) y5 x40 = some o1 -> Jn K15 [(3,.box [.str a1.1,dL Aq a1.2]),(4,.box [nI 0,oL 42 Ag []]),(5,oL 3 Aq v1),(6,.box [nI (List.length v1 : Int),oL 42 Ag []]),(9,oL 42 Ag x40),(47,dL Ag v3.1.2),(48,nI (List.length v3.1.2 : Int)),(49,nI y5)]:=by
       intro x40 h σ' hk
       unfold Cq at h
       exact hK15 _ (lh hk rfl (rg (sp 2 rfl (evn (hN _ _ h (okr rfl))))))
      rcases Ab h with ⟨g41,h⟩ | ⟨g41,h⟩
      ·refine qT rfl g41 (rg (sp 1 rfl (qTu rfl rfl rfl (sp 1 rfl (?_)))))
       obtain ⟨v42,g43,h⟩:=Aa h
       refine qC (qa rfl (erO Am _) (qa rfl (erD Am _) Ar)) (NJ g43) (qBs Ag [v42] rfl rfl rfl AW (?_))
       obtain ⟨g44,h⟩:=Ah h
       exact qA Ag y4 [v42] rfl rfl (Ap AW [v42]) rfl g44 (sp 1 rfl (evn (kJ4 h _ (okr rfl))))
      ·exact qF rfl g41 (Ae (kJ4 h _ (okr rfl)))
     refine Ax (fun (s : (List Int) × Bool × Int) => match s with | (y9,y10,y11) => [(3,.box [.str a1.1,dL Aq a1.2]),(4,.box [nI 0,oL 42 Ag []]),(5,oL 3 Aq v1),(6,.box [nI (List.length v1 : Int),oL 42 Ag []]),(9,oL 42 Ag y4),(11,dL Aq e16),(12,wL 3 Aq y9),(13,.bool y10),(47,dL Ag v3.1.2),(48,nI (List.length v3.1.2 : Int)),(49,nI y5),(55,dL Aq a1.2),(56,nI (List.length a1.2 : Int)),(57,nI y11)]) _ _ _ _ hl (okr rfl) (fun _ => rfl) ?_
     rintro m ⟨y9,y10,y11⟩ N h hN
     unfold BL at h
     dsimp only at h
     refine rn 1 rfl (Ac fun K22 hK22 => ?_)
     rcases Ab h with ⟨g23,h⟩ | ⟨g23,h⟩
     ·refine qT rfl g23 (Ae (hK22 _ (Ac fun K24 hK24 => Au (rs (sp 1 rfl (?_))))))
      obtain ⟨e25,g26,h⟩:=Aa h
      refine qI rfl AH g26 (sp 3 rfl (evn (rs (sp 3 rfl (?_)))))
      obtain ⟨v27,g28,h⟩:=Aa h
      refine qC (qa rfl (erD Am _) (qs rfl Ar)) (H0 g28) (sp 1 rfl (evn (rdk (by kernel_rfl) fun K29 hK29 => ?_)))
      have kJ3 : ∀ {x30 : Bool},Cp (Al (BL a1 e16) m) e16 y9 y11 e25 x30 = some o2 -> Jn K29 [(3,.box [.str a1.1,dL Aq a1.2]),(4,.box [nI 0,oL 42 Ag []]),(5,oL 3 Aq v1),(6,.box [nI (List.length v1 : Int),oL 42 Ag []]),(9,oL 42 Ag y4),(11,dL Aq e16),(12,wL 3 Aq y9),(13,.bool x30),(14,nI y11),(15,nI e25),(47,dL Ag v3.1.2),(48,nI (List.length v3.1.2 : Int)),(49,nI y5),(55,dL Aq a1.2),(56,nI (List.length a1.2 : Int)),(57,nI y11)]:=by
       intro x30 h σ' hk
       unfold Cp at h
       refine hK29 _ (lh hk rfl (rg (sp 4 rfl (?_))))
       obtain ⟨e31,g32,h⟩:=Aa h
       refine qI rfl AH g32 (sp 1 rfl (?_))
       obtain ⟨e33,g34,h⟩:=Aa h
       exact qIu rfl ⟨(Bc g34).1,(Bc g34).2.1⟩ (qSu e31 rfl rfl AH ⟨(Bc g34).1,(Bc g34).2.1⟩ rfl rfl rfl rfl rfl rfl (evn (hK24 _ (rg (sp 2 rfl (evn (hN _ _ h (okr rfl))))))))
      refine sd 2 rfl (?_)
      rcases Ab h with ⟨g35,h⟩ | ⟨g35,h⟩
      ·refine qgd 67 g35 rfl (sd 2 rfl (?_))
       obtain ⟨e36,g37,h⟩:=Aa h
       refine ed rfl (oGR rfl rfl (qI rfl AH g37 (sd 3 rfl (?_))))
       obtain ⟨e38,g39,h⟩:=Aa h
       exact ed rfl (oGR rfl rfl (qI rfl AH g39 (sd 4 rfl (BB (kJ3 h _ (okr rfl))))))
      ·exact qgd 67 g35 rfl (sd 11 rfl (BB (kJ3 h _ (okr rfl))))
     ·exact qF rfl g23 (An (kXB2 (Option.some.inj h) _ (okr rfl)))
    ·exact qF rfl g14 (An (kXB1 (Option.some.inj h) _ (okr rfl)))
abbrev Vz:=(List Int) × Y32
def MV (x : Vz) : List V:=[dL Aq x.1,nI x.2.1,dL AG x.2.2]
theorem cF (x : Vz) : (MV x).length = 3:=rfl
theorem ZT (x : Vz) : erL (MV x) = MV x:=(erc (erD Am _) (erc rfl (erc (erD As _) rfl)))
def O1 (x : Vz) : List V:=[oL 3 Aq x.1,nI x.2.1,oL 42 Ag x.2.2]
theorem cG (x : Vz) : (O1 x).length = 3:=rfl
theorem ZU (x : Vz) : erL (O1 x) = MV x:=(erc (erO Am _) (erc rfl (erc (erO AS _) rfl)))
def Gw (a0 : List Y88) (a1 : HI) : Option (Vz):=Ad (Db a1) fun v1 => Ad (E2 a0 a1) fun v3 => some (v1,v3)
theorem KZ {a0 : List Y88} {a1 : HI} {r : Vz} (h : Gw a0 a1 = some r) : Ai Tryz.prog 122 [.agg [dL AB a0],.agg (Bk a1)] (.agg (O1 r)):=by
 unfold Gw at h
 refine st aY rfl (rn 1 rfl (rd (by kernel_rfl) (sd 1 rfl (?_))))
 obtain ⟨v1,g2,h⟩:=Aa h
 refine ed rfl (qC (qa rfl (erg (erc rfl (erc (erD Am _) rfl))) Ar) (IC g2) (sd 2 rfl (?_)))
 obtain ⟨v3,g4,h⟩:=Aa h
 exact ed rfl (qC (qa rfl (erg (erc (erD AM _) rfl)) (qa rfl (erg (erc rfl (erc (erD Am _) rfl))) Ar)) (KY g4) (sd 2 rfl (BB (Af ((by cases h; exact ⟨.inl rfl,rfl⟩))))))
def Fs (y2 : List Int) (e8 : Int) (rec : Int -> Option (Int)) (y5 : Int) : Option (Int):=cond (decide (y5 < (List.length y2 : Int))) (Ad (AK y2 y5) fun e14 => cond (decide (e14 < e8)) (rec (IntKind.i64.wrap (y5 + 1))) (some y5)) (some y5)
def GB (rec : ((List Int) × Int) -> Option ((List Int))) (y3 : Int) (x19 : List Int) : Option ((List Int)):=rec (x19,(IntKind.i64.wrap (y3 + 1)))
def Ft (rec : ((List Int) × Int) -> Option ((List Int))) (y2 : List Int) (y3 : Int) (e8 : Int) (z11 : Int) (x18 : Bool) : Option ((List Int)):=cond x18 (chk ((0 : Int) <= 0 ∧ 0 <= z11 ∧ z11 <= (List.length y2 : Int)) (Ad (A8 (BX y2 0 z11)) fun v22 => chk (List.length v22 + List.length [e8] <= lim) (chk ((0 : Int) <= z11 ∧ z11 <= (List.length y2 : Int) ∧ (List.length y2 : Int) <= (List.length y2 : Int)) (chk (List.length (v22 ++ [e8]) + List.length (BX y2 z11 (List.length y2 : Int)) <= lim) (GB rec y3 ((v22 ++ [e8]) ++ (BX y2 z11 (List.length y2 : Int)))))))) (GB rec y3 y2)
def Ey (a1 : List Int) (rec : ((List Int) × Int) -> Option ((List Int))) (s : (List Int) × Int) : Option ((List Int)):=match s with
  | (y2,y3) => cond (decide (y3 < (List.length a1 : Int))) (Ad (AK a1 y3) fun e8 => Ad (Al (Fs y2 e8) fz 0) fun z11 => cond (z11 == (List.length y2 : Int)) (Ft rec y2 y3 e8 z11 true) (Ad (AK y2 z11) fun e28 => Ft rec y2 y3 e8 z11 (e28 != e8))) (some y2)
def Jt (a0 : List Int) (a1 : List Int) : Option ((List Int)):=Ad (A8 a0) fun v1 => Ad (Al (Ey a1) fz (v1,0)) fun z4 => some z4
theorem Qc {a0 : List Int} {a1 : List Int} {r : (List Int)} (h : Jt a0 a1 = some r) : Ai Tryz.prog 123 [dL Aq a0,dL Aq a1] (oL 3 Aq r):=by
 unfold Jt at h
 refine st aZ rfl (rn 1 rfl (rs (sp 1 rfl (?_))))
 obtain ⟨v1,g2,h⟩:=Aa h
 refine qC (qa rfl (erD Am _) Ar) (By g2) (sp 1 rfl (evn (Ac fun K3 hK3 => rn 1 rfl ?_)))
 obtain ⟨o1,hl,hr1⟩:=Aa h
 have kXB1 : ∀ {z4 : List Int},z4 = o1 -> Jn K3 [(5,oL 3 Aq z4)]:=by
  intro z4 h σ' hk
  subst h
  replace h:=hr1
  try dsimp only at h
  exact hK3 _ (lh hk rfl (rn 1 rfl (Af ((by cases h; exact ⟨.inl rfl,rfl⟩)))))
 refine Ax (fun (s : (List Int) × Int) => match s with | (y2,y3) => [(5,oL 3 Aq y2),(11,dL Aq a1),(12,nI (List.length a1 : Int)),(13,nI y3)]) _ _ _ _ hl (okr rfl) (fun _ => rfl) ?_
 rintro m ⟨y2,y3⟩ N h hN
 unfold Ey at h
 dsimp only at h
 refine rn 1 rfl (Ac fun K5 hK5 => ?_)
 rcases Ab h with ⟨g6,h⟩ | ⟨g6,h⟩
 ·refine qT rfl g6 (Ae (hK5 _ (Ac fun K7 hK7 => Au (rs ?_))))
  obtain ⟨e8,g9,h⟩:=Aa h
  refine qI rfl AH g9 (sp 2 rfl (evn (rn 1 rfl (Ac fun K10 hK10 => ?_))))
  obtain ⟨o2,hl,hr2⟩:=Aa h
  have kXB2 : ∀ {z11 : Int},z11 = o2 -> Jn K10 [(5,oL 3 Aq y2),(7,nI e8),(8,nI z11),(11,dL Aq a1),(12,nI (List.length a1 : Int)),(13,nI y3)]:=by
   intro z11 h σ' hk
   subst h
   replace h:=hr2
   try dsimp only at h
   refine hK10 _ (lh hk rfl (rk fun K17 hK17 => ?_))
   have kJ3 : ∀ {x18 : Bool},Ft (Al (Ey a1) m) y2 y3 e8 z11 x18 = some o1 -> Jn K17 [(5,oL 3 Aq y2),(7,nI e8),(8,nI z11),(11,dL Aq a1),(12,nI (List.length a1 : Int)),(13,nI y3),(42,.bool x18)]:=by
    intro x18 h σ' hk
    unfold Ft at h
    refine hK17 _ (lh hk rfl ?_)
    have kJ4 : ∀ {x19 : List Int},GB (Al (Ey a1) m) y3 x19 = some o1 -> Jn K7 [(5,oL 3 Aq x19),(11,dL Aq a1),(12,nI (List.length a1 : Int)),(13,nI y3)]:=by
     intro x19 h σ' hk
     unfold GB at h
     exact hK7 _ (lh hk rfl (rg (sp 2 rfl (evn (hN _ _ h (okr rfl))))))
    rcases Ab h with ⟨g20,h⟩ | ⟨g20,h⟩
    ·refine qT rfl g20 (rgd (by kernel_rfl) (sd 2 rfl (?_)))
     obtain ⟨g21,h⟩:=Ah h
     refine ed rfl (qSl rfl AH g21 (?_))
     obtain ⟨v22,g23,h⟩:=Aa h
     refine ed rfl (qC (qa rfl (erD Am _) Ar) (By g23) (sd 1 rfl (ed rfl (qBs Aq [e8] rfl rfl rfl AH (?_)))))
     obtain ⟨g24,h⟩:=Ah h
     refine ed rfl (qA Aq v22 [e8] rfl rfl (Ap AH [e8]) rfl g24 (sd 2 rfl (?_)))
     obtain ⟨g25,h⟩:=Ah h
     refine ed rfl (qSl rfl AH g25 (?_))
     obtain ⟨g26,h⟩:=Ah h
     exact ed rfl (qA Aq (v22 ++ [e8]) (BX y2 z11 (List.length y2 : Int)) rfl rfl (Ap AH (BX y2 z11 (List.length y2 : Int))) (GJ (fun _ => rfl) _) g26 (sd 1 rfl (BB (kJ4 h _ (okr rfl)))))
    ·exact qF rfl g20 (Ae (kJ4 h _ (okr rfl)))
   refine sp 5 rfl (?_)
   rcases Ab h with ⟨g27,h⟩ | ⟨g27,h⟩
   ·exact qg 35 g27 rfl (sp 7 rfl (evn (kJ3 h _ (okr rfl))))
   ·refine qg 35 g27 rfl (sp 2 rfl (?_))
    obtain ⟨e28,g29,h⟩:=Aa h
    exact oGR rfl rfl (qI rfl AH g29 (sp 4 rfl (evn (kJ3 h _ (okr rfl)))))
  refine Ax (fun (y5 : Int) => [(5,oL 3 Aq y2),(7,nI e8),(8,nI y5),(11,dL Aq a1),(12,nI (List.length a1 : Int)),(13,nI y3)]) _ _ _ _ hl (okr rfl) (fun _ => rfl) ?_
  rintro m y5 N h hN
  unfold Fs at h
  refine Ac fun K12 hK12 => rs (sp 5 rfl (?_))
  rcases Ab h with ⟨g13,h⟩ | ⟨g13,h⟩
  ·refine qg 21 g13 rfl (sp 2 rfl (?_))
   obtain ⟨e14,g15,h⟩:=Aa h
   refine oGR rfl rfl (qI rfl AH g15 (sp 4 rfl (evn ?_)))
   rcases Ab h with ⟨g16,h⟩ | ⟨g16,h⟩
   ·exact qT rfl g16 (Ae (hK12 _ (Au (rg (sp 3 rfl (evn (hN _ _ h (okr rfl))))))))
   ·exact qF rfl g16 (An (kXB2 (Option.some.inj h) _ (okr rfl)))
  ·exact qg 21 g13 rfl (sp 7 rfl (evn (qF rfl rfl (An (kXB2 (Option.some.inj h) _ (okr rfl))))))
 ·exact qF rfl g6 (An (kXB1 (Option.some.inj h) _ (okr rfl)))
def Gi (rec : ((List Int) × Int) -> Option (Sum ((List Int)) ((List Int) × Bool))) (y2 : Int) (x15 : List Int) : Option (Sum ((List Int)) ((List Int) × Bool)):=rec (x15,(IntKind.i64.wrap (y2 + 1)))
def Fk (rec : ((List Int) × Int) -> Option (Sum ((List Int)) ((List Int) × Bool))) (a2 : List Int) (a4 : List Int) (y1 : List Int) (y2 : Int) (v8 : Int) (v10 : Int) (x13 : Bool) : Option (Sum ((List Int)) ((List Int) × Bool)):=cond x13 (some (.inr (([] : List Int),false))) (cond (decide (0 <= v8)) (Ad (AK a2 v8) fun e17 => chk (List.length y1 + List.length [e17] <= lim) (Gi rec y2 (y1 ++ [e17]))) (Ad (AK a4 v10) fun e20 => chk (List.length y1 + List.length [e20] <= lim) (Gi rec y2 (y1 ++ [e20]))))
def Dx (a0 : List Int) (a1 : List Int) (a2 : List Int) (a3 : List Int) (a4 : List Int) (rec : ((List Int) × Int) -> Option (Sum ((List Int)) ((List Int) × Bool))) (s : (List Int) × Int) : Option (Sum ((List Int)) ((List Int) × Bool)):=match s with
  | (y1,y2) => cond (decide (y2 < (List.length a0 : Int))) (Ad (AK a0 y2) fun e6 => Ad (Fl a1 e6) fun v8 => Ad (Fl a3 e6) fun v10 => cond (decide (0 <= v8)) (cond (decide (0 <= v10)) (Ad (AK a2 v8) fun e25 => Ad (AK a4 v10) fun e27 => Fk rec a2 a4 y1 y2 v8 v10 (e25 != e27)) (Fk rec a2 a4 y1 y2 v8 v10 false)) (Fk rec a2 a4 y1 y2 v8 v10 false)) (some (.inl y1))
def Kf (a0 : List Int) (a1 : List Int) (a2 : List Int) (a3 : List Int) (a4 : List Int) : Option ((List Int) × Bool):=Ad (Al (Dx a0 a1 a2 a3 a4) fz (([] : List Int),0)) fun o1 => (match o1 with
  | .inl z2 => (some (z2,true))
  | .inr r => some r)
theorem Rg {a0 : List Int} {a1 : List Int} {a2 : List Int} {a3 : List Int} {a4 : List Int} {r : (List Int) × Bool} (h : Kf a0 a1 a2 a3 a4 = some r) : Ai Tryz.prog 124 [dL Aq a0,dL Aq a1,dL Aq a2,dL Aq a3,dL Aq a4] (.tup [oL 3 Aq r.1,.bool r.2]):=by
 unfold Kf at h
 refine st a8 rfl (rn 1 rfl (rs (qBs Aq [] rfl rfl rfl AH (sp 1 rfl (evn (Ac fun K1 hK1 => rn 1 rfl ?_))))))
 obtain ⟨o1,hl,hr1⟩:=Aa h
 have kXB1 : ∀ {z2 : List Int},(.inl z2) = o1 -> Jn K1 [(12,oL 3 Aq z2)]:=by
  intro z2 h σ' hk
  subst h
  replace h:=hr1
  try dsimp only at h
  exact hK1 _ (lh hk rfl (rn 1 rfl (Af ((by cases h; exact ⟨.inl rfl,rfl⟩)))))
 refine Ax (fun (s : (List Int) × Int) => match s with | (y1,y2) => [(1,dL Aq a1),(2,dL Aq a2),(3,dL Aq a3),(4,dL Aq a4),(12,oL 3 Aq y1),(18,dL Aq a0),(19,nI (List.length a0 : Int)),(20,nI y2)]) _ _ _ _ hl (okr rfl) (fun _ => rfl) ?_
 rintro m ⟨y1,y2⟩ N h hN
 unfold Dx at h
 dsimp only at h
 refine rn 1 rfl (Ac fun K3 hK3 => ?_)
 rcases Ab h with ⟨g4,h⟩ | ⟨g4,h⟩
 ·refine qT rfl g4 (Ae (hK3 _ (Ac fun K5 hK5 => Au (rs ?_))))
  obtain ⟨e6,g7,h⟩:=Aa h
  refine qI rfl AH g7 (sp 2 rfl (evn (rs (sp 2 rfl (?_)))))
  obtain ⟨v8,g9,h⟩:=Aa h
  refine qC (qa rfl (erD Am _) (qs rfl Ar)) (H0 g9) (sp 2 rfl (?_))
  obtain ⟨v10,g11,h⟩:=Aa h
  refine qC (qa rfl (erD Am _) (qs rfl Ar)) (H0 g11) (sp 2 rfl (evn (Au (rdk (by kernel_rfl) fun K12 hK12 => ?_))))
  have kJ2 : ∀ {x13 : Bool},Fk (Al (Dx a0 a1 a2 a3 a4) m) a2 a4 y1 y2 v8 v10 x13 = some o1 -> Jn K12 [(1,dL Aq a1),(2,dL Aq a2),(3,dL Aq a3),(4,dL Aq a4),(12,oL 3 Aq y1),(15,nI v8),(16,nI v10),(18,dL Aq a0),(19,nI (List.length a0 : Int)),(20,nI y2),(37,.bool x13)]:=by
   intro x13 h σ' hk
   unfold Fk at h
   refine hK12 _ (lh hk rfl ?_)
   rcases Ab h with ⟨g14,h⟩ | ⟨g14,h⟩
   ·exact qT rfl g14 (rn 1 rfl (Af ((by cases h; cases hr1; exact ⟨.inl rfl,rfl⟩))))
   ·refine qF rfl g14 (rn 1 rfl ?_)
    have kJ3 : ∀ {x15 : List Int},Gi (Al (Dx a0 a1 a2 a3 a4) m) y2 x15 = some o1 -> Jn K5 [(1,dL Aq a1),(2,dL Aq a2),(3,dL Aq a3),(4,dL Aq a4),(12,oL 3 Aq x15),(18,dL Aq a0),(19,nI (List.length a0 : Int)),(20,nI y2)]:=by
     intro x15 h σ' hk
     unfold Gi at h
     exact hK5 _ (lh hk rfl (rg (sp 2 rfl (evn (hN _ _ h (okr rfl))))))
    rcases Ab h with ⟨g16,h⟩ | ⟨g16,h⟩
    ·refine qT rfl g16 (rg (sp 3 rfl (?_)))
     obtain ⟨e17,g18,h⟩:=Aa h
     refine qI rfl AH g18 (sp 1 rfl (qBs Aq [e17] rfl rfl rfl AH (?_)))
     obtain ⟨g19,h⟩:=Ah h
     exact qA Aq y1 [e17] rfl rfl (Ap AH [e17]) rfl g19 (sp 1 rfl (evn (kJ3 h _ (okr rfl))))
    ·refine qF rfl g16 (rg (sp 3 rfl (?_)))
     obtain ⟨e20,g21,h⟩:=Aa h
     refine qI rfl AH g21 (sp 1 rfl (qBs Aq [e20] rfl rfl rfl AH (?_)))
     obtain ⟨g22,h⟩:=Ah h
     exact qA Aq y1 [e20] rfl rfl (Ap AH [e20]) rfl g22 (sp 1 rfl (evn (kJ3 h _ (okr rfl))))
  refine sd 3 rfl (?_)
  rcases Ab h with ⟨g23,h⟩ | ⟨g23,h⟩
  ·refine qgd 40 g23 rfl (sd 4 rfl (?_))
   rcases Ab h with ⟨g24,h⟩ | ⟨g24,h⟩
   ·refine qgd 44 g24 rfl (sd 2 rfl (?_))
    obtain ⟨e25,g26,h⟩:=Aa h
    refine ed rfl (oGR rfl rfl (qI rfl AH g26 (sd 3 rfl (?_))))
    obtain ⟨e27,g28,h⟩:=Aa h
    exact ed rfl (oGR rfl rfl (qI rfl AH g28 (sd 4 rfl (BB (kJ2 h _ (okr rfl))))))
   ·exact qgd 44 g24 rfl (sd 11 rfl (BB (kJ2 h _ (okr rfl))))
  ·exact qgd 40 g23 rfl (sd 15 rfl (BB (kJ2 h _ (okr rfl))))
 ·exact qF rfl g4 (An (kXB1 (Option.some.inj h) _ (okr rfl)))
def Eh (rec : ((List (List Int)) × Int) -> Option ((List (List Int)))) (y27 : Int) (x31 : List (List Int)) : Option ((List (List Int))):=rec (x31,(IntKind.i64.wrap (y27 + 1)))
def Di (y10 : List Int) (v12 : Vz) (v14 : (List Int)) (e21 : List Int) (rec : ((List (List Int)) × Int) -> Option ((List (List Int)))) (s : (List (List Int)) × Int) : Option ((List (List Int))):=match s with
  | (y26,y27) => cond (decide (y27 < (List.length v12.2.2 : Int))) (Ad (AK v12.2.2 y27) fun e27 => Ad (Kf v14 y10 e21 v12.1 e27) fun v29 => cond v29.2 (chk (List.length y26 + List.length [v29.1] <= lim) (Eh rec y27 (y26 ++ [v29.1]))) (Eh rec y27 y26)) (some y26)
def Dh (y9 : List (List Int)) (y10 : List Int) (v12 : Vz) (v14 : (List Int)) (rec : ((List (List Int)) × Int) -> Option ((List (List Int)))) (s : (List (List Int)) × Int) : Option ((List (List Int))):=match s with
  | (y22,y23) => cond (decide (y23 < (List.length y9 : Int))) (Ad (AK y9 y23) fun e21 => Ad (Al (Di y10 v12 v14 e21) fz (y22,0)) fun z23 => rec (z23,(IntKind.i64.wrap (y23 + 1)))) (some y22)
def FN (a0 : List Y88) (a1 : Y51) (rec : ((List (List Int)) × (List Int) × Int) -> Option ((List (List Int)))) (s : (List (List Int)) × (List Int) × Int) : Option ((List (List Int))):=match s with
  | (y9,y10,y11) => cond (decide (y11 < (List.length a1.2.1 : Int))) (Ad (AK a1.2.1 y11) fun e10 => Ad (Gw a0 e10) fun v12 => Ad (Jt y10 v12.1) fun v14 => Ad (Al (Dh y9 y10 v12 v14) fz (([] : List (List Int)),0)) fun z17 => rec (z17,v14,(IntKind.i64.wrap (y11 + 1)))) (some y9)
def Ew (a0 : List Y88) (a1 : Y51) : Option (Y32 × Bool):=Ad (Gf a0 a1) fun v2 => cond (!v2) (some ((0,[]),false)) (Ad (Al (FN a0 a1) fz (([[]]),([] : List Int),0)) fun z6 => Ad (IR z6) fun v34 => Ad (AC (a1.1,v34)) fun v37 => cond (!v37) (some ((0,[]),false)) (some ((a1.1,v34),true)))
theorem NH {a0 : List Y88} {a1 : Y51} {r : Y32 × Bool} (h : Ew a0 a1 = some r) : Ai Tryz.prog 103 [.agg [dL AB a0],.agg (Dg a1)] (.tup [.agg (GI r.1),.bool r.2]):=by
 unfold Ew at h
 refine st aE rfl (rn 1 rfl (Ac fun K1 hK1 => rs (sp 2 rfl (?_))))
 obtain ⟨v2,g3,h⟩:=Aa h
 refine qC (qa rfl (erg (erc (erD AM _) rfl)) (qa rfl (erg (erc rfl (erc (erD Bl _) (erc (erD Am _) rfl)))) Ar)) (Mm g3) (sp 1 rfl (evn ?_))
 rcases Ab h with ⟨g4,h⟩ | ⟨g4,h⟩
 ·exact qT rfl g4 (rn 1 rfl (Af ((by cases h; exact ⟨.inl rfl,rfl⟩))))
 ·refine qF rfl g4 (Ae (hK1 _ (rs (qBs Aq [] rfl rfl rfl AH (qBs Ag [[]] rfl rfl rfl AW (sp 1 rfl (evn (rs (qBs Aq [] rfl rfl rfl AH (sp 1 rfl (evn (Ac fun K5 hK5 => rn 1 rfl ?_))))))))))))
  obtain ⟨o1,hl,hr1⟩:=Aa h
  have kXB1 : ∀ {z6 : List (List Int)},z6 = o1 -> Jn K5 [(3,.box [nI a1.1,dL Bk a1.2.1,dL Aq a1.2.2]),(4,.box [nI 0,oL 42 Ag []]),(6,oL 42 Ag z6)]:=by
   intro z6 h σ' hk
   subst h
   replace h:=hr1
   try dsimp only at h
   refine hK5 _ (lh hk rfl (rd (by kernel_rfl) (sd 3 rfl (?_))))
   obtain ⟨v34,g35,h⟩:=Aa h
   refine ed rfl (qC (qa rfl (erD AS _) Ar) (JO g35) (sd 3 rfl (BB (Ac fun K36 hK36 => rs (sp 1 rfl (?_))))))
   obtain ⟨v37,g38,h⟩:=Aa h
   refine qC (qa rfl (erg (erc rfl (erc (erD AS _) rfl))) Ar) (AP g38) (sp 1 rfl (evn ?_))
   rcases Ab h with ⟨g39,h⟩ | ⟨g39,h⟩
   ·exact qT rfl g39 (rn 1 rfl (Af ((by cases h; exact ⟨.inl rfl,rfl⟩))))
   ·exact qF rfl g39 (Ae (hK36 _ (rn 1 rfl (Af ((by cases h; exact ⟨.inl rfl,rfl⟩))))))
  refine Ax (fun (s : (List (List Int)) × (List Int) × Int) => match s with | (y9,y10,y11) => [(2,.box [dL AB a0]),(3,.box [nI a1.1,dL Bk a1.2.1,dL Aq a1.2.2]),(4,.box [nI 0,oL 42 Ag []]),(6,oL 42 Ag y9),(7,oL 3 Aq y10),(29,dL Bk a1.2.1),(30,nI (List.length a1.2.1 : Int)),(31,nI y11)]) _ _ _ _ hl (okr rfl) (fun _ => rfl) ?_
  rintro m ⟨y9,y10,y11⟩ N h hN
  unfold FN at h
  dsimp only at h
  refine rn 1 rfl (Ac fun K7 hK7 => ?_)
  rcases Ab h with ⟨g8,h⟩ | ⟨g8,h⟩
  ·refine qT rfl g8 (Ae (hK7 _ (Ac fun K9 hK9 => Au (rs ?_))))
   obtain ⟨e10,g11,h⟩:=Aa h
   refine qI rfl FE g11 (sp 3 rfl (evn (rs (sp 2 rfl (?_)))))
   obtain ⟨v12,g13,h⟩:=Aa h
   refine qC (qa rfl (erg (erc (erD AM _) rfl)) (qa rfl (erg (erc rfl (erc (erD Am _) rfl))) Ar)) (KZ g13) (sp 2 rfl (evn (rn 1 rfl (rs (sp 3 rfl (?_))))))
   obtain ⟨v14,g15,h⟩:=Aa h
   refine qC (qa rfl (erD Am _) (qa rfl (erD Am _) Ar)) (Qc g15) (sp 1 rfl (evn (Ac fun K16 hK16 => rn 1 rfl (qk [2,3,4,7,10,11,12,29,30,31,42,43,44] rfl ?_))))
   obtain ⟨o2,hl,hr2⟩:=Aa h
   have kXB2 : ∀ {z17 : List (List Int)},z17 = o2 -> Jn K16 [(2,.box [dL AB a0]),(3,.box [nI a1.1,dL Bk a1.2.1,dL Aq a1.2.2]),(4,.box [nI 0,oL 42 Ag []]),(11,oL 42 Ag z17),(12,oL 3 Aq v14),(29,dL Bk a1.2.1),(30,nI (List.length a1.2.1 : Int)),(31,nI y11)]:=by
    intro z17 h σ' hk
    subst h
    replace h:=hr2
    try dsimp only at h
    exact hK16 _ (lh hk rfl (rn 1 rfl (rg (sp 2 rfl (evn (hK9 _ (rg (sp 2 rfl (evn (hN _ _ h (okr rfl)))))))))))
   refine Ax (fun (s : (List (List Int)) × Int) => match s with | (y22,y23) => [(2,.box [dL AB a0]),(3,.box [nI a1.1,dL Bk a1.2.1,dL Aq a1.2.2]),(4,.box [nI 0,oL 42 Ag []]),(7,oL 3 Aq y10),(10,.box [oL 3 Aq v12.1,nI v12.2.1,oL 42 Ag v12.2.2]),(11,oL 42 Ag y22),(12,oL 3 Aq v14),(29,dL Bk a1.2.1),(30,nI (List.length a1.2.1 : Int)),(31,nI y11),(42,dL Ag y9),(43,nI (List.length y9 : Int)),(44,nI y23)]) _ _ _ _ hl (okr rfl) (fun _ => rfl) ?_
   rintro m ⟨y22,y23⟩ N h hN
   unfold Dh at h
   dsimp only at h
   refine rn 1 rfl (Ac fun K18 hK18 => ?_)
   rcases Ab h with ⟨g19,h⟩ | ⟨g19,h⟩
   ·refine qT rfl g19 (Ae (hK18 _ (Ac fun K20 hK20 => Au (rs ?_))))
    obtain ⟨e21,g22,h⟩:=Aa h
    refine qI rfl AW g22 (sp 2 rfl (evn (rn 1 rfl ?_)))
    obtain ⟨o3,hl,hr3⟩:=Aa h
    have kXB3 : ∀ {z23 : List (List Int)},z23 = o3 -> Jn K20 [(2,.box [dL AB a0]),(3,.box [nI a1.1,dL Bk a1.2.1,dL Aq a1.2.2]),(4,.box [nI 0,oL 42 Ag []]),(7,oL 3 Aq y10),(10,.box [oL 3 Aq v12.1,nI v12.2.1,oL 42 Ag v12.2.2]),(11,oL 42 Ag z23),(12,oL 3 Aq v14),(29,dL Bk a1.2.1),(30,nI (List.length a1.2.1 : Int)),(31,nI y11),(42,dL Ag y9),(43,nI (List.length y9 : Int)),(44,nI y23)]:=by
     intro z23 h σ' hk
     subst h
     replace h:=hr3
     try dsimp only at h
     exact hK20 _ (lh hk rfl (rg (sp 2 rfl (evn (hN _ _ h (okr rfl))))))
    refine Ax (fun (s : (List (List Int)) × Int) => match s with | (y26,y27) => [(2,.box [dL AB a0]),(3,.box [nI a1.1,dL Bk a1.2.1,dL Aq a1.2.2]),(4,.box [nI 0,oL 42 Ag []]),(7,oL 3 Aq y10),(10,.box [oL 3 Aq v12.1,nI v12.2.1,oL 42 Ag v12.2.2]),(11,oL 42 Ag y26),(12,oL 3 Aq v14),(14,dL Aq e21),(29,dL Bk a1.2.1),(30,nI (List.length a1.2.1 : Int)),(31,nI y11),(42,dL Ag y9),(43,nI (List.length y9 : Int)),(44,nI y23),(50,dL Ag v12.2.2),(51,nI (List.length v12.2.2 : Int)),(52,nI y27)]) _ _ _ _ hl (okr rfl) (fun _ => rfl) ?_
    rintro m ⟨y26,y27⟩ N h hN
    unfold Di at h
    dsimp only at h
    refine rn 1 rfl (Ac fun K24 hK24 => ?_)
    rcases Ab h with ⟨g25,h⟩ | ⟨g25,h⟩
    ·refine qT rfl g25 (Ae (hK24 _ (Ac fun K26 hK26 => Au (rs ?_))))
     obtain ⟨e27,g28,h⟩:=Aa h
     refine qI rfl AW g28 (sp 2 rfl (evn (rs (sp 6 rfl (?_)))))
     obtain ⟨v29,g30,h⟩:=Aa h
     refine qC (qa rfl (erD Am _) (qa rfl (erD Am _) (qa rfl (erD Am _) (qa rfl (erD Am _) (qa rfl (erD Am _) Ar))))) (Rg g30) (sp 5 rfl (evn (rn 1 rfl ?_)))
     have kJ4 : ∀ {x31 : List (List Int)},Eh (Al (Di y10 v12 v14 e21) m) y27 x31 = some o3 -> Jn K26 [(2,.box [dL AB a0]),(3,.box [nI a1.1,dL Bk a1.2.1,dL Aq a1.2.2]),(4,.box [nI 0,oL 42 Ag []]),(7,oL 3 Aq y10),(10,.box [oL 3 Aq v12.1,nI v12.2.1,oL 42 Ag v12.2.2]),(11,oL 42 Ag x31),(12,oL 3 Aq v14),(14,dL Aq e21),(29,dL Bk a1.2.1),(30,nI (List.length a1.2.1 : Int)),(31,nI y11),(42,dL Ag y9),(43,nI (List.length y9 : Int)),(44,nI y23),(50,dL Ag v12.2.2),(51,nI (List.length v12.2.2 : Int)),(52,nI y27)]:=by
      intro x31 h σ' hk
      unfold Eh at h
      exact hK26 _ (lh hk rfl (rg (sp 2 rfl (evn (hN _ _ h (okr rfl))))))
     rcases Ab h with ⟨g32,h⟩ | ⟨g32,h⟩
     ·refine qT rfl g32 (rg (sp 2 rfl (qBs Ag [v29.1] rfl rfl rfl AW (?_))))
      obtain ⟨g33,h⟩:=Ah h
      exact qA Ag y26 [v29.1] rfl rfl (Ap AW [v29.1]) rfl g33 (sp 1 rfl (evn (kJ4 h _ (okr rfl))))
     ·exact qF rfl g32 (Ae (kJ4 h _ (okr rfl)))
    ·exact qF rfl g25 (An (kXB3 (Option.some.inj h) _ (okr rfl)))
   ·exact qF rfl g19 (An (kXB2 (Option.some.inj h) _ (okr rfl)))
  ·exact qF rfl g8 (An (kXB1 (Option.some.inj h) _ (okr rfl)))
def Bw (a0 : Y32) (rec : ((List Int) × Int) -> Option ((List Int))) (s : (List Int) × Int) : Option ((List Int)):=match s with
  | (y1,y2) => cond (decide (y2 < (List.length a0.2 : Int))) (chk (List.length y1 + List.length [1] <= lim) (rec ((y1 ++ [1]),(IntKind.i64.wrap (y2 + 1))))) (some y1)
def Cb (a0 : Y32) : Option (Y43 × Bool):=Ad (AC a0) fun v2 => cond (!v2) (some ((0,[],[]),false)) (Ad (CU a0.2) fun v5 => Ad (Al (Bw a0) fz (([] : List Int),0)) fun z8 => some ((a0.1,v5,z8),true))
theorem IZ {a0 : Y32} {r : Y43 × Bool} (h : Cb a0 = some r) : Ai Tryz.prog 104 [.agg (ER a0)] (.tup [.agg (Av r.1),.bool r.2]):=by
 unfold Cb at h
 refine st aF rfl (rn 1 rfl (Ac fun K1 hK1 => rs (sp 1 rfl (?_))))
 obtain ⟨v2,g3,h⟩:=Aa h
 refine qC (qa rfl (erg (erc rfl (erc (erD As _) rfl))) Ar) (AP g3) (sp 1 rfl (evn ?_))
 rcases Ab h with ⟨g4,h⟩ | ⟨g4,h⟩
 ·exact qT rfl g4 (rn 1 rfl (Af ((by cases h; exact ⟨.inl rfl,rfl⟩))))
 ·refine qF rfl g4 (Ae (hK1 _ (rd (by kernel_rfl) (sd 4 rfl (?_)))))
  obtain ⟨v5,g6,h⟩:=Aa h
  refine ed rfl (qC (qa rfl (erD As _) Ar) (E5 g6) (sd 3 rfl (BB (Ac fun K7 hK7 => rn 1 rfl ?_))))
  obtain ⟨o1,hl,hr1⟩:=Aa h
  have kXB1 : ∀ {z8 : List Int},z8 = o1 -> Jn K7 [(2,.box [nI 0,oL 42 Ag [],oL 3 Aq []]),(4,.box [nI a0.1,oL 42 Ag v5,oL 3 Aq z8])]:=by
   intro z8 h σ' hk
   subst h
   replace h:=hr1
   try dsimp only at h
   exact hK7 _ (lh hk rfl (rn 1 rfl (Af ((by cases h; exact ⟨.inl rfl,rfl⟩)))))
  refine Ax (fun (s : (List Int) × Int) => match s with | (y1,y2) => [(2,.box [nI 0,oL 42 Ag [],oL 3 Aq []]),(4,.box [nI a0.1,oL 42 Ag v5,oL 3 Aq y1]),(17,nI (List.length a0.2 : Int)),(18,nI y2)]) _ _ _ _ hl (okr rfl) (fun _ => rfl) ?_
  rintro m ⟨y1,y2⟩ N h hN
  unfold Bw at h
  dsimp only at h
  refine rn 1 rfl (Ac fun K9 hK9 => ?_)
  rcases Ab h with ⟨g10,h⟩ | ⟨g10,h⟩
  ·refine qT rfl g10 (Ae (hK9 _ (Ac fun K11 hK11 => Au (rg (sp 2 rfl (qBs Aq [1] rfl rfl rfl AH (?_)))))))
   obtain ⟨g12,h⟩:=Ah h
   exact qA Aq y1 [1] rfl rfl (Ap AH [1]) rfl g12 (sp 2 rfl (evn (hK11 _ (rg (sp 2 rfl (evn (hN _ _ h (okr rfl))))))))
  ·exact qF rfl g10 (An (kXB1 (Option.some.inj h) _ (okr rfl)))
def DZ (a0 : Y43) (rec : Int -> Option (Sum (Unit) (Bool))) (y1 : Int) : Option (Sum (Unit) (Bool)):=cond (decide (y1 < (List.length a0.2.2 : Int))) (Ad (AK a0.2.2 y1) fun e10 => cond (e10 == 0) (some (.inr false)) (Ad (Ck e10 (-1000000) 1000000) fun v13 => cond (!v13) (some (.inr false)) (rec (IntKind.i64.wrap (y1 + 1))))) (some (.inl ()))
def AX (a0 : Y43) : Option (Bool):=Ad (EL a0.1 a0.2.1) fun v2 => cond (!v2) (some false) (cond ((List.length a0.2.2 : Int) != (List.length a0.2.1 : Int)) (some false) (Ad (Al (DZ a0) fz 0) fun o1 => (match o1 with
  | .inl _ => (some true)
  | .inr r => some r)))
theorem Cc {a0 : Y43} {r : Bool} (h : AX a0 = some r) : Ai Tryz.prog 64 [.agg (A7 a0)] (.bool r):=by
 unfold AX at h
 refine st fF rfl (rn 1 rfl (Ac fun K1 hK1 => rs (sp 4 rfl (?_))))
 obtain ⟨v2,g3,h⟩:=Aa h
 refine qC (qs rfl (qa rfl (erD As _) Ar)) (J0 g3) (sp 2 rfl (?_))
 rcases Ab h with ⟨g4,h⟩ | ⟨g4,h⟩
 ·exact qg 11 g4 rfl (sp 8 rfl (evn (qT rfl rfl (rn 1 rfl (Af ((by cases h; exact ⟨.inl rfl,rfl⟩)))))))
 ·refine qg 11 g4 rfl (sp 8 rfl (evn ?_))
  rcases Ab h with ⟨g5,h⟩ | ⟨g5,h⟩
  ·exact qT rfl g5 (rn 1 rfl (qk [2] rfl (Af ((by cases h; exact ⟨.inl rfl,rfl⟩)))))
  ·refine qF rfl g5 (Ae (hK1 _ (Ac fun K6 hK6 => rn 1 rfl ?_)))
   obtain ⟨o1,hl,hr1⟩:=Aa h
   have kXB1 : (.inl ()) = o1 -> Jn K6 []:=by
    intro h σ' hk
    subst h
    replace h:=hr1
    try dsimp only at h
    exact hK6 _ (lh hk rfl (rn 1 rfl (Af ((by cases h; exact ⟨.inl rfl,rfl⟩)))))
   refine Ax (fun (y1 : Int) => [(21,dL Aq a0.2.2),(22,nI (List.length a0.2.2 : Int)),(23,nI y1)]) _ _ _ _ hl (okr rfl) (fun _ => rfl) ?_
   rintro m y1 N h hN
   unfold DZ at h
   refine rn 1 rfl (Ac fun K7 hK7 => ?_)
   rcases Ab h with ⟨g8,h⟩ | ⟨g8,h⟩
   ·refine qT rfl g8 (Ae (hK7 _ (Ac fun K9 hK9 => Au (rs ?_))))
    obtain ⟨e10,g11,h⟩:=Aa h
    refine qI rfl AH g11 (sp 2 rfl (evn (rs (sp 3 rfl (?_)))))
    rcases Ab h with ⟨g12,h⟩ | ⟨g12,h⟩
    ·exact qg 29 g12 rfl (sp 4 rfl (evn (qT rfl rfl (rn 1 rfl (Af ((by cases h; cases hr1; exact ⟨.inl rfl,rfl⟩)))))))
    ·refine qg 29 g12 rfl (sp 1 rfl (?_))
     obtain ⟨v13,g14,h⟩:=Aa h
     refine oGR rfl rfl (qC (qs rfl (qs rfl (qs rfl Ar))) (CY g14) (sp 2 rfl (evn ?_)))
     rcases Ab h with ⟨g15,h⟩ | ⟨g15,h⟩
     ·exact qT rfl g15 (rn 1 rfl (qk [2] rfl (Af ((by cases h; cases hr1; exact ⟨.inl rfl,rfl⟩)))))
     ·exact qF rfl g15 (Ae (hK9 _ (rg (sp 2 rfl (evn (hN _ _ h (okr rfl)))))))
   ·exact qF rfl g8 (An (kXB1 (Option.some.inj h) _ trivial))
def Hs (a0 : List (List Int)) (a1 : List Int) (rec : (Int × Int) -> Option (Int)) (s : Int × Int) : Option (Int):=match s with
  | (y1,y2) => cond (decide (y1 < y2)) (Ad (AK a0 (IntKind.i64.wrap (Int.tdiv (IntKind.i64.wrap (y1 + y2)) 2))) fun e5 => Ad (Cv e5 a1) fun v7 => cond (decide (v7 < 0)) (rec ((IntKind.i64.wrap ((IntKind.i64.wrap (Int.tdiv (IntKind.i64.wrap (y1 + y2)) 2)) + 1)),y2)) (rec (y1,(IntKind.i64.wrap (Int.tdiv (IntKind.i64.wrap (y1 + y2)) 2))))) (some y1)
def Ht (z2 : Int) (x11 : Bool) : Option (Int × Bool):=some (z2,x11)
def HR (a0 : List (List Int)) (a1 : List Int) : Option (Int × Bool):=Ad (Al (Hs a0 a1) fz (0,(List.length a0 : Int))) fun z2 => cond (decide (z2 < (List.length a0 : Int))) (Ad (AK a0 z2) fun e13 => Ad (Cv e13 a1) fun v15 => Ht z2 (v15 == 0)) (Ht z2 false)
theorem MC {a0 : List (List Int)} {a1 : List Int} {r : Int × Bool} (h : HR a0 a1 = some r) : Ai Tryz.prog 107 [dL AG a0,dL Aq a1] (.tup [nI r.1,.bool r.2]):=by
 unfold HR at h
 refine st aI rfl (rn 2 rfl (Ac fun K1 hK1 => ?_))
 obtain ⟨o1,hl,hr1⟩:=Aa h
 have kXB1 : ∀ {z2 : Int},z2 = o1 -> Jn K1 [(0,dL AG a0),(1,dL Aq a1),(6,nI z2)]:=by
  intro z2 h σ' hk
  subst h
  replace h:=hr1
  try dsimp only at h
  refine hK1 _ (lh hk rfl (rk fun K10 hK10 => ?_))
  have kJ2 : ∀ {x11 : Bool},Ht z2 x11 = some r -> Jn K10 [(4,nI z2),(5,.bool x11)]:=by
   intro x11 h σ' hk
   unfold Ht at h
   exact hK10 _ (lh hk rfl (Af ((by cases h; exact ⟨.inl rfl,rfl⟩))))
  refine sp 6 rfl (?_)
  rcases Ab h with ⟨g12,h⟩ | ⟨g12,h⟩
  ·refine qg 33 g12 rfl (sp 2 rfl (?_))
   obtain ⟨e13,g14,h⟩:=Aa h
   refine oGR rfl rfl (qI rfl Bv g14 (sp 2 rfl (?_)))
   obtain ⟨v15,g16,h⟩:=Aa h
   exact oGR rfl rfl (qC (qa rfl (erD Am _) (qa rfl (erD Am _) Ar)) (F3 g16) (sp 4 rfl (evn (kJ2 h _ (okr rfl)))))
  ·exact qg 33 g12 rfl (sp 10 rfl (evn (kJ2 h _ (okr rfl))))
 refine Ax (fun (s : Int × Int) => match s with | (y1,y2) => [(0,dL AG a0),(1,dL Aq a1),(6,nI y1),(7,nI y2)]) _ _ _ _ hl (okr rfl) (fun _ => rfl) ?_
 rintro m ⟨y1,y2⟩ N h hN
 unfold Hs at h
 dsimp only at h
 refine Ac fun K3 hK3 => rn 1 rfl ?_
 rcases Ab h with ⟨g4,h⟩ | ⟨g4,h⟩
 ·refine qT rfl g4 (Ae (hK3 _ (Au (rn 1 rfl (rs (sp 2 rfl (?_)))))))
  obtain ⟨e5,g6,h⟩:=Aa h
  refine qI rfl Bv g6 (sp 2 rfl (?_))
  obtain ⟨v7,g8,h⟩:=Aa h
  refine qC (qa rfl (erD Am _) (qa rfl (erD Am _) Ar)) (F3 g8) (sp 1 rfl (evn ?_))
  rcases Ab h with ⟨g9,h⟩ | ⟨g9,h⟩
  ·exact qT rfl g9 (rg (sp 3 rfl (evn (hN _ _ h (okr rfl)))))
  ·exact qF rfl g9 (rg (sp 2 rfl (evn (hN _ _ h (okr rfl)))))
 ·exact qF rfl g4 (An (kXB1 (Option.some.inj h) _ (okr rfl)))
def GA (a0 : Y43) (a1 : List Int) (a2 : Int) : Option (Y43):=Ad (HR a0.2.1 a1) fun v1 => cond v1.2 (chk (0 < List.length a0.2.2) (Ad (AK a0.2.2 v1.1) fun e7 => Ad (AK a0.2.2 v1.1) fun e9 => some (a0.1,a0.2.1,It a0.2.2 v1.1 (IntKind.i64.wrap (e7 + a2))))) (chk ((0 : Int) <= 0 ∧ 0 <= v1.1 ∧ v1.1 <= (List.length (AA 0 a0.2.1) : Int)) (chk (List.length ([] : List (Nat × (List Int))) + List.length (BX (AA 0 a0.2.1) 0 v1.1) <= lim) (Ad (A8 a1) fun v13 => chk (List.length (HL (([] : List (Nat × (List Int))) ++ (BX (AA 0 a0.2.1) 0 v1.1))) + List.length (M0 ([v13] : List (List Int))) <= lim) (chk ((0 : Int) <= v1.1 ∧ v1.1 <= (List.length (AA 0 a0.2.1) : Int) ∧ (List.length (AA 0 a0.2.1) : Int) <= (List.length (AA 0 a0.2.1) : Int)) (chk (List.length ((HL (([] : List (Nat × (List Int))) ++ (BX (AA 0 a0.2.1) 0 v1.1))) ++ (M0 ([v13] : List (List Int)))) + List.length (HL (BX (AA 0 a0.2.1) v1.1 (List.length (AA 0 a0.2.1) : Int))) <= lim) (chk (okJ (a0.2.1) (((HL (([] : List (Nat × (List Int))) ++ (BX (AA 0 a0.2.1) 0 v1.1))) ++ (M0 ([v13] : List (List Int)))) ++ (HL (BX (AA 0 a0.2.1) v1.1 (List.length (AA 0 a0.2.1) : Int)))) [] = true) (chk ((0 : Int) <= 0 ∧ 0 <= v1.1 ∧ v1.1 <= (List.length a0.2.2 : Int)) (Ad (A8 (BX a0.2.2 0 v1.1)) fun v20 => chk (List.length v20 + List.length [a2] <= lim) (chk ((0 : Int) <= v1.1 ∧ v1.1 <= (List.length a0.2.2 : Int) ∧ (List.length a0.2.2 : Int) <= (List.length a0.2.2 : Int)) (chk (List.length (v20 ++ [a2]) + List.length (BX a0.2.2 v1.1 (List.length a0.2.2 : Int)) <= lim) (some (a0.1,List.map getM (((HL (([] : List (Nat × (List Int))) ++ (BX (AA 0 a0.2.1) 0 v1.1))) ++ (M0 ([v13] : List (List Int)))) ++ (HL (BX (AA 0 a0.2.1) v1.1 (List.length (AA 0 a0.2.1) : Int)))),(v20 ++ [a2]) ++ (BX a0.2.2 v1.1 (List.length a0.2.2 : Int))))))))))))))
theorem MD {a0 : Y43} {a1 : List Int} {a2 : Int} {r : Y43} (h : GA a0 a1 a2 = some r) : XN Tryz.prog 65 [nI a0.1,oL 42 Ag a0.2.1,oL 3 Aq a0.2.2] [dL Aq a1,nI a2] [nI r.1,oL 42 Ag r.2.1,oL 3 Aq r.2.2]:=by
 unfold GA at h
 refine jc fG rfl rfl (OX (F9 (fun _ => rfl) _) (OX rfl rfl)) (mvv (J8 (fun _ => rfl) _) (mvv rfl rfl)) (dcc rfl (dcc (dco CH 42 _) (dcc (dco (fun _ => rfl) 3 _) dcn))) (dcc rfl (dcc (dco CH 42 _) (dcc (dco (fun _ => rfl) 3 _) dcn))) (rs (sp 5 rfl (?_)))
 obtain ⟨v1,g2,h⟩:=Aa h
 refine qC (qa rfl (erD AS _) (qa rfl (erG Am _) Ar)) (MC g2) (sp 5 rfl (evn (Ac fun K3 hK3 => rn 1 rfl ?_)))
 rcases Ab h with ⟨g4,h⟩ | ⟨g4,h⟩
 ·refine qT rfl g4 (qk [0,2,6] rfl ?_)
  obtain ⟨g5,h⟩:=Ah h
  refine Ih (gLb (q:=900003) (b:=0) [nI a0.1,oL 42 Ag a0.2.1] [] rfl rfl rfl g5 ?_)
  intro gg6 mm6
  refine qk [0,2,6,900003] rfl (rs (sp 5 rfl (?_)))
  obtain ⟨e7,g8,h⟩:=Aa h
  refine qIt rfl rfl rfl rfl g8 (?_)
  refine qLe (i:=v1.1) (es:=1) (q:=900003) 0 rfl rfl rfl rfl rfl rfl AH g8 rfl rfl (?_)
  refine sp 2 rfl (?_)
  obtain ⟨e9,g10,h⟩:=Aa h
  refine qIt rfl rfl rfl rfl g10 (?_)
  refine qSt (y0:=e9) (i:=v1.1) (es:=1) 0 (IntKind.i64.wrap (e7 + a2)) [0] rfl rfl rfl rfl rfl rfl rfl rfl rfl rfl AH g10 (fun _ => rfl) (sdL (dcc rfl dcn)) (yc (snc rfl (snc (sO (dco CH 42 _)) (snc rfl rfl))) yn) (?_)
  exact evn (Ih (gDb (q:=900003) (b:=0) [nI a0.1,oL 42 Ag a0.2.1] [] rfl rfl rfl (sl rfl) (qk [0] rfl (Af ((by cases h; exact ⟨.inl rfl,rfl,rfl⟩))))))
 ·refine qF rfl g4 (Ae (hK3 _ (qk [0,1,2,6] rfl (Ih (gSb (f:=Ag) (l:=a0.2.1) (q:=900001) (b:=0) [nI a0.1] [oL 3 Aq a0.2.2] rfl rfl rfl (fun _ => rfl) ?_)))))
  intro U us1 hU
  refine qk [0,1,2,6,900001] rfl (rd (by kernel_rfl) (sd 1 rfl (ed rfl (qBs Ag [] rfl rfl rfl AW (sd 5 rfl (?_))))))
  obtain ⟨g11,h⟩:=Ah h
  refine ed rfl (qSl rfl (zpE AW) g11 (?_))
  obtain ⟨g12,h⟩:=Ah h
  refine ed rfl (qA (pE Ag U) ([] : List (Nat × (List Int))) (BX (AA 0 a0.2.1) 0 v1.1) rfl rfl (Ap (zpE AW) (BX (AA 0 a0.2.1) 0 v1.1)) (Ps _) g12 (sd 1 rfl (?_)))
  obtain ⟨v13,g14,h⟩:=Aa h
  refine ed rfl (qC (qa rfl (erG Am _) Ar) (By g14) (ed rfl (qBs Ag [v13] rfl rfl rfl AW (?_))))
  obtain ⟨g15,h⟩:=Ah h
  refine ed rfl (qA2 (mE Ag U) (HL (([] : List (Nat × (List Int))) ++ (BX (AA 0 a0.2.1) 0 v1.1))) (M0 ([v13] : List (List Int))) rfl rfl (Ap AW [v13]) NP TQ Tj ZQ g15 (sd 5 rfl (?_)))
  obtain ⟨g16,h⟩:=Ah h
  refine ed rfl (qSl rfl (zpE AW) g16 (?_))
  obtain ⟨g17,h⟩:=Ah h
  refine ed rfl (qA2 (mE Ag U) ((HL (([] : List (Nat × (List Int))) ++ (BX (AA 0 a0.2.1) 0 v1.1))) ++ (M0 ([v13] : List (List Int)))) (HL (BX (AA 0 a0.2.1) v1.1 (List.length (AA 0 a0.2.1) : Int))) rfl rfl (Ap (zpE AW) (BX (AA 0 a0.2.1) v1.1 (List.length (AA 0 a0.2.1) : Int))) rfl rfl NP ((Ps _).trans TQ) g17 (sd 3 rfl (BB ?_)))
  obtain ⟨g18,h⟩:=Ah h
  refine Ih (gJb (f:=Ag) (l:=a0.2.1) (q:=900001) (b:=0) [nI a0.1] [oL 3 Aq a0.2.2] (((HL (([] : List (Nat × (List Int))) ++ (BX (AA 0 a0.2.1) 0 v1.1))) ++ (M0 ([v13] : List (List Int)))) ++ (HL (BX (AA 0 a0.2.1) v1.1 (List.length (AA 0 a0.2.1) : Int)))) rfl rfl rfl rfl (fun _ => rfl) hU g18 (qk [0,2,6] rfl (rgd (by kernel_rfl) (sd 6 rfl (?_)))))
  obtain ⟨g19,h⟩:=Ah h
  refine ed rfl (qSl rfl AH g19 (?_))
  obtain ⟨v20,g21,h⟩:=Aa h
  refine ed rfl (qC (qa rfl (erD Am _) Ar) (By g21) (sd 1 rfl (ed rfl (qBs Aq [a2] rfl rfl rfl AH (?_)))))
  obtain ⟨g22,h⟩:=Ah h
  refine ed rfl (qA Aq v20 [a2] rfl rfl (Ap AH [a2]) rfl g22 (sd 5 rfl (?_)))
  obtain ⟨g23,h⟩:=Ah h
  refine ed rfl (qSl rfl AH g23 (?_))
  obtain ⟨g24,h⟩:=Ah h
  exact ed rfl (qA Aq (v20 ++ [a2]) (BX a0.2.2 v1.1 (List.length a0.2.2 : Int)) rfl rfl (Ap AH (BX a0.2.2 v1.1 (List.length a0.2.2 : Int))) (GJ (fun _ => rfl) _) g24 (sd 3 rfl (BB ((by cases h; exact ⟨.inr rfl,rfl,rfl⟩)))))
def E7 (rec : ((List (Nat × (List Int))) × (List Int) × Int) -> Option ((List (Nat × (List Int))) × (List Int))) (y3 : Int) (x9 : List (Nat × (List Int))) (x10 : List Int) : Option ((List (Nat × (List Int))) × (List Int)):=rec (x9,x10,(IntKind.i64.wrap (y3 + 1)))
def DL (a0 : Int × (List (Nat × (List Int))) × (List Int)) (rec : ((List (Nat × (List Int))) × (List Int) × Int) -> Option ((List (Nat × (List Int))) × (List Int))) (s : (List (Nat × (List Int))) × (List Int) × Int) : Option ((List (Nat × (List Int))) × (List Int)):=match s with
  | (y1,y2,y3) => cond (decide (y3 < (List.length a0.2.2 : Int))) (Ad (AK a0.2.2 y3) fun e7 => cond (e7 != 0) (Ad (AK a0.2.1 y3) fun e12 => chk (List.length y1 + List.length [e12] <= lim) (chk (List.length y2 + List.length [e7] <= lim) (E7 rec y3 (y1 ++ [e12]) (y2 ++ [e7])))) (E7 rec y3 y1 y2)) (some (y1,y2))
def Fm (a0 : Int × (List (Nat × (List Int))) × (List Int)) : Option ((Int × (List (Nat × (List Int))) × (List Int))):=Ad (Al (DL a0) fz (([] : List (Nat × (List Int))),([] : List Int),0)) fun o1 => (match o1 with
  | (z2,z3) => (some (a0.1,z2,z3)))
theorem KQ {U : Nat -> Value} {a0 : Int × (List (Nat × (List Int))) × (List Int)} {r : (Int × (List (Nat × (List Int))) × (List Int))} (h : Fm a0 = some r) : Ai Tryz.prog 66 [.agg [nI a0.1,dL (pE Ag U) a0.2.1,dL Aq a0.2.2]] (.agg [nI r.1,oL 42 (pE Ag U) r.2.1,oL 3 Aq r.2.2]):=by
 unfold Fm at h
 refine st fH rfl (rn 2 rfl (Ac fun K1 hK1 => rn 1 rfl ?_))
 obtain ⟨o1,hl,hr1⟩:=Aa h
 have kXB1 : ∀ {z2 : List (Nat × (List Int))} {z3 : List Int},(z2,z3) = o1 -> Jn K1 [(2,.box [nI 0,oL 42 Ag [],oL 3 Aq []]),(3,.box [nI a0.1,oL 42 (pE Ag U) z2,oL 3 Aq z3])]:=by
  intro z2 z3 h σ' hk
  subst h
  replace h:=hr1
  try dsimp only at h
  exact hK1 _ (lh hk rfl (rn 1 rfl (Af ((by cases h; exact ⟨.inl rfl,rfl⟩)))))
 refine Ax (fun (s : (List (Nat × (List Int))) × (List Int) × Int) => match s with | (y1,y2,y3) => [(1,.box [nI a0.1,dL (pE Ag U) a0.2.1,dL Aq a0.2.2]),(2,.box [nI 0,oL 42 Ag [],oL 3 Aq []]),(3,.box [nI a0.1,oL 42 (pE Ag U) y1,oL 3 Aq y2]),(10,dL Aq a0.2.2),(11,nI (List.length a0.2.2 : Int)),(12,nI y3)]) _ _ _ _ hl (okr rfl) (fun _ => rfl) ?_
 rintro m ⟨y1,y2,y3⟩ N h hN
 unfold DL at h
 dsimp only at h
 refine rn 1 rfl (Ac fun K4 hK4 => ?_)
 rcases Ab h with ⟨g5,h⟩ | ⟨g5,h⟩
 ·refine qT rfl g5 (Ae (hK4 _ (Ac fun K6 hK6 => Au (rs (sp 1 rfl (?_))))))
  obtain ⟨e7,g8,h⟩:=Aa h
  refine qI rfl AH g8 (sp 3 rfl (evn (rn 1 rfl ?_)))
  have kJ2 : ∀ {x9 : List (Nat × (List Int))} {x10 : List Int},E7 (Al (DL a0) m) y3 x9 x10 = some o1 -> Jn K6 [(1,.box [nI a0.1,dL (pE Ag U) a0.2.1,dL Aq a0.2.2]),(2,.box [nI 0,oL 42 Ag [],oL 3 Aq []]),(3,.box [nI a0.1,oL 42 (pE Ag U) x9,oL 3 Aq x10]),(10,dL Aq a0.2.2),(11,nI (List.length a0.2.2 : Int)),(12,nI y3)]:=by
   intro x9 x10 h σ' hk
   unfold E7 at h
   exact hK6 _ (lh hk rfl (rg (sp 2 rfl (evn (hN _ _ h (okr rfl))))))
  rcases Ab h with ⟨g11,h⟩ | ⟨g11,h⟩
  ·refine qT rfl g11 (rd (by kernel_rfl) (sd 5 rfl (?_)))
   obtain ⟨e12,g13,h⟩:=Aa h
   refine ed rfl (qI rfl (zpE AW) g13 (sd 1 rfl (ed rfl (qBs (pE Ag U) [e12] rfl rfl rfl (zpE AW) (?_)))))
   obtain ⟨g14,h⟩:=Ah h
   refine ed rfl (qA (pE Ag U) y1 [e12] rfl rfl (Ap (zpE AW) [e12]) rfl g14 (sd 2 rfl (BB (rg (sp 3 rfl (qBs Aq [e7] rfl rfl rfl AH (?_)))))))
   obtain ⟨g15,h⟩:=Ah h
   exact qA Aq y2 [e7] rfl rfl (Ap AH [e7]) rfl g15 (sp 2 rfl (evn (kJ2 h _ (okr rfl))))
  ·exact qF rfl g11 (Ae (kJ2 h _ (okr rfl)))
 ·exact qF rfl g5 (An (kXB1 (Option.some.inj h) _ (okr rfl)))
def BV (a0 : Y43) (a1 : List Int) (rec : (Int × (List (List Int)) × (List Int) × Int) -> Option (Int × (List (List Int)) × (List Int))) (s : Int × (List (List Int)) × (List Int) × Int) : Option (Int × (List (List Int)) × (List Int)):=match s with
  | (y1,y2,y3,y4) => cond (decide (y4 < (List.length a0.2.1 : Int))) (Ad (AK a0.2.1 y4) fun e15 => Ad (IQ e15 a1) fun v17 => Ad (AK a0.2.2 y4) fun e19 => Ad (GA (y1,y2,y3) v17 e19) fun v21 => rec (v21.1,v21.2.1,v21.2.2,(IntKind.i64.wrap (y4 + 1)))) (some (y1,y2,y3))
def DK (a0 : Y43) (a1 : List Int) : Option (Y43 × Bool):=Ad (AX a0) fun v2 => cond (!v2) (some ((0,[],[]),false)) (Ad (C2 a0.1 a1) fun v5 => cond (!v5) (some ((0,[],[]),false)) (Ad (Al (BV a0 a1) fz ((List.length a1 : Int),([] : List (List Int)),([] : List Int),0)) fun o1 => (match o1 with
  | (z9,z10,z11) => (Ad (Fm (z9,AA 0 z10,z11)) fun v23 => chk (okJ (z10) (HL v23.2.1) [] = true) (Ad (AX (v23.1,List.map getM (HL v23.2.1),v23.2.2)) fun v27 => cond (!v27) (some ((0,[],[]),false)) (some ((v23.1,List.map getM (HL v23.2.1),v23.2.2),true)))))))
theorem Ke {a0 : Y43} {a1 : List Int} {r : Y43 × Bool} (h : DK a0 a1 = some r) : Ai Tryz.prog 105 [.agg (A7 a0),dL Aq a1] (.tup [.agg (Av r.1),.bool r.2]):=by
 unfold DK at h
 refine sta aG rfl (OX (bcc rfl (bcc (F9 Iw _) (bcc (F9 (fun _ => rfl) _) rfl))) (OX (F9 (fun _ => rfl) _) rfl)) (mvv (vag (vcc rfl (vcc (J8 IA _) (vcc (J8 (fun _ => rfl) _) rfl)))) (mvv (J8 (fun _ => rfl) _) rfl)) (dcc (dag (dcc rfl (dcc (dco CH 42 _) (dcc (dco (fun _ => rfl) 3 _) dcn)))) (dcc rfl dcn)) (rn 1 rfl (Ac fun K1 hK1 => rs (sp 1 rfl (?_))))
 obtain ⟨v2,g3,h⟩:=Aa h
 refine qC (qa rfl (erg (erc rfl (erc (erG FJ _) (erc (erG Am _) rfl)))) Ar) (Cc g3) (sp 2 rfl (?_))
 rcases Ab h with ⟨g4,h⟩ | ⟨g4,h⟩
 ·exact qg 13 g4 rfl (sp 6 rfl (evn (qT rfl rfl (rn 1 rfl (Af ((by cases h; exact ⟨.inl rfl,rfl⟩)))))))
 ·refine qg 13 g4 rfl (sp 3 rfl (?_))
  obtain ⟨v5,g6,h⟩:=Aa h
  refine oGR rfl rfl (qC (qs rfl (qa rfl (erG Am _) Ar)) (Js g6) (sp 2 rfl (evn ?_)))
  rcases Ab h with ⟨g7,h⟩ | ⟨g7,h⟩
  ·exact qT rfl g7 (rn 1 rfl (Af ((by cases h; exact ⟨.inl rfl,rfl⟩))))
  ·refine qF rfl g7 (Ae (hK1 _ (qk [1,2,4] rfl (rn 1 rfl (Ac fun K8 hK8 => rn 1 rfl ?_)))))
   obtain ⟨o1,hl,hr1⟩:=Aa h
   have kXB1 : ∀ {z9 : Int} {z10 : List (List Int)} {z11 : List Int},(z9,z10,z11) = o1 -> Jn K8 [(4,.box [nI 0,oL 42 Ag [],oL 3 Aq []]),(6,.box [nI z9,oL 42 Ag z10,oL 3 Aq z11])]:=by
    intro z9 z10 z11 h σ' hk
    subst h
    replace h:=hr1
    try dsimp only at h
    refine hK8 _ (lh hk rfl (qk [4,6] rfl (Ih (gSb (f:=Ag) (l:=z10) (q:=900001) (b:=6) [nI z9] [oL 3 Aq z11] rfl rfl rfl (fun _ => rfl) ?_))))
    intro U us1 hU
    refine kp [(4,.box [nI 0,oL 42 Ag [],oL 3 Aq []]),(6,.box [nI z9,oL 42 (pE Ag U) (AA 0 z10),oL 3 Aq z11]),(900001,.gh us1 (List.map (fun x => Jo (Ag x)) z10))] rfl rfl (rs (sp 1 rfl (?_)))
    obtain ⟨v23,g24,h⟩:=Aa h
    refine qCi rfl rfl rfl (KQ g24) (sp 2 rfl (evn (Ac fun K25 hK25 => qk [4,9,900001] rfl ?_)))
    obtain ⟨g26,h⟩:=Ah h
    refine Ih (gJb (f:=Ag) (l:=z10) (q:=900001) (b:=9) [nI v23.1] [oL 3 Aq v23.2.2] (HL v23.2.1) rfl Rq rfl rfl (fun _ => rfl) hU g26 (kp [(4,.box [nI 0,oL 42 Ag [],oL 3 Aq []]),(9,.box [nI v23.1,oL 42 Ag (List.map getM (HL v23.2.1)),oL 3 Aq v23.2.2])] rfl rfl (rs (sp 1 rfl (?_)))))
    obtain ⟨v27,g28,h⟩:=Aa h
    refine qC (qa rfl (erg (erc rfl (erc (erD AS _) (erc (erD Am _) rfl)))) Ar) (Cc g28) (sp 1 rfl (evn ?_))
    rcases Ab h with ⟨g29,h⟩ | ⟨g29,h⟩
    ·exact qT rfl g29 (rn 1 rfl (Af ((by cases h; exact ⟨.inl rfl,rfl⟩))))
    ·exact qF rfl g29 (Ae (hK25 _ (rn 1 rfl (Af ((by cases h; exact ⟨.inl rfl,rfl⟩))))))
   refine Ax (fun (s : Int × (List (List Int)) × (List Int) × Int) => match s with | (y1,y2,y3,y4) => [(1,aL Aq a1),(2,.box [nI a0.1,aL IOQ a0.2.1,aL Aq a0.2.2]),(4,.box [nI 0,oL 42 Ag [],oL 3 Aq []]),(6,.box [nI y1,oL 42 Ag y2,oL 3 Aq y3]),(25,aL IOQ a0.2.1),(26,nI (List.length a0.2.1 : Int)),(27,nI y4)]) _ _ _ _ hl (okr rfl) (fun _ => rfl) ?_
   rintro m ⟨y1,y2,y3,y4⟩ N h hN
   unfold BV at h
   dsimp only at h
   refine rn 1 rfl (Ac fun K12 hK12 => ?_)
   rcases Ab h with ⟨g13,h⟩ | ⟨g13,h⟩
   ·refine qT rfl g13 (Ae (hK12 _ (Ac fun K14 hK14 => Au (rs (sp 1 rfl (?_))))))
    obtain ⟨e15,g16,h⟩:=Aa h
    refine qI rfl XK g16 (sp 3 rfl (evn (qk [1,2,4,6,7,8,25,26,27] rfl (rgt 8 (by kernel_rfl) (sd 2 rfl (?_))))))
    obtain ⟨v17,g18,h⟩:=Aa h
    refine ed rfl (qC (qa rfl (erG Am _) (qa rfl (erG Am _) Ar)) (NJ g18) (sd 3 rfl (?_)))
    obtain ⟨e19,g20,h⟩:=Aa h
    refine ed rfl (qI rfl AH g20 (sd 1 rfl (BB (S9 ?_))))
    obtain ⟨v21,g22,h⟩:=Aa h
    exact qPo [1,2,4,25,26,27,34,39] rfl rfl rfl rfl (qa rfl (erO Am _) (qs rfl Ar)) (dcc rfl (dcc (dco CH 42 _) (dcc (dco (fun _ => rfl) 3 _) dcn))) (MD g22) rfl (yc (acf (fun _ => rfl) _) (yc (snc rfl (snc (sA (aca G4 _)) (snc (sA (aca (fun _ => rfl) _)) rfl))) (yc (snc rfl (snc rfl (snc rfl rfl))) (yc (acf G4 _) (yc rfl (yc rfl (yc (sdL (dcf (fun _ => rfl) _)) (yc rfl yn)))))))) (evn (hK14 _ (rg (sp 2 rfl (evn (hN _ _ h (okr rfl)))))))
   ·exact qF rfl g13 (An (kXB1 (Option.some.inj h) _ (okr rfl)))
def Fj (a0 : List Y88) (a1 : Y51) : Option (Y53 × Bool):=Ad (Ew a0 a1) fun v1 => cond (!v1.2) (some (((0,[],[]),(0,[],[])),false)) (Ad (Cb v1.1) fun v5 => Ad (DK v5.1 a1.2.2) fun v7 => cond (!v7.2) (some (((0,[],[]),(0,[],[])),false)) (Ad (EK a1) fun v11 => some ((v11,v7.1),true)))
theorem Jj {a0 : List Y88} {a1 : Y51} {r : Y53 × Bool} (h : Fj a0 a1 = some r) : Ai Tryz.prog 61 [.agg [dL AB a0],.agg (Dg a1)] (.tup [.agg (Ao r.1),.bool r.2]):=by
 unfold Fj at h
 refine st fC rfl (rn 1 rfl (rs (sp 2 rfl (?_))))
 obtain ⟨v1,g2,h⟩:=Aa h
 refine qC (qa rfl (erg (erc (erD AM _) rfl)) (qa rfl (erg (erc rfl (erc (erD Bl _) (erc (erD Am _) rfl)))) Ar)) (NH g2) (sp 6 rfl (evn (Ac fun K3 hK3 => rn 1 rfl ?_)))
 rcases Ab h with ⟨g4,h⟩ | ⟨g4,h⟩
 ·exact qT rfl g4 (rn 1 rfl (Af ((by cases h; exact ⟨.inl rfl,rfl⟩))))
 ·refine qF rfl g4 (Ae (hK3 _ (rs (sp 1 rfl (?_)))))
  obtain ⟨v5,g6,h⟩:=Aa h
  refine qC (qa rfl (erg (erc rfl (erc (erD AS _) rfl))) Ar) (IZ g6) (sp 6 rfl (evn (rs (sp 3 rfl (?_)))))
  obtain ⟨v7,g8,h⟩:=Aa h
  refine qC (qa rfl (erg (erc rfl (erc (erD AS _) (erc (erD Am _) rfl)))) (qa rfl (erD Am _) Ar)) (Ke g8) (sp 6 rfl (evn (qk [3,4,10,11] rfl (Ac fun K9 hK9 => rn 1 rfl ?_))))
  rcases Ab h with ⟨g10,h⟩ | ⟨g10,h⟩
  ·exact qT rfl g10 (rn 1 rfl (Af ((by cases h; exact ⟨.inl rfl,rfl⟩))))
  ·refine qF rfl g10 (Ae (hK9 _ (rd (by kernel_rfl) (sd 1 rfl (?_)))))
   obtain ⟨v11,g12,h⟩:=Aa h
   exact ed rfl (qC (qa rfl (erg (erc rfl (erc (erD Bl _) (erc (erD Am _) rfl)))) Ar) (Ix g12) (sd 4 rfl (BB (Af ((by cases h; exact ⟨.inl rfl,rfl⟩))))))
def Fp (x4 : Bool) : Option (Bool):=some x4
def BC (a0 : List Y88) (a1 : Y53) : Option (Bool):=Ad (Fj a0 a1.1) fun v1 => cond v1.2 (Ad (DC v1.1.2 a1.2) fun v6 => Fp v6) (Fp false)
theorem I4 {a0 : List Y88} {a1 : Y53} {r : Bool} (h : BC a0 a1 = some r) : Ai Tryz.prog 29 [.agg [dL AB a0],.agg (AV a1)] (.bool r):=by
 unfold BC at h
 refine st eQ rfl (rn 1 rfl (rs (sp 3 rfl (?_))))
 obtain ⟨v1,g2,h⟩:=Aa h
 refine qC (qa rfl (erg (erc (erD AM _) rfl)) (qa rfl (erg (erc rfl (erc (erD Bl _) (erc (erD Am _) rfl)))) Ar)) (Jj g2) (sp 6 rfl (evn (rk fun K3 hK3 => ?_)))
 have kJ1 : ∀ {x4 : Bool},Fp x4 = some r -> Jn K3 [(4,.bool x4)]:=by
  intro x4 h σ' hk
  unfold Fp at h
  exact hK3 _ (lh hk rfl (Af ((by cases h; exact ⟨.inl rfl,rfl⟩))))
 refine sp 2 rfl (?_)
 rcases Ab h with ⟨g5,h⟩ | ⟨g5,h⟩
 ·refine qg 15 g5 rfl (sp 4 rfl (?_))
  obtain ⟨v6,g7,h⟩:=Aa h
  exact oGR rfl rfl (qC (qa rfl (erg (erc rfl (erc (erD AS _) (erc (erD Am _) rfl)))) (qa rfl (erg (erc rfl (erc (erD As _) (erc (erD Am _) rfl)))) Ar)) (IP g7) (sp 2 rfl (evn (kJ1 h _ (okr rfl)))))
 ·exact qg 15 g5 rfl (sp 7 rfl (evn (kJ1 h _ (okr rfl))))
def Dv (a0 : Y29) (rec : Int -> Option (Sum (Unit) (Bool))) (y1 : Int) : Option (Sum (Unit) (Bool)):=cond (decide (y1 < (List.length a0.2.1 : Int))) (Ad (AK a0.2.1 y1) fun e11 => Ad (BC a0.1 e11) fun v13 => cond (!v13) (some (.inr false)) (Ad (AK a0.2.2 y1) fun e16 => Ad (DC e16 e11.2) fun v18 => cond (!v18) (some (.inr false)) (rec (IntKind.i64.wrap (y1 + 1))))) (some (.inl ()))
def Be (a0 : Y29) : Option (Bool):=Ad (Bd a0.1) fun v2 => cond (!v2) (some false) (cond (decide (4 < (List.length a0.2.1 : Int))) (some false) (cond ((List.length a0.2.2 : Int) != (List.length a0.2.1 : Int)) (some false) (Ad (Al (Dv a0) fz 0) fun o1 => (match o1 with
  | .inl _ => (some true)
  | .inr r => some r))))
theorem D0 {a0 : Y29} {r : Bool} (h : Be a0 = some r) : Ai Tryz.prog 8 [.agg (AL a0)] (.bool r):=by
 unfold Be at h
 refine st iQ rfl (rn 2 rfl (Ac fun K1 hK1 => rs (sp 2 rfl (?_))))
 obtain ⟨v2,g3,h⟩:=Aa h
 refine qC (qa rfl (erg (erc (erD AM _) rfl)) Ar) (Cz g3) (sp 2 rfl (?_))
 rcases Ab h with ⟨g4,h⟩ | ⟨g4,h⟩
 ·exact qg 11 g4 rfl (sp 14 rfl (evn (qT rfl rfl (rn 1 rfl (Af ((by cases h; exact ⟨.inl rfl,rfl⟩)))))))
 ·refine qg 11 g4 rfl (sp 6 rfl (?_))
  rcases Ab h with ⟨g5,h⟩ | ⟨g5,h⟩
  ·exact qg 17 g5 rfl (sp 8 rfl (evn (qk [3,25] rfl (qT rfl rfl (rn 1 rfl (Af ((by cases h; exact ⟨.inl rfl,rfl⟩))))))))
  ·refine qg 17 g5 rfl (sp 8 rfl (evn ?_))
   rcases Ab h with ⟨g6,h⟩ | ⟨g6,h⟩
   ·exact qT rfl g6 (rn 1 rfl (Af ((by cases h; exact ⟨.inl rfl,rfl⟩))))
   ·refine qF rfl g6 (Ae (hK1 _ (Ac fun K7 hK7 => rn 1 rfl ?_)))
    obtain ⟨o1,hl,hr1⟩:=Aa h
    have kXB1 : (.inl ()) = o1 -> Jn K7 []:=by
     intro h σ' hk
     subst h
     replace h:=hr1
     try dsimp only at h
     exact hK7 _ (lh hk rfl (rn 1 rfl (Af ((by cases h; exact ⟨.inl rfl,rfl⟩)))))
    refine Ax (fun (y1 : Int) => [(3,.box [dL AB a0.1,dL AV a0.2.1,dL A7 a0.2.2]),(27,dL AV a0.2.1),(28,nI (List.length a0.2.1 : Int)),(29,nI y1)]) _ _ _ _ hl (okr rfl) (fun _ => rfl) ?_
    rintro m y1 N h hN
    unfold Dv at h
    refine rn 1 rfl (Ac fun K8 hK8 => ?_)
    rcases Ab h with ⟨g9,h⟩ | ⟨g9,h⟩
    ·refine qT rfl g9 (Ae (hK8 _ (Ac fun K10 hK10 => Au (rs (sp 1 rfl (?_))))))
     obtain ⟨e11,g12,h⟩:=Aa h
     refine qI rfl EQ g12 (sp 4 rfl (evn (rd (by kernel_rfl) (sd 3 rfl (?_)))))
     obtain ⟨v13,g14,h⟩:=Aa h
     refine ed rfl (qC (qa rfl (erg (erc (erD AM _) rfl)) (qa rfl (erg (erc rfl (erc (erD Bl _) (erc (erD Am _) (erc rfl (erc (erD As _) (erc (erD Am _) rfl))))))) Ar)) (I4 g14) (sd 2 rfl (?_)))
     rcases Ab h with ⟨g15,h⟩ | ⟨g15,h⟩
     ·exact qgd 39 g15 rfl (sd 10 rfl (BB (qT rfl rfl (rn 1 rfl (qk [2] rfl (Af ((by cases h; cases hr1; exact ⟨.inl rfl,rfl⟩))))))))
     ·refine qgd 39 g15 rfl (sd 3 rfl (?_))
      obtain ⟨e16,g17,h⟩:=Aa h
      refine ed rfl (oGR rfl rfl (qI rfl JY g17 (sd 3 rfl (?_))))
      obtain ⟨v18,g19,h⟩:=Aa h
      refine ed rfl (oGR rfl rfl (qC (qa rfl (erg (erc rfl (erc (erD As _) (erc (erD Am _) rfl)))) (qa rfl (erg (erc rfl (erc (erD As _) (erc (erD Am _) rfl)))) Ar)) (IP g19) (sd 2 rfl (BB ?_))))
      rcases Ab h with ⟨g20,h⟩ | ⟨g20,h⟩
      ·exact qT rfl g20 (rn 1 rfl (Af ((by cases h; cases hr1; exact ⟨.inl rfl,rfl⟩))))
      ·exact qF rfl g20 (Ae (hK10 _ (rg (sp 2 rfl (evn (hN _ _ h (okr rfl)))))))
    ·exact qF rfl g9 (An (kXB1 (Option.some.inj h) _ trivial))
def TO (x : Y32) : List V:=[nI x.1,dL Ag x.2]
theorem gK (x : Y32) : (TO x).length = 2:=rfl
theorem dN (x : Y32) : erL (TO x) = ER x:=(erc rfl (erc (erD AS _) rfl))
def Dd (v1 : Y32 × Bool) (x6 : Bool) : Option (Y32 × Bool):=some (v1.1,x6)
def Dc (a1 : Y34) (v1 : Y32 × Bool) (x4 : Bool) : Option (Y32 × Bool):=cond x4 (cond (a1.2.1.1 == v1.1.1) (Dd v1 (a1.2.2.1 == v1.1.1)) (Dd v1 false)) (Dd v1 false)
def Gg (a0 : List Y88) (a1 : Y34) : Option (Y32 × Bool):=Ad (Bx a0 a1.1) fun v1 => cond v1.2 (Ad (AC a1.2.1) fun v10 => cond v10 (Ad (AC a1.2.2) fun v13 => Dc a1 v1 v13) (Dc a1 v1 false)) (Dc a1 v1 false)
theorem Mn {a0 : List Y88} {a1 : Y34} {r : Y32 × Bool} (h : Gg a0 a1 = some r) : Ai Tryz.prog 97 [.agg [dL AB a0],.agg (Eo a1)] (.tup [.agg (TO r.1),.bool r.2]):=by
 unfold Gg at h
 refine st gq rfl (rn 1 rfl (rs (sp 3 rfl (?_))))
 obtain ⟨v1,g2,h⟩:=Aa h
 refine qC (qa rfl (erg (erc (erD AM _) rfl)) (qs rfl Ar)) (Es g2) (sp 6 rfl (evn (rk fun K3 hK3 => ?_)))
 have kJ1 : ∀ {x4 : Bool},Dc a1 v1 x4 = some r -> Jn K3 [(3,.box [.str a1.1,nI a1.2.1.1,dL AG a1.2.1.2,nI a1.2.2.1,dL AG a1.2.2.2]),(4,.box [nI 0,oL 42 Ag []]),(6,.box [nI v1.1.1,oL 42 Ag v1.1.2]),(7,.bool x4)]:=by
  intro x4 h σ' hk
  unfold Dc at h
  refine hK3 _ (lh hk rfl (rdk (by kernel_rfl) fun K5 hK5 => ?_))
  have kJ2 : ∀ {x6 : Bool},Dd v1 x6 = some r -> Jn K5 [(4,.box [nI v1.1.1,dL Ag v1.1.2]),(5,.bool x6)]:=by
   intro x6 h σ' hk
   unfold Dd at h
   exact hK5 _ (lh hk rfl (Af ((by cases h; exact ⟨.inl rfl,rfl⟩))))
  refine sd 3 rfl (?_)
  rcases Ab h with ⟨g7,h⟩ | ⟨g7,h⟩
  ·refine qgd 28 g7 rfl (sd 8 rfl (?_))
   rcases Ab h with ⟨g8,h⟩ | ⟨g8,h⟩
   ·exact qgd 36 g8 rfl (sd 9 rfl (BB (kJ2 h _ (okr rfl))))
   ·exact qgd 36 g8 rfl (sd 9 rfl (BB (kJ2 h _ (okr rfl))))
  ·exact qgd 28 g7 rfl (sd 17 rfl (BB (kJ2 h _ (okr rfl))))
 refine sp 2 rfl (?_)
 rcases Ab h with ⟨g9,h⟩ | ⟨g9,h⟩
 ·refine qg 16 g9 rfl (sp 2 rfl (?_))
  obtain ⟨v10,g11,h⟩:=Aa h
  refine oGR rfl rfl (qC (qa rfl (erg (erc rfl (erc (erD As _) rfl))) Ar) (AP g11) (sp 2 rfl (?_)))
  rcases Ab h with ⟨g12,h⟩ | ⟨g12,h⟩
  ·refine qg 21 g12 rfl (sp 2 rfl (?_))
   obtain ⟨v13,g14,h⟩:=Aa h
   exact oGR rfl rfl (qC (qa rfl (erg (erc rfl (erc (erD As _) rfl))) Ar) (AP g14) (sp 2 rfl (evn (kJ1 h _ (okr rfl)))))
  ·exact qg 21 g12 rfl (sp 5 rfl (evn (kJ1 h _ (okr rfl))))
 ·exact qg 16 g9 rfl (sp 10 rfl (evn (kJ1 h _ (okr rfl))))
def DI (x4 : Bool) : Option (Bool):=some x4
def Cw (a0 : Y32) (a1 : List Int) : Option (Bool):=Ad (HR a0.2 a1) fun v1 => Ad (AC a0) fun v5 => cond v5 (DI v1.2) (DI false)
theorem F4 {a0 : Y32} {a1 : List Int} {r : Bool} (h : Cw a0 a1 = some r) : Ai Tryz.prog 98 [.agg (ER a0),dL Aq a1] (.bool r):=by
 unfold Cw at h
 refine st gr rfl (rn 1 rfl (rs (sp 3 rfl (?_))))
 obtain ⟨v1,g2,h⟩:=Aa h
 refine qC (qa rfl (erD As _) (qa rfl (erD Am _) Ar)) (MC g2) (sp 5 rfl (evn (rk fun K3 hK3 => ?_)))
 have kJ1 : ∀ {x4 : Bool},DI x4 = some r -> Jn K3 [(4,.bool x4)]:=by
  intro x4 h σ' hk
  unfold DI at h
  exact hK3 _ (lh hk rfl (Af ((by cases h; exact ⟨.inl rfl,rfl⟩))))
 refine sp 1 rfl (?_)
 obtain ⟨v5,g6,h⟩:=Aa h
 refine qC (qa rfl (erg (erc rfl (erc (erD As _) rfl))) Ar) (AP g6) (sp 1 rfl (?_))
 rcases Ab h with ⟨g7,h⟩ | ⟨g7,h⟩
 ·exact qg 16 g7 rfl (sp 3 rfl (evn (kJ1 h _ (okr rfl))))
 ·exact qg 16 g7 rfl (sp 3 rfl (evn (kJ1 h _ (okr rfl))))
def CC (rec : ((List (List Int)) × Int) -> Option ((List (List Int)))) (y2 : Int) (x14 : List (List Int)) : Option ((List (List Int))):=rec (x14,(IntKind.i64.wrap (y2 + 1)))
def CB (a1 : Y34) (v1 : Y32 × Bool) (rec : ((List (List Int)) × Int) -> Option ((List (List Int)))) (s : (List (List Int)) × Int) : Option ((List (List Int))):=match s with
  | (y1,y2) => cond (decide (y2 < (List.length a1.2.1.2 : Int))) (Ad (AK a1.2.1.2 y2) fun e10 => Ad (Cw v1.1 e10) fun v12 => cond (!v12) (Ad (A8 e10) fun v16 => chk (List.length y1 + List.length [v16] <= lim) (CC rec y2 (y1 ++ [v16]))) (CC rec y2 y1)) (some y1)
def CE (rec : ((List (List Int)) × Int) -> Option ((List (List Int)))) (y4 : Int) (x28 : List (List Int)) : Option ((List (List Int))):=rec (x28,(IntKind.i64.wrap (y4 + 1)))
def CD (rec : ((List (List Int)) × Int) -> Option ((List (List Int)))) (y3 : List (List Int)) (y4 : Int) (e24 : List Int) (x27 : Bool) : Option ((List (List Int))):=cond x27 (Ad (A8 e24) fun v30 => chk (List.length y3 + List.length [v30] <= lim) (CE rec y4 (y3 ++ [v30]))) (CE rec y4 y3)
def BU (a1 : Y34) (v1 : Y32 × Bool) (rec : ((List (List Int)) × Int) -> Option ((List (List Int)))) (s : (List (List Int)) × Int) : Option ((List (List Int))):=match s with
  | (y3,y4) => cond (decide (y4 < (List.length a1.2.2.2 : Int))) (Ad (AK a1.2.2.2 y4) fun e24 => Ad (Cw v1.1 e24) fun v33 => cond v33 (Ad (Cw a1.2.1 e24) fun v36 => CD rec y3 y4 e24 (!v36)) (CD rec y3 y4 e24 false)) (some y3)
def DJ (a0 : List Y88) (a1 : Y34) : Option (Y34 × Bool):=Ad (Gg a0 a1) fun v1 => cond (!v1.2) (some (([],(0,[]),(0,[])),false)) (Ad (Al (CB a1 v1) fz (([] : List (List Int)),0)) fun z6 => Ad (Al (BU a1 v1) fz (([] : List (List Int)),0)) fun z20 => some ((a1.1,(v1.1.1,z6),(v1.1.1,z20)),true))
theorem Kd {a0 : List Y88} {a1 : Y34} {r : Y34 × Bool} (h : DJ a0 a1 = some r) : Ai Tryz.prog 53 [.agg [dL AB a0],.agg (Eo a1)] (.tup [.agg (MX r.1),.bool r.2]):=by
 unfold DJ at h
 refine st ft rfl (rn 1 rfl (rs (sp 2 rfl (?_))))
 obtain ⟨v1,g2,h⟩:=Aa h
 refine qC (qa rfl (erg (erc (erD AM _) rfl)) (qa rfl (erg (erc rfl (erc rfl (erc (erD As _) (erc rfl (erc (erD As _) rfl)))))) Ar)) (Mn g2) (sp 6 rfl (evn (Ac fun K3 hK3 => rn 1 rfl ?_)))
 rcases Ab h with ⟨g4,h⟩ | ⟨g4,h⟩
 ·exact qT rfl g4 (rn 1 rfl (Af ((by cases h; exact ⟨.inl rfl,rfl⟩))))
 ·refine qF rfl g4 (Ae (hK3 _ (rn 1 rfl (Ac fun K5 hK5 => rn 1 rfl (qk [3,4,6,8,33,34,35] rfl ?_)))))
  obtain ⟨o1,hl,hr1⟩:=Aa h
  have kXB1 : ∀ {z6 : List (List Int)},z6 = o1 -> Jn K5 [(3,.box [.str a1.1,nI a1.2.1.1,dL AG a1.2.1.2,nI a1.2.2.1,dL AG a1.2.2.2]),(4,.box [.str [],nI 0,oL 42 Ag [],nI 0,oL 42 Ag []]),(6,.box [nI v1.1.1,dL Ag v1.1.2]),(8,.box [.str a1.1,nI v1.1.1,oL 42 Ag z6,nI v1.1.1,oL 42 Ag []])]:=by
   intro z6 h σ' hk
   subst h
   replace h:=hr1
   try dsimp only at h
   refine hK5 _ (lh hk rfl (Ac fun K19 hK19 => rn 1 rfl ?_))
   obtain ⟨o3,hl,hr3⟩:=Aa h
   have kXB3 : ∀ {z20 : List (List Int)},z20 = o3 -> Jn K19 [(4,.box [.str [],nI 0,oL 42 Ag [],nI 0,oL 42 Ag []]),(8,.box [.str a1.1,nI v1.1.1,oL 42 Ag z6,nI v1.1.1,oL 42 Ag z20])]:=by
    intro z20 h σ' hk
    subst h
    replace h:=hr3
    try dsimp only at h
    exact hK19 _ (lh hk rfl (rn 1 rfl (Af ((by cases h; exact ⟨.inl rfl,rfl⟩)))))
   refine Ax (fun (s : (List (List Int)) × Int) => match s with | (y3,y4) => [(3,.box [.str a1.1,nI a1.2.1.1,dL AG a1.2.1.2,nI a1.2.2.1,dL AG a1.2.2.2]),(4,.box [.str [],nI 0,oL 42 Ag [],nI 0,oL 42 Ag []]),(6,.box [nI v1.1.1,dL Ag v1.1.2]),(8,.box [.str a1.1,nI v1.1.1,oL 42 Ag z6,nI v1.1.1,oL 42 Ag y3]),(55,dL AG a1.2.2.2),(56,nI (List.length a1.2.2.2 : Int)),(57,nI y4)]) _ _ _ _ hl (okr rfl) (fun _ => rfl) ?_
   rintro m ⟨y3,y4⟩ N h hN
   unfold BU at h
   dsimp only at h
   refine rn 1 rfl (Ac fun K21 hK21 => ?_)
   rcases Ab h with ⟨g22,h⟩ | ⟨g22,h⟩
   ·refine qT rfl g22 (Ae (hK21 _ (Ac fun K23 hK23 => Au (rs ?_))))
    obtain ⟨e24,g25,h⟩:=Aa h
    refine qI rfl Bv g25 (sp 2 rfl (evn (rk fun K26 hK26 => ?_)))
    have kJ4 : ∀ {x27 : Bool},CD (Al (BU a1 v1) m) y3 y4 e24 x27 = some o3 -> Jn K26 [(3,.box [.str a1.1,nI a1.2.1.1,dL AG a1.2.1.2,nI a1.2.2.1,dL AG a1.2.2.2]),(4,.box [.str [],nI 0,oL 42 Ag [],nI 0,oL 42 Ag []]),(6,.box [nI v1.1.1,dL Ag v1.1.2]),(8,.box [.str a1.1,nI v1.1.1,oL 42 Ag z6,nI v1.1.1,oL 42 Ag y3]),(12,dL Aq e24),(55,dL AG a1.2.2.2),(56,nI (List.length a1.2.2.2 : Int)),(57,nI y4),(70,.bool x27)]:=by
     intro x27 h σ' hk
     unfold CD at h
     refine hK26 _ (lh hk rfl ?_)
     have kJ5 : ∀ {x28 : List (List Int)},CE (Al (BU a1 v1) m) y4 x28 = some o3 -> Jn K23 [(3,.box [.str a1.1,nI a1.2.1.1,dL AG a1.2.1.2,nI a1.2.2.1,dL AG a1.2.2.2]),(4,.box [.str [],nI 0,oL 42 Ag [],nI 0,oL 42 Ag []]),(6,.box [nI v1.1.1,dL Ag v1.1.2]),(8,.box [.str a1.1,nI v1.1.1,oL 42 Ag z6,nI v1.1.1,oL 42 Ag x28]),(55,dL AG a1.2.2.2),(56,nI (List.length a1.2.2.2 : Int)),(57,nI y4)]:=by
      intro x28 h σ' hk
      unfold CE at h
      exact hK23 _ (lh hk rfl (rg (sp 2 rfl (evn (hN _ _ h (okr rfl))))))
     rcases Ab h with ⟨g29,h⟩ | ⟨g29,h⟩
     ·refine qT rfl g29 (rgd (by kernel_rfl) (sd 4 rfl (?_)))
      obtain ⟨v30,g31,h⟩:=Aa h
      refine ed rfl (qC (qa rfl (erD Am _) Ar) (By g31) (ed rfl (qBs Ag [v30] rfl rfl rfl AW (?_))))
      obtain ⟨g32,h⟩:=Ah h
      exact ed rfl (qA Ag y3 [v30] rfl rfl (Ap AW [v30]) rfl g32 (sd 3 rfl (BB (kJ5 h _ (okr rfl)))))
     ·exact qF rfl g29 (Ae (kJ5 h _ (okr rfl)))
    refine sp 2 rfl (?_)
    obtain ⟨v33,g34,h⟩:=Aa h
    refine qC (qa rfl (erg (erc rfl (erc (erD AS _) rfl))) (qa rfl (erD Am _) Ar)) (F4 g34) (sp 1 rfl (?_))
    rcases Ab h with ⟨g35,h⟩ | ⟨g35,h⟩
    ·refine qg 64 g35 rfl (sp 3 rfl (?_))
     obtain ⟨v36,g37,h⟩:=Aa h
     exact oGR rfl rfl (qC (qa rfl (erg (erc rfl (erc (erD As _) rfl))) (qa rfl (erD Am _) Ar)) (F4 g37) (sp 2 rfl (evn (kJ4 h _ (okr rfl)))))
    ·exact qg 64 g35 rfl (sp 6 rfl (evn (kJ4 h _ (okr rfl))))
   ·exact qF rfl g22 (An (kXB3 (Option.some.inj h) _ (okr rfl)))
  refine Ax (fun (s : (List (List Int)) × Int) => match s with | (y1,y2) => [(3,.box [.str a1.1,nI a1.2.1.1,dL AG a1.2.1.2,nI a1.2.2.1,dL AG a1.2.2.2]),(4,.box [.str [],nI 0,oL 42 Ag [],nI 0,oL 42 Ag []]),(6,.box [nI v1.1.1,dL Ag v1.1.2]),(8,.box [.str a1.1,nI v1.1.1,oL 42 Ag y1,nI v1.1.1,oL 42 Ag []]),(33,dL AG a1.2.1.2),(34,nI (List.length a1.2.1.2 : Int)),(35,nI y2)]) _ _ _ _ hl (okr rfl) (fun _ => rfl) ?_
  rintro m ⟨y1,y2⟩ N h hN
  unfold CB at h
  dsimp only at h
  refine rn 1 rfl (Ac fun K7 hK7 => ?_)
  rcases Ab h with ⟨g8,h⟩ | ⟨g8,h⟩
  ·refine qT rfl g8 (Ae (hK7 _ (Ac fun K9 hK9 => Au (rs ?_))))
   obtain ⟨e10,g11,h⟩:=Aa h
   refine qI rfl Bv g11 (sp 2 rfl (evn (rs (sp 2 rfl (?_)))))
   obtain ⟨v12,g13,h⟩:=Aa h
   refine qC (qa rfl (erg (erc rfl (erc (erD AS _) rfl))) (qa rfl (erD Am _) Ar)) (F4 g13) (sp 1 rfl (evn ?_))
   have kJ2 : ∀ {x14 : List (List Int)},CC (Al (CB a1 v1) m) y2 x14 = some o1 -> Jn K9 [(3,.box [.str a1.1,nI a1.2.1.1,dL AG a1.2.1.2,nI a1.2.2.1,dL AG a1.2.2.2]),(4,.box [.str [],nI 0,oL 42 Ag [],nI 0,oL 42 Ag []]),(6,.box [nI v1.1.1,dL Ag v1.1.2]),(8,.box [.str a1.1,nI v1.1.1,oL 42 Ag x14,nI v1.1.1,oL 42 Ag []]),(33,dL AG a1.2.1.2),(34,nI (List.length a1.2.1.2 : Int)),(35,nI y2)]:=by
    intro x14 h σ' hk
    unfold CC at h
    exact hK9 _ (lh hk rfl (rg (sp 2 rfl (evn (hN _ _ h (okr rfl))))))
   rcases Ab h with ⟨g15,h⟩ | ⟨g15,h⟩
   ·refine qT rfl g15 (rgd (by kernel_rfl) (sd 4 rfl (?_)))
    obtain ⟨v16,g17,h⟩:=Aa h
    refine ed rfl (qC (qa rfl (erD Am _) Ar) (By g17) (ed rfl (qBs Ag [v16] rfl rfl rfl AW (?_))))
    obtain ⟨g18,h⟩:=Ah h
    exact ed rfl (qA Ag y1 [v16] rfl rfl (Ap AW [v16]) rfl g18 (sd 3 rfl (BB (kJ2 h _ (okr rfl)))))
   ·exact qF rfl g15 (Ae (kJ2 h _ (okr rfl)))
  ·exact qF rfl g8 (An (kXB1 (Option.some.inj h) _ (okr rfl)))
def EU (a0 : List Y88) (rec : ((List Y88) × Int) -> Option ((List Y88))) (s : (List Y88) × Int) : Option ((List Y88)):=match s with
  | (y1,y2) => cond (decide (y2 < (List.length a0 : Int))) (Ad (AK a0 y2) fun e6 => Ad (CO e6.2) fun v8 => chk (List.length y1 + List.length [(e6.1,v8)] <= lim) (rec ((y1 ++ [(e6.1,v8)]),(IntKind.i64.wrap (y2 + 1))))) (some y1)
def Bn (a0 : List Y88) : Option ((List Y88)):=Ad (Al (EU a0) fz (([] : List Y88),0)) fun z2 => some z2
theorem CM {a0 : List Y88} {r : (List Y88)} (h : Bn a0 = some r) : Ai Tryz.prog 54 [.agg [dL AB a0]] (.agg [oL 89 Aw r]):=by
 unfold Bn at h
 refine st fu rfl (rn 2 rfl (Ac fun K1 hK1 => rn 1 rfl ?_))
 obtain ⟨o1,hl,hr1⟩:=Aa h
 have kXB1 : ∀ {z2 : List Y88},z2 = o1 -> Jn K1 [(2,.box [oL 89 Aw []]),(3,.box [oL 89 Aw z2])]:=by
  intro z2 h σ' hk
  subst h
  replace h:=hr1
  try dsimp only at h
  exact hK1 _ (lh hk rfl (rn 1 rfl (Af ((by cases h; exact ⟨.inl rfl,rfl⟩)))))
 refine Ax (fun (s : (List Y88) × Int) => match s with | (y1,y2) => [(2,.box [oL 89 Aw []]),(3,.box [oL 89 Aw y1]),(7,dL AB a0),(8,nI (List.length a0 : Int)),(9,nI y2)]) _ _ _ _ hl (okr rfl) (fun _ => rfl) ?_
 rintro m ⟨y1,y2⟩ N h hN
 unfold EU at h
 dsimp only at h
 refine rn 1 rfl (Ac fun K3 hK3 => ?_)
 rcases Ab h with ⟨g4,h⟩ | ⟨g4,h⟩
 ·refine qT rfl g4 (Ae (hK3 _ (Ac fun K5 hK5 => Au (rs ?_))))
  obtain ⟨e6,g7,h⟩:=Aa h
  refine qI rfl Ee g7 (sp 3 rfl (evn (rgd (by kernel_rfl) (sd 6 rfl (?_)))))
  obtain ⟨v8,g9,h⟩:=Aa h
  refine ed rfl (qC (qa rfl (erg (erc rfl (erc (erD As _) rfl))) Ar) (G6 g9) (sd 1 rfl (ed rfl (qBs Aw [(e6.1,v8)] rfl rfl rfl Gt (?_)))))
  obtain ⟨g10,h⟩:=Ah h
  exact ed rfl (qA Aw y1 [(e6.1,v8)] rfl rfl (Ap Gt [(e6.1,v8)]) rfl g10 (sd 2 rfl (BB (hK5 _ (rg (sp 2 rfl (evn (hN _ _ h (okr rfl)))))))))
 ·exact qF rfl g4 (An (kXB1 (Option.some.inj h) _ (okr rfl)))
def Er (rec : ((List (List Int)) × Int) -> Option ((List (List Int)))) (y2 : Int) (x18 : List (List Int)) : Option ((List (List Int))):=rec (x18,(IntKind.i64.wrap (y2 + 1)))
def Ep (a0 : Y32) (a1 : Y32) (rec : ((List (List Int)) × Int) -> Option ((List (List Int)))) (s : (List (List Int)) × Int) : Option ((List (List Int))):=match s with
  | (y1,y2) => cond (decide (y2 < (List.length a0.2 : Int))) (Ad (AK a0.2 y2) fun e14 => Ad (Cw a1 e14) fun v16 => cond (!v16) (Ad (A8 e14) fun v20 => chk (List.length y1 + List.length [v20] <= lim) (Er rec y2 (y1 ++ [v20]))) (Er rec y2 y1)) (some y1)
def Ge (a0 : Y32) (a1 : Y32) : Option (Y32 × Bool):=Ad (AC a0) fun v2 => cond (!v2) (some ((0,[]),false)) (Ad (AC a1) fun v5 => cond (!v5) (some ((0,[]),false)) (cond (a0.1 != a1.1) (some ((0,[]),false)) (Ad (Al (Ep a0 a1) fz (([] : List (List Int)),0)) fun z10 => some ((a0.1,z10),true))))
theorem Ml {a0 : Y32} {a1 : Y32} {r : Y32 × Bool} (h : Ge a0 a1 = some r) : Ai Tryz.prog 56 [.agg (ER a0),.agg (ER a1)] (.tup [.agg (GI r.1),.bool r.2]):=by
 unfold Ge at h
 refine st fw rfl (rn 1 rfl (Ac fun K1 hK1 => rs (sp 1 rfl (?_))))
 obtain ⟨v2,g3,h⟩:=Aa h
 refine qC (qa rfl (erg (erc rfl (erc (erD As _) rfl))) Ar) (AP g3) (sp 2 rfl (?_))
 rcases Ab h with ⟨g4,h⟩ | ⟨g4,h⟩
 ·exact qg 12 g4 rfl (sp 11 rfl (evn (qT rfl rfl (rn 1 rfl (Af ((by cases h; exact ⟨.inl rfl,rfl⟩)))))))
 ·refine qg 12 g4 rfl (sp 1 rfl (?_))
  obtain ⟨v5,g6,h⟩:=Aa h
  refine oGR rfl rfl (qC (qa rfl (erg (erc rfl (erc (erD As _) rfl))) Ar) (AP g6) (sp 3 rfl (?_)))
  rcases Ab h with ⟨g7,h⟩ | ⟨g7,h⟩
  ·exact qg 17 g7 rfl (sp 6 rfl (evn (qk [2,3,4,23] rfl (qT rfl rfl (rn 1 rfl (Af ((by cases h; exact ⟨.inl rfl,rfl⟩))))))))
  ·refine qg 17 g7 rfl (sp 6 rfl (evn ?_))
   rcases Ab h with ⟨g8,h⟩ | ⟨g8,h⟩
   ·exact qT rfl g8 (rn 1 rfl (Af ((by cases h; exact ⟨.inl rfl,rfl⟩))))
   ·refine qF rfl g8 (Ae (hK1 _ (rn 1 rfl (Ac fun K9 hK9 => rn 1 rfl ?_))))
    obtain ⟨o1,hl,hr1⟩:=Aa h
    have kXB1 : ∀ {z10 : List (List Int)},z10 = o1 -> Jn K9 [(4,.box [nI 0,oL 42 Ag []]),(6,.box [nI a0.1,oL 42 Ag z10])]:=by
     intro z10 h σ' hk
     subst h
     replace h:=hr1
     try dsimp only at h
     exact hK9 _ (lh hk rfl (rn 1 rfl (Af ((by cases h; exact ⟨.inl rfl,rfl⟩)))))
    refine Ax (fun (s : (List (List Int)) × Int) => match s with | (y1,y2) => [(3,.box [nI a1.1,dL AG a1.2]),(4,.box [nI 0,oL 42 Ag []]),(6,.box [nI a0.1,oL 42 Ag y1]),(29,dL AG a0.2),(30,nI (List.length a0.2 : Int)),(31,nI y2)]) _ _ _ _ hl (okr rfl) (fun _ => rfl) ?_
    rintro m ⟨y1,y2⟩ N h hN
    unfold Ep at h
    dsimp only at h
    refine rn 1 rfl (Ac fun K11 hK11 => ?_)
    rcases Ab h with ⟨g12,h⟩ | ⟨g12,h⟩
    ·refine qT rfl g12 (Ae (hK11 _ (Ac fun K13 hK13 => Au (rs ?_))))
     obtain ⟨e14,g15,h⟩:=Aa h
     refine qI rfl Bv g15 (sp 2 rfl (evn (rs (sp 2 rfl (?_)))))
     obtain ⟨v16,g17,h⟩:=Aa h
     refine qC (qa rfl (erg (erc rfl (erc (erD As _) rfl))) (qa rfl (erD Am _) Ar)) (F4 g17) (sp 1 rfl (evn ?_))
     have kJ2 : ∀ {x18 : List (List Int)},Er (Al (Ep a0 a1) m) y2 x18 = some o1 -> Jn K13 [(3,.box [nI a1.1,dL AG a1.2]),(4,.box [nI 0,oL 42 Ag []]),(6,.box [nI a0.1,oL 42 Ag x18]),(29,dL AG a0.2),(30,nI (List.length a0.2 : Int)),(31,nI y2)]:=by
      intro x18 h σ' hk
      unfold Er at h
      exact hK13 _ (lh hk rfl (rg (sp 2 rfl (evn (hN _ _ h (okr rfl))))))
     rcases Ab h with ⟨g19,h⟩ | ⟨g19,h⟩
     ·refine qT rfl g19 (rgd (by kernel_rfl) (sd 3 rfl (?_)))
      obtain ⟨v20,g21,h⟩:=Aa h
      refine ed rfl (qC (qa rfl (erD Am _) Ar) (By g21) (ed rfl (qBs Ag [v20] rfl rfl rfl AW (?_))))
      obtain ⟨g22,h⟩:=Ah h
      exact ed rfl (qA Ag y1 [v20] rfl rfl (Ap AW [v20]) rfl g22 (sd 2 rfl (BB (kJ2 h _ (okr rfl)))))
     ·exact qF rfl g19 (Ae (kJ2 h _ (okr rfl)))
    ·exact qF rfl g12 (An (kXB1 (Option.some.inj h) _ (okr rfl)))
def Fq (a0 : Int) (a1 : List (List Int)) (rec : Int -> Option (Sum (Unit) (Y32 × Bool))) (y1 : Int) : Option (Sum (Unit) (Y32 × Bool)):=cond (decide (y1 < (List.length a1 : Int))) (Ad (AK a1 y1) fun e5 => cond ((List.length e5 : Int) != a0) (some (.inr ((0,[]),false))) (Ad (CI e5) fun v8 => cond (!v8) (some (.inr ((0,[]),false))) (rec (IntKind.i64.wrap (y1 + 1))))) (some (.inl ()))
def FL (a0 : Int) (a1 : List (List Int)) : Option (Y32 × Bool):=Ad (Al (Fq a0 a1) fz 0) fun o1 => (match o1 with
  | .inl _ => (Ad (IR a1) fun v11 => Ad (AC (a0,v11)) fun v14 => cond (!v14) (some ((0,[]),false)) (some ((a0,v11),true)))
  | .inr r => some r)
theorem Lx {a0 : Int} {a1 : List (List Int)} {r : Y32 × Bool} (h : FL a0 a1 = some r) : Ai Tryz.prog 101 [nI a0,dL AG a1] (.tup [.agg (GI r.1),.bool r.2]):=by
 unfold FL at h
 refine st aC rfl (rn 1 rfl (Ac fun K1 hK1 => rn 1 rfl ?_))
 obtain ⟨o1,hl,hr1⟩:=Aa h
 have kXB1 : (.inl ()) = o1 -> Jn K1 [(0,nI a0),(1,dL AG a1),(4,.box [nI 0,oL 42 Ag []])]:=by
  intro h σ' hk
  subst h
  replace h:=hr1
  try dsimp only at h
  refine hK1 _ (lh hk rfl (rs (sp 2 rfl (?_))))
  obtain ⟨v11,g12,h⟩:=Aa h
  refine qC (qa rfl (erD As _) Ar) (JO g12) (sp 3 rfl (evn (Ac fun K13 hK13 => rs (sp 1 rfl (?_)))))
  obtain ⟨v14,g15,h⟩:=Aa h
  refine qC (qa rfl (erg (erc rfl (erc (erD AS _) rfl))) Ar) (AP g15) (sp 1 rfl (evn ?_))
  rcases Ab h with ⟨g16,h⟩ | ⟨g16,h⟩
  ·exact qT rfl g16 (rn 1 rfl (Af ((by cases h; exact ⟨.inl rfl,rfl⟩))))
  ·exact qF rfl g16 (Ae (hK13 _ (rn 1 rfl (Af ((by cases h; exact ⟨.inl rfl,rfl⟩))))))
 refine Ax (fun (y1 : Int) => [(0,nI a0),(1,dL AG a1),(4,.box [nI 0,oL 42 Ag []]),(9,dL AG a1),(10,nI (List.length a1 : Int)),(11,nI y1)]) _ _ _ _ hl (okr rfl) (fun _ => rfl) ?_
 rintro m y1 N h hN
 unfold Fq at h
 refine rn 1 rfl (Ac fun K2 hK2 => ?_)
 rcases Ab h with ⟨g3,h⟩ | ⟨g3,h⟩
 ·refine qT rfl g3 (Ae (hK2 _ (Ac fun K4 hK4 => Au (rs ?_))))
  obtain ⟨e5,g6,h⟩:=Aa h
  refine qI rfl Bv g6 (sp 2 rfl (evn (rs (sp 5 rfl (?_)))))
  rcases Ab h with ⟨g7,h⟩ | ⟨g7,h⟩
  ·exact qg 19 g7 rfl (sp 4 rfl (evn (qT rfl rfl (rn 1 rfl (Af ((by cases h; cases hr1; exact ⟨.inl rfl,rfl⟩)))))))
  ·refine qg 19 g7 rfl (sp 1 rfl (?_))
   obtain ⟨v8,g9,h⟩:=Aa h
   refine oGR rfl rfl (qC (qa rfl (erD Am _) Ar) (If g9) (sp 2 rfl (evn ?_)))
   rcases Ab h with ⟨g10,h⟩ | ⟨g10,h⟩
   ·exact qT rfl g10 (rn 1 rfl (qk [4,5] rfl (Af ((by cases h; cases hr1; exact ⟨.inl rfl,rfl⟩)))))
   ·exact qF rfl g10 (Ae (hK4 _ (rg (sp 2 rfl (evn (hN _ _ h (okr rfl)))))))
 ·exact qF rfl g3 (An (kXB1 (Option.some.inj h) _ (okr rfl)))
def Jr (a0 : Y32) (a1 : Y32) : Option (Y32 × Bool):=Ad (AC a0) fun v2 => cond (!v2) (some ((0,[]),false)) (Ad (AC a1) fun v5 => cond (!v5) (some ((0,[]),false)) (cond (a0.1 != a1.1) (some ((0,[]),false)) (Ad (CU a0.2) fun v9 => chk (List.length v9 + List.length a1.2 <= lim) (Ad (FL a0.1 (v9 ++ a1.2)) fun v12 => some (v12.1,v12.2)))))
theorem Qb {a0 : Y32} {a1 : Y32} {r : Y32 × Bool} (h : Jr a0 a1 = some r) : Ai Tryz.prog 57 [.agg (ER a0),.agg (ER a1)] (.tup [.agg (GI r.1),.bool r.2]):=by
 unfold Jr at h
 refine st fx rfl (rn 1 rfl (Ac fun K1 hK1 => rs (sp 1 rfl (?_))))
 obtain ⟨v2,g3,h⟩:=Aa h
 refine qC (qa rfl (erg (erc rfl (erc (erD As _) rfl))) Ar) (AP g3) (sp 2 rfl (?_))
 rcases Ab h with ⟨g4,h⟩ | ⟨g4,h⟩
 ·exact qg 9 g4 rfl (sp 11 rfl (evn (qT rfl rfl (rn 1 rfl (Af ((by cases h; exact ⟨.inl rfl,rfl⟩)))))))
 ·refine qg 9 g4 rfl (sp 1 rfl (?_))
  obtain ⟨v5,g6,h⟩:=Aa h
  refine oGR rfl rfl (qC (qa rfl (erg (erc rfl (erc (erD As _) rfl))) Ar) (AP g6) (sp 3 rfl (?_)))
  rcases Ab h with ⟨g7,h⟩ | ⟨g7,h⟩
  ·exact qg 14 g7 rfl (sp 6 rfl (evn (qk [2,3,4,20] rfl (qT rfl rfl (rn 1 rfl (Af ((by cases h; exact ⟨.inl rfl,rfl⟩))))))))
  ·refine qg 14 g7 rfl (sp 6 rfl (evn ?_))
   rcases Ab h with ⟨g8,h⟩ | ⟨g8,h⟩
   ·exact qT rfl g8 (rn 1 rfl (Af ((by cases h; exact ⟨.inl rfl,rfl⟩))))
   ·refine qF rfl g8 (Ae (hK1 _ (rd (by kernel_rfl) (sd 4 rfl (?_)))))
    obtain ⟨v9,g10,h⟩:=Aa h
    refine ed rfl (qC (qa rfl (erD As _) Ar) (E5 g10) (sd 2 rfl (?_)))
    obtain ⟨g11,h⟩:=Ah h
    refine ed rfl (qAd Ag AG AG v9 a1.2 rfl rfl (Ap Bv a1.2) (GJ (fun _ => rfl) _) g11 (fun _ => rfl) (fun _ => rfl) (fun _ => rfl) (fun _ => rfl) (?_))
    obtain ⟨v12,g13,h⟩:=Aa h
    exact ed rfl (qC (qs rfl (qa rfl (erO As _) Ar)) (Lx g13) (sd 4 rfl (BB (Af ((by cases h; exact ⟨.inl rfl,rfl⟩))))))
def CJ (a1 : List UInt8) (v7 : (List Y88)) (rec : Int -> Option (Int)) (y1 : Int) : Option (Int):=cond (decide (y1 < (List.length v7 : Int))) (Ad (AK v7 y1) fun e13 => cond (Op.bytesLess e13.1 a1) (rec (IntKind.i64.wrap (y1 + 1))) (some y1)) (some y1)
def CL (a0 : List Y88) (x21 : List Y88) : Option ((List Y88) × Bool):=Ad (Bd x21) fun v23 => cond (!v23) (Ad (Bn a0) fun v26 => some (v26,false)) (some (x21,true))
def CK (a0 : List Y88) (a1 : List UInt8) (v7 : (List Y88)) (z10 : Int) (v16 : Y32) (x20 : Bool) : Option ((List Y88) × Bool):=cond x20 (chk (0 < List.length v7) (Ad (AK v7 z10) fun e31 => CL a0 (It v7 z10 (a1,v16)))) (chk ((0 : Int) <= 0 ∧ 0 <= z10 ∧ z10 <= (List.length (AA 0 v7) : Int)) (chk (List.length ([] : List (Nat × Y88)) + List.length (BX (AA 0 v7) 0 z10) <= lim) (chk (List.length (HL (([] : List (Nat × Y88)) ++ (BX (AA 0 v7) 0 z10))) + List.length (M0 ([(a1,v16)] : List Y88)) <= lim) (chk ((0 : Int) <= z10 ∧ z10 <= (List.length (AA 0 v7) : Int) ∧ (List.length (AA 0 v7) : Int) <= (List.length (AA 0 v7) : Int)) (chk (List.length ((HL (([] : List (Nat × Y88)) ++ (BX (AA 0 v7) 0 z10))) ++ (M0 ([(a1,v16)] : List Y88))) + List.length (HL (BX (AA 0 v7) z10 (List.length (AA 0 v7) : Int))) <= lim) (chk (okJ (v7) (((HL (([] : List (Nat × Y88)) ++ (BX (AA 0 v7) 0 z10))) ++ (M0 ([(a1,v16)] : List Y88))) ++ (HL (BX (AA 0 v7) z10 (List.length (AA 0 v7) : Int)))) [] = true) (CL a0 (List.map getM (((HL (([] : List (Nat × Y88)) ++ (BX (AA 0 v7) 0 z10))) ++ (M0 ([(a1,v16)] : List Y88))) ++ (HL (BX (AA 0 v7) z10 (List.length (AA 0 v7) : Int))))))))))))
def FM (a0 : List Y88) (a1 : List UInt8) (a2 : Y32) : Option ((List Y88) × Bool):=Ad (Bd a0) fun v2 => cond (!v2) (Ad (Bn a0) fun v5 => some (v5,false)) (Ad (Bn a0) fun v7 => Ad (Al (CJ a1 v7) fz 0) fun z10 => Ad (CO a2) fun v16 => cond (decide (z10 < (List.length v7 : Int))) (Ad (AK v7 z10) fun e40 => CK a0 a1 v7 z10 v16 (e40.1 == a1)) (CK a0 a1 v7 z10 v16 false))
theorem Ly {a0 : List Y88} {a1 : List UInt8} {a2 : Y32} {r : (List Y88) × Bool} (h : FM a0 a1 a2 = some r) : Ai Tryz.prog 58 [.agg [dL AB a0],.str a1,.agg (ER a2)] (.tup [.agg [oL 89 Aw r.1],.bool r.2]):=by
 unfold FM at h
 refine sta fy rfl (OX (bcc (F9 MU _) rfl) (OX rfl (OX (bcc rfl (bcc (F9 Iw _) rfl)) rfl))) (mvv (vag (vcc (J8 Ng _) rfl)) (mvv rfl (mvv (vag (vcc rfl (vcc (J8 IA _) rfl))) rfl))) (dcc (dag (dcc (dco Hl 89 _) dcn)) (dcc rfl dcn)) (rn 1 rfl (Ac fun K1 hK1 => rs (sp 1 rfl (?_))))
 obtain ⟨v2,g3,h⟩:=Aa h
 refine qC (qa rfl (erg (erc (erG Fo _) rfl)) Ar) (Cz g3) (sp 1 rfl (evn ?_))
 rcases Ab h with ⟨g4,h⟩ | ⟨g4,h⟩
 ·refine qT rfl g4 (rs (sp 1 rfl (?_)))
  obtain ⟨v5,g6,h⟩:=Aa h
  exact qC (qa rfl (erg (erc (erG Fo _) rfl)) Ar) (CM g6) (sp 2 rfl (evn (Af ((by cases h; exact ⟨.inl rfl,rfl⟩)))))
 ·refine qF rfl g4 (Ae (hK1 _ (rs (sp 1 rfl (?_)))))
  obtain ⟨v7,g8,h⟩:=Aa h
  refine qC (qa rfl (erg (erc (erG Fo _) rfl)) Ar) (CM g8) (sp 2 rfl (evn (rn 1 rfl (Ac fun K9 hK9 => ?_))))
  obtain ⟨o1,hl,hr1⟩:=Aa h
  have kXB1 : ∀ {z10 : Int},z10 = o1 -> Jn K9 [(1,.str a1),(3,.box [aL HK a0]),(5,.box [nI a2.1,aL IOQ a2.2]),(6,.box [oL 89 Aw []]),(8,.box [oL 89 Aw v7]),(9,nI z10)]:=by
   intro z10 h σ' hk
   subst h
   replace h:=hr1
   try dsimp only at h
   refine hK9 _ (lh hk rfl (rs (sp 2 rfl (?_))))
   obtain ⟨v16,g17,h⟩:=Aa h
   refine qC (qa rfl (erg (erc rfl (erc (erG FJ _) rfl))) Ar) (G6 g17) (sp 3 rfl (evn (Ac fun K18 hK18 => rk fun K19 hK19 => ?_)))
   have kJ2 : ∀ {x20 : Bool},CK a0 a1 v7 z10 v16 x20 = some r -> Jn K19 [(3,.box [aL HK a0]),(6,.box [oL 89 Aw []]),(8,.box [oL 89 Aw v7]),(9,nI z10),(10,.box [.str a1,nI v16.1,oL 42 Ag v16.2]),(53,.bool x20)]:=by
    intro x20 h σ' hk
    unfold CK at h
    refine hK19 _ (lh hk rfl ?_)
    have kJ3 : ∀ {x21 : List Y88},CL a0 x21 = some r -> Jn K18 [(3,.box [aL HK a0]),(6,.box [oL 89 Aw []]),(8,.box [oL 89 Aw x21])]:=by
     intro x21 h σ' hk
     unfold CL at h
     refine hK18 _ (lh hk rfl (Ac fun K22 hK22 => rs (sp 1 rfl (?_))))
     obtain ⟨v23,g24,h⟩:=Aa h
     refine qC (qa rfl (erg (erc (erD DF _) rfl)) Ar) (Cz g24) (sp 1 rfl (evn ?_))
     rcases Ab h with ⟨g25,h⟩ | ⟨g25,h⟩
     ·refine qT rfl g25 (rs (sp 1 rfl (?_)))
      obtain ⟨v26,g27,h⟩:=Aa h
      exact qC (qa rfl (erg (erc (erG Fo _) rfl)) Ar) (CM g27) (sp 2 rfl (evn (Af ((by cases h; exact ⟨.inl rfl,rfl⟩)))))
     ·exact qF rfl g25 (Ae (hK22 _ (rn 1 rfl (Af ((by cases h; exact ⟨.inl rfl,rfl⟩))))))
    rcases Ab h with ⟨g28,h⟩ | ⟨g28,h⟩
    ·refine qT rfl g28 (qk [3,6,8,9,10] rfl ?_)
     obtain ⟨g29,h⟩:=Ah h
     refine Ih (gLb (q:=900003) (b:=8) [] [] rfl rfl rfl g29 ?_)
     intro gg30 mm30
     refine qk [3,6,8,9,10,900003] rfl (Rl (rg (sp 4 rfl (?_))))
     obtain ⟨e31,g32,h⟩:=Aa h
     refine qIt rfl rfl rfl rfl g32 (?_)
     refine qSt (y0:=e31) (i:=z10) (es:=3) 0 (a1,v16) [3,6,8] rfl rfl rfl rfl rfl rfl rfl rfl rfl rfl Gt g32 (fun x => sdL (Hl x)) (sdL (dcc rfl (dcc rfl (dcc (dco CH 42 _) dcn)))) (yc (snc (sA (aca KA _)) rfl) (yc (snc rfl rfl) (yc (snc rfl rfl) yn))) (?_)
     exact evn (gDb (q:=900003) (b:=8) [] [] rfl rfl rfl (sl rfl) (kJ3 h _ (okr rfl)))
    ·refine qF rfl g28 (qk [3,6,8,9,10] rfl (Ih (gSb (f:=Aw) (l:=v7) (q:=900001) (b:=8) [] [] rfl rfl rfl (fun _ => rfl) ?_)))
     intro U us1 hU
     refine qk [3,6,8,9,10,900001] rfl (Rl (rgd (by kernel_rfl) (ed rfl (qBs Aw [] rfl rfl rfl Gt (sd 3 rfl (?_))))))
     obtain ⟨g33,h⟩:=Ah h
     refine ed rfl (qSl rfl (zpE Gt) g33 (?_))
     obtain ⟨g34,h⟩:=Ah h
     refine ed rfl (qA (pE Aw U) ([] : List (Nat × Y88)) (BX (AA 0 v7) 0 z10) rfl rfl (Ap (zpE Gt) (BX (AA 0 v7) 0 z10)) (Ps _) g34 (sd 1 rfl (ed rfl (qBs Aw [(a1,v16)] rfl rfl rfl Gt (?_)))))
     obtain ⟨g35,h⟩:=Ah h
     refine ed rfl (qA2 (mE Aw U) (HL (([] : List (Nat × Y88)) ++ (BX (AA 0 v7) 0 z10))) (M0 ([(a1,v16)] : List Y88)) rfl rfl (Ap Gt [(a1,v16)]) NP TQ Tj ZQ g35 (sd 3 rfl (?_)))
     obtain ⟨g36,h⟩:=Ah h
     refine ed rfl (qSl rfl (zpE Gt) g36 (?_))
     obtain ⟨g37,h⟩:=Ah h
     refine ed rfl (qA2 (mE Aw U) ((HL (([] : List (Nat × Y88)) ++ (BX (AA 0 v7) 0 z10))) ++ (M0 ([(a1,v16)] : List Y88))) (HL (BX (AA 0 v7) z10 (List.length (AA 0 v7) : Int))) rfl rfl (Ap (zpE Gt) (BX (AA 0 v7) z10 (List.length (AA 0 v7) : Int))) rfl rfl NP ((Ps _).trans TQ) g37 (sd 2 rfl (BB ?_)))
     obtain ⟨g38,h⟩:=Ah h
     exact gJb (f:=Aw) (l:=v7) (q:=900001) (b:=8) [] [] (((HL (([] : List (Nat × Y88)) ++ (BX (AA 0 v7) 0 z10))) ++ (M0 ([(a1,v16)] : List Y88))) ++ (HL (BX (AA 0 v7) z10 (List.length (AA 0 v7) : Int)))) rfl rfl rfl rfl (fun _ => rfl) hU g38 (kJ3 h _ (okr rfl))
   refine sp 6 rfl (?_)
   rcases Ab h with ⟨g39,h⟩ | ⟨g39,h⟩
   ·refine qg 44 g39 rfl (sp 3 rfl (?_))
    obtain ⟨e40,g41,h⟩:=Aa h
    exact oGR rfl rfl (qI rfl Gt g41 (sp 5 rfl (evn (kJ2 h _ (okr rfl)))))
   ·exact qg 44 g39 rfl (sp 9 rfl (evn (kJ2 h _ (okr rfl))))
  refine Ax (fun (y1 : Int) => [(1,.str a1),(3,.box [aL HK a0]),(5,.box [nI a2.1,aL IOQ a2.2]),(6,.box [oL 89 Aw []]),(8,.box [oL 89 Aw v7]),(9,nI y1)]) _ _ _ _ hl (okr rfl) (fun _ => rfl) ?_
  rintro m y1 N h hN
  unfold CJ at h
  refine Ac fun K11 hK11 => rs (sp 6 rfl (?_))
  rcases Ab h with ⟨g12,h⟩ | ⟨g12,h⟩
  ·refine qg 23 g12 rfl (sp 3 rfl (?_))
   obtain ⟨e13,g14,h⟩:=Aa h
   refine oGR rfl rfl (qI rfl Gt g14 (sp 5 rfl (evn ?_)))
   rcases Ab h with ⟨g15,h⟩ | ⟨g15,h⟩
   ·exact qT rfl g15 (Ae (hK11 _ (Au (rg (sp 3 rfl (evn (hN _ _ h (okr rfl))))))))
   ·exact qF rfl g15 (An (kXB1 (Option.some.inj h) _ (okr rfl)))
  ·exact qg 23 g12 rfl (sp 9 rfl (evn (qF rfl rfl (An (kXB1 (Option.some.inj h) _ (okr rfl))))))
def E1 (a0 : List Y88) (a1 : Y34) : Option ((List Y88) × Bool):=Ad (DJ a0 a1) fun v1 => cond (!v1.2) (Ad (Bn a0) fun v5 => some (v5,false)) (Ad (Bx a0 a1.1) fun v7 => Ad (Ge v7.1 v1.1.2.2) fun v9 => Ad (Jr v9.1 v1.1.2.1) fun v11 => cond (!v11.2) (Ad (Bn a0) fun v15 => some (v15,false)) (Ad (FM a0 a1.1 v11.1) fun v17 => some (v17.1,v17.2)))
theorem Jq {a0 : List Y88} {a1 : Y34} {r : (List Y88) × Bool} (h : E1 a0 a1 = some r) : Ai Tryz.prog 19 [.agg [dL AB a0],.agg (Eo a1)] (.tup [.agg [oL 89 Aw r.1],.bool r.2]):=by
 unfold E1 at h
 refine st eG rfl (rn 1 rfl (rs (sp 2 rfl (?_))))
 obtain ⟨v1,g2,h⟩:=Aa h
 refine qC (qa rfl (erg (erc (erD AM _) rfl)) (qa rfl (erg (erc rfl (erc rfl (erc (erD As _) (erc rfl (erc (erD As _) rfl)))))) Ar)) (Kd g2) (sp 6 rfl (evn (Ac fun K3 hK3 => rn 1 rfl ?_)))
 rcases Ab h with ⟨g4,h⟩ | ⟨g4,h⟩
 ·refine qT rfl g4 (rs (sp 1 rfl (?_)))
  obtain ⟨v5,g6,h⟩:=Aa h
  exact qC (qa rfl (erg (erc (erD AM _) rfl)) Ar) (CM g6) (sp 2 rfl (evn (Af ((by cases h; exact ⟨.inl rfl,rfl⟩)))))
 ·refine qF rfl g4 (Ae (hK3 _ (rs (sp 3 rfl (?_)))))
  obtain ⟨v7,g8,h⟩:=Aa h
  refine qC (qa rfl (erg (erc (erD AM _) rfl)) (qs rfl Ar)) (Es g8) (sp 6 rfl (evn (qk [2,3,4,6,8] rfl (rs (sp 3 rfl (?_))))))
  obtain ⟨v9,g10,h⟩:=Aa h
  refine qC (qa rfl (erg (erc rfl (erc (erD AS _) rfl))) (qa rfl (erg (erc rfl (erc (erD AS _) rfl))) Ar)) (Ml g10) (sp 6 rfl (evn (rs (sp 3 rfl (?_)))))
  obtain ⟨v11,g12,h⟩:=Aa h
  refine qC (qa rfl (erg (erc rfl (erc (erD AS _) rfl))) (qa rfl (erg (erc rfl (erc (erD AS _) rfl))) Ar)) (Qb g12) (sp 6 rfl (evn (Ac fun K13 hK13 => rn 1 rfl ?_)))
  rcases Ab h with ⟨g14,h⟩ | ⟨g14,h⟩
  ·refine qT rfl g14 (rs (sp 1 rfl (?_)))
   obtain ⟨v15,g16,h⟩:=Aa h
   exact qC (qa rfl (erg (erc (erD AM _) rfl)) Ar) (CM g16) (sp 2 rfl (evn (Af ((by cases h; exact ⟨.inl rfl,rfl⟩)))))
  ·refine qF rfl g14 (Ae (hK13 _ (rs (sp 4 rfl (?_)))))
   obtain ⟨v17,g18,h⟩:=Aa h
   exact qC (qa rfl (erg (erc (erD AM _) rfl)) (qs rfl (qa rfl (erg (erc rfl (erc (erD AS _) rfl))) Ar))) (Ly g18) (sp 4 rfl (evn (qk [4,5] rfl (Af ((by cases h; exact ⟨.inl rfl,rfl⟩))))))
def Cx (a0 : Y43) : Option (Y43):=Ad (CU a0.2.1) fun v1 => Ad (A8 a0.2.2) fun v3 => some (a0.1,v1,v3)
theorem F6 {a0 : Y43} {r : Y43} (h : Cx a0 = some r) : Ai Tryz.prog 60 [.agg (A7 a0)] (.agg (Av r)):=by
 unfold Cx at h
 refine st fB rfl (rn 1 rfl (rd (by kernel_rfl) (sd 4 rfl (?_))))
 obtain ⟨v1,g2,h⟩:=Aa h
 refine ed rfl (qC (qa rfl (erD As _) Ar) (E5 g2) (sd 2 rfl (?_)))
 obtain ⟨v3,g4,h⟩:=Aa h
 exact ed rfl (qC (qa rfl (erD Am _) Ar) (By g4) (sd 2 rfl (BB (Af ((by cases h; exact ⟨.inl rfl,rfl⟩))))))
def Hp (a0 : Y53) : Option (Y53):=Ad (EK a0.1) fun v1 => Ad (Cx a0.2) fun v3 => some (v1,v3)
theorem NI {a0 : Y53} {r : Y53} (h : Hp a0 = some r) : Ai Tryz.prog 59 [.agg (AV a0)] (.agg (Ao r)):=by
 unfold Hp at h
 refine st fA rfl (rn 1 rfl (rd (by kernel_rfl) (sd 2 rfl (?_))))
 obtain ⟨v1,g2,h⟩:=Aa h
 refine ed rfl (qC (qa rfl (erg (erc rfl (erc (erD Bl _) (erc (erD Am _) rfl)))) Ar) (Ix g2) (sd 2 rfl (?_)))
 obtain ⟨v3,g4,h⟩:=Aa h
 exact ed rfl (qC (qa rfl (erg (erc rfl (erc (erD As _) (erc (erD Am _) rfl)))) Ar) (F6 g4) (sd 2 rfl (BB (Af ((by cases h; exact ⟨.inl rfl,rfl⟩))))))
end Go.Proofs.YtklcofndjkjldaaGreat
