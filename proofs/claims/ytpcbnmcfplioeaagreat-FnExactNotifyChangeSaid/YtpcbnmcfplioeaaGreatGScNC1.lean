/-
  Functions of the program as typed functions, printed by gen.py, and that the program's functions do what they say. No conditions.
-/
import Derived.Test.YtpcbnmcfplioeaaGreatGSbNC1
namespace Go.Proofs.YtpcbnmcfplioeaaGreat
open Go.RowKit
set_option linter.unusedVariables false
set_option maxRecDepth 100000
set_option maxHeartbeats 1000000
def F1 (a1 : List (List Int)) (a2 : List Int) (v1 : Y32 × Bool) (rec : ((List Int) × Int) -> Option ((List Int))) (s : (List Int) × Int) : Option ((List Int)):=match s with
  | (y1,y2) => cond (decide (y2 < (List.length a1 : Int))) (Ad (AO a1 y2) fun e11 => Ad (GJ v1.1 e11) fun v13 => Ad (AO y1 v13.1) fun e15 => Ad (AO a2 y2) fun e17 => Ad (AO y1 v13.1) fun e19 => rec ((Jr y1 v13.1 (IntKind.i64.wrap (e15 + e17))),(IntKind.i64.wrap (y2 + 1)))) (some y1)
def F2 (rec : ((List (Nat × (List Int))) × (List Int) × Int) -> Option ((List (Nat × (List Int))) × (List Int))) (y5 : Int) (x29 : List (Nat × (List Int))) (x30 : List Int) : Option ((List (Nat × (List Int))) × (List Int)):=rec (x29,x30,(IntKind.i64.wrap (y5 + 1)))
def E1 (v1 : Y32 × Bool) (z7 : List Int) (rec : ((List (Nat × (List Int))) × (List Int) × Int) -> Option ((List (Nat × (List Int))) × (List Int))) (s : (List (Nat × (List Int))) × (List Int) × Int) : Option ((List (Nat × (List Int))) × (List Int)):=match s with
  | (y3,y4,y5) => cond (decide (y5 < (List.length (AC 0 v1.1.2) : Int))) (Ad (AO z7 y5) fun e27 => cond (e27 != 0) (Ad (AO (AC 0 v1.1.2) y5) fun e32 => chk (List.length y3 + List.length [e32] <= lim) (Ad (AO z7 y5) fun e35 => chk (List.length y4 + List.length [e35] <= lim) (F2 rec y5 (y3 ++ [e32]) (y4 ++ [e35])))) (F2 rec y5 y3 y4)) (some (y3,y4))
def Hq (a0 : Int) (a1 : List (List Int)) (a2 : List Int) : Option (Y43 × Bool):=Ad (Dz a0 a1) fun v1 => cond (!v1.2) (some ((0,[],[]),false)) (chk ((0 : Int) <= (List.length v1.1.2 : Int) ∧ Int.toNat (List.length v1.1.2 : Int) <= lim) (Ad (Ao (F1 a1 a2 v1) fz ((List.replicate (Int.toNat (List.length v1.1.2 : Int)) (0 : Int)),0)) fun z7 => Ad (Ao (E1 v1 z7) fz (([] : List (Nat × (List Int))),([] : List Int),0)) fun o2 => (match o2 with
  | (z22,z23) => (chk (okJ (v1.1.2) (H4 z22) [] = true) (Ad (Bg (a0,List.map getM (H4 z22),z23)) fun v40 => cond (!v40) (some ((0,[],[]),false)) (some ((a0,List.map getM (H4 z22),z23),true)))))))
theorem NQ {a0 : Int} {a1 : List (List Int)} {a2 : List Int} {r : Y43 × Bool} (h : Hq a0 a1 a2 = some r) : Ai Tryz.prog 49 [nI a0,dL AJ a1,dL As a2] (.tup [.agg (Al r.1),.bool r.2]):=by
 unfold Hq at h
 refine st np rfl (rn 1 rfl (rs (sp 2 rfl (?_))))
 obtain ⟨v1,g2,h⟩:=Aa h
 refine qC (qs rfl (qa rfl (erD Ar _) Ax)) (HU g2) (sp 6 rfl (evn (Ac fun K3 hK3 => rn 1 rfl ?_)))
 rcases Ab h with ⟨g4,h⟩ | ⟨g4,h⟩
 ·exact qT rfl g4 (rn 1 rfl (Af ((by cases h; exact ⟨.inl rfl,rfl⟩))))
 ·refine qF rfl g4 (Ae (hK3 _ (rs (sp 3 rfl (?_)))))
  obtain ⟨g5,h⟩:=Aj h
  refine qMu As (0 : Int) rfl rfl rfl rfl g5 rfl (qAu rfl rfl rfl rfl (evn (Ac fun K6 hK6 => rn 1 rfl (qk [0,1,2,6,8,10,11] rfl ?_))))
  obtain ⟨o1,hl,hr1⟩:=Aa h
  have kXB1 : ∀ {z7 : List Int},z7 = o1 -> Jn K6 [(0,nI a0),(6,.box [nI 0,oL 42 Ah [],oL 3 As []]),(8,.box [nI v1.1.1,oL 42 Ah v1.1.2]),(10,wL 3 As z7)]:=by
   intro z7 h σ' hk
   subst h
   replace h:=hr1
   try dsimp only at h
   refine hK6 _ (lh hk rfl (qk [0,6,8,10] rfl (J1 (gSb (f:=Ah) (l:=v1.1.2) (q:=900001) (b:=8) [nI v1.1.1] [] rfl rfl rfl (fun _ => rfl) ?_))))
   intro U us1 hU
   refine kp [(0,nI a0),(6,.box [nI 0,oL 42 Ah [],oL 3 As []]),(8,.box [nI v1.1.1,oL 42 (pE Ah U) (AC 0 v1.1.2)]),(10,wL 3 As z7),(900001,.gh us1 (List.map (fun x => Kv (Ah x)) v1.1.2))] rfl rfl (rn 1 rfl (Ac fun K21 hK21 => rn 1 rfl ?_))
   obtain ⟨o2,hl,hr2⟩:=Aa h
   have kXB2 : ∀ {z22 : List (Nat × (List Int))} {z23 : List Int},(z22,z23) = o2 -> Jn K21 [(6,.box [nI 0,oL 42 Ah [],oL 3 As []]),(14,.box [nI a0,oL 42 (pE Ah U) z22,oL 3 As z23]),(900001,.gh us1 (List.map (fun x => Kv (Ah x)) v1.1.2))]:=by
    intro z22 z23 h σ' hk
    subst h
    replace h:=hr2
    try dsimp only at h
    refine hK21 _ (lh hk rfl (Ac fun K38 hK38 => qk [6,14,900001] rfl ?_))
    obtain ⟨g39,h⟩:=Aj h
    refine J1 (gJb (f:=Ah) (l:=v1.1.2) (q:=900001) (b:=14) [nI a0] [oL 3 As z23] (H4 z22) rfl UB rfl rfl (fun _ => rfl) hU g39 (kp [(6,.box [nI 0,oL 42 Ah [],oL 3 As []]),(14,.box [nI a0,oL 42 Ah (List.map getM (H4 z22)),oL 3 As z23])] rfl rfl (rs (sp 1 rfl (?_)))))
    obtain ⟨v40,g41,h⟩:=Aa h
    refine qC (qa rfl (erg (erc rfl (erc (erD A3 _) (erc (erD An _) rfl)))) Ax) (EN g41) (sp 1 rfl (evn ?_))
    rcases Ab h with ⟨g42,h⟩ | ⟨g42,h⟩
    ·exact qT rfl g42 (rn 1 rfl (Af ((by cases h; exact ⟨.inl rfl,rfl⟩))))
    ·exact qF rfl g42 (Ae (hK38 _ (rn 1 rfl (Af ((by cases h; exact ⟨.inl rfl,rfl⟩))))))
   refine AB (fun (s : (List (Nat × (List Int))) × (List Int) × Int) => match s with | (y3,y4,y5) => [(6,.box [nI 0,oL 42 Ah [],oL 3 As []]),(8,.box [nI v1.1.1,oL 42 (pE Ah U) (AC 0 v1.1.2)]),(10,wL 3 As z7),(14,.box [nI a0,oL 42 (pE Ah U) y3,oL 3 As y4]),(15,nI y5),(900001,.gh us1 (List.map (fun x => Kv (Ah x)) v1.1.2))]) _ _ _ _ hl (okr rfl) (fun _ => rfl) ?_
   rintro m ⟨y3,y4,y5⟩ N h hN
   unfold E1 at h
   dsimp only at h
   refine Ac fun K24 hK24 => rn 1 rfl ?_
   rcases Ab h with ⟨g25,h⟩ | ⟨g25,h⟩
   ·refine qT rfl g25 (Ae (hK24 _ (Ac fun K26 hK26 => Az (rs (sp 2 rfl (?_))))))
    obtain ⟨e27,g28,h⟩:=Aa h
    refine qIu rfl ⟨(AD g28).1,(AD g28).2.1⟩ (qLu 0 rfl rfl rfl AM g28 rfl rfl rfl (sp 1 rfl (evn ?_)))
    have kJ3 : ∀ {x29 : List (Nat × (List Int))} {x30 : List Int},F2 (Ao (E1 v1 z7) m) y5 x29 x30 = some o2 -> Jn K26 [(6,.box [nI 0,oL 42 Ah [],oL 3 As []]),(8,.box [nI v1.1.1,oL 42 (pE Ah U) (AC 0 v1.1.2)]),(10,wL 3 As z7),(14,.box [nI a0,oL 42 (pE Ah U) x29,oL 3 As x30]),(15,nI y5),(900001,.gh us1 (List.map (fun x => Kv (Ah x)) v1.1.2))]:=by
     intro x29 x30 h σ' hk
     unfold F2 at h
     exact hK26 _ (lh hk rfl (rg (sp 3 rfl (evn (hN _ _ h (okr rfl))))))
    rcases Ab h with ⟨g31,h⟩ | ⟨g31,h⟩
    ·refine qT rfl g31 (rd (by kernel_rfl) (sd 5 rfl (?_)))
     obtain ⟨e32,g33,h⟩:=Aa h
     refine ed rfl (qI rfl (zpE A8) g33 (sd 1 rfl (ed rfl (qBs (pE Ah U) [e32] rfl rfl rfl (zpE A8) (?_)))))
     obtain ⟨g34,h⟩:=Aj h
     refine ed rfl (qA (pE Ah U) y3 [e32] rfl rfl (Av (zpE A8) [e32]) rfl g34 (sd 2 rfl (CK (rgd (by kernel_rfl) (sd 4 rfl (?_))))))
     obtain ⟨e35,g36,h⟩:=Aa h
     refine ed rfl (qIu rfl ⟨(AD g36).1,(AD g36).2.1⟩ (ed rfl (qLu 0 rfl rfl rfl AM g36 rfl rfl rfl (ed rfl (qBs As [e35] rfl rfl rfl AM (?_))))))
     obtain ⟨g37,h⟩:=Aj h
     exact ed rfl (qA As y4 [e35] rfl rfl (Av AM [e35]) rfl g37 (sd 2 rfl (CK (kJ3 h _ (okr rfl)))))
    ·exact qF rfl g31 (Ae (kJ3 h _ (okr rfl)))
   ·exact qF rfl g25 (Aq (kXB2 (Option.some.inj h) _ (okr rfl)))
  refine AB (fun (s : (List Int) × Int) => match s with | (y1,y2) => [(0,nI a0),(1,dL AJ a1),(2,dL As a2),(6,.box [nI 0,oL 42 Ah [],oL 3 As []]),(8,.box [nI v1.1.1,oL 42 Ah v1.1.2]),(10,wL 3 As y1),(11,nI y2)]) _ _ _ _ hl (okr rfl) (fun _ => rfl) ?_
  rintro m ⟨y1,y2⟩ N h hN
  unfold F1 at h
  dsimp only at h
  refine Ac fun K8 hK8 => rn 1 rfl ?_
  rcases Ab h with ⟨g9,h⟩ | ⟨g9,h⟩
  ·refine qT rfl g9 (Ae (hK8 _ (Ac fun K10 hK10 => Az (rd (by kernel_rfl) (sd 3 rfl (?_))))))
   obtain ⟨e11,g12,h⟩:=Aa h
   refine ed rfl (qI rfl Br g12 (sd 1 rfl (?_)))
   obtain ⟨v13,g14,h⟩:=Aa h
   refine ed rfl (qC (qa rfl (erg (erc rfl (erc (erD A3 _) rfl))) (qa rfl (erD An _) Ax)) (ME g14) (sd 5 rfl (CK (rgd (by kernel_rfl) (sd 4 rfl (?_))))))
   obtain ⟨e15,g16,h⟩:=Aa h
   refine ed rfl (qIu rfl ⟨(AD g16).1,(AD g16).2.1⟩ (ed rfl (qLu 0 rfl rfl rfl AM g16 rfl rfl rfl (sd 2 rfl (?_)))))
   obtain ⟨e17,g18,h⟩:=Aa h
   refine ed rfl (qI rfl AM g18 (sd 2 rfl (?_)))
   obtain ⟨e19,g20,h⟩:=Aa h
   exact ed rfl (qIu rfl ⟨(AD g20).1,(AD g20).2.1⟩ (ed rfl (qSu (IntKind.i64.wrap (e15 + e17)) rfl rfl AM ⟨(AD g20).1,(AD g20).2.1⟩ rfl rfl rfl rfl rfl rfl (CK (hK10 _ (rg (sp 3 rfl (evn (hN _ _ h (okr rfl))))))))))
  ·exact qF rfl g9 (Aq (kXB1 (Option.some.inj h) _ (okr rfl)))
def Iq (a0 : List Int) (a1 : List Int) (rec : ((List Int) × Int) -> Option ((List Int))) (s : (List Int) × Int) : Option ((List Int)):=match s with
  | (y1,y2) => cond (decide (y2 < (List.length a1 : Int))) (Ad (AO a1 y2) fun e6 => Ad (AO a0 e6) fun e8 => chk (List.length y1 + List.length [e8] <= lim) (rec ((y1 ++ [e8]),(IntKind.i64.wrap (y2 + 1))))) (some y1)
def JW (a0 : List Int) (a1 : List Int) : Option ((List Int)):=Ad (Ao (Iq a0 a1) fz (([] : List Int),0)) fun z2 => some z2
theorem Sw {a0 : List Int} {a1 : List Int} {r : (List Int)} (h : JW a0 a1 = some r) : Ai Tryz.prog 123 [dL As a0,dL As a1] (oL 3 As r):=by
 unfold JW at h
 refine st iw rfl (rn 1 rfl (rs (qBs As [] rfl rfl rfl AM (sp 1 rfl (evn (Ac fun K1 hK1 => rn 1 rfl ?_))))))
 obtain ⟨o1,hl,hr1⟩:=Aa h
 have kXB1 : ∀ {z2 : List Int},z2 = o1 -> Jn K1 [(5,oL 3 As z2)]:=by
  intro z2 h σ' hk
  subst h
  replace h:=hr1
  try dsimp only at h
  exact hK1 _ (lh hk rfl (rn 1 rfl (Af ((by cases h; exact ⟨.inl rfl,rfl⟩)))))
 refine AB (fun (s : (List Int) × Int) => match s with | (y1,y2) => [(0,dL As a0),(1,dL As a1),(5,oL 3 As y1),(6,nI y2)]) _ _ _ _ hl (okr rfl) (fun _ => rfl) ?_
 rintro m ⟨y1,y2⟩ N h hN
 unfold Iq at h
 dsimp only at h
 refine Ac fun K3 hK3 => rn 1 rfl ?_
 rcases Ab h with ⟨g4,h⟩ | ⟨g4,h⟩
 ·refine qT rfl g4 (Ae (hK3 _ (Ac fun K5 hK5 => Az (rg (sp 4 rfl (?_))))))
  obtain ⟨e6,g7,h⟩:=Aa h
  refine qI rfl AM g7 (sp 1 rfl (?_))
  obtain ⟨e8,g9,h⟩:=Aa h
  refine qI rfl AM g9 (sp 1 rfl (qBs As [e8] rfl rfl rfl AM (?_)))
  obtain ⟨g10,h⟩:=Aj h
  exact qA As y1 [e8] rfl rfl (Av AM [e8]) rfl g10 (sp 1 rfl (evn (hK5 _ (rg (sp 3 rfl (evn (hN _ _ h (okr rfl))))))))
 ·exact qF rfl g4 (Aq (kXB1 (Option.some.inj h) _ (okr rfl)))
def En (a0 : Y43) (a1 : List Int) (rec : Int -> Option (Sum (Unit) (Y43 × Bool))) (y1 : Int) : Option (Sum (Unit) (Y43 × Bool)):=cond (decide (y1 < (List.length a1 : Int))) (Ad (AO a1 y1) fun e5 => Ad (EP e5 0 (IntKind.i64.wrap (a0.1 - 1))) fun v7 => cond (!v7) (some (.inr ((0,[],[]),false))) (rec (IntKind.i64.wrap (y1 + 1)))) (some (.inl ()))
def CJ (a0 : Y43) (a1 : List Int) (rec : ((List (List Int)) × Int) -> Option ((List (List Int)))) (s : (List (List Int)) × Int) : Option ((List (List Int))):=match s with
  | (y2,y3) => cond (decide (y3 < (List.length a0.2.1 : Int))) (Ad (AO a0.2.1 y3) fun e20 => Ad (JW e20 a1) fun v22 => chk (List.length y2 + List.length [v22] <= lim) (rec ((y2 ++ [v22]),(IntKind.i64.wrap (y3 + 1))))) (some y2)
def Ec (a0 : Y43) (a1 : List Int) : Option (Y43 × Bool):=Ad (Ao (En a0 a1) fz 0) fun o1 => (match o1 with
  | .inl _ => (Ad (Bg a0) fun v11 => cond (!v11) (some ((0,[],[]),false)) (cond (decide (5 < (List.length a1 : Int))) (some ((0,[],[]),false)) (Ad (Ao (CJ a0 a1) fz (([] : List (List Int)),0)) fun z16 => Ad (Hq (List.length a1 : Int) z16 a0.2.2) fun v25 => some (v25.1,v25.2))))
  | .inr r => some r)
theorem L9 {a0 : Y43} {a1 : List Int} {r : Y43 × Bool} (h : Ec a0 a1 = some r) : Ai Tryz.prog 160 [.agg (Bf a0),dL As a1] (.tup [.agg (Al r.1),.bool r.2]):=by
 unfold Ec at h
 refine st ja rfl (rn 1 rfl (Ac fun K1 hK1 => rn 1 rfl ?_))
 obtain ⟨o1,hl,hr1⟩:=Aa h
 have kXB1 : (.inl ()) = o1 -> Jn K1 [(1,dL As a1),(2,.box [nI a0.1,dL AJ a0.2.1,dL As a0.2.2]),(4,.box [nI 0,oL 42 Ah [],oL 3 As []])]:=by
  intro h σ' hk
  subst h
  replace h:=hr1
  try dsimp only at h
  refine hK1 _ (lh hk rfl (Ac fun K10 hK10 => rs (sp 1 rfl (?_))))
  obtain ⟨v11,g12,h⟩:=Aa h
  refine qC (qa rfl (erg (erc rfl (erc (erD Ar _) (erc (erD An _) rfl)))) Ax) (EN g12) (sp 2 rfl (?_))
  rcases Ab h with ⟨g13,h⟩ | ⟨g13,h⟩
  ·exact qg 30 g13 rfl (sp 4 rfl (evn (qT rfl rfl (rn 1 rfl (Af ((by cases h; exact ⟨.inl rfl,rfl⟩)))))))
  ·refine qg 30 g13 rfl (sp 4 rfl (evn ?_))
   rcases Ab h with ⟨g14,h⟩ | ⟨g14,h⟩
   ·exact qT rfl g14 (rn 1 rfl (Af ((by cases h; exact ⟨.inl rfl,rfl⟩))))
   ·refine qF rfl g14 (Ae (hK10 _ (rs (qBs Ah [] rfl rfl rfl A8 (sp 1 rfl (evn (Ac fun K15 hK15 => rn 1 rfl (qk [1,2,4,7,8] rfl ?_))))))))
    obtain ⟨o2,hl,hr2⟩:=Aa h
    have kXB2 : ∀ {z16 : List (List Int)},z16 = o2 -> Jn K15 [(1,dL As a1),(2,.box [nI a0.1,dL AJ a0.2.1,dL As a0.2.2]),(4,.box [nI 0,oL 42 Ah [],oL 3 As []]),(7,oL 42 Ah z16)]:=by
     intro z16 h σ' hk
     subst h
     replace h:=hr2
     try dsimp only at h
     refine hK15 _ (lh hk rfl (rs (sp 5 rfl (?_))))
     obtain ⟨v25,g26,h⟩:=Aa h
     exact qC (qs rfl (qa rfl (erD A3 _) (qa rfl (erD An _) Ax))) (NQ g26) (sp 6 rfl (evn (rn 1 rfl (Af ((by cases h; exact ⟨.inl rfl,rfl⟩))))))
    refine AB (fun (s : (List (List Int)) × Int) => match s with | (y2,y3) => [(1,dL As a1),(2,.box [nI a0.1,dL AJ a0.2.1,dL As a0.2.2]),(4,.box [nI 0,oL 42 Ah [],oL 3 As []]),(7,oL 42 Ah y2),(8,nI y3)]) _ _ _ _ hl (okr rfl) (fun _ => rfl) ?_
    rintro m ⟨y2,y3⟩ N h hN
    unfold CJ at h
    dsimp only at h
    refine Ac fun K17 hK17 => rn 1 rfl ?_
    rcases Ab h with ⟨g18,h⟩ | ⟨g18,h⟩
    ·refine qT rfl g18 (Ae (hK17 _ (Ac fun K19 hK19 => Az (rg (sp 4 rfl (?_))))))
     obtain ⟨e20,g21,h⟩:=Aa h
     refine qI rfl Br g21 (sp 2 rfl (?_))
     obtain ⟨v22,g23,h⟩:=Aa h
     refine qC (qa rfl (erD An _) (qa rfl (erD An _) Ax)) (Sw g23) (qBs Ah [v22] rfl rfl rfl A8 (?_))
     obtain ⟨g24,h⟩:=Aj h
     exact qA Ah y2 [v22] rfl rfl (Av A8 [v22]) rfl g24 (sp 1 rfl (evn (hK19 _ (rg (sp 3 rfl (evn (hN _ _ h (okr rfl))))))))
    ·exact qF rfl g18 (Aq (kXB2 (Option.some.inj h) _ (okr rfl)))
 refine AB (fun (y1 : Int) => [(1,dL As a1),(2,.box [nI a0.1,dL AJ a0.2.1,dL As a0.2.2]),(4,.box [nI 0,oL 42 Ah [],oL 3 As []]),(6,nI y1)]) _ _ _ _ hl (okr rfl) (fun _ => rfl) ?_
 rintro m y1 N h hN
 unfold En at h
 refine Ac fun K2 hK2 => rn 1 rfl ?_
 rcases Ab h with ⟨g3,h⟩ | ⟨g3,h⟩
 ·refine qT rfl g3 (Ae (hK2 _ (Ac fun K4 hK4 => Az (rd (by kernel_rfl) (sd 2 rfl (?_))))))
  obtain ⟨e5,g6,h⟩:=Aa h
  refine ed rfl (qI rfl AM g6 (sd 4 rfl (?_)))
  obtain ⟨v7,g8,h⟩:=Aa h
  refine ed rfl (qC (qs rfl (qs rfl (qs rfl Ax))) (E0 g8) (sd 1 rfl (CK ?_)))
  rcases Ab h with ⟨g9,h⟩ | ⟨g9,h⟩
  ·exact qT rfl g9 (rn 1 rfl (Af ((by cases h; cases hr1; exact ⟨.inl rfl,rfl⟩))))
  ·exact qF rfl g9 (Ae (hK4 _ (rg (sp 3 rfl (evn (hN _ _ h (okr rfl)))))))
 ·exact qF rfl g3 (Aq (kXB1 (Option.some.inj h) _ (okr rfl)))
def HV (a0 : List AU) (a1 : Y51) : Option (Y43 × Bool):=Ad (Dy a0 a1) fun v1 => Ad (Fn a0 a1) fun v4 => cond (!v4) (some ((0,[],[]),false)) (cond (v1.1 != a1.1) (some ((0,[],[]),false)) (Ad (B9 v1) fun v8 => Ad (Ec v8.1 a1.2.2) fun v10 => some (v10.1,v10.2)))
theorem M3 {a0 : List AU} {a1 : Y51} {r : Y43 × Bool} (h : HV a0 a1 = some r) : Ai Tryz.prog 109 [.agg [dL At a0],.agg (Gt a1)] (.tup [.agg (Al r.1),.bool r.2]):=by
 unfold HV at h
 refine st ie rfl (rn 1 rfl (rs (sp 2 rfl (?_))))
 obtain ⟨v1,g2,h⟩:=Aa h
 refine qC (qa rfl (erg (erc (erD AH _) rfl)) (qa rfl (erg (erc rfl (erc (erD BB _) (erc (erD An _) rfl)))) Ax)) (NN g2) (sp 2 rfl (evn (Ac fun K3 hK3 => rs (sp 2 rfl (?_)))))
 obtain ⟨v4,g5,h⟩:=Aa h
 refine qC (qa rfl (erg (erc (erD AH _) rfl)) (qa rfl (erg (erc rfl (erc (erD BB _) (erc (erD An _) rfl)))) Ax)) (KR g5) (sp 2 rfl (?_))
 rcases Ab h with ⟨g6,h⟩ | ⟨g6,h⟩
 ·exact qg 18 g6 rfl (sp 6 rfl (evn (qT rfl rfl (rn 1 rfl (Af ((by cases h; exact ⟨.inl rfl,rfl⟩)))))))
 ·refine qg 18 g6 rfl (sp 6 rfl (evn ?_))
  rcases Ab h with ⟨g7,h⟩ | ⟨g7,h⟩
  ·exact qT rfl g7 (rn 1 rfl (qk [4,5] rfl (Af ((by cases h; exact ⟨.inl rfl,rfl⟩)))))
  ·refine qF rfl g7 (Ae (hK3 _ (rs (sp 1 rfl (?_)))))
   obtain ⟨v8,g9,h⟩:=Aa h
   refine qC (qa rfl (erg (erc rfl (erc (erD A3 _) rfl))) Ax) (J2 g9) (sp 6 rfl (evn (rs (sp 3 rfl (?_)))))
   obtain ⟨v10,g11,h⟩:=Aa h
   exact qC (qa rfl (erg (erc rfl (erc (erD A3 _) (erc (erD An _) rfl)))) (qa rfl (erD An _) Ax)) (L9 g11) (sp 6 rfl (evn (rn 1 rfl (Af ((by cases h; exact ⟨.inl rfl,rfl⟩))))))
def FG (x4 : Bool) : Option (Bool):=some x4
def A4 (a0 : List AU) (a1 : Y53) : Option (Bool):=Ad (HV a0 a1.1) fun v1 => cond v1.2 (Ad (DV v1.1 a1.2) fun v6 => FG v6) (FG false)
theorem Kj {a0 : List AU} {a1 : Y53} {r : Bool} (h : A4 a0 a1 = some r) : Ai Tryz.prog 45 [.agg [dL At a0],.agg (AW a1)] (.bool r):=by
 unfold A4 at h
 refine st nl rfl (rn 1 rfl (rs (sp 3 rfl (?_))))
 obtain ⟨v1,g2,h⟩:=Aa h
 refine qC (qa rfl (erg (erc (erD AH _) rfl)) (qa rfl (erg (erc rfl (erc (erD BB _) (erc (erD An _) rfl)))) Ax)) (M3 g2) (sp 6 rfl (evn (rk fun K3 hK3 => ?_)))
 have kJ1 : ∀ {x4 : Bool},FG x4 = some r -> Jn K3 [(4,.bool x4)]:=by
  intro x4 h σ' hk
  unfold FG at h
  exact hK3 _ (lh hk rfl (Af ((by cases h; exact ⟨.inl rfl,rfl⟩))))
 refine sp 2 rfl (?_)
 rcases Ab h with ⟨g5,h⟩ | ⟨g5,h⟩
 ·refine qg 15 g5 rfl (sp 3 rfl (?_))
  obtain ⟨v6,g7,h⟩:=Aa h
  exact oGR rfl rfl (qC (qa rfl (erg (erc rfl (erc (erD A3 _) (erc (erD An _) rfl)))) (qa rfl (erg (erc rfl (erc (erD Ar _) (erc (erD An _) rfl)))) Ax)) (JV g7) (sp 2 rfl (evn (kJ1 h _ (okr rfl)))))
 ·exact qg 15 g5 rfl (sp 6 rfl (evn (kJ1 h _ (okr rfl))))
def BJ (a0 : Y29) (rec : Int -> Option (Sum (Unit) (Bool))) (y1 : Int) : Option (Sum (Unit) (Bool)):=cond (decide (y1 < (List.length a0.2.1 : Int))) (Ad (AO a0.2.1 y1) fun e11 => Ad (A4 a0.1 e11) fun v13 => cond (!v13) (some (.inr false)) (Ad (AO a0.2.1 y1) fun e16 => Ad (AO a0.2.2 y1) fun e18 => Ad (DV e16.2 e18) fun v20 => cond (!v20) (some (.inr false)) (rec (IntKind.i64.wrap (y1 + 1))))) (some (.inl ()))
def BP (a0 : Y29) : Option (Bool):=Ad (Bb a0.1) fun v2 => cond (!v2) (some false) (cond ((List.length a0.2.1 : Int) != (List.length a0.2.2 : Int)) (some false) (cond (decide (4 < (List.length a0.2.1 : Int))) (some false) (Ad (Ao (BJ a0) fz 0) fun o1 => (match o1 with
  | .inl _ => (some true)
  | .inr r => some r))))
theorem LA {a0 : Y29} {r : Bool} (h : BP a0 = some r) : Ai Tryz.prog 10 [.agg (Bx a0)] (.bool r):=by
 unfold BP at h
 refine st mP rfl (rn 1 rfl (Ac fun K1 hK1 => rs (sp 2 rfl (?_))))
 obtain ⟨v2,g3,h⟩:=Aa h
 refine qC (qa rfl (erg (erc (erD AH _) rfl)) Ax) (CI g3) (sp 2 rfl (?_))
 rcases Ab h with ⟨g4,h⟩ | ⟨g4,h⟩
 ·exact qg 8 g4 rfl (sp 14 rfl (evn (qT rfl rfl (rn 1 rfl (Af ((by cases h; exact ⟨.inl rfl,rfl⟩)))))))
 ·refine qg 8 g4 rfl (sp 9 rfl (?_))
  rcases Ab h with ⟨g5,h⟩ | ⟨g5,h⟩
  ·exact qg 17 g5 rfl (sp 5 rfl (evn (qk [1,22] rfl (qT rfl rfl (rn 1 rfl (Af ((by cases h; exact ⟨.inl rfl,rfl⟩))))))))
  ·refine qg 17 g5 rfl (sp 5 rfl (evn ?_))
   rcases Ab h with ⟨g6,h⟩ | ⟨g6,h⟩
   ·exact qT rfl g6 (rn 1 rfl (Af ((by cases h; exact ⟨.inl rfl,rfl⟩))))
   ·refine qF rfl g6 (Ae (hK1 _ (Ac fun K7 hK7 => rn 1 rfl ?_)))
    obtain ⟨o1,hl,hr1⟩:=Aa h
    have kXB1 : (.inl ()) = o1 -> Jn K7 []:=by
     intro h σ' hk
     subst h
     replace h:=hr1
     try dsimp only at h
     exact hK7 _ (lh hk rfl (rn 1 rfl (Af ((by cases h; exact ⟨.inl rfl,rfl⟩)))))
    refine AB (fun (y1 : Int) => [(1,.box [dL At a0.1,dL AW a0.2.1,dL Bf a0.2.2]),(3,nI y1)]) _ _ _ _ hl (okr rfl) (fun _ => rfl) ?_
    rintro m y1 N h hN
    unfold BJ at h
    refine Ac fun K8 hK8 => rn 1 rfl ?_
    rcases Ab h with ⟨g9,h⟩ | ⟨g9,h⟩
    ·refine qT rfl g9 (Ae (hK8 _ (Ac fun K10 hK10 => Az (rd (by kernel_rfl) (sd 5 rfl (?_))))))
     obtain ⟨e11,g12,h⟩:=Aa h
     refine ed rfl (qI rfl C1 g12 (sd 1 rfl (?_)))
     obtain ⟨v13,g14,h⟩:=Aa h
     refine ed rfl (qC (qa rfl (erg (erc (erD AH _) rfl)) (qa rfl (erg (erc rfl (erc (erD BB _) (erc (erD An _) (erc rfl (erc (erD Ar _) (erc (erD An _) rfl))))))) Ax)) (Kj g14) (sd 2 rfl (?_)))
     rcases Ab h with ⟨g15,h⟩ | ⟨g15,h⟩
     ·exact qgd 39 g15 rfl (sd 14 rfl (CK (qT rfl rfl (rn 1 rfl (qk [2] rfl (Af ((by cases h; cases hr1; exact ⟨.inl rfl,rfl⟩))))))))
     ·refine qgd 39 g15 rfl (sd 3 rfl (?_))
      obtain ⟨e16,g17,h⟩:=Aa h
      refine ed rfl (oGR rfl rfl (qI rfl C1 g17 (sd 5 rfl (?_))))
      obtain ⟨e18,g19,h⟩:=Aa h
      refine ed rfl (oGR rfl rfl (qI rfl Jj g19 (sd 1 rfl (?_))))
      obtain ⟨v20,g21,h⟩:=Aa h
      refine ed rfl (oGR rfl rfl (qC (qa rfl (erg (erc rfl (erc (erD Ar _) (erc (erD An _) rfl)))) (qa rfl (erg (erc rfl (erc (erD Ar _) (erc (erD An _) rfl)))) Ax)) (JV g21) (sd 2 rfl (CK ?_))))
      rcases Ab h with ⟨g22,h⟩ | ⟨g22,h⟩
      ·exact qT rfl g22 (rn 1 rfl (Af ((by cases h; cases hr1; exact ⟨.inl rfl,rfl⟩))))
      ·exact qF rfl g22 (Ae (hK10 _ (rg (sp 3 rfl (evn (hN _ _ h (okr rfl)))))))
    ·exact qF rfl g9 (Aq (kXB1 (Option.some.inj h) _ trivial))
def D8 (a0 : Y43) (a1 : Y43) : Option (Y43 × Bool):=Ad (Bg a0) fun v2 => cond (!v2) (some ((0,[],[]),false)) (Ad (Bg a1) fun v5 => cond (!v5) (some ((0,[],[]),false)) (cond (a0.1 != a1.1) (some ((0,[],[]),false)) (chk (List.length ([] : List (List Int)) + List.length a0.2.1 <= lim) (chk (List.length (([] : List (List Int)) ++ a0.2.1) + List.length a1.2.1 <= lim) (chk (List.length ([] : List Int) + List.length a0.2.2 <= lim) (chk (List.length (([] : List Int) ++ a0.2.2) + List.length a1.2.2 <= lim) (Ad (Hq a0.1 ((([] : List (List Int)) ++ a0.2.1) ++ a1.2.1) ((([] : List Int) ++ a0.2.2) ++ a1.2.2)) fun v13 => some (v13.1,v13.2))))))))
theorem Ik {a0 : Y43} {a1 : Y43} {r : Y43 × Bool} (h : D8 a0 a1 = some r) : Ai Tryz.prog 12 [.agg (Bf a0),.agg (Bf a1)] (.tup [.agg (Al r.1),.bool r.2]):=by
 unfold D8 at h
 refine st mQ rfl (rn 1 rfl (Ac fun K1 hK1 => rs (sp 1 rfl (?_))))
 obtain ⟨v2,g3,h⟩:=Aa h
 refine qC (qa rfl (erg (erc rfl (erc (erD Ar _) (erc (erD An _) rfl)))) Ax) (EN g3) (sp 2 rfl (?_))
 rcases Ab h with ⟨g4,h⟩ | ⟨g4,h⟩
 ·exact qg 11 g4 rfl (sp 11 rfl (evn (qT rfl rfl (rn 1 rfl (Af ((by cases h; exact ⟨.inl rfl,rfl⟩)))))))
 ·refine qg 11 g4 rfl (sp 1 rfl (?_))
  obtain ⟨v5,g6,h⟩:=Aa h
  refine oGR rfl rfl (qC (qa rfl (erg (erc rfl (erc (erD Ar _) (erc (erD An _) rfl)))) Ax) (EN g6) (sp 3 rfl (?_)))
  rcases Ab h with ⟨g7,h⟩ | ⟨g7,h⟩
  ·exact qg 16 g7 rfl (sp 6 rfl (evn (qk [2,3,4,22] rfl (qT rfl rfl (rn 1 rfl (Af ((by cases h; exact ⟨.inl rfl,rfl⟩))))))))
  ·refine qg 16 g7 rfl (sp 6 rfl (evn ?_))
   rcases Ab h with ⟨g8,h⟩ | ⟨g8,h⟩
   ·exact qT rfl g8 (rn 1 rfl (Af ((by cases h; exact ⟨.inl rfl,rfl⟩))))
   ·refine qF rfl g8 (Ae (hK1 _ (rd (by kernel_rfl) (sd 2 rfl (ed rfl (qBs Ah [] rfl rfl rfl A8 (sd 2 rfl (?_))))))))
    obtain ⟨g9,h⟩:=Aj h
    refine ed rfl (qA AJ ([] : List (List Int)) a0.2.1 rfl rfl (Av Br a0.2.1) (HQ (fun _ => rfl) _) g9 (sd 2 rfl (?_)))
    obtain ⟨g10,h⟩:=Aj h
    refine ed rfl (qA AJ (([] : List (List Int)) ++ a0.2.1) a1.2.1 rfl rfl (Av Br a1.2.1) (HQ (fun _ => rfl) _) g10 (ed rfl (qBs As [] rfl rfl rfl AM (sd 2 rfl (?_)))))
    obtain ⟨g11,h⟩:=Aj h
    refine ed rfl (qA As ([] : List Int) a0.2.2 rfl rfl (Av AM a0.2.2) (HQ (fun _ => rfl) _) g11 (sd 2 rfl (?_)))
    obtain ⟨g12,h⟩:=Aj h
    refine ed rfl (qA As (([] : List Int) ++ a0.2.2) a1.2.2 rfl rfl (Av AM a1.2.2) (HQ (fun _ => rfl) _) g12 (?_))
    obtain ⟨v13,g14,h⟩:=Aa h
    exact ed rfl (qC (qs rfl (qa rfl (erO Ar _) (qa rfl (erO An _) Ax))) (NQ g14) (sd 6 rfl (CK (qk [4,6,7] rfl (rn 1 rfl (Af ((by cases h; exact ⟨.inl rfl,rfl⟩))))))))
def Is (a0 : List AU) (rec : ((List AU) × Int) -> Option ((List AU))) (s : (List AU) × Int) : Option ((List AU)):=match s with
  | (y1,y2) => cond (decide (y2 < (List.length a0 : Int))) (Ad (AO a0 y2) fun e6 => Ad (FI e6.2) fun v8 => Ad (AO a0 y2) fun e10 => chk (List.length y1 + List.length [(e10.1,v8)] <= lim) (rec ((y1 ++ [(e10.1,v8)]),(IntKind.i64.wrap (y2 + 1))))) (some y1)
def FJ (a0 : List AU) : Option ((List AU)):=Ad (Ao (Is a0) fz (([] : List AU),0)) fun z2 => some z2
theorem HZ {a0 : List AU} {r : (List AU)} (h : FJ a0 = some r) : Ai Tryz.prog 101 [.agg [dL At a0]] (.agg [oL 123 Ak r]):=by
 unfold FJ at h
 refine st g0 rfl (rn 2 rfl (Ac fun K1 hK1 => rn 1 rfl ?_))
 obtain ⟨o1,hl,hr1⟩:=Aa h
 have kXB1 : ∀ {z2 : List AU},z2 = o1 -> Jn K1 [(2,.box [oL 123 Ak []]),(3,.box [oL 123 Ak z2])]:=by
  intro z2 h σ' hk
  subst h
  replace h:=hr1
  try dsimp only at h
  exact hK1 _ (lh hk rfl (rn 1 rfl (Af ((by cases h; exact ⟨.inl rfl,rfl⟩)))))
 refine AB (fun (s : (List AU) × Int) => match s with | (y1,y2) => [(1,.box [dL At a0]),(2,.box [oL 123 Ak []]),(3,.box [oL 123 Ak y1]),(4,nI y2)]) _ _ _ _ hl (okr rfl) (fun _ => rfl) ?_
 rintro m ⟨y1,y2⟩ N h hN
 unfold Is at h
 dsimp only at h
 refine Ac fun K3 hK3 => rn 1 rfl ?_
 rcases Ab h with ⟨g4,h⟩ | ⟨g4,h⟩
 ·refine qT rfl g4 (Ae (hK3 _ (Ac fun K5 hK5 => Az (rs (sp 3 rfl (?_))))))
  obtain ⟨e6,g7,h⟩:=Aa h
  refine qI rfl Cz g7 (sp 2 rfl (?_))
  obtain ⟨v8,g9,h⟩:=Aa h
  refine qC (qa rfl (erg (erc rfl (erc (erD Ar _) rfl))) Ax) (HY g9) (sp 2 rfl (evn (rgd (by kernel_rfl) (sd 5 rfl (?_)))))
  obtain ⟨e10,g11,h⟩:=Aa h
  refine ed rfl (qI rfl Cz g11 (sd 4 rfl (ed rfl (qBs Ak [(e10.1,v8)] rfl rfl rfl DP (?_)))))
  obtain ⟨g12,h⟩:=Aj h
  exact ed rfl (qA Ak y1 [(e10.1,v8)] rfl rfl (Av DP [(e10.1,v8)]) rfl g12 (sd 2 rfl (CK (hK5 _ (rg (sp 3 rfl (evn (hN _ _ h (okr rfl)))))))))
 ·exact qF rfl g4 (Aq (kXB1 (Option.some.inj h) _ (okr rfl)))
def EO (a0 : Y43) (rec : ((List Int) × Int) -> Option ((List Int))) (s : (List Int) × Int) : Option ((List Int)):=match s with
  | (y1,y2) => cond (decide (y2 < (List.length a0.2.2 : Int))) (Ad (AO a0.2.2 y2) fun e8 => chk (List.length y1 + List.length [IntKind.i64.wrap (0 - e8)] <= lim) (rec ((y1 ++ [IntKind.i64.wrap (0 - e8)]),(IntKind.i64.wrap (y2 + 1))))) (some y1)
def Bz (a0 : Y43) : Option (Y43):=Ad (FI (0,a0.2.1)) fun v1 => Ad (Ao (EO a0) fz (([] : List Int),0)) fun z4 => some (a0.1,v1.2,z4)
theorem DG {a0 : Y43} {r : Y43} (h : Bz a0 = some r) : Ai Tryz.prog 103 [.agg (Bf a0)] (.agg (Al r)):=by
 unfold Bz at h
 refine st hM rfl (rn 1 rfl (rs (sp 3 rfl (?_))))
 obtain ⟨v1,g2,h⟩:=Aa h
 refine qC (qa rfl (erg (erc rfl (erc (erD Ar _) rfl))) Ax) (HY g2) (sp 2 rfl (evn (rn 1 rfl (Ac fun K3 hK3 => rn 1 rfl ?_))))
 obtain ⟨o1,hl,hr1⟩:=Aa h
 have kXB1 : ∀ {z4 : List Int},z4 = o1 -> Jn K3 [(2,.box [nI 0,oL 42 Ah [],oL 3 As []]),(4,.box [nI a0.1,oL 42 Ah v1.2,oL 3 As z4])]:=by
  intro z4 h σ' hk
  subst h
  replace h:=hr1
  try dsimp only at h
  exact hK3 _ (lh hk rfl (rn 1 rfl (Af ((by cases h; exact ⟨.inl rfl,rfl⟩)))))
 refine AB (fun (s : (List Int) × Int) => match s with | (y1,y2) => [(1,.box [nI a0.1,dL AJ a0.2.1,dL As a0.2.2]),(2,.box [nI 0,oL 42 Ah [],oL 3 As []]),(4,.box [nI a0.1,oL 42 Ah v1.2,oL 3 As y1]),(5,nI y2)]) _ _ _ _ hl (okr rfl) (fun _ => rfl) ?_
 rintro m ⟨y1,y2⟩ N h hN
 unfold EO at h
 dsimp only at h
 refine Ac fun K5 hK5 => rn 1 rfl ?_
 rcases Ab h with ⟨g6,h⟩ | ⟨g6,h⟩
 ·refine qT rfl g6 (Ae (hK5 _ (Ac fun K7 hK7 => Az (rgd (by kernel_rfl) (sd 5 rfl (?_))))))
  obtain ⟨e8,g9,h⟩:=Aa h
  refine ed rfl (qI rfl AM g9 (sd 2 rfl (ed rfl (qBs As [IntKind.i64.wrap (0 - e8)] rfl rfl rfl AM (?_)))))
  obtain ⟨g10,h⟩:=Aj h
  exact ed rfl (qA As y1 [IntKind.i64.wrap (0 - e8)] rfl rfl (Av AM [IntKind.i64.wrap (0 - e8)]) rfl g10 (sd 2 rfl (CK (hK7 _ (rg (sp 3 rfl (evn (hN _ _ h (okr rfl)))))))))
 ·exact qF rfl g6 (Aq (kXB1 (Option.some.inj h) _ (okr rfl)))
def It (a0 : Y51) (rec : ((List CA) × Int) -> Option ((List CA))) (s : (List CA) × Int) : Option ((List CA)):=match s with
  | (y1,y2) => cond (decide (y2 < (List.length a0.2.1 : Int))) (Ad (AO a0.2.1 y2) fun e7 => Ad (AO a0.2.1 y2) fun e9 => chk (List.length ([] : List Int) + List.length e9.2 <= lim) (chk (List.length y1 + List.length ([(e7.1,([] : List Int) ++ e9.2)]) <= lim) (rec ((y1 ++ ([(e7.1,([] : List Int) ++ e9.2)])),(IntKind.i64.wrap (y2 + 1)))))) (some y1)
def Il (a0 : Y51) : Option (Y51):=chk (List.length ([] : List Int) + List.length a0.2.2 <= lim) (Ad (Ao (It a0) fz (([] : List CA),0)) fun z3 => some (a0.1,z3,([] : List Int) ++ a0.2.2))
theorem NR {a0 : Y51} {r : Y51} (h : Il a0 = some r) : Ai Tryz.prog 110 [.agg (Gt a0)] (.agg (PI r)):=by
 unfold Il at h
 refine st ig rfl (rn 1 rfl (rd (by kernel_rfl) (sd 2 rfl (ed rfl (qBs As [] rfl rfl rfl AM (sd 2 rfl (?_)))))))
 obtain ⟨g1,h⟩:=Aj h
 refine ed rfl (qA As ([] : List Int) a0.2.2 rfl rfl (Av AM a0.2.2) (HQ (fun _ => rfl) _) g1 (sd 3 rfl (CK (Ac fun K2 hK2 => rn 1 rfl ?_))))
 obtain ⟨o1,hl,hr1⟩:=Aa h
 have kXB1 : ∀ {z3 : List CA},z3 = o1 -> Jn K2 [(2,.box [nI 0,oL 146 Bk [],oL 3 As []]),(3,.box [nI a0.1,oL 146 Bk z3,oL 3 As (([] : List Int) ++ a0.2.2)])]:=by
  intro z3 h σ' hk
  subst h
  replace h:=hr1
  try dsimp only at h
  exact hK2 _ (lh hk rfl (rn 1 rfl (Af ((by cases h; exact ⟨.inl rfl,rfl⟩)))))
 refine AB (fun (s : (List CA) × Int) => match s with | (y1,y2) => [(1,.box [nI a0.1,dL Bc a0.2.1,dL As a0.2.2]),(2,.box [nI 0,oL 146 Bk [],oL 3 As []]),(3,.box [nI a0.1,oL 146 Bk y1,oL 3 As (([] : List Int) ++ a0.2.2)]),(4,nI y2)]) _ _ _ _ hl (okr rfl) (fun _ => rfl) ?_
 rintro m ⟨y1,y2⟩ N h hN
 unfold It at h
 dsimp only at h
 refine Ac fun K4 hK4 => rn 1 rfl ?_
 rcases Ab h with ⟨g5,h⟩ | ⟨g5,h⟩
 ·refine qT rfl g5 (Ae (hK4 _ (Ac fun K6 hK6 => Az (rgd (by kernel_rfl) (sd 5 rfl (?_))))))
  obtain ⟨e7,g8,h⟩:=Aa h
  refine ed rfl (qI rfl GN g8 (sd 2 rfl (ed rfl (qBs As [] rfl rfl rfl AM (sd 3 rfl (?_))))))
  obtain ⟨e9,g10,h⟩:=Aa h
  refine ed rfl (qI rfl GN g10 (sd 2 rfl (?_)))
  obtain ⟨g11,h⟩:=Aj h
  refine ed rfl (qA As ([] : List Int) e9.2 rfl rfl (Av AM e9.2) (HQ (fun _ => rfl) _) g11 (sd 1 rfl (ed rfl (qBs Bk [(e7.1,([] : List Int) ++ e9.2)] rfl rfl rfl Mc (?_)))))
  obtain ⟨g12,h⟩:=Aj h
  exact ed rfl (qA Bk y1 ([(e7.1,([] : List Int) ++ e9.2)]) rfl rfl (Av Mc ([(e7.1,([] : List Int) ++ e9.2)])) rfl g12 (sd 2 rfl (CK (hK6 _ (rg (sp 3 rfl (evn (hN _ _ h (okr rfl)))))))))
 ·exact qF rfl g5 (Aq (kXB1 (Option.some.inj h) _ (okr rfl)))
def IT (a0 : Y53) : Option (Y53):=Ad (Il a0.1) fun v1 => Ad (Bz a0.2) fun v3 => Ad (Bz v3) fun v5 => some (v1,v5)
theorem Q0 {a0 : Y53} {r : Y53} (h : IT a0 = some r) : Ai Tryz.prog 102 [.agg (AW a0)] (.agg (Ag r)):=by
 unfold IT at h
 refine st hH rfl (rn 1 rfl (rd (by kernel_rfl) (sd 2 rfl (?_))))
 obtain ⟨v1,g2,h⟩:=Aa h
 refine ed rfl (qC (qa rfl (erg (erc rfl (erc (erD BB _) (erc (erD An _) rfl)))) Ax) (NR g2) (sd 2 rfl (?_)))
 obtain ⟨v3,g4,h⟩:=Aa h
 refine ed rfl (qC (qa rfl (erg (erc rfl (erc (erD Ar _) (erc (erD An _) rfl)))) Ax) (DG g4) (?_))
 obtain ⟨v5,g6,h⟩:=Aa h
 exact ed rfl (qC (qa rfl (erg (erc rfl (erc (erO A3 _) (erc (erO An _) rfl)))) Ax) (DG g6) (sd 2 rfl (CK (Af ((by cases h; exact ⟨.inl rfl,rfl⟩))))))
def HW (a0 : Y29) (rec : ((List Y53) × Int) -> Option ((List Y53))) (s : (List Y53) × Int) : Option ((List Y53)):=match s with
  | (y1,y2) => cond (decide (y2 < (List.length a0.2.1 : Int))) (Ad (AO a0.2.1 y2) fun e8 => Ad (IT e8) fun v10 => chk (List.length y1 + List.length [v10] <= lim) (rec ((y1 ++ [v10]),(IntKind.i64.wrap (y2 + 1))))) (some y1)
def HX (a0 : Y29) (rec : ((List Y43) × Int) -> Option ((List Y43))) (s : (List Y43) × Int) : Option ((List Y43)):=match s with
  | (y3,y4) => cond (decide (y4 < (List.length a0.2.2 : Int))) (Ad (AO a0.2.2 y4) fun e18 => Ad (Bz e18) fun v20 => Ad (Bz v20) fun v22 => chk (List.length y3 + List.length [v22] <= lim) (rec ((y3 ++ [v22]),(IntKind.i64.wrap (y4 + 1))))) (some y3)
def HE (a0 : Y29) : Option (Y29):=Ad (FJ a0.1) fun v1 => Ad (Ao (HW a0) fz (([] : List Y53),0)) fun z4 => Ad (Ao (HX a0) fz (([] : List Y43),0)) fun z14 => some (v1,z4,z14)
theorem MD {a0 : Y29} {r : Y29} (h : HE a0 = some r) : Ai Tryz.prog 37 [.agg (Bx a0)] (.agg (Aw r)):=by
 unfold HE at h
 refine st nc rfl (rn 1 rfl (rs (sp 2 rfl (?_))))
 obtain ⟨v1,g2,h⟩:=Aa h
 refine qC (qa rfl (erg (erc (erD AH _) rfl)) Ax) (HZ g2) (sp 2 rfl (evn (rn 1 rfl (Ac fun K3 hK3 => rn 1 rfl ?_))))
 obtain ⟨o1,hl,hr1⟩:=Aa h
 have kXB1 : ∀ {z4 : List Y53},z4 = o1 -> Jn K3 [(1,.box [dL At a0.1,dL AW a0.2.1,dL Bf a0.2.2]),(2,.box [oL 123 Ak [],oL 54 Ag [],oL 44 Al []]),(4,.box [oL 123 Ak v1,oL 54 Ag z4,oL 44 Al []])]:=by
  intro z4 h σ' hk
  subst h
  replace h:=hr1
  try dsimp only at h
  refine hK3 _ (lh hk rfl (Ac fun K13 hK13 => rn 1 rfl ?_))
  obtain ⟨o2,hl,hr2⟩:=Aa h
  have kXB2 : ∀ {z14 : List Y43},z14 = o2 -> Jn K13 [(2,.box [oL 123 Ak [],oL 54 Ag [],oL 44 Al []]),(4,.box [oL 123 Ak v1,oL 54 Ag z4,oL 44 Al z14])]:=by
   intro z14 h σ' hk
   subst h
   replace h:=hr2
   try dsimp only at h
   exact hK13 _ (lh hk rfl (rn 1 rfl (Af ((by cases h; exact ⟨.inl rfl,rfl⟩)))))
  refine AB (fun (s : (List Y43) × Int) => match s with | (y3,y4) => [(1,.box [dL At a0.1,dL AW a0.2.1,dL Bf a0.2.2]),(2,.box [oL 123 Ak [],oL 54 Ag [],oL 44 Al []]),(4,.box [oL 123 Ak v1,oL 54 Ag z4,oL 44 Al y3]),(6,nI y4)]) _ _ _ _ hl (okr rfl) (fun _ => rfl) ?_
  rintro m ⟨y3,y4⟩ N h hN
  unfold HX at h
  dsimp only at h
  refine Ac fun K15 hK15 => rn 1 rfl ?_
  rcases Ab h with ⟨g16,h⟩ | ⟨g16,h⟩
  ·refine qT rfl g16 (Ae (hK15 _ (Ac fun K17 hK17 => Az (rgd (by kernel_rfl) (sd 5 rfl (?_))))))
   obtain ⟨e18,g19,h⟩:=Aa h
   refine ed rfl (qI rfl Jj g19 (sd 1 rfl (?_)))
   obtain ⟨v20,g21,h⟩:=Aa h
   refine ed rfl (qC (qa rfl (erg (erc rfl (erc (erD Ar _) (erc (erD An _) rfl)))) Ax) (DG g21) (?_))
   obtain ⟨v22,g23,h⟩:=Aa h
   refine ed rfl (qC (qa rfl (erg (erc rfl (erc (erO A3 _) (erc (erO An _) rfl)))) Ax) (DG g23) (ed rfl (qBs Al [v22] rfl rfl rfl ES (?_))))
   obtain ⟨g24,h⟩:=Aj h
   exact ed rfl (qA Al y3 [v22] rfl rfl (Av ES [v22]) rfl g24 (sd 2 rfl (CK (hK17 _ (rg (sp 3 rfl (evn (hN _ _ h (okr rfl)))))))))
  ·exact qF rfl g16 (Aq (kXB2 (Option.some.inj h) _ (okr rfl)))
 refine AB (fun (s : (List Y53) × Int) => match s with | (y1,y2) => [(1,.box [dL At a0.1,dL AW a0.2.1,dL Bf a0.2.2]),(2,.box [oL 123 Ak [],oL 54 Ag [],oL 44 Al []]),(4,.box [oL 123 Ak v1,oL 54 Ag y1,oL 44 Al []]),(5,nI y2)]) _ _ _ _ hl (okr rfl) (fun _ => rfl) ?_
 rintro m ⟨y1,y2⟩ N h hN
 unfold HW at h
 dsimp only at h
 refine Ac fun K5 hK5 => rn 1 rfl ?_
 rcases Ab h with ⟨g6,h⟩ | ⟨g6,h⟩
 ·refine qT rfl g6 (Ae (hK5 _ (Ac fun K7 hK7 => Az (rgd (by kernel_rfl) (sd 5 rfl (?_))))))
  obtain ⟨e8,g9,h⟩:=Aa h
  refine ed rfl (qI rfl C1 g9 (sd 1 rfl (?_)))
  obtain ⟨v10,g11,h⟩:=Aa h
  refine ed rfl (qC (qa rfl (erg (erc rfl (erc (erD BB _) (erc (erD An _) (erc rfl (erc (erD Ar _) (erc (erD An _) rfl))))))) Ax) (Q0 g11) (ed rfl (qBs Ag [v10] rfl rfl rfl Cn (?_))))
  obtain ⟨g12,h⟩:=Aj h
  exact ed rfl (qA Ag y1 [v10] rfl rfl (Av Cn [v10]) rfl g12 (sd 2 rfl (CK (hK7 _ (rg (sp 3 rfl (evn (hN _ _ h (okr rfl)))))))))
 ·exact qF rfl g6 (Aq (kXB1 (Option.some.inj h) _ (okr rfl)))
def EL (rec : ((List (List Int)) × Int) -> Option ((List (List Int)))) (y2 : Int) (x18 : List (List Int)) : Option ((List (List Int))):=rec (x18,(IntKind.i64.wrap (y2 + 1)))
def EK (a0 : Y32) (a1 : Y32) (rec : ((List (List Int)) × Int) -> Option ((List (List Int)))) (s : (List (List Int)) × Int) : Option ((List (List Int))):=match s with
  | (y1,y2) => cond (decide (y2 < (List.length a0.2 : Int))) (Ad (AO a0.2 y2) fun e14 => Ad (GJ a1 e14) fun v16 => cond (!v16.2) (Ad (AO a0.2 y2) fun e20 => chk (List.length ([] : List Int) + List.length e20 <= lim) (chk (List.length y1 + List.length ([([] : List Int) ++ e20]) <= lim) (EL rec y2 (y1 ++ ([([] : List Int) ++ e20]))))) (EL rec y2 y1)) (some y1)
def Ck (a0 : Y32) (a1 : Y32) : Option (Y32 × Bool):=Ad (AK a0) fun v2 => cond (!v2) (some ((0,[]),false)) (Ad (AK a1) fun v5 => cond (!v5) (some ((0,[]),false)) (cond (a0.1 != a1.1) (some ((0,[]),false)) (Ad (Ao (EK a0 a1) fz (([] : List (List Int)),0)) fun z10 => some ((a0.1,z10),true))))
theorem Fm {a0 : Y32} {a1 : Y32} {r : Y32 × Bool} (h : Ck a0 a1 = some r) : Ai Tryz.prog 106 [.agg (Gs a0),.agg (Gs a1)] (.tup [.agg (Ez r.1),.bool r.2]):=by
 unfold Ck at h
 refine st ia rfl (rn 1 rfl (Ac fun K1 hK1 => rs (sp 1 rfl (?_))))
 obtain ⟨v2,g3,h⟩:=Aa h
 refine qC (qa rfl (erg (erc rfl (erc (erD Ar _) rfl))) Ax) (AT g3) (sp 2 rfl (?_))
 rcases Ab h with ⟨g4,h⟩ | ⟨g4,h⟩
 ·exact qg 13 g4 rfl (sp 11 rfl (evn (qT rfl rfl (rn 1 rfl (Af ((by cases h; exact ⟨.inl rfl,rfl⟩)))))))
 ·refine qg 13 g4 rfl (sp 1 rfl (?_))
  obtain ⟨v5,g6,h⟩:=Aa h
  refine oGR rfl rfl (qC (qa rfl (erg (erc rfl (erc (erD Ar _) rfl))) Ax) (AT g6) (sp 3 rfl (?_)))
  rcases Ab h with ⟨g7,h⟩ | ⟨g7,h⟩
  ·exact qg 18 g7 rfl (sp 6 rfl (evn (qk [2,3,4,24] rfl (qT rfl rfl (rn 1 rfl (Af ((by cases h; exact ⟨.inl rfl,rfl⟩))))))))
  ·refine qg 18 g7 rfl (sp 6 rfl (evn ?_))
   rcases Ab h with ⟨g8,h⟩ | ⟨g8,h⟩
   ·exact qT rfl g8 (rn 1 rfl (Af ((by cases h; exact ⟨.inl rfl,rfl⟩))))
   ·refine qF rfl g8 (Ae (hK1 _ (rn 1 rfl (Ac fun K9 hK9 => rn 1 rfl ?_))))
    obtain ⟨o1,hl,hr1⟩:=Aa h
    have kXB1 : ∀ {z10 : List (List Int)},z10 = o1 -> Jn K9 [(4,.box [nI 0,oL 42 Ah []]),(6,.box [nI a0.1,oL 42 Ah z10])]:=by
     intro z10 h σ' hk
     subst h
     replace h:=hr1
     try dsimp only at h
     exact hK9 _ (lh hk rfl (rn 1 rfl (Af ((by cases h; exact ⟨.inl rfl,rfl⟩)))))
    refine AB (fun (s : (List (List Int)) × Int) => match s with | (y1,y2) => [(2,.box [nI a0.1,dL AJ a0.2]),(3,.box [nI a1.1,dL AJ a1.2]),(4,.box [nI 0,oL 42 Ah []]),(6,.box [nI a0.1,oL 42 Ah y1]),(7,nI y2)]) _ _ _ _ hl (okr rfl) (fun _ => rfl) ?_
    rintro m ⟨y1,y2⟩ N h hN
    unfold EK at h
    dsimp only at h
    refine Ac fun K11 hK11 => rn 1 rfl ?_
    rcases Ab h with ⟨g12,h⟩ | ⟨g12,h⟩
    ·refine qT rfl g12 (Ae (hK11 _ (Ac fun K13 hK13 => Az (rd (by kernel_rfl) (sd 4 rfl (?_))))))
     obtain ⟨e14,g15,h⟩:=Aa h
     refine ed rfl (qI rfl Br g15 (sd 1 rfl (?_)))
     obtain ⟨v16,g17,h⟩:=Aa h
     refine ed rfl (qC (qa rfl (erg (erc rfl (erc (erD Ar _) rfl))) (qa rfl (erD An _) Ax)) (ME g17) (sd 5 rfl (CK (rn 1 rfl ?_))))
     have kJ2 : ∀ {x18 : List (List Int)},EL (Ao (EK a0 a1) m) y2 x18 = some o1 -> Jn K13 [(2,.box [nI a0.1,dL AJ a0.2]),(3,.box [nI a1.1,dL AJ a1.2]),(4,.box [nI 0,oL 42 Ah []]),(6,.box [nI a0.1,oL 42 Ah x18]),(7,nI y2)]:=by
      intro x18 h σ' hk
      unfold EL at h
      exact hK13 _ (lh hk rfl (rg (sp 3 rfl (evn (hN _ _ h (okr rfl))))))
     rcases Ab h with ⟨g19,h⟩ | ⟨g19,h⟩
     ·refine qT rfl g19 (rgd (by kernel_rfl) (sd 2 rfl (ed rfl (qBs As [] rfl rfl rfl AM (sd 3 rfl (?_))))))
      obtain ⟨e20,g21,h⟩:=Aa h
      refine ed rfl (qI rfl Br g21 (sd 1 rfl (?_)))
      obtain ⟨g22,h⟩:=Aj h
      refine ed rfl (qA As ([] : List Int) e20 rfl rfl (Av AM e20) (HQ (fun _ => rfl) _) g22 (ed rfl (qBs Ah [([] : List Int) ++ e20] rfl rfl rfl A8 (?_))))
      obtain ⟨g23,h⟩:=Aj h
      exact ed rfl (qA Ah y1 ([([] : List Int) ++ e20]) rfl rfl (Av A8 ([([] : List Int) ++ e20])) rfl g23 (sd 2 rfl (CK (kJ2 h _ (okr rfl)))))
     ·exact qF rfl g19 (Ae (kJ2 h _ (okr rfl)))
    ·exact qF rfl g12 (Aq (kXB1 (Option.some.inj h) _ (okr rfl)))
def Dm (x4 : Bool) : Option (Bool):=some x4
def IS (a0 : List AU) (a1 : Y34) : Option (Bool):=Ad (Bi a0 a1.1) fun v1 => cond v1.2 (Ad (AK a1.2.1) fun v6 => cond v6 (Ad (AK a1.2.2) fun v9 => cond v9 (cond (a1.2.1.1 == v1.1.1) (Dm (a1.2.2.1 == v1.1.1)) (Dm false)) (Dm false)) (Dm false)) (Dm false)
theorem QZ {a0 : List AU} {a1 : Y34} {r : Bool} (h : IS a0 a1 = some r) : Ai Tryz.prog 158 [.agg [dL At a0],.agg (Gc a1)] (.bool r):=by
 unfold IS at h
 refine st iZ rfl (rn 1 rfl (rs (sp 3 rfl (?_))))
 obtain ⟨v1,g2,h⟩:=Aa h
 refine qC (qa rfl (erg (erc (erD AH _) rfl)) (qs rfl Ax)) (Dl g2) (sp 6 rfl (evn (rk fun K3 hK3 => ?_)))
 have kJ1 : ∀ {x4 : Bool},Dm x4 = some r -> Jn K3 [(4,.bool x4)]:=by
  intro x4 h σ' hk
  unfold Dm at h
  exact hK3 _ (lh hk rfl (Af ((by cases h; exact ⟨.inl rfl,rfl⟩))))
 refine sp 2 rfl (?_)
 rcases Ab h with ⟨g5,h⟩ | ⟨g5,h⟩
 ·refine qg 15 g5 rfl (sp 2 rfl (?_))
  obtain ⟨v6,g7,h⟩:=Aa h
  refine oGR rfl rfl (qC (qa rfl (erg (erc rfl (erc (erD Ar _) rfl))) Ax) (AT g7) (sp 2 rfl (?_)))
  rcases Ab h with ⟨g8,h⟩ | ⟨g8,h⟩
  ·refine qg 20 g8 rfl (sp 2 rfl (?_))
   obtain ⟨v9,g10,h⟩:=Aa h
   refine oGR rfl rfl (qC (qa rfl (erg (erc rfl (erc (erD Ar _) rfl))) Ax) (AT g10) (sp 2 rfl (?_)))
   rcases Ab h with ⟨g11,h⟩ | ⟨g11,h⟩
   ·refine qg 25 g11 rfl (sp 8 rfl (?_))
    rcases Ab h with ⟨g12,h⟩ | ⟨g12,h⟩
    ·exact qg 33 g12 rfl (sp 8 rfl (evn (kJ1 h _ (okr rfl))))
    ·exact qg 33 g12 rfl (sp 8 rfl (evn (kJ1 h _ (okr rfl))))
   ·exact qg 25 g11 rfl (sp 16 rfl (evn (kJ1 h _ (okr rfl))))
  ·exact qg 20 g8 rfl (sp 21 rfl (evn (kJ1 h _ (okr rfl))))
 ·exact qg 15 g5 rfl (sp 26 rfl (evn (kJ1 h _ (okr rfl))))
def Eb (a0 : List AU) (a1 : Y34) : Option (Y34 × Bool):=Ad (IS a0 a1) fun v2 => cond (!v2) (some (([],(0,[]),(0,[])),false)) (Ad (Bi a0 a1.1) fun v5 => Ad (Ck a1.2.1 v5.1) fun v7 => Ad (Ck a1.2.2 a1.2.1) fun v9 => Ad (Ck v9.1 v5.1) fun v11 => Ad (Ck v9.1 v11.1) fun v13 => some ((a1.1,v7.1,v13.1),true))
theorem L8 {a0 : List AU} {a1 : Y34} {r : Y34 × Bool} (h : Eb a0 a1 = some r) : Ai Tryz.prog 104 [.agg [dL At a0],.agg (Gc a1)] (.tup [.agg (C3 r.1),.bool r.2]):=by
 unfold Eb at h
 refine st hY rfl (rn 1 rfl (Ac fun K1 hK1 => rs (sp 2 rfl (?_))))
 obtain ⟨v2,g3,h⟩:=Aa h
 refine qC (qa rfl (erg (erc (erD AH _) rfl)) (qa rfl (erg (erc rfl (erc rfl (erc (erD Ar _) (erc rfl (erc (erD Ar _) rfl)))))) Ax)) (QZ g3) (sp 1 rfl (evn ?_))
 rcases Ab h with ⟨g4,h⟩ | ⟨g4,h⟩
 ·exact qT rfl g4 (rn 1 rfl (Af ((by cases h; exact ⟨.inl rfl,rfl⟩))))
 ·refine qF rfl g4 (Ae (hK1 _ (rs (sp 3 rfl (?_)))))
  obtain ⟨v5,g6,h⟩:=Aa h
  refine qC (qa rfl (erg (erc (erD AH _) rfl)) (qs rfl Ax)) (Dl g6) (sp 6 rfl (evn (rs (sp 3 rfl (?_)))))
  obtain ⟨v7,g8,h⟩:=Aa h
  refine qC (qa rfl (erg (erc rfl (erc (erD Ar _) rfl))) (qa rfl (erg (erc rfl (erc (erD A3 _) rfl))) Ax)) (Fm g8) (sp 6 rfl (evn (qk [3,4,6,8] rfl (rs (sp 4 rfl (?_))))))
  obtain ⟨v9,g10,h⟩:=Aa h
  refine qC (qa rfl (erg (erc rfl (erc (erD Ar _) rfl))) (qa rfl (erg (erc rfl (erc (erD Ar _) rfl))) Ax)) (Fm g10) (sp 6 rfl (evn (rs (sp 2 rfl (?_)))))
  obtain ⟨v11,g12,h⟩:=Aa h
  refine qC (qa rfl (erg (erc rfl (erc (erD A3 _) rfl))) (qa rfl (erg (erc rfl (erc (erD A3 _) rfl))) Ax)) (Fm g12) (sp 6 rfl (evn (rs (sp 2 rfl (?_)))))
  obtain ⟨v13,g14,h⟩:=Aa h
  exact qC (qa rfl (erg (erc rfl (erc (erD A3 _) rfl))) (qa rfl (erg (erc rfl (erc (erD A3 _) rfl))) Ax)) (Fm g14) (sp 6 rfl (evn (rn 1 rfl (Af ((by cases h; exact ⟨.inl rfl,rfl⟩))))))
def KS (a0 : Y32) (a1 : Y32) : Option (Y32 × Bool):=Ad (AK a0) fun v2 => cond (!v2) (some ((0,[]),false)) (Ad (AK a1) fun v5 => cond (!v5) (some ((0,[]),false)) (cond (a0.1 != a1.1) (some ((0,[]),false)) (chk (List.length ([] : List (List Int)) + List.length a0.2 <= lim) (chk (List.length (([] : List (List Int)) ++ a0.2) + List.length a1.2 <= lim) (Ad (Dz a0.1 ((([] : List (List Int)) ++ a0.2) ++ a1.2)) fun v11 => some (v11.1,v11.2))))))
theorem TI {a0 : Y32} {a1 : Y32} {r : Y32 × Bool} (h : KS a0 a1 = some r) : Ai Tryz.prog 107 [.agg (Gs a0),.agg (Gs a1)] (.tup [.agg (Ez r.1),.bool r.2]):=by
 unfold KS at h
 refine st ib rfl (rn 1 rfl (Ac fun K1 hK1 => rs (sp 1 rfl (?_))))
 obtain ⟨v2,g3,h⟩:=Aa h
 refine qC (qa rfl (erg (erc rfl (erc (erD Ar _) rfl))) Ax) (AT g3) (sp 2 rfl (?_))
 rcases Ab h with ⟨g4,h⟩ | ⟨g4,h⟩
 ·exact qg 11 g4 rfl (sp 11 rfl (evn (qT rfl rfl (rn 1 rfl (Af ((by cases h; exact ⟨.inl rfl,rfl⟩)))))))
 ·refine qg 11 g4 rfl (sp 1 rfl (?_))
  obtain ⟨v5,g6,h⟩:=Aa h
  refine oGR rfl rfl (qC (qa rfl (erg (erc rfl (erc (erD Ar _) rfl))) Ax) (AT g6) (sp 3 rfl (?_)))
  rcases Ab h with ⟨g7,h⟩ | ⟨g7,h⟩
  ·exact qg 16 g7 rfl (sp 6 rfl (evn (qk [2,3,4,22] rfl (qT rfl rfl (rn 1 rfl (Af ((by cases h; exact ⟨.inl rfl,rfl⟩))))))))
  ·refine qg 16 g7 rfl (sp 6 rfl (evn ?_))
   rcases Ab h with ⟨g8,h⟩ | ⟨g8,h⟩
   ·exact qT rfl g8 (rn 1 rfl (Af ((by cases h; exact ⟨.inl rfl,rfl⟩))))
   ·refine qF rfl g8 (Ae (hK1 _ (rd (by kernel_rfl) (sd 2 rfl (ed rfl (qBs Ah [] rfl rfl rfl A8 (sd 2 rfl (?_))))))))
    obtain ⟨g9,h⟩:=Aj h
    refine ed rfl (qA AJ ([] : List (List Int)) a0.2 rfl rfl (Av Br a0.2) (HQ (fun _ => rfl) _) g9 (sd 2 rfl (?_)))
    obtain ⟨g10,h⟩:=Aj h
    refine ed rfl (qA AJ (([] : List (List Int)) ++ a0.2) a1.2 rfl rfl (Av Br a1.2) (HQ (fun _ => rfl) _) g10 (?_))
    obtain ⟨v11,g12,h⟩:=Aa h
    exact ed rfl (qC (qs rfl (qa rfl (erO Ar _) Ax)) (HU g12) (sd 6 rfl (CK (rn 1 rfl (qk [4,5] rfl (Af ((by cases h; exact ⟨.inl rfl,rfl⟩))))))))
def Ef (rec : ((List AU) × Bool × Int) -> Option ((List AU) × Bool)) (y3 : Int) (x13 : Bool) (x14 : List AU) : Option ((List AU) × Bool):=rec (x14,x13,(IntKind.i64.wrap (y3 + 1)))
def Ee (rec : ((List AU) × Bool × Int) -> Option ((List AU) × Bool)) (a1 : List UInt8) (y3 : Int) (e7 : AU) (x12 : List AU) (x13 : Bool) : Option ((List AU) × Bool):=cond (!(e7.1 == a1)) (chk (List.length x12 + List.length [e7] <= lim) (Ef rec y3 x13 (x12 ++ [e7]))) (Ef rec y3 x13 x12)
def Ed (rec : ((List AU) × Bool × Int) -> Option ((List AU) × Bool)) (a1 : List UInt8) (a2 : Y32) (y1 : List AU) (y2 : Bool) (y3 : Int) (e7 : AU) (x11 : Bool) : Option ((List AU) × Bool):=cond x11 (chk (List.length y1 + List.length [(a1,a2)] <= lim) (Ee rec a1 y3 e7 (y1 ++ [(a1,a2)]) true)) (Ee rec a1 y3 e7 y1 y2)
def BG (a0 : List AU) (a1 : List UInt8) (a2 : Y32) (rec : ((List AU) × Bool × Int) -> Option ((List AU) × Bool)) (s : (List AU) × Bool × Int) : Option ((List AU) × Bool):=match s with
  | (y1,y2,y3) => cond (decide (y3 < (List.length a0 : Int))) (Ad (AO a0 y3) fun e7 => cond (!y2) (Ed rec a1 a2 y1 y2 y3 e7 (!Op.bytesLess e7.1 a1)) (Ed rec a1 a2 y1 y2 y3 e7 false)) (some (y1,y2))
def Eg (a0 : List AU) (x21 : List AU) (x24 : Bool) : Option ((List AU) × Bool):=cond x24 (Ad (FJ a0) fun v26 => some (v26,false)) (Ad (FJ x21) fun v28 => some (v28,true))
def C0 (a0 : List AU) (x21 : List AU) : Option ((List AU) × Bool):=Ad (Bb a0) fun v30 => cond (!v30) (Eg a0 x21 true) (Ad (Bb x21) fun v33 => Eg a0 x21 (!v33))
def FX (a0 : List AU) (a1 : List UInt8) (a2 : Y32) : Option ((List AU) × Bool):=Ad (Ao (BG a0 a1 a2) fz (([] : List AU),false,0)) fun o1 => (match o1 with
  | (z2,z3) => (cond (!z3) (chk (List.length z2 + List.length [(a1,a2)] <= lim) (C0 a0 (z2 ++ [(a1,a2)]))) (C0 a0 z2)))
theorem NP {a0 : List AU} {a1 : List UInt8} {a2 : Y32} {r : (List AU) × Bool} (h : FX a0 a1 a2 = some r) : Ai Tryz.prog 108 [.agg [dL At a0],.str a1,.agg (Gs a2)] (.tup [.agg [oL 123 Ak r.1],.bool r.2]):=by
 unfold FX at h
 refine st ic rfl (rn 3 rfl (Ac fun K1 hK1 => rn 1 rfl ?_))
 obtain ⟨o1,hl,hr1⟩:=Aa h
 have kXB1 : ∀ {z2 : List AU} {z3 : Bool},(z2,z3) = o1 -> Jn K1 [(1,.str a1),(3,.box [dL At a0]),(5,.box [nI a2.1,dL AJ a2.2]),(6,.box [oL 123 Ak []]),(8,.box [oL 123 At z2]),(9,.bool z3)]:=by
  intro z2 z3 h σ' hk
  subst h
  replace h:=hr1
  try dsimp only at h
  refine hK1 _ (lh hk rfl (Ac fun K20 hK20 => rn 1 rfl ?_))
  have kJ5 : ∀ {x21 : List AU},C0 a0 x21 = some r -> Jn K20 [(3,.box [dL At a0]),(6,.box [oL 123 Ak []]),(8,.box [oL 123 At x21])]:=by
   intro x21 h σ' hk
   unfold C0 at h
   refine hK20 _ (lh hk rfl (Ac fun K22 hK22 => rk fun K23 hK23 => ?_))
   have kJ6 : ∀ {x24 : Bool},Eg a0 x21 x24 = some r -> Jn K23 [(3,.box [dL At a0]),(6,.box [oL 123 Ak []]),(8,.box [oL 123 At x21]),(68,.bool x24)]:=by
    intro x24 h σ' hk
    unfold Eg at h
    refine hK23 _ (lh hk rfl ?_)
    rcases Ab h with ⟨g25,h⟩ | ⟨g25,h⟩
    ·refine qT rfl g25 (rs (sp 1 rfl (?_)))
     obtain ⟨v26,g27,h⟩:=Aa h
     exact qC (qa rfl (erg (erc (erD AH _) rfl)) Ax) (HZ g27) (sp 2 rfl (evn (Af ((by cases h; exact ⟨.inl rfl,rfl⟩)))))
    ·refine qF rfl g25 (Ae (hK22 _ (rs (sp 1 rfl (?_)))))
     obtain ⟨v28,g29,h⟩:=Aa h
     exact qC (qa rfl (erg (erc (erD AH _) rfl)) Ax) (HZ g29) (sp 2 rfl (evn (Af ((by cases h; exact ⟨.inl rfl,rfl⟩)))))
   refine sp 1 rfl (?_)
   obtain ⟨v30,g31,h⟩:=Aa h
   refine qC (qa rfl (erg (erc (erD AH _) rfl)) Ax) (CI g31) (sp 2 rfl (?_))
   rcases Ab h with ⟨g32,h⟩ | ⟨g32,h⟩
   ·exact qg 64 g32 rfl (sp 4 rfl (evn (kJ6 h _ (okr rfl))))
   ·refine qg 64 g32 rfl (sp 1 rfl (?_))
    obtain ⟨v33,g34,h⟩:=Aa h
    exact oGR rfl rfl (qC (qa rfl (erg (erc (erD AH _) rfl)) Ax) (CI g34) (sp 2 rfl (evn (kJ6 h _ (okr rfl)))))
  rcases Ab h with ⟨g35,h⟩ | ⟨g35,h⟩
  ·refine qT rfl g35 (rg (sp 5 rfl (qBs At [(a1,a2)] rfl rfl rfl Cz (?_))))
   obtain ⟨g36,h⟩:=Aj h
   exact qA At z2 [(a1,a2)] rfl rfl (Av Cz [(a1,a2)]) rfl g36 (sp 2 rfl (evn (kJ5 h _ (okr rfl))))
  ·exact qF rfl g35 (Ae (kJ5 h _ (okr rfl)))
 refine AB (fun (s : (List AU) × Bool × Int) => match s with | (y1,y2,y3) => [(1,.str a1),(3,.box [dL At a0]),(5,.box [nI a2.1,dL AJ a2.2]),(6,.box [oL 123 Ak []]),(8,.box [oL 123 At y1]),(9,.bool y2),(10,nI y3)]) _ _ _ _ hl (okr rfl) (fun _ => rfl) ?_
 rintro m ⟨y1,y2,y3⟩ N h hN
 unfold BG at h
 dsimp only at h
 refine Ac fun K4 hK4 => rn 1 rfl ?_
 rcases Ab h with ⟨g5,h⟩ | ⟨g5,h⟩
 ·refine qT rfl g5 (Ae (hK4 _ (Ac fun K6 hK6 => Az (rs (sp 3 rfl (?_))))))
  obtain ⟨e7,g8,h⟩:=Aa h
  refine qI rfl Cz g8 (sp 3 rfl (evn (Ac fun K9 hK9 => rk fun K10 hK10 => ?_)))
  have kJ2 : ∀ {x11 : Bool},Ed (Ao (BG a0 a1 a2) m) a1 a2 y1 y2 y3 e7 x11 = some o1 -> Jn K10 [(1,.str a1),(3,.box [dL At a0]),(5,.box [nI a2.1,dL AJ a2.2]),(6,.box [oL 123 Ak []]),(8,.box [oL 123 At y1]),(9,.bool y2),(10,nI y3),(11,.box [.str e7.1,nI e7.2.1,dL AJ e7.2.2]),(32,.bool x11)]:=by
   intro x11 h σ' hk
   unfold Ed at h
   refine hK10 _ (lh hk rfl ?_)
   have kJ3 : ∀ {x12 : List AU} {x13 : Bool},Ee (Ao (BG a0 a1 a2) m) a1 y3 e7 x12 x13 = some o1 -> Jn K9 [(1,.str a1),(3,.box [dL At a0]),(5,.box [nI a2.1,dL AJ a2.2]),(6,.box [oL 123 Ak []]),(8,.box [oL 123 At x12]),(9,.bool x13),(10,nI y3),(11,.box [.str e7.1,nI e7.2.1,dL AJ e7.2.2])]:=by
    intro x12 x13 h σ' hk
    unfold Ee at h
    refine hK9 _ (lh hk rfl (rn 1 rfl ?_))
    have kJ4 : ∀ {x14 : List AU},Ef (Ao (BG a0 a1 a2) m) y3 x13 x14 = some o1 -> Jn K6 [(1,.str a1),(3,.box [dL At a0]),(5,.box [nI a2.1,dL AJ a2.2]),(6,.box [oL 123 Ak []]),(8,.box [oL 123 At x14]),(9,.bool x13),(10,nI y3)]:=by
     intro x14 h σ' hk
     unfold Ef at h
     exact hK6 _ (lh hk rfl (rg (sp 3 rfl (evn (hN _ _ h (okr rfl))))))
    rcases Ab h with ⟨g15,h⟩ | ⟨g15,h⟩
    ·refine qT rfl g15 (rg (sp 3 rfl (qBs At [e7] rfl rfl rfl Cz (?_))))
     obtain ⟨g16,h⟩:=Aj h
     exact qA At x12 [e7] rfl rfl (Av Cz [e7]) rfl g16 (sp 2 rfl (evn (kJ4 h _ (okr rfl))))
    ·exact qF rfl g15 (Ae (kJ4 h _ (okr rfl)))
   rcases Ab h with ⟨g17,h⟩ | ⟨g17,h⟩
   ·refine qT rfl g17 (rs (sp 5 rfl (qBs At [(a1,a2)] rfl rfl rfl Cz (?_))))
    obtain ⟨g18,h⟩:=Aj h
    exact qA At y1 [(a1,a2)] rfl rfl (Av Cz [(a1,a2)]) rfl g18 (sp 2 rfl (evn (rg (sp 1 rfl (evn (kJ3 h _ (okr rfl)))))))
   ·exact qF rfl g17 (Ae (kJ3 h _ (okr rfl)))
  refine sp 3 rfl (?_)
  rcases Ab h with ⟨g19,h⟩ | ⟨g19,h⟩
  ·exact qg 27 g19 rfl (sp 5 rfl (evn (kJ2 h _ (okr rfl))))
  ·exact qg 27 g19 rfl (sp 5 rfl (evn (kJ2 h _ (okr rfl))))
 ·exact qF rfl g5 (Aq (kXB1 (Option.some.inj h) _ (okr rfl)))
def Fl (a0 : List AU) (a1 : Y34) : Option ((List AU) × Bool):=Ad (Eb a0 a1) fun v1 => cond (!v1.2) (Ad (FJ a0) fun v5 => some (v5,false)) (Ad (Bi a0 a1.1) fun v7 => Ad (Ck v7.1 v1.1.2.2) fun v9 => Ad (KS v9.1 v1.1.2.1) fun v11 => cond (!v11.2) (Ad (FJ a0) fun v15 => some (v15,false)) (Ad (FX a0 a1.1 v11.1) fun v17 => some (v17.1,v17.2)))
theorem KQ {a0 : List AU} {a1 : Y34} {r : (List AU) × Bool} (h : Fl a0 a1 = some r) : Ai Tryz.prog 38 [.agg [dL At a0],.agg (Gc a1)] (.tup [.agg [oL 123 Ak r.1],.bool r.2]):=by
 unfold Fl at h
 refine st ne rfl (rn 1 rfl (rs (sp 2 rfl (?_))))
 obtain ⟨v1,g2,h⟩:=Aa h
 refine qC (qa rfl (erg (erc (erD AH _) rfl)) (qa rfl (erg (erc rfl (erc rfl (erc (erD Ar _) (erc rfl (erc (erD Ar _) rfl)))))) Ax)) (L8 g2) (sp 6 rfl (evn (Ac fun K3 hK3 => rn 1 rfl ?_)))
 rcases Ab h with ⟨g4,h⟩ | ⟨g4,h⟩
 ·refine qT rfl g4 (rs (sp 1 rfl (?_)))
  obtain ⟨v5,g6,h⟩:=Aa h
  exact qC (qa rfl (erg (erc (erD AH _) rfl)) Ax) (HZ g6) (sp 2 rfl (evn (Af ((by cases h; exact ⟨.inl rfl,rfl⟩)))))
 ·refine qF rfl g4 (Ae (hK3 _ (rs (sp 3 rfl (?_)))))
  obtain ⟨v7,g8,h⟩:=Aa h
  refine qC (qa rfl (erg (erc (erD AH _) rfl)) (qs rfl Ax)) (Dl g8) (sp 6 rfl (evn (qk [2,3,4,6,8] rfl (rs (sp 3 rfl (?_))))))
  obtain ⟨v9,g10,h⟩:=Aa h
  refine qC (qa rfl (erg (erc rfl (erc (erD A3 _) rfl))) (qa rfl (erg (erc rfl (erc (erD A3 _) rfl))) Ax)) (Fm g10) (sp 6 rfl (evn (rs (sp 3 rfl (?_)))))
  obtain ⟨v11,g12,h⟩:=Aa h
  refine qC (qa rfl (erg (erc rfl (erc (erD A3 _) rfl))) (qa rfl (erg (erc rfl (erc (erD A3 _) rfl))) Ax)) (TI g12) (sp 6 rfl (evn (Ac fun K13 hK13 => rn 1 rfl ?_)))
  rcases Ab h with ⟨g14,h⟩ | ⟨g14,h⟩
  ·refine qT rfl g14 (rs (sp 1 rfl (?_)))
   obtain ⟨v15,g16,h⟩:=Aa h
   exact qC (qa rfl (erg (erc (erD AH _) rfl)) Ax) (HZ g16) (sp 2 rfl (evn (Af ((by cases h; exact ⟨.inl rfl,rfl⟩)))))
  ·refine qF rfl g14 (Ae (hK13 _ (rs (sp 4 rfl (?_)))))
   obtain ⟨v17,g18,h⟩:=Aa h
   exact qC (qa rfl (erg (erc (erD AH _) rfl)) (qs rfl (qa rfl (erg (erc rfl (erc (erD A3 _) rfl))) Ax))) (NP g18) (sp 6 rfl (evn (qk [4,14,15] rfl (rn 1 rfl (Af ((by cases h; exact ⟨.inl rfl,rfl⟩)))))))
def F0 (a0 : List AU) (a1 : Y51) (a2 : Y34) : Option (Y43 × Bool):=Ad (Fl a0 a2) fun v1 => Ad (HV a0 a1) fun v3 => Ad (HV v1.1 a1) fun v5 => cond (!v1.2) (some ((0,[],[]),false)) (cond (!v3.2) (some ((0,[],[]),false)) (cond (!v5.2) (some ((0,[],[]),false)) (Ad (Bz v3.1) fun v11 => Ad (D8 v5.1 v11) fun v13 => some (v13.1,v13.2))))
theorem Lv {a0 : List AU} {a1 : Y51} {a2 : Y34} {r : Y43 × Bool} (h : F0 a0 a1 a2 = some r) : Ai Tryz.prog 39 [.agg [dL At a0],.agg (Gt a1),.agg (Gc a2)] (.tup [.agg (Al r.1),.bool r.2]):=by
 unfold F0 at h
 refine st nf rfl (rn 1 rfl (rs (sp 2 rfl (?_))))
 obtain ⟨v1,g2,h⟩:=Aa h
 refine qC (qa rfl (erg (erc (erD AH _) rfl)) (qa rfl (erg (erc rfl (erc rfl (erc (erD Ar _) (erc rfl (erc (erD Ar _) rfl)))))) Ax)) (KQ g2) (sp 6 rfl (evn (rs (sp 2 rfl (?_)))))
 obtain ⟨v3,g4,h⟩:=Aa h
 refine qC (qa rfl (erg (erc (erD AH _) rfl)) (qa rfl (erg (erc rfl (erc (erD BB _) (erc (erD An _) rfl)))) Ax)) (M3 g4) (sp 6 rfl (evn (rs (sp 2 rfl (?_)))))
 obtain ⟨v5,g6,h⟩:=Aa h
 refine qC (qa rfl (erg (erc (erD E2 _) rfl)) (qa rfl (erg (erc rfl (erc (erD BB _) (erc (erD An _) rfl)))) Ax)) (M3 g6) (sp 6 rfl (evn (Ac fun K7 hK7 => rs (sp 3 rfl (?_)))))
 rcases Ab h with ⟨g8,h⟩ | ⟨g8,h⟩
 ·exact qg 36 g8 rfl (sp 7 rfl (evn (qk [6,10,12,43] rfl (qT rfl rfl (rn 1 rfl (Af ((by cases h; exact ⟨.inl rfl,rfl⟩))))))))
 ·refine qg 36 g8 rfl (sp 4 rfl (?_))
  rcases Ab h with ⟨g9,h⟩ | ⟨g9,h⟩
  ·exact qg 40 g9 rfl (sp 3 rfl (evn (qT rfl rfl (rn 1 rfl (Af ((by cases h; exact ⟨.inl rfl,rfl⟩)))))))
  ·refine qg 40 g9 rfl (sp 3 rfl (evn ?_))
   rcases Ab h with ⟨g10,h⟩ | ⟨g10,h⟩
   ·exact qT rfl g10 (rn 1 rfl (Af ((by cases h; exact ⟨.inl rfl,rfl⟩))))
   ·refine qF rfl g10 (Ae (hK7 _ (rd (by kernel_rfl) (sd 2 rfl (?_)))))
    obtain ⟨v11,g12,h⟩:=Aa h
    refine ed rfl (qC (qa rfl (erg (erc rfl (erc (erD A3 _) (erc (erD An _) rfl)))) Ax) (DG g12) (?_))
    obtain ⟨v13,g14,h⟩:=Aa h
    exact ed rfl (qC (qa rfl (erg (erc rfl (erc (erD A3 _) (erc (erD An _) rfl)))) (qa rfl (erg (erc rfl (erc (erO A3 _) (erc (erO An _) rfl)))) Ax)) (Ik g14) (sd 6 rfl (CK (qk [6,14,15] rfl (rn 1 rfl (Af ((by cases h; exact ⟨.inl rfl,rfl⟩))))))))
def FW (a0 : Y53) (a1 : List AU) (a2 : Y34) : Option (Y53 × Bool):=Ad (F0 a1 a0.1 a2) fun v1 => cond (!v1.2) (some (((0,[],[]),(0,[],[])),false)) (Ad (A4 a1 a0) fun v5 => cond (!v5) (some (((0,[],[]),(0,[],[])),false)) (Ad (D8 a0.2 v1.1) fun v8 => cond (!v8.2) (some (((0,[],[]),(0,[],[])),false)) (Ad (Il a0.1) fun v12 => some ((v12,v8.1),true))))
theorem NO {a0 : Y53} {a1 : List AU} {a2 : Y34} {r : Y53 × Bool} (h : FW a0 a1 a2 = some r) : Ai Tryz.prog 40 [.agg (AW a0),.agg [dL At a1],.agg (Gc a2)] (.tup [.agg (Ag r.1),.bool r.2]):=by
 unfold FW at h
 refine st ng rfl (rn 1 rfl (rs (sp 4 rfl (?_))))
 obtain ⟨v1,g2,h⟩:=Aa h
 refine qC (qa rfl (erg (erc (erD AH _) rfl)) (qa rfl (erg (erc rfl (erc (erD BB _) (erc (erD An _) rfl)))) (qa rfl (erg (erc rfl (erc rfl (erc (erD Ar _) (erc rfl (erc (erD Ar _) rfl)))))) Ax))) (Lv g2) (sp 6 rfl (evn (Ac fun K3 hK3 => rs (sp 3 rfl (?_)))))
 rcases Ab h with ⟨g4,h⟩ | ⟨g4,h⟩
 ·exact qg 22 g4 rfl (sp 5 rfl (evn (qT rfl rfl (rn 1 rfl (Af ((by cases h; exact ⟨.inl rfl,rfl⟩)))))))
 ·refine qg 22 g4 rfl (sp 2 rfl (?_))
  obtain ⟨v5,g6,h⟩:=Aa h
  refine oGR rfl rfl (qC (qa rfl (erg (erc (erD AH _) rfl)) (qa rfl (erg (erc rfl (erc (erD BB _) (erc (erD An _) (erc rfl (erc (erD Ar _) (erc (erD An _) rfl))))))) Ax)) (Kj g6) (sp 2 rfl (evn ?_)))
  rcases Ab h with ⟨g7,h⟩ | ⟨g7,h⟩
  ·exact qT rfl g7 (rn 1 rfl (qk [6,7] rfl (Af ((by cases h; exact ⟨.inl rfl,rfl⟩)))))
  ·refine qF rfl g7 (Ae (hK3 _ (rs (sp 3 rfl (?_)))))
   obtain ⟨v8,g9,h⟩:=Aa h
   refine qC (qa rfl (erg (erc rfl (erc (erD Ar _) (erc (erD An _) rfl)))) (qa rfl (erg (erc rfl (erc (erD A3 _) (erc (erD An _) rfl)))) Ax)) (Ik g9) (sp 6 rfl (evn (Ac fun K10 hK10 => rn 1 rfl ?_)))
   rcases Ab h with ⟨g11,h⟩ | ⟨g11,h⟩
   ·exact qT rfl g11 (rn 1 rfl (Af ((by cases h; exact ⟨.inl rfl,rfl⟩))))
   ·refine qF rfl g11 (Ae (hK10 _ (rd (by kernel_rfl) (sd 2 rfl (?_)))))
    obtain ⟨v12,g13,h⟩:=Aa h
    exact ed rfl (qC (qa rfl (erg (erc rfl (erc (erD BB _) (erc (erD An _) rfl)))) Ax) (NR g13) (sd 4 rfl (CK (Af ((by cases h; exact ⟨.inl rfl,rfl⟩))))))
def Bq (rec : ((List Y43) × (List Y53) × (List Y43) × Int) -> Option (Sum ((List Y43) × (List Y53) × (List Y43)) (Y29 × (List Y43) × Bool))) (a0 : Y29) (y1 : List Y43) (y2 : List Y53) (y3 : List Y43) (y4 : Int) (v19 : Y43 × Bool) (v23 : Y53 × Bool) (v27 : Y43 × Bool) (x31 : Bool) : Option (Sum ((List Y43) × (List Y53) × (List Y43)) (Y29 × (List Y43) × Bool)):=cond x31 (Ad (HE a0) fun v33 => some (.inr (v33,([] : List Y43),false))) (chk (0 < List.length y2) (Ad (AO y2 y4) fun e37 => chk (0 < List.length y3) (Ad (AO y3 y4) fun e41 => chk (List.length y1 + List.length [v19.1] <= lim) (rec ((y1 ++ [v19.1]),(Jr y2 y4 v23.1),(Jr y3 y4 v27.1),(IntKind.i64.wrap (y4 + 1)))))))
def BR (a0 : Y29) (a1 : Y34) (rec : ((List Y43) × (List Y53) × (List Y43) × Int) -> Option (Sum ((List Y43) × (List Y53) × (List Y43)) (Y29 × (List Y43) × Bool))) (s : (List Y43) × (List Y53) × (List Y43) × Int) : Option (Sum ((List Y43) × (List Y53) × (List Y43)) (Y29 × (List Y43) × Bool)):=match s with
  | (y1,y2,y3,y4) => cond (decide (y4 < (List.length a0.2.1 : Int))) (Ad (AO a0.2.1 y4) fun e17 => Ad (F0 a0.1 e17.1 a1) fun v19 => Ad (AO a0.2.1 y4) fun e21 => Ad (FW e21 a0.1 a1) fun v23 => Ad (AO a0.2.2 y4) fun e25 => Ad (D8 e25 v19.1) fun v27 => cond (!v19.2) (Bq rec a0 y1 y2 y3 y4 v19 v23 v27 true) (cond (!v23.2) (Bq rec a0 y1 y2 y3 y4 v19 v23 v27 true) (Bq rec a0 y1 y2 y3 y4 v19 v23 v27 (!v27.2)))) (some (.inl (y1,y2,y3)))
def DW (a0 : Y29) (a1 : Y34) : Option (Y29 × (List Y43) × Bool):=Ad (HE a0) fun v1 => Ad (Fl a0.1 a1) fun v3 => Ad (BP a0) fun v6 => cond (!v6) (some (v1,([] : List Y43),false)) (cond (!v3.2) (some (v1,([] : List Y43),false)) (Ad (Ao (BR a0 a1) fz (([] : List Y43),v1.2.1,v1.2.2,0)) fun o1 => (match o1 with
  | .inl (z11,z12,z13) => (some ((v3.1,z12,z13),z11,true))
  | .inr r => some r)))
theorem M2 {a0 : Y29} {a1 : Y34} {r : Y29 × (List Y43) × Bool} (h : DW a0 a1 = some r) : Ai Tryz.prog 8 [.agg (Bx a0),.agg (Gc a1)] (.tup [.agg (Aw r.1),oL 44 Al r.2.1,.bool r.2.2]):=by
 unfold DW at h
 refine sta pK rfl (SN (bcc (Gm Ng _) (bcc (Gm OB _) (bcc (Gm SZ _) rfl))) (SN (bcc rfl (bcc rfl (bcc (Gm IV _) (bcc rfl (bcc (Gm IV _) rfl))))) rfl)) (mvv (vag (vcc (LD NT _) (vcc (LD OO _) (vcc (LD TN _) rfl)))) (mvv (vag (vcc rfl (vcc rfl (vcc (LD I2 _) (vcc rfl (vcc (LD I2 _) rfl)))))) rfl)) (dcc (dag (dcc (dco G5 123 _) (dcc (dco Hu 54 _) (dcc (dco FP 44 _) dcn)))) (dcc (dco FP 44 _) (dcc rfl dcn))) (rn 1 rfl (rs (qBs Al [] rfl rfl rfl ES (sp 1 rfl (evn (rs (sp 1 rfl (?_))))))))
 obtain ⟨v1,g2,h⟩:=Aa h
 refine qC (qa rfl (erg (erc (erG DH _) (erc (erG Hl _) (erc (erG Lb _) rfl)))) Ax) (MD g2) (sp 2 rfl (evn (rs (sp 3 rfl (?_)))))
 obtain ⟨v3,g4,h⟩:=Aa h
 refine qC (qa rfl (erg (erc (erG DH _) rfl)) (qa rfl (erg (erc rfl (erc rfl (erc (erG Cv _) (erc rfl (erc (erG Cv _) rfl)))))) Ax)) (KQ g4) (sp 6 rfl (evn (Ac fun K5 hK5 => rs (sp 1 rfl (?_)))))
 obtain ⟨v6,g7,h⟩:=Aa h
 refine qC (qa rfl (erg (erc (erG DH _) (erc (erG Hl _) (erc (erG Lb _) rfl)))) Ax) (LA g7) (sp 2 rfl (?_))
 rcases Ab h with ⟨g8,h⟩ | ⟨g8,h⟩
 ·exact qg 31 g8 rfl (sp 3 rfl (evn (qT rfl rfl (rn 1 rfl (Af ((by cases h; exact ⟨.inl rfl,rfl⟩)))))))
 ·refine qg 31 g8 rfl (sp 3 rfl (evn (qk [2,3,4,7,8,9,34] rfl ?_)))
  rcases Ab h with ⟨g9,h⟩ | ⟨g9,h⟩
  ·exact qT rfl g9 (rn 1 rfl (Af ((by cases h; exact ⟨.inl rfl,rfl⟩))))
  ·refine qF rfl g9 (Ae (hK5 _ (Ac fun K10 hK10 => rn 1 rfl ?_)))
   obtain ⟨o1,hl,hr1⟩:=Aa h
   have kXB1 : ∀ {z11 : List Y43} {z12 : List Y53} {z13 : List Y43},(.inl (z11,z12,z13)) = o1 -> Jn K10 [(4,.box [oL 123 Ak [],oL 54 Ag [],oL 44 Al []]),(7,oL 44 Al z11),(8,.box [oL 123 Ak v1.1,oL 54 Ag z12,oL 44 Al z13]),(9,.box [oL 123 Ak v3.1])]:=by
    intro z11 z12 z13 h σ' hk
    subst h
    replace h:=hr1
    try dsimp only at h
    exact hK10 _ (lh hk rfl (rn 2 rfl (Af ((by cases h; exact ⟨.inl rfl,rfl⟩)))))
   refine AB (fun (s : (List Y43) × (List Y53) × (List Y43) × Int) => match s with | (y1,y2,y3,y4) => [(2,.box [aL F7 a0.1,aL E9 a0.2.1,aL KY a0.2.2]),(3,.box [.str a1.1,nI a1.2.1.1,aL FN a1.2.1.2,nI a1.2.2.1,aL FN a1.2.2.2]),(4,.box [oL 123 Ak [],oL 54 Ag [],oL 44 Al []]),(7,oL 44 Al y1),(8,.box [oL 123 Ak v1.1,oL 54 Ag y2,oL 44 Al y3]),(9,.box [oL 123 Ak v3.1]),(11,nI y4)]) _ _ _ _ hl (okr rfl) (fun _ => rfl) ?_
   rintro m ⟨y1,y2,y3,y4⟩ N h hN
   unfold BR at h
   dsimp only at h
   refine Ac fun K14 hK14 => rn 1 rfl ?_
   rcases Ab h with ⟨g15,h⟩ | ⟨g15,h⟩
   ·refine qT rfl g15 (Ae (hK14 _ (Ac fun K16 hK16 => Az (rd (by kernel_rfl) (sd 5 rfl (?_))))))
    obtain ⟨e17,g18,h⟩:=Aa h
    refine ed rfl (qI rfl Nb g18 (sd 3 rfl (?_)))
    obtain ⟨v19,g20,h⟩:=Aa h
    refine ed rfl (qC (qa rfl (erg (erc (erG DH _) rfl)) (qa rfl (erg (erc rfl (erc (erG N1 _) (erc (erG An _) rfl)))) (qa rfl (erg (erc rfl (erc rfl (erc (erG Cv _) (erc rfl (erc (erG Cv _) rfl)))))) Ax))) (Lv g20) (sd 6 rfl (CK (rd (by kernel_rfl) (sd 3 rfl (?_))))))
    obtain ⟨e21,g22,h⟩:=Aa h
    refine ed rfl (qI rfl Nb g22 (sd 4 rfl (?_)))
    obtain ⟨v23,g24,h⟩:=Aa h
    refine ed rfl (qC (qa rfl (erg (erc rfl (erc (erG N1 _) (erc (erG An _) (erc rfl (erc (erG Cv _) (erc (erG An _) rfl))))))) (qa rfl (erg (erc (erG DH _) rfl)) (qa rfl (erg (erc rfl (erc rfl (erc (erG Cv _) (erc rfl (erc (erG Cv _) rfl)))))) Ax))) (NO g24) (sd 6 rfl (CK (qk [2,3,4,7,8,9,11,12,13,14,15] rfl (rd (by kernel_rfl) (sd 3 rfl (?_)))))))
    obtain ⟨e25,g26,h⟩:=Aa h
    refine ed rfl (qI rfl V4 g26 (sd 2 rfl (?_)))
    obtain ⟨v27,g28,h⟩:=Aa h
    refine ed rfl (qC (qa rfl (erg (erc rfl (erc (erG Cv _) (erc (erG An _) rfl)))) (qa rfl (erg (erc rfl (erc (erD A3 _) (erc (erD An _) rfl)))) Ax)) (Ik g28) (sd 6 rfl (CK (Ac fun K29 hK29 => rk fun K30 hK30 => ?_))))
    have kJ2 : ∀ {x31 : Bool},Bq (Ao (BR a0 a1) m) a0 y1 y2 y3 y4 v19 v23 v27 x31 = some o1 -> Jn K30 [(2,.box [aL F7 a0.1,aL E9 a0.2.1,aL KY a0.2.2]),(3,.box [.str a1.1,nI a1.2.1.1,aL FN a1.2.1.2,nI a1.2.2.1,aL FN a1.2.2.2]),(4,.box [oL 123 Ak [],oL 54 Ag [],oL 44 Al []]),(7,oL 44 Al y1),(8,.box [oL 123 Ak v1.1,oL 54 Ag y2,oL 44 Al y3]),(9,.box [oL 123 Ak v3.1]),(11,nI y4),(12,.box [nI v19.1.1,oL 42 Ah v19.1.2.1,oL 3 As v19.1.2.2]),(14,.box [nI v23.1.1.1,oL 146 Bk v23.1.1.2.1,oL 3 As v23.1.1.2.2,nI v23.1.2.1,oL 42 Ah v23.1.2.2.1,oL 3 As v23.1.2.2.2]),(16,.box [nI v27.1.1,oL 42 Ah v27.1.2.1,oL 3 As v27.1.2.2]),(88,.bool x31)]:=by
     intro x31 h σ' hk
     unfold Bq at h
     refine hK30 _ (lh hk rfl ?_)
     rcases Ab h with ⟨g32,h⟩ | ⟨g32,h⟩
     ·refine qT rfl g32 (rs (sp 1 rfl (?_)))
      obtain ⟨v33,g34,h⟩:=Aa h
      exact qC (qa rfl (erg (erc (erG DH _) (erc (erG Hl _) (erc (erG Lb _) rfl)))) Ax) (MD g34) (qBs Al [] rfl rfl rfl ES (sp 3 rfl (evn (Af ((by cases h; cases hr1; exact ⟨.inl rfl,rfl⟩))))))
     ·refine qF rfl g32 (Ae (hK29 _ (qk [2,3,4,7,8,9,11,12,14,16] rfl ?_)))
      obtain ⟨g35,h⟩:=Aj h
      refine J1 (gLb (q:=900003) (b:=8) [oL 123 Ak v1.1] [oL 44 Al y3] rfl rfl rfl g35 ?_)
      intro gg36 mm36
      refine qk [2,3,4,7,8,9,11,12,14,16,900003] rfl (rs (sp 4 rfl (?_)))
      obtain ⟨e37,g38,h⟩:=Aa h
      refine qIt rfl rfl rfl rfl g38 (?_)
      refine qSt (y0:=e37) (i:=y4) (es:=6) 0 v23.1 [2,3,4,7,8,9,11,12,16] rfl rfl rfl rfl rfl rfl rfl rfl rfl rfl Cn g38 (fun x => sdL (Hu x)) (sdL (dcc rfl (dcc (dco RD 146 _) (dcc (dco (fun _ => rfl) 3 _) (dcc rfl (dcc (dco Dd 42 _) (dcc (dco (fun _ => rfl) 3 _) dcn))))))) (yc (snc (sA (aca KE _)) (snc (sA (aca Hv _)) (snc (sA (aca Nq _)) rfl))) (yc (snc rfl (snc rfl (snc (sA (aca F9 _)) (snc rfl (snc (sA (aca F9 _)) rfl))))) (yc (snc rfl (snc rfl (snc rfl rfl))) (yc (sdL (dcf FP _)) (yc (snc (sO (dco G5 123 _)) (snc rfl (snc (sO (dco FP 44 _)) rfl))) (yc (snc (sO (dco G5 123 _)) rfl) (yc rfl (yc (snc rfl (snc (sO (dco Dd 42 _)) (snc (sO (dco (fun _ => rfl) 3 _)) rfl))) (yc (snc rfl (snc (sO (dco Dd 42 _)) (snc (sO (dco (fun _ => rfl) 3 _)) rfl))) yn))))))))) (?_)
      refine evn (J1 (gDb (q:=900003) (b:=8) [oL 123 Ak v1.1] [oL 44 Al y3] rfl rfl rfl (sl rfl) (qk [2,3,4,7,8,9,11,12,16] rfl (qk [2,3,4,7,8,9,11,12,16] rfl ?_))))
      obtain ⟨g39,h⟩:=Aj h
      refine J1 (gLb (q:=900003) (b:=8) [oL 123 Ak v1.1,oL 54 Ag (Jr y2 y4 v23.1)] [] rfl rfl rfl g39 ?_)
      intro gg40 mm40
      refine qk [2,3,4,7,8,9,11,12,16,900003] rfl (rs (sp 4 rfl (?_)))
      obtain ⟨e41,g42,h⟩:=Aa h
      refine qIt rfl rfl rfl rfl g42 (?_)
      refine qSt (y0:=e41) (i:=y4) (es:=3) 0 v27.1 [2,3,4,7,8,9,11,12] rfl rfl rfl rfl rfl rfl rfl rfl rfl rfl ES g42 (fun x => sdL (FP x)) (sdL (dcc rfl (dcc (dco Dd 42 _) (dcc (dco (fun _ => rfl) 3 _) dcn)))) (yc (snc (sA (aca KE _)) (snc (sA (aca Hv _)) (snc (sA (aca Nq _)) rfl))) (yc (snc rfl (snc rfl (snc (sA (aca F9 _)) (snc rfl (snc (sA (aca F9 _)) rfl))))) (yc (snc rfl (snc rfl (snc rfl rfl))) (yc (sdL (dcf FP _)) (yc (snc (sO (dco G5 123 _)) (snc (sO (dco Hu 54 _)) (snc rfl rfl))) (yc (snc (sO (dco G5 123 _)) rfl) (yc rfl (yc (snc rfl (snc (sO (dco Dd 42 _)) (snc (sO (dco (fun _ => rfl) 3 _)) rfl))) yn)))))))) (?_)
      refine evn (J1 (gDb (q:=900003) (b:=8) [oL 123 Ak v1.1,oL 54 Ag (Jr y2 y4 v23.1)] [] rfl rfl rfl (sl rfl) (qk [2,3,4,7,8,9,11,12] rfl (rg (sp 2 rfl (qBs Al [v19.1] rfl rfl rfl ES (?_)))))))
      obtain ⟨g43,h⟩:=Aj h
      exact qA Al y1 [v19.1] rfl rfl (Av ES [v19.1]) rfl g43 (sp 1 rfl (evn (hK16 _ (rg (sp 3 rfl (evn (hN _ _ h (okr rfl))))))))
    refine sp 3 rfl (?_)
    rcases Ab h with ⟨g44,h⟩ | ⟨g44,h⟩
    ·exact qg 81 g44 rfl (sp 7 rfl (evn (kJ2 h _ (okr rfl))))
    ·refine qg 81 g44 rfl (sp 4 rfl (?_))
     rcases Ab h with ⟨g45,h⟩ | ⟨g45,h⟩
     ·exact qg 85 g45 rfl (sp 3 rfl (evn (kJ2 h _ (okr rfl))))
     ·exact qg 85 g45 rfl (sp 3 rfl (evn (kJ2 h _ (okr rfl))))
   ·exact qF rfl g15 (Aq (kXB1 (Option.some.inj h) _ (okr rfl)))
def GD (a0 : List Int) (a1 : Int) : Option (Int):=cond (decide ((IntKind.i64.wrap (a1 - (List.length a0 : Int))) < 0)) (some (-1)) (some (IntKind.i64.wrap (a1 - (List.length a0 : Int))))
theorem Jc {a0 : List Int} {a1 : Int} {r : Int} (h : GD a0 a1 = some r) : Ai Tryz.prog 167 [dL As a0,nI a1] (nI r):=by
 unfold GD at h
 refine st jh rfl (rn 2 rfl (Ac fun K1 hK1 => rn 1 rfl ?_))
 rcases Ab h with ⟨g2,h⟩ | ⟨g2,h⟩
 ·exact qT rfl g2 (rn 1 rfl (Af ((by cases h; exact ⟨.inl rfl,rfl⟩))))
 ·exact qF rfl g2 (Ae (hK1 _ (rn 1 rfl (Af ((by cases h; exact ⟨.inl rfl,rfl⟩))))))
def JM (a0 : List (List Int)) (rec : (Int × Int) -> Option (Sum (Int) (Int))) (s : Int × Int) : Option (Sum (Int) (Int)):=match s with
  | (y1,y2) => cond (decide (y2 < (List.length a0 : Int))) (Ad (AO a0 y2) fun e8 => Ad (GD e8 y1) fun v10 => cond (decide (v10 < 0)) (some (.inr (-1))) (rec (v10,(IntKind.i64.wrap (y2 + 1))))) (some (.inl y1))
def IJ (a0 : List (List Int)) (a1 : Int) : Option (Int):=cond (decide ((IntKind.i64.wrap (a1 - (List.length a0 : Int))) < 0)) (some (-1)) (Ad (Ao (JM a0) fz ((IntKind.i64.wrap (a1 - (List.length a0 : Int))),0)) fun o1 => (match o1 with
  | .inl z4 => (some z4)
  | .inr r => some r))
theorem Mw {a0 : List (List Int)} {a1 : Int} {r : Int} (h : IJ a0 a1 = some r) : Ai Tryz.prog 127 [dL AJ a0,nI a1] (nI r):=by
 unfold IJ at h
 refine st iB rfl (rn 2 rfl (Ac fun K1 hK1 => rn 1 rfl ?_))
 rcases Ab h with ⟨g2,h⟩ | ⟨g2,h⟩
 ·exact qT rfl g2 (rn 1 rfl (Af ((by cases h; exact ⟨.inl rfl,rfl⟩))))
 ·refine qF rfl g2 (Ae (hK1 _ (Ac fun K3 hK3 => rn 1 rfl ?_)))
  obtain ⟨o1,hl,hr1⟩:=Aa h
  have kXB1 : ∀ {z4 : Int},(.inl z4) = o1 -> Jn K3 [(1,nI z4)]:=by
   intro z4 h σ' hk
   subst h
   replace h:=hr1
   try dsimp only at h
   exact hK3 _ (lh hk rfl (rn 1 rfl (Af ((by cases h; exact ⟨.inl rfl,rfl⟩)))))
  refine AB (fun (s : Int × Int) => match s with | (y1,y2) => [(0,dL AJ a0),(1,nI y1),(5,nI y2)]) _ _ _ _ hl (okr rfl) (fun _ => rfl) ?_
  rintro m ⟨y1,y2⟩ N h hN
  unfold JM at h
  dsimp only at h
  refine Ac fun K5 hK5 => rn 1 rfl ?_
  rcases Ab h with ⟨g6,h⟩ | ⟨g6,h⟩
  ·refine qT rfl g6 (Ae (hK5 _ (Ac fun K7 hK7 => Az (rs (sp 2 rfl (?_))))))
   obtain ⟨e8,g9,h⟩:=Aa h
   refine qI rfl Br g9 (sp 2 rfl (?_))
   obtain ⟨v10,g11,h⟩:=Aa h
   refine qC (qa rfl (erD An _) (qs rfl Ax)) (Jc g11) (sp 1 rfl (evn (rn 1 rfl ?_)))
   rcases Ab h with ⟨g12,h⟩ | ⟨g12,h⟩
   ·exact qT rfl g12 (rn 1 rfl (Af ((by cases h; cases hr1; exact ⟨.inl rfl,rfl⟩))))
   ·exact qF rfl g12 (Ae (hK7 _ (rg (sp 3 rfl (evn (hN _ _ h (okr rfl)))))))
  ·exact qF rfl g6 (Aq (kXB1 (Option.some.inj h) _ (okr rfl)))
def D6 (a0 : Y32) (a1 : Int) : Option (Int):=Ad (IJ a0.2 a1) fun v1 => cond (decide (v1 < 0)) (some (-1)) (some v1)
theorem Ic {a0 : Y32} {a1 : Int} {r : Int} (h : D6 a0 a1 = some r) : Ai Tryz.prog 59 [.agg (W0 a0),nI a1] (nI r):=by
 unfold D6 at h
 refine st nz rfl (rn 1 rfl (rs (sp 3 rfl (?_))))
 obtain ⟨v1,g2,h⟩:=Aa h
 refine qC (qa rfl (erD Ar _) (qs rfl Ax)) (Mw g2) (sp 1 rfl (evn (Ac fun K3 hK3 => rn 1 rfl ?_)))
 rcases Ab h with ⟨g4,h⟩ | ⟨g4,h⟩
 ·exact qT rfl g4 (rn 1 rfl (Af ((by cases h; exact ⟨.inl rfl,rfl⟩))))
 ·exact qF rfl g4 (Ae (hK3 _ (rn 1 rfl (Af ((by cases h; exact ⟨.inl rfl,rfl⟩))))))
def HA (a0 : Kx) (a1 : Int) : Option (Int):=cond (decide ((IntKind.i64.wrap (a1 - (List.length a0.1 : Int))) < 0)) (some (-1)) (Ad (D6 a0.2 (IntKind.i64.wrap (a1 - (List.length a0.1 : Int)))) fun v3 => cond (decide (v3 < 0)) (some (-1)) (some v3))
theorem QQ {a0 : Kx} {a1 : Int} {r : Int} (h : HA a0 a1 = some r) : Ai Tryz.prog 165 [.agg (Gr a0),nI a1] (nI r):=by
 unfold HA at h
 refine st jf rfl (rn 2 rfl (Ac fun K1 hK1 => rn 1 rfl ?_))
 rcases Ab h with ⟨g2,h⟩ | ⟨g2,h⟩
 ·exact qT rfl g2 (rn 1 rfl (Af ((by cases h; exact ⟨.inl rfl,rfl⟩))))
 ·refine qF rfl g2 (Ae (hK1 _ (rs (sp 3 rfl (?_)))))
  obtain ⟨v3,g4,h⟩:=Aa h
  refine qC (qa rfl (erg (erc rfl (erc (erD Ar _) rfl))) (qs rfl Ax)) (Ic g4) (sp 1 rfl (evn (Ac fun K5 hK5 => rn 1 rfl ?_)))
  rcases Ab h with ⟨g6,h⟩ | ⟨g6,h⟩
  ·exact qT rfl g6 (rn 1 rfl (qk [4] rfl (Af ((by cases h; exact ⟨.inl rfl,rfl⟩)))))
  ·exact qF rfl g6 (Ae (hK5 _ (rn 1 rfl (Af ((by cases h; exact ⟨.inl rfl,rfl⟩))))))
def I0 (a0 : List Kx) (rec : (Int × Int) -> Option (Sum (Int) (Int))) (s : Int × Int) : Option (Sum (Int) (Int)):=match s with
  | (y1,y2) => cond (decide (y2 < (List.length a0 : Int))) (Ad (AO a0 y2) fun e8 => Ad (HA e8 y1) fun v10 => cond (decide (v10 < 0)) (some (.inr (-1))) (rec (v10,(IntKind.i64.wrap (y2 + 1))))) (some (.inl y1))
def Jd (a0 : List Kx) (a1 : Int) : Option (Int):=cond (decide ((IntKind.i64.wrap (a1 - (List.length a0 : Int))) < 0)) (some (-1)) (Ad (Ao (I0 a0) fz ((IntKind.i64.wrap (a1 - (List.length a0 : Int))),0)) fun o1 => (match o1 with
  | .inl z4 => (some z4)
  | .inr r => some r))
theorem Qe {a0 : List Kx} {a1 : Int} {r : Int} (h : Jd a0 a1 = some r) : Ai Tryz.prog 124 [dL Gr a0,nI a1] (nI r):=by
 unfold Jd at h
 refine st iy rfl (rn 2 rfl (Ac fun K1 hK1 => rn 1 rfl ?_))
 rcases Ab h with ⟨g2,h⟩ | ⟨g2,h⟩
 ·exact qT rfl g2 (rn 1 rfl (Af ((by cases h; exact ⟨.inl rfl,rfl⟩))))
 ·refine qF rfl g2 (Ae (hK1 _ (Ac fun K3 hK3 => rn 1 rfl ?_)))
  obtain ⟨o1,hl,hr1⟩:=Aa h
  have kXB1 : ∀ {z4 : Int},(.inl z4) = o1 -> Jn K3 [(1,nI z4)]:=by
   intro z4 h σ' hk
   subst h
   replace h:=hr1
   try dsimp only at h
   exact hK3 _ (lh hk rfl (rn 1 rfl (Af ((by cases h; exact ⟨.inl rfl,rfl⟩)))))
  refine AB (fun (s : Int × Int) => match s with | (y1,y2) => [(0,dL Gr a0),(1,nI y1),(5,nI y2)]) _ _ _ _ hl (okr rfl) (fun _ => rfl) ?_
  rintro m ⟨y1,y2⟩ N h hN
  unfold I0 at h
  dsimp only at h
  refine Ac fun K5 hK5 => rn 1 rfl ?_
  rcases Ab h with ⟨g6,h⟩ | ⟨g6,h⟩
  ·refine qT rfl g6 (Ae (hK5 _ (Ac fun K7 hK7 => Az (rs (sp 2 rfl (?_))))))
   obtain ⟨e8,g9,h⟩:=Aa h
   refine qI rfl SM g9 (sp 2 rfl (?_))
   obtain ⟨v10,g11,h⟩:=Aa h
   refine qC (qa rfl (erg (erc rfl (erc rfl (erc (erD Ar _) rfl)))) (qs rfl Ax)) (QQ g11) (sp 1 rfl (evn (rn 1 rfl ?_)))
   rcases Ab h with ⟨g12,h⟩ | ⟨g12,h⟩
   ·exact qT rfl g12 (rn 1 rfl (Af ((by cases h; cases hr1; exact ⟨.inl rfl,rfl⟩))))
   ·exact qF rfl g12 (Ae (hK7 _ (rg (sp 3 rfl (evn (hN _ _ h (okr rfl)))))))
  ·exact qF rfl g6 (Aq (kXB1 (Option.some.inj h) _ (okr rfl)))
def GC (a0 : List Kx) (a1 : Int) : Option (Int):=Ad (Jd a0 a1) fun v1 => cond (decide (v1 < 0)) (some (-1)) (some v1)
theorem Oh {a0 : List Kx} {a1 : Int} {r : Int} (h : GC a0 a1 = some r) : Ai Tryz.prog 56 [.agg [dL Gr a0],nI a1] (nI r):=by
 unfold GC at h
 refine st nw rfl (rn 1 rfl (rs (sp 3 rfl (?_))))
 obtain ⟨v1,g2,h⟩:=Aa h
 refine qC (qa rfl (erD Pa _) (qs rfl Ax)) (Qe g2) (sp 1 rfl (evn (Ac fun K3 hK3 => rn 1 rfl ?_)))
 rcases Ab h with ⟨g4,h⟩ | ⟨g4,h⟩
 ·exact qT rfl g4 (rn 1 rfl (Af ((by cases h; exact ⟨.inl rfl,rfl⟩))))
 ·exact qF rfl g4 (Ae (hK3 _ (rn 1 rfl (Af ((by cases h; exact ⟨.inl rfl,rfl⟩))))))
def Bu (a0 : Y43) (a1 : Int) : Option (Int):=Ad (IJ a0.2.1 a1) fun v1 => cond (decide (v1 < 0)) (some (-1)) (Ad (GD a0.2.2 v1) fun v5 => cond (decide (v5 < 0)) (some (-1)) (some v5))
theorem Hz {a0 : Y43} {a1 : Int} {r : Int} (h : Bu a0 a1 = some r) : Ai Tryz.prog 126 [.agg (Gb a0),nI a1] (nI r):=by
 unfold Bu at h
 refine st iA rfl (rn 1 rfl (rs (sp 3 rfl (?_))))
 obtain ⟨v1,g2,h⟩:=Aa h
 refine qC (qa rfl (erD Ar _) (qs rfl Ax)) (Mw g2) (sp 1 rfl (evn (Ac fun K3 hK3 => rn 1 rfl ?_)))
 rcases Ab h with ⟨g4,h⟩ | ⟨g4,h⟩
 ·exact qT rfl g4 (rn 1 rfl (Af ((by cases h; exact ⟨.inl rfl,rfl⟩))))
 ·refine qF rfl g4 (Ae (hK3 _ (rs (sp 3 rfl (?_)))))
  obtain ⟨v5,g6,h⟩:=Aa h
  refine qC (qa rfl (erD An _) (qs rfl Ax)) (Jc g6) (sp 1 rfl (evn (Ac fun K7 hK7 => rn 1 rfl ?_)))
  rcases Ab h with ⟨g8,h⟩ | ⟨g8,h⟩
  ·exact qT rfl g8 (rn 1 rfl (qk [4] rfl (Af ((by cases h; exact ⟨.inl rfl,rfl⟩)))))
  ·exact qF rfl g8 (Ae (hK7 _ (rn 1 rfl (Af ((by cases h; exact ⟨.inl rfl,rfl⟩))))))
def Ib (a0 : CA) (a1 : Int) : Option (Int):=cond (decide ((IntKind.i64.wrap (a1 - (List.length a0.1 : Int))) < 0)) (some (-1)) (Ad (GD a0.2 (IntKind.i64.wrap (a1 - (List.length a0.1 : Int)))) fun v3 => cond (decide (v3 < 0)) (some (-1)) (some v3))
theorem RZ {a0 : CA} {a1 : Int} {r : Int} (h : Ib a0 a1 = some r) : Ai Tryz.prog 196 [.agg (Jt a0),nI a1] (nI r):=by
 unfold Ib at h
 refine st jF rfl (rn 2 rfl (Ac fun K1 hK1 => rn 1 rfl ?_))
 rcases Ab h with ⟨g2,h⟩ | ⟨g2,h⟩
 ·exact qT rfl g2 (rn 1 rfl (Af ((by cases h; exact ⟨.inl rfl,rfl⟩))))
 ·refine qF rfl g2 (Ae (hK1 _ (rs (sp 3 rfl (?_)))))
  obtain ⟨v3,g4,h⟩:=Aa h
  refine qC (qa rfl (erD An _) (qs rfl Ax)) (Jc g4) (sp 1 rfl (evn (Ac fun K5 hK5 => rn 1 rfl ?_)))
  rcases Ab h with ⟨g6,h⟩ | ⟨g6,h⟩
  ·exact qT rfl g6 (rn 1 rfl (qk [4] rfl (Af ((by cases h; exact ⟨.inl rfl,rfl⟩)))))
  ·exact qF rfl g6 (Ae (hK5 _ (rn 1 rfl (Af ((by cases h; exact ⟨.inl rfl,rfl⟩))))))
def JL (a0 : List CA) (rec : (Int × Int) -> Option (Sum (Int) (Int))) (s : Int × Int) : Option (Sum (Int) (Int)):=match s with
  | (y1,y2) => cond (decide (y2 < (List.length a0 : Int))) (Ad (AO a0 y2) fun e8 => Ad (Ib e8 y1) fun v10 => cond (decide (v10 < 0)) (some (.inr (-1))) (rec (v10,(IntKind.i64.wrap (y2 + 1))))) (some (.inl y1))
def Ke (a0 : List CA) (a1 : Int) : Option (Int):=cond (decide ((IntKind.i64.wrap (a1 - (List.length a0 : Int))) < 0)) (some (-1)) (Ad (Ao (JL a0) fz ((IntKind.i64.wrap (a1 - (List.length a0 : Int))),0)) fun o1 => (match o1 with
  | .inl z4 => (some z4)
  | .inr r => some r))
theorem QN {a0 : List CA} {a1 : Int} {r : Int} (h : Ke a0 a1 = some r) : Ai Tryz.prog 187 [dL Jt a0,nI a1] (nI r):=by
 unfold Ke at h
 refine st jx rfl (rn 2 rfl (Ac fun K1 hK1 => rn 1 rfl ?_))
 rcases Ab h with ⟨g2,h⟩ | ⟨g2,h⟩
 ·exact qT rfl g2 (rn 1 rfl (Af ((by cases h; exact ⟨.inl rfl,rfl⟩))))
 ·refine qF rfl g2 (Ae (hK1 _ (Ac fun K3 hK3 => rn 1 rfl ?_)))
  obtain ⟨o1,hl,hr1⟩:=Aa h
  have kXB1 : ∀ {z4 : Int},(.inl z4) = o1 -> Jn K3 [(1,nI z4)]:=by
   intro z4 h σ' hk
   subst h
   replace h:=hr1
   try dsimp only at h
   exact hK3 _ (lh hk rfl (rn 1 rfl (Af ((by cases h; exact ⟨.inl rfl,rfl⟩)))))
  refine AB (fun (s : Int × Int) => match s with | (y1,y2) => [(0,dL Jt a0),(1,nI y1),(5,nI y2)]) _ _ _ _ hl (okr rfl) (fun _ => rfl) ?_
  rintro m ⟨y1,y2⟩ N h hN
  unfold JL at h
  dsimp only at h
  refine Ac fun K5 hK5 => rn 1 rfl ?_
  rcases Ab h with ⟨g6,h⟩ | ⟨g6,h⟩
  ·refine qT rfl g6 (Ae (hK5 _ (Ac fun K7 hK7 => Az (rs (sp 2 rfl (?_))))))
   obtain ⟨e8,g9,h⟩:=Aa h
   refine qI rfl UR g9 (sp 2 rfl (?_))
   obtain ⟨v10,g11,h⟩:=Aa h
   refine qC (qa rfl (erg (erc rfl (erc (erD An _) rfl))) (qs rfl Ax)) (RZ g11) (sp 1 rfl (evn (rn 1 rfl ?_)))
   rcases Ab h with ⟨g12,h⟩ | ⟨g12,h⟩
   ·exact qT rfl g12 (rn 1 rfl (Af ((by cases h; cases hr1; exact ⟨.inl rfl,rfl⟩))))
   ·exact qF rfl g12 (Ae (hK7 _ (rg (sp 3 rfl (evn (hN _ _ h (okr rfl)))))))
  ·exact qF rfl g6 (Aq (kXB1 (Option.some.inj h) _ (okr rfl)))
def IK (a0 : WE) (a1 : Int) : Option (Int):=Ad (Ke a0.2.1 a1) fun v1 => cond (decide (v1 < 0)) (some (-1)) (Ad (GD a0.2.2 v1) fun v5 => cond (decide (v5 < 0)) (some (-1)) (some v5))
theorem QP {a0 : WE} {a1 : Int} {r : Int} (h : IK a0 a1 = some r) : Ai Tryz.prog 166 [.agg (Rq a0),nI a1] (nI r):=by
 unfold IK at h
 refine st jg rfl (rn 1 rfl (rs (sp 3 rfl (?_))))
 obtain ⟨v1,g2,h⟩:=Aa h
 refine qC (qa rfl (erD MJ _) (qs rfl Ax)) (QN g2) (sp 1 rfl (evn (Ac fun K3 hK3 => rn 1 rfl ?_)))
 rcases Ab h with ⟨g4,h⟩ | ⟨g4,h⟩
 ·exact qT rfl g4 (rn 1 rfl (Af ((by cases h; exact ⟨.inl rfl,rfl⟩))))
 ·refine qF rfl g4 (Ae (hK3 _ (rs (sp 3 rfl (?_)))))
  obtain ⟨v5,g6,h⟩:=Aa h
  refine qC (qa rfl (erD An _) (qs rfl Ax)) (Jc g6) (sp 1 rfl (evn (Ac fun K7 hK7 => rn 1 rfl ?_)))
  rcases Ab h with ⟨g8,h⟩ | ⟨g8,h⟩
  ·exact qT rfl g8 (rn 1 rfl (qk [4] rfl (Af ((by cases h; exact ⟨.inl rfl,rfl⟩)))))
  ·exact qF rfl g8 (Ae (hK7 _ (rn 1 rfl (Af ((by cases h; exact ⟨.inl rfl,rfl⟩))))))
def Ie (a0 : MF) (a1 : Int) : Option (Int):=Ad (IK a0.1 a1) fun v1 => cond (decide (v1 < 0)) (some (-1)) (Ad (Bu a0.2 v1) fun v5 => cond (decide (v5 < 0)) (some (-1)) (some v5))
theorem R0 {a0 : MF} {a1 : Int} {r : Int} (h : Ie a0 a1 = some r) : Ai Tryz.prog 125 [.agg (Ce a0),nI a1] (nI r):=by
 unfold Ie at h
 refine st iz rfl (rn 1 rfl (rs (sp 3 rfl (?_))))
 obtain ⟨v1,g2,h⟩:=Aa h
 refine qC (qa rfl (erg (erc rfl (erc (erD MJ _) (erc (erD An _) rfl)))) (qs rfl Ax)) (QP g2) (sp 1 rfl (evn (Ac fun K3 hK3 => rn 1 rfl ?_)))
 rcases Ab h with ⟨g4,h⟩ | ⟨g4,h⟩
 ·exact qT rfl g4 (rn 1 rfl (Af ((by cases h; exact ⟨.inl rfl,rfl⟩))))
 ·refine qF rfl g4 (Ae (hK3 _ (rs (sp 3 rfl (?_)))))
  obtain ⟨v5,g6,h⟩:=Aa h
  refine qC (qa rfl (erg (erc rfl (erc (erD Ar _) (erc (erD An _) rfl)))) (qs rfl Ax)) (Hz g6) (sp 1 rfl (evn (Ac fun K7 hK7 => rn 1 rfl ?_)))
  rcases Ab h with ⟨g8,h⟩ | ⟨g8,h⟩
  ·exact qT rfl g8 (rn 1 rfl (qk [4] rfl (Af ((by cases h; exact ⟨.inl rfl,rfl⟩)))))
  ·exact qF rfl g8 (Ae (hK7 _ (rn 1 rfl (Af ((by cases h; exact ⟨.inl rfl,rfl⟩))))))
def JN (a0 : List MF) (rec : (Int × Int) -> Option (Sum (Int) (Int))) (s : Int × Int) : Option (Sum (Int) (Int)):=match s with
  | (y1,y2) => cond (decide (y2 < (List.length a0 : Int))) (Ad (AO a0 y2) fun e8 => Ad (Ie e8 y1) fun v10 => cond (decide (v10 < 0)) (some (.inr (-1))) (rec (v10,(IntKind.i64.wrap (y2 + 1))))) (some (.inl y1))
def Kf (a0 : List MF) (a1 : Int) : Option (Int):=cond (decide ((IntKind.i64.wrap (a1 - (List.length a0 : Int))) < 0)) (some (-1)) (Ad (Ao (JN a0) fz ((IntKind.i64.wrap (a1 - (List.length a0 : Int))),0)) fun o1 => (match o1 with
  | .inl z4 => (some z4)
  | .inr r => some r))
theorem QR {a0 : List MF} {a1 : Int} {r : Int} (h : Kf a0 a1 = some r) : Ai Tryz.prog 57 [dL Ce a0,nI a1] (nI r):=by
 unfold Kf at h
 refine st nx rfl (rn 2 rfl (Ac fun K1 hK1 => rn 1 rfl ?_))
 rcases Ab h with ⟨g2,h⟩ | ⟨g2,h⟩
 ·exact qT rfl g2 (rn 1 rfl (Af ((by cases h; exact ⟨.inl rfl,rfl⟩))))
 ·refine qF rfl g2 (Ae (hK1 _ (Ac fun K3 hK3 => rn 1 rfl ?_)))
  obtain ⟨o1,hl,hr1⟩:=Aa h
  have kXB1 : ∀ {z4 : Int},(.inl z4) = o1 -> Jn K3 [(1,nI z4)]:=by
   intro z4 h σ' hk
   subst h
   replace h:=hr1
   try dsimp only at h
   exact hK3 _ (lh hk rfl (rn 1 rfl (Af ((by cases h; exact ⟨.inl rfl,rfl⟩)))))
  refine AB (fun (s : Int × Int) => match s with | (y1,y2) => [(0,dL Ce a0),(1,nI y1),(5,nI y2)]) _ _ _ _ hl (okr rfl) (fun _ => rfl) ?_
  rintro m ⟨y1,y2⟩ N h hN
  unfold JN at h
  dsimp only at h
  refine Ac fun K5 hK5 => rn 1 rfl ?_
  rcases Ab h with ⟨g6,h⟩ | ⟨g6,h⟩
  ·refine qT rfl g6 (Ae (hK5 _ (Ac fun K7 hK7 => Az (rs (sp 2 rfl (?_))))))
   obtain ⟨e8,g9,h⟩:=Aa h
   refine qI rfl Md g9 (sp 2 rfl (?_))
   obtain ⟨v10,g11,h⟩:=Aa h
   refine qC (qa rfl (erg (erc rfl (erc (erD MJ _) (erc (erD An _) (erc rfl (erc (erD Ar _) (erc (erD An _) rfl))))))) (qs rfl Ax)) (R0 g11) (sp 1 rfl (evn (rn 1 rfl ?_)))
   rcases Ab h with ⟨g12,h⟩ | ⟨g12,h⟩
   ·exact qT rfl g12 (rn 1 rfl (Af ((by cases h; cases hr1; exact ⟨.inl rfl,rfl⟩))))
   ·exact qF rfl g12 (Ae (hK7 _ (rg (sp 3 rfl (evn (hN _ _ h (okr rfl)))))))
  ·exact qF rfl g6 (Aq (kXB1 (Option.some.inj h) _ (okr rfl)))
def Es (a0 : List Y43) (rec : (Int × Int) -> Option (Sum (Int) (Int))) (s : Int × Int) : Option (Sum (Int) (Int)):=match s with
  | (y1,y2) => cond (decide (y2 < (List.length a0 : Int))) (Ad (AO a0 y2) fun e8 => Ad (Bu e8 y1) fun v10 => cond (decide (v10 < 0)) (some (.inr (-1))) (rec (v10,(IntKind.i64.wrap (y2 + 1))))) (some (.inl y1))
def DM (a0 : List Y43) (a1 : Int) : Option (Int):=cond (decide ((IntKind.i64.wrap (a1 - (List.length a0 : Int))) < 0)) (some (-1)) (Ad (Ao (Es a0) fz ((IntKind.i64.wrap (a1 - (List.length a0 : Int))),0)) fun o1 => (match o1 with
  | .inl z4 => (some z4)
  | .inr r => some r))
theorem Kt {a0 : List Y43} {a1 : Int} {r : Int} (h : DM a0 a1 = some r) : Ai Tryz.prog 58 [dL Gb a0,nI a1] (nI r):=by
 unfold DM at h
 refine st ny rfl (rn 2 rfl (Ac fun K1 hK1 => rn 1 rfl ?_))
 rcases Ab h with ⟨g2,h⟩ | ⟨g2,h⟩
 ·exact qT rfl g2 (rn 1 rfl (Af ((by cases h; exact ⟨.inl rfl,rfl⟩))))
 ·refine qF rfl g2 (Ae (hK1 _ (Ac fun K3 hK3 => rn 1 rfl ?_)))
  obtain ⟨o1,hl,hr1⟩:=Aa h
  have kXB1 : ∀ {z4 : Int},(.inl z4) = o1 -> Jn K3 [(1,nI z4)]:=by
   intro z4 h σ' hk
   subst h
   replace h:=hr1
   try dsimp only at h
   exact hK3 _ (lh hk rfl (rn 1 rfl (Af ((by cases h; exact ⟨.inl rfl,rfl⟩)))))
  refine AB (fun (s : Int × Int) => match s with | (y1,y2) => [(0,dL Gb a0),(1,nI y1),(5,nI y2)]) _ _ _ _ hl (okr rfl) (fun _ => rfl) ?_
  rintro m ⟨y1,y2⟩ N h hN
  unfold Es at h
  dsimp only at h
  refine Ac fun K5 hK5 => rn 1 rfl ?_
  rcases Ab h with ⟨g6,h⟩ | ⟨g6,h⟩
  ·refine qT rfl g6 (Ae (hK5 _ (Ac fun K7 hK7 => Az (rs (sp 2 rfl (?_))))))
   obtain ⟨e8,g9,h⟩:=Aa h
   refine qI rfl Qx g9 (sp 2 rfl (?_))
   obtain ⟨v10,g11,h⟩:=Aa h
   refine qC (qa rfl (erg (erc rfl (erc (erD Ar _) (erc (erD An _) rfl)))) (qs rfl Ax)) (Hz g11) (sp 1 rfl (evn (rn 1 rfl ?_)))
   rcases Ab h with ⟨g12,h⟩ | ⟨g12,h⟩
   ·exact qT rfl g12 (rn 1 rfl (Af ((by cases h; cases hr1; exact ⟨.inl rfl,rfl⟩))))
   ·exact qF rfl g12 (Ae (hK7 _ (rg (sp 3 rfl (evn (hN _ _ h (okr rfl)))))))
  ·exact qF rfl g6 (Aq (kXB1 (Option.some.inj h) _ (okr rfl)))
def GE (a0 : Y62) (a1 : Int) : Option (Int):=Ad (GC a0.1 a1) fun v1 => cond (decide (v1 < 0)) (some (-1)) (Ad (Kf a0.2.1 v1) fun v5 => cond (decide (v5 < 0)) (some (-1)) (Ad (DM a0.2.2 v5) fun v9 => cond (decide (v9 < 0)) (some (-1)) (some v9)))
theorem Oi {a0 : Y62} {a1 : Int} {r : Int} (h : GE a0 a1 = some r) : Ai Tryz.prog 17 [.agg (Gd a0),nI a1] (nI r):=by
 unfold GE at h
 refine st mT rfl (rn 1 rfl (rs (sp 3 rfl (?_))))
 obtain ⟨v1,g2,h⟩:=Aa h
 refine qC (qa rfl (erg (erc (erD Pa _) rfl)) (qs rfl Ax)) (Oh g2) (sp 1 rfl (evn (Ac fun K3 hK3 => rn 1 rfl ?_)))
 rcases Ab h with ⟨g4,h⟩ | ⟨g4,h⟩
 ·exact qT rfl g4 (rn 1 rfl (Af ((by cases h; exact ⟨.inl rfl,rfl⟩))))
 ·refine qF rfl g4 (Ae (hK3 _ (rs (sp 3 rfl (?_)))))
  obtain ⟨v5,g6,h⟩:=Aa h
  refine qC (qa rfl (erD OG _) (qs rfl Ax)) (QR g6) (sp 1 rfl (evn (Ac fun K7 hK7 => rn 1 rfl ?_)))
  rcases Ab h with ⟨g8,h⟩ | ⟨g8,h⟩
  ·exact qT rfl g8 (rn 1 rfl (qk [4] rfl (Af ((by cases h; exact ⟨.inl rfl,rfl⟩)))))
  ·refine qF rfl g8 (Ae (hK7 _ (rs (sp 3 rfl (?_)))))
   obtain ⟨v9,g10,h⟩:=Aa h
   refine qC (qa rfl (erD S7 _) (qs rfl Ax)) (Kt g10) (sp 1 rfl (evn (Ac fun K11 hK11 => rn 1 rfl ?_)))
   rcases Ab h with ⟨g12,h⟩ | ⟨g12,h⟩
   ·exact qT rfl g12 (rn 1 rfl (Af ((by cases h; exact ⟨.inl rfl,rfl⟩))))
   ·exact qF rfl g12 (Ae (hK11 _ (rn 1 rfl (Af ((by cases h; exact ⟨.inl rfl,rfl⟩))))))
def II (a0 : Y65) (a1 : Int) : Option (Int):=cond (decide ((IntKind.i64.wrap (a1 - (List.length a0.1 : Int))) < 0)) (some (-1)) (Ad (D6 a0.2.1 (IntKind.i64.wrap (a1 - (List.length a0.1 : Int)))) fun v3 => cond (decide (v3 < 0)) (some (-1)) (Ad (D6 a0.2.2 v3) fun v7 => cond (decide (v7 < 0)) (some (-1)) (some v7)))
theorem QO {a0 : Y65} {a1 : Int} {r : Int} (h : II a0 a1 = some r) : Ai Tryz.prog 18 [.agg (O9 a0),nI a1] (nI r):=by
 unfold II at h
 refine st mU rfl (rn 2 rfl (Ac fun K1 hK1 => rn 1 rfl ?_))
 rcases Ab h with ⟨g2,h⟩ | ⟨g2,h⟩
 ·exact qT rfl g2 (rn 1 rfl (Af ((by cases h; exact ⟨.inl rfl,rfl⟩))))
 ·refine qF rfl g2 (Ae (hK1 _ (rs (sp 3 rfl (?_)))))
  obtain ⟨v3,g4,h⟩:=Aa h
  refine qC (qa rfl (erg (erc rfl (erc (erD Ar _) rfl))) (qs rfl Ax)) (Ic g4) (sp 1 rfl (evn (Ac fun K5 hK5 => rn 1 rfl ?_)))
  rcases Ab h with ⟨g6,h⟩ | ⟨g6,h⟩
  ·exact qT rfl g6 (rn 1 rfl (qk [4] rfl (Af ((by cases h; exact ⟨.inl rfl,rfl⟩)))))
  ·refine qF rfl g6 (Ae (hK5 _ (rs (sp 3 rfl (?_)))))
   obtain ⟨v7,g8,h⟩:=Aa h
   refine qC (qa rfl (erg (erc rfl (erc (erD Ar _) rfl))) (qs rfl Ax)) (Ic g8) (sp 1 rfl (evn (Ac fun K9 hK9 => rn 1 rfl ?_)))
   rcases Ab h with ⟨g10,h⟩ | ⟨g10,h⟩
   ·exact qT rfl g10 (rn 1 rfl (Af ((by cases h; exact ⟨.inl rfl,rfl⟩))))
   ·exact qF rfl g10 (Ae (hK9 _ (rn 1 rfl (Af ((by cases h; exact ⟨.inl rfl,rfl⟩))))))
def My (a0 : List Int) (rec : ((List Int) × Int) -> Option ((List Int))) (s : (List Int) × Int) : Option ((List Int)):=match s with
  | (y1,y2) => cond (decide (y2 < (List.length a0 : Int))) (Ad (AO a0 y2) fun e7 => Ad (AO y1 y2) fun e9 => rec ((Jr y1 y2 e7),(IntKind.i64.wrap (y2 + 1)))) (some y1)
def FB (a0 : List Int) : Option ((List Int)):=chk ((0 : Int) <= (List.length a0 : Int) ∧ Int.toNat (List.length a0 : Int) <= lim) (Ad (Ao (My a0) fz ((List.replicate (Int.toNat (List.length a0 : Int)) (0 : Int)),0)) fun z3 => some z3)
theorem Je {a0 : List Int} {r : (List Int)} (h : FB a0 = some r) : Ai Tryz.prog 170 [dL As a0] (oL 3 As r):=by
 unfold FB at h
 refine st jl rfl (rn 1 rfl (rs (sp 2 rfl (?_))))
 obtain ⟨g1,h⟩:=Aj h
 refine qMu As (0 : Int) rfl rfl rfl rfl g1 rfl (qAu rfl rfl rfl rfl (evn (Ac fun K2 hK2 => rn 1 rfl ?_)))
 obtain ⟨o1,hl,hr1⟩:=Aa h
 have kXB1 : ∀ {z3 : List Int},z3 = o1 -> Jn K2 [(3,wL 3 As z3)]:=by
  intro z3 h σ' hk
  subst h
  replace h:=hr1
  try dsimp only at h
  exact hK2 _ (lh hk rfl (rs (qTu rfl rfl rfl (sp 1 rfl (evn (Af ((by cases h; exact ⟨.inl rfl,rfl⟩))))))))
 refine AB (fun (s : (List Int) × Int) => match s with | (y1,y2) => [(0,dL As a0),(3,wL 3 As y1),(4,nI y2)]) _ _ _ _ hl (okr rfl) (fun _ => rfl) ?_
 rintro m ⟨y1,y2⟩ N h hN
 unfold My at h
 dsimp only at h
 refine Ac fun K4 hK4 => rn 1 rfl ?_
 rcases Ab h with ⟨g5,h⟩ | ⟨g5,h⟩
 ·refine qT rfl g5 (Ae (hK4 _ (Ac fun K6 hK6 => Az (rg (sp 4 rfl (?_))))))
  obtain ⟨e7,g8,h⟩:=Aa h
  refine qI rfl AM g8 (sp 1 rfl (?_))
  obtain ⟨e9,g10,h⟩:=Aa h
  exact qIu rfl ⟨(AD g10).1,(AD g10).2.1⟩ (qSu e7 rfl rfl AM ⟨(AD g10).1,(AD g10).2.1⟩ rfl rfl rfl rfl rfl rfl (evn (hK6 _ (rg (sp 3 rfl (evn (hN _ _ h (okr rfl))))))))
 ·exact qF rfl g5 (Aq (kXB1 (Option.some.inj h) _ (okr rfl)))
def LR (a0 : List (List Int)) (rec : ((List (List Int)) × Int) -> Option ((List (List Int)))) (s : (List (List Int)) × Int) : Option ((List (List Int))):=match s with
  | (y1,y2) => cond (decide (y2 < (List.length a0 : Int))) (Ad (AO a0 y2) fun e7 => Ad (FB e7) fun v9 => Ad (AO y1 y2) fun e11 => rec ((Jr y1 y2 v9),(IntKind.i64.wrap (y2 + 1)))) (some y1)
def HC (a0 : List (List Int)) : Option ((List (List Int))):=chk ((0 : Int) <= (List.length a0 : Int) ∧ Int.toNat (List.length a0 : Int) <= lim) (Ad (Ao (LR a0) fz ((List.replicate (Int.toNat (List.length a0 : Int)) ([] : List Int)),0)) fun z3 => some z3)
theorem Mx {a0 : List (List Int)} {r : (List (List Int))} (h : HC a0 = some r) : Ai Tryz.prog 131 [dL AJ a0] (oL 42 Ah r):=by
 unfold HC at h
 refine st iF rfl (rn 1 rfl (rs (sp 2 rfl (?_))))
 obtain ⟨g1,h⟩:=Aj h
 refine qMu Ah ([] : List Int) rfl rfl rfl rfl g1 rfl (qAu rfl rfl rfl rfl (evn (Ac fun K2 hK2 => rn 1 rfl ?_)))
 obtain ⟨o1,hl,hr1⟩:=Aa h
 have kXB1 : ∀ {z3 : List (List Int)},z3 = o1 -> Jn K2 [(3,wL 42 Ah z3)]:=by
  intro z3 h σ' hk
  subst h
  replace h:=hr1
  try dsimp only at h
  exact hK2 _ (lh hk rfl (rs (qTu rfl rfl rfl (sp 1 rfl (evn (Af ((by cases h; exact ⟨.inl rfl,rfl⟩))))))))
 refine AB (fun (s : (List (List Int)) × Int) => match s with | (y1,y2) => [(0,dL AJ a0),(3,wL 42 Ah y1),(4,nI y2)]) _ _ _ _ hl (okr rfl) (fun _ => rfl) ?_
 rintro m ⟨y1,y2⟩ N h hN
 unfold LR at h
 dsimp only at h
 refine Ac fun K4 hK4 => rn 1 rfl ?_
 rcases Ab h with ⟨g5,h⟩ | ⟨g5,h⟩
 ·refine qT rfl g5 (Ae (hK4 _ (Ac fun K6 hK6 => Az (rg (sp 4 rfl (?_))))))
  obtain ⟨e7,g8,h⟩:=Aa h
  refine qI rfl Br g8 (sp 1 rfl (?_))
  obtain ⟨v9,g10,h⟩:=Aa h
  refine qC (qa rfl (erD An _) Ax) (Je g10) (?_)
  obtain ⟨e11,g12,h⟩:=Aa h
  exact qIu rfl ⟨(AD g12).1,(AD g12).2.1⟩ (qSu v9 rfl rfl A8 ⟨(AD g12).1,(AD g12).2.1⟩ rfl rfl rfl rfl rfl rfl (evn (hK6 _ (rg (sp 3 rfl (evn (hN _ _ h (okr rfl))))))))
 ·exact qF rfl g5 (Aq (kXB1 (Option.some.inj h) _ (okr rfl)))
def D7 (a0 : Y32) : Option (Y32):=Ad (HC a0.2) fun v1 => some (a0.1,v1)
theorem Ig {a0 : Y32} {r : Y32} (h : D7 a0 = some r) : Ai Tryz.prog 63 [.agg (W0 a0)] (.agg (Ez r)):=by
 unfold D7 at h
 refine st nD rfl (rn 3 rfl (rs (sp 2 rfl (?_))))
 obtain ⟨v1,g2,h⟩:=Aa h
 exact qC (qa rfl (erD Ar _) Ax) (Mx g2) (sp 2 rfl (evn (rn 1 rfl (Af ((by cases h; exact ⟨.inl rfl,rfl⟩))))))
def HD (a0 : Kx) : Option (AU):=Ad (D7 a0.2) fun v1 => some (a0.1,v1)
theorem QU {a0 : Kx} {r : AU} (h : HD a0 = some r) : Ai Tryz.prog 168 [.agg (Gr a0)] (.agg (Ak r)):=by
 unfold HD at h
 refine st ji rfl (rn 3 rfl (rs (sp 2 rfl (?_))))
 obtain ⟨v1,g2,h⟩:=Aa h
 exact qC (qa rfl (erg (erc rfl (erc (erD Ar _) rfl))) Ax) (Ig g2) (sp 2 rfl (evn (rn 1 rfl (Af ((by cases h; exact ⟨.inl rfl,rfl⟩))))))
def Ls (a0 : List Kx) (rec : ((List AU) × Int) -> Option ((List AU))) (s : (List AU) × Int) : Option ((List AU)):=match s with
  | (y1,y2) => cond (decide (y2 < (List.length a0 : Int))) (Ad (AO a0 y2) fun e7 => Ad (HD e7) fun v9 => Ad (AO y1 y2) fun e11 => rec ((Jr y1 y2 v9),(IntKind.i64.wrap (y2 + 1)))) (some y1)
def HO (a0 : List Kx) : Option ((List AU)):=chk ((0 : Int) <= (List.length a0 : Int) ∧ Int.toNat (List.length a0 : Int) <= lim) (Ad (Ao (Ls a0) fz ((List.replicate (Int.toNat (List.length a0 : Int)) (([],(0,[])) : AU)),0)) fun z3 => some z3)
theorem Qf {a0 : List Kx} {r : (List AU)} (h : HO a0 = some r) : Ai Tryz.prog 128 [dL Gr a0] (oL 123 Ak r):=by
 unfold HO at h
 refine st iC rfl (rn 1 rfl (rs (sp 2 rfl (?_))))
 obtain ⟨g1,h⟩:=Aj h
 refine qMu Ak (([],(0,[])) : AU) rfl rfl rfl rfl g1 rfl (qAu rfl rfl rfl rfl (evn (Ac fun K2 hK2 => rn 1 rfl ?_)))
 obtain ⟨o1,hl,hr1⟩:=Aa h
 have kXB1 : ∀ {z3 : List AU},z3 = o1 -> Jn K2 [(3,wL 123 Ak z3)]:=by
  intro z3 h σ' hk
  subst h
  replace h:=hr1
  try dsimp only at h
  exact hK2 _ (lh hk rfl (rs (qTu rfl rfl rfl (sp 1 rfl (evn (Af ((by cases h; exact ⟨.inl rfl,rfl⟩))))))))
 refine AB (fun (s : (List AU) × Int) => match s with | (y1,y2) => [(0,dL Gr a0),(3,wL 123 Ak y1),(4,nI y2)]) _ _ _ _ hl (okr rfl) (fun _ => rfl) ?_
 rintro m ⟨y1,y2⟩ N h hN
 unfold Ls at h
 dsimp only at h
 refine Ac fun K4 hK4 => rn 1 rfl ?_
 rcases Ab h with ⟨g5,h⟩ | ⟨g5,h⟩
 ·refine qT rfl g5 (Ae (hK4 _ (Ac fun K6 hK6 => Az (rg (sp 4 rfl (?_))))))
  obtain ⟨e7,g8,h⟩:=Aa h
  refine qI rfl SM g8 (sp 1 rfl (?_))
  obtain ⟨v9,g10,h⟩:=Aa h
  refine qC (qa rfl (erg (erc rfl (erc rfl (erc (erD Ar _) rfl)))) Ax) (QU g10) (?_)
  obtain ⟨e11,g12,h⟩:=Aa h
  exact qIu rfl ⟨(AD g12).1,(AD g12).2.1⟩ (qSu v9 rfl rfl DP ⟨(AD g12).1,(AD g12).2.1⟩ rfl rfl rfl rfl rfl rfl (evn (hK6 _ (rg (sp 3 rfl (evn (hN _ _ h (okr rfl))))))))
 ·exact qF rfl g5 (Aq (kXB1 (Option.some.inj h) _ (okr rfl)))
def GF (a0 : List Kx) : Option ((List AU)):=Ad (HO a0) fun v1 => some v1
theorem Oj {a0 : List Kx} {r : (List AU)} (h : GF a0 = some r) : Ai Tryz.prog 60 [.agg [dL Gr a0]] (.agg [oL 123 Ak r]):=by
 unfold GF at h
 refine st nA rfl (rn 2 rfl (rs (sp 2 rfl (?_))))
 obtain ⟨v1,g2,h⟩:=Aa h
 exact qC (qa rfl (erD Pa _) Ax) (Qf g2) (sp 2 rfl (evn (rn 1 rfl (Af ((by cases h; exact ⟨.inl rfl,rfl⟩))))))
def Bv (a0 : Y43) : Option (Y43):=Ad (HC a0.2.1) fun v1 => Ad (FB a0.2.2) fun v3 => some (a0.1,v1,v3)
theorem HB {a0 : Y43} {r : Y43} (h : Bv a0 = some r) : Ai Tryz.prog 130 [.agg (Gb a0)] (.agg (Al r)):=by
 unfold Bv at h
 refine st iE rfl (rn 3 rfl (rs (sp 2 rfl (?_))))
 obtain ⟨v1,g2,h⟩:=Aa h
 refine qC (qa rfl (erD Ar _) Ax) (Mx g2) (sp 2 rfl (evn (rs (sp 2 rfl (?_)))))
 obtain ⟨v3,g4,h⟩:=Aa h
 exact qC (qa rfl (erD An _) Ax) (Je g4) (sp 2 rfl (evn (rn 1 rfl (Af ((by cases h; exact ⟨.inl rfl,rfl⟩))))))
def If (a0 : CA) : Option (CA):=Ad (FB a0.2) fun v1 => some (a0.1,v1)
theorem R1 {a0 : CA} {r : CA} (h : If a0 = some r) : Ai Tryz.prog 197 [.agg (Jt a0)] (.agg (Bk r)):=by
 unfold If at h
 refine st jG rfl (rn 3 rfl (rs (sp 2 rfl (?_))))
 obtain ⟨v1,g2,h⟩:=Aa h
 exact qC (qa rfl (erD An _) Ax) (Je g2) (sp 2 rfl (evn (rn 1 rfl (Af ((by cases h; exact ⟨.inl rfl,rfl⟩))))))
def LQ (a0 : List CA) (rec : ((List CA) × Int) -> Option ((List CA))) (s : (List CA) × Int) : Option ((List CA)):=match s with
  | (y1,y2) => cond (decide (y2 < (List.length a0 : Int))) (Ad (AO a0 y2) fun e7 => Ad (If e7) fun v9 => Ad (AO y1 y2) fun e11 => rec ((Jr y1 y2 v9),(IntKind.i64.wrap (y2 + 1)))) (some y1)
def IL (a0 : List CA) : Option ((List CA)):=chk ((0 : Int) <= (List.length a0 : Int) ∧ Int.toNat (List.length a0 : Int) <= lim) (Ad (Ao (LQ a0) fz ((List.replicate (Int.toNat (List.length a0 : Int)) (([],[]) : CA)),0)) fun z3 => some z3)
theorem QS {a0 : List CA} {r : (List CA)} (h : IL a0 = some r) : Ai Tryz.prog 188 [dL Jt a0] (oL 146 Bk r):=by
 unfold IL at h
 refine st jy rfl (rn 1 rfl (rs (sp 2 rfl (?_))))
 obtain ⟨g1,h⟩:=Aj h
 refine qMu Bk (([],[]) : CA) rfl rfl rfl rfl g1 rfl (qAu rfl rfl rfl rfl (evn (Ac fun K2 hK2 => rn 1 rfl ?_)))
 obtain ⟨o1,hl,hr1⟩:=Aa h
 have kXB1 : ∀ {z3 : List CA},z3 = o1 -> Jn K2 [(3,wL 146 Bk z3)]:=by
  intro z3 h σ' hk
  subst h
  replace h:=hr1
  try dsimp only at h
  exact hK2 _ (lh hk rfl (rs (qTu rfl rfl rfl (sp 1 rfl (evn (Af ((by cases h; exact ⟨.inl rfl,rfl⟩))))))))
 refine AB (fun (s : (List CA) × Int) => match s with | (y1,y2) => [(0,dL Jt a0),(3,wL 146 Bk y1),(4,nI y2)]) _ _ _ _ hl (okr rfl) (fun _ => rfl) ?_
 rintro m ⟨y1,y2⟩ N h hN
 unfold LQ at h
 dsimp only at h
 refine Ac fun K4 hK4 => rn 1 rfl ?_
 rcases Ab h with ⟨g5,h⟩ | ⟨g5,h⟩
 ·refine qT rfl g5 (Ae (hK4 _ (Ac fun K6 hK6 => Az (rg (sp 4 rfl (?_))))))
  obtain ⟨e7,g8,h⟩:=Aa h
  refine qI rfl UR g8 (sp 1 rfl (?_))
  obtain ⟨v9,g10,h⟩:=Aa h
  refine qC (qa rfl (erg (erc rfl (erc (erD An _) rfl))) Ax) (R1 g10) (?_)
  obtain ⟨e11,g12,h⟩:=Aa h
  exact qIu rfl ⟨(AD g12).1,(AD g12).2.1⟩ (qSu v9 rfl rfl Mc ⟨(AD g12).1,(AD g12).2.1⟩ rfl rfl rfl rfl rfl rfl (evn (hK6 _ (rg (sp 3 rfl (evn (hN _ _ h (okr rfl))))))))
 ·exact qF rfl g5 (Aq (kXB1 (Option.some.inj h) _ (okr rfl)))
def IM (a0 : WE) : Option (Y51):=Ad (IL a0.2.1) fun v1 => Ad (FB a0.2.2) fun v3 => some (a0.1,v1,v3)
theorem QT {a0 : WE} {r : Y51} (h : IM a0 = some r) : Ai Tryz.prog 169 [.agg (Rq a0)] (.agg (PI r)):=by
 unfold IM at h
 refine st jk rfl (rn 3 rfl (rs (sp 2 rfl (?_))))
 obtain ⟨v1,g2,h⟩:=Aa h
 refine qC (qa rfl (erD MJ _) Ax) (QS g2) (sp 2 rfl (evn (rs (sp 2 rfl (?_)))))
 obtain ⟨v3,g4,h⟩:=Aa h
 exact qC (qa rfl (erD An _) Ax) (Je g4) (sp 2 rfl (evn (rn 1 rfl (Af ((by cases h; exact ⟨.inl rfl,rfl⟩))))))
def Ih (a0 : MF) : Option (Y53):=Ad (IM a0.1) fun v1 => Ad (Bv a0.2) fun v3 => some (v1,v3)
theorem R2 {a0 : MF} {r : Y53} (h : Ih a0 = some r) : Ai Tryz.prog 129 [.agg (Ce a0)] (.agg (Ag r)):=by
 unfold Ih at h
 refine st iD rfl (rn 2 rfl (rs (sp 2 rfl (?_))))
 obtain ⟨v1,g2,h⟩:=Aa h
 refine qC (qa rfl (erg (erc rfl (erc (erD MJ _) (erc (erD An _) rfl)))) Ax) (QT g2) (sp 2 rfl (evn (rs (sp 2 rfl (?_)))))
 obtain ⟨v3,g4,h⟩:=Aa h
 exact qC (qa rfl (erg (erc rfl (erc (erD Ar _) (erc (erD An _) rfl)))) Ax) (HB g4) (sp 2 rfl (evn (rn 1 rfl (Af ((by cases h; exact ⟨.inl rfl,rfl⟩))))))
def LT (a0 : List MF) (rec : ((List Y53) × Int) -> Option ((List Y53))) (s : (List Y53) × Int) : Option ((List Y53)):=match s with
  | (y1,y2) => cond (decide (y2 < (List.length a0 : Int))) (Ad (AO a0 y2) fun e7 => Ad (Ih e7) fun v9 => Ad (AO y1 y2) fun e11 => rec ((Jr y1 y2 v9),(IntKind.i64.wrap (y2 + 1)))) (some y1)
def IN (a0 : List MF) : Option ((List Y53)):=chk ((0 : Int) <= (List.length a0 : Int) ∧ Int.toNat (List.length a0 : Int) <= lim) (Ad (Ao (LT a0) fz ((List.replicate (Int.toNat (List.length a0 : Int)) (((0,[],[]),(0,[],[])) : Y53)),0)) fun z3 => some z3)
theorem QV {a0 : List MF} {r : (List Y53)} (h : IN a0 = some r) : Ai Tryz.prog 61 [dL Ce a0] (oL 54 Ag r):=by
 unfold IN at h
 refine st nB rfl (rn 1 rfl (rs (sp 2 rfl (?_))))
 obtain ⟨g1,h⟩:=Aj h
 refine qMu Ag (((0,[],[]),(0,[],[])) : Y53) rfl rfl rfl rfl g1 rfl (qAu rfl rfl rfl rfl (evn (Ac fun K2 hK2 => rn 1 rfl ?_)))
 obtain ⟨o1,hl,hr1⟩:=Aa h
 have kXB1 : ∀ {z3 : List Y53},z3 = o1 -> Jn K2 [(3,wL 54 Ag z3)]:=by
  intro z3 h σ' hk
  subst h
  replace h:=hr1
  try dsimp only at h
  exact hK2 _ (lh hk rfl (rs (qTu rfl rfl rfl (sp 1 rfl (evn (Af ((by cases h; exact ⟨.inl rfl,rfl⟩))))))))
 refine AB (fun (s : (List Y53) × Int) => match s with | (y1,y2) => [(0,dL Ce a0),(3,wL 54 Ag y1),(4,nI y2)]) _ _ _ _ hl (okr rfl) (fun _ => rfl) ?_
 rintro m ⟨y1,y2⟩ N h hN
 unfold LT at h
 dsimp only at h
 refine Ac fun K4 hK4 => rn 1 rfl ?_
 rcases Ab h with ⟨g5,h⟩ | ⟨g5,h⟩
 ·refine qT rfl g5 (Ae (hK4 _ (Ac fun K6 hK6 => Az (rg (sp 4 rfl (?_))))))
  obtain ⟨e7,g8,h⟩:=Aa h
  refine qI rfl Md g8 (sp 1 rfl (?_))
  obtain ⟨v9,g10,h⟩:=Aa h
  refine qC (qa rfl (erg (erc rfl (erc (erD MJ _) (erc (erD An _) (erc rfl (erc (erD Ar _) (erc (erD An _) rfl))))))) Ax) (R2 g10) (?_)
  obtain ⟨e11,g12,h⟩:=Aa h
  exact qIu rfl ⟨(AD g12).1,(AD g12).2.1⟩ (qSu v9 rfl rfl Cn ⟨(AD g12).1,(AD g12).2.1⟩ rfl rfl rfl rfl rfl rfl (evn (hK6 _ (rg (sp 3 rfl (evn (hN _ _ h (okr rfl))))))))
 ·exact qF rfl g5 (Aq (kXB1 (Option.some.inj h) _ (okr rfl)))
def GZ (a0 : List Y43) (rec : ((List Y43) × Int) -> Option ((List Y43))) (s : (List Y43) × Int) : Option ((List Y43)):=match s with
  | (y1,y2) => cond (decide (y2 < (List.length a0 : Int))) (Ad (AO a0 y2) fun e7 => Ad (Bv e7) fun v9 => Ad (AO y1 y2) fun e11 => rec ((Jr y1 y2 v9),(IntKind.i64.wrap (y2 + 1)))) (some y1)
def Cg (a0 : List Y43) : Option ((List Y43)):=chk ((0 : Int) <= (List.length a0 : Int) ∧ Int.toNat (List.length a0 : Int) <= lim) (Ad (Ao (GZ a0) fz ((List.replicate (Int.toNat (List.length a0 : Int)) ((0,[],[]) : Y43)),0)) fun z3 => some z3)
theorem Ku {a0 : List Y43} {r : (List Y43)} (h : Cg a0 = some r) : Ai Tryz.prog 62 [dL Gb a0] (oL 44 Al r):=by
 unfold Cg at h
 refine st nC rfl (rn 1 rfl (rs (sp 2 rfl (?_))))
 obtain ⟨g1,h⟩:=Aj h
 refine qMu Al ((0,[],[]) : Y43) rfl rfl rfl rfl g1 rfl (qAu rfl rfl rfl rfl (evn (Ac fun K2 hK2 => rn 1 rfl ?_)))
 obtain ⟨o1,hl,hr1⟩:=Aa h
 have kXB1 : ∀ {z3 : List Y43},z3 = o1 -> Jn K2 [(3,wL 44 Al z3)]:=by
  intro z3 h σ' hk
  subst h
  replace h:=hr1
  try dsimp only at h
  exact hK2 _ (lh hk rfl (rs (qTu rfl rfl rfl (sp 1 rfl (evn (Af ((by cases h; exact ⟨.inl rfl,rfl⟩))))))))
 refine AB (fun (s : (List Y43) × Int) => match s with | (y1,y2) => [(0,dL Gb a0),(3,wL 44 Al y1),(4,nI y2)]) _ _ _ _ hl (okr rfl) (fun _ => rfl) ?_
 rintro m ⟨y1,y2⟩ N h hN
 unfold GZ at h
 dsimp only at h
 refine Ac fun K4 hK4 => rn 1 rfl ?_
 rcases Ab h with ⟨g5,h⟩ | ⟨g5,h⟩
 ·refine qT rfl g5 (Ae (hK4 _ (Ac fun K6 hK6 => Az (rg (sp 4 rfl (?_))))))
  obtain ⟨e7,g8,h⟩:=Aa h
  refine qI rfl Qx g8 (sp 1 rfl (?_))
  obtain ⟨v9,g10,h⟩:=Aa h
  refine qC (qa rfl (erg (erc rfl (erc (erD Ar _) (erc (erD An _) rfl)))) Ax) (HB g10) (?_)
  obtain ⟨e11,g12,h⟩:=Aa h
  exact qIu rfl ⟨(AD g12).1,(AD g12).2.1⟩ (qSu v9 rfl rfl ES ⟨(AD g12).1,(AD g12).2.1⟩ rfl rfl rfl rfl rfl rfl (evn (hK6 _ (rg (sp 3 rfl (evn (hN _ _ h (okr rfl))))))))
 ·exact qF rfl g5 (Aq (kXB1 (Option.some.inj h) _ (okr rfl)))
def Di (a0 : Y62) : Option (Y29):=Ad (GF a0.1) fun v1 => Ad (IN a0.2.1) fun v3 => Ad (Cg a0.2.2) fun v5 => some (v1,v3,v5)
theorem GY {a0 : Y62} {r : Y29} (h : Di a0 = some r) : Ai Tryz.prog 19 [.agg (Gd a0)] (.agg (Aw r)):=by
 unfold Di at h
 refine st mV rfl (rn 2 rfl (rs (sp 2 rfl (?_))))
 obtain ⟨v1,g2,h⟩:=Aa h
 refine qC (qa rfl (erg (erc (erD Pa _) rfl)) Ax) (Oj g2) (sp 2 rfl (evn (rs (sp 2 rfl (?_)))))
 obtain ⟨v3,g4,h⟩:=Aa h
 refine qC (qa rfl (erD OG _) Ax) (QV g4) (sp 2 rfl (evn (rs (sp 2 rfl (?_)))))
 obtain ⟨v5,g6,h⟩:=Aa h
 exact qC (qa rfl (erD S7 _) Ax) (Ku g6) (sp 2 rfl (evn (rn 1 rfl (Af ((by cases h; exact ⟨.inl rfl,rfl⟩))))))
def Fv (a0 : Y65) : Option (Y34):=Ad (D7 a0.2.1) fun v1 => Ad (D7 a0.2.2) fun v3 => some (a0.1,v1,v3)
theorem Ip {a0 : Y65} {r : Y34} (h : Fv a0 = some r) : Ai Tryz.prog 20 [.agg (O9 a0)] (.agg (C3 r)):=by
 unfold Fv at h
 refine st mW rfl (rn 3 rfl (rs (sp 2 rfl (?_))))
 obtain ⟨v1,g2,h⟩:=Aa h
 refine qC (qa rfl (erg (erc rfl (erc (erD Ar _) rfl))) Ax) (Ig g2) (sp 2 rfl (evn (rs (sp 2 rfl (?_)))))
 obtain ⟨v3,g4,h⟩:=Aa h
 exact qC (qa rfl (erg (erc rfl (erc (erD Ar _) rfl))) Ax) (Ig g4) (sp 2 rfl (evn (rn 1 rfl (Af ((by cases h; exact ⟨.inl rfl,rfl⟩))))))
def Kr (a0 : List Int) (a1 : List Int) (rec : Int -> Option (Sum (Unit) (Bool))) (y1 : Int) : Option (Sum (Unit) (Bool)):=cond (decide (y1 < (List.length a0 : Int))) (Ad (AO a0 y1) fun e7 => Ad (AO a1 y1) fun e9 => cond (e7 != e9) (some (.inr false)) (rec (IntKind.i64.wrap (y1 + 1)))) (some (.inl ()))
def FA (a0 : List Int) (a1 : List Int) : Option (Bool):=cond ((List.length a0 : Int) != (List.length a1 : Int)) (some false) (Ad (Ao (Kr a0 a1) fz 0) fun o1 => (match o1 with
  | .inl _ => (some true)
  | .inr r => some r))
theorem Jb {a0 : List Int} {a1 : List Int} {r : Bool} (h : FA a0 a1 = some r) : Ai Tryz.prog 135 [dL As a0,dL As a1] (.bool r):=by
 unfold FA at h
 refine st iJ rfl (rn 1 rfl (Ac fun K1 hK1 => rn 1 rfl ?_))
 rcases Ab h with ⟨g2,h⟩ | ⟨g2,h⟩
 ·exact qT rfl g2 (rn 1 rfl (Af ((by cases h; exact ⟨.inl rfl,rfl⟩))))
 ·refine qF rfl g2 (Ae (hK1 _ (Ac fun K3 hK3 => rn 1 rfl ?_)))
  obtain ⟨o1,hl,hr1⟩:=Aa h
  have kXB1 : (.inl ()) = o1 -> Jn K3 []:=by
   intro h σ' hk
   subst h
   replace h:=hr1
   try dsimp only at h
   exact hK3 _ (lh hk rfl (rn 1 rfl (Af ((by cases h; exact ⟨.inl rfl,rfl⟩)))))
  refine AB (fun (y1 : Int) => [(0,dL As a0),(1,dL As a1),(5,nI y1)]) _ _ _ _ hl (okr rfl) (fun _ => rfl) ?_
  rintro m y1 N h hN
  unfold Kr at h
  refine Ac fun K4 hK4 => rn 1 rfl ?_
  rcases Ab h with ⟨g5,h⟩ | ⟨g5,h⟩
  ·refine qT rfl g5 (Ae (hK4 _ (Ac fun K6 hK6 => Az (rd (by kernel_rfl) (sd 2 rfl (?_))))))
   obtain ⟨e7,g8,h⟩:=Aa h
   refine ed rfl (qI rfl AM g8 (sd 3 rfl (?_)))
   obtain ⟨e9,g10,h⟩:=Aa h
   refine ed rfl (qI rfl AM g10 (sd 2 rfl (CK ?_)))
   rcases Ab h with ⟨g11,h⟩ | ⟨g11,h⟩
   ·exact qT rfl g11 (rn 1 rfl (Af ((by cases h; cases hr1; exact ⟨.inl rfl,rfl⟩))))
   ·exact qF rfl g11 (Ae (hK6 _ (rg (sp 3 rfl (evn (hN _ _ h (okr rfl)))))))
  ·exact qF rfl g5 (Aq (kXB1 (Option.some.inj h) _ trivial))
def JD (a0 : List (List Int)) (a1 : List (List Int)) (rec : Int -> Option (Sum (Unit) (Bool))) (y1 : Int) : Option (Sum (Unit) (Bool)):=cond (decide (y1 < (List.length a0 : Int))) (Ad (AO a0 y1) fun e7 => Ad (AO a1 y1) fun e9 => Ad (FA e7 e9) fun v11 => cond (!v11) (some (.inr false)) (rec (IntKind.i64.wrap (y1 + 1)))) (some (.inl ()))
def Hx (a0 : List (List Int)) (a1 : List (List Int)) : Option (Bool):=cond ((List.length a0 : Int) != (List.length a1 : Int)) (some false) (Ad (Ao (JD a0 a1) fz 0) fun o1 => (match o1 with
  | .inl _ => (some true)
  | .inr r => some r))
theorem Mv {a0 : List (List Int)} {a1 : List (List Int)} {r : Bool} (h : Hx a0 a1 = some r) : Ai Tryz.prog 134 [dL AJ a0,dL AJ a1] (.bool r):=by
 unfold Hx at h
 refine st iI rfl (rn 1 rfl (Ac fun K1 hK1 => rn 1 rfl ?_))
 rcases Ab h with ⟨g2,h⟩ | ⟨g2,h⟩
 ·exact qT rfl g2 (rn 1 rfl (Af ((by cases h; exact ⟨.inl rfl,rfl⟩))))
 ·refine qF rfl g2 (Ae (hK1 _ (Ac fun K3 hK3 => rn 1 rfl ?_)))
  obtain ⟨o1,hl,hr1⟩:=Aa h
  have kXB1 : (.inl ()) = o1 -> Jn K3 []:=by
   intro h σ' hk
   subst h
   replace h:=hr1
   try dsimp only at h
   exact hK3 _ (lh hk rfl (rn 1 rfl (Af ((by cases h; exact ⟨.inl rfl,rfl⟩)))))
  refine AB (fun (y1 : Int) => [(0,dL AJ a0),(1,dL AJ a1),(5,nI y1)]) _ _ _ _ hl (okr rfl) (fun _ => rfl) ?_
  rintro m y1 N h hN
  unfold JD at h
  refine Ac fun K4 hK4 => rn 1 rfl ?_
  rcases Ab h with ⟨g5,h⟩ | ⟨g5,h⟩
  ·refine qT rfl g5 (Ae (hK4 _ (Ac fun K6 hK6 => Az (rd (by kernel_rfl) (sd 2 rfl (?_))))))
   obtain ⟨e7,g8,h⟩:=Aa h
   refine ed rfl (qI rfl Br g8 (sd 3 rfl (?_)))
   obtain ⟨e9,g10,h⟩:=Aa h
   refine ed rfl (qI rfl Br g10 (sd 1 rfl (?_)))
   obtain ⟨v11,g12,h⟩:=Aa h
   refine ed rfl (qC (qa rfl (erD An _) (qa rfl (erD An _) Ax)) (Jb g12) (sd 1 rfl (CK ?_)))
   rcases Ab h with ⟨g13,h⟩ | ⟨g13,h⟩
   ·exact qT rfl g13 (rn 1 rfl (Af ((by cases h; cases hr1; exact ⟨.inl rfl,rfl⟩))))
   ·exact qF rfl g13 (Ae (hK6 _ (rg (sp 3 rfl (evn (hN _ _ h (okr rfl)))))))
  ·exact qF rfl g5 (Aq (kXB1 (Option.some.inj h) _ trivial))
def Bt (a0 : Y43) (a1 : Y43) : Option (Bool):=cond (a0.1 != a1.1) (some false) (Ad (Hx a0.2.1 a1.2.1) fun v4 => cond (!v4) (some false) (Ad (FA a0.2.2 a1.2.2) fun v8 => cond (!v8) (some false) (some true)))
theorem Hw {a0 : Y43} {a1 : Y43} {r : Bool} (h : Bt a0 a1 = some r) : Ai Tryz.prog 66 [.agg (Bf a0),.agg (Bf a1)] (.bool r):=by
 unfold Bt at h
 refine st nG rfl (rn 1 rfl (Ac fun K1 hK1 => rn 1 rfl ?_))
 rcases Ab h with ⟨g2,h⟩ | ⟨g2,h⟩
 ·exact qT rfl g2 (rn 1 rfl (Af ((by cases h; exact ⟨.inl rfl,rfl⟩))))
 ·refine qF rfl g2 (Ae (hK1 _ (Ac fun K3 hK3 => rs (sp 4 rfl (?_)))))
  obtain ⟨v4,g5,h⟩:=Aa h
  refine qC (qa rfl (erD Ar _) (qa rfl (erD Ar _) Ax)) (Mv g5) (sp 1 rfl (evn ?_))
  rcases Ab h with ⟨g6,h⟩ | ⟨g6,h⟩
  ·exact qT rfl g6 (rn 1 rfl (Af ((by cases h; exact ⟨.inl rfl,rfl⟩))))
  ·refine qF rfl g6 (Ae (hK3 _ (Ac fun K7 hK7 => rs (sp 4 rfl (?_)))))
   obtain ⟨v8,g9,h⟩:=Aa h
   refine qC (qa rfl (erD An _) (qa rfl (erD An _) Ax)) (Jb g9) (sp 1 rfl (evn (qk [21] rfl ?_)))
   rcases Ab h with ⟨g10,h⟩ | ⟨g10,h⟩
   ·exact qT rfl g10 (rn 1 rfl (Af ((by cases h; exact ⟨.inl rfl,rfl⟩))))
   ·exact qF rfl g10 (Ae (hK7 _ (rn 1 rfl (Af ((by cases h; exact ⟨.inl rfl,rfl⟩))))))
def Er (a0 : List Y43) (a1 : List Y43) (rec : Int -> Option (Sum (Unit) (Bool))) (y1 : Int) : Option (Sum (Unit) (Bool)):=cond (decide (y1 < (List.length a0 : Int))) (Ad (AO a0 y1) fun e7 => Ad (AO a1 y1) fun e9 => Ad (Bt e7 e9) fun v11 => cond (!v11) (some (.inr false)) (rec (IntKind.i64.wrap (y1 + 1)))) (some (.inl ()))
def A6 (a0 : List Y43) (a1 : List Y43) : Option (Bool):=cond ((List.length a0 : Int) != (List.length a1 : Int)) (some false) (Ad (Ao (Er a0 a1) fz 0) fun o1 => (match o1 with
  | .inl _ => (some true)
  | .inr r => some r))
theorem C7 {a0 : List Y43} {a1 : List Y43} {r : Bool} (h : A6 a0 a1 = some r) : Ai Tryz.prog 22 [dL Bf a0,dL Bf a1] (.bool r):=by
 unfold A6 at h
 refine st mY rfl (rn 1 rfl (Ac fun K1 hK1 => rn 1 rfl ?_))
 rcases Ab h with ⟨g2,h⟩ | ⟨g2,h⟩
 ·exact qT rfl g2 (rn 1 rfl (Af ((by cases h; exact ⟨.inl rfl,rfl⟩))))
 ·refine qF rfl g2 (Ae (hK1 _ (Ac fun K3 hK3 => rn 1 rfl ?_)))
  obtain ⟨o1,hl,hr1⟩:=Aa h
  have kXB1 : (.inl ()) = o1 -> Jn K3 []:=by
   intro h σ' hk
   subst h
   replace h:=hr1
   try dsimp only at h
   exact hK3 _ (lh hk rfl (rn 1 rfl (Af ((by cases h; exact ⟨.inl rfl,rfl⟩)))))
  refine AB (fun (y1 : Int) => [(0,dL Bf a0),(1,dL Bf a1),(5,nI y1)]) _ _ _ _ hl (okr rfl) (fun _ => rfl) ?_
  rintro m y1 N h hN
  unfold Er at h
  refine Ac fun K4 hK4 => rn 1 rfl ?_
  rcases Ab h with ⟨g5,h⟩ | ⟨g5,h⟩
  ·refine qT rfl g5 (Ae (hK4 _ (Ac fun K6 hK6 => Az (rd (by kernel_rfl) (sd 2 rfl (?_))))))
   obtain ⟨e7,g8,h⟩:=Aa h
   refine ed rfl (qI rfl Jj g8 (sd 3 rfl (?_)))
   obtain ⟨e9,g10,h⟩:=Aa h
   refine ed rfl (qI rfl Jj g10 (sd 1 rfl (?_)))
   obtain ⟨v11,g12,h⟩:=Aa h
   refine ed rfl (qC (qa rfl (erg (erc rfl (erc (erD Ar _) (erc (erD An _) rfl)))) (qa rfl (erg (erc rfl (erc (erD Ar _) (erc (erD An _) rfl)))) Ax)) (Hw g12) (sd 1 rfl (CK ?_)))
   rcases Ab h with ⟨g13,h⟩ | ⟨g13,h⟩
   ·exact qT rfl g13 (rn 1 rfl (Af ((by cases h; cases hr1; exact ⟨.inl rfl,rfl⟩))))
   ·exact qF rfl g13 (Ae (hK6 _ (rg (sp 3 rfl (evn (hN _ _ h (okr rfl)))))))
  ·exact qF rfl g5 (Aq (kXB1 (Option.some.inj h) _ trivial))
def D4 (a0 : Y32) (a1 : Y32) : Option (Bool):=cond (a0.1 != a1.1) (some false) (Ad (Hx a0.2 a1.2) fun v4 => cond (!v4) (some false) (some true))
theorem H9 {a0 : Y32} {a1 : Y32} {r : Bool} (h : D4 a0 a1 = some r) : Ai Tryz.prog 67 [.agg (Gs a0),.agg (Gs a1)] (.bool r):=by
 unfold D4 at h
 refine st nH rfl (rn 1 rfl (Ac fun K1 hK1 => rn 1 rfl ?_))
 rcases Ab h with ⟨g2,h⟩ | ⟨g2,h⟩
 ·exact qT rfl g2 (rn 1 rfl (Af ((by cases h; exact ⟨.inl rfl,rfl⟩))))
 ·refine qF rfl g2 (Ae (hK1 _ (Ac fun K3 hK3 => rs (sp 4 rfl (?_)))))
  obtain ⟨v4,g5,h⟩:=Aa h
  refine qC (qa rfl (erD Ar _) (qa rfl (erD Ar _) Ax)) (Mv g5) (sp 1 rfl (evn ?_))
  rcases Ab h with ⟨g6,h⟩ | ⟨g6,h⟩
  ·exact qT rfl g6 (rn 1 rfl (Af ((by cases h; exact ⟨.inl rfl,rfl⟩))))
  ·exact qF rfl g6 (Ae (hK3 _ (rn 1 rfl (qk [4] rfl (Af ((by cases h; exact ⟨.inl rfl,rfl⟩)))))))
def Hy (a0 : AU) (a1 : AU) : Option (Bool):=cond (!(a0.1 == a1.1)) (some false) (Ad (D4 a0.2 a1.2) fun v4 => cond (!v4) (some false) (some true))
theorem QL {a0 : AU} {a1 : AU} {r : Bool} (h : Hy a0 a1 = some r) : Ai Tryz.prog 171 [.agg (At a0),.agg (At a1)] (.bool r):=by
 unfold Hy at h
 refine st jm rfl (rn 1 rfl (Ac fun K1 hK1 => rn 1 rfl ?_))
 rcases Ab h with ⟨g2,h⟩ | ⟨g2,h⟩
 ·exact qT rfl g2 (rn 1 rfl (Af ((by cases h; exact ⟨.inl rfl,rfl⟩))))
 ·refine qF rfl g2 (Ae (hK1 _ (Ac fun K3 hK3 => rs (sp 4 rfl (?_)))))
  obtain ⟨v4,g5,h⟩:=Aa h
  refine qC (qa rfl (erg (erc rfl (erc (erD Ar _) rfl))) (qa rfl (erg (erc rfl (erc (erD Ar _) rfl))) Ax)) (H9 g5) (sp 1 rfl (evn ?_))
  rcases Ab h with ⟨g6,h⟩ | ⟨g6,h⟩
  ·exact qT rfl g6 (rn 1 rfl (Af ((by cases h; exact ⟨.inl rfl,rfl⟩))))
  ·exact qF rfl g6 (Ae (hK3 _ (rn 1 rfl (qk [4] rfl (Af ((by cases h; exact ⟨.inl rfl,rfl⟩)))))))
def IY (a0 : List AU) (a1 : List AU) (rec : Int -> Option (Sum (Unit) (Bool))) (y1 : Int) : Option (Sum (Unit) (Bool)):=cond (decide (y1 < (List.length a0 : Int))) (Ad (AO a0 y1) fun e7 => Ad (AO a1 y1) fun e9 => Ad (Hy e7 e9) fun v11 => cond (!v11) (some (.inr false)) (rec (IntKind.i64.wrap (y1 + 1)))) (some (.inl ()))
def HN (a0 : List AU) (a1 : List AU) : Option (Bool):=cond ((List.length a0 : Int) != (List.length a1 : Int)) (some false) (Ad (Ao (IY a0 a1) fz 0) fun o1 => (match o1 with
  | .inl _ => (some true)
  | .inr r => some r))
theorem Qd {a0 : List AU} {a1 : List AU} {r : Bool} (h : HN a0 a1 = some r) : Ai Tryz.prog 132 [dL At a0,dL At a1] (.bool r):=by
 unfold HN at h
 refine st iG rfl (rn 1 rfl (Ac fun K1 hK1 => rn 1 rfl ?_))
 rcases Ab h with ⟨g2,h⟩ | ⟨g2,h⟩
 ·exact qT rfl g2 (rn 1 rfl (Af ((by cases h; exact ⟨.inl rfl,rfl⟩))))
 ·refine qF rfl g2 (Ae (hK1 _ (Ac fun K3 hK3 => rn 1 rfl ?_)))
  obtain ⟨o1,hl,hr1⟩:=Aa h
  have kXB1 : (.inl ()) = o1 -> Jn K3 []:=by
   intro h σ' hk
   subst h
   replace h:=hr1
   try dsimp only at h
   exact hK3 _ (lh hk rfl (rn 1 rfl (Af ((by cases h; exact ⟨.inl rfl,rfl⟩)))))
  refine AB (fun (y1 : Int) => [(0,dL At a0),(1,dL At a1),(5,nI y1)]) _ _ _ _ hl (okr rfl) (fun _ => rfl) ?_
  rintro m y1 N h hN
  unfold IY at h
  refine Ac fun K4 hK4 => rn 1 rfl ?_
  rcases Ab h with ⟨g5,h⟩ | ⟨g5,h⟩
  ·refine qT rfl g5 (Ae (hK4 _ (Ac fun K6 hK6 => Az (rd (by kernel_rfl) (sd 2 rfl (?_))))))
   obtain ⟨e7,g8,h⟩:=Aa h
   refine ed rfl (qI rfl Cz g8 (sd 3 rfl (?_)))
   obtain ⟨e9,g10,h⟩:=Aa h
   refine ed rfl (qI rfl Cz g10 (sd 1 rfl (?_)))
   obtain ⟨v11,g12,h⟩:=Aa h
   refine ed rfl (qC (qa rfl (erg (erc rfl (erc rfl (erc (erD Ar _) rfl)))) (qa rfl (erg (erc rfl (erc rfl (erc (erD Ar _) rfl)))) Ax)) (QL g12) (sd 1 rfl (CK ?_)))
   rcases Ab h with ⟨g13,h⟩ | ⟨g13,h⟩
   ·exact qT rfl g13 (rn 1 rfl (Af ((by cases h; cases hr1; exact ⟨.inl rfl,rfl⟩))))
   ·exact qF rfl g13 (Ae (hK6 _ (rg (sp 3 rfl (evn (hN _ _ h (okr rfl)))))))
  ·exact qF rfl g5 (Aq (kXB1 (Option.some.inj h) _ trivial))
def Gz (a0 : List AU) (a1 : List AU) : Option (Bool):=Ad (HN a0 a1) fun v2 => cond (!v2) (some false) (some true)
theorem Of {a0 : List AU} {a1 : List AU} {r : Bool} (h : Gz a0 a1 = some r) : Ai Tryz.prog 64 [.agg [dL At a0],.agg [dL At a1]] (.bool r):=by
 unfold Gz at h
 refine st nE rfl (rn 1 rfl (Ac fun K1 hK1 => rs (sp 4 rfl (?_))))
 obtain ⟨v2,g3,h⟩:=Aa h
 refine qC (qa rfl (erD AH _) (qa rfl (erD AH _) Ax)) (Qd g3) (sp 1 rfl (evn ?_))
 rcases Ab h with ⟨g4,h⟩ | ⟨g4,h⟩
 ·exact qT rfl g4 (rn 1 rfl (Af ((by cases h; exact ⟨.inl rfl,rfl⟩))))
 ·exact qF rfl g4 (Ae (hK1 _ (rn 1 rfl (Af ((by cases h; exact ⟨.inl rfl,rfl⟩))))))
def H8 (a0 : CA) (a1 : CA) : Option (Bool):=cond (!(a0.1 == a1.1)) (some false) (Ad (FA a0.2 a1.2) fun v4 => cond (!v4) (some false) (some true))
theorem RX {a0 : CA} {a1 : CA} {r : Bool} (h : H8 a0 a1 = some r) : Ai Tryz.prog 198 [.agg (Bc a0),.agg (Bc a1)] (.bool r):=by
 unfold H8 at h
 refine st jH rfl (rn 1 rfl (Ac fun K1 hK1 => rn 1 rfl ?_))
 rcases Ab h with ⟨g2,h⟩ | ⟨g2,h⟩
 ·exact qT rfl g2 (rn 1 rfl (Af ((by cases h; exact ⟨.inl rfl,rfl⟩))))
 ·refine qF rfl g2 (Ae (hK1 _ (Ac fun K3 hK3 => rs (sp 4 rfl (?_)))))
  obtain ⟨v4,g5,h⟩:=Aa h
  refine qC (qa rfl (erD An _) (qa rfl (erD An _) Ax)) (Jb g5) (sp 1 rfl (evn ?_))
  rcases Ab h with ⟨g6,h⟩ | ⟨g6,h⟩
  ·exact qT rfl g6 (rn 1 rfl (Af ((by cases h; exact ⟨.inl rfl,rfl⟩))))
  ·exact qF rfl g6 (Ae (hK3 _ (rn 1 rfl (qk [4] rfl (Af ((by cases h; exact ⟨.inl rfl,rfl⟩)))))))
def JC (a0 : List CA) (a1 : List CA) (rec : Int -> Option (Sum (Unit) (Bool))) (y1 : Int) : Option (Sum (Unit) (Bool)):=cond (decide (y1 < (List.length a0 : Int))) (Ad (AO a0 y1) fun e7 => Ad (AO a1 y1) fun e9 => Ad (H8 e7 e9) fun v11 => cond (!v11) (some (.inr false)) (rec (IntKind.i64.wrap (y1 + 1)))) (some (.inl ()))
def IE (a0 : List CA) (a1 : List CA) : Option (Bool):=cond ((List.length a0 : Int) != (List.length a1 : Int)) (some false) (Ad (Ao (JC a0 a1) fz 0) fun o1 => (match o1 with
  | .inl _ => (some true)
  | .inr r => some r))
theorem QI {a0 : List CA} {a1 : List CA} {r : Bool} (h : IE a0 a1 = some r) : Ai Tryz.prog 189 [dL Bc a0,dL Bc a1] (.bool r):=by
 unfold IE at h
 refine st jz rfl (rn 1 rfl (Ac fun K1 hK1 => rn 1 rfl ?_))
 rcases Ab h with ⟨g2,h⟩ | ⟨g2,h⟩
 ·exact qT rfl g2 (rn 1 rfl (Af ((by cases h; exact ⟨.inl rfl,rfl⟩))))
 ·refine qF rfl g2 (Ae (hK1 _ (Ac fun K3 hK3 => rn 1 rfl ?_)))
  obtain ⟨o1,hl,hr1⟩:=Aa h
  have kXB1 : (.inl ()) = o1 -> Jn K3 []:=by
   intro h σ' hk
   subst h
   replace h:=hr1
   try dsimp only at h
   exact hK3 _ (lh hk rfl (rn 1 rfl (Af ((by cases h; exact ⟨.inl rfl,rfl⟩)))))
  refine AB (fun (y1 : Int) => [(0,dL Bc a0),(1,dL Bc a1),(5,nI y1)]) _ _ _ _ hl (okr rfl) (fun _ => rfl) ?_
  rintro m y1 N h hN
  unfold JC at h
  refine Ac fun K4 hK4 => rn 1 rfl ?_
  rcases Ab h with ⟨g5,h⟩ | ⟨g5,h⟩
  ·refine qT rfl g5 (Ae (hK4 _ (Ac fun K6 hK6 => Az (rd (by kernel_rfl) (sd 2 rfl (?_))))))
   obtain ⟨e7,g8,h⟩:=Aa h
   refine ed rfl (qI rfl GN g8 (sd 3 rfl (?_)))
   obtain ⟨e9,g10,h⟩:=Aa h
   refine ed rfl (qI rfl GN g10 (sd 1 rfl (?_)))
   obtain ⟨v11,g12,h⟩:=Aa h
   refine ed rfl (qC (qa rfl (erg (erc rfl (erc (erD An _) rfl))) (qa rfl (erg (erc rfl (erc (erD An _) rfl))) Ax)) (RX g12) (sd 1 rfl (CK ?_)))
   rcases Ab h with ⟨g13,h⟩ | ⟨g13,h⟩
   ·exact qT rfl g13 (rn 1 rfl (Af ((by cases h; cases hr1; exact ⟨.inl rfl,rfl⟩))))
   ·exact qF rfl g13 (Ae (hK6 _ (rg (sp 3 rfl (evn (hN _ _ h (okr rfl)))))))
  ·exact qF rfl g5 (Aq (kXB1 (Option.some.inj h) _ trivial))
def IG (a0 : Y51) (a1 : Y51) : Option (Bool):=cond (a0.1 != a1.1) (some false) (Ad (IE a0.2.1 a1.2.1) fun v4 => cond (!v4) (some false) (Ad (FA a0.2.2 a1.2.2) fun v8 => cond (!v8) (some false) (some true)))
theorem QK {a0 : Y51} {a1 : Y51} {r : Bool} (h : IG a0 a1 = some r) : Ai Tryz.prog 172 [.agg (Gt a0),.agg (Gt a1)] (.bool r):=by
 unfold IG at h
 refine st jn rfl (rn 1 rfl (Ac fun K1 hK1 => rn 1 rfl ?_))
 rcases Ab h with ⟨g2,h⟩ | ⟨g2,h⟩
 ·exact qT rfl g2 (rn 1 rfl (Af ((by cases h; exact ⟨.inl rfl,rfl⟩))))
 ·refine qF rfl g2 (Ae (hK1 _ (Ac fun K3 hK3 => rs (sp 4 rfl (?_)))))
  obtain ⟨v4,g5,h⟩:=Aa h
  refine qC (qa rfl (erD BB _) (qa rfl (erD BB _) Ax)) (QI g5) (sp 1 rfl (evn ?_))
  rcases Ab h with ⟨g6,h⟩ | ⟨g6,h⟩
  ·exact qT rfl g6 (rn 1 rfl (Af ((by cases h; exact ⟨.inl rfl,rfl⟩))))
  ·refine qF rfl g6 (Ae (hK3 _ (Ac fun K7 hK7 => rs (sp 4 rfl (?_)))))
   obtain ⟨v8,g9,h⟩:=Aa h
   refine qC (qa rfl (erD An _) (qa rfl (erD An _) Ax)) (Jb g9) (sp 1 rfl (evn (qk [21] rfl ?_)))
   rcases Ab h with ⟨g10,h⟩ | ⟨g10,h⟩
   ·exact qT rfl g10 (rn 1 rfl (Af ((by cases h; exact ⟨.inl rfl,rfl⟩))))
   ·exact qF rfl g10 (Ae (hK7 _ (rn 1 rfl (Af ((by cases h; exact ⟨.inl rfl,rfl⟩))))))
def Ia (a0 : Y53) (a1 : Y53) : Option (Bool):=Ad (IG a0.1 a1.1) fun v2 => cond (!v2) (some false) (Ad (Bt a0.2 a1.2) fun v6 => cond (!v6) (some false) (some true))
theorem RY {a0 : Y53} {a1 : Y53} {r : Bool} (h : Ia a0 a1 = some r) : Ai Tryz.prog 133 [.agg (AW a0),.agg (AW a1)] (.bool r):=by
 unfold Ia at h
 refine st iH rfl (rn 1 rfl (Ac fun K1 hK1 => rs (sp 4 rfl (?_))))
 obtain ⟨v2,g3,h⟩:=Aa h
 refine qC (qa rfl (erg (erc rfl (erc (erD BB _) (erc (erD An _) rfl)))) (qa rfl (erg (erc rfl (erc (erD BB _) (erc (erD An _) rfl)))) Ax)) (QK g3) (sp 1 rfl (evn ?_))
 rcases Ab h with ⟨g4,h⟩ | ⟨g4,h⟩
 ·exact qT rfl g4 (rn 1 rfl (Af ((by cases h; exact ⟨.inl rfl,rfl⟩))))
 ·refine qF rfl g4 (Ae (hK1 _ (Ac fun K5 hK5 => rs (sp 4 rfl (?_)))))
  obtain ⟨v6,g7,h⟩:=Aa h
  refine qC (qa rfl (erg (erc rfl (erc (erD Ar _) (erc (erD An _) rfl)))) (qa rfl (erg (erc rfl (erc (erD Ar _) (erc (erD An _) rfl)))) Ax)) (Hw g7) (sp 1 rfl (evn ?_))
  rcases Ab h with ⟨g8,h⟩ | ⟨g8,h⟩
  ·exact qT rfl g8 (rn 1 rfl (Af ((by cases h; exact ⟨.inl rfl,rfl⟩))))
  ·exact qF rfl g8 (Ae (hK5 _ (qk [] rfl (rn 1 rfl (Af ((by cases h; exact ⟨.inl rfl,rfl⟩)))))))
def JE (a0 : List Y53) (a1 : List Y53) (rec : Int -> Option (Sum (Unit) (Bool))) (y1 : Int) : Option (Sum (Unit) (Bool)):=cond (decide (y1 < (List.length a0 : Int))) (Ad (AO a0 y1) fun e7 => Ad (AO a1 y1) fun e9 => Ad (Ia e7 e9) fun v11 => cond (!v11) (some (.inr false)) (rec (IntKind.i64.wrap (y1 + 1)))) (some (.inl ()))
def IH (a0 : List Y53) (a1 : List Y53) : Option (Bool):=cond ((List.length a0 : Int) != (List.length a1 : Int)) (some false) (Ad (Ao (JE a0 a1) fz 0) fun o1 => (match o1 with
  | .inl _ => (some true)
  | .inr r => some r))
theorem QM {a0 : List Y53} {a1 : List Y53} {r : Bool} (h : IH a0 a1 = some r) : Ai Tryz.prog 65 [dL AW a0,dL AW a1] (.bool r):=by
 unfold IH at h
 refine st nF rfl (rn 1 rfl (Ac fun K1 hK1 => rn 1 rfl ?_))
 rcases Ab h with ⟨g2,h⟩ | ⟨g2,h⟩
 ·exact qT rfl g2 (rn 1 rfl (Af ((by cases h; exact ⟨.inl rfl,rfl⟩))))
 ·refine qF rfl g2 (Ae (hK1 _ (Ac fun K3 hK3 => rn 1 rfl ?_)))
  obtain ⟨o1,hl,hr1⟩:=Aa h
  have kXB1 : (.inl ()) = o1 -> Jn K3 []:=by
   intro h σ' hk
   subst h
   replace h:=hr1
   try dsimp only at h
   exact hK3 _ (lh hk rfl (rn 1 rfl (Af ((by cases h; exact ⟨.inl rfl,rfl⟩)))))
  refine AB (fun (y1 : Int) => [(0,dL AW a0),(1,dL AW a1),(5,nI y1)]) _ _ _ _ hl (okr rfl) (fun _ => rfl) ?_
  rintro m y1 N h hN
  unfold JE at h
  refine Ac fun K4 hK4 => rn 1 rfl ?_
  rcases Ab h with ⟨g5,h⟩ | ⟨g5,h⟩
  ·refine qT rfl g5 (Ae (hK4 _ (Ac fun K6 hK6 => Az (rd (by kernel_rfl) (sd 2 rfl (?_))))))
   obtain ⟨e7,g8,h⟩:=Aa h
   refine ed rfl (qI rfl C1 g8 (sd 3 rfl (?_)))
   obtain ⟨e9,g10,h⟩:=Aa h
   refine ed rfl (qI rfl C1 g10 (sd 1 rfl (?_)))
   obtain ⟨v11,g12,h⟩:=Aa h
   refine ed rfl (qC (qa rfl (erg (erc rfl (erc (erD BB _) (erc (erD An _) (erc rfl (erc (erD Ar _) (erc (erD An _) rfl))))))) (qa rfl (erg (erc rfl (erc (erD BB _) (erc (erD An _) (erc rfl (erc (erD Ar _) (erc (erD An _) rfl))))))) Ax)) (RY g12) (sd 1 rfl (CK ?_)))
   rcases Ab h with ⟨g13,h⟩ | ⟨g13,h⟩
   ·exact qT rfl g13 (rn 1 rfl (Af ((by cases h; cases hr1; exact ⟨.inl rfl,rfl⟩))))
   ·exact qF rfl g13 (Ae (hK6 _ (rg (sp 3 rfl (evn (hN _ _ h (okr rfl)))))))
  ·exact qF rfl g5 (Aq (kXB1 (Option.some.inj h) _ trivial))
def Dh (a0 : Y29) (a1 : Y29) : Option (Bool):=Ad (Gz a0.1 a1.1) fun v2 => cond (!v2) (some false) (Ad (IH a0.2.1 a1.2.1) fun v6 => cond (!v6) (some false) (Ad (A6 a0.2.2 a1.2.2) fun v10 => cond (!v10) (some false) (some true)))
theorem GW {a0 : Y29} {a1 : Y29} {r : Bool} (h : Dh a0 a1 = some r) : Ai Tryz.prog 21 [.agg (Bx a0),.agg (Bx a1)] (.bool r):=by
 unfold Dh at h
 refine st mX rfl (rn 1 rfl (Ac fun K1 hK1 => rs (sp 4 rfl (?_))))
 obtain ⟨v2,g3,h⟩:=Aa h
 refine qC (qa rfl (erg (erc (erD AH _) rfl)) (qa rfl (erg (erc (erD AH _) rfl)) Ax)) (Of g3) (sp 1 rfl (evn ?_))
 rcases Ab h with ⟨g4,h⟩ | ⟨g4,h⟩
 ·exact qT rfl g4 (rn 1 rfl (Af ((by cases h; exact ⟨.inl rfl,rfl⟩))))
 ·refine qF rfl g4 (Ae (hK1 _ (Ac fun K5 hK5 => rs (sp 4 rfl (?_)))))
  obtain ⟨v6,g7,h⟩:=Aa h
  refine qC (qa rfl (erD MK _) (qa rfl (erD MK _) Ax)) (QM g7) (sp 1 rfl (evn ?_))
  rcases Ab h with ⟨g8,h⟩ | ⟨g8,h⟩
  ·exact qT rfl g8 (rn 1 rfl (Af ((by cases h; exact ⟨.inl rfl,rfl⟩))))
  ·refine qF rfl g8 (Ae (hK5 _ (qk [2,3] rfl (Ac fun K9 hK9 => rs (sp 4 rfl (?_))))))
   obtain ⟨v10,g11,h⟩:=Aa h
   refine qC (qa rfl (erD RE _) (qa rfl (erD RE _) Ax)) (C7 g11) (sp 1 rfl (evn ?_))
   rcases Ab h with ⟨g12,h⟩ | ⟨g12,h⟩
   ·exact qT rfl g12 (rn 1 rfl (Af ((by cases h; exact ⟨.inl rfl,rfl⟩))))
   ·exact qF rfl g12 (Ae (hK9 _ (rn 1 rfl (Af ((by cases h; exact ⟨.inl rfl,rfl⟩))))))
end Go.Proofs.YtpcbnmcfplioeaaGreat
