/-
  Functions of the program as typed functions, printed by gen.py, and that the program's functions do what they say. No conditions.
-/
import Derived.Test.YtklcofndjkjldaaGreatGScNT1
namespace Go.Proofs.YtklcofndjkjldaaGreat
open Go.RowKit
set_option linter.unusedVariables false
set_option maxRecDepth 100000
set_option maxHeartbeats 1000000
def EV (a0 : Y29) (rec : ((List Y53) × Int) -> Option ((List Y53))) (s : (List Y53) × Int) : Option ((List Y53)):=match s with
  | (y1,y2) => cond (decide (y2 < (List.length a0.2.1 : Int))) (Ad (AK a0.2.1 y2) fun e8 => Ad (Hp e8) fun v10 => chk (List.length y1 + List.length [v10] <= lim) (rec ((y1 ++ [v10]),(IntKind.i64.wrap (y2 + 1))))) (some y1)
def EW (a0 : Y29) (rec : ((List Y43) × Int) -> Option ((List Y43))) (s : (List Y43) × Int) : Option ((List Y43)):=match s with
  | (y3,y4) => cond (decide (y4 < (List.length a0.2.2 : Int))) (Ad (AK a0.2.2 y4) fun e18 => Ad (Cx e18) fun v20 => chk (List.length y3 + List.length [v20] <= lim) (rec ((y3 ++ [v20]),(IntKind.i64.wrap (y4 + 1))))) (some y3)
def CN (a0 : Y29) : Option (Y29):=Ad (Bn a0.1) fun v1 => Ad (Al (EV a0) fz (([] : List Y53),0)) fun z4 => Ad (Al (EW a0) fz (([] : List Y43),0)) fun z14 => some (v1,z4,z14)
theorem G5 {a0 : Y29} {r : Y29} (h : CN a0 = some r) : Ai Tryz.prog 20 [.agg (AL a0)] (.agg (BR r)):=by
 unfold CN at h
 refine st eH rfl (rn 1 rfl (rs (sp 2 rfl (?_))))
 obtain ⟨v1,g2,h⟩:=Aa h
 refine qC (qa rfl (erg (erc (erD AM _) rfl)) Ar) (CM g2) (sp 3 rfl (evn (Ac fun K3 hK3 => rn 1 rfl ?_)))
 obtain ⟨o1,hl,hr1⟩:=Aa h
 have kXB1 : ∀ {z4 : List Y53},z4 = o1 -> Jn K3 [(1,.box [dL AB a0.1,dL AV a0.2.1,dL A7 a0.2.2]),(2,.box [oL 89 Aw [],oL 54 Ao [],oL 44 Av []]),(3,.box [oL 89 Aw v1,oL 54 Ao z4,oL 44 Av []])]:=by
  intro z4 h σ' hk
  subst h
  replace h:=hr1
  try dsimp only at h
  refine hK3 _ (lh hk rfl (Ac fun K13 hK13 => rn 1 rfl ?_))
  obtain ⟨o2,hl,hr2⟩:=Aa h
  have kXB2 : ∀ {z14 : List Y43},z14 = o2 -> Jn K13 [(2,.box [oL 89 Aw [],oL 54 Ao [],oL 44 Av []]),(3,.box [oL 89 Aw v1,oL 54 Ao z4,oL 44 Av z14])]:=by
   intro z14 h σ' hk
   subst h
   replace h:=hr2
   try dsimp only at h
   exact hK13 _ (lh hk rfl (rn 1 rfl (Af ((by cases h; exact ⟨.inl rfl,rfl⟩)))))
  refine Ax (fun (s : (List Y43) × Int) => match s with | (y3,y4) => [(2,.box [oL 89 Aw [],oL 54 Ao [],oL 44 Av []]),(3,.box [oL 89 Aw v1,oL 54 Ao z4,oL 44 Av y3]),(28,dL A7 a0.2.2),(29,nI (List.length a0.2.2 : Int)),(30,nI y4)]) _ _ _ _ hl (okr rfl) (fun _ => rfl) ?_
  rintro m ⟨y3,y4⟩ N h hN
  unfold EW at h
  dsimp only at h
  refine rn 1 rfl (Ac fun K15 hK15 => ?_)
  rcases Ab h with ⟨g16,h⟩ | ⟨g16,h⟩
  ·refine qT rfl g16 (Ae (hK15 _ (Ac fun K17 hK17 => Au (rs ?_))))
   obtain ⟨e18,g19,h⟩:=Aa h
   refine qI rfl JY g19 (sp 3 rfl (evn (rgd (by kernel_rfl) (sd 3 rfl (?_)))))
   obtain ⟨v20,g21,h⟩:=Aa h
   refine ed rfl (qC (qa rfl (erg (erc rfl (erc (erD As _) (erc (erD Am _) rfl)))) Ar) (F6 g21) (ed rfl (qBs Av [v20] rfl rfl rfl Dw (?_))))
   obtain ⟨g22,h⟩:=Ah h
   exact ed rfl (qA Av y3 [v20] rfl rfl (Ap Dw [v20]) rfl g22 (sd 2 rfl (BB (hK17 _ (rg (sp 2 rfl (evn (hN _ _ h (okr rfl)))))))))
  ·exact qF rfl g16 (An (kXB2 (Option.some.inj h) _ (okr rfl)))
 refine Ax (fun (s : (List Y53) × Int) => match s with | (y1,y2) => [(1,.box [dL AB a0.1,dL AV a0.2.1,dL A7 a0.2.2]),(2,.box [oL 89 Aw [],oL 54 Ao [],oL 44 Av []]),(3,.box [oL 89 Aw v1,oL 54 Ao y1,oL 44 Av []]),(13,dL AV a0.2.1),(14,nI (List.length a0.2.1 : Int)),(15,nI y2)]) _ _ _ _ hl (okr rfl) (fun _ => rfl) ?_
 rintro m ⟨y1,y2⟩ N h hN
 unfold EV at h
 dsimp only at h
 refine rn 1 rfl (Ac fun K5 hK5 => ?_)
 rcases Ab h with ⟨g6,h⟩ | ⟨g6,h⟩
 ·refine qT rfl g6 (Ae (hK5 _ (Ac fun K7 hK7 => Au (rs ?_))))
  obtain ⟨e8,g9,h⟩:=Aa h
  refine qI rfl EQ g9 (sp 3 rfl (evn (rgd (by kernel_rfl) (sd 3 rfl (?_)))))
  obtain ⟨v10,g11,h⟩:=Aa h
  refine ed rfl (qC (qa rfl (erg (erc rfl (erc (erD Bl _) (erc (erD Am _) (erc rfl (erc (erD As _) (erc (erD Am _) rfl))))))) Ar) (NI g11) (ed rfl (qBs Ao [v10] rfl rfl rfl FF (?_))))
  obtain ⟨g12,h⟩:=Ah h
  exact ed rfl (qA Ao y1 [v10] rfl rfl (Ap FF [v10]) rfl g12 (sd 2 rfl (BB (hK7 _ (rg (sp 2 rfl (evn (hN _ _ h (okr rfl)))))))))
 ·exact qF rfl g6 (An (kXB1 (Option.some.inj h) _ (okr rfl)))
def Da (a1 : Y43) (rec : (Int × (List (List Int)) × (List Int) × Int) -> Option (Int × (List (List Int)) × (List Int))) (s : Int × (List (List Int)) × (List Int) × Int) : Option (Int × (List (List Int)) × (List Int)):=match s with
  | (y1,y2,y3,y4) => cond (decide (y4 < (List.length a1.2.1 : Int))) (Ad (AK a1.2.1 y4) fun e18 => Ad (AK a1.2.2 y4) fun e20 => Ad (GA (y1,y2,y3) e18 e20) fun v22 => rec (v22.1,v22.2.1,v22.2.2,(IntKind.i64.wrap (y4 + 1)))) (some (y1,y2,y3))
def DG (a0 : Y43) (a1 : Y43) : Option (Y43 × Bool):=Ad (AX a0) fun v2 => cond (!v2) (some ((0,[],[]),false)) (Ad (AX a1) fun v5 => cond (!v5) (some ((0,[],[]),false)) (cond (a0.1 != a1.1) (some ((0,[],[]),false)) (Ad (Cx a0) fun v9 => Ad (Al (Da a1) fz (v9.1,v9.2.1,v9.2.2,0)) fun o1 => (match o1 with
  | (z12,z13,z14) => (Ad (Fm (z12,AA 0 z13,z14)) fun v24 => chk (okJ (z13) (HL v24.2.1) [] = true) (cond (decide (4000 < (List.length (AA 0 z13) : Int))) (some ((0,[],[]),false)) (Ad (AX (v24.1,List.map getM (HL v24.2.1),v24.2.2)) fun v29 => cond (!v29) (some ((0,[],[]),false)) (some ((v24.1,List.map getM (HL v24.2.1),v24.2.2),true)))))))))
theorem HP {a0 : Y43} {a1 : Y43} {r : Y43 × Bool} (h : DG a0 a1 = some r) : Ai Tryz.prog 23 [.agg (A7 a0),.agg (A7 a1)] (.tup [.agg (Av r.1),.bool r.2]):=by
 unfold DG at h
 refine sta eK rfl (OX (bcc rfl (bcc (F9 Iw _) (bcc (F9 (fun _ => rfl) _) rfl))) (OX (bcc rfl (bcc (F9 Iw _) (bcc (F9 (fun _ => rfl) _) rfl))) rfl)) (mvv (vag (vcc rfl (vcc (J8 IA _) (vcc (J8 (fun _ => rfl) _) rfl)))) (mvv (vag (vcc rfl (vcc (J8 IA _) (vcc (J8 (fun _ => rfl) _) rfl)))) rfl)) (dcc (dag (dcc rfl (dcc (dco CH 42 _) (dcc (dco (fun _ => rfl) 3 _) dcn)))) (dcc rfl dcn)) (rn 1 rfl (Ac fun K1 hK1 => rs (sp 1 rfl (?_))))
 obtain ⟨v2,g3,h⟩:=Aa h
 refine qC (qa rfl (erg (erc rfl (erc (erG FJ _) (erc (erG Am _) rfl)))) Ar) (Cc g3) (sp 2 rfl (?_))
 rcases Ab h with ⟨g4,h⟩ | ⟨g4,h⟩
 ·exact qg 13 g4 rfl (sp 11 rfl (evn (qT rfl rfl (rn 1 rfl (Af ((by cases h; exact ⟨.inl rfl,rfl⟩)))))))
 ·refine qg 13 g4 rfl (sp 1 rfl (?_))
  obtain ⟨v5,g6,h⟩:=Aa h
  refine oGR rfl rfl (qC (qa rfl (erg (erc rfl (erc (erG FJ _) (erc (erG Am _) rfl)))) Ar) (Cc g6) (sp 3 rfl (?_)))
  rcases Ab h with ⟨g7,h⟩ | ⟨g7,h⟩
  ·exact qg 18 g7 rfl (sp 6 rfl (evn (qk [2,3,4,24] rfl (qT rfl rfl (rn 1 rfl (Af ((by cases h; exact ⟨.inl rfl,rfl⟩))))))))
  ·refine qg 18 g7 rfl (sp 6 rfl (evn ?_))
   rcases Ab h with ⟨g8,h⟩ | ⟨g8,h⟩
   ·exact qT rfl g8 (rn 1 rfl (Af ((by cases h; exact ⟨.inl rfl,rfl⟩))))
   ·refine qF rfl g8 (Ae (hK1 _ (rs (sp 1 rfl (?_)))))
    obtain ⟨v9,g10,h⟩:=Aa h
    refine qC (qa rfl (erg (erc rfl (erc (erG FJ _) (erc (erG Am _) rfl)))) Ar) (F6 g10) (sp 2 rfl (evn (Ac fun K11 hK11 => rn 1 rfl ?_)))
    obtain ⟨o1,hl,hr1⟩:=Aa h
    have kXB1 : ∀ {z12 : Int} {z13 : List (List Int)} {z14 : List Int},(z12,z13,z14) = o1 -> Jn K11 [(4,.box [nI 0,oL 42 Ag [],oL 3 Aq []]),(6,.box [nI z12,oL 42 Ag z13,oL 3 Aq z14])]:=by
     intro z12 z13 z14 h σ' hk
     subst h
     replace h:=hr1
     try dsimp only at h
     refine hK11 _ (lh hk rfl (qk [4,6] rfl (Ih (gSb (f:=Ag) (l:=z13) (q:=900001) (b:=6) [nI z12] [oL 3 Aq z14] rfl rfl rfl (fun _ => rfl) ?_))))
     intro U us1 hU
     refine kp [(4,.box [nI 0,oL 42 Ag [],oL 3 Aq []]),(6,.box [nI z12,oL 42 (pE Ag U) (AA 0 z13),oL 3 Aq z14]),(900001,.gh us1 (List.map (fun x => Jo (Ag x)) z13))] rfl rfl (rs (sp 1 rfl (?_)))
     obtain ⟨v24,g25,h⟩:=Aa h
     refine qCi rfl rfl rfl (KQ g25) (sp 2 rfl (evn (Ac fun K26 hK26 => qk [4,6,9,900001] rfl ?_)))
     obtain ⟨g27,h⟩:=Ah h
     refine Ih (gJb (f:=Ag) (l:=z13) (q:=900001) (b:=9) [nI v24.1] [oL 3 Aq v24.2.2] (HL v24.2.1) rfl Rq rfl rfl (fun _ => rfl) hU g27 (kp [(4,.box [nI 0,oL 42 Ag [],oL 3 Aq []]),(6,.box [nI z12,oL 42 (pE Ag U) (AA 0 z13),oL 3 Aq z14]),(9,.box [nI v24.1,oL 42 Ag (List.map getM (HL v24.2.1)),oL 3 Aq v24.2.2])] rfl rfl (rs (sp 5 rfl (?_)))))
     rcases Ab h with ⟨g28,h⟩ | ⟨g28,h⟩
     ·exact qg 50 g28 rfl (sp 4 rfl (evn (qT rfl rfl (rn 1 rfl (Af ((by cases h; exact ⟨.inl rfl,rfl⟩)))))))
     ·refine qg 50 g28 rfl (sp 1 rfl (?_))
      obtain ⟨v29,g30,h⟩:=Aa h
      refine oGR rfl rfl (qC (qa rfl (erg (erc rfl (erc (erD AS _) (erc (erD Am _) rfl)))) Ar) (Cc g30) (sp 2 rfl (evn ?_)))
      rcases Ab h with ⟨g31,h⟩ | ⟨g31,h⟩
      ·exact qT rfl g31 (rn 1 rfl (Af ((by cases h; exact ⟨.inl rfl,rfl⟩))))
      ·exact qF rfl g31 (Ae (hK26 _ (rn 1 rfl (Af ((by cases h; exact ⟨.inl rfl,rfl⟩))))))
    refine Ax (fun (s : Int × (List (List Int)) × (List Int) × Int) => match s with | (y1,y2,y3,y4) => [(3,.box [nI a1.1,aL IOQ a1.2.1,aL Aq a1.2.2]),(4,.box [nI 0,oL 42 Ag [],oL 3 Aq []]),(6,.box [nI y1,oL 42 Ag y2,oL 3 Aq y3]),(29,aL IOQ a1.2.1),(30,nI (List.length a1.2.1 : Int)),(31,nI y4)]) _ _ _ _ hl (okr rfl) (fun _ => rfl) ?_
    rintro m ⟨y1,y2,y3,y4⟩ N h hN
    unfold Da at h
    dsimp only at h
    refine rn 1 rfl (Ac fun K15 hK15 => ?_)
    rcases Ab h with ⟨g16,h⟩ | ⟨g16,h⟩
    ·refine qT rfl g16 (Ae (hK15 _ (Ac fun K17 hK17 => Au (rs (sp 1 rfl (?_))))))
     obtain ⟨e18,g19,h⟩:=Aa h
     refine qI rfl XK g19 (sp 3 rfl (evn (rg (sp 4 rfl (?_)))))
     obtain ⟨e20,g21,h⟩:=Aa h
     refine qI rfl AH g21 (sp 1 rfl (?_))
     obtain ⟨v22,g23,h⟩:=Aa h
     exact qPo [3,4,29,30,31,36,41] rfl rfl rfl rfl (qa rfl (erG Am _) (qs rfl Ar)) (dcc rfl (dcc (dco CH 42 _) (dcc (dco (fun _ => rfl) 3 _) dcn))) (MD g23) rfl (yc (snc rfl (snc (sA (aca G4 _)) (snc (sA (aca (fun _ => rfl) _)) rfl))) (yc (snc rfl (snc rfl (snc rfl rfl))) (yc (acf G4 _) (yc rfl (yc rfl (yc (acf (fun _ => rfl) _) (yc rfl yn))))))) (evn (hK17 _ (rg (sp 2 rfl (evn (hN _ _ h (okr rfl)))))))
    ·exact qF rfl g16 (An (kXB1 (Option.some.inj h) _ (okr rfl)))
def Cd (v1 : Y43) (rec : ((List Int) × Int) -> Option ((List Int))) (s : (List Int) × Int) : Option ((List Int)):=match s with
  | (y1,y2) => cond (decide (y2 < (List.length v1.2.2 : Int))) (chk (0 < List.length y1) (Ad (AK y1 y2) fun e10 => Ad (AK y1 y2) fun e12 => rec ((It y1 y2 (IntKind.i64.wrap (0 - e10))),(IntKind.i64.wrap (y2 + 1))))) (some y1)
def Et (a0 : Y43) : Option (Y43):=Ad (Cx a0) fun v1 => Ad (Al (Cd v1) fz (v1.2.2,0)) fun z4 => some (v1.1,v1.2.1,z4)
theorem KH {a0 : Y43} {r : Y43} (h : Et a0 = some r) : Ai Tryz.prog 62 [.agg (A7 a0)] (.agg (Av r)):=by
 unfold Et at h
 refine sta fD rfl (OX (bcc rfl (bcc (F9 Iw _) (bcc (F9 (fun _ => rfl) _) rfl))) rfl) (mvv (vag (vcc rfl (vcc (J8 IA _) (vcc (J8 (fun _ => rfl) _) rfl)))) rfl) (dag (dcc rfl (dcc (dco CH 42 _) (dcc (dco (fun _ => rfl) 3 _) dcn)))) (rn 1 rfl (rs (sp 1 rfl (?_))))
 obtain ⟨v1,g2,h⟩:=Aa h
 refine qC (qa rfl (erg (erc rfl (erc (erG FJ _) (erc (erG Am _) rfl)))) Ar) (F6 g2) (sp 2 rfl (evn (Ac fun K3 hK3 => rn 1 rfl ?_)))
 obtain ⟨o1,hl,hr1⟩:=Aa h
 have kXB1 : ∀ {z4 : List Int},z4 = o1 -> Jn K3 [(2,.box [nI 0,oL 42 Ag [],oL 3 Aq []]),(3,.box [nI v1.1,oL 42 Ag v1.2.1,oL 3 Aq z4])]:=by
  intro z4 h σ' hk
  subst h
  replace h:=hr1
  try dsimp only at h
  exact hK3 _ (lh hk rfl (rn 1 rfl (Af ((by cases h; exact ⟨.inl rfl,rfl⟩)))))
 refine Ax (fun (s : (List Int) × Int) => match s with | (y1,y2) => [(2,.box [nI 0,oL 42 Ag [],oL 3 Aq []]),(3,.box [nI v1.1,oL 42 Ag v1.2.1,oL 3 Aq y1]),(9,nI (List.length v1.2.2 : Int)),(10,nI y2)]) _ _ _ _ hl (okr rfl) (fun _ => rfl) ?_
 rintro m ⟨y1,y2⟩ N h hN
 unfold Cd at h
 dsimp only at h
 refine rn 1 rfl (Ac fun K5 hK5 => ?_)
 rcases Ab h with ⟨g6,h⟩ | ⟨g6,h⟩
 ·refine qT rfl g6 (Ae (hK5 _ (Ac fun K7 hK7 => Au (rn 1 rfl (qk [2,3,4,9,10] rfl ?_)))))
  obtain ⟨g8,h⟩:=Ah h
  refine Ih (gLb (q:=900003) (b:=3) [nI v1.1,oL 42 Ag v1.2.1] [] rfl rfl rfl g8 ?_)
  intro gg9 mm9
  refine qk [2,3,4,9,10,900003] rfl (Rl (rgt 9 (by kernel_rfl) (sd 6 rfl (?_))))
  obtain ⟨e10,g11,h⟩:=Aa h
  refine ed rfl (qIt rfl rfl rfl rfl g11 (?_))
  refine ed rfl (qLe (i:=y2) (es:=1) (q:=900003) 0 rfl rfl rfl rfl rfl rfl AH g11 rfl rfl (?_))
  refine sd 1 rfl (BB (S9 ?_))
  obtain ⟨e12,g13,h⟩:=Aa h
  refine qIt rfl rfl rfl rfl g13 (?_)
  refine qSt (y0:=e12) (i:=y2) (es:=1) 0 (IntKind.i64.wrap (0 - e10)) [2,3,9,10] rfl rfl rfl rfl rfl rfl rfl rfl rfl rfl AH g13 (fun _ => rfl) (sdL (dcc rfl dcn)) (yc (snc rfl (snc rfl (snc rfl rfl))) (yc (snc rfl (snc (sO (dco CH 42 _)) (snc rfl rfl))) (yc rfl (yc rfl yn)))) (?_)
  exact evn (gDb (q:=900003) (b:=3) [nI v1.1,oL 42 Ag v1.2.1] [] rfl rfl rfl (sl rfl) (hK7 _ (rg (sp 2 rfl (evn (hN _ _ h (okr rfl)))))))
 ·exact qF rfl g6 (An (kXB1 (Option.some.inj h) _ (okr rfl)))
def FSQ (a0 : List Y88) (a1 : Y51) (a2 : Y34) : Option (Y43 × Bool):=Ad (E1 a0 a2) fun v1 => Ad (Fj v1.1 a1) fun v3 => Ad (Fj a0 a1) fun v5 => cond (!v1.2) (some ((0,[],[]),false)) (cond (!v3.2) (some ((0,[],[]),false)) (cond (!v5.2) (some ((0,[],[]),false)) (Ad (Et v5.1.2) fun v11 => Ad (DG v3.1.2 v11) fun v13 => some (v13.1,v13.2))))
theorem JZ {a0 : List Y88} {a1 : Y51} {a2 : Y34} {r : Y43 × Bool} (h : FSQ a0 a1 a2 = some r) : Ai Tryz.prog 21 [.agg [dL AB a0],.agg (Dg a1),.agg (Eo a2)] (.tup [.agg (Av r.1),.bool r.2]):=by
 unfold FSQ at h
 refine st eI rfl (rn 1 rfl (rs (sp 2 rfl (?_))))
 obtain ⟨v1,g2,h⟩:=Aa h
 refine qC (qa rfl (erg (erc (erD AM _) rfl)) (qa rfl (erg (erc rfl (erc rfl (erc (erD As _) (erc rfl (erc (erD As _) rfl)))))) Ar)) (Jq g2) (sp 6 rfl (evn (rs (sp 2 rfl (?_)))))
 obtain ⟨v3,g4,h⟩:=Aa h
 refine qC (qa rfl (erg (erc (erD DF _) rfl)) (qa rfl (erg (erc rfl (erc (erD Bl _) (erc (erD Am _) rfl)))) Ar)) (Jj g4) (sp 6 rfl (evn (rs (sp 2 rfl (?_)))))
 obtain ⟨v5,g6,h⟩:=Aa h
 refine qC (qa rfl (erg (erc (erD AM _) rfl)) (qa rfl (erg (erc rfl (erc (erD Bl _) (erc (erD Am _) rfl)))) Ar)) (Jj g6) (sp 6 rfl (evn (Ac fun K7 hK7 => rs (sp 3 rfl (?_)))))
 rcases Ab h with ⟨g8,h⟩ | ⟨g8,h⟩
 ·exact qg 34 g8 rfl (sp 7 rfl (evn (qk [6,10,12,41] rfl (qT rfl rfl (rn 1 rfl (Af ((by cases h; exact ⟨.inl rfl,rfl⟩))))))))
 ·refine qg 34 g8 rfl (sp 4 rfl (?_))
  rcases Ab h with ⟨g9,h⟩ | ⟨g9,h⟩
  ·exact qg 38 g9 rfl (sp 3 rfl (evn (qT rfl rfl (rn 1 rfl (Af ((by cases h; exact ⟨.inl rfl,rfl⟩)))))))
  ·refine qg 38 g9 rfl (sp 3 rfl (evn ?_))
   rcases Ab h with ⟨g10,h⟩ | ⟨g10,h⟩
   ·exact qT rfl g10 (rn 1 rfl (Af ((by cases h; exact ⟨.inl rfl,rfl⟩))))
   ·refine qF rfl g10 (Ae (hK7 _ (rd (by kernel_rfl) (sd 4 rfl (?_)))))
    obtain ⟨v11,g12,h⟩:=Aa h
    refine ed rfl (qC (qa rfl (erg (erc rfl (erc (erD AS _) (erc (erD Am _) rfl)))) Ar) (KH g12) (?_))
    obtain ⟨v13,g14,h⟩:=Aa h
    exact ed rfl (qC (qa rfl (erg (erc rfl (erc (erD AS _) (erc (erD Am _) rfl)))) (qa rfl (erg (erc rfl (erc (erO AS _) (erc (erO Am _) rfl)))) Ar)) (HP g14) (sd 4 rfl (BB (qk [6,7] rfl (Af ((by cases h; exact ⟨.inl rfl,rfl⟩)))))))
def FK (a0 : Y53) (a1 : List Y88) (a2 : Y34) : Option (Y53 × Bool):=Ad (FSQ a1 a0.1 a2) fun v1 => Ad (BC a1 a0) fun v4 => cond (!v4) (some (((0,[],[]),(0,[],[])),false)) (cond (!v1.2) (some (((0,[],[]),(0,[],[])),false)) (Ad (DG a0.2 v1.1) fun v8 => cond (!v8.2) (some (((0,[],[]),(0,[],[])),false)) (Ad (EK a0.1) fun v12 => some ((v12,v8.1),true))))
theorem Lw {a0 : Y53} {a1 : List Y88} {a2 : Y34} {r : Y53 × Bool} (h : FK a0 a1 a2 = some r) : Ai Tryz.prog 22 [.agg (AV a0),.agg [dL AB a1],.agg (Eo a2)] (.tup [.agg (Ao r.1),.bool r.2]):=by
 unfold FK at h
 refine st eJ rfl (rn 1 rfl (rs (sp 4 rfl (?_))))
 obtain ⟨v1,g2,h⟩:=Aa h
 refine qC (qa rfl (erg (erc (erD AM _) rfl)) (qa rfl (erg (erc rfl (erc (erD Bl _) (erc (erD Am _) rfl)))) (qa rfl (erg (erc rfl (erc rfl (erc (erD As _) (erc rfl (erc (erD As _) rfl)))))) Ar))) (JZ g2) (sp 6 rfl (evn (Ac fun K3 hK3 => rs (sp 2 rfl (?_)))))
 obtain ⟨v4,g5,h⟩:=Aa h
 refine qC (qa rfl (erg (erc (erD AM _) rfl)) (qa rfl (erg (erc rfl (erc (erD Bl _) (erc (erD Am _) (erc rfl (erc (erD As _) (erc (erD Am _) rfl))))))) Ar)) (I4 g5) (sp 2 rfl (?_))
 rcases Ab h with ⟨g6,h⟩ | ⟨g6,h⟩
 ·exact qg 24 g6 rfl (sp 3 rfl (evn (qT rfl rfl (rn 1 rfl (Af ((by cases h; exact ⟨.inl rfl,rfl⟩)))))))
 ·refine qg 24 g6 rfl (sp 3 rfl (evn ?_))
  rcases Ab h with ⟨g7,h⟩ | ⟨g7,h⟩
  ·exact qT rfl g7 (rn 1 rfl (qk [6,7] rfl (Af ((by cases h; exact ⟨.inl rfl,rfl⟩)))))
  ·refine qF rfl g7 (Ae (hK3 _ (rs (sp 3 rfl (?_)))))
   obtain ⟨v8,g9,h⟩:=Aa h
   refine qC (qa rfl (erg (erc rfl (erc (erD As _) (erc (erD Am _) rfl)))) (qa rfl (erg (erc rfl (erc (erD AS _) (erc (erD Am _) rfl)))) Ar)) (HP g9) (sp 6 rfl (evn (Ac fun K10 hK10 => rn 1 rfl ?_)))
   rcases Ab h with ⟨g11,h⟩ | ⟨g11,h⟩
   ·exact qT rfl g11 (rn 1 rfl (Af ((by cases h; exact ⟨.inl rfl,rfl⟩))))
   ·refine qF rfl g11 (Ae (hK10 _ (rd (by kernel_rfl) (sd 2 rfl (?_)))))
    obtain ⟨v12,g13,h⟩:=Aa h
    exact ed rfl (qC (qa rfl (erg (erc rfl (erc (erD Bl _) (erc (erD Am _) rfl)))) Ar) (Ix g13) (sd 4 rfl (BB (Af ((by cases h; exact ⟨.inl rfl,rfl⟩))))))
def Bq (rec : ((List Y53) × (List Y43) × (List Y43) × Int) -> Option (Sum ((List Y53) × (List Y43) × (List Y43)) (Y29 × (List Y43) × Bool))) (a0 : Y29) (y1 : List Y53) (y2 : List Y43) (y3 : List Y43) (y4 : Int) (v20 : Y43 × Bool) (v22 : Y53 × Bool) (v26 : Y43 × Bool) (x30 : Bool) : Option (Sum ((List Y53) × (List Y43) × (List Y43)) (Y29 × (List Y43) × Bool)):=cond x30 (Ad (CN a0) fun v32 => some (.inr (v32,([] : List Y43),false))) (chk (0 < List.length y1) (Ad (AK y1 y4) fun e36 => chk (0 < List.length y2) (Ad (AK y2 y4) fun e40 => chk (List.length y3 + List.length [v20.1] <= lim) (rec ((It y1 y4 v22.1),(It y2 y4 v26.1),(y3 ++ [v20.1]),(IntKind.i64.wrap (y4 + 1)))))))
def BM (a0 : Y29) (a1 : Y34) (rec : ((List Y53) × (List Y43) × (List Y43) × Int) -> Option (Sum ((List Y53) × (List Y43) × (List Y43)) (Y29 × (List Y43) × Bool))) (s : (List Y53) × (List Y43) × (List Y43) × Int) : Option (Sum ((List Y53) × (List Y43) × (List Y43)) (Y29 × (List Y43) × Bool)):=match s with
  | (y1,y2,y3,y4) => cond (decide (y4 < (List.length a0.2.1 : Int))) (Ad (AK a0.2.1 y4) fun e18 => Ad (FSQ a0.1 e18.1 a1) fun v20 => Ad (FK e18 a0.1 a1) fun v22 => Ad (AK a0.2.2 y4) fun e24 => Ad (DG e24 v20.1) fun v26 => cond (!v20.2) (Bq rec a0 y1 y2 y3 y4 v20 v22 v26 true) (cond (!v22.2) (Bq rec a0 y1 y2 y3 y4 v20 v22 v26 true) (Bq rec a0 y1 y2 y3 y4 v20 v22 v26 (!v26.2)))) (some (.inl (y1,y2,y3)))
def Ct (a0 : Y29) (a1 : Y34) (v1 : (List Y88) × Bool) (x5 : Bool) : Option (Y29 × (List Y43) × Bool):=cond x5 (Ad (CN a0) fun v7 => some (v7,([] : List Y43),false)) (Ad (CN a0) fun v9 => Ad (Al (BM a0 a1) fz (v9.2.1,v9.2.2,([] : List Y43),0)) fun o2 => (match o2 with
  | .inl (z12,z13,z14) => (some ((v1.1,z12,z13),z14,true))
  | .inr r => some r))
def E4 (a0 : Y29) (a1 : Y34) : Option (Y29 × (List Y43) × Bool):=Ad (E1 a0.1 a1) fun v1 => Ad (Be a0) fun v45 => cond (!v45) (Ct a0 a1 v1 true) (Ct a0 a1 v1 (!v1.2))
theorem La {a0 : Y29} {a1 : Y34} {r : Y29 × (List Y43) × Bool} (h : E4 a0 a1 = some r) : Ai Tryz.prog 6 [.agg (AL a0),.agg (Eo a1)] (.tup [.agg (BR r.1),oL 44 Av r.2.1,.bool r.2.2]):=by
 unfold E4 at h
 refine sta iO rfl (OX (bcc (F9 MU _) (bcc (F9 Mz _) (bcc (F9 P5 _) rfl))) (OX (bcc rfl (bcc rfl (bcc (F9 Iw _) (bcc rfl (bcc (F9 Iw _) rfl))))) rfl)) (mvv (vag (vcc (J8 Ng _) (vcc (J8 MI _) (vcc (J8 QJ _) rfl)))) (mvv (vag (vcc rfl (vcc rfl (vcc (J8 IA _) (vcc rfl (vcc (J8 IA _) rfl)))))) rfl)) (dcc (dag (dcc (dco Hl 89 _) (dcc (dco Hc 54 _) (dcc (dco FI 44 _) dcn)))) (dcc (dco FI 44 _) (dcc rfl dcn))) (rn 1 rfl (rs (sp 3 rfl (?_))))
 obtain ⟨v1,g2,h⟩:=Aa h
 refine qC (qa rfl (erg (erc (erG Fo _) rfl)) (qa rfl (erg (erc rfl (erc rfl (erc (erG FJ _) (erc rfl (erc (erG FJ _) rfl)))))) Ar)) (Jq g2) (sp 6 rfl (evn (Ac fun K3 hK3 => rk fun K4 hK4 => ?_)))
 have kJ1 : ∀ {x5 : Bool},Ct a0 a1 v1 x5 = some r -> Jn K4 [(2,.box [aL HK a0.1,aL E0 a0.2.1,aL JH a0.2.2]),(3,.box [.str a1.1,nI a1.2.1.1,aL IOQ a1.2.1.2,nI a1.2.2.1,aL IOQ a1.2.2.2]),(4,.box [oL 89 Aw [],oL 54 Ao [],oL 44 Av []]),(7,.box [oL 89 Aw v1.1]),(32,.bool x5)]:=by
  intro x5 h σ' hk
  unfold Ct at h
  refine hK4 _ (lh hk rfl ?_)
  rcases Ab h with ⟨g6,h⟩ | ⟨g6,h⟩
  ·refine qT rfl g6 (rs (sp 1 rfl (?_)))
   obtain ⟨v7,g8,h⟩:=Aa h
   exact qC (qa rfl (erg (erc (erG Fo _) (erc (erG G3 _) (erc (erG JK _) rfl)))) Ar) (G5 g8) (sp 3 rfl (evn (Af ((by cases h; exact ⟨.inl rfl,rfl⟩)))))
  ·refine qF rfl g6 (Ae (hK3 _ (rs (sp 1 rfl (?_)))))
   obtain ⟨v9,g10,h⟩:=Aa h
   refine qC (qa rfl (erg (erc (erG Fo _) (erc (erG G3 _) (erc (erG JK _) rfl)))) Ar) (G5 g10) (sp 2 rfl (evn (rn 2 rfl (Ac fun K11 hK11 => rn 1 rfl ?_))))
   obtain ⟨o2,hl,hr2⟩:=Aa h
   have kXB2 : ∀ {z12 : List Y53} {z13 : List Y43} {z14 : List Y43},(.inl (z12,z13,z14)) = o2 -> Jn K11 [(4,.box [oL 89 Aw [],oL 54 Ao [],oL 44 Av []]),(9,.box [oL 89 Aw v1.1,oL 54 Ao z12,oL 44 Av z13]),(10,oL 44 Av z14)]:=by
    intro z12 z13 z14 h σ' hk
    subst h
    replace h:=hr2
    try dsimp only at h
    exact hK11 _ (lh hk rfl (rn 1 rfl (Af ((by cases h; exact ⟨.inl rfl,rfl⟩)))))
   refine Ax (fun (s : (List Y53) × (List Y43) × (List Y43) × Int) => match s with | (y1,y2,y3,y4) => [(2,.box [aL HK a0.1,aL E0 a0.2.1,aL JH a0.2.2]),(3,.box [.str a1.1,nI a1.2.1.1,aL IOQ a1.2.1.2,nI a1.2.2.1,aL IOQ a1.2.2.2]),(4,.box [oL 89 Aw [],oL 54 Ao [],oL 44 Av []]),(9,.box [oL 89 Aw v1.1,oL 54 Ao y1,oL 44 Av y2]),(10,oL 44 Av y3),(40,aL E0 a0.2.1),(41,nI (List.length a0.2.1 : Int)),(42,nI y4)]) _ _ _ _ hl (okr rfl) (fun _ => rfl) ?_
   rintro m ⟨y1,y2,y3,y4⟩ N h hN
   unfold BM at h
   dsimp only at h
   refine rn 1 rfl (Ac fun K15 hK15 => ?_)
   rcases Ab h with ⟨g16,h⟩ | ⟨g16,h⟩
   ·refine qT rfl g16 (Ae (hK15 _ (Ac fun K17 hK17 => Au (rs (sp 1 rfl (?_))))))
    obtain ⟨e18,g19,h⟩:=Aa h
    refine qI rfl Lj g19 (sp 4 rfl (evn (rs (sp 5 rfl (?_)))))
    obtain ⟨v20,g21,h⟩:=Aa h
    refine qC (qa rfl (erg (erc (erG Fo _) rfl)) (qa rfl (erg (erc rfl (erc (erG Mc _) (erc (erG Am _) rfl)))) (qa rfl (erg (erc rfl (erc rfl (erc (erG FJ _) (erc rfl (erc (erG FJ _) rfl)))))) Ar))) (JZ g21) (sp 6 rfl (evn (rs (sp 4 rfl (?_)))))
    obtain ⟨v22,g23,h⟩:=Aa h
    refine qC (qa rfl (erg (erc rfl (erc (erG Mc _) (erc (erG Am _) (erc rfl (erc (erG FJ _) (erc (erG Am _) rfl))))))) (qa rfl (erg (erc (erG Fo _) rfl)) (qa rfl (erg (erc rfl (erc rfl (erc (erG FJ _) (erc rfl (erc (erG FJ _) rfl)))))) Ar))) (Lw g23) (sp 6 rfl (evn (qk [2,3,4,9,10,11,13,14,15,16,40,41,42] rfl (rd (by kernel_rfl) (sd 3 rfl (?_))))))
    obtain ⟨e24,g25,h⟩:=Aa h
    refine ed rfl (qI rfl SS g25 (sd 2 rfl (?_)))
    obtain ⟨v26,g27,h⟩:=Aa h
    refine ed rfl (qC (qa rfl (erg (erc rfl (erc (erG FJ _) (erc (erG Am _) rfl)))) (qa rfl (erg (erc rfl (erc (erD AS _) (erc (erD Am _) rfl)))) Ar)) (HP g27) (sd 6 rfl (BB (Ac fun K28 hK28 => rk fun K29 hK29 => ?_))))
    have kJ3 : ∀ {x30 : Bool},Bq (Al (BM a0 a1) m) a0 y1 y2 y3 y4 v20 v22 v26 x30 = some o2 -> Jn K29 [(2,.box [aL HK a0.1,aL E0 a0.2.1,aL JH a0.2.2]),(3,.box [.str a1.1,nI a1.2.1.1,aL IOQ a1.2.1.2,nI a1.2.2.1,aL IOQ a1.2.2.2]),(4,.box [oL 89 Aw [],oL 54 Ao [],oL 44 Av []]),(9,.box [oL 89 Aw v1.1,oL 54 Ao y1,oL 44 Av y2]),(10,oL 44 Av y3),(11,nI y4),(13,.box [nI v20.1.1,oL 42 Ag v20.1.2.1,oL 3 Aq v20.1.2.2]),(15,.box [nI v22.1.1.1,oL 112 Bb v22.1.1.2.1,oL 3 Aq v22.1.1.2.2,nI v22.1.2.1,oL 42 Ag v22.1.2.2.1,oL 3 Aq v22.1.2.2.2]),(17,.box [nI v26.1.1,oL 42 Ag v26.1.2.1,oL 3 Aq v26.1.2.2]),(40,aL E0 a0.2.1),(41,nI (List.length a0.2.1 : Int)),(42,nI y4),(83,.bool x30)]:=by
     intro x30 h σ' hk
     unfold Bq at h
     refine hK29 _ (lh hk rfl ?_)
     rcases Ab h with ⟨g31,h⟩ | ⟨g31,h⟩
     ·refine qT rfl g31 (rs (sp 1 rfl (?_)))
      obtain ⟨v32,g33,h⟩:=Aa h
      exact qC (qa rfl (erg (erc (erG Fo _) (erc (erG G3 _) (erc (erG JK _) rfl)))) Ar) (G5 g33) (sp 3 rfl (evn (Af ((by cases h; cases hr2; exact ⟨.inl rfl,rfl⟩)))))
     ·refine qF rfl g31 (Ae (hK28 _ (qk [2,3,4,9,10,11,13,15,17,40,41,42] rfl ?_)))
      obtain ⟨g34,h⟩:=Ah h
      refine Ih (gLb (q:=900003) (b:=9) [oL 89 Aw v1.1] [oL 44 Av y2] rfl rfl rfl g34 ?_)
      intro gg35 mm35
      refine qk [2,3,4,9,10,11,13,15,17,40,41,42,900003] rfl (rs (sp 4 rfl (?_)))
      obtain ⟨e36,g37,h⟩:=Aa h
      refine qIt rfl rfl rfl rfl g37 (?_)
      refine qSt (y0:=e36) (i:=y4) (es:=6) 0 v22.1 [2,3,4,9,10,11,13,17,40,41,42] rfl rfl rfl rfl rfl rfl rfl rfl rfl rfl FF g37 (fun x => sdL (Hc x)) (sdL (dcc rfl (dcc (dco O6 112 _) (dcc (dco (fun _ => rfl) 3 _) (dcc rfl (dcc (dco CH 42 _) (dcc (dco (fun _ => rfl) 3 _) dcn))))))) (yc (snc (sA (aca KA _)) (snc (sA (aca Hd _)) (snc (sA (aca Lu _)) rfl))) (yc (snc rfl (snc rfl (snc (sA (aca G4 _)) (snc rfl (snc (sA (aca G4 _)) rfl))))) (yc (snc rfl (snc rfl (snc rfl rfl))) (yc (snc (sO (dco Hl 89 _)) (snc rfl (snc (sO (dco FI 44 _)) rfl))) (yc (sdL (dcf FI _)) (yc rfl (yc (snc rfl (snc (sO (dco CH 42 _)) (snc (sO (dco (fun _ => rfl) 3 _)) rfl))) (yc (snc rfl (snc (sO (dco CH 42 _)) (snc (sO (dco (fun _ => rfl) 3 _)) rfl))) (yc (acf Hd _) (yc rfl (yc rfl yn))))))))))) (?_)
      refine evn (Ih (gDb (q:=900003) (b:=9) [oL 89 Aw v1.1] [oL 44 Av y2] rfl rfl rfl (sl rfl) (qk [2,3,4,9,10,11,13,17,40,41,42] rfl (qk [2,3,4,9,10,11,13,17,40,41,42] rfl ?_))))
      obtain ⟨g38,h⟩:=Ah h
      refine Ih (gLb (q:=900003) (b:=9) [oL 89 Aw v1.1,oL 54 Ao (It y1 y4 v22.1)] [] rfl rfl rfl g38 ?_)
      intro gg39 mm39
      refine qk [2,3,4,9,10,11,13,17,40,41,42,900003] rfl (rs (sp 4 rfl (?_)))
      obtain ⟨e40,g41,h⟩:=Aa h
      refine qIt rfl rfl rfl rfl g41 (?_)
      refine qSt (y0:=e40) (i:=y4) (es:=3) 0 v26.1 [2,3,4,9,10,13,40,41,42] rfl rfl rfl rfl rfl rfl rfl rfl rfl rfl Dw g41 (fun x => sdL (FI x)) (sdL (dcc rfl (dcc (dco CH 42 _) (dcc (dco (fun _ => rfl) 3 _) dcn)))) (yc (snc (sA (aca KA _)) (snc (sA (aca Hd _)) (snc (sA (aca Lu _)) rfl))) (yc (snc rfl (snc rfl (snc (sA (aca G4 _)) (snc rfl (snc (sA (aca G4 _)) rfl))))) (yc (snc rfl (snc rfl (snc rfl rfl))) (yc (snc (sO (dco Hl 89 _)) (snc (sO (dco Hc 54 _)) (snc rfl rfl))) (yc (sdL (dcf FI _)) (yc (snc rfl (snc (sO (dco CH 42 _)) (snc (sO (dco (fun _ => rfl) 3 _)) rfl))) (yc (acf Hd _) (yc rfl (yc rfl yn))))))))) (?_)
      refine evn (Ih (gDb (q:=900003) (b:=9) [oL 89 Aw v1.1,oL 54 Ao (It y1 y4 v22.1)] [] rfl rfl rfl (sl rfl) (qk [2,3,4,9,10,13,40,41,42] rfl (rg (sp 2 rfl (qBs Av [v20.1] rfl rfl rfl Dw (?_)))))))
      obtain ⟨g42,h⟩:=Ah h
      exact qA Av y3 [v20.1] rfl rfl (Ap Dw [v20.1]) rfl g42 (sp 1 rfl (evn (hK17 _ (rg (sp 2 rfl (evn (hN _ _ h (okr rfl))))))))
    refine sp 3 rfl (?_)
    rcases Ab h with ⟨g43,h⟩ | ⟨g43,h⟩
    ·exact qg 76 g43 rfl (sp 7 rfl (evn (kJ3 h _ (okr rfl))))
    ·refine qg 76 g43 rfl (sp 4 rfl (?_))
     rcases Ab h with ⟨g44,h⟩ | ⟨g44,h⟩
     ·exact qg 80 g44 rfl (sp 3 rfl (evn (kJ3 h _ (okr rfl))))
     ·exact qg 80 g44 rfl (sp 3 rfl (evn (kJ3 h _ (okr rfl))))
   ·exact qF rfl g16 (An (kXB2 (Option.some.inj h) _ (okr rfl)))
 refine sp 1 rfl (?_)
 obtain ⟨v45,g46,h⟩:=Aa h
 refine qC (qa rfl (erg (erc (erG Fo _) (erc (erG G3 _) (erc (erG JK _) rfl)))) Ar) (D0 g46) (sp 2 rfl (?_))
 rcases Ab h with ⟨g47,h⟩ | ⟨g47,h⟩
 ·exact qg 29 g47 rfl (sp 3 rfl (evn (kJ1 h _ (okr rfl))))
 ·exact qg 29 g47 rfl (sp 3 rfl (evn (kJ1 h _ (okr rfl))))
def D4 (a0 : List Y88) (a1 : List Y88) (rec : Int -> Option (Sum (Unit) (Bool))) (y1 : Int) : Option (Sum (Unit) (Bool)):=cond (decide (y1 < (List.length a0 : Int))) (Ad (AK a0 y1) fun e7 => Ad (AK a1 y1) fun e9 => cond (!(e7.1 == e9.1)) (some (.inr false)) (Ad (AK a0 y1) fun e12 => Ad (AK a1 y1) fun e14 => Ad (B6 e12.2 e14.2) fun v16 => cond (!v16) (some (.inr false)) (rec (IntKind.i64.wrap (y1 + 1))))) (some (.inl ()))
def DP (a0 : List Y88) (a1 : List Y88) : Option (Bool):=cond ((List.length a0 : Int) != (List.length a1 : Int)) (some false) (Ad (Al (D4 a0 a1) fz 0) fun o1 => (match o1 with
  | .inl _ => (some true)
  | .inr r => some r))
theorem Kq {a0 : List Y88} {a1 : List Y88} {r : Bool} (h : DP a0 a1 = some r) : Ai Tryz.prog 33 [.agg [dL AB a0],.agg [dL AB a1]] (.bool r):=by
 unfold DP at h
 refine st eU rfl (rn 1 rfl (Ac fun K1 hK1 => rn 1 rfl ?_))
 rcases Ab h with ⟨g2,h⟩ | ⟨g2,h⟩
 ·exact qT rfl g2 (rn 1 rfl (Af ((by cases h; exact ⟨.inl rfl,rfl⟩))))
 ·refine qF rfl g2 (Ae (hK1 _ (Ac fun K3 hK3 => rn 1 rfl ?_)))
  obtain ⟨o1,hl,hr1⟩:=Aa h
  have kXB1 : (.inl ()) = o1 -> Jn K3 []:=by
   intro h σ' hk
   subst h
   replace h:=hr1
   try dsimp only at h
   exact hK3 _ (lh hk rfl (rn 1 rfl (Af ((by cases h; exact ⟨.inl rfl,rfl⟩)))))
  refine Ax (fun (y1 : Int) => [(2,.box [dL AB a0]),(3,.box [dL AB a1]),(5,nI y1)]) _ _ _ _ hl (okr rfl) (fun _ => rfl) ?_
  rintro m y1 N h hN
  unfold D4 at h
  refine Ac fun K4 hK4 => rn 1 rfl ?_
  rcases Ab h with ⟨g5,h⟩ | ⟨g5,h⟩
  ·refine qT rfl g5 (Ae (hK4 _ (Ac fun K6 hK6 => Au (rd (by kernel_rfl) (sd 3 rfl (?_))))))
   obtain ⟨e7,g8,h⟩:=Aa h
   refine ed rfl (qI rfl Ee g8 (sd 5 rfl (?_)))
   obtain ⟨e9,g10,h⟩:=Aa h
   refine ed rfl (qI rfl Ee g10 (sd 4 rfl (?_)))
   rcases Ab h with ⟨g11,h⟩ | ⟨g11,h⟩
   ·exact qgd 33 g11 rfl (sd 15 rfl (BB (qT rfl rfl (rn 1 rfl (qk [4] rfl (Af ((by cases h; cases hr1; exact ⟨.inl rfl,rfl⟩))))))))
   ·refine qgd 33 g11 rfl (sd 3 rfl (?_))
    obtain ⟨e12,g13,h⟩:=Aa h
    refine ed rfl (oGR rfl rfl (qI rfl Ee g13 (sd 5 rfl (?_))))
    obtain ⟨e14,g15,h⟩:=Aa h
    refine ed rfl (oGR rfl rfl (qI rfl Ee g15 (sd 2 rfl (?_))))
    obtain ⟨v16,g17,h⟩:=Aa h
    refine ed rfl (oGR rfl rfl (qC (qa rfl (erg (erc rfl (erc (erD As _) rfl))) (qa rfl (erg (erc rfl (erc (erD As _) rfl))) Ar)) (Gl g17) (sd 2 rfl (BB ?_))))
    rcases Ab h with ⟨g18,h⟩ | ⟨g18,h⟩
    ·exact qT rfl g18 (rn 1 rfl (Af ((by cases h; cases hr1; exact ⟨.inl rfl,rfl⟩))))
    ·exact qF rfl g18 (Ae (hK6 _ (rg (sp 3 rfl (evn (hN _ _ h (okr rfl)))))))
  ·exact qF rfl g5 (An (kXB1 (Option.some.inj h) _ trivial))
def EY (a0 : Y51) (a1 : Y51) (rec : Int -> Option (Sum (Unit) (Bool))) (y1 : Int) : Option (Sum (Unit) (Bool)):=cond (decide (y1 < (List.length a0.2.1 : Int))) (Ad (AK a0.2.1 y1) fun e11 => Ad (AK a1.2.1 y1) fun e13 => cond (!(e11.1 == e13.1)) (some (.inr false)) (Ad (AK a0.2.1 y1) fun e16 => Ad (AK a1.2.1 y1) fun e18 => Ad (A5 e16.2 e18.2) fun v20 => cond (v20 != 0) (some (.inr false)) (rec (IntKind.i64.wrap (y1 + 1))))) (some (.inl ()))
def Fa (a0 : Y51) (a1 : Y51) : Option (Bool):=cond (a0.1 != a1.1) (some false) (Ad (A5 a0.2.2 a1.2.2) fun v3 => cond (v3 != 0) (some false) (cond ((List.length a0.2.1 : Int) != (List.length a1.2.1 : Int)) (some false) (Ad (Al (EY a0 a1) fz 0) fun o1 => (match o1 with
  | .inl _ => (some true)
  | .inr r => some r))))
theorem Lf {a0 : Y51} {a1 : Y51} {r : Bool} (h : Fa a0 a1 = some r) : Ai Tryz.prog 34 [.agg (Dg a0),.agg (Dg a1)] (.bool r):=by
 unfold Fa at h
 refine st eV rfl (rn 1 rfl (Ac fun K1 hK1 => rs (sp 6 rfl (?_))))
 rcases Ab h with ⟨g2,h⟩ | ⟨g2,h⟩
 ·exact qg 11 g2 rfl (sp 16 rfl (evn (qT rfl rfl (rn 1 rfl (Af ((by cases h; exact ⟨.inl rfl,rfl⟩)))))))
 ·refine qg 11 g2 rfl (sp 4 rfl (?_))
  obtain ⟨v3,g4,h⟩:=Aa h
  refine oGR rfl rfl (qC (qa rfl (erD Am _) (qa rfl (erD Am _) Ar)) (Bu g4) (sp 3 rfl (?_)))
  rcases Ab h with ⟨g5,h⟩ | ⟨g5,h⟩
  ·exact qg 19 g5 rfl (sp 8 rfl (evn (qk [2,3,27] rfl (qT rfl rfl (rn 1 rfl (Af ((by cases h; exact ⟨.inl rfl,rfl⟩))))))))
  ·refine qg 19 g5 rfl (sp 8 rfl (evn ?_))
   rcases Ab h with ⟨g6,h⟩ | ⟨g6,h⟩
   ·exact qT rfl g6 (rn 1 rfl (Af ((by cases h; exact ⟨.inl rfl,rfl⟩))))
   ·refine qF rfl g6 (Ae (hK1 _ (Ac fun K7 hK7 => rn 1 rfl ?_)))
    obtain ⟨o1,hl,hr1⟩:=Aa h
    have kXB1 : (.inl ()) = o1 -> Jn K7 []:=by
     intro h σ' hk
     subst h
     replace h:=hr1
     try dsimp only at h
     exact hK7 _ (lh hk rfl (rn 1 rfl (Af ((by cases h; exact ⟨.inl rfl,rfl⟩)))))
    refine Ax (fun (y1 : Int) => [(2,.box [nI a0.1,dL Bk a0.2.1,dL Aq a0.2.2]),(3,.box [nI a1.1,dL Bk a1.2.1,dL Aq a1.2.2]),(5,nI y1)]) _ _ _ _ hl (okr rfl) (fun _ => rfl) ?_
    rintro m y1 N h hN
    unfold EY at h
    refine Ac fun K8 hK8 => rn 1 rfl ?_
    rcases Ab h with ⟨g9,h⟩ | ⟨g9,h⟩
    ·refine qT rfl g9 (Ae (hK8 _ (Ac fun K10 hK10 => Au (rd (by kernel_rfl) (sd 3 rfl (?_))))))
     obtain ⟨e11,g12,h⟩:=Aa h
     refine ed rfl (qI rfl FE g12 (sd 5 rfl (?_)))
     obtain ⟨e13,g14,h⟩:=Aa h
     refine ed rfl (qI rfl FE g14 (sd 4 rfl (?_)))
     rcases Ab h with ⟨g15,h⟩ | ⟨g15,h⟩
     ·exact qgd 48 g15 rfl (sd 15 rfl (BB (qT rfl rfl (rn 1 rfl (qk [4] rfl (Af ((by cases h; cases hr1; exact ⟨.inl rfl,rfl⟩))))))))
     ·refine qgd 48 g15 rfl (sd 3 rfl (?_))
      obtain ⟨e16,g17,h⟩:=Aa h
      refine ed rfl (oGR rfl rfl (qI rfl FE g17 (sd 5 rfl (?_))))
      obtain ⟨e18,g19,h⟩:=Aa h
      refine ed rfl (oGR rfl rfl (qI rfl FE g19 (sd 2 rfl (?_))))
      obtain ⟨v20,g21,h⟩:=Aa h
      refine ed rfl (oGR rfl rfl (qC (qa rfl (erD Am _) (qa rfl (erD Am _) Ar)) (Bu g21) (sd 2 rfl (BB ?_))))
      rcases Ab h with ⟨g22,h⟩ | ⟨g22,h⟩
      ·exact qT rfl g22 (rn 1 rfl (Af ((by cases h; cases hr1; exact ⟨.inl rfl,rfl⟩))))
      ·exact qF rfl g22 (Ae (hK10 _ (rg (sp 3 rfl (evn (hN _ _ h (okr rfl)))))))
    ·exact qF rfl g9 (An (kXB1 (Option.some.inj h) _ trivial))
def D5 (a0 : Y29) (a1 : Y29) (rec : Int -> Option (Sum (Unit) (Bool))) (y1 : Int) : Option (Sum (Unit) (Bool)):=cond (decide (y1 < (List.length a0.2.1 : Int))) (Ad (AK a0.2.1 y1) fun e11 => Ad (AK a1.2.1 y1) fun e13 => Ad (Fa e11.1 e13.1) fun v15 => cond (!v15) (some (.inr false)) (Ad (AK a0.2.1 y1) fun e18 => Ad (AK a1.2.1 y1) fun e20 => Ad (Bp e18.2 e20.2) fun v22 => cond (!v22) (some (.inr false)) (rec (IntKind.i64.wrap (y1 + 1))))) (some (.inl ()))
def D6 (a0 : Y29) (a1 : Y29) (rec : Int -> Option (Sum (Unit) (Bool))) (y2 : Int) : Option (Sum (Unit) (Bool)):=cond (decide (y2 < (List.length a0.2.2 : Int))) (Ad (AK a0.2.2 y2) fun e29 => Ad (AK a1.2.2 y2) fun e31 => Ad (Bp e29 e31) fun v33 => cond (!v33) (some (.inr false)) (rec (IntKind.i64.wrap (y2 + 1)))) (some (.inl ()))
def DQ (a0 : Y29) (a1 : Y29) : Option (Bool):=Ad (DP a0.1 a1.1) fun v2 => cond (!v2) (some false) (cond ((List.length a0.2.1 : Int) != (List.length a1.2.1 : Int)) (some false) (cond ((List.length a0.2.2 : Int) != (List.length a1.2.2 : Int)) (some false) (Ad (Al (D5 a0 a1) fz 0) fun o1 => (match o1 with
  | .inl _ => (Ad (Al (D6 a0 a1) fz 0) fun o2 => (match o2 with
  | .inl _ => (some true)
  | .inr r => some r))
  | .inr r => some r))))
theorem Kr {a0 : Y29} {a1 : Y29} {r : Bool} (h : DQ a0 a1 = some r) : Ai Tryz.prog 10 [.agg (AL a0),.agg (AL a1)] (.bool r):=by
 unfold DQ at h
 refine st eo rfl (rn 1 rfl (Ac fun K1 hK1 => rs (sp 4 rfl (?_))))
 obtain ⟨v2,g3,h⟩:=Aa h
 refine qC (qa rfl (erg (erc (erD AM _) rfl)) (qa rfl (erg (erc (erD AM _) rfl)) Ar)) (Kq g3) (sp 2 rfl (?_))
 rcases Ab h with ⟨g4,h⟩ | ⟨g4,h⟩
 ·exact qg 13 g4 rfl (sp 17 rfl (evn (qT rfl rfl (rn 1 rfl (Af ((by cases h; exact ⟨.inl rfl,rfl⟩)))))))
 ·refine qg 13 g4 rfl (sp 9 rfl (?_))
  rcases Ab h with ⟨g5,h⟩ | ⟨g5,h⟩
  ·exact qg 22 g5 rfl (sp 8 rfl (evn (qk [2,3,30] rfl (qT rfl rfl (rn 1 rfl (Af ((by cases h; exact ⟨.inl rfl,rfl⟩))))))))
  ·refine qg 22 g5 rfl (sp 8 rfl (evn ?_))
   rcases Ab h with ⟨g6,h⟩ | ⟨g6,h⟩
   ·exact qT rfl g6 (rn 1 rfl (Af ((by cases h; exact ⟨.inl rfl,rfl⟩))))
   ·refine qF rfl g6 (Ae (hK1 _ (Ac fun K7 hK7 => rn 1 rfl ?_)))
    obtain ⟨o1,hl,hr1⟩:=Aa h
    have kXB1 : (.inl ()) = o1 -> Jn K7 [(2,.box [dL AB a0.1,dL AV a0.2.1,dL A7 a0.2.2]),(3,.box [dL AB a1.1,dL AV a1.2.1,dL A7 a1.2.2])]:=by
     intro h σ' hk
     subst h
     replace h:=hr1
     try dsimp only at h
     refine hK7 _ (lh hk rfl (Ac fun K25 hK25 => rn 1 rfl ?_))
     obtain ⟨o2,hl,hr2⟩:=Aa h
     have kXB2 : (.inl ()) = o2 -> Jn K25 []:=by
      intro h σ' hk
      subst h
      replace h:=hr2
      try dsimp only at h
      exact hK25 _ (lh hk rfl (rn 1 rfl (Af ((by cases h; exact ⟨.inl rfl,rfl⟩)))))
     refine Ax (fun (y2 : Int) => [(2,.box [dL AB a0.1,dL AV a0.2.1,dL A7 a0.2.2]),(3,.box [dL AB a1.1,dL AV a1.2.1,dL A7 a1.2.2]),(6,nI y2)]) _ _ _ _ hl (okr rfl) (fun _ => rfl) ?_
     rintro m y2 N h hN
     unfold D6 at h
     refine Ac fun K26 hK26 => rn 1 rfl ?_
     rcases Ab h with ⟨g27,h⟩ | ⟨g27,h⟩
     ·refine qT rfl g27 (Ae (hK26 _ (Ac fun K28 hK28 => Au (rd (by kernel_rfl) (sd 3 rfl (?_))))))
      obtain ⟨e29,g30,h⟩:=Aa h
      refine ed rfl (qI rfl JY g30 (sd 4 rfl (?_)))
      obtain ⟨e31,g32,h⟩:=Aa h
      refine ed rfl (qI rfl JY g32 (sd 1 rfl (?_)))
      obtain ⟨v33,g34,h⟩:=Aa h
      refine ed rfl (qC (qa rfl (erg (erc rfl (erc (erD As _) (erc (erD Am _) rfl)))) (qa rfl (erg (erc rfl (erc (erD As _) (erc (erD Am _) rfl)))) Ar)) (CR g34) (sd 1 rfl (BB ?_)))
      rcases Ab h with ⟨g35,h⟩ | ⟨g35,h⟩
      ·exact qT rfl g35 (rn 1 rfl (Af ((by cases h; cases hr2; exact ⟨.inl rfl,rfl⟩))))
      ·exact qF rfl g35 (Ae (hK28 _ (rg (sp 3 rfl (evn (hN _ _ h (okr rfl)))))))
     ·exact qF rfl g27 (An (kXB2 (Option.some.inj h) _ trivial))
    refine Ax (fun (y1 : Int) => [(2,.box [dL AB a0.1,dL AV a0.2.1,dL A7 a0.2.2]),(3,.box [dL AB a1.1,dL AV a1.2.1,dL A7 a1.2.2]),(5,nI y1)]) _ _ _ _ hl (okr rfl) (fun _ => rfl) ?_
    rintro m y1 N h hN
    unfold D5 at h
    refine Ac fun K8 hK8 => rn 1 rfl ?_
    rcases Ab h with ⟨g9,h⟩ | ⟨g9,h⟩
    ·refine qT rfl g9 (Ae (hK8 _ (Ac fun K10 hK10 => Au (rd (by kernel_rfl) (sd 3 rfl (?_))))))
     obtain ⟨e11,g12,h⟩:=Aa h
     refine ed rfl (qI rfl EQ g12 (sd 5 rfl (?_)))
     obtain ⟨e13,g14,h⟩:=Aa h
     refine ed rfl (qI rfl EQ g14 (sd 2 rfl (?_)))
     obtain ⟨v15,g16,h⟩:=Aa h
     refine ed rfl (qC (qa rfl (erg (erc rfl (erc (erD Bl _) (erc (erD Am _) rfl)))) (qa rfl (erg (erc rfl (erc (erD Bl _) (erc (erD Am _) rfl)))) Ar)) (Lf g16) (sd 2 rfl (?_)))
     rcases Ab h with ⟨g17,h⟩ | ⟨g17,h⟩
     ·exact qgd 52 g17 rfl (sd 15 rfl (BB (qk [2,3,5,67] rfl (qT rfl rfl (rn 1 rfl (Af ((by cases h; cases hr1; exact ⟨.inl rfl,rfl⟩))))))))
     ·refine qgd 52 g17 rfl (sd 3 rfl (?_))
      obtain ⟨e18,g19,h⟩:=Aa h
      refine ed rfl (oGR rfl rfl (qI rfl EQ g19 (sd 5 rfl (?_))))
      obtain ⟨e20,g21,h⟩:=Aa h
      refine ed rfl (oGR rfl rfl (qI rfl EQ g21 (sd 2 rfl (?_))))
      obtain ⟨v22,g23,h⟩:=Aa h
      refine ed rfl (oGR rfl rfl (qC (qa rfl (erg (erc rfl (erc (erD As _) (erc (erD Am _) rfl)))) (qa rfl (erg (erc rfl (erc (erD As _) (erc (erD Am _) rfl)))) Ar)) (CR g23) (sd 2 rfl (BB ?_))))
      rcases Ab h with ⟨g24,h⟩ | ⟨g24,h⟩
      ·exact qT rfl g24 (rn 1 rfl (Af ((by cases h; cases hr1; exact ⟨.inl rfl,rfl⟩))))
      ·exact qF rfl g24 (Ae (hK10 _ (rg (sp 3 rfl (evn (hN _ _ h (okr rfl)))))))
    ·exact qF rfl g9 (An (kXB1 (Option.some.inj h) _ (okr rfl)))
def Ev (a0 : Y43) (rec : Int -> Option (Sum (Unit) (Y32 × Bool))) (y1 : Int) : Option (Sum (Unit) (Y32 × Bool)):=cond (decide (y1 < (List.length a0.2.2 : Int))) (Ad (AK a0.2.2 y1) fun e9 => cond (decide (e9 < 0)) (some (.inr ((0,[]),false))) (rec (IntKind.i64.wrap (y1 + 1)))) (some (.inl ()))
def Eu (a0 : Y43) : Option (Y32 × Bool):=Ad (AX a0) fun v2 => cond (!v2) (some ((0,[]),false)) (Ad (Al (Ev a0) fz 0) fun o1 => (match o1 with
  | .inl _ => (Ad (CU a0.2.1) fun v12 => some ((a0.1,v12),true))
  | .inr r => some r))
theorem KI {a0 : Y43} {r : Y32 × Bool} (h : Eu a0 = some r) : Ai Tryz.prog 86 [.agg (A7 a0)] (.tup [.agg (GI r.1),.bool r.2]):=by
 unfold Eu at h
 refine st ga rfl (rn 1 rfl (Ac fun K1 hK1 => rs (sp 1 rfl (?_))))
 obtain ⟨v2,g3,h⟩:=Aa h
 refine qC (qa rfl (erg (erc rfl (erc (erD As _) (erc (erD Am _) rfl)))) Ar) (Cc g3) (sp 1 rfl (evn ?_))
 rcases Ab h with ⟨g4,h⟩ | ⟨g4,h⟩
 ·exact qT rfl g4 (rn 1 rfl (Af ((by cases h; exact ⟨.inl rfl,rfl⟩))))
 ·refine qF rfl g4 (Ae (hK1 _ (Ac fun K5 hK5 => rn 1 rfl ?_)))
  obtain ⟨o1,hl,hr1⟩:=Aa h
  have kXB1 : (.inl ()) = o1 -> Jn K5 [(1,.box [nI a0.1,dL AG a0.2.1,dL Aq a0.2.2]),(2,.box [nI 0,oL 42 Ag []])]:=by
   intro h σ' hk
   subst h
   replace h:=hr1
   try dsimp only at h
   refine hK5 _ (lh hk rfl (rd (by kernel_rfl) (sd 4 rfl (?_))))
   obtain ⟨v12,g13,h⟩:=Aa h
   exact ed rfl (qC (qa rfl (erD As _) Ar) (E5 g13) (sd 3 rfl (BB (Af ((by cases h; exact ⟨.inl rfl,rfl⟩))))))
  refine Ax (fun (y1 : Int) => [(1,.box [nI a0.1,dL AG a0.2.1,dL Aq a0.2.2]),(2,.box [nI 0,oL 42 Ag []]),(11,dL Aq a0.2.2),(12,nI (List.length a0.2.2 : Int)),(13,nI y1)]) _ _ _ _ hl (okr rfl) (fun _ => rfl) ?_
  rintro m y1 N h hN
  unfold Ev at h
  refine rn 1 rfl (Ac fun K6 hK6 => ?_)
  rcases Ab h with ⟨g7,h⟩ | ⟨g7,h⟩
  ·refine qT rfl g7 (Ae (hK6 _ (Ac fun K8 hK8 => Au (rs ?_))))
   obtain ⟨e9,g10,h⟩:=Aa h
   refine qI rfl AH g10 (sp 2 rfl (evn (rn 1 rfl ?_)))
   rcases Ab h with ⟨g11,h⟩ | ⟨g11,h⟩
   ·exact qT rfl g11 (rn 1 rfl (Af ((by cases h; cases hr1; exact ⟨.inl rfl,rfl⟩))))
   ·exact qF rfl g11 (Ae (hK8 _ (rg (sp 2 rfl (evn (hN _ _ h (okr rfl)))))))
  ·exact qF rfl g7 (An (kXB1 (Option.some.inj h) _ (okr rfl)))
def IE (a0 : Y53) : Option (Y32 × Bool):=Ad (Eu a0.2) fun v1 => some (v1.1,v1.2)
theorem NG {a0 : Y53} {r : Y32 × Bool} (h : IE a0 = some r) : Ai Tryz.prog 38 [.agg (AV a0)] (.tup [.agg (GI r.1),.bool r.2]):=by
 unfold IE at h
 refine st eZ rfl (rn 1 rfl (rs (sp 2 rfl (?_))))
 obtain ⟨v1,g2,h⟩:=Aa h
 exact qC (qa rfl (erg (erc rfl (erc (erD As _) (erc (erD Am _) rfl)))) Ar) (KI g2) (sp 4 rfl (evn (Af ((by cases h; exact ⟨.inl rfl,rfl⟩)))))
def Eg (a0 : Y29) (a1 : Int) : Option (Y32 × Bool):=Ad (Be a0) fun v2 => cond (!v2) (some ((0,[]),false)) (Ad (Ck a1 0 (IntKind.i64.wrap ((List.length a0.2.1 : Int) - 1))) fun v5 => cond (!v5) (some ((0,[]),false)) (Ad (AK a0.2.1 a1) fun e8 => Ad (IE e8) fun v10 => some (v10.1,v10.2)))
theorem Lz {a0 : Y29} {a1 : Int} {r : Y32 × Bool} (h : Eg a0 a1 = some r) : Ai Tryz.prog 12 [.agg (AL a0),nI a1] (.tup [.agg (GI r.1),.bool r.2]):=by
 unfold Eg at h
 refine st ew rfl (rn 1 rfl (Ac fun K1 hK1 => rs (sp 1 rfl (?_))))
 obtain ⟨v2,g3,h⟩:=Aa h
 refine qC (qa rfl (erg (erc (erD AM _) (erc (erD JL _) (erc (erD Hm _) rfl)))) Ar) (D0 g3) (sp 2 rfl (?_))
 rcases Ab h with ⟨g4,h⟩ | ⟨g4,h⟩
 ·exact qg 9 g4 rfl (sp 8 rfl (evn (qT rfl rfl (rn 1 rfl (Af ((by cases h; exact ⟨.inl rfl,rfl⟩)))))))
 ·refine qg 9 g4 rfl (sp 5 rfl (?_))
  obtain ⟨v5,g6,h⟩:=Aa h
  refine oGR rfl rfl (qC (qs rfl (qs rfl (qs rfl Ar))) (CY g6) (sp 2 rfl (evn ?_)))
  rcases Ab h with ⟨g7,h⟩ | ⟨g7,h⟩
  ·exact qT rfl g7 (rn 1 rfl (qk [4,5] rfl (Af ((by cases h; exact ⟨.inl rfl,rfl⟩)))))
  ·refine qF rfl g7 (Ae (hK1 _ (rs (sp 3 rfl (?_)))))
   obtain ⟨e8,g9,h⟩:=Aa h
   refine qI rfl EQ g9 (sp 1 rfl (?_))
   obtain ⟨v10,g11,h⟩:=Aa h
   exact qC (qa rfl (erg (erc rfl (erc (erD Bl _) (erc (erD Am _) (erc rfl (erc (erD As _) (erc (erD Am _) rfl))))))) Ar) (NG g11) (sp 4 rfl (evn (Af ((by cases h; exact ⟨.inl rfl,rfl⟩)))))
def Hy (a0 : Y32) (a1 : List Int) (rec : Int -> Option (Sum (Unit) (Y32 × Bool))) (y1 : Int) : Option (Sum (Unit) (Y32 × Bool)):=cond (decide (y1 < (List.length a1 : Int))) (Ad (AK a1 y1) fun e5 => Ad (Du e5 0 (IntKind.i64.wrap (a0.1 - 1))) fun v7 => cond (!v7) (some (.inr ((0,[]),false))) (rec (IntKind.i64.wrap (y1 + 1)))) (some (.inl ()))
def Gm (a0 : Y32) (a1 : List Int) (rec : ((List (List Int)) × Int) -> Option ((List (List Int)))) (s : (List (List Int)) × Int) : Option ((List (List Int))):=match s with
  | (y2,y3) => cond (decide (y3 < (List.length a0.2 : Int))) (Ad (AK a0.2 y3) fun e20 => Ad (HX e20 a1) fun v22 => chk (List.length y2 + List.length [v22] <= lim) (rec ((y2 ++ [v22]),(IntKind.i64.wrap (y3 + 1))))) (some y2)
def Im (a0 : Y32) (a1 : List Int) : Option (Y32 × Bool):=Ad (Al (Hy a0 a1) fz 0) fun o1 => (match o1 with
  | .inl _ => (Ad (AD a0) fun v11 => cond (!v11) (some ((0,[]),false)) (cond (decide (5 < (List.length a1 : Int))) (some ((0,[]),false)) (Ad (Al (Gm a0 a1) fz (([] : List (List Int)),0)) fun z16 => Ad (B3 (List.length a1 : Int) z16) fun v25 => some (v25.1,v25.2))))
  | .inr r => some r)
theorem Ot {a0 : Y32} {a1 : List Int} {r : Y32 × Bool} (h : Im a0 a1 = some r) : Ai Tryz.prog 41 [.agg (ER a0),dL Aq a1] (.tup [.agg (GI r.1),.bool r.2]):=by
 unfold Im at h
 refine st fc rfl (rn 1 rfl (Ac fun K1 hK1 => rn 1 rfl ?_))
 obtain ⟨o1,hl,hr1⟩:=Aa h
 have kXB1 : (.inl ()) = o1 -> Jn K1 [(1,dL Aq a1),(2,.box [nI a0.1,dL AG a0.2]),(4,.box [nI 0,oL 42 Ag []])]:=by
  intro h σ' hk
  subst h
  replace h:=hr1
  try dsimp only at h
  refine hK1 _ (lh hk rfl (Ac fun K10 hK10 => rs (sp 1 rfl (?_))))
  obtain ⟨v11,g12,h⟩:=Aa h
  refine qC (qa rfl (erg (erc rfl (erc (erD As _) rfl))) Ar) (AJ g12) (sp 2 rfl (?_))
  rcases Ab h with ⟨g13,h⟩ | ⟨g13,h⟩
  ·exact qg 30 g13 rfl (sp 4 rfl (evn (qT rfl rfl (rn 1 rfl (Af ((by cases h; exact ⟨.inl rfl,rfl⟩)))))))
  ·refine qg 30 g13 rfl (sp 4 rfl (evn ?_))
   rcases Ab h with ⟨g14,h⟩ | ⟨g14,h⟩
   ·exact qT rfl g14 (rn 1 rfl (Af ((by cases h; exact ⟨.inl rfl,rfl⟩))))
   ·refine qF rfl g14 (Ae (hK10 _ (rs (qBs Ag [] rfl rfl rfl AW (sp 1 rfl (evn (Ac fun K15 hK15 => rn 1 rfl (qk [1,2,4,7,8] rfl ?_))))))))
    obtain ⟨o2,hl,hr2⟩:=Aa h
    have kXB2 : ∀ {z16 : List (List Int)},z16 = o2 -> Jn K15 [(1,dL Aq a1),(4,.box [nI 0,oL 42 Ag []]),(7,oL 42 Ag z16)]:=by
     intro z16 h σ' hk
     subst h
     replace h:=hr2
     try dsimp only at h
     refine hK15 _ (lh hk rfl (rs (sp 3 rfl (?_))))
     obtain ⟨v25,g26,h⟩:=Aa h
     exact qC (qs rfl (qa rfl (erD AS _) Ar)) (EF g26) (sp 6 rfl (evn (rn 1 rfl (Af ((by cases h; exact ⟨.inl rfl,rfl⟩))))))
    refine Ax (fun (s : (List (List Int)) × Int) => match s with | (y2,y3) => [(1,dL Aq a1),(2,.box [nI a0.1,dL AG a0.2]),(4,.box [nI 0,oL 42 Ag []]),(7,oL 42 Ag y2),(8,nI y3)]) _ _ _ _ hl (okr rfl) (fun _ => rfl) ?_
    rintro m ⟨y2,y3⟩ N h hN
    unfold Gm at h
    dsimp only at h
    refine Ac fun K17 hK17 => rn 1 rfl ?_
    rcases Ab h with ⟨g18,h⟩ | ⟨g18,h⟩
    ·refine qT rfl g18 (Ae (hK17 _ (Ac fun K19 hK19 => Au (rg (sp 4 rfl (?_))))))
     obtain ⟨e20,g21,h⟩:=Aa h
     refine qI rfl Bv g21 (sp 2 rfl (?_))
     obtain ⟨v22,g23,h⟩:=Aa h
     refine qC (qa rfl (erD Am _) (qa rfl (erD Am _) Ar)) (LW g23) (qBs Ag [v22] rfl rfl rfl AW (?_))
     obtain ⟨g24,h⟩:=Ah h
     exact qA Ag y2 [v22] rfl rfl (Ap AW [v22]) rfl g24 (sp 1 rfl (evn (hK19 _ (rg (sp 3 rfl (evn (hN _ _ h (okr rfl))))))))
    ·exact qF rfl g18 (An (kXB2 (Option.some.inj h) _ (okr rfl)))
 refine Ax (fun (y1 : Int) => [(1,dL Aq a1),(2,.box [nI a0.1,dL AG a0.2]),(4,.box [nI 0,oL 42 Ag []]),(6,nI y1)]) _ _ _ _ hl (okr rfl) (fun _ => rfl) ?_
 rintro m y1 N h hN
 unfold Hy at h
 refine Ac fun K2 hK2 => rn 1 rfl ?_
 rcases Ab h with ⟨g3,h⟩ | ⟨g3,h⟩
 ·refine qT rfl g3 (Ae (hK2 _ (Ac fun K4 hK4 => Au (rd (by kernel_rfl) (sd 2 rfl (?_))))))
  obtain ⟨e5,g6,h⟩:=Aa h
  refine ed rfl (qI rfl AH g6 (sd 4 rfl (?_)))
  obtain ⟨v7,g8,h⟩:=Aa h
  refine ed rfl (qC (qs rfl (qs rfl (qs rfl Ar))) (Dj g8) (sd 1 rfl (BB ?_)))
  rcases Ab h with ⟨g9,h⟩ | ⟨g9,h⟩
  ·exact qT rfl g9 (rn 1 rfl (Af ((by cases h; cases hr1; exact ⟨.inl rfl,rfl⟩))))
  ·exact qF rfl g9 (Ae (hK4 _ (rg (sp 3 rfl (evn (hN _ _ h (okr rfl)))))))
 ·exact qF rfl g3 (An (kXB1 (Option.some.inj h) _ (okr rfl)))
def EB (a0 : List Y88) (a1 : Y51) : Option (Y32 × Bool):=Ad (BZ a0 a1) fun v1 => Ad (DR a0 a1) fun v4 => cond (!v4) (some ((0,[]),false)) (cond (v1.1 != a1.1) (some ((0,[]),false)) (Ad (Im v1 a1.2.2) fun v8 => some (v8.1,v8.2)))
theorem KL {a0 : List Y88} {a1 : Y51} {r : Y32 × Bool} (h : EB a0 a1 = some r) : Ai Tryz.prog 13 [.agg [dL AB a0],.agg (Dg a1)] (.tup [.agg (GI r.1),.bool r.2]):=by
 unfold EB at h
 refine st ey rfl (rn 1 rfl (rs (sp 2 rfl (?_))))
 obtain ⟨v1,g2,h⟩:=Aa h
 refine qC (qa rfl (erg (erc (erD AM _) rfl)) (qa rfl (erg (erc rfl (erc (erD Bl _) (erc (erD Am _) rfl)))) Ar)) (Jb g2) (sp 2 rfl (evn (Ac fun K3 hK3 => rs (sp 2 rfl (?_)))))
 obtain ⟨v4,g5,h⟩:=Aa h
 refine qC (qa rfl (erg (erc (erD AM _) rfl)) (qa rfl (erg (erc rfl (erc (erD Bl _) (erc (erD Am _) rfl)))) Ar)) (HV g5) (sp 2 rfl (?_))
 rcases Ab h with ⟨g6,h⟩ | ⟨g6,h⟩
 ·exact qg 16 g6 rfl (sp 6 rfl (evn (qT rfl rfl (rn 1 rfl (Af ((by cases h; exact ⟨.inl rfl,rfl⟩)))))))
 ·refine qg 16 g6 rfl (sp 6 rfl (evn ?_))
  rcases Ab h with ⟨g7,h⟩ | ⟨g7,h⟩
  ·exact qT rfl g7 (rn 1 rfl (qk [4,5] rfl (Af ((by cases h; exact ⟨.inl rfl,rfl⟩)))))
  ·refine qF rfl g7 (Ae (hK3 _ (rs (sp 3 rfl (?_)))))
   obtain ⟨v8,g9,h⟩:=Aa h
   exact qC (qa rfl (erg (erc rfl (erc (erD AS _) rfl))) (qa rfl (erD Am _) Ar)) (Ot g9) (sp 6 rfl (evn (rn 1 rfl (Af ((by cases h; exact ⟨.inl rfl,rfl⟩))))))
def BH (v5 : Y29 × Y34) (v7 : Y29 × (List Y43) × Bool) (v9 : Y29 × (List Y43) × Bool) (rec : Int -> Option (Sum (Unit) (Bool))) (y1 : Int) : Option (Sum (Unit) (Bool)):=cond (decide (y1 < (List.length v7.2.1 : Int))) (Ad (AK v5.1.2.2 y1) fun e21 => Ad (AK v7.2.1 y1) fun e23 => Ad (Cl e21 e23) fun v25 => Ad (Eg v7.1 y1) fun v27 => Ad (AK v5.1.2.1 y1) fun e29 => Ad (EB v7.1.1 e29.1) fun v31 => Ad (AK v7.2.1 y1) fun e33 => Ad (AK v9.2.1 y1) fun e35 => Ad (Bp e33 e35) fun v37 => cond (!v37) (some (.inr false)) (cond (!v27.2) (some (.inr false)) (Ad (B6 v27.1 v31.1) fun v41 => cond (!v41) (some (.inr false)) (cond ((List.length v7.1.2.2 : Int) != (List.length v7.2.1 : Int)) (some (.inr false)) (Ad (AK v7.1.2.2 y1) fun e45 => Ad (Bp v25.1 e45) fun v47 => cond (!v47) (some (.inr false)) (rec (IntKind.i64.wrap (y1 + 1)))))))) (some (.inl ()))
def BI (x51 : Bool) : Option (Bool):=some x51
def AY (v5 : Y29 × Y34) (v7 : Y29 × (List Y43) × Bool) (v9 : Y29 × (List Y43) × Bool) (x13 : Bool) : Option (Bool):=cond x13 (some false) (cond (!v7.2.2) (some ((List.length v7.2.1 : Int) == 0)) (Ad (Al (BH v5 v7 v9) fz 0) fun o2 => (match o2 with
  | .inl _ => (Ad (A3 v7.1) fun v52 => cond v52 (Ad (Be v7.1) fun v55 => cond v55 (BI ((List.length v7.2.1 : Int) == (List.length v5.1.2.1 : Int))) (BI false)) (BI false))
  | .inr r => some r)))
def Do (a0 : List Int) : Option (Bool):=Ad (LB a0) fun v2 => cond v2 (some true) (Ad (C5 a0) fun v5 => Ad (E4 v5.1 v5.2) fun v7 => Ad (DE v5.1 v5.2) fun v9 => cond (!(v7.2.2 == v9.2.2)) (AY v5 v7 v9 true) (cond ((List.length v7.2.1 : Int) != (List.length v9.2.1 : Int)) (AY v5 v7 v9 true) (Ad (Be v5.1) fun v60 => Ad (A3 v5.1) fun v62 => cond (!(v60 == v62)) (AY v5 v7 v9 true) (cond (!v7.2.2) (Ad (DQ v7.1 v5.1) fun v66 => AY v5 v7 v9 (!v66)) (AY v5 v7 v9 false)))))
theorem J6 {a0 : List Int} {r : Bool} (h : Do a0 = some r) : Ai Tryz.prog 3 [dL cu8 a0] (.bool r):=by
 unfold Do at h
 refine sta iL rfl (OX (F9 (fun _ => rfl) _) rfl) (mvv (J8 (fun _ => rfl) _) rfl) rfl (rn 1 rfl (Ac fun K1 hK1 => rs (sp 1 rfl (?_))))
 obtain ⟨v2,g3,h⟩:=Aa h
 refine qC (qa rfl (erG dP _) Ar) (Tk g3) (evn ?_)
 rcases Ab h with ⟨g4,h⟩ | ⟨g4,h⟩
 ·exact qT rfl g4 (rn 1 rfl (Af ((by cases h; exact ⟨.inl rfl,rfl⟩))))
 ·refine qF rfl g4 (Ae (hK1 _ (rs (sp 1 rfl (?_)))))
  obtain ⟨v5,g6,h⟩:=Aa h
  refine qCk rfl rfl (JS g6) (sp 7 rfl (evn (rs (sp 2 rfl (?_)))))
  obtain ⟨v7,g8,h⟩:=Aa h
  refine qC (qa rfl (erg (erc (erD DF _) (erc (erD Ci _) (erc (erD Hm _) rfl)))) (qa rfl (erg (erc rfl (erc rfl (erc (erD AS _) (erc rfl (erc (erD As _) rfl)))))) Ar)) (La g8) (sp 8 rfl (evn (qk [3,4,5,6,7] rfl (rs (sp 2 rfl (?_))))))
  obtain ⟨v9,g10,h⟩:=Aa h
  refine qC (qa rfl (erg (erc (erD DF _) (erc (erD Ci _) (erc (erD Hm _) rfl)))) (qa rfl (erg (erc rfl (erc rfl (erc (erD AS _) (erc rfl (erc (erD As _) rfl)))))) Ar)) (IW g10) (sp 8 rfl (evn (Ac fun K11 hK11 => rdk (by kernel_rfl) fun K12 hK12 => ?_)))
  have kJ1 : ∀ {x13 : Bool},AY v5 v7 v9 x13 = some r -> Jn K12 [(3,.box [dL Aw v5.1.1,dL Ao v5.1.2.1,dL A7 v5.1.2.2]),(5,.box [oL 89 Aw v7.1.1,oL 54 Ao v7.1.2.1,oL 44 Av v7.1.2.2]),(6,oL 44 Av v7.2.1),(7,.bool v7.2.2),(9,oL 44 Av v9.2.1),(65,.bool x13)]:=by
   intro x13 h σ' hk
   unfold AY at h
   refine hK12 _ (lh hk rfl ?_)
   rcases Ab h with ⟨g14,h⟩ | ⟨g14,h⟩
   ·exact qT rfl g14 (rn 1 rfl (Af ((by cases h; exact ⟨.inl rfl,rfl⟩))))
   ·refine qF rfl g14 (Ae (hK11 _ (Ac fun K15 hK15 => rn 1 rfl ?_)))
    rcases Ab h with ⟨g16,h⟩ | ⟨g16,h⟩
    ·exact qT rfl g16 (rn 1 rfl (Af ((by cases h; exact ⟨.inl rfl,rfl⟩))))
    ·refine qF rfl g16 (Ae (hK15 _ (Ac fun K17 hK17 => rn 1 rfl ?_)))
     obtain ⟨o2,hl,hr2⟩:=Aa h
     have kXB2 : (.inl ()) = o2 -> Jn K17 [(3,.box [dL Aw v5.1.1,dL Ao v5.1.2.1,dL A7 v5.1.2.2]),(5,.box [oL 89 Aw v7.1.1,oL 54 Ao v7.1.2.1,oL 44 Av v7.1.2.2]),(6,oL 44 Av v7.2.1)]:=by
      intro h σ' hk
      subst h
      replace h:=hr2
      try dsimp only at h
      refine hK17 _ (lh hk rfl (rk fun K50 hK50 => ?_))
      have kJ3 : ∀ {x51 : Bool},BI x51 = some r -> Jn K50 [(2,.bool x51)]:=by
       intro x51 h σ' hk
       unfold BI at h
       exact hK50 _ (lh hk rfl (Af ((by cases h; exact ⟨.inl rfl,rfl⟩))))
      refine sp 1 rfl (?_)
      obtain ⟨v52,g53,h⟩:=Aa h
      refine qC (qa rfl (erg (erc (erD DF _) (erc (erD Ci _) (erc (erD Hn _) rfl)))) Ar) (D9 g53) (sp 1 rfl (?_))
      rcases Ab h with ⟨g54,h⟩ | ⟨g54,h⟩
      ·refine qg 148 g54 rfl (sp 1 rfl (?_))
       obtain ⟨v55,g56,h⟩:=Aa h
       refine oGR rfl rfl (qC (qa rfl (erg (erc (erD DF _) (erc (erD Ci _) (erc (erD Hn _) rfl)))) Ar) (D0 g56) (sp 2 rfl (?_)))
       rcases Ab h with ⟨g57,h⟩ | ⟨g57,h⟩
       ·exact qg 152 g57 rfl (sp 8 rfl (evn (kJ3 h _ (okr rfl))))
       ·exact qg 152 g57 rfl (sp 8 rfl (evn (kJ3 h _ (okr rfl))))
      ·exact qg 148 g54 rfl (sp 12 rfl (evn (kJ3 h _ (okr rfl))))
     refine Ax (fun (y1 : Int) => [(3,.box [dL Aw v5.1.1,dL Ao v5.1.2.1,dL A7 v5.1.2.2]),(5,.box [oL 89 Aw v7.1.1,oL 54 Ao v7.1.2.1,oL 44 Av v7.1.2.2]),(6,oL 44 Av v7.2.1),(9,oL 44 Av v9.2.1),(11,nI y1)]) _ _ _ _ hl (okr rfl) (fun _ => rfl) ?_
     rintro m y1 N h hN
     unfold BH at h
     refine Ac fun K18 hK18 => rn 1 rfl ?_
     rcases Ab h with ⟨g19,h⟩ | ⟨g19,h⟩
     ·refine qT rfl g19 (Ae (hK18 _ (Ac fun K20 hK20 => Au (rd (by kernel_rfl) (sd 3 rfl (?_))))))
      obtain ⟨e21,g22,h⟩:=Aa h
      refine ed rfl (qI rfl JY g22 (sd 3 rfl (?_)))
      obtain ⟨e23,g24,h⟩:=Aa h
      refine ed rfl (qI rfl Dw g24 (sd 1 rfl (?_)))
      obtain ⟨v25,g26,h⟩:=Aa h
      refine ed rfl (qC (qa rfl (erg (erc rfl (erc (erD As _) (erc (erD Am _) rfl)))) (qa rfl (erg (erc rfl (erc (erD AS _) (erc (erD Am _) rfl)))) Ar)) (GD g26) (sd 6 rfl (BB (rs (sp 2 rfl (?_))))))
      obtain ⟨v27,g28,h⟩:=Aa h
      refine qC (qa rfl (erg (erc (erD DF _) (erc (erD Ci _) (erc (erD Hn _) rfl)))) (qs rfl Ar)) (Lz g28) (sp 6 rfl (evn (rd (by kernel_rfl) (sd 5 rfl (?_)))))
      obtain ⟨e29,g30,h⟩:=Aa h
      refine ed rfl (qI rfl FF g30 (sd 2 rfl (?_)))
      obtain ⟨v31,g32,h⟩:=Aa h
      refine ed rfl (qC (qa rfl (erg (erc (erD DF _) rfl)) (qa rfl (erg (erc rfl (erc (erD Md _) (erc (erD Am _) rfl)))) Ar)) (KL g32) (sd 6 rfl (BB (qk [3,5,6,9,11,12,14,15,16] rfl (rd (by kernel_rfl) (sd 2 rfl (?_)))))))
      obtain ⟨e33,g34,h⟩:=Aa h
      refine ed rfl (qI rfl Dw g34 (sd 3 rfl (?_)))
      obtain ⟨e35,g36,h⟩:=Aa h
      refine ed rfl (qI rfl Dw g36 (sd 1 rfl (?_)))
      obtain ⟨v37,g38,h⟩:=Aa h
      refine ed rfl (qC (qa rfl (erg (erc rfl (erc (erD AS _) (erc (erD Am _) rfl)))) (qa rfl (erg (erc rfl (erc (erD AS _) (erc (erD Am _) rfl)))) Ar)) (CR g38) (sd 2 rfl (?_)))
      rcases Ab h with ⟨g39,h⟩ | ⟨g39,h⟩
      ·exact qgd 118 g39 rfl (sd 27 rfl (BB (qT rfl rfl (rn 1 rfl (qk [2] rfl (Af ((by cases h; cases hr2; exact ⟨.inl rfl,rfl⟩))))))))
      ·refine qgd 118 g39 rfl (sd 4 rfl (?_))
       rcases Ab h with ⟨g40,h⟩ | ⟨g40,h⟩
       ·exact qgd 122 g40 rfl (sd 23 rfl (BB (qT rfl rfl (rn 1 rfl (Af ((by cases h; cases hr2; exact ⟨.inl rfl,rfl⟩)))))))
       ·refine qgd 122 g40 rfl (sd 2 rfl (?_))
        obtain ⟨v41,g42,h⟩:=Aa h
        refine ed rfl (oGR rfl rfl (qC (qa rfl (erg (erc rfl (erc (erD AS _) rfl))) (qa rfl (erg (erc rfl (erc (erD AS _) rfl))) Ar)) (Gl g42) (sd 3 rfl (?_))))
        rcases Ab h with ⟨g43,h⟩ | ⟨g43,h⟩
        ·exact qgd 128 g43 rfl (sd 17 rfl (BB (qk [3,5,6,9,11,145] rfl (qT rfl rfl (rn 1 rfl (Af ((by cases h; cases hr2; exact ⟨.inl rfl,rfl⟩))))))))
        ·refine qgd 128 g43 rfl (sd 8 rfl (?_))
         rcases Ab h with ⟨g44,h⟩ | ⟨g44,h⟩
         ·exact qgd 136 g44 rfl (sd 9 rfl (BB (qT rfl rfl (rn 1 rfl (Af ((by cases h; cases hr2; exact ⟨.inl rfl,rfl⟩)))))))
         ·refine qgd 136 g44 rfl (sd 4 rfl (?_))
          obtain ⟨e45,g46,h⟩:=Aa h
          refine ed rfl (oGR rfl rfl (qI rfl Dw g46 (sd 1 rfl (?_))))
          obtain ⟨v47,g48,h⟩:=Aa h
          refine ed rfl (oGR rfl rfl (qC (qa rfl (erg (erc rfl (erc (erD AS _) (erc (erD Am _) rfl)))) (qa rfl (erg (erc rfl (erc (erD AS _) (erc (erD Am _) rfl)))) Ar)) (CR g48) (sd 2 rfl (BB ?_))))
          rcases Ab h with ⟨g49,h⟩ | ⟨g49,h⟩
          ·exact qT rfl g49 (rn 1 rfl (qk [2] rfl (Af ((by cases h; cases hr2; exact ⟨.inl rfl,rfl⟩)))))
          ·exact qF rfl g49 (Ae (hK20 _ (rg (sp 3 rfl (evn (hN _ _ h (okr rfl)))))))
     ·exact qF rfl g19 (An (kXB2 (Option.some.inj h) _ (okr rfl)))
  refine sd 4 rfl (?_)
  rcases Ab h with ⟨g58,h⟩ | ⟨g58,h⟩
  ·exact qgd 42 g58 rfl (sd 23 rfl (BB (kJ1 h _ (okr rfl))))
  ·refine qgd 42 g58 rfl (sd 7 rfl (?_))
   rcases Ab h with ⟨g59,h⟩ | ⟨g59,h⟩
   ·exact qgd 49 g59 rfl (sd 16 rfl (BB (kJ1 h _ (okr rfl))))
   ·refine qgd 49 g59 rfl (sd 1 rfl (?_))
    obtain ⟨v60,g61,h⟩:=Aa h
    refine ed rfl (oGR rfl rfl (qC (qa rfl (erg (erc (erD DF _) (erc (erD Ci _) (erc (erD Hm _) rfl)))) Ar) (D0 g61) (sd 1 rfl (?_))))
    obtain ⟨v62,g63,h⟩:=Aa h
    refine ed rfl (oGR rfl rfl (qC (qa rfl (erg (erc (erD DF _) (erc (erD Ci _) (erc (erD Hm _) rfl)))) Ar) (D9 g63) (sd 3 rfl (?_))))
    rcases Ab h with ⟨g64,h⟩ | ⟨g64,h⟩
    ·exact qgd 56 g64 rfl (sd 9 rfl (BB (kJ1 h _ (okr rfl))))
    ·refine qgd 56 g64 rfl (sd 3 rfl (?_))
     rcases Ab h with ⟨g65,h⟩ | ⟨g65,h⟩
     ·refine qgd 59 g65 rfl (sd 2 rfl (?_))
      obtain ⟨v66,g67,h⟩:=Aa h
      exact ed rfl (oGR rfl rfl (qC (qa rfl (erg (erc (erD DF _) (erc (erD Ci _) (erc (erD Hn _) rfl)))) (qa rfl (erg (erc (erD DF _) (erc (erD Ci _) (erc (erD Hm _) rfl)))) Ar)) (Kr g67) (sd 3 rfl (BB (kJ1 h _ (okr rfl))))))
     ·exact qgd 59 g65 rfl (sd 6 rfl (BB (kJ1 h _ (okr rfl))))
end Go.Proofs.YtklcofndjkjldaaGreat
