/-
  Functions of the program as typed functions, printed by gen.py, and that the program's functions do what they say. No conditions.
-/
import Derived.Test.YtklcofndjkjldaaGreatGSNT1
namespace Go.Proofs.YtklcofndjkjldaaGreat
open Go.RowKit
set_option linter.unusedVariables false
set_option maxRecDepth 100000
set_option maxHeartbeats 1000000
def DW (rec : ((List Y88) × Bool × Int) -> Option ((List Y88) × Bool)) (y3 : Int) (x13 : Bool) (x14 : List Y88) : Option ((List Y88) × Bool):=rec (x14,x13,(IntKind.i64.wrap (y3 + 1)))
def DV (rec : ((List Y88) × Bool × Int) -> Option ((List Y88) × Bool)) (a1 : List UInt8) (y3 : Int) (e7 : Y88) (x12 : List Y88) (x13 : Bool) : Option ((List Y88) × Bool):=cond (!(e7.1 == a1)) (chk (List.length x12 + List.length [e7] <= lim) (DW rec y3 x13 (x12 ++ [e7]))) (DW rec y3 x13 x12)
def DU (rec : ((List Y88) × Bool × Int) -> Option ((List Y88) × Bool)) (a1 : List UInt8) (a2 : Y32) (y1 : List Y88) (y2 : Bool) (y3 : Int) (e7 : Y88) (x11 : Bool) : Option ((List Y88) × Bool):=cond x11 (chk (List.length y1 + List.length [(a1,a2)] <= lim) (DV rec a1 y3 e7 (y1 ++ [(a1,a2)]) true)) (DV rec a1 y3 e7 y1 y2)
def BA (a0 : List Y88) (a1 : List UInt8) (a2 : Y32) (rec : ((List Y88) × Bool × Int) -> Option ((List Y88) × Bool)) (s : (List Y88) × Bool × Int) : Option ((List Y88) × Bool):=match s with
  | (y1,y2,y3) => cond (decide (y3 < (List.length a0 : Int))) (Ad (AK a0 y3) fun e7 => cond (!y2) (DU rec a1 a2 y1 y2 y3 e7 (!Op.bytesLess e7.1 a1)) (DU rec a1 a2 y1 y2 y3 e7 false)) (some (y1,y2))
def DX (a0 : List Y88) (x21 : List Y88) (x24 : Bool) : Option ((List Y88) × Bool):=cond x24 (Ad (EP a0) fun v26 => some (v26,false)) (Ad (EP x21) fun v28 => some (v28,true))
def CT (a0 : List Y88) (x21 : List Y88) : Option ((List Y88) × Bool):=Ad (A2 a0) fun v30 => cond (!v30) (DX a0 x21 true) (Ad (A2 x21) fun v33 => DX a0 x21 (!v33))
def FQ (a0 : List Y88) (a1 : List UInt8) (a2 : Y32) : Option ((List Y88) × Bool):=Ad (Al (BA a0 a1 a2) fz (([] : List Y88),false,0)) fun o1 => (match o1 with
  | (z2,z3) => (cond (!z3) (chk (List.length z2 + List.length [(a1,a2)] <= lim) (CT a0 (z2 ++ [(a1,a2)]))) (CT a0 z2)))
theorem LT {a0 : List Y88} {a1 : List UInt8} {a2 : Y32} {r : (List Y88) × Bool} (h : FQ a0 a1 a2 = some r) : Ai Tryz.prog 74 [.agg [dL AB a0],.str a1,.agg (ER a2)] (.tup [.agg [oL 89 Aw r.1],.bool r.2]):=by
 unfold FQ at h
 refine st fP rfl (rn 3 rfl (Ac fun K1 hK1 => rn 1 rfl ?_))
 obtain ⟨o1,hl,hr1⟩:=Aa h
 have kXB1 : ∀ {z2 : List Y88} {z3 : Bool},(z2,z3) = o1 -> Jn K1 [(1,.str a1),(3,.box [dL AB a0]),(5,.box [nI a2.1,dL AG a2.2]),(6,.box [oL 89 Aw []]),(8,.box [oL 89 AB z2]),(9,.bool z3)]:=by
  intro z2 z3 h σ' hk
  subst h
  replace h:=hr1
  try dsimp only at h
  refine hK1 _ (lh hk rfl (Ac fun K20 hK20 => rn 1 rfl ?_))
  have kJ5 : ∀ {x21 : List Y88},CT a0 x21 = some r -> Jn K20 [(3,.box [dL AB a0]),(6,.box [oL 89 Aw []]),(8,.box [oL 89 AB x21])]:=by
   intro x21 h σ' hk
   unfold CT at h
   refine hK20 _ (lh hk rfl (Ac fun K22 hK22 => rk fun K23 hK23 => ?_))
   have kJ6 : ∀ {x24 : Bool},DX a0 x21 x24 = some r -> Jn K23 [(3,.box [dL AB a0]),(6,.box [oL 89 Aw []]),(8,.box [oL 89 AB x21]),(68,.bool x24)]:=by
    intro x24 h σ' hk
    unfold DX at h
    refine hK23 _ (lh hk rfl ?_)
    rcases Ab h with ⟨g25,h⟩ | ⟨g25,h⟩
    ·refine qT rfl g25 (rs (sp 1 rfl (?_)))
     obtain ⟨v26,g27,h⟩:=Aa h
     exact qC (qa rfl (erg (erc (erD AM _) rfl)) Ar) (GH g27) (sp 2 rfl (evn (Af ((by cases h; exact ⟨.inl rfl,rfl⟩)))))
    ·refine qF rfl g25 (Ae (hK22 _ (rs (sp 1 rfl (?_)))))
     obtain ⟨v28,g29,h⟩:=Aa h
     exact qC (qa rfl (erg (erc (erD AM _) rfl)) Ar) (GH g29) (sp 2 rfl (evn (Af ((by cases h; exact ⟨.inl rfl,rfl⟩)))))
   refine sp 1 rfl (?_)
   obtain ⟨v30,g31,h⟩:=Aa h
   refine qC (qa rfl (erg (erc (erD AM _) rfl)) Ar) (BW g31) (sp 2 rfl (?_))
   rcases Ab h with ⟨g32,h⟩ | ⟨g32,h⟩
   ·exact qg 64 g32 rfl (sp 4 rfl (evn (kJ6 h _ (okr rfl))))
   ·refine qg 64 g32 rfl (sp 1 rfl (?_))
    obtain ⟨v33,g34,h⟩:=Aa h
    exact oGR rfl rfl (qC (qa rfl (erg (erc (erD AM _) rfl)) Ar) (BW g34) (sp 2 rfl (evn (kJ6 h _ (okr rfl)))))
  rcases Ab h with ⟨g35,h⟩ | ⟨g35,h⟩
  ·refine qT rfl g35 (rg (sp 5 rfl (qBs AB [(a1,a2)] rfl rfl rfl Ee (?_))))
   obtain ⟨g36,h⟩:=Ah h
   exact qA AB z2 [(a1,a2)] rfl rfl (Ap Ee [(a1,a2)]) rfl g36 (sp 2 rfl (evn (kJ5 h _ (okr rfl))))
  ·exact qF rfl g35 (Ae (kJ5 h _ (okr rfl)))
 refine Ax (fun (s : (List Y88) × Bool × Int) => match s with | (y1,y2,y3) => [(1,.str a1),(3,.box [dL AB a0]),(5,.box [nI a2.1,dL AG a2.2]),(6,.box [oL 89 Aw []]),(8,.box [oL 89 AB y1]),(9,.bool y2),(10,nI y3)]) _ _ _ _ hl (okr rfl) (fun _ => rfl) ?_
 rintro m ⟨y1,y2,y3⟩ N h hN
 unfold BA at h
 dsimp only at h
 refine Ac fun K4 hK4 => rn 1 rfl ?_
 rcases Ab h with ⟨g5,h⟩ | ⟨g5,h⟩
 ·refine qT rfl g5 (Ae (hK4 _ (Ac fun K6 hK6 => Au (rs (sp 3 rfl (?_))))))
  obtain ⟨e7,g8,h⟩:=Aa h
  refine qI rfl Ee g8 (sp 3 rfl (evn (Ac fun K9 hK9 => rk fun K10 hK10 => ?_)))
  have kJ2 : ∀ {x11 : Bool},DU (Al (BA a0 a1 a2) m) a1 a2 y1 y2 y3 e7 x11 = some o1 -> Jn K10 [(1,.str a1),(3,.box [dL AB a0]),(5,.box [nI a2.1,dL AG a2.2]),(6,.box [oL 89 Aw []]),(8,.box [oL 89 AB y1]),(9,.bool y2),(10,nI y3),(11,.box [.str e7.1,nI e7.2.1,dL AG e7.2.2]),(32,.bool x11)]:=by
   intro x11 h σ' hk
   unfold DU at h
   refine hK10 _ (lh hk rfl ?_)
   have kJ3 : ∀ {x12 : List Y88} {x13 : Bool},DV (Al (BA a0 a1 a2) m) a1 y3 e7 x12 x13 = some o1 -> Jn K9 [(1,.str a1),(3,.box [dL AB a0]),(5,.box [nI a2.1,dL AG a2.2]),(6,.box [oL 89 Aw []]),(8,.box [oL 89 AB x12]),(9,.bool x13),(10,nI y3),(11,.box [.str e7.1,nI e7.2.1,dL AG e7.2.2])]:=by
    intro x12 x13 h σ' hk
    unfold DV at h
    refine hK9 _ (lh hk rfl (rn 1 rfl ?_))
    have kJ4 : ∀ {x14 : List Y88},DW (Al (BA a0 a1 a2) m) y3 x13 x14 = some o1 -> Jn K6 [(1,.str a1),(3,.box [dL AB a0]),(5,.box [nI a2.1,dL AG a2.2]),(6,.box [oL 89 Aw []]),(8,.box [oL 89 AB x14]),(9,.bool x13),(10,nI y3)]:=by
     intro x14 h σ' hk
     unfold DW at h
     exact hK6 _ (lh hk rfl (rg (sp 3 rfl (evn (hN _ _ h (okr rfl))))))
    rcases Ab h with ⟨g15,h⟩ | ⟨g15,h⟩
    ·refine qT rfl g15 (rg (sp 3 rfl (qBs AB [e7] rfl rfl rfl Ee (?_))))
     obtain ⟨g16,h⟩:=Ah h
     exact qA AB x12 [e7] rfl rfl (Ap Ee [e7]) rfl g16 (sp 2 rfl (evn (kJ4 h _ (okr rfl))))
    ·exact qF rfl g15 (Ae (kJ4 h _ (okr rfl)))
   rcases Ab h with ⟨g17,h⟩ | ⟨g17,h⟩
   ·refine qT rfl g17 (rs (sp 5 rfl (qBs AB [(a1,a2)] rfl rfl rfl Ee (?_))))
    obtain ⟨g18,h⟩:=Ah h
    exact qA AB y1 [(a1,a2)] rfl rfl (Ap Ee [(a1,a2)]) rfl g18 (sp 2 rfl (evn (rg (sp 1 rfl (evn (kJ3 h _ (okr rfl)))))))
   ·exact qF rfl g17 (Ae (kJ3 h _ (okr rfl)))
  refine sp 3 rfl (?_)
  rcases Ab h with ⟨g19,h⟩ | ⟨g19,h⟩
  ·exact qg 27 g19 rfl (sp 5 rfl (evn (kJ2 h _ (okr rfl))))
  ·exact qg 27 g19 rfl (sp 5 rfl (evn (kJ2 h _ (okr rfl))))
 ·exact qF rfl g5 (An (kXB1 (Option.some.inj h) _ (okr rfl)))
def DN (a0 : List Y88) (a1 : Y34) : Option ((List Y88) × Bool):=Ad (DS a0 a1) fun v1 => cond (!v1.2) (Ad (EP a0) fun v5 => some (v5,false)) (Ad (Bj a0 a1.1) fun v7 => Ad (Cm v7.1 v1.1.2.2) fun v9 => Ad (Jy v9.1 v1.1.2.1) fun v11 => cond (!v11.2) (Ad (EP a0) fun v15 => some (v15,false)) (Ad (FQ a0 a1.1 v11.1) fun v17 => some (v17.1,v17.2)))
theorem HU {a0 : List Y88} {a1 : Y34} {r : (List Y88) × Bool} (h : DN a0 a1 = some r) : Ai Tryz.prog 25 [.agg [dL AB a0],.agg (Eo a1)] (.tup [.agg [oL 89 Aw r.1],.bool r.2]):=by
 unfold DN at h
 refine st eM rfl (rn 1 rfl (rs (sp 2 rfl (?_))))
 obtain ⟨v1,g2,h⟩:=Aa h
 refine qC (qa rfl (erg (erc (erD AM _) rfl)) (qa rfl (erg (erc rfl (erc rfl (erc (erD As _) (erc rfl (erc (erD As _) rfl)))))) Ar)) (Ks g2) (sp 6 rfl (evn (Ac fun K3 hK3 => rn 1 rfl ?_)))
 rcases Ab h with ⟨g4,h⟩ | ⟨g4,h⟩
 ·refine qT rfl g4 (rs (sp 1 rfl (?_)))
  obtain ⟨v5,g6,h⟩:=Aa h
  exact qC (qa rfl (erg (erc (erD AM _) rfl)) Ar) (GH g6) (sp 2 rfl (evn (Af ((by cases h; exact ⟨.inl rfl,rfl⟩)))))
 ·refine qF rfl g4 (Ae (hK3 _ (rs (sp 3 rfl (?_)))))
  obtain ⟨v7,g8,h⟩:=Aa h
  refine qC (qa rfl (erg (erc (erD AM _) rfl)) (qs rfl Ar)) (C6 g8) (sp 6 rfl (evn (qk [2,3,4,6,8] rfl (rs (sp 3 rfl (?_))))))
  obtain ⟨v9,g10,h⟩:=Aa h
  refine qC (qa rfl (erg (erc rfl (erc (erD AS _) rfl))) (qa rfl (erg (erc rfl (erc (erD AS _) rfl))) Ar)) (E9 g10) (sp 6 rfl (evn (rs (sp 3 rfl (?_)))))
  obtain ⟨v11,g12,h⟩:=Aa h
  refine qC (qa rfl (erg (erc rfl (erc (erD AS _) rfl))) (qa rfl (erg (erc rfl (erc (erD AS _) rfl))) Ar)) (QD g12) (sp 6 rfl (evn (Ac fun K13 hK13 => rn 1 rfl ?_)))
  rcases Ab h with ⟨g14,h⟩ | ⟨g14,h⟩
  ·refine qT rfl g14 (rs (sp 1 rfl (?_)))
   obtain ⟨v15,g16,h⟩:=Aa h
   exact qC (qa rfl (erg (erc (erD AM _) rfl)) Ar) (GH g16) (sp 2 rfl (evn (Af ((by cases h; exact ⟨.inl rfl,rfl⟩)))))
  ·refine qF rfl g14 (Ae (hK13 _ (rs (sp 4 rfl (?_)))))
   obtain ⟨v17,g18,h⟩:=Aa h
   exact qC (qa rfl (erg (erc (erD AM _) rfl)) (qs rfl (qa rfl (erg (erc rfl (erc (erD AS _) rfl))) Ar))) (LT g18) (sp 6 rfl (evn (qk [4,14,15] rfl (rn 1 rfl (Af ((by cases h; exact ⟨.inl rfl,rfl⟩)))))))
def FT (a0 : List Y88) (a1 : Y51) (a2 : Y34) : Option (Y43 × Bool):=Ad (DN a0 a2) fun v1 => Ad (C8 a0 a1) fun v3 => Ad (C8 v1.1 a1) fun v5 => cond (!v1.2) (some ((0,[],[]),false)) (cond (!v3.2) (some ((0,[],[]),false)) (cond (!v5.2) (some ((0,[],[]),false)) (Ad (Ba v3.1) fun v11 => Ad (Cl v5.1 v11) fun v13 => some (v13.1,v13.2))))
theorem J4 {a0 : List Y88} {a1 : Y51} {a2 : Y34} {r : Y43 × Bool} (h : FT a0 a1 a2 = some r) : Ai Tryz.prog 26 [.agg [dL AB a0],.agg (Dg a1),.agg (Eo a2)] (.tup [.agg (Av r.1),.bool r.2]):=by
 unfold FT at h
 refine st eN rfl (rn 1 rfl (rs (sp 2 rfl (?_))))
 obtain ⟨v1,g2,h⟩:=Aa h
 refine qC (qa rfl (erg (erc (erD AM _) rfl)) (qa rfl (erg (erc rfl (erc rfl (erc (erD As _) (erc rfl (erc (erD As _) rfl)))))) Ar)) (HU g2) (sp 6 rfl (evn (rs (sp 2 rfl (?_)))))
 obtain ⟨v3,g4,h⟩:=Aa h
 refine qC (qa rfl (erg (erc (erD AM _) rfl)) (qa rfl (erg (erc rfl (erc (erD Bl _) (erc (erD Am _) rfl)))) Ar)) (JT g4) (sp 6 rfl (evn (rs (sp 2 rfl (?_)))))
 obtain ⟨v5,g6,h⟩:=Aa h
 refine qC (qa rfl (erg (erc (erD DF _) rfl)) (qa rfl (erg (erc rfl (erc (erD Bl _) (erc (erD Am _) rfl)))) Ar)) (JT g6) (sp 6 rfl (evn (Ac fun K7 hK7 => rs (sp 3 rfl (?_)))))
 rcases Ab h with ⟨g8,h⟩ | ⟨g8,h⟩
 ·exact qg 36 g8 rfl (sp 7 rfl (evn (qk [6,10,12,43] rfl (qT rfl rfl (rn 1 rfl (Af ((by cases h; exact ⟨.inl rfl,rfl⟩))))))))
 ·refine qg 36 g8 rfl (sp 4 rfl (?_))
  rcases Ab h with ⟨g9,h⟩ | ⟨g9,h⟩
  ·exact qg 40 g9 rfl (sp 3 rfl (evn (qT rfl rfl (rn 1 rfl (Af ((by cases h; exact ⟨.inl rfl,rfl⟩)))))))
  ·refine qg 40 g9 rfl (sp 3 rfl (evn ?_))
   rcases Ab h with ⟨g10,h⟩ | ⟨g10,h⟩
   ·exact qT rfl g10 (rn 1 rfl (Af ((by cases h; exact ⟨.inl rfl,rfl⟩))))
   ·refine qF rfl g10 (Ae (hK7 _ (rd (by kernel_rfl) (sd 2 rfl (?_)))))
    obtain ⟨v11,g12,h⟩:=Aa h
    refine ed rfl (qC (qa rfl (erg (erc rfl (erc (erD AS _) (erc (erD Am _) rfl)))) Ar) (BO g12) (?_))
    obtain ⟨v13,g14,h⟩:=Aa h
    exact ed rfl (qC (qa rfl (erg (erc rfl (erc (erD AS _) (erc (erD Am _) rfl)))) (qa rfl (erg (erc rfl (erc (erO AS _) (erc (erO Am _) rfl)))) Ar)) (GD g14) (sd 6 rfl (BB (qk [6,14,15] rfl (rn 1 rfl (Af ((by cases h; exact ⟨.inl rfl,rfl⟩))))))))
def FO (a0 : Y53) (a1 : List Y88) (a2 : Y34) : Option (Y53 × Bool):=Ad (FT a1 a0.1 a2) fun v1 => cond (!v1.2) (some (((0,[],[]),(0,[],[])),false)) (Ad (A6 a1 a0) fun v5 => cond (!v5) (some (((0,[],[]),(0,[],[])),false)) (Ad (Cl a0.2 v1.1) fun v8 => cond (!v8.2) (some (((0,[],[]),(0,[],[])),false)) (Ad (Gs a0.1) fun v12 => some ((v12,v8.1),true))))
theorem LP {a0 : Y53} {a1 : List Y88} {a2 : Y34} {r : Y53 × Bool} (h : FO a0 a1 a2 = some r) : Ai Tryz.prog 27 [.agg (AV a0),.agg [dL AB a1],.agg (Eo a2)] (.tup [.agg (Ao r.1),.bool r.2]):=by
 unfold FO at h
 refine st eO rfl (rn 1 rfl (rs (sp 4 rfl (?_))))
 obtain ⟨v1,g2,h⟩:=Aa h
 refine qC (qa rfl (erg (erc (erD AM _) rfl)) (qa rfl (erg (erc rfl (erc (erD Bl _) (erc (erD Am _) rfl)))) (qa rfl (erg (erc rfl (erc rfl (erc (erD As _) (erc rfl (erc (erD As _) rfl)))))) Ar))) (J4 g2) (sp 6 rfl (evn (Ac fun K3 hK3 => rs (sp 3 rfl (?_)))))
 rcases Ab h with ⟨g4,h⟩ | ⟨g4,h⟩
 ·exact qg 22 g4 rfl (sp 5 rfl (evn (qT rfl rfl (rn 1 rfl (Af ((by cases h; exact ⟨.inl rfl,rfl⟩)))))))
 ·refine qg 22 g4 rfl (sp 2 rfl (?_))
  obtain ⟨v5,g6,h⟩:=Aa h
  refine oGR rfl rfl (qC (qa rfl (erg (erc (erD AM _) rfl)) (qa rfl (erg (erc rfl (erc (erD Bl _) (erc (erD Am _) (erc rfl (erc (erD As _) (erc (erD Am _) rfl))))))) Ar)) (Jd g6) (sp 2 rfl (evn ?_)))
  rcases Ab h with ⟨g7,h⟩ | ⟨g7,h⟩
  ·exact qT rfl g7 (rn 1 rfl (qk [6,7] rfl (Af ((by cases h; exact ⟨.inl rfl,rfl⟩)))))
  ·refine qF rfl g7 (Ae (hK3 _ (rs (sp 3 rfl (?_)))))
   obtain ⟨v8,g9,h⟩:=Aa h
   refine qC (qa rfl (erg (erc rfl (erc (erD As _) (erc (erD Am _) rfl)))) (qa rfl (erg (erc rfl (erc (erD AS _) (erc (erD Am _) rfl)))) Ar)) (GD g9) (sp 6 rfl (evn (Ac fun K10 hK10 => rn 1 rfl ?_)))
   rcases Ab h with ⟨g11,h⟩ | ⟨g11,h⟩
   ·exact qT rfl g11 (rn 1 rfl (Af ((by cases h; exact ⟨.inl rfl,rfl⟩))))
   ·refine qF rfl g11 (Ae (hK10 _ (rd (by kernel_rfl) (sd 2 rfl (?_)))))
    obtain ⟨v12,g13,h⟩:=Aa h
    exact ed rfl (qC (qa rfl (erg (erc rfl (erc (erD Bl _) (erc (erD Am _) rfl)))) Ar) (JV g13) (sd 4 rfl (BB (Af ((by cases h; exact ⟨.inl rfl,rfl⟩))))))
def JH (x : Y43) : List V:=[nI x.1,aL IOQ x.2.1,aL Aq x.2.2]
theorem SS (x : Y43) : (JH x).length = 3:=rfl
theorem JK (x : Y43) : erL (JH x) = A7 x:=(erc rfl (erc (erG FJ _) (erc (erG Am _) rfl)))
def E0 (x : Y53) : List V:=[nI x.1.1,aL KM x.1.2.1,aL Aq x.1.2.2,nI x.2.1,aL IOQ x.2.2.1,aL Aq x.2.2.2]
theorem Lj (x : Y53) : (E0 x).length = 6:=rfl
theorem G3 (x : Y53) : erL (E0 x) = AV x:=(erc rfl (erc (erG Mc _) (erc (erG Am _) (erc rfl (erc (erG FJ _) (erc (erG Am _) rfl))))))
theorem O6 (x : HI) : Fh (Bb x) = true:=(dcc rfl (dcc (dco (fun _ => rfl) 3 _) dcn))
theorem Hc (x : Y53) : Fh (Ao x) = true:=(dcc rfl (dcc (dco O6 112 _) (dcc (dco (fun _ => rfl) 3 _) (dcc rfl (dcc (dco CH 42 _) (dcc (dco (fun _ => rfl) 3 _) dcn))))))
theorem Hl (x : Y88) : Fh (Aw x) = true:=(dcc rfl (dcc rfl (dcc (dco CH 42 _) dcn)))
theorem FI (x : Y43) : Fh (Av x) = true:=(dcc rfl (dcc (dco CH 42 _) (dcc (dco (fun _ => rfl) 3 _) dcn)))
theorem Lu (x : Y43) : IM (JH x) = true:=(acc rfl (acc (aca G4 _) (acc (aca (fun _ => rfl) _) rfl)))
theorem Hd (x : Y53) : IM (E0 x) = true:=(acc rfl (acc (aca R7 _) (acc (aca (fun _ => rfl) _) (acc rfl (acc (aca G4 _) (acc (aca (fun _ => rfl) _) rfl))))))
theorem P5 (x : Y43) : BQ (A7 x) = true:=(bcc rfl (bcc (F9 Iw _) (bcc (F9 (fun _ => rfl) _) rfl)))
theorem Mz (x : Y53) : BQ (AV x) = true:=(bcc rfl (bcc (F9 RV _) (bcc (F9 (fun _ => rfl) _) (bcc rfl (bcc (F9 Iw _) (bcc (F9 (fun _ => rfl) _) rfl))))))
theorem QJ (x : Y43) : Iv (A7 x) = JH x:=(vcc rfl (vcc (J8 IA _) (vcc (J8 (fun _ => rfl) _) rfl)))
theorem MI (x : Y53) : Iv (AV x) = E0 x:=(vcc rfl (vcc (J8 SQ _) (vcc (J8 (fun _ => rfl) _) (vcc rfl (vcc (J8 IA _) (vcc (J8 (fun _ => rfl) _) rfl))))))
def Br (rec : ((List Y43) × (List Y53) × (List Y43) × Int) -> Option (Sum ((List Y43) × (List Y53) × (List Y43)) (Y29 × (List Y43) × Bool))) (a0 : Y29) (y1 : List Y43) (y2 : List Y53) (y3 : List Y43) (y4 : Int) (v19 : Y43 × Bool) (v23 : Y53 × Bool) (v27 : Y43 × Bool) (x31 : Bool) : Option (Sum ((List Y43) × (List Y53) × (List Y43)) (Y29 × (List Y43) × Bool)):=cond x31 (Ad (Gn a0) fun v33 => some (.inr (v33,([] : List Y43),false))) (chk (0 < List.length y2) (Ad (AK y2 y4) fun e37 => chk (0 < List.length y3) (Ad (AK y3 y4) fun e41 => chk (List.length y1 + List.length [v19.1] <= lim) (rec ((y1 ++ [v19.1]),(It y2 y4 v23.1),(It y3 y4 v27.1),(IntKind.i64.wrap (y4 + 1)))))))
def BP (a0 : Y29) (a1 : Y34) (rec : ((List Y43) × (List Y53) × (List Y43) × Int) -> Option (Sum ((List Y43) × (List Y53) × (List Y43)) (Y29 × (List Y43) × Bool))) (s : (List Y43) × (List Y53) × (List Y43) × Int) : Option (Sum ((List Y43) × (List Y53) × (List Y43)) (Y29 × (List Y43) × Bool)):=match s with
  | (y1,y2,y3,y4) => cond (decide (y4 < (List.length a0.2.1 : Int))) (Ad (AK a0.2.1 y4) fun e17 => Ad (FT a0.1 e17.1 a1) fun v19 => Ad (AK a0.2.1 y4) fun e21 => Ad (FO e21 a0.1 a1) fun v23 => Ad (AK a0.2.2 y4) fun e25 => Ad (Cl e25 v19.1) fun v27 => cond (!v19.2) (Br rec a0 y1 y2 y3 y4 v19 v23 v27 true) (cond (!v23.2) (Br rec a0 y1 y2 y3 y4 v19 v23 v27 true) (Br rec a0 y1 y2 y3 y4 v19 v23 v27 (!v27.2)))) (some (.inl (y1,y2,y3)))
def DE (a0 : Y29) (a1 : Y34) : Option (Y29 × (List Y43) × Bool):=Ad (Gn a0) fun v1 => Ad (DN a0.1 a1) fun v3 => Ad (A3 a0) fun v6 => cond (!v6) (some (v1,([] : List Y43),false)) (cond (!v3.2) (some (v1,([] : List Y43),false)) (Ad (Al (BP a0 a1) fz (([] : List Y43),v1.2.1,v1.2.2,0)) fun o1 => (match o1 with
  | .inl (z11,z12,z13) => (some ((v3.1,z12,z13),z11,true))
  | .inr r => some r)))
theorem IW {a0 : Y29} {a1 : Y34} {r : Y29 × (List Y43) × Bool} (h : DE a0 a1 = some r) : Ai Tryz.prog 7 [.agg (AL a0),.agg (Eo a1)] (.tup [.agg (BR r.1),oL 44 Av r.2.1,.bool r.2.2]):=by
 unfold DE at h
 refine sta iP rfl (OX (bcc (F9 MU _) (bcc (F9 Mz _) (bcc (F9 P5 _) rfl))) (OX (bcc rfl (bcc rfl (bcc (F9 Iw _) (bcc rfl (bcc (F9 Iw _) rfl))))) rfl)) (mvv (vag (vcc (J8 Ng _) (vcc (J8 MI _) (vcc (J8 QJ _) rfl)))) (mvv (vag (vcc rfl (vcc rfl (vcc (J8 IA _) (vcc rfl (vcc (J8 IA _) rfl)))))) rfl)) (dcc (dag (dcc (dco Hl 89 _) (dcc (dco Hc 54 _) (dcc (dco FI 44 _) dcn)))) (dcc (dco FI 44 _) (dcc rfl dcn))) (rn 1 rfl (rs (qBs Av [] rfl rfl rfl Dw (sp 1 rfl (evn (rs (sp 1 rfl (?_))))))))
 obtain ⟨v1,g2,h⟩:=Aa h
 refine qC (qa rfl (erg (erc (erG Fo _) (erc (erG G3 _) (erc (erG JK _) rfl)))) Ar) (Jk g2) (sp 2 rfl (evn (rs (sp 3 rfl (?_)))))
 obtain ⟨v3,g4,h⟩:=Aa h
 refine qC (qa rfl (erg (erc (erG Fo _) rfl)) (qa rfl (erg (erc rfl (erc rfl (erc (erG FJ _) (erc rfl (erc (erG FJ _) rfl)))))) Ar)) (HU g4) (sp 6 rfl (evn (Ac fun K5 hK5 => rs (sp 1 rfl (?_)))))
 obtain ⟨v6,g7,h⟩:=Aa h
 refine qC (qa rfl (erg (erc (erG Fo _) (erc (erG G3 _) (erc (erG JK _) rfl)))) Ar) (D9 g7) (sp 2 rfl (?_))
 rcases Ab h with ⟨g8,h⟩ | ⟨g8,h⟩
 ·exact qg 31 g8 rfl (sp 3 rfl (evn (qT rfl rfl (rn 1 rfl (Af ((by cases h; exact ⟨.inl rfl,rfl⟩)))))))
 ·refine qg 31 g8 rfl (sp 3 rfl (evn (qk [2,3,4,7,8,9,34] rfl ?_)))
  rcases Ab h with ⟨g9,h⟩ | ⟨g9,h⟩
  ·exact qT rfl g9 (rn 1 rfl (Af ((by cases h; exact ⟨.inl rfl,rfl⟩))))
  ·refine qF rfl g9 (Ae (hK5 _ (Ac fun K10 hK10 => rn 1 rfl ?_)))
   obtain ⟨o1,hl,hr1⟩:=Aa h
   have kXB1 : ∀ {z11 : List Y43} {z12 : List Y53} {z13 : List Y43},(.inl (z11,z12,z13)) = o1 -> Jn K10 [(4,.box [oL 89 Aw [],oL 54 Ao [],oL 44 Av []]),(7,oL 44 Av z11),(8,.box [oL 89 Aw v1.1,oL 54 Ao z12,oL 44 Av z13]),(9,.box [oL 89 Aw v3.1])]:=by
    intro z11 z12 z13 h σ' hk
    subst h
    replace h:=hr1
    try dsimp only at h
    exact hK10 _ (lh hk rfl (rn 2 rfl (Af ((by cases h; exact ⟨.inl rfl,rfl⟩)))))
   refine Ax (fun (s : (List Y43) × (List Y53) × (List Y43) × Int) => match s with | (y1,y2,y3,y4) => [(2,.box [aL HK a0.1,aL E0 a0.2.1,aL JH a0.2.2]),(3,.box [.str a1.1,nI a1.2.1.1,aL IOQ a1.2.1.2,nI a1.2.2.1,aL IOQ a1.2.2.2]),(4,.box [oL 89 Aw [],oL 54 Ao [],oL 44 Av []]),(7,oL 44 Av y1),(8,.box [oL 89 Aw v1.1,oL 54 Ao y2,oL 44 Av y3]),(9,.box [oL 89 Aw v3.1]),(11,nI y4)]) _ _ _ _ hl (okr rfl) (fun _ => rfl) ?_
   rintro m ⟨y1,y2,y3,y4⟩ N h hN
   unfold BP at h
   dsimp only at h
   refine Ac fun K14 hK14 => rn 1 rfl ?_
   rcases Ab h with ⟨g15,h⟩ | ⟨g15,h⟩
   ·refine qT rfl g15 (Ae (hK14 _ (Ac fun K16 hK16 => Au (rd (by kernel_rfl) (sd 5 rfl (?_))))))
    obtain ⟨e17,g18,h⟩:=Aa h
    refine ed rfl (qI rfl Lj g18 (sd 3 rfl (?_)))
    obtain ⟨v19,g20,h⟩:=Aa h
    refine ed rfl (qC (qa rfl (erg (erc (erG Fo _) rfl)) (qa rfl (erg (erc rfl (erc (erG Mc _) (erc (erG Am _) rfl)))) (qa rfl (erg (erc rfl (erc rfl (erc (erG FJ _) (erc rfl (erc (erG FJ _) rfl)))))) Ar))) (J4 g20) (sd 6 rfl (BB (rd (by kernel_rfl) (sd 3 rfl (?_))))))
    obtain ⟨e21,g22,h⟩:=Aa h
    refine ed rfl (qI rfl Lj g22 (sd 4 rfl (?_)))
    obtain ⟨v23,g24,h⟩:=Aa h
    refine ed rfl (qC (qa rfl (erg (erc rfl (erc (erG Mc _) (erc (erG Am _) (erc rfl (erc (erG FJ _) (erc (erG Am _) rfl))))))) (qa rfl (erg (erc (erG Fo _) rfl)) (qa rfl (erg (erc rfl (erc rfl (erc (erG FJ _) (erc rfl (erc (erG FJ _) rfl)))))) Ar))) (LP g24) (sd 6 rfl (BB (qk [2,3,4,7,8,9,11,12,13,14,15] rfl (rd (by kernel_rfl) (sd 3 rfl (?_)))))))
    obtain ⟨e25,g26,h⟩:=Aa h
    refine ed rfl (qI rfl SS g26 (sd 2 rfl (?_)))
    obtain ⟨v27,g28,h⟩:=Aa h
    refine ed rfl (qC (qa rfl (erg (erc rfl (erc (erG FJ _) (erc (erG Am _) rfl)))) (qa rfl (erg (erc rfl (erc (erD AS _) (erc (erD Am _) rfl)))) Ar)) (GD g28) (sd 6 rfl (BB (Ac fun K29 hK29 => rk fun K30 hK30 => ?_))))
    have kJ2 : ∀ {x31 : Bool},Br (Al (BP a0 a1) m) a0 y1 y2 y3 y4 v19 v23 v27 x31 = some o1 -> Jn K30 [(2,.box [aL HK a0.1,aL E0 a0.2.1,aL JH a0.2.2]),(3,.box [.str a1.1,nI a1.2.1.1,aL IOQ a1.2.1.2,nI a1.2.2.1,aL IOQ a1.2.2.2]),(4,.box [oL 89 Aw [],oL 54 Ao [],oL 44 Av []]),(7,oL 44 Av y1),(8,.box [oL 89 Aw v1.1,oL 54 Ao y2,oL 44 Av y3]),(9,.box [oL 89 Aw v3.1]),(11,nI y4),(12,.box [nI v19.1.1,oL 42 Ag v19.1.2.1,oL 3 Aq v19.1.2.2]),(14,.box [nI v23.1.1.1,oL 112 Bb v23.1.1.2.1,oL 3 Aq v23.1.1.2.2,nI v23.1.2.1,oL 42 Ag v23.1.2.2.1,oL 3 Aq v23.1.2.2.2]),(16,.box [nI v27.1.1,oL 42 Ag v27.1.2.1,oL 3 Aq v27.1.2.2]),(88,.bool x31)]:=by
     intro x31 h σ' hk
     unfold Br at h
     refine hK30 _ (lh hk rfl ?_)
     rcases Ab h with ⟨g32,h⟩ | ⟨g32,h⟩
     ·refine qT rfl g32 (rs (sp 1 rfl (?_)))
      obtain ⟨v33,g34,h⟩:=Aa h
      exact qC (qa rfl (erg (erc (erG Fo _) (erc (erG G3 _) (erc (erG JK _) rfl)))) Ar) (Jk g34) (qBs Av [] rfl rfl rfl Dw (sp 3 rfl (evn (Af ((by cases h; cases hr1; exact ⟨.inl rfl,rfl⟩))))))
     ·refine qF rfl g32 (Ae (hK29 _ (qk [2,3,4,7,8,9,11,12,14,16] rfl ?_)))
      obtain ⟨g35,h⟩:=Ah h
      refine Ih (gLb (q:=900003) (b:=8) [oL 89 Aw v1.1] [oL 44 Av y3] rfl rfl rfl g35 ?_)
      intro gg36 mm36
      refine qk [2,3,4,7,8,9,11,12,14,16,900003] rfl (rs (sp 4 rfl (?_)))
      obtain ⟨e37,g38,h⟩:=Aa h
      refine qIt rfl rfl rfl rfl g38 (?_)
      refine qSt (y0:=e37) (i:=y4) (es:=6) 0 v23.1 [2,3,4,7,8,9,11,12,16] rfl rfl rfl rfl rfl rfl rfl rfl rfl rfl FF g38 (fun x => sdL (Hc x)) (sdL (dcc rfl (dcc (dco O6 112 _) (dcc (dco (fun _ => rfl) 3 _) (dcc rfl (dcc (dco CH 42 _) (dcc (dco (fun _ => rfl) 3 _) dcn))))))) (yc (snc (sA (aca KA _)) (snc (sA (aca Hd _)) (snc (sA (aca Lu _)) rfl))) (yc (snc rfl (snc rfl (snc (sA (aca G4 _)) (snc rfl (snc (sA (aca G4 _)) rfl))))) (yc (snc rfl (snc rfl (snc rfl rfl))) (yc (sdL (dcf FI _)) (yc (snc (sO (dco Hl 89 _)) (snc rfl (snc (sO (dco FI 44 _)) rfl))) (yc (snc (sO (dco Hl 89 _)) rfl) (yc rfl (yc (snc rfl (snc (sO (dco CH 42 _)) (snc (sO (dco (fun _ => rfl) 3 _)) rfl))) (yc (snc rfl (snc (sO (dco CH 42 _)) (snc (sO (dco (fun _ => rfl) 3 _)) rfl))) yn))))))))) (?_)
      refine evn (Ih (gDb (q:=900003) (b:=8) [oL 89 Aw v1.1] [oL 44 Av y3] rfl rfl rfl (sl rfl) (qk [2,3,4,7,8,9,11,12,16] rfl (qk [2,3,4,7,8,9,11,12,16] rfl ?_))))
      obtain ⟨g39,h⟩:=Ah h
      refine Ih (gLb (q:=900003) (b:=8) [oL 89 Aw v1.1,oL 54 Ao (It y2 y4 v23.1)] [] rfl rfl rfl g39 ?_)
      intro gg40 mm40
      refine qk [2,3,4,7,8,9,11,12,16,900003] rfl (rs (sp 4 rfl (?_)))
      obtain ⟨e41,g42,h⟩:=Aa h
      refine qIt rfl rfl rfl rfl g42 (?_)
      refine qSt (y0:=e41) (i:=y4) (es:=3) 0 v27.1 [2,3,4,7,8,9,11,12] rfl rfl rfl rfl rfl rfl rfl rfl rfl rfl Dw g42 (fun x => sdL (FI x)) (sdL (dcc rfl (dcc (dco CH 42 _) (dcc (dco (fun _ => rfl) 3 _) dcn)))) (yc (snc (sA (aca KA _)) (snc (sA (aca Hd _)) (snc (sA (aca Lu _)) rfl))) (yc (snc rfl (snc rfl (snc (sA (aca G4 _)) (snc rfl (snc (sA (aca G4 _)) rfl))))) (yc (snc rfl (snc rfl (snc rfl rfl))) (yc (sdL (dcf FI _)) (yc (snc (sO (dco Hl 89 _)) (snc (sO (dco Hc 54 _)) (snc rfl rfl))) (yc (snc (sO (dco Hl 89 _)) rfl) (yc rfl (yc (snc rfl (snc (sO (dco CH 42 _)) (snc (sO (dco (fun _ => rfl) 3 _)) rfl))) yn)))))))) (?_)
      refine evn (Ih (gDb (q:=900003) (b:=8) [oL 89 Aw v1.1,oL 54 Ao (It y2 y4 v23.1)] [] rfl rfl rfl (sl rfl) (qk [2,3,4,7,8,9,11,12] rfl (rg (sp 2 rfl (qBs Av [v19.1] rfl rfl rfl Dw (?_)))))))
      obtain ⟨g43,h⟩:=Ah h
      exact qA Av y1 [v19.1] rfl rfl (Ap Dw [v19.1]) rfl g43 (sp 1 rfl (evn (hK16 _ (rg (sp 3 rfl (evn (hN _ _ h (okr rfl))))))))
    refine sp 3 rfl (?_)
    rcases Ab h with ⟨g44,h⟩ | ⟨g44,h⟩
    ·exact qg 81 g44 rfl (sp 7 rfl (evn (kJ2 h _ (okr rfl))))
    ·refine qg 81 g44 rfl (sp 4 rfl (?_))
     rcases Ab h with ⟨g45,h⟩ | ⟨g45,h⟩
     ·exact qg 85 g45 rfl (sp 3 rfl (evn (kJ2 h _ (okr rfl))))
     ·exact qg 85 g45 rfl (sp 3 rfl (evn (kJ2 h _ (okr rfl))))
   ·exact qF rfl g15 (An (kXB1 (Option.some.inj h) _ (okr rfl)))
def GS (a0 : Y79) (x2 : Int) (x3 : Int) : Option (Int × Y79):=some (x3,(a0.1,x2,IntKind.i64.wrap ((IntKind.i64.wrap (a0.2.2 * 6364136223846793005)) + 1442695040888963407)))
def FB (a0 : Y79) : Option (Int × Y79):=cond (decide (a0.2.1 < (List.length a0.1 : Int))) (Ad (AK a0.1 a0.2.1) fun e5 => GS a0 (IntKind.i64.wrap (a0.2.1 + 1)) (WZ (IntKind.i64.wrap ((WZ (im (c9 (IntKind.i64.wrap ((IntKind.i64.wrap (a0.2.2 * 6364136223846793005)) + 1442695040888963407)) 33) (c9 (IntKind.i64.wrap ((IntKind.i64.wrap (a0.2.2 * 6364136223846793005)) + 1442695040888963407)) 45)) 255) + (IntKind.i64.wrap e5))) 255)) (GS a0 a0.2.1 (WZ (im (c9 (IntKind.i64.wrap ((IntKind.i64.wrap (a0.2.2 * 6364136223846793005)) + 1442695040888963407)) 33) (c9 (IntKind.i64.wrap ((IntKind.i64.wrap (a0.2.2 * 6364136223846793005)) + 1442695040888963407)) 45)) 255))
theorem Hz {a0 : Y79} {r : Int × Y79} (h : FB a0 = some r) : JD Tryz.prog 91 [aL cu8 a0.1,nI a0.2.1,nI a0.2.2] [] [aL cu8 r.2.1,nI r.2.2.1,nI r.2.2.2] (nI r.1):=by
 unfold FB at h
 refine stp gf rfl (rn 2 rfl (rd (by kernel_rfl) (sd 13 rfl (BB (Ac fun K1 hK1 => rd (by kernel_rfl) (sd 10 rfl (BB ?_)))))))
 have kJ1 : ∀ {x2 : Int} {x3 : Int},GS a0 x2 x3 = some r -> Jn K1 [(0,.box [aL cu8 a0.1,nI x2,nI (IntKind.i64.wrap ((IntKind.i64.wrap (a0.2.2 * 6364136223846793005)) + 1442695040888963407))]),(3,nI x3)]:=by
  intro x2 x3 h σ' hk
  unfold GS at h
  exact hK1 _ (lh hk rfl (rn 1 rfl (Af ((by cases h; exact ⟨.inl rfl,rfl,rfl⟩)))))
 rcases Ab h with ⟨g4,h⟩ | ⟨g4,h⟩
 ·refine qT rfl g4 (rd (by kernel_rfl) (sd 9 rfl (?_)))
  obtain ⟨e5,g6,h⟩:=Aa h
  exact ed rfl (qI rfl gN g6 (sd 5 rfl (BB (rg (sp 9 rfl (evn (kJ1 h _ (okr rfl))))))))
 ·exact qF rfl g4 (Ae (kJ1 h _ (okr rfl)))
def VS (x : Y79) : List V:=[dL cu8 x.1,nI x.2.1,nI x.2.2]
theorem ip (x : Y79) : (VS x).length = 3:=rfl
theorem gX (x : Y79) : erL (VS x) = VS x:=(erc (erD dP _) (erc rfl (erc rfl rfl)))
def TP (x : Y79) : List V:=[aL cu8 x.1,nI x.2.1,nI x.2.2]
theorem io (x : Y79) : (TP x).length = 3:=rfl
theorem gW (x : Y79) : erL (TP x) = VS x:=(erc (erG dP _) (erc rfl (erc rfl rfl)))
def AZ (a0 : Y79) (a1 : Int) : Option (Int × Y79):=cond (decide (a1 <= 0)) (some (0,a0)) (cond (decide (a1 <= 256)) (Ad (FB a0) fun v5 => chk (a1 ≠ 0) (some (Int.tmod v5.1 a1,v5.2))) (Ad (FB a0) fun v8 => Ad (FB v8.2) fun v10 => Ad (FB v10.2) fun v12 => Ad (FB v12.2) fun v14 => chk (a1 ≠ 0) (some (Int.tmod (IntKind.i64.wrap ((IntKind.i64.wrap ((IntKind.i64.wrap ((IntKind.i64.wrap (v8.1 * 16777216)) + (IntKind.i64.wrap (v10.1 * 65536)))) + (IntKind.i64.wrap (v12.1 * 256)))) + v14.1)) a1,v14.2))))
theorem A4 {a0 : Y79} {a1 : Int} {r : Int × Y79} (h : AZ a0 a1 = some r) : JD Tryz.prog 45 [aL cu8 a0.1,nI a0.2.1,nI a0.2.2] [nI a1] [aL cu8 r.2.1,nI r.2.2.1,nI r.2.2.2] (nI r.1):=by
 unfold AZ at h
 refine stp fh rfl (rn 1 rfl (Ac fun K1 hK1 => rn 1 rfl ?_))
 rcases Ab h with ⟨g2,h⟩ | ⟨g2,h⟩
 ·exact qT rfl g2 (rn 1 rfl (Af ((by cases h; exact ⟨.inl rfl,rfl,rfl⟩))))
 ·refine qF rfl g2 (Ae (hK1 _ (Ac fun K3 hK3 => rn 1 rfl ?_)))
  rcases Ab h with ⟨g4,h⟩ | ⟨g4,h⟩
  ·refine qT rfl g4 (rs (sp 1 rfl (?_)))
   obtain ⟨v5,g6,h⟩:=Aa h
   refine qP rfl rfl rfl rfl Ar (Hz g6) (sp 1 rfl (?_))
   obtain ⟨g7,h⟩:=Ah h
   exact qB rfl ⟨rfl,g7⟩ rfl (sp 1 rfl (evn (Af ((by cases h; exact ⟨.inl rfl,rfl,rfl⟩)))))
  ·refine qF rfl g4 (Ae (hK3 _ (rs (sp 1 rfl (?_)))))
   obtain ⟨v8,g9,h⟩:=Aa h
   refine qP rfl rfl rfl rfl Ar (Hz g9) (sp 1 rfl (evn (qk [0,1,5] rfl (rs (sp 1 rfl (?_))))))
   obtain ⟨v10,g11,h⟩:=Aa h
   refine qP rfl rfl rfl rfl Ar (Hz g11) (sp 1 rfl (evn (rs (sp 1 rfl (?_)))))
   obtain ⟨v12,g13,h⟩:=Aa h
   refine qP rfl rfl rfl rfl Ar (Hz g13) (sp 1 rfl (evn (rs (sp 1 rfl (?_)))))
   obtain ⟨v14,g15,h⟩:=Aa h
   refine qP rfl rfl rfl rfl Ar (Hz g15) (sp 1 rfl (evn (rs (sp 11 rfl (?_)))))
   obtain ⟨g16,h⟩:=Ah h
   exact qB rfl ⟨rfl,g16⟩ rfl (sp 1 rfl (evn (Af ((by cases h; exact ⟨.inl rfl,rfl,rfl⟩)))))
def FC (a0 : Y79) (a1 : Int) : Option (Bool × Y79):=Ad (AZ a0 a1) fun v1 => some ((v1.1 == 0),v1.2)
theorem HA {a0 : Y79} {a1 : Int} {r : Bool × Y79} (h : FC a0 a1 = some r) : JD Tryz.prog 48 [aL cu8 a0.1,nI a0.2.1,nI a0.2.2] [nI a1] [aL cu8 r.2.1,nI r.2.2.1,nI r.2.2.2] (.bool r.1):=by
 unfold FC at h
 refine stp fk rfl (rn 1 rfl (rs (sp 2 rfl (?_))))
 obtain ⟨v1,g2,h⟩:=Aa h
 exact qP rfl rfl rfl rfl (qs rfl Ar) (A4 g2) (sp 2 rfl (evn (Af ((by cases h; exact ⟨.inl rfl,rfl,rfl⟩)))))
def HE (a1 : Int) (a2 : Int) (rec : ((List Int) × Int × Int × (List Int)) -> Option ((List Int) × Int × Int × (List Int))) (s : (List Int) × Int × Int × (List Int)) : Option ((List Int) × Int × Int × (List Int)):=match s with
  | (y1,y2,y3,y4) => cond (decide ((List.length y4 : Int) < a1)) (Ad (AZ (y1,y2,y3) a2) fun v8 => chk (List.length y4 + List.length [v8.1] <= lim) (rec (v8.2.1,v8.2.2.1,v8.2.2.2,(y4 ++ [v8.1])))) (some (y1,y2,y3,y4))
def IK (a0 : Y79) (a1 : Int) (a2 : Int) : Option ((List Int) × Y79):=Ad (Al (HE a1 a2) fz (a0.1,a0.2.1,a0.2.2,([] : List Int))) fun o1 => (match o1 with
  | (z2,z3,z4,z5) => (some (z5,(z2,z3,z4))))
theorem MG {a0 : Y79} {a1 : Int} {a2 : Int} {r : (List Int) × Y79} (h : IK a0 a1 a2 = some r) : JD Tryz.prog 94 [aL cu8 a0.1,nI a0.2.1,nI a0.2.2] [nI a1,nI a2] [aL cu8 r.2.1,nI r.2.2.1,nI r.2.2.2] (oL 3 Aq r.1):=by
 unfold IK at h
 refine stp gl rfl (rn 1 rfl (rs (qBs Aq [] rfl rfl rfl AH (sp 1 rfl (evn (Ac fun K1 hK1 => ?_))))))
 obtain ⟨o1,hl,hr1⟩:=Aa h
 have kXB1 : ∀ {z2 : List Int} {z3 : Int} {z4 : Int} {z5 : List Int},(z2,z3,z4,z5) = o1 -> Jn K1 [(0,.box [aL cu8 z2,nI z3,nI z4]),(7,oL 3 Aq z5)]:=by
  intro z2 z3 z4 z5 h σ' hk
  subst h
  replace h:=hr1
  try dsimp only at h
  exact hK1 _ (lh hk rfl (rn 1 rfl (Af ((by cases h; exact ⟨.inl rfl,rfl,rfl⟩)))))
 refine Ax (fun (s : (List Int) × Int × Int × (List Int)) => match s with | (y1,y2,y3,y4) => [(0,.box [aL cu8 y1,nI y2,nI y3]),(1,nI a1),(2,nI a2),(7,oL 3 Aq y4)]) _ _ _ _ hl (okr rfl) (fun _ => rfl) ?_
 rintro m ⟨y1,y2,y3,y4⟩ N h hN
 unfold HE at h
 dsimp only at h
 refine Ac fun K6 hK6 => rn 1 rfl ?_
 rcases Ab h with ⟨g7,h⟩ | ⟨g7,h⟩
 ·refine qT rfl g7 (Ae (hK6 _ (Au (rg (sp 3 rfl (?_))))))
  obtain ⟨v8,g9,h⟩:=Aa h
  refine qP rfl rfl rfl rfl (qs rfl Ar) (A4 g9) (qBs Aq [v8.1] rfl rfl rfl AH (?_))
  obtain ⟨g10,h⟩:=Ah h
  exact qA Aq y4 [v8.1] rfl rfl (Ap AH [v8.1]) rfl g10 (sp 1 rfl (evn (hN _ _ h (okr rfl))))
 ·exact qF rfl g7 (An (kXB1 (Option.some.inj h) _ (okr rfl)))
def HG (a1 : Int) (a3 : Int) (rec : ((List Int) × Int × Int × (List (List Int)) × Int) -> Option ((List Int) × Int × Int × (List (List Int)))) (s : (List Int) × Int × Int × (List (List Int)) × Int) : Option ((List Int) × Int × Int × (List (List Int))):=match s with
  | (y1,y2,y3,y4,y5) => cond (decide (0 < y5)) (Ad (IK (y1,y2,y3) a1 a3) fun v11 => chk (List.length y4 + List.length [v11.1] <= lim) (rec (v11.2.1,v11.2.2.1,v11.2.2.2,(y4 ++ [v11.1]),(IntKind.i64.wrap (y5 - 1))))) (some (y1,y2,y3,y4))
def GG (a0 : Y79) (a1 : Int) (a2 : Int) (a3 : Int) : Option (Y32 × Y79):=Ad (AZ a0 (IntKind.i64.wrap (a2 + 1))) fun v2 => Ad (Al (HG a1 a3) fz (v2.2.1,v2.2.2.1,v2.2.2.2,([] : List (List Int)),v2.1)) fun o1 => (match o1 with
  | (z4,z5,z6,z7) => (Ad (B3 a1 z7) fun v14 => some (v14.1,(z4,z5,z6))))
theorem Jh {a0 : Y79} {a1 : Int} {a2 : Int} {a3 : Int} {r : Y32 × Y79} (h : GG a0 a1 a2 a3 = some r) : JD Tryz.prog 49 [aL cu8 a0.1,nI a0.2.1,nI a0.2.2] [nI a1,nI a2,nI a3] [aL cu8 r.2.1,nI r.2.2.1,nI r.2.2.2] (.agg (GI r.1)):=by
 unfold GG at h
 refine stp fm rfl (rn 1 rfl (rs (qBs Ag [] rfl rfl rfl AW (sp 1 rfl (evn (Ac fun K1 hK1 => rs (sp 3 rfl (?_))))))))
 obtain ⟨v2,g3,h⟩:=Aa h
 refine qP rfl rfl rfl rfl (qs rfl Ar) (A4 g3) (sp 1 rfl (evn ?_))
 obtain ⟨o1,hl,hr1⟩:=Aa h
 have kXB1 : ∀ {z4 : List Int} {z5 : Int} {z6 : Int} {z7 : List (List Int)},(z4,z5,z6,z7) = o1 -> Jn K1 [(0,.box [aL cu8 z4,nI z5,nI z6]),(1,nI a1),(8,.box [nI 0,oL 42 Ag []]),(9,oL 42 Ag z7)]:=by
  intro z4 z5 z6 z7 h σ' hk
  subst h
  replace h:=hr1
  try dsimp only at h
  refine hK1 _ (lh hk rfl (rs (sp 2 rfl (?_))))
  obtain ⟨v14,g15,h⟩:=Aa h
  exact qC (qs rfl (qa rfl (erD AS _) Ar)) (EF g15) (sp 6 rfl (evn (rn 1 rfl (Af ((by cases h; exact ⟨.inl rfl,rfl,rfl⟩))))))
 refine Ax (fun (s : (List Int) × Int × Int × (List (List Int)) × Int) => match s with | (y1,y2,y3,y4,y5) => [(0,.box [aL cu8 y1,nI y2,nI y3]),(1,nI a1),(3,nI a3),(8,.box [nI 0,oL 42 Ag []]),(9,oL 42 Ag y4),(10,nI y5)]) _ _ _ _ hl (okr rfl) (fun _ => rfl) ?_
 rintro m ⟨y1,y2,y3,y4,y5⟩ N h hN
 unfold HG at h
 dsimp only at h
 refine Ac fun K8 hK8 => rn 1 rfl ?_
 rcases Ab h with ⟨g9,h⟩ | ⟨g9,h⟩
 ·refine qT rfl g9 (Ae (hK8 _ (Ac fun K10 hK10 => Au (rg (sp 4 rfl (?_))))))
  obtain ⟨v11,g12,h⟩:=Aa h
  refine qP rfl rfl rfl rfl (qs rfl (qs rfl Ar)) (MG g12) (qBs Ag [v11.1] rfl rfl rfl AW (?_))
  obtain ⟨g13,h⟩:=Ah h
  exact qA Ag y4 [v11.1] rfl rfl (Ap AW [v11.1]) rfl g13 (sp 1 rfl (evn (hK10 _ (rg (sp 3 rfl (evn (hN _ _ h (okr rfl))))))))
 ·exact qF rfl g9 (An (kXB1 (Option.some.inj h) _ (okr rfl)))
def GR (a0 : Y32) (a1 : List Int) : Option (Y32 × Bool):=Ad (EO a0) fun v1 => Ad (AD a0) fun v4 => cond (!v4) (some (v1,false)) (cond ((List.length a1 : Int) != a0.1) (some (v1,false)) (Ad (B5 a1) fun v8 => cond (!v8) (some (v1,false)) (Ad (Fn a0 a1) fun v11 => cond v11.2 (some (v1,false)) (cond ((List.length a0.2 : Int) == 4000) (some (v1,false)) (chk (List.length ([] : List Int) + List.length a1 <= lim) (chk ((0 : Int) <= v11.1 ∧ v11.1 <= (List.length v1.2 : Int) ∧ (List.length v1.2 : Int) <= (List.length v1.2 : Int)) (chk (List.length ([([] : List Int) ++ a1]) + List.length (BX v1.2 v11.1 (List.length v1.2 : Int)) <= lim) (chk ((0 : Int) <= 0 ∧ 0 <= v11.1 ∧ v11.1 <= (List.length v1.2 : Int)) (chk (List.length ([] : List (List Int)) + List.length (BX v1.2 0 v11.1) <= lim) (chk (List.length (([] : List (List Int)) ++ (BX v1.2 0 v11.1)) + List.length (([([] : List Int) ++ a1]) ++ (BX v1.2 v11.1 (List.length v1.2 : Int))) <= lim) (some ((v1.1,(([] : List (List Int)) ++ (BX v1.2 0 v11.1)) ++ (([([] : List Int) ++ a1]) ++ (BX v1.2 v11.1 (List.length v1.2 : Int)))),true))))))))))))
theorem MQ {a0 : Y32} {a1 : List Int} {r : Y32 × Bool} (h : GR a0 a1 = some r) : Ai Tryz.prog 50 [.agg (ER a0),dL Aq a1] (.tup [.agg (ER r.1),.bool r.2]):=by
 unfold GR at h
 refine st fo rfl (rn 1 rfl (rs (sp 1 rfl (?_))))
 obtain ⟨v1,g2,h⟩:=Aa h
 refine qC (qa rfl (erg (erc rfl (erc (erD As _) rfl))) Ar) (GF g2) (sp 2 rfl (evn (Ac fun K3 hK3 => rs (sp 1 rfl (?_)))))
 obtain ⟨v4,g5,h⟩:=Aa h
 refine qC (qa rfl (erg (erc rfl (erc (erD As _) rfl))) Ar) (AJ g5) (sp 2 rfl (?_))
 rcases Ab h with ⟨g6,h⟩ | ⟨g6,h⟩
 ·exact qg 15 g6 rfl (sp 11 rfl (evn (qT rfl rfl (rn 1 rfl (HS [(4,.box [nI v1.1,dL AG v1.2]),(5,.bool false)] ⟨(kb (cwr (cwe rfl (erO AS _) cwn))),kr,trivial⟩ rfl (Af ((by cases h; exact ⟨.inl rfl,rfl⟩))))))))
 ·refine qg 15 g6 rfl (sp 7 rfl (?_))
  rcases Ab h with ⟨g7,h⟩ | ⟨g7,h⟩
  ·exact qg 22 g7 rfl (sp 4 rfl (evn (qT rfl rfl (rn 1 rfl (HS [(4,.box [nI v1.1,dL AG v1.2]),(5,.bool false)] ⟨(kb (cwr (cwe rfl (erO AS _) cwn))),kr,trivial⟩ rfl (Af ((by cases h; exact ⟨.inl rfl,rfl⟩))))))))
  ·refine qg 22 g7 rfl (sp 1 rfl (?_))
   obtain ⟨v8,g9,h⟩:=Aa h
   refine oGR rfl rfl (qC (qa rfl (erD Am _) Ar) (Gk g9) (sp 2 rfl (evn ?_)))
   rcases Ab h with ⟨g10,h⟩ | ⟨g10,h⟩
   ·exact qT rfl g10 (rn 1 rfl (HS [(4,.box [nI v1.1,dL AG v1.2]),(5,.bool false)] ⟨(kb (cwr (cwe rfl (erO AS _) cwn))),kr,trivial⟩ rfl (Af ((by cases h; exact ⟨.inl rfl,rfl⟩)))))
   ·refine qF rfl g10 (Ae (hK3 _ (rs (sp 2 rfl (?_)))))
    obtain ⟨v11,g12,h⟩:=Aa h
    refine qC (qa rfl (erg (erc rfl (erc (erD As _) rfl))) (qa rfl (erD Am _) Ar)) (Jl g12) (sp 5 rfl (evn (Ac fun K13 hK13 => rs (sp 2 rfl (?_)))))
    rcases Ab h with ⟨g14,h⟩ | ⟨g14,h⟩
    ·exact qg 35 g14 rfl (sp 5 rfl (evn (qT rfl rfl (rn 1 rfl (HS [(4,.box [nI v1.1,dL AG v1.2]),(5,.bool false)] ⟨(kb (cwr (cwe rfl (erO AS _) cwn))),kr,trivial⟩ rfl (Af ((by cases h; exact ⟨.inl rfl,rfl⟩))))))))
    ·refine qg 35 g14 rfl (sp 5 rfl (evn ?_))
     rcases Ab h with ⟨g15,h⟩ | ⟨g15,h⟩
     ·exact qT rfl g15 (rn 1 rfl (HS [(4,.box [nI v1.1,dL AG v1.2]),(5,.bool false)] ⟨(kb (cwr (cwe rfl (erO AS _) cwn))),kr,trivial⟩ rfl (Af ((by cases h; exact ⟨.inl rfl,rfl⟩)))))
     ·refine qF rfl g15 (Ae (hK13 _ (rd (by kernel_rfl) (ed rfl (qBs Aq [] rfl rfl rfl AH (sd 1 rfl (?_)))))))
      obtain ⟨g16,h⟩:=Ah h
      refine ed rfl (qA Aq ([] : List Int) a1 rfl rfl (Ap AH a1) (GJ (fun _ => rfl) _) g16 (ed rfl (qBs Ag [([] : List Int) ++ a1] rfl rfl rfl AW (sd 3 rfl (?_)))))
      obtain ⟨g17,h⟩:=Ah h
      refine ed rfl (qSl rfl AW g17 (?_))
      obtain ⟨g18,h⟩:=Ah h
      refine ed rfl (qAd Ag AG AG ([([] : List Int) ++ a1]) (BX v1.2 v11.1 (List.length v1.2 : Int)) rfl rfl (Ap AW (BX v1.2 v11.1 (List.length v1.2 : Int))) (GJ (fun _ => rfl) _) g18 (fun _ => rfl) (fun _ => rfl) (fun _ => rfl) (fun _ => rfl) (sd 1 rfl (BB (rs (qBs Ag [] rfl rfl rfl AW (sp 3 rfl (?_)))))))
      obtain ⟨g19,h⟩:=Ah h
      refine qSl rfl AW g19 (?_)
      obtain ⟨g20,h⟩:=Ah h
      refine qA AG ([] : List (List Int)) (BX v1.2 0 v11.1) rfl rfl (Ap AW (BX v1.2 0 v11.1)) (GJ (fun _ => rfl) _) g20 (sp 1 rfl (?_))
      obtain ⟨g21,h⟩:=Ah h
      exact qA AG (([] : List (List Int)) ++ (BX v1.2 0 v11.1)) (([([] : List Int) ++ a1]) ++ (BX v1.2 v11.1 (List.length v1.2 : Int))) rfl rfl (Ap Bv (([([] : List Int) ++ a1]) ++ (BX v1.2 v11.1 (List.length v1.2 : Int)))) rfl g21 (sp 2 rfl (evn (rn 1 rfl (HS [(4,.box [nI v1.1,dL AG ((([] : List (List Int)) ++ (BX v1.2 0 v11.1)) ++ (([([] : List Int) ++ a1]) ++ (BX v1.2 v11.1 (List.length v1.2 : Int))))]),(5,.bool true)] ⟨(kb (cwr (cwe rfl (erO As _) cwn))),kr,trivial⟩ rfl (Af ((by cases h; exact ⟨.inl rfl,rfl⟩)))))))
def HW (a0 : Y79) (a1 : List (List UInt8)) : Option ((List UInt8) × Y79):=Ad (AZ a0 (List.length a1 : Int)) fun v1 => Ad (AK a1 v1.1) fun e3 => some (e3,v1.2)
theorem LU {a0 : Y79} {a1 : List (List UInt8)} {r : (List UInt8) × Y79} (h : HW a0 a1 = some r) : JD Tryz.prog 51 [aL cu8 a0.1,nI a0.2.1,nI a0.2.2] [dL cst a1] [aL cu8 r.2.1,nI r.2.2.1,nI r.2.2.2] (.str r.1):=by
 unfold HW at h
 refine stp fp rfl (rn 1 rfl (rs (sp 4 rfl (?_))))
 obtain ⟨v1,g2,h⟩:=Aa h
 refine qP rfl rfl rfl rfl (qs rfl Ar) (A4 g2) (?_)
 obtain ⟨e3,g4,h⟩:=Aa h
 exact qI rfl PW g4 (sp 2 rfl (evn (Af ((by cases h; exact ⟨.inl rfl,rfl,rfl⟩)))))
def Dz (a0 : Y79) (a1 : List Int) : Option (Int × Y79):=Ad (AZ a0 (List.length a1 : Int)) fun v1 => Ad (AK a1 v1.1) fun e3 => some (e3,v1.2)
theorem G1 {a0 : Y79} {a1 : List Int} {r : Int × Y79} (h : Dz a0 a1 = some r) : JD Tryz.prog 90 [aL cu8 a0.1,nI a0.2.1,nI a0.2.2] [dL Aq a1] [aL cu8 r.2.1,nI r.2.2.1,nI r.2.2.2] (nI r.1):=by
 unfold Dz at h
 refine stp ge rfl (rn 1 rfl (rs (sp 4 rfl (?_))))
 obtain ⟨v1,g2,h⟩:=Aa h
 refine qP rfl rfl rfl rfl (qs rfl Ar) (A4 g2) (?_)
 obtain ⟨e3,g4,h⟩:=Aa h
 exact qI rfl AH g4 (sp 2 rfl (evn (Af ((by cases h; exact ⟨.inl rfl,rfl,rfl⟩)))))
def EG (x8 : List Int) (x9 : Int) (x10 : Int) (x11 : Int) (x12 : List (List Int)) : Option (Y32 × Y79):=some ((x11,x12),(x8,x9,x10))
def HF (v3 : Y32 × Y79) (v6 : Int × Y79) (x23 : Bool) : Option (Y32 × Y79):=cond x23 (chk (0 < List.length v3.1.2) (Ad (AK v3.1.2 0) fun e27 => chk (0 < List.length e27) (Ad (AK v3.1.2 0) fun e31 => Ad (Dz v6.2 [-1,100,99]) fun v33 => Ad (AK e27 0) fun e35 => EG v33.2.1 v33.2.2.1 v33.2.2.2 v3.1.1 (It v3.1.2 0 (It e27 0 v33.1))))) (EG v6.2.1 v6.2.2.1 v6.2.2.2 v3.1.1 v3.1.2)
def JA (a0 : Y79) : Option (Y32 × Y79):=Ad (AZ a0 4) fun v1 => Ad (GG v1.2 v1.1 6 4) fun v3 => Ad (AZ v3.2 14) fun v6 => cond (v6.1 == 0) (Ad (Dz v6.2 [-1,6,IntKind.i64.wrap (v3.1.1 + 1)]) fun v14 => EG v14.2.1 v14.2.2.1 v14.2.2.2 v14.1 v3.1.2) (cond (v6.1 == 1) (Ad (IK v6.2 (if 0 < v3.1.1 then v3.1.1 else 0) 4) fun v18 => chk (List.length v3.1.2 + List.length [v18.1] <= lim) (EG v18.2.1 v18.2.2.1 v18.2.2.2 v3.1.1 (v3.1.2 ++ [v18.1]))) (cond (v6.1 == 2) (cond (decide (0 < (List.length v3.1.2 : Int))) (HF v3 v6 (decide (0 < v3.1.1))) (HF v3 v6 false)) (EG v6.2.1 v6.2.2.1 v6.2.2.2 v3.1.1 v3.1.2)))
theorem QF {a0 : Y79} {r : Y32 × Y79} (h : JA a0 = some r) : JD Tryz.prog 52 [aL cu8 a0.1,nI a0.2.1,nI a0.2.2] [] [aL cu8 r.2.1,nI r.2.2.1,nI r.2.2.2] (.agg (GI r.1)):=by
 unfold JA at h
 refine stp fq rfl (rn 1 rfl (rs (sp 2 rfl (?_))))
 obtain ⟨v1,g2,h⟩:=Aa h
 refine qP rfl rfl rfl rfl (qs rfl Ar) (A4 g2) (?_)
 obtain ⟨v3,g4,h⟩:=Aa h
 refine qP rfl rfl rfl rfl (qs rfl (qs rfl (qs rfl Ar))) (Jh g4) (sp 2 rfl (evn (Ac fun K5 hK5 => rs (sp 1 rfl (?_)))))
 obtain ⟨v6,g7,h⟩:=Aa h
 refine qP rfl rfl rfl rfl (qs rfl Ar) (A4 g7) (evn (Au (rn 1 rfl ?_)))
 have kJ1 : ∀ {x8 : List Int} {x9 : Int} {x10 : Int} {x11 : Int} {x12 : List (List Int)},EG x8 x9 x10 x11 x12 = some r -> Jn K5 [(0,.box [aL cu8 x8,nI x9,nI x10]),(2,.box [nI 0,oL 42 Ag []]),(3,.box [nI x11,oL 42 Ag x12])]:=by
  intro x8 x9 x10 x11 x12 h σ' hk
  unfold EG at h
  exact hK5 _ (lh hk rfl (rn 1 rfl (Af ((by cases h; exact ⟨.inl rfl,rfl,rfl⟩)))))
 rcases Ab h with ⟨g13,h⟩ | ⟨g13,h⟩
 ·refine qT rfl g13 (rg (sp 4 rfl (qBs Aq [-1,6,IntKind.i64.wrap (v3.1.1 + 1)] rfl rfl rfl AH (?_))))
  obtain ⟨v14,g15,h⟩:=Aa h
  exact qP rfl rfl rfl rfl (qa rfl (erO Am _) Ar) (G1 g15) (sp 2 rfl (evn (kJ1 h _ (okr rfl))))
 ·refine qF rfl g13 (rn 1 rfl ?_)
  rcases Ab h with ⟨g16,h⟩ | ⟨g16,h⟩
  ·refine qT rfl g16 (qk [0,2,3] rfl (Ih (iF (q:=900003) (b:=3) [nI v3.1.1] [] rfl rfl rfl ?_)))
   intro gg17
   refine qk [0,2,3,900003] rfl (rgt 8 (by kernel_rfl) (sd 6 rfl (?_)))
   obtain ⟨v18,g19,h⟩:=Aa h
   refine ed rfl (qP rfl rfl rfl rfl (qs rfl (qs rfl Ar)) (MG g19) (ed rfl (qBs Ag [v18.1] rfl rfl rfl AW (BB (gDs (q:=900003) (b:=22) rfl rfl rfl rfl ?_)))))
   obtain ⟨g20,h⟩:=Ah h
   exact qA Ag v3.1.2 [v18.1] rfl rfl (Ap AW [v18.1]) rfl g20 (sp 2 rfl (evn (kJ1 h _ (okr rfl))))
  ·refine qF rfl g16 (rn 1 rfl ?_)
   rcases Ab h with ⟨g21,h⟩ | ⟨g21,h⟩
   ·refine qT rfl g21 (rk fun K22 hK22 => ?_)
    have kJ2 : ∀ {x23 : Bool},HF v3 v6 x23 = some r -> Jn K22 [(0,.box (TP v6.2)),(2,.box [nI 0,oL 42 Ag []]),(3,.box [nI v3.1.1,oL 42 Ag v3.1.2]),(41,.bool x23)]:=by
     intro x23 h σ' hk
     unfold HF at h
     refine hK22 _ (lh hk rfl ?_)
     rcases Ab h with ⟨g24,h⟩ | ⟨g24,h⟩
     ·refine qT rfl g24 (qk [0,2,3] rfl ?_)
      obtain ⟨g25,h⟩:=Ah h
      refine Ih (gLb (q:=900004) (b:=3) [nI v3.1.1] [] rfl rfl rfl g25 ?_)
      intro gg26 mm26
      refine qk [0,2,3,900004] rfl ?_
      obtain ⟨e27,g28,h⟩:=Aa h
      obtain ⟨g29,h⟩:=Ah h
      refine Ih (gLg (i:=0) (es:=1) 0 rfl rfl AW g28 rfl rfl g29 ?_)
      intro gg30 mm30
      refine qk [0,2,3,900003,900004] rfl (Rl (Rl (rgt 7 (by kernel_rfl) (sd 2 rfl (?_)))))
      obtain ⟨e31,g32,h⟩:=Aa h
      refine ed rfl (qIt rfl rfl rfl rfl g32 (?_))
      refine ed rfl (qLh rfl rfl rfl rfl rfl rfl (gk AW g32 rfl) (?_))
      refine sd 1 rfl (ed rfl (qBs Aq [-1,100,99] rfl rfl rfl AH (?_)))
      obtain ⟨v33,g34,h⟩:=Aa h
      refine ed rfl (qP rfl rfl rfl rfl (qa rfl (erO Am _) Ar) (G1 g34) (BB (S9 ?_)))
      obtain ⟨e35,g36,h⟩:=Aa h
      refine qIt rfl rfl rfl rfl g36 (?_)
      refine qSt (y0:=e35) (i:=0) (es:=1) 0 v33.1 [0,2,3,900004] rfl rfl rfl rfl rfl rfl rfl rfl rfl rfl AH g36 (fun _ => rfl) (sdL (dcc rfl dcn)) (yc (snc (sA (aca (fun _ => rfl) _)) (snc rfl (snc rfl rfl))) (yc (snc rfl (snc rfl rfl)) (yc (snc rfl (snc rfl rfl)) (yc (sgh (sdL (dcf CH _))) yn)))) (?_)
      exact evn (gDg (i:=0) (es:=1) 0 (It e27 0 v33.1) rfl rfl AW g28 rfl (sl rfl) rfl (gDb (q:=900004) (b:=3) [nI v3.1.1] [] rfl rfl rfl (sl rfl) (kJ1 h _ (okr rfl))))
     ·exact qF rfl g24 (Ae (kJ1 h _ (okr rfl)))
    refine sp 5 rfl (?_)
    rcases Ab h with ⟨g37,h⟩ | ⟨g37,h⟩
    ·exact qg 37 g37 rfl (sp 4 rfl (evn (kJ2 h _ (okr rfl))))
    ·exact qg 37 g37 rfl (sp 4 rfl (evn (kJ2 h _ (okr rfl))))
   ·exact qF rfl g21 (Ae (kJ1 h _ (okr rfl)))
def MW (x : Y34) : List V:=[.str x.1,nI x.2.1.1,oL 42 Ag x.2.1.2,nI x.2.2.1,dL AG x.2.2.2]
theorem cI (x : Y34) : (MW x).length = 5:=rfl
theorem ZW (x : Y34) : erL (MW x) = Eo x:=(erc rfl (erc rfl (erc (erO AS _) (erc rfl (erc (erD As _) rfl)))))
def Ek (rec : ((List Int) × Int × Int × Int × (List (List Int)) × Int) -> Option ((List Int) × Int × Int × Int × (List (List Int)))) (y6 : Int) (x21 : List Int) (x22 : Int) (x23 : Int) (x25 : Int) (x26 : List (List Int)) : Option ((List Int) × Int × Int × Int × (List (List Int))):=rec (x21,x22,x23,x25,x26,(IntKind.i64.wrap (y6 + 1)))
def Dk (rec : ((List Int) × Int × Int × Int × (List (List Int)) × Int) -> Option ((List Int) × Int × Int × Int × (List (List Int)))) (e5 : Y88) (y4 : Int) (y5 : List (List Int)) (y6 : Int) (x21 : List Int) (x22 : Int) (x23 : Int) (x24 : Bool) : Option ((List Int) × Int × Int × Int × (List (List Int))):=cond x24 (Ad (AK e5.2.2 y6) fun e28 => Ad (GR (y4,y5) e28) fun v30 => Ek rec y6 x21 x22 x23 v30.1.1 v30.1.2) (Ek rec y6 x21 x22 x23 y4 y5)
def BD (e5 : Y88) (rec : ((List Int) × Int × Int × Int × (List (List Int)) × Int) -> Option ((List Int) × Int × Int × Int × (List (List Int)))) (s : (List Int) × Int × Int × Int × (List (List Int)) × Int) : Option ((List Int) × Int × Int × Int × (List (List Int))):=match s with
  | (y1,y2,y3,y4,y5,y6) => cond (decide (y6 < (List.length e5.2.2 : Int))) (Ad (FC (y1,y2,y3) 3) fun v32 => cond v32.1 (Ad (AK e5.2.2 y6) fun e35 => Dk rec e5 y4 y5 y6 v32.2.1 v32.2.2.1 v32.2.2.2 ((List.length e35 : Int) == (if 0 < (if e5.2.1 < 5 then e5.2.1 else 5) then (if e5.2.1 < 5 then e5.2.1 else 5) else 0))) (Dk rec e5 y4 y5 y6 v32.2.1 v32.2.2.1 v32.2.2.2 false)) (some (y1,y2,y3,y4,y5))
def FR (z15 : Int) (z16 : List (List Int)) (x40 : List Int) (x41 : Int) (x42 : Int) (x43 : List UInt8) (x44 : Int) (x45 : List (List Int)) : Option (Y34 × Y79):=some ((x43,(x44,x45),(z15,z16)),(x40,x41,x42))
def FD (a0 : Y79) (a1 : List Y88) : Option (Y34 × Y79):=cond ((List.length a1 : Int) == 0) (some (([114],(0,[]),(0,[])),a0)) (Ad (AZ a0 (List.length a1 : Int)) fun v3 => Ad (AK a1 v3.1) fun e5 => Ad (GG v3.2 (if 0 < (if e5.2.1 < 5 then e5.2.1 else 5) then (if e5.2.1 < 5 then e5.2.1 else 5) else 0) 3 4) fun v7 => Ad (GG v7.2 (if 0 < (if e5.2.1 < 5 then e5.2.1 else 5) then (if e5.2.1 < 5 then e5.2.1 else 5) else 0) 2 4) fun v9 => Ad (Al (BD e5) fz (v9.2.1,v9.2.2.1,v9.2.2.2,v9.1.1,v9.1.2,0)) fun o1 => (match o1 with
  | (z12,z13,z14,z15,z16) => (Ad (AZ (z12,z13,z14) 14) fun v38 => cond (v38.1 == 0) (Ad (HW v38.2 ([[],[119],[115]])) fun v47 => FR z15 z16 v47.2.1 v47.2.2.1 v47.2.2.2 v47.1 v7.1.1 v7.1.2) (cond (v38.1 == 1) (Ad (JA v38.2) fun v50 => FR z15 z16 v50.2.1 v50.2.2.1 v50.2.2.2 e5.1 v50.1.1 v50.1.2) (FR z15 z16 v38.2.1 v38.2.2.1 v38.2.2.2 e5.1 v7.1.1 v7.1.2)))))
theorem IX {a0 : Y79} {a1 : List Y88} {r : Y34 × Y79} (h : FD a0 a1 = some r) : JD Tryz.prog 18 [aL cu8 a0.1,nI a0.2.1,nI a0.2.2] [.agg [dL AB a1]] [aL cu8 r.2.1,nI r.2.2.1,nI r.2.2.2] (.agg (MW r.1)):=by
 unfold FD at h
 refine stp eF rfl (rn 1 rfl (Ac fun K1 hK1 => rn 1 rfl ?_))
 rcases Ab h with ⟨g2,h⟩ | ⟨g2,h⟩
 ·exact qT rfl g2 (rn 1 rfl (HS [(0,.box (TP a0)),(4,.box [.str [114],nI 0,oL 42 Ag [],nI 0,dL AG []])] ⟨kr,(kb (cwr (cwr (cwr (cwr (cwe rfl rfl cwn)))))),trivial⟩ rfl (Af ((by cases h; exact ⟨.inl rfl,rfl,rfl⟩)))))
 ·refine qF rfl g2 (Ae (hK1 _ (rd (by kernel_rfl) (sd 6 rfl (?_)))))
  obtain ⟨v3,g4,h⟩:=Aa h
  refine ed rfl (qP rfl rfl rfl rfl (qs rfl Ar) (A4 g4) (?_))
  obtain ⟨e5,g6,h⟩:=Aa h
  refine ed rfl (qI rfl Ee g6 (sd 3 rfl (BB (rn 1 rfl (rd (by kernel_rfl) (sd 4 rfl (?_)))))))
  obtain ⟨v7,g8,h⟩:=Aa h
  refine ed rfl (qP rfl rfl rfl rfl (qs rfl (qs rfl (qs rfl Ar))) (Jh g8) (sd 2 rfl (?_)))
  obtain ⟨v9,g10,h⟩:=Aa h
  refine ed rfl (qP rfl rfl rfl rfl (qs rfl (qs rfl (qs rfl Ar))) (Jh g10) (sd 3 rfl (BB (Ac fun K11 hK11 => rn 1 rfl ?_))))
  obtain ⟨o1,hl,hr1⟩:=Aa h
  have kXB1 : ∀ {z12 : List Int} {z13 : Int} {z14 : Int} {z15 : Int} {z16 : List (List Int)},(z12,z13,z14,z15,z16) = o1 -> Jn K11 [(0,.box [aL cu8 z12,nI z13,nI z14]),(4,.box [.str [],nI 0,oL 42 Ag [],nI 0,oL 42 Ag []]),(7,.box [.str e5.1,nI v7.1.1,oL 42 Ag v7.1.2,nI z15,dL AG z16])]:=by
   intro z12 z13 z14 z15 z16 h σ' hk
   subst h
   replace h:=hr1
   try dsimp only at h
   refine hK11 _ (lh hk rfl (Ac fun K37 hK37 => rs (sp 1 rfl (?_))))
   obtain ⟨v38,g39,h⟩:=Aa h
   refine qP rfl rfl rfl rfl (qs rfl Ar) (A4 g39) (evn (Au (rn 1 rfl ?_)))
   have kJ4 : ∀ {x40 : List Int} {x41 : Int} {x42 : Int} {x43 : List UInt8} {x44 : Int} {x45 : List (List Int)},FR z15 z16 x40 x41 x42 x43 x44 x45 = some r -> Jn K37 [(0,.box [aL cu8 x40,nI x41,nI x42]),(4,.box [.str [],nI 0,oL 42 Ag [],nI 0,oL 42 Ag []]),(7,.box [.str x43,nI x44,oL 42 Ag x45,nI z15,dL AG z16])]:=by
    intro x40 x41 x42 x43 x44 x45 h σ' hk
    unfold FR at h
    exact hK37 _ (lh hk rfl (rn 1 rfl (Af ((by cases h; exact ⟨.inl rfl,rfl,rfl⟩)))))
   rcases Ab h with ⟨g46,h⟩ | ⟨g46,h⟩
   ·refine qT rfl g46 (rg (sp 1 rfl (qBs cst [[],[119],[115]] rfl rfl rfl PW (?_))))
    obtain ⟨v47,g48,h⟩:=Aa h
    exact qP rfl rfl rfl rfl (qa rfl (erO gY _) Ar) (LU g48) (sp 2 rfl (evn (kJ4 h _ (okr rfl))))
   ·refine qF rfl g46 (rn 1 rfl ?_)
    rcases Ab h with ⟨g49,h⟩ | ⟨g49,h⟩
    ·refine qT rfl g49 (rg (sp 1 rfl (?_)))
     obtain ⟨v50,g51,h⟩:=Aa h
     exact qP rfl rfl rfl rfl Ar (QF g51) (sp 2 rfl (evn (kJ4 h _ (okr rfl))))
    ·exact qF rfl g49 (Ae (kJ4 h _ (okr rfl)))
  refine Ax (fun (s : (List Int) × Int × Int × Int × (List (List Int)) × Int) => match s with | (y1,y2,y3,y4,y5,y6) => [(0,.box [aL cu8 y1,nI y2,nI y3]),(4,.box [.str [],nI 0,oL 42 Ag [],nI 0,oL 42 Ag []]),(5,.box [.str e5.1,nI e5.2.1,dL AG e5.2.2]),(6,nI (if 0 < (if e5.2.1 < 5 then e5.2.1 else 5) then (if e5.2.1 < 5 then e5.2.1 else 5) else 0)),(7,.box [.str e5.1,nI v7.1.1,oL 42 Ag v7.1.2,nI y4,dL AG y5]),(8,nI y6)]) _ _ _ _ hl ⟨kr,kr,kr,kr,(kb (cwr (cwr (cwr (cwr (cwe rfl (erO AS _) cwn)))))),kr,trivial⟩ (fun _ => rfl) ?_
  rintro m ⟨y1,y2,y3,y4,y5,y6⟩ N h hN
  unfold BD at h
  dsimp only at h
  refine Ac fun K17 hK17 => rn 1 rfl ?_
  rcases Ab h with ⟨g18,h⟩ | ⟨g18,h⟩
  ·refine qT rfl g18 (Ae (hK17 _ (Ac fun K19 hK19 => Au (rk fun K20 hK20 => ?_))))
   have kJ2 : ∀ {x21 : List Int} {x22 : Int} {x23 : Int} {x24 : Bool},Dk (Al (BD e5) m) e5 y4 y5 y6 x21 x22 x23 x24 = some o1 -> Jn K20 [(0,.box [aL cu8 x21,nI x22,nI x23]),(4,.box [.str [],nI 0,oL 42 Ag [],nI 0,oL 42 Ag []]),(5,.box [.str e5.1,nI e5.2.1,dL AG e5.2.2]),(6,nI (if 0 < (if e5.2.1 < 5 then e5.2.1 else 5) then (if e5.2.1 < 5 then e5.2.1 else 5) else 0)),(7,.box [.str e5.1,nI v7.1.1,oL 42 Ag v7.1.2,nI y4,dL AG y5]),(8,nI y6),(57,.bool x24)]:=by
    intro x21 x22 x23 x24 h σ' hk
    unfold Dk at h
    refine hK20 _ (lh hk rfl ?_)
    have kJ3 : ∀ {x25 : Int} {x26 : List (List Int)},Ek (Al (BD e5) m) y6 x21 x22 x23 x25 x26 = some o1 -> Jn K19 [(0,.box [aL cu8 x21,nI x22,nI x23]),(4,.box [.str [],nI 0,oL 42 Ag [],nI 0,oL 42 Ag []]),(5,.box [.str e5.1,nI e5.2.1,dL AG e5.2.2]),(6,nI (if 0 < (if e5.2.1 < 5 then e5.2.1 else 5) then (if e5.2.1 < 5 then e5.2.1 else 5) else 0)),(7,.box [.str e5.1,nI v7.1.1,oL 42 Ag v7.1.2,nI x25,dL AG x26]),(8,nI y6)]:=by
     intro x25 x26 h σ' hk
     unfold Ek at h
     exact hK19 _ (lh hk rfl (rg (sp 3 rfl (evn (hN _ _ h (okr rfl))))))
    rcases Ab h with ⟨g27,h⟩ | ⟨g27,h⟩
    ·refine qT rfl g27 (rgd (by kernel_rfl) (sd 6 rfl (?_)))
     obtain ⟨e28,g29,h⟩:=Aa h
     refine ed rfl (qI rfl Bv g29 (sd 1 rfl (?_)))
     obtain ⟨v30,g31,h⟩:=Aa h
     exact ed rfl (qC (qa rfl (erg (erc rfl (erc (erD As _) rfl))) (qa rfl (erD Am _) Ar)) (MQ g31) (sd 5 rfl (BB (kJ3 h _ (okr rfl)))))
    ·exact qF rfl g27 (Ae (kJ3 h _ (okr rfl)))
   refine sp 1 rfl (?_)
   obtain ⟨v32,g33,h⟩:=Aa h
   refine qP rfl rfl rfl rfl (qs rfl Ar) (HA g33) (sp 1 rfl (?_))
   rcases Ab h with ⟨g34,h⟩ | ⟨g34,h⟩
   ·refine qg 47 g34 rfl (sp 4 rfl (?_))
    obtain ⟨e35,g36,h⟩:=Aa h
    exact oGR rfl rfl (qI rfl Bv g36 (sp 5 rfl (evn (kJ2 h _ (okr rfl)))))
   ·exact qg 47 g34 rfl (sp 10 rfl (evn (kJ2 h _ (okr rfl))))
  ·exact qF rfl g18 (An (kXB1 (Option.some.inj h) _ (okr rfl)))
def FP (a0 : List Y88) : Option (Y29 × Bool):=Ad (A2 a0) fun v2 => cond (!v2) (some (([],[],[]),false)) (Ad (EP a0) fun v5 => some ((v5,[],[]),true))
theorem LR {a0 : List Y88} {r : Y29 × Bool} (h : FP a0 = some r) : Ai Tryz.prog 43 [.agg [dL AB a0]] (.tup [.agg (BR r.1),.bool r.2]):=by
 unfold FP at h
 refine st ff rfl (rn 1 rfl (Ac fun K1 hK1 => rs (sp 1 rfl (?_))))
 obtain ⟨v2,g3,h⟩:=Aa h
 refine qC (qa rfl (erg (erc (erD AM _) rfl)) Ar) (BW g3) (sp 1 rfl (evn ?_))
 rcases Ab h with ⟨g4,h⟩ | ⟨g4,h⟩
 ·exact qT rfl g4 (rn 1 rfl (Af ((by cases h; exact ⟨.inl rfl,rfl⟩))))
 ·refine qF rfl g4 (Ae (hK1 _ (rs (sp 1 rfl (?_)))))
  obtain ⟨v5,g6,h⟩:=Aa h
  exact qC (qa rfl (erg (erc (erD AM _) rfl)) Ar) (GH g6) (sp 2 rfl (evn (rn 1 rfl (Af ((by cases h; exact ⟨.inl rfl,rfl⟩))))))
def Hg (rec : ((List Int) × Int × Int × (List Y88) × Int) -> Option ((List Int) × Int × Int × (List Y88))) (v1 : Int × Y79) (y1 : List Int) (y2 : Int) (y3 : Int) (y4 : List Y88) (y5 : Int) (e11 : List UInt8) (x14 : Int) : Option ((List Int) × Int × Int × (List Y88)):=Ad (Dz (y1,y2,y3) [3,6,9]) fun v15 => Ad (GG v15.2 x14 v15.1 v1.1) fun v17 => chk (List.length y4 + List.length [(e11,v17.1)] <= lim) (rec (v17.2.1,v17.2.2.1,v17.2.2.2,(y4 ++ [(e11,v17.1)]),(IntKind.i64.wrap (y5 + 1))))
def Gr (v1 : Int × Y79) (rec : ((List Int) × Int × Int × (List Y88) × Int) -> Option ((List Int) × Int × Int × (List Y88))) (s : (List Int) × Int × Int × (List Y88) × Int) : Option ((List Int) × Int × Int × (List Y88)):=match s with
  | (y1,y2,y3,y4,y5) => cond (decide (y5 < (List.length ([[114],[115],[116],[117],[118]]) : Int))) (Ad (AK ([[114],[115],[116],[117],[118]]) y5) fun e11 => cond (e11 == [118]) (Hg rec v1 y1 y2 y3 y4 y5 e11 3) (Hg rec v1 y1 y2 y3 y4 y5 e11 2)) (some (y1,y2,y3,y4))
def Iq (x24 : List Int) (x25 : Int) (x26 : Int) (x27 : List Y88) : Option ((List Y88) × Y79):=some (x27,(x24,x25,x26))
def Kv (a0 : Y79) : Option ((List Y88) × Y79):=Ad (Dz a0 [2,3,4,6]) fun v1 => Ad (Al (Gr v1) fz (v1.2.1,v1.2.2.1,v1.2.2.2,([] : List Y88),0)) fun o1 => (match o1 with
  | (z4,z5,z6,z7) => (Ad (FC (z4,z5,z6) 8) fun v22 => cond v22.1 (chk (0 < List.length z7) (Ad (AZ v22.2 5) fun v31 => Ad (AK z7 v31.1) fun e33 => Iq v31.2.1 v31.2.2.1 v31.2.2.2 (It z7 v31.1 (e33.1,(e33.2.1,[]))))) (Iq v22.2.1 v22.2.2.1 v22.2.2.2 z7)))
theorem RB {a0 : Y79} {r : (List Y88) × Y79} (h : Kv a0 = some r) : JD Tryz.prog 44 [aL cu8 a0.1,nI a0.2.1,nI a0.2.2] [] [aL cu8 r.2.1,nI r.2.2.1,nI r.2.2.2] (.agg [oL 89 Aw r.1]):=by
 unfold Kv at h
 refine stp fg rfl (rn 1 rfl (rs (sp 1 rfl (qBk Aq [2,3,4,6] 3 1 (by kernel_rfl) rfl AH (?_)))))
 obtain ⟨v1,g2,h⟩:=Aa h
 refine qP rfl rfl rfl rfl (qa rfl (erO Am _) Ar) (G1 g2) (sp 1 rfl (evn (rn 1 rfl (Ac fun K3 hK3 => rs (qBk cst [[114],[115],[116],[117],[118]] 9 1 (by kernel_rfl) rfl PW (sp 2 rfl (evn ?_)))))))
 obtain ⟨o1,hl,hr1⟩:=Aa h
 have kXB1 : ∀ {z4 : List Int} {z5 : Int} {z6 : Int} {z7 : List Y88},(z4,z5,z6,z7) = o1 -> Jn K3 [(0,.box [aL cu8 z4,nI z5,nI z6]),(2,.box [oL 89 Aw []]),(4,.box [oL 89 Aw z7])]:=by
  intro z4 z5 z6 z7 h σ' hk
  subst h
  replace h:=hr1
  try dsimp only at h
  refine hK3 _ (lh hk rfl (Ac fun K21 hK21 => rs (sp 1 rfl (?_))))
  obtain ⟨v22,g23,h⟩:=Aa h
  refine qP rfl rfl rfl rfl (qs rfl Ar) (HA g23) (evn ?_)
  have kJ3 : ∀ {x24 : List Int} {x25 : Int} {x26 : Int} {x27 : List Y88},Iq x24 x25 x26 x27 = some r -> Jn K21 [(0,.box [aL cu8 x24,nI x25,nI x26]),(2,.box [oL 89 Aw []]),(4,.box [oL 89 Aw x27])]:=by
   intro x24 x25 x26 x27 h σ' hk
   unfold Iq at h
   exact hK21 _ (lh hk rfl (rn 1 rfl (Af ((by cases h; exact ⟨.inl rfl,rfl,rfl⟩)))))
  rcases Ab h with ⟨g28,h⟩ | ⟨g28,h⟩
  ·refine qT rfl g28 (qk [0,2,4] rfl ?_)
   obtain ⟨g29,h⟩:=Ah h
   refine Ih (gLb (q:=900003) (b:=4) [] [] rfl rfl rfl g29 ?_)
   intro gg30 mm30
   refine qk [0,2,4,900003] rfl (Rl (rgt 4 (by kernel_rfl) (sd 3 rfl (?_))))
   obtain ⟨v31,g32,h⟩:=Aa h
   refine ed rfl (qP rfl rfl rfl rfl (qs rfl Ar) (A4 g32) (BB (S9 ?_)))
   obtain ⟨e33,g34,h⟩:=Aa h
   refine qIt rfl rfl rfl rfl g34 (sp 2 rfl (?_))
   refine iV (y0:=e33) (i:=v31.1) (es:=3) (e2:=42) 2 (e33.1,(e33.2.1,[])) [0,2,4] rfl rfl rfl rfl rfl rfl rfl rfl Gt g34 (fun x => sdL (Hl x)) (yc (snc (sA (aca (fun _ => rfl) _)) (snc rfl (snc rfl rfl))) (yc (snc rfl rfl) (yc (snc rfl rfl) yn))) (?_)
   exact evn (gDb (q:=900003) (b:=4) [] [] rfl rfl rfl (sl rfl) (kJ3 h _ (okr rfl)))
  ·exact qF rfl g28 (Ae (kJ3 h _ (okr rfl)))
 refine Ax (fun (s : (List Int) × Int × Int × (List Y88) × Int) => match s with | (y1,y2,y3,y4,y5) => [(0,.box [aL cu8 y1,nI y2,nI y3]),(2,.box [oL 89 Aw []]),(3,nI v1.1),(4,.box [oL 89 Aw y4]),(13,oL 9 cst ([[114],[115],[116],[117],[118]])),(14,nI (List.length ([[114],[115],[116],[117],[118]]) : Int)),(15,nI y5)]) _ _ _ _ hl (okr rfl) (fun _ => rfl) ?_
 rintro m ⟨y1,y2,y3,y4,y5⟩ N h hN
 unfold Gr at h
 dsimp only at h
 refine rn 1 rfl (Ac fun K8 hK8 => ?_)
 rcases Ab h with ⟨g9,h⟩ | ⟨g9,h⟩
 ·refine qT rfl g9 (Ae (hK8 _ (Ac fun K10 hK10 => Au (rs ?_))))
  obtain ⟨e11,g12,h⟩:=Aa h
  refine qI rfl PW g12 (sp 2 rfl (evn (rn 1 rfl (Ac fun K13 hK13 => rn 1 rfl ?_))))
  have kJ2 : ∀ {x14 : Int},Hg (Al (Gr v1) m) v1 y1 y2 y3 y4 y5 e11 x14 = some o1 -> Jn K13 [(0,.box [aL cu8 y1,nI y2,nI y3]),(2,.box [oL 89 Aw []]),(3,nI v1.1),(4,.box [oL 89 Aw y4]),(6,.str e11),(7,nI x14),(13,oL 9 cst ([[114],[115],[116],[117],[118]])),(14,nI (List.length ([[114],[115],[116],[117],[118]]) : Int)),(15,nI y5)]:=by
   intro x14 h σ' hk
   unfold Hg at h
   refine hK13 _ (lh hk rfl (rs (sp 3 rfl (qBs Aq [3,6,9] rfl rfl rfl AH (?_)))))
   obtain ⟨v15,g16,h⟩:=Aa h
   refine qP rfl rfl rfl rfl (qa rfl (erO Am _) Ar) (G1 g16) (sp 1 rfl (?_))
   obtain ⟨v17,g18,h⟩:=Aa h
   refine qP rfl rfl rfl rfl (qs rfl (qs rfl (qs rfl Ar))) (Jh g18) (sp 2 rfl (evn (rg (sp 5 rfl (qBs Aw [(e11,v17.1)] rfl rfl rfl Gt (?_))))))
   obtain ⟨g19,h⟩:=Ah h
   exact qA Aw y4 [(e11,v17.1)] rfl rfl (Ap Gt [(e11,v17.1)]) rfl g19 (sp 2 rfl (evn (hK10 _ (rg (sp 2 rfl (evn (hN _ _ h (okr rfl))))))))
  rcases Ab h with ⟨g20,h⟩ | ⟨g20,h⟩
  ·exact qT rfl g20 (rg (sp 1 rfl (evn (kJ2 h _ (okr rfl)))))
  ·exact qF rfl g20 (Ae (kJ2 h _ (okr rfl)))
 ·exact qF rfl g9 (An (kXB1 (Option.some.inj h) _ (okr rfl)))
def Je (a0 : List Y88) (a1 : Y51) : Option (Y53 × Bool):=Ad (C8 a0 a1) fun v1 => cond (!v1.2) (some (((0,[],[]),(0,[],[])),false)) (Ad (Gs a1) fun v5 => some ((v5,v1.1),true))
theorem Oq {a0 : List Y88} {a1 : Y51} {r : Y53 × Bool} (h : Je a0 a1 = some r) : Ai Tryz.prog 92 [.agg [dL AB a0],.agg (Dg a1)] (.tup [.agg (Ao r.1),.bool r.2]):=by
 unfold Je at h
 refine st gg rfl (rn 1 rfl (rs (sp 2 rfl (?_))))
 obtain ⟨v1,g2,h⟩:=Aa h
 refine qC (qa rfl (erg (erc (erD AM _) rfl)) (qa rfl (erg (erc rfl (erc (erD Bl _) (erc (erD Am _) rfl)))) Ar)) (JT g2) (sp 6 rfl (evn (Ac fun K3 hK3 => rn 1 rfl ?_)))
 rcases Ab h with ⟨g4,h⟩ | ⟨g4,h⟩
 ·exact qT rfl g4 (rn 1 rfl (Af ((by cases h; exact ⟨.inl rfl,rfl⟩))))
 ·refine qF rfl g4 (Ae (hK3 _ (rd (by kernel_rfl) (sd 1 rfl (?_)))))
  obtain ⟨v5,g6,h⟩:=Aa h
  exact ed rfl (qC (qa rfl (erg (erc rfl (erc (erD Bl _) (erc (erD Am _) rfl)))) Ar) (JV g6) (sd 4 rfl (BB (Af ((by cases h; exact ⟨.inl rfl,rfl⟩))))))
def E8 (a0 : Y29) (a1 : Y51) : Option (Y29 × Bool):=Ad (Gn a0) fun v1 => Ad (Je a0.1 a1) fun v3 => Ad (A3 a0) fun v6 => cond (!v6) (some (v1,false)) (cond (!v3.2) (some (v1,false)) (cond ((List.length a0.2.1 : Int) == 4) (some (v1,false)) (chk (List.length v1.2.1 + List.length [v3.1] <= lim) (Ad (Ba v3.1.2) fun v12 => Ad (Ba v12) fun v14 => chk (List.length v1.2.2 + List.length [v14] <= lim) (some ((v1.1,v1.2.1 ++ [v3.1],v1.2.2 ++ [v14]),true))))))
theorem Mx {a0 : Y29} {a1 : Y51} {r : Y29 × Bool} (h : E8 a0 a1 = some r) : Ai Tryz.prog 46 [.agg (AL a0),.agg (Dg a1)] (.tup [.agg (BR r.1),.bool r.2]):=by
 unfold E8 at h
 refine st fi rfl (rn 1 rfl (rs (sp 1 rfl (?_))))
 obtain ⟨v1,g2,h⟩:=Aa h
 refine qC (qa rfl (erg (erc (erD AM _) (erc (erD JL _) (erc (erD Hm _) rfl)))) Ar) (Jk g2) (sp 2 rfl (evn (rs (sp 3 rfl (?_)))))
 obtain ⟨v3,g4,h⟩:=Aa h
 refine qC (qa rfl (erg (erc (erD AM _) rfl)) (qa rfl (erg (erc rfl (erc (erD Bl _) (erc (erD Am _) rfl)))) Ar)) (Oq g4) (sp 6 rfl (evn (Ac fun K5 hK5 => rs (sp 1 rfl (?_)))))
 obtain ⟨v6,g7,h⟩:=Aa h
 refine qC (qa rfl (erg (erc (erD AM _) (erc (erD JL _) (erc (erD Hm _) rfl)))) Ar) (D9 g7) (sp 2 rfl (?_))
 rcases Ab h with ⟨g8,h⟩ | ⟨g8,h⟩
 ·exact qg 21 g8 rfl (sp 9 rfl (evn (qT rfl rfl (rn 1 rfl (qk [4,5] rfl (Af ((by cases h; exact ⟨.inl rfl,rfl⟩))))))))
 ·refine qg 21 g8 rfl (sp 4 rfl (?_))
  rcases Ab h with ⟨g9,h⟩ | ⟨g9,h⟩
  ·exact qg 25 g9 rfl (sp 5 rfl (evn (qT rfl rfl (rn 1 rfl (Af ((by cases h; exact ⟨.inl rfl,rfl⟩)))))))
  ·refine qg 25 g9 rfl (sp 5 rfl (evn ?_))
   rcases Ab h with ⟨g10,h⟩ | ⟨g10,h⟩
   ·exact qT rfl g10 (rn 1 rfl (Af ((by cases h; exact ⟨.inl rfl,rfl⟩))))
   ·refine qF rfl g10 (Ae (hK5 _ (rs (sp 3 rfl (qBs Ao [v3.1] rfl rfl rfl FF (?_))))))
    obtain ⟨g11,h⟩:=Ah h
    refine qA Ao v1.2.1 [v3.1] rfl rfl (Ap FF [v3.1]) rfl g11 (sp 2 rfl (evn (qk [4,6,7] rfl (rd (by kernel_rfl) (sd 4 rfl (?_))))))
    obtain ⟨v12,g13,h⟩:=Aa h
    refine ed rfl (qC (qa rfl (erg (erc rfl (erc (erD AS _) (erc (erD Am _) rfl)))) Ar) (BO g13) (?_))
    obtain ⟨v14,g15,h⟩:=Aa h
    refine ed rfl (qC (qa rfl (erg (erc rfl (erc (erO AS _) (erc (erO Am _) rfl)))) Ar) (BO g15) (ed rfl (qBs Av [v14] rfl rfl rfl Dw (?_))))
    obtain ⟨g16,h⟩:=Ah h
    exact ed rfl (qA Av v1.2.2 [v14] rfl rfl (Ap Dw [v14]) rfl g16 (sd 2 rfl (BB (rn 1 rfl (Af ((by cases h; exact ⟨.inl rfl,rfl⟩)))))))
def II (rec : ((List (List UInt8)) × Int × Int) -> Option ((List (List UInt8)) × Int)) (y3 : Int) (x9 : List (List UInt8)) (x10 : Int) : Option ((List (List UInt8)) × Int):=rec (x9,x10,(IntKind.i64.wrap (y3 + 1)))
def JU (a0 : List UInt8) (a1 : Int) (rec : ((List (List UInt8)) × Int × Int) -> Option ((List (List UInt8)) × Int)) (s : (List (List UInt8)) × Int × Int) : Option ((List (List UInt8)) × Int):=match s with
  | (y1,y2,y3) => cond (decide (y3 < (List.length a0 : Int))) (Ad (AK a0 y3) fun b7 => cond ((UInt8.toNat b7 : Int) == a1) (chk ((0 : Int) <= y2 ∧ y2 <= y3 ∧ y3 <= (List.length a0 : Int)) (chk (List.length y1 + List.length [BX a0 y2 y3] <= lim) (II rec y3 (y1 ++ [BX a0 y2 y3]) (IntKind.i64.wrap (y3 + 1))))) (II rec y3 y1 y2)) (some (y1,y2))
def JB (a0 : List UInt8) (a1 : Int) : Option ((List (List UInt8))):=Ad (Al (JU a0 a1) fz (([] : List (List UInt8)),0,0)) fun o1 => (match o1 with
  | (z2,z3) => (chk ((0 : Int) <= z3 ∧ z3 <= (List.length a0 : Int) ∧ (List.length a0 : Int) <= (List.length a0 : Int)) (chk (List.length z2 + List.length [BX a0 z3 (List.length a0 : Int)] <= lim) (some (z2 ++ [BX a0 z3 (List.length a0 : Int)])))))
theorem Ku {a0 : List UInt8} {a1 : Int} {r : (List (List UInt8))} (h : JB a0 a1 = some r) : Ai Tryz.prog 115 [.str a0,.int .u8 a1] (oL 9 cst r):=by
 unfold JB at h
 refine st aR rfl (rn 1 rfl (rs (qBs cst [] rfl rfl rfl PW (sp 1 rfl (evn (rn 1 rfl (Ac fun K1 hK1 => rn 1 rfl ?_)))))))
 obtain ⟨o1,hl,hr1⟩:=Aa h
 have kXB1 : ∀ {z2 : List (List UInt8)} {z3 : Int},(z2,z3) = o1 -> Jn K1 [(0,.str a0),(5,oL 9 cst z2),(6,nI z3)]:=by
  intro z2 z3 h σ' hk
  subst h
  replace h:=hr1
  try dsimp only at h
  refine hK1 _ (lh hk rfl (rs (sp 3 rfl (?_))))
  obtain ⟨g14,h⟩:=Ah h
  refine qSs rfl g14 (qBs cst [BX a0 z3 (List.length a0 : Int)] rfl rfl rfl PW (?_))
  obtain ⟨g15,h⟩:=Ah h
  exact qA cst z2 [BX a0 z3 (List.length a0 : Int)] rfl rfl (Ap PW [BX a0 z3 (List.length a0 : Int)]) rfl g15 (sp 1 rfl (evn (Af ((by cases h; exact ⟨.inl rfl,rfl⟩)))))
 refine Ax (fun (s : (List (List UInt8)) × Int × Int) => match s with | (y1,y2,y3) => [(0,.str a0),(1,.int .u8 a1),(5,oL 9 cst y1),(6,nI y2),(7,nI y3)]) _ _ _ _ hl (okr rfl) (fun _ => rfl) ?_
 rintro m ⟨y1,y2,y3⟩ N h hN
 unfold JU at h
 dsimp only at h
 refine Ac fun K4 hK4 => rn 1 rfl ?_
 rcases Ab h with ⟨g5,h⟩ | ⟨g5,h⟩
 ·refine qT rfl g5 (Ae (hK4 _ (Ac fun K6 hK6 => Au (rs (sp 2 rfl (?_))))))
  obtain ⟨b7,g8,h⟩:=Aa h
  refine qX rfl g8 (sp 2 rfl (evn ?_))
  have kJ2 : ∀ {x9 : List (List UInt8)} {x10 : Int},II (Al (JU a0 a1) m) y3 x9 x10 = some o1 -> Jn K6 [(0,.str a0),(1,.int .u8 a1),(5,oL 9 cst x9),(6,nI x10),(7,nI y3)]:=by
   intro x9 x10 h σ' hk
   unfold II at h
   exact hK6 _ (lh hk rfl (rg (sp 3 rfl (evn (hN _ _ h (okr rfl))))))
  rcases Ab h with ⟨g11,h⟩ | ⟨g11,h⟩
  ·refine qT rfl g11 (rs (sp 4 rfl (?_)))
   obtain ⟨g12,h⟩:=Ah h
   refine qSs rfl g12 (qBs cst [BX a0 y2 y3] rfl rfl rfl PW (?_))
   obtain ⟨g13,h⟩:=Ah h
   exact qA cst y1 [BX a0 y2 y3] rfl rfl (Ap PW [BX a0 y2 y3]) rfl g13 (sp 1 rfl (evn (rg (sp 3 rfl (evn (kJ2 h _ (okr rfl)))))))
  ·exact qF rfl g11 (Ae (kJ2 h _ (okr rfl)))
 ·exact qF rfl g5 (An (kXB1 (Option.some.inj h) _ (okr rfl)))
def Fc (a0 : Int) : Option ((List UInt8)):=Ad (Du a0 0 4) fun v2 => cond (!v2) (some []) (chk ((0 : Int) <= a0 ∧ a0 <= IntKind.i64.wrap (a0 + 1) ∧ IntKind.i64.wrap (a0 + 1) <= (List.length [88,89,90,85,86] : Int)) (some (BX [88,89,90,85,86] a0 (IntKind.i64.wrap (a0 + 1)))))
theorem Ha {a0 : Int} {r : (List UInt8)} (h : Fc a0 = some r) : Ai Tryz.prog 117 [nI a0] (.str r):=by
 unfold Fc at h
 refine st aT rfl (rn 1 rfl (Ac fun K1 hK1 => rs (sp 1 rfl (?_))))
 obtain ⟨v2,g3,h⟩:=Aa h
 refine qC (qs rfl (qs rfl (qs rfl Ar))) (Dj g3) (sp 1 rfl (evn ?_))
 rcases Ab h with ⟨g4,h⟩ | ⟨g4,h⟩
 ·exact qT rfl g4 (rn 1 rfl (Af ((by cases h; exact ⟨.inl rfl,rfl⟩))))
 ·refine qF rfl g4 (Ae (hK1 _ (rs (sp 3 rfl (?_)))))
  obtain ⟨g5,h⟩:=Ah h
  exact qSs rfl g5 (sp 1 rfl (evn (Af ((by cases h; exact ⟨.inl rfl,rfl⟩)))))
def H8 (rec : ((List Int) × Int) -> Option ((List Int))) (y8 : Int) (x13 : List Int) : Option ((List Int)):=rec (x13,(IntKind.i64.wrap (y8 + 1)))
def Jm (a0 : List UInt8) (y4 : Int) (rec : ((List Int) × Int) -> Option ((List Int))) (s : (List Int) × Int) : Option ((List Int)):=match s with
  | (y7,y8) => cond (decide (y8 < 5)) (Ad (Fc y8) fun v10 => chk ((0 : Int) <= y4 ∧ y4 <= IntKind.i64.wrap (y4 + 1) ∧ IntKind.i64.wrap (y4 + 1) <= (List.length a0 : Int)) (cond (v10 == (BX a0 y4 (IntKind.i64.wrap (y4 + 1)))) (chk (List.length y7 + List.length [y8] <= lim) (H8 rec y8 (y7 ++ [y8]))) (H8 rec y8 y7))) (some y7)
def KT (a0 : List UInt8) (rec : ((List Int) × Int) -> Option ((List Int))) (s : (List Int) × Int) : Option ((List Int)):=match s with
  | (y3,y4) => cond (decide (y4 < (List.length a0 : Int))) (Ad (Al (Jm a0 y4) fz (y3,0)) fun z6 => rec (z6,(IntKind.i64.wrap (y4 + 1)))) (some y3)
def JW (a0 : List UInt8) : Option ((List Int)):=Ad (Al (KT a0) fz (([] : List Int),0)) fun z2 => some z2
theorem LX {a0 : List UInt8} {r : (List Int)} (h : JW a0 = some r) : Ai Tryz.prog 116 [.str a0] (oL 3 Aq r):=by
 unfold JW at h
 refine st aS rfl (rn 1 rfl (rs (qBs Aq [] rfl rfl rfl AH (sp 1 rfl (evn (Ac fun K1 hK1 => rn 1 rfl ?_))))))
 obtain ⟨o1,hl,hr1⟩:=Aa h
 have kXB1 : ∀ {z2 : List Int},z2 = o1 -> Jn K1 [(3,oL 3 Aq z2)]:=by
  intro z2 h σ' hk
  subst h
  replace h:=hr1
  try dsimp only at h
  exact hK1 _ (lh hk rfl (rn 1 rfl (Af ((by cases h; exact ⟨.inl rfl,rfl⟩)))))
 refine Ax (fun (s : (List Int) × Int) => match s with | (y3,y4) => [(0,.str a0),(3,oL 3 Aq y3),(4,nI y4)]) _ _ _ _ hl (okr rfl) (fun _ => rfl) ?_
 rintro m ⟨y3,y4⟩ N h hN
 unfold KT at h
 dsimp only at h
 refine Ac fun K3 hK3 => rn 1 rfl ?_
 rcases Ab h with ⟨g4,h⟩ | ⟨g4,h⟩
 ·refine qT rfl g4 (Ae (hK3 _ (Ac fun K5 hK5 => Au (rn 1 rfl ?_))))
  obtain ⟨o2,hl,hr2⟩:=Aa h
  have kXB2 : ∀ {z6 : List Int},z6 = o2 -> Jn K5 [(0,.str a0),(3,oL 3 Aq z6),(4,nI y4)]:=by
   intro z6 h σ' hk
   subst h
   replace h:=hr2
   try dsimp only at h
   exact hK5 _ (lh hk rfl (rg (sp 3 rfl (evn (hN _ _ h (okr rfl))))))
  refine Ax (fun (s : (List Int) × Int) => match s with | (y7,y8) => [(0,.str a0),(3,oL 3 Aq y7),(4,nI y4),(5,nI y8)]) _ _ _ _ hl (okr rfl) (fun _ => rfl) ?_
  rintro m ⟨y7,y8⟩ N h hN
  unfold Jm at h
  dsimp only at h
  refine Ac fun K7 hK7 => rn 1 rfl ?_
  rcases Ab h with ⟨g8,h⟩ | ⟨g8,h⟩
  ·refine qT rfl g8 (Ae (hK7 _ (Ac fun K9 hK9 => Au (rd (by kernel_rfl) (sd 1 rfl (?_))))))
   obtain ⟨v10,g11,h⟩:=Aa h
   refine ed rfl (qC (qs rfl Ar) (Ha g11) (sd 4 rfl (?_)))
   obtain ⟨g12,h⟩:=Ah h
   refine ed rfl (qSs rfl g12 (sd 1 rfl (BB ?_)))
   have kJ3 : ∀ {x13 : List Int},H8 (Al (Jm a0 y4) m) y8 x13 = some o2 -> Jn K9 [(0,.str a0),(3,oL 3 Aq x13),(4,nI y4),(5,nI y8)]:=by
    intro x13 h σ' hk
    unfold H8 at h
    exact hK9 _ (lh hk rfl (rg (sp 3 rfl (evn (hN _ _ h (okr rfl))))))
   rcases Ab h with ⟨g14,h⟩ | ⟨g14,h⟩
   ·refine qT rfl g14 (rg (sp 2 rfl (qBs Aq [y8] rfl rfl rfl AH (?_))))
    obtain ⟨g15,h⟩:=Ah h
    exact qA Aq y7 [y8] rfl rfl (Ap AH [y8]) rfl g15 (sp 1 rfl (evn (kJ3 h _ (okr rfl))))
   ·exact qF rfl g14 (Ae (kJ3 h _ (okr rfl)))
  ·exact qF rfl g8 (An (kXB2 (Option.some.inj h) _ (okr rfl)))
 ·exact qF rfl g4 (An (kXB1 (Option.some.inj h) _ (okr rfl)))
def KU (a0 : List Int) (rec : ((List UInt8) × Int) -> Option ((List UInt8))) (s : (List UInt8) × Int) : Option ((List UInt8)):=match s with
  | (y1,y2) => cond (decide (y2 < (List.length a0 : Int))) (Ad (AK a0 y2) fun e6 => Ad (Fc e6) fun v8 => chk (List.length y1 + List.length v8 <= lim) (rec ((y1 ++ v8),(IntKind.i64.wrap (y2 + 1))))) (some y1)
def JX (a0 : List Int) : Option ((List UInt8)):=Ad (Al (KU a0) fz ([40],0)) fun z2 => chk (List.length z2 + List.length [41] <= lim) (some (z2 ++ [41]))
theorem LY {a0 : List Int} {r : (List UInt8)} (h : JX a0 = some r) : Ai Tryz.prog 128 [dL Aq a0] (.str r):=by
 unfold JX at h
 refine st bc rfl (rn 2 rfl (Ac fun K1 hK1 => rn 1 rfl ?_))
 obtain ⟨o1,hl,hr1⟩:=Aa h
 have kXB1 : ∀ {z2 : List UInt8},z2 = o1 -> Jn K1 [(3,.str z2)]:=by
  intro z2 h σ' hk
  subst h
  replace h:=hr1
  try dsimp only at h
  refine hK1 _ (lh hk rfl (rs (sp 1 rfl (?_))))
  obtain ⟨g11,h⟩:=Ah h
  exact qB rfl g11 rfl (sp 1 rfl (evn (Af ((by cases h; exact ⟨.inl rfl,rfl⟩)))))
 refine Ax (fun (s : (List UInt8) × Int) => match s with | (y1,y2) => [(0,dL Aq a0),(3,.str y1),(4,nI y2)]) _ _ _ _ hl (okr rfl) (fun _ => rfl) ?_
 rintro m ⟨y1,y2⟩ N h hN
 unfold KU at h
 dsimp only at h
 refine Ac fun K3 hK3 => rn 1 rfl ?_
 rcases Ab h with ⟨g4,h⟩ | ⟨g4,h⟩
 ·refine qT rfl g4 (Ae (hK3 _ (Ac fun K5 hK5 => Au (rg (sp 3 rfl (?_))))))
  obtain ⟨e6,g7,h⟩:=Aa h
  refine qI rfl AH g7 (sp 1 rfl (?_))
  obtain ⟨v8,g9,h⟩:=Aa h
  refine qC (qs rfl Ar) (Ha g9) (?_)
  obtain ⟨g10,h⟩:=Ah h
  exact qB rfl g10 rfl (sp 1 rfl (evn (hK5 _ (rg (sp 3 rfl (evn (hN _ _ h (okr rfl))))))))
 ·exact qF rfl g4 (An (kXB1 (Option.some.inj h) _ (okr rfl)))
def Fx (rec : ((List UInt8) × Int) -> Option ((List UInt8))) (a0 : Y51) (y2 : Int) (x14 : List UInt8) : Option ((List UInt8)):=Ad (AK a0.2.1 y2) fun e15 => chk (List.length x14 + List.length e15.1 <= lim) (Ad (AK a0.2.1 y2) fun e18 => Ad (JX e18.2) fun v20 => chk (List.length (x14 ++ e15.1) + List.length v20 <= lim) (rec (((x14 ++ e15.1) ++ v20),(IntKind.i64.wrap (y2 + 1)))))
def G8 (a0 : Y51) (rec : ((List UInt8) × Int) -> Option ((List UInt8))) (s : (List UInt8) × Int) : Option ((List UInt8)):=match s with
  | (y1,y2) => cond (decide (y2 < (List.length a0.2.1 : Int))) (cond (decide (0 < y2)) (chk (List.length y1 + List.length [44] <= lim) (Fx rec a0 y2 (y1 ++ [44]))) (Fx rec a0 y2 y1)) (some y1)
def Iz (a0 : Y51) : Option ((List UInt8)):=Ad (CS a0) fun v2 => cond (!v2) (some []) (Ad (JX a0.2.2) fun v5 => chk (List.length v5 + List.length [61] <= lim) (Ad (Al (G8 a0) fz ((v5 ++ [61]),0)) fun z9 => some z9))
theorem LQ {a0 : Y51} {r : (List UInt8)} (h : Iz a0 = some r) : Ai Tryz.prog 118 [.agg (Dg a0)] (.str r):=by
 unfold Iz at h
 refine st aU rfl (rn 1 rfl (Ac fun K1 hK1 => rs (sp 1 rfl (?_))))
 obtain ⟨v2,g3,h⟩:=Aa h
 refine qC (qa rfl (erg (erc rfl (erc (erD Bl _) (erc (erD Am _) rfl)))) Ar) (G9 g3) (sp 1 rfl (evn ?_))
 rcases Ab h with ⟨g4,h⟩ | ⟨g4,h⟩
 ·exact qT rfl g4 (rn 1 rfl (Af ((by cases h; exact ⟨.inl rfl,rfl⟩))))
 ·refine qF rfl g4 (Ae (hK1 _ (rs (sp 2 rfl (?_)))))
  obtain ⟨v5,g6,h⟩:=Aa h
  refine qC (qa rfl (erD Am _) Ar) (LY g6) (?_)
  obtain ⟨g7,h⟩:=Ah h
  refine qB rfl g7 rfl (sp 1 rfl (evn (Ac fun K8 hK8 => rn 1 rfl ?_)))
  obtain ⟨o1,hl,hr1⟩:=Aa h
  have kXB1 : ∀ {z9 : List UInt8},z9 = o1 -> Jn K8 [(3,.str z9)]:=by
   intro z9 h σ' hk
   subst h
   replace h:=hr1
   try dsimp only at h
   exact hK8 _ (lh hk rfl (rn 1 rfl (Af ((by cases h; exact ⟨.inl rfl,rfl⟩)))))
  refine Ax (fun (s : (List UInt8) × Int) => match s with | (y1,y2) => [(1,.box [nI a0.1,dL Bk a0.2.1,dL Aq a0.2.2]),(3,.str y1),(4,nI y2)]) _ _ _ _ hl (okr rfl) (fun _ => rfl) ?_
  rintro m ⟨y1,y2⟩ N h hN
  unfold G8 at h
  dsimp only at h
  refine Ac fun K10 hK10 => rn 1 rfl ?_
  rcases Ab h with ⟨g11,h⟩ | ⟨g11,h⟩
  ·refine qT rfl g11 (Ae (hK10 _ (Ac fun K12 hK12 => Au (Ac fun K13 hK13 => rn 1 rfl ?_))))
   have kJ2 : ∀ {x14 : List UInt8},Fx (Al (G8 a0) m) a0 y2 x14 = some o1 -> Jn K13 [(1,.box [nI a0.1,dL Bk a0.2.1,dL Aq a0.2.2]),(3,.str x14),(4,nI y2)]:=by
    intro x14 h σ' hk
    unfold Fx at h
    refine hK13 _ (lh hk rfl (rgd (by kernel_rfl) (sd 4 rfl (?_))))
    obtain ⟨e15,g16,h⟩:=Aa h
    refine ed rfl (qI rfl FE g16 (sd 2 rfl (?_)))
    obtain ⟨g17,h⟩:=Ah h
    refine ed rfl (qB rfl g17 rfl (sd 3 rfl (?_)))
    obtain ⟨e18,g19,h⟩:=Aa h
    refine ed rfl (qI rfl FE g19 (sd 2 rfl (?_)))
    obtain ⟨v20,g21,h⟩:=Aa h
    refine ed rfl (qC (qa rfl (erD Am _) Ar) (LY g21) (?_))
    obtain ⟨g22,h⟩:=Ah h
    exact ed rfl (qB rfl g22 rfl (sd 1 rfl (BB (hK12 _ (rg (sp 3 rfl (evn (hN _ _ h (okr rfl)))))))))
   rcases Ab h with ⟨g23,h⟩ | ⟨g23,h⟩
   ·refine qT rfl g23 (rg (sp 1 rfl (?_)))
    obtain ⟨g24,h⟩:=Ah h
    exact qB rfl g24 rfl (sp 1 rfl (evn (kJ2 h _ (okr rfl))))
   ·exact qF rfl g23 (Ae (kJ2 h _ (okr rfl)))
  ·exact qF rfl g11 (An (kXB1 (Option.some.inj h) _ (okr rfl)))
def F8 (rec : (Int × Int) -> Option (Int)) (y27 : Int) (x45 : Int) : Option (Int):=rec (x45,(IntKind.i64.wrap (y27 + 1)))
def Hx (v11 : (List (List UInt8))) (y11 : Int) (y23 : Int) (rec : (Int × Int) -> Option (Int)) (s : Int × Int) : Option (Int):=match s with
  | (y26,y27) => cond (decide (y27 < 5)) (Ad (Fc y27) fun v40 => Ad (AK v11 y11) fun e42 => chk ((0 : Int) <= y23 ∧ y23 <= IntKind.i64.wrap (y23 + 1) ∧ IntKind.i64.wrap (y23 + 1) <= (List.length e42 : Int)) (cond (v40 == (BX e42 y23 (IntKind.i64.wrap (y23 + 1)))) (F8 rec y27 (IntKind.i64.wrap (y27 + 1))) (F8 rec y27 y26))) (some y26)
def Jg (v11 : (List (List UInt8))) (y11 : Int) (rec : (Int × Int) -> Option (Int)) (s : Int × Int) : Option (Int):=match s with
  | (y22,y23) => Ad (AK v11 y11) fun e32 => cond (decide (y23 < (List.length e32 : Int))) (Ad (Al (Hx v11 y11 y23) fz (y22,y22)) fun z36 => rec (z36,(IntKind.i64.wrap (y23 + 1)))) (some y22)
def Jf (v11 : (List (List UInt8))) (rec : (Int × (List HI) × Int) -> Option (Int × (List HI))) (s : Int × (List HI) × Int) : Option (Int × (List HI)):=match s with
  | (y9,y10,y11) => cond (decide (y11 < (List.length v11 : Int))) (Ad (AK v11 y11) fun e19 => Ad (JB e19 40) fun v21 => Ad (AK v21 0) fun e23 => Ad (AK v11 y11) fun e25 => Ad (JW e25) fun v27 => chk (List.length y10 + List.length [(e23,v27)] <= lim) (Ad (Al (Jg v11 y11) fz (y9,0)) fun z30 => rec (z30,(y10 ++ [(e23,v27)]),(IntKind.i64.wrap (y11 + 1))))) (some (y9,y10))
def Fb (a0 : List UInt8) : Option (Y51 × Bool):=Ad (JB a0 61) fun v1 => cond ((List.length v1 : Int) != 2) (some ((0,[],[]),false)) (Ad (AK v1 0) fun e5 => Ad (JW e5) fun v7 => Ad (AK v1 1) fun e9 => Ad (JB e9 44) fun v11 => Ad (Al (Jf v11) fz (0,([] : List HI),0)) fun o1 => (match o1 with
  | (z14,z15) => (Ad (Iz (z14,z15,v7)) fun v48 => cond (!(v48 == a0)) (some ((0,[],[]),false)) (cond (a0 == []) (some ((0,[],[]),false)) (some ((z14,z15,v7),true))))))
theorem My {a0 : List UInt8} {r : Y51 × Bool} (h : Fb a0 = some r) : Ai Tryz.prog 93 [.str a0] (.tup [.agg (Mb r.1),.bool r.2]):=by
 unfold Fb at h
 refine st gj rfl (rn 1 rfl (rs (sp 1 rfl (?_))))
 obtain ⟨v1,g2,h⟩:=Aa h
 refine qC (qs rfl (qs rfl Ar)) (Ku g2) (sp 1 rfl (evn (Ac fun K3 hK3 => rn 1 rfl ?_)))
 rcases Ab h with ⟨g4,h⟩ | ⟨g4,h⟩
 ·exact qT rfl g4 (rn 1 rfl (Af ((by cases h; exact ⟨.inl rfl,rfl⟩))))
 ·refine qF rfl g4 (Ae (hK3 _ (rs (sp 1 rfl (?_)))))
  obtain ⟨e5,g6,h⟩:=Aa h
  refine qI rfl PW g6 (sp 1 rfl (?_))
  obtain ⟨v7,g8,h⟩:=Aa h
  refine qC (qs rfl Ar) (LX g8) (sp 3 rfl (evn (rs (sp 1 rfl (?_)))))
  obtain ⟨e9,g10,h⟩:=Aa h
  refine qI rfl PW g10 (sp 1 rfl (?_))
  obtain ⟨v11,g12,h⟩:=Aa h
  refine qC (qs rfl (qs rfl Ar)) (Ku g12) (sp 1 rfl (evn (qk [0,2,5,6] rfl (Ac fun K13 hK13 => rn 1 rfl ?_))))
  obtain ⟨o1,hl,hr1⟩:=Aa h
  have kXB1 : ∀ {z14 : Int} {z15 : List HI},(z14,z15) = o1 -> Jn K13 [(0,.str a0),(2,.box [nI 0,oL 112 Bb [],oL 3 Aq []]),(5,.box [nI z14,oL 112 Bb z15,oL 3 Aq v7])]:=by
   intro z14 z15 h σ' hk
   subst h
   replace h:=hr1
   try dsimp only at h
   refine hK13 _ (lh hk rfl (Ac fun K47 hK47 => rs (sp 1 rfl (?_))))
   obtain ⟨v48,g49,h⟩:=Aa h
   refine qC (qa rfl (erg (erc rfl (erc (erD Md _) (erc (erD Am _) rfl)))) Ar) (LQ g49) (sp 3 rfl (?_))
   rcases Ab h with ⟨g50,h⟩ | ⟨g50,h⟩
   ·exact qg 84 g50 rfl (sp 3 rfl (evn (qT rfl rfl (rn 1 rfl (Af ((by cases h; exact ⟨.inl rfl,rfl⟩)))))))
   ·refine qg 84 g50 rfl (sp 3 rfl (evn ?_))
    rcases Ab h with ⟨g51,h⟩ | ⟨g51,h⟩
    ·exact qT rfl g51 (rn 1 rfl (Af ((by cases h; exact ⟨.inl rfl,rfl⟩))))
    ·exact qF rfl g51 (Ae (hK47 _ (rn 1 rfl (Af ((by cases h; exact ⟨.inl rfl,rfl⟩))))))
  refine Ax (fun (s : Int × (List HI) × Int) => match s with | (y9,y10,y11) => [(0,.str a0),(2,.box [nI 0,oL 112 Bb [],oL 3 Aq []]),(5,.box [nI y9,oL 112 Bb y10,oL 3 Aq v7]),(6,oL 9 cst v11),(7,nI y11)]) _ _ _ _ hl (okr rfl) (fun _ => rfl) ?_
  rintro m ⟨y9,y10,y11⟩ N h hN
  unfold Jf at h
  dsimp only at h
  refine Ac fun K16 hK16 => rn 1 rfl ?_
  rcases Ab h with ⟨g17,h⟩ | ⟨g17,h⟩
  ·refine qT rfl g17 (Ae (hK16 _ (Ac fun K18 hK18 => Au (rs (sp 2 rfl (?_))))))
   obtain ⟨e19,g20,h⟩:=Aa h
   refine qI rfl PW g20 (sp 1 rfl (?_))
   obtain ⟨v21,g22,h⟩:=Aa h
   refine qC (qs rfl (qs rfl Ar)) (Ku g22) (sp 1 rfl (evn (rd (by kernel_rfl) (sd 3 rfl (?_)))))
   obtain ⟨e23,g24,h⟩:=Aa h
   refine ed rfl (qI rfl PW g24 (sd 3 rfl (?_)))
   obtain ⟨e25,g26,h⟩:=Aa h
   refine ed rfl (qI rfl PW g26 (sd 1 rfl (?_)))
   obtain ⟨v27,g28,h⟩:=Aa h
   refine ed rfl (qC (qs rfl Ar) (LX g28) (sd 1 rfl (ed rfl (qBs Bb [(e23,v27)] rfl rfl rfl Kx (?_)))))
   obtain ⟨g29,h⟩:=Ah h
   refine ed rfl (qA Bb y10 [(e23,v27)] rfl rfl (Ap Kx [(e23,v27)]) rfl g29 (sd 2 rfl (BB (rn 1 rfl (qk [0,2,5,6,7,9] rfl ?_)))))
   obtain ⟨o2,hl,hr2⟩:=Aa h
   have kXB2 : ∀ {z30 : Int},z30 = o2 -> Jn K18 [(0,.str a0),(2,.box [nI 0,oL 112 Bb [],oL 3 Aq []]),(5,.box [nI z30,oL 112 Bb (y10 ++ [(e23,v27)]),oL 3 Aq v7]),(6,oL 9 cst v11),(7,nI y11)]:=by
    intro z30 h σ' hk
    subst h
    replace h:=hr2
    try dsimp only at h
    exact hK18 _ (lh hk rfl (rg (sp 3 rfl (evn (hN _ _ h (okr rfl))))))
   refine Ax (fun (s : Int × Int) => match s with | (y22,y23) => [(0,.str a0),(2,.box [nI 0,oL 112 Bb [],oL 3 Aq []]),(5,.box [nI y22,oL 112 Bb (y10 ++ [(e23,v27)]),oL 3 Aq v7]),(6,oL 9 cst v11),(7,nI y11),(9,nI y23)]) _ _ _ _ hl (okr rfl) (fun _ => rfl) ?_
   rintro m ⟨y22,y23⟩ N h hN
   unfold Jg at h
   dsimp only at h
   refine Ac fun K31 hK31 => rs (sp 3 rfl (?_))
   obtain ⟨e32,g33,h⟩:=Aa h
   refine qI rfl PW g33 (sp 3 rfl (evn ?_))
   rcases Ab h with ⟨g34,h⟩ | ⟨g34,h⟩
   ·refine qT rfl g34 (Ae (hK31 _ (Ac fun K35 hK35 => Au (rn 1 rfl ?_))))
    obtain ⟨o3,hl,hr3⟩:=Aa h
    have kXB3 : ∀ {z36 : Int},z36 = o3 -> Jn K35 [(0,.str a0),(2,.box [nI 0,oL 112 Bb [],oL 3 Aq []]),(5,.box [nI z36,oL 112 Bb (y10 ++ [(e23,v27)]),oL 3 Aq v7]),(6,oL 9 cst v11),(7,nI y11),(9,nI y23)]:=by
     intro z36 h σ' hk
     subst h
     replace h:=hr3
     try dsimp only at h
     exact hK35 _ (lh hk rfl (rg (sp 3 rfl (evn (hN _ _ h (okr rfl))))))
    refine Ax (fun (s : Int × Int) => match s with | (y26,y27) => [(0,.str a0),(2,.box [nI 0,oL 112 Bb [],oL 3 Aq []]),(5,.box [nI y26,oL 112 Bb (y10 ++ [(e23,v27)]),oL 3 Aq v7]),(6,oL 9 cst v11),(7,nI y11),(9,nI y23),(10,nI y27)]) _ _ _ _ hl (okr rfl) (fun _ => rfl) ?_
    rintro m ⟨y26,y27⟩ N h hN
    unfold Hx at h
    dsimp only at h
    refine Ac fun K37 hK37 => rn 1 rfl ?_
    rcases Ab h with ⟨g38,h⟩ | ⟨g38,h⟩
    ·refine qT rfl g38 (Ae (hK37 _ (Ac fun K39 hK39 => Au (rd (by kernel_rfl) (sd 1 rfl (?_))))))
     obtain ⟨v40,g41,h⟩:=Aa h
     refine ed rfl (qC (qs rfl Ar) (Ha g41) (sd 2 rfl (?_)))
     obtain ⟨e42,g43,h⟩:=Aa h
     refine ed rfl (qI rfl PW g43 (sd 4 rfl (?_)))
     obtain ⟨g44,h⟩:=Ah h
     refine ed rfl (qSs rfl g44 (sd 1 rfl (BB ?_)))
     have kJ4 : ∀ {x45 : Int},F8 (Al (Hx v11 y11 y23) m) y27 x45 = some o3 -> Jn K39 [(0,.str a0),(2,.box [nI 0,oL 112 Bb [],oL 3 Aq []]),(5,.box [nI x45,oL 112 Bb (y10 ++ [(e23,v27)]),oL 3 Aq v7]),(6,oL 9 cst v11),(7,nI y11),(9,nI y23),(10,nI y27)]:=by
      intro x45 h σ' hk
      unfold F8 at h
      exact hK39 _ (lh hk rfl (rg (sp 3 rfl (evn (hN _ _ h (okr rfl))))))
     rcases Ab h with ⟨g46,h⟩ | ⟨g46,h⟩
     ·exact qT rfl g46 (rg (sp 4 rfl (evn (kJ4 h _ (okr rfl)))))
     ·exact qF rfl g46 (Ae (kJ4 h _ (okr rfl)))
    ·exact qF rfl g38 (An (kXB3 (Option.some.inj h) _ (okr rfl)))
   ·exact qF rfl g34 (An (kXB2 (Option.some.inj h) _ (okr rfl)))
  ·exact qF rfl g17 (An (kXB1 (Option.some.inj h) _ (okr rfl)))
def Fe (v9 : Int × Y79) (rec : ((List Int) × Int × Int × (List Int) × Int) -> Option ((List Int) × Int × Int × (List Int))) (s : (List Int) × Int × Int × (List Int) × Int) : Option ((List Int) × Int × Int × (List Int)):=match s with
  | (y16,y17,y18,y19,y20) => cond (decide (0 < y20)) (Ad (AZ (y16,y17,y18) (IntKind.i64.wrap (1 + v9.1))) fun v33 => chk (List.length y19 + List.length [v33.1] <= lim) (rec (v33.2.1,v33.2.2.1,v33.2.2.2,(y19 ++ [v33.1]),(IntKind.i64.wrap (y20 - 1))))) (some (y16,y17,y18,y19))
def Fd (v9 : Int × Y79) (rec : ((List Int) × Int × Int × (List HI) × Int) -> Option ((List Int) × Int × Int × (List HI))) (s : (List Int) × Int × Int × (List HI) × Int) : Option ((List Int) × Int × Int × (List HI)):=match s with
  | (y6,y7,y8,y9,y10) => cond (decide (0 < y10)) (Ad (AZ (y6,y7,y8) 5) fun v21 => Ad (AK ([[114],[115],[116],[117],[118]]) v21.1) fun e23 => Ad (Al (Fe v9) fz (v21.2.1,v21.2.2.1,v21.2.2.2,([] : List Int),(IntKind.i64.wrap (2 + (IntKind.i64.wrap (Int.tdiv v21.1 4)))))) fun o2 => (match o2 with
  | (z26,z27,z28,z29) => (chk (List.length y9 + List.length [(e23,z29)] <= lim) (rec (z26,z27,z28,(y9 ++ [(e23,z29)]),(IntKind.i64.wrap (y10 - 1))))))) (some (y6,y7,y8,y9))
def Ff (rec : ((List Int) × Int × Int × (List Int) × Int) -> Option ((List Int) × Int × Int × (List Int))) (y25 : Int) (v45 : Bool × Y79) (x47 : List Int) : Option ((List Int) × Int × Int × (List Int)):=rec (v45.2.1,v45.2.2.1,v45.2.2.2,x47,(IntKind.i64.wrap (y25 + 1)))
def C9 (v9 : Int × Y79) (rec : ((List Int) × Int × Int × (List Int) × Int) -> Option ((List Int) × Int × Int × (List Int))) (s : (List Int) × Int × Int × (List Int) × Int) : Option ((List Int) × Int × Int × (List Int)):=match s with
  | (y21,y22,y23,y24,y25) => cond (decide (y25 < (IntKind.i64.wrap (1 + v9.1)))) (Ad (FC (y21,y22,y23) 2) fun v45 => cond v45.1 (chk (List.length [y25] + List.length y24 <= lim) (Ff rec y25 v45 ([y25] ++ y24))) (Ff rec y25 v45 y24)) (some (y21,y22,y23,y24))
def Ir (a0 : Y79) : Option (Y51 × Y79):=Ad (HW a0 ([[40,88,89,90,41,61,114,40,88,89,41,44,115,40,89,90,41,44,116,40,90,88,41],[40,88,89,90,85,41,61,114,40,88,89,41,44,115,40,89,90,41,44,116,40,90,85,41,44,117,40,85,88,41],[40,88,89,90,41,61,114,40,88,89,41,44,115,40,89,90,41],[40,88,41,61,114,40,88,89,41,44,115,40,89,90,41,44,116,40,90,85,41],[40,88,89,90,41,61,118,40,88,89,90,41,44,114,40,88,89,41],[40,88,89,41,61,114,40,88,89,41,44,114,40,89,88,41],[40,88,89,90,85,41,61,118,40,88,89,90,41,44,115,40,90,85,41,44,116,40,85,88,41],[40,88,41,61,114,40,88,88,41],[40,88,89,41,61,114,40,88,90,41,44,115,40,90,89,41,44,114,40,88,85,41,44,115,40,85,89,41],[40,41,61,114,40,88,89,41,44,115,40,89,88,41],[40,88,89,90,85,86,41,61,114,40,88,89,41,44,115,40,89,90,41,44,116,40,90,85,41,44,117,40,85,86,41]])) fun v1 => Ad (Fb v1.1) fun v3 => Ad (FC v1.2 3) fun v6 => cond (!v6.1) (some (v3.1,v6.2)) (Ad (AZ v6.2 4) fun v9 => Ad (AZ v9.2 4) fun v12 => Ad (Al (Fd v9) fz (v12.2.1,v12.2.2.1,v12.2.2.2,([] : List HI),(IntKind.i64.wrap (1 + v12.1)))) fun o1 => (match o1 with
  | (z14,z15,z16,z17) => (Ad (Al (C9 v9) fz (z14,z15,z16,([] : List Int),0)) fun o3 => (match o3 with
  | (z38,z39,z40,z41) => (Ad (CS (IntKind.i64.wrap (1 + v9.1),z17,z41)) fun v51 => cond (!v51) (some (v3.1,(z38,z39,z40))) (some ((IntKind.i64.wrap (1 + v9.1),z17,z41),(z38,z39,z40))))))))
theorem Ox {a0 : Y79} {r : Y51 × Y79} (h : Ir a0 = some r) : JD Tryz.prog 47 [aL cu8 a0.1,nI a0.2.1,nI a0.2.2] [] [aL cu8 r.2.1,nI r.2.2.1,nI r.2.2.2] (.agg (Mb r.1)):=by
 unfold Ir at h
 generalize hkk0 : ([[40,88,89,90,41,61,114,40,88,89,41,44,115,40,89,90,41,44,116,40,90,88,41],[40,88,89,90,85,41,61,114,40,88,89,41,44,115,40,89,90,41,44,116,40,90,85,41,44,117,40,85,88,41],[40,88,89,90,41,61,114,40,88,89,41,44,115,40,89,90,41],[40,88,41,61,114,40,88,89,41,44,115,40,89,90,41,44,116,40,90,85,41],[40,88,89,90,41,61,118,40,88,89,90,41,44,114,40,88,89,41],[40,88,89,41,61,114,40,88,89,41,44,114,40,89,88,41],[40,88,89,90,85,41,61,118,40,88,89,90,41,44,115,40,90,85,41,44,116,40,85,88,41],[40,88,41,61,114,40,88,88,41],[40,88,89,41,61,114,40,88,90,41,44,115,40,90,89,41,44,114,40,88,85,41,44,115,40,85,89,41],[40,41,61,114,40,88,89,41,44,115,40,89,88,41],[40,88,89,90,85,86,41,61,114,40,88,89,41,44,115,40,89,90,41,44,116,40,90,85,41,44,117,40,85,86,41]] : List (List UInt8)) = kk0 at h
 refine stp fj rfl (rn 1 rfl ((rsB cst kk0 9 1 (by subst hkk0; kernel_rfl) (by subst hkk0; rfl) PW (sp 1 rfl (evn (rs (sp 2 rfl (?_))))))))
 obtain ⟨v1,g2,h⟩:=Aa h
 refine qP rfl rfl rfl rfl (qa rfl (erD gY _) Ar) (LU g2) (?_)
 obtain ⟨v3,g4,h⟩:=Aa h
 refine qC (qs rfl Ar) (My g4) (sp 6 rfl (evn (Ac fun K5 hK5 => rs (sp 1 rfl (?_)))))
 obtain ⟨v6,g7,h⟩:=Aa h
 refine qP rfl rfl rfl rfl (qs rfl Ar) (HA g7) (sp 1 rfl (evn ?_))
 rcases Ab h with ⟨g8,h⟩ | ⟨g8,h⟩
 ·exact qT rfl g8 (rn 1 rfl (Af ((by cases h; exact ⟨.inl rfl,rfl,rfl⟩))))
 ·refine qF rfl g8 (Ae (hK5 _ (rs (sp 1 rfl (?_)))))
  obtain ⟨v9,g10,h⟩:=Aa h
  refine qP rfl rfl rfl rfl (qs rfl Ar) (A4 g10) (sp 4 rfl (evn (qk [0,2,4,6] rfl (Ac fun K11 hK11 => rs (sp 1 rfl (?_))))))
  obtain ⟨v12,g13,h⟩:=Aa h
  refine qP rfl rfl rfl rfl (qs rfl Ar) (A4 g13) (sp 2 rfl (evn ?_))
  obtain ⟨o1,hl,hr1⟩:=Aa h
  have kXB1 : ∀ {z14 : List Int} {z15 : Int} {z16 : Int} {z17 : List HI},(z14,z15,z16,z17) = o1 -> Jn K11 [(0,.box [aL cu8 z14,nI z15,nI z16]),(2,.box [nI 0,oL 112 Bb [],oL 3 Aq []]),(4,.box [nI v3.1.1,oL 112 Bb v3.1.2.1,oL 3 Aq v3.1.2.2]),(6,.box [nI (IntKind.i64.wrap (1 + v9.1)),oL 112 Bb z17,oL 3 Aq []])]:=by
   intro z14 z15 z16 z17 h σ' hk
   subst h
   replace h:=hr1
   try dsimp only at h
   refine hK11 _ (lh hk rfl (Ac fun K37 hK37 => rn 1 rfl ?_))
   obtain ⟨o3,hl,hr3⟩:=Aa h
   have kXB3 : ∀ {z38 : List Int} {z39 : Int} {z40 : Int} {z41 : List Int},(z38,z39,z40,z41) = o3 -> Jn K37 [(0,.box [aL cu8 z38,nI z39,nI z40]),(2,.box [nI 0,oL 112 Bb [],oL 3 Aq []]),(4,.box [nI v3.1.1,oL 112 Bb v3.1.2.1,oL 3 Aq v3.1.2.2]),(6,.box [nI (IntKind.i64.wrap (1 + v9.1)),oL 112 Bb z17,oL 3 Aq z41])]:=by
    intro z38 z39 z40 z41 h σ' hk
    subst h
    replace h:=hr3
    try dsimp only at h
    refine hK37 _ (lh hk rfl (Ac fun K50 hK50 => rs (sp 1 rfl (?_))))
    obtain ⟨v51,g52,h⟩:=Aa h
    refine qC (qa rfl (erg (erc rfl (erc (erD Md _) (erc (erD Am _) rfl)))) Ar) (G9 g52) (sp 1 rfl (evn ?_))
    rcases Ab h with ⟨g53,h⟩ | ⟨g53,h⟩
    ·exact qT rfl g53 (rn 1 rfl (Af ((by cases h; exact ⟨.inl rfl,rfl,rfl⟩))))
    ·exact qF rfl g53 (Ae (hK50 _ (rn 1 rfl (Af ((by cases h; exact ⟨.inl rfl,rfl,rfl⟩))))))
   refine Ax (fun (s : (List Int) × Int × Int × (List Int) × Int) => match s with | (y21,y22,y23,y24,y25) => [(0,.box [aL cu8 y21,nI y22,nI y23]),(2,.box [nI 0,oL 112 Bb [],oL 3 Aq []]),(4,.box [nI v3.1.1,oL 112 Bb v3.1.2.1,oL 3 Aq v3.1.2.2]),(6,.box [nI (IntKind.i64.wrap (1 + v9.1)),oL 112 Bb z17,oL 3 Aq y24]),(11,nI y25)]) _ _ _ _ hl (okr rfl) (fun _ => rfl) ?_
   rintro m ⟨y21,y22,y23,y24,y25⟩ N h hN
   unfold C9 at h
   dsimp only at h
   refine Ac fun K42 hK42 => rn 1 rfl ?_
   rcases Ab h with ⟨g43,h⟩ | ⟨g43,h⟩
   ·refine qT rfl g43 (Ae (hK42 _ (Ac fun K44 hK44 => Au (rs (sp 1 rfl (?_))))))
    obtain ⟨v45,g46,h⟩:=Aa h
    refine qP rfl rfl rfl rfl (qs rfl Ar) (HA g46) (evn ?_)
    have kJ4 : ∀ {x47 : List Int},Ff (Al (C9 v9) m) y25 v45 x47 = some o3 -> Jn K44 [(0,.box (TP v45.2)),(2,.box [nI 0,oL 112 Bb [],oL 3 Aq []]),(4,.box [nI v3.1.1,oL 112 Bb v3.1.2.1,oL 3 Aq v3.1.2.2]),(6,.box [nI (IntKind.i64.wrap (1 + v9.1)),oL 112 Bb z17,oL 3 Aq x47]),(11,nI y25)]:=by
     intro x47 h σ' hk
     unfold Ff at h
     exact hK44 _ (lh hk rfl (rg (sp 3 rfl (evn (hN _ _ h (okr rfl))))))
    rcases Ab h with ⟨g48,h⟩ | ⟨g48,h⟩
    ·refine qT rfl g48 (rg (sp 1 rfl (qBs Aq [y25] rfl rfl rfl AH (sp 2 rfl (?_)))))
     obtain ⟨g49,h⟩:=Ah h
     exact qA Aq [y25] y24 rfl rfl (Ap AH y24) rfl g49 (sp 2 rfl (evn (kJ4 h _ (okr rfl))))
    ·exact qF rfl g48 (Ae (kJ4 h _ (okr rfl)))
   ·exact qF rfl g43 (An (kXB3 (Option.some.inj h) _ (okr rfl)))
  refine Ax (fun (s : (List Int) × Int × Int × (List HI) × Int) => match s with | (y6,y7,y8,y9,y10) => [(0,.box [aL cu8 y6,nI y7,nI y8]),(2,.box [nI 0,oL 112 Bb [],oL 3 Aq []]),(4,.box [nI v3.1.1,oL 112 Bb v3.1.2.1,oL 3 Aq v3.1.2.2]),(6,.box [nI (IntKind.i64.wrap (1 + v9.1)),oL 112 Bb y9,oL 3 Aq []]),(7,nI y10)]) _ _ _ _ hl (okr rfl) (fun _ => rfl) ?_
  rintro m ⟨y6,y7,y8,y9,y10⟩ N h hN
  unfold Fd at h
  dsimp only at h
  refine Ac fun K18 hK18 => rn 1 rfl ?_
  rcases Ab h with ⟨g19,h⟩ | ⟨g19,h⟩
  ·refine qT rfl g19 (Ae (hK18 _ (Ac fun K20 hK20 => Au (rs (sp 1 rfl (?_))))))
   obtain ⟨v21,g22,h⟩:=Aa h
   refine qP rfl rfl rfl rfl (qs rfl Ar) (A4 g22) (sp 1 rfl (evn (rs (qBk cst [[114],[115],[116],[117],[118]] 9 1 (by kernel_rfl) rfl PW (sp 1 rfl (?_))))))
   obtain ⟨e23,g24,h⟩:=Aa h
   refine qI rfl PW g24 (sp 4 rfl (evn (Ac fun K25 hK25 => rn 1 rfl ?_)))
   obtain ⟨o2,hl,hr2⟩:=Aa h
   have kXB2 : ∀ {z26 : List Int} {z27 : Int} {z28 : Int} {z29 : List Int},(z26,z27,z28,z29) = o2 -> Jn K25 [(0,.box [aL cu8 z26,nI z27,nI z28]),(2,.box [nI 0,oL 112 Bb [],oL 3 Aq []]),(4,.box [nI v3.1.1,oL 112 Bb v3.1.2.1,oL 3 Aq v3.1.2.2]),(6,.box [nI (IntKind.i64.wrap (1 + v9.1)),oL 112 Bb y9,oL 3 Aq []]),(7,nI y10),(9,.box [.str e23,oL 3 Aq z29])]:=by
    intro z26 z27 z28 z29 h σ' hk
    subst h
    replace h:=hr2
    try dsimp only at h
    refine hK25 _ (lh hk rfl (rg (sp 3 rfl (qBs Bb [(e23,z29)] rfl rfl rfl Kx (?_)))))
    obtain ⟨g36,h⟩:=Ah h
    exact qA Bb y9 [(e23,z29)] rfl rfl (Ap Kx [(e23,z29)]) rfl g36 (sp 2 rfl (evn (hK20 _ (rg (sp 3 rfl (evn (hN _ _ h (okr rfl))))))))
   refine Ax (fun (s : (List Int) × Int × Int × (List Int) × Int) => match s with | (y16,y17,y18,y19,y20) => [(0,.box [aL cu8 y16,nI y17,nI y18]),(2,.box [nI 0,oL 112 Bb [],oL 3 Aq []]),(4,.box [nI v3.1.1,oL 112 Bb v3.1.2.1,oL 3 Aq v3.1.2.2]),(6,.box [nI (IntKind.i64.wrap (1 + v9.1)),oL 112 Bb y9,oL 3 Aq []]),(7,nI y10),(9,.box [.str e23,oL 3 Aq y19]),(10,nI y20)]) _ _ _ _ hl (okr rfl) (fun _ => rfl) ?_
   rintro m ⟨y16,y17,y18,y19,y20⟩ N h hN
   unfold Fe at h
   dsimp only at h
   refine Ac fun K30 hK30 => rn 1 rfl ?_
   rcases Ab h with ⟨g31,h⟩ | ⟨g31,h⟩
   ·refine qT rfl g31 (Ae (hK30 _ (Ac fun K32 hK32 => Au (rgd (by kernel_rfl) (sd 5 rfl (?_))))))
    obtain ⟨v33,g34,h⟩:=Aa h
    refine ed rfl (qP rfl rfl rfl rfl (qs rfl Ar) (A4 g34) (ed rfl (qBs Aq [v33.1] rfl rfl rfl AH (?_))))
    obtain ⟨g35,h⟩:=Ah h
    exact ed rfl (qA Aq y19 [v33.1] rfl rfl (Ap AH [v33.1]) rfl g35 (sd 2 rfl (BB (hK32 _ (rg (sp 3 rfl (evn (hN _ _ h (okr rfl)))))))))
   ·exact qF rfl g31 (An (kXB2 (Option.some.inj h) _ (okr rfl)))
  ·exact qF rfl g19 (An (kXB1 (Option.some.inj h) _ (okr rfl)))
def Hj (x : Y29) : List V:=[oL 89 Aw x.1,oL 54 Ao x.2.1,dL A7 x.2.2]
theorem RG (x : Y29) : (Hj x).length = 3:=rfl
theorem Q0 (x : Y29) : erL (Hj x) = AL x:=(erc (erO DF _) (erc (erO Ci _) (erc (erD Hm _) rfl)))
def El  (rec : ((List Int) × Int × Int × (List Y88) × (List Y53) × (List Y43) × Int) -> Option ((List Int) × Int × Int × (List Y88) × (List Y53) × (List Y43))) (s : (List Int) × Int × Int × (List Y88) × (List Y53) × (List Y43) × Int) : Option ((List Int) × Int × Int × (List Y88) × (List Y53) × (List Y43)):=match s with
  | (y1,y2,y3,y4,y5,y6,y7) => cond (decide (0 < y7)) (Ad (Ir (y1,y2,y3)) fun v17 => Ad (E8 (y4,y5,y6) v17.1) fun v19 => rec (v17.2.1,v17.2.2.1,v17.2.2.2,v19.1.1,v19.1.2.1,v19.1.2.2,(IntKind.i64.wrap (y7 - 1)))) (some (y1,y2,y3,y4,y5,y6))
def Em (x28 : List Y53) (x33 : List Int) (x34 : Int) (x35 : Int) (x36 : List Y88) (x37 : List Y43) : Option (Y29 × Y79):=some ((x36,x28,x37),(x33,x34,x35))
def Dl (x24 : List Int) (x25 : Int) (x26 : Int) (x27 : List Y88) (x28 : List Y53) (x29 : List Y43) : Option (Y29 × Y79):=Ad (AZ (x24,x25,x26) 16) fun v31 => cond (v31.1 == 0) (Ad (FD v31.2 x27) fun v39 => Ad (DN x27 v39.1) fun v41 => Em x28 v39.2.1 v39.2.2.1 v39.2.2.2 v41.1 x29) (cond (v31.1 == 1) (cond (decide (0 < (List.length x29 : Int))) (chk ((0 : Int) <= 1 ∧ 1 <= (List.length x29 : Int) ∧ (List.length x29 : Int) <= (List.length x29 : Int)) (Em x28 v31.2.1 v31.2.2.1 v31.2.2.2 x27 (BX x29 1 (List.length x29 : Int)))) (Em x28 v31.2.1 v31.2.2.1 v31.2.2.2 x27 x29)) (Em x28 v31.2.1 v31.2.2.1 v31.2.2.2 x27 x29))
def HD (a0 : Y79) : Option (Y29 × Y79):=Ad (Kv a0) fun v1 => Ad (FP v1.1) fun v3 => Ad (AZ v1.2 3) fun v6 => Ad (Al El fz (v6.2.1,v6.2.2.1,v6.2.2.2,v3.1.1,v3.1.2.1,v3.1.2.2,v6.1)) fun o1 => (match o1 with
  | (z8,z9,z10,z11,z12,z13) => (Ad (FC (z8,z9,z10) 2) fun v22 => cond v22.1 (Ad (FD v22.2 z11) fun v47 => Ad (DE (z11,z12,z13) v47.1) fun v49 => Dl v47.2.1 v47.2.2.1 v47.2.2.2 v49.1.1 v49.1.2.1 v49.1.2.2) (Dl v22.2.1 v22.2.2.1 v22.2.2.2 z11 z12 z13)))
theorem N7 {a0 : Y79} {r : Y29 × Y79} (h : HD a0 = some r) : JD Tryz.prog 17 [aL cu8 a0.1,nI a0.2.1,nI a0.2.2] [] [aL cu8 r.2.1,nI r.2.2.1,nI r.2.2.2] (.agg (Hj r.1)):=by
 unfold HD at h
 refine stp eE rfl (rn 1 rfl (rs (sp 1 rfl (?_))))
 obtain ⟨v1,g2,h⟩:=Aa h
 refine qP rfl rfl rfl rfl Ar (RB g2) (?_)
 obtain ⟨v3,g4,h⟩:=Aa h
 refine qC (qa rfl (erg (erc (erO DF _) rfl)) Ar) (LR g4) (sp 6 rfl (evn (Ac fun K5 hK5 => rs (sp 1 rfl (?_)))))
 obtain ⟨v6,g7,h⟩:=Aa h
 refine qP rfl rfl rfl rfl (qs rfl Ar) (A4 g7) (sp 1 rfl (evn ?_))
 obtain ⟨o1,hl,hr1⟩:=Aa h
 have kXB1 : ∀ {z8 : List Int} {z9 : Int} {z10 : Int} {z11 : List Y88} {z12 : List Y53} {z13 : List Y43},(z8,z9,z10,z11,z12,z13) = o1 -> Jn K5 [(0,.box [aL cu8 z8,nI z9,nI z10]),(2,.box [oL 89 Aw [],oL 54 Ao [],oL 44 Av []]),(3,.box [oL 89 Aw z11,oL 54 Ao z12,oL 44 Av z13])]:=by
  intro z8 z9 z10 z11 z12 z13 h σ' hk
  subst h
  replace h:=hr1
  try dsimp only at h
  refine hK5 _ (lh hk rfl (Ac fun K21 hK21 => rs (sp 1 rfl (?_))))
  obtain ⟨v22,g23,h⟩:=Aa h
  refine qP rfl rfl rfl rfl (qs rfl Ar) (HA g23) (evn ?_)
  have kJ2 : ∀ {x24 : List Int} {x25 : Int} {x26 : Int} {x27 : List Y88} {x28 : List Y53} {x29 : List Y43},Dl x24 x25 x26 x27 x28 x29 = some r -> Jn K21 [(0,.box [aL cu8 x24,nI x25,nI x26]),(2,.box [oL 89 Aw [],oL 54 Ao [],oL 44 Av []]),(3,.box [oL 89 Aw x27,oL 54 Ao x28,oL 44 Av x29])]:=by
   intro x24 x25 x26 x27 x28 x29 h σ' hk
   unfold Dl at h
   refine hK21 _ (lh hk rfl (Ac fun K30 hK30 => rs (sp 1 rfl (?_))))
   obtain ⟨v31,g32,h⟩:=Aa h
   refine qP rfl rfl rfl rfl (qs rfl Ar) (A4 g32) (evn (Au (rn 1 rfl ?_)))
   have kJ3 : ∀ {x33 : List Int} {x34 : Int} {x35 : Int} {x36 : List Y88} {x37 : List Y43},Em x28 x33 x34 x35 x36 x37 = some r -> Jn K30 [(0,.box [aL cu8 x33,nI x34,nI x35]),(2,.box [oL 89 Aw [],oL 54 Ao [],oL 44 Av []]),(3,.box [oL 89 Aw x36,oL 54 Ao x28,dL A7 x37])]:=by
    intro x33 x34 x35 x36 x37 h σ' hk
    unfold Em at h
    exact hK30 _ (lh hk rfl (rn 1 rfl (Af ((by cases h; exact ⟨.inl rfl,rfl,rfl⟩)))))
   rcases Ab h with ⟨g38,h⟩ | ⟨g38,h⟩
   ·refine qT rfl g38 (rgd (by kernel_rfl) (sd 5 rfl (?_)))
    obtain ⟨v39,g40,h⟩:=Aa h
    refine ed rfl (qP rfl rfl rfl rfl (qa rfl (erg (erc (erD DF _) rfl)) Ar) (IX g40) (?_))
    obtain ⟨v41,g42,h⟩:=Aa h
    exact ed rfl (qC (qa rfl (erg (erc (erD DF _) rfl)) (qa rfl (erg (erc rfl (erc rfl (erc (erO AS _) (erc rfl (erc (erD As _) rfl)))))) Ar)) (HU g42) (sd 5 rfl (BB (kJ3 h _ ⟨kr,kr,(kb (cwr (cwr (cwe rfl (erO Hn _) cwn)))),trivial⟩))))
   ·refine qF rfl g38 (rn 1 rfl ?_)
    rcases Ab h with ⟨g43,h⟩ | ⟨g43,h⟩
    ·refine qT rfl g43 (rn 1 rfl ?_)
     rcases Ab h with ⟨g44,h⟩ | ⟨g44,h⟩
     ·refine qT rfl g44 (rg (sp 2 rfl (?_)))
      obtain ⟨g45,h⟩:=Ah h
      exact qSl rfl Dw g45 (sp 2 rfl (evn (kJ3 h _ ⟨kr,kr,(kb (cwr (cwr (cwe rfl (erD Hn _) cwn)))),trivial⟩)))
     ·exact qF rfl g44 (Ae (kJ3 h _ ⟨kr,kr,(kb (cwr (cwr (cwe rfl (erO Hn _) cwn)))),trivial⟩))
    ·exact qF rfl g43 (Ae (kJ3 h _ ⟨kr,kr,(kb (cwr (cwr (cwe rfl (erO Hn _) cwn)))),trivial⟩))
  rcases Ab h with ⟨g46,h⟩ | ⟨g46,h⟩
  ·refine qT rfl g46 (rgd (by kernel_rfl) (sd 4 rfl (?_)))
   obtain ⟨v47,g48,h⟩:=Aa h
   refine ed rfl (qP rfl rfl rfl rfl (qa rfl (erg (erc (erD DF _) rfl)) Ar) (IX g48) (?_))
   obtain ⟨v49,g50,h⟩:=Aa h
   exact ed rfl (qC (qa rfl (erg (erc (erD DF _) (erc (erD Ci _) (erc (erD Hn _) rfl)))) (qa rfl (erg (erc rfl (erc rfl (erc (erO AS _) (erc rfl (erc (erD As _) rfl)))))) Ar)) (IW g50) (sd 5 rfl (BB (kJ2 h _ (okr rfl)))))
  ·exact qF rfl g46 (Ae (kJ2 h _ (okr rfl)))
 refine Ax (fun (s : (List Int) × Int × Int × (List Y88) × (List Y53) × (List Y43) × Int) => match s with | (y1,y2,y3,y4,y5,y6,y7) => [(0,.box [aL cu8 y1,nI y2,nI y3]),(2,.box [oL 89 Aw [],oL 54 Ao [],oL 44 Av []]),(3,.box [oL 89 Aw y4,oL 54 Ao y5,oL 44 Av y6]),(5,nI y7)]) _ _ _ _ hl (okr rfl) (fun _ => rfl) ?_
 rintro m ⟨y1,y2,y3,y4,y5,y6,y7⟩ N h hN
 unfold El at h
 dsimp only at h
 refine Ac fun K14 hK14 => rn 1 rfl ?_
 rcases Ab h with ⟨g15,h⟩ | ⟨g15,h⟩
 ·refine qT rfl g15 (Ae (hK14 _ (Ac fun K16 hK16 => Au (rgd (by kernel_rfl) (sd 2 rfl (?_))))))
  obtain ⟨v17,g18,h⟩:=Aa h
  refine ed rfl (qP rfl rfl rfl rfl Ar (Ox g18) (?_))
  obtain ⟨v19,g20,h⟩:=Aa h
  exact ed rfl (qC (qa rfl (erg (erc (erD DF _) (erc (erD Ci _) (erc (erD Hn _) rfl)))) (qa rfl (erg (erc rfl (erc (erO Md _) (erc (erO Am _) rfl)))) Ar)) (Mx g20) (sd 4 rfl (BB (hK16 _ (rg (sp 3 rfl (evn (hN _ _ h (okr rfl)))))))))
 ·exact qF rfl g15 (An (kXB1 (Option.some.inj h) _ (okr rfl)))
def Hi (x : Y29) : List V:=[dL Aw x.1,dL Ao x.2.1,dL A7 x.2.2]
theorem RF (x : Y29) : (Hi x).length = 3:=rfl
theorem QZ (x : Y29) : erL (Hi x) = AL x:=(erc (erD DF _) (erc (erD Ci _) (erc (erD Hm _) rfl)))
def C5 (a0 : List Int) : Option (Y29 × Y34):=Ad (Jz a0) fun v1 => Ad (HD v1) fun v3 => Ad (FD v3.2 v3.1.1) fun v5 => some (v3.1,v5.1)
theorem JS {a0 : List Int} {r : Y29 × Y34} (h : C5 a0 = some r) : Ai Tryz.prog 5 [aL cu8 a0] (.tup [.agg (Hi r.1),.agg (MW r.2)]):=by
 unfold C5 at h
 refine st iN rfl (rn 1 rfl (rs (sp 1 rfl (?_))))
 obtain ⟨v1,g2,h⟩:=Aa h
 refine qN rfl rfl rfl rfl (QE g2) (sp 1 rfl (evn (rs (sp 1 rfl (?_)))))
 obtain ⟨v3,g4,h⟩:=Aa h
 refine qP rfl rfl rfl rfl Ar (N7 g4) (sp 2 rfl (evn (rd (by kernel_rfl) (sd 4 rfl (?_)))))
 obtain ⟨v5,g6,h⟩:=Aa h
 exact ed rfl (qP rfl rfl rfl rfl (qa rfl (erg (erc (erD DF _) rfl)) Ar) (IX g6) (sd 2 rfl (BB (Af ((by cases h; exact ⟨.inl rfl,rfl⟩))))))
def Gy (a0 : List UInt8) (rec : Int -> Option (Sum (Unit) (Bool))) (y1 : Int) : Option (Sum (Unit) (Bool)):=cond (decide (y1 < (List.length a0 : Int))) (Ad (AK a0 y1) fun b8 => cond (decide ((UInt8.toNat b8 : Int) < 97)) (some (.inr false)) (Ad (AK a0 y1) fun b11 => cond (decide (122 < (UInt8.toNat b11 : Int))) (some (.inr false)) (rec (IntKind.i64.wrap (y1 + 1))))) (some (.inl ()))
def H1 (a0 : List UInt8) (a1 : Int) : Option (Bool):=cond (decide ((List.length a0 : Int) < 1)) (some false) (cond (decide (a1 < (List.length a0 : Int))) (some false) (Ad (Al (Gy a0) fz 0) fun o1 => (match o1 with
  | .inl _ => (some true)
  | .inr r => some r)))
theorem ML {a0 : List UInt8} {a1 : Int} {r : Bool} (h : H1 a0 a1 = some r) : Ai Tryz.prog 111 [.str a0,nI a1] (.bool r):=by
 unfold H1 at h
 refine st aN rfl (rn 1 rfl (Ac fun K1 hK1 => rs (sp 4 rfl (?_))))
 rcases Ab h with ⟨g2,h⟩ | ⟨g2,h⟩
 ·exact qg 9 g2 rfl (sp 5 rfl (evn (qT rfl rfl (rn 1 rfl (Af ((by cases h; exact ⟨.inl rfl,rfl⟩)))))))
 ·refine qg 9 g2 rfl (sp 5 rfl (evn ?_))
  rcases Ab h with ⟨g3,h⟩ | ⟨g3,h⟩
  ·exact qT rfl g3 (rn 1 rfl (Af ((by cases h; exact ⟨.inl rfl,rfl⟩))))
  ·refine qF rfl g3 (Ae (hK1 _ (Ac fun K4 hK4 => rn 1 rfl (qk [0,5] rfl ?_))))
   obtain ⟨o1,hl,hr1⟩:=Aa h
   have kXB1 : (.inl ()) = o1 -> Jn K4 []:=by
    intro h σ' hk
    subst h
    replace h:=hr1
    try dsimp only at h
    exact hK4 _ (lh hk rfl (rn 1 rfl (Af ((by cases h; exact ⟨.inl rfl,rfl⟩)))))
   refine Ax (fun (y1 : Int) => [(0,.str a0),(5,nI y1)]) _ _ _ _ hl (okr rfl) (fun _ => rfl) ?_
   rintro m y1 N h hN
   unfold Gy at h
   refine Ac fun K5 hK5 => rn 1 rfl ?_
   rcases Ab h with ⟨g6,h⟩ | ⟨g6,h⟩
   ·refine qT rfl g6 (Ae (hK5 _ (Ac fun K7 hK7 => Au (rs (sp 2 rfl (?_))))))
    obtain ⟨b8,g9,h⟩:=Aa h
    refine qX rfl g9 (sp 2 rfl (?_))
    rcases Ab h with ⟨g10,h⟩ | ⟨g10,h⟩
    ·exact qg 25 g10 rfl (sp 5 rfl (evn (qT rfl rfl (rn 1 rfl (Af ((by cases h; cases hr1; exact ⟨.inl rfl,rfl⟩)))))))
    ·refine qg 25 g10 rfl (sp 2 rfl (?_))
     obtain ⟨b11,g12,h⟩:=Aa h
     refine oGR rfl rfl (qX rfl g12 (sp 2 rfl (evn ?_)))
     rcases Ab h with ⟨g13,h⟩ | ⟨g13,h⟩
     ·exact qT rfl g13 (rn 1 rfl (qk [4] rfl (Af ((by cases h; cases hr1; exact ⟨.inl rfl,rfl⟩)))))
     ·exact qF rfl g13 (Ae (hK7 _ (rg (sp 3 rfl (evn (hN _ _ h (okr rfl)))))))
   ·exact qF rfl g6 (An (kXB1 (Option.some.inj h) _ trivial))
def Ef (a0 : List UInt8) : Option (Bool):=Ad (H1 a0 4) fun v1 => some v1
theorem I3 {a0 : List UInt8} {r : Bool} (h : Ef a0 = some r) : Ai Tryz.prog 77 [.str a0] (.bool r):=by
 unfold Ef at h
 refine st fS rfl (rn 1 rfl (rs (sp 1 rfl (?_))))
 obtain ⟨v1,g2,h⟩:=Aa h
 exact qC (qs rfl (qs rfl Ar)) (ML g2) (sp 1 rfl (evn (Af ((by cases h; exact ⟨.inl rfl,rfl⟩)))))
def GO (x2 : Bool) : Option (Bool):=some x2
def Ck (a0 : Int) (a1 : Int) (a2 : Int) : Option (Bool):=cond (decide (a1 <= a0)) (GO (decide (a0 <= a2))) (GO false)
theorem CY {a0 : Int} {a1 : Int} {a2 : Int} {r : Bool} (h : Ck a0 a1 a2 = some r) : Ai Tryz.prog 37 [nI a0,nI a1,nI a2] (.bool r):=by
 unfold Ck at h
 refine st eY rfl (rn 1 rfl (rk fun K1 hK1 => ?_))
 have kJ1 : ∀ {x2 : Bool},GO x2 = some r -> Jn K1 [(6,.bool x2)]:=by
  intro x2 h σ' hk
  unfold GO at h
  exact hK1 _ (lh hk rfl (Af ((by cases h; exact ⟨.inl rfl,rfl⟩))))
 refine sp 4 rfl (?_)
 rcases Ab h with ⟨g3,h⟩ | ⟨g3,h⟩
 ·exact qg 10 g3 rfl (sp 5 rfl (evn (kJ1 h _ (okr rfl))))
 ·exact qg 10 g3 rfl (sp 5 rfl (evn (kJ1 h _ (okr rfl))))
def DY (a0 : List Int) (rec : Int -> Option (Sum (Unit) (Bool))) (y1 : Int) : Option (Sum (Unit) (Bool)):=cond (decide (y1 < (List.length a0 : Int))) (Ad (AK a0 y1) fun e5 => Ad (Ck e5 0 99) fun v7 => cond (!v7) (some (.inr false)) (rec (IntKind.i64.wrap (y1 + 1)))) (some (.inl ()))
def CI (a0 : List Int) : Option (Bool):=Ad (Al (DY a0) fz 0) fun o1 => (match o1 with
  | .inl _ => (some true)
  | .inr r => some r)
theorem If {a0 : List Int} {r : Bool} (h : CI a0 = some r) : Ai Tryz.prog 119 [dL Aq a0] (.bool r):=by
 unfold CI at h
 refine st aV rfl (rn 1 rfl (Ac fun K1 hK1 => rn 1 rfl ?_))
 obtain ⟨o1,hl,hr1⟩:=Aa h
 have kXB1 : (.inl ()) = o1 -> Jn K1 []:=by
  intro h σ' hk
  subst h
  replace h:=hr1
  try dsimp only at h
  exact hK1 _ (lh hk rfl (rn 1 rfl (Af ((by cases h; exact ⟨.inl rfl,rfl⟩)))))
 refine Ax (fun (y1 : Int) => [(5,dL Aq a0),(6,nI (List.length a0 : Int)),(7,nI y1)]) _ _ _ _ hl (okr rfl) (fun _ => rfl) ?_
 rintro m y1 N h hN
 unfold DY at h
 refine rn 1 rfl (Ac fun K2 hK2 => ?_)
 rcases Ab h with ⟨g3,h⟩ | ⟨g3,h⟩
 ·refine qT rfl g3 (Ae (hK2 _ (Ac fun K4 hK4 => Au (rs ?_))))
  obtain ⟨e5,g6,h⟩:=Aa h
  refine qI rfl AH g6 (sp 2 rfl (evn (rs (sp 1 rfl (?_)))))
  obtain ⟨v7,g8,h⟩:=Aa h
  refine qC (qs rfl (qs rfl (qs rfl Ar))) (CY g8) (sp 1 rfl (evn ?_))
  rcases Ab h with ⟨g9,h⟩ | ⟨g9,h⟩
  ·exact qT rfl g9 (rn 1 rfl (Af ((by cases h; cases hr1; exact ⟨.inl rfl,rfl⟩))))
  ·exact qF rfl g9 (Ae (hK4 _ (rg (sp 2 rfl (evn (hN _ _ h (okr rfl)))))))
 ·exact qF rfl g3 (An (kXB1 (Option.some.inj h) _ trivial))
def Ei (a0 : Int) (a1 : Int) : Option (Int):=cond (decide (a0 < a1)) (some (-1)) (cond (decide (a1 < a0)) (some 1) (some 0))
theorem I5 {a0 : Int} {a1 : Int} {r : Int} (h : Ei a0 a1 = some r) : Ai Tryz.prog 133 [nI a0,nI a1] (nI r):=by
 unfold Ei at h
 refine st bh rfl (rn 1 rfl (Ac fun K1 hK1 => Au (rn 1 rfl ?_)))
 rcases Ab h with ⟨g2,h⟩ | ⟨g2,h⟩
 ·exact qT rfl g2 (rn 1 rfl (Af ((by cases h; exact ⟨.inl rfl,rfl⟩))))
 ·refine qF rfl g2 (rn 1 rfl ?_)
  rcases Ab h with ⟨g3,h⟩ | ⟨g3,h⟩
  ·exact qT rfl g3 (rn 1 rfl (Af ((by cases h; exact ⟨.inl rfl,rfl⟩))))
  ·exact qF rfl g3 (Ae (hK1 _ (rn 1 rfl (qk [4] rfl (Af ((by cases h; exact ⟨.inl rfl,rfl⟩)))))))
def DH (a0 : List Int) (a1 : List Int) (rec : Int -> Option (Sum (Unit) (Int))) (y1 : Int) : Option (Sum (Unit) (Int)):=cond (decide (y1 < (List.length a0 : Int))) (cond (decide (y1 < (List.length a1 : Int))) (Ad (AK a0 y1) fun e6 => Ad (AK a1 y1) fun e8 => cond (e6 != e8) (Ad (AK a0 y1) fun e11 => Ad (AK a1 y1) fun e13 => Ad (Ei e11 e13) fun v15 => some (.inr v15)) (rec (IntKind.i64.wrap (y1 + 1)))) (some (.inl ()))) (some (.inl ()))
def Cv (a0 : List Int) (a1 : List Int) : Option (Int):=Ad (Al (DH a0 a1) fz 0) fun o1 => (match o1 with
  | .inl _ => (Ad (Ei (List.length a0 : Int) (List.length a1 : Int)) fun v17 => some v17)
  | .inr r => some r)
theorem F3 {a0 : List Int} {a1 : List Int} {r : Int} (h : Cv a0 a1 = some r) : Ai Tryz.prog 127 [dL Aq a0,dL Aq a1] (nI r):=by
 unfold Cv at h
 refine st bb rfl (rn 1 rfl (Ac fun K1 hK1 => rn 1 rfl ?_))
 obtain ⟨o1,hl,hr1⟩:=Aa h
 have kXB1 : (.inl ()) = o1 -> Jn K1 [(0,dL Aq a0),(1,dL Aq a1)]:=by
  intro h σ' hk
  subst h
  replace h:=hr1
  try dsimp only at h
  refine hK1 _ (lh hk rfl (rs (sp 4 rfl (?_))))
  obtain ⟨v17,g18,h⟩:=Aa h
  exact qC (qs rfl (qs rfl Ar)) (I5 g18) (sp 1 rfl (evn (Af ((by cases h; exact ⟨.inl rfl,rfl⟩)))))
 refine Ax (fun (y1 : Int) => [(0,dL Aq a0),(1,dL Aq a1),(5,nI y1)]) _ _ _ _ hl (okr rfl) (fun _ => rfl) ?_
 rintro m y1 N h hN
 unfold DH at h
 refine Ac fun K2 hK2 => rs (sp 5 rfl (?_))
 rcases Ab h with ⟨g3,h⟩ | ⟨g3,h⟩
 ·refine qg 10 g3 rfl (sp 5 rfl (evn ?_))
  rcases Ab h with ⟨g4,h⟩ | ⟨g4,h⟩
  ·refine qT rfl g4 (Ae (hK2 _ (Ac fun K5 hK5 => Au (rd (by kernel_rfl) (sd 2 rfl (?_))))))
   obtain ⟨e6,g7,h⟩:=Aa h
   refine ed rfl (qI rfl AH g7 (sd 3 rfl (?_)))
   obtain ⟨e8,g9,h⟩:=Aa h
   refine ed rfl (qI rfl AH g9 (sd 2 rfl (BB ?_)))
   rcases Ab h with ⟨g10,h⟩ | ⟨g10,h⟩
   ·refine qT rfl g10 (rd (by kernel_rfl) (sd 2 rfl (?_)))
    obtain ⟨e11,g12,h⟩:=Aa h
    refine ed rfl (qI rfl AH g12 (sd 3 rfl (?_)))
    obtain ⟨e13,g14,h⟩:=Aa h
    refine ed rfl (qI rfl AH g14 (sd 1 rfl (?_)))
    obtain ⟨v15,g16,h⟩:=Aa h
    exact ed rfl (qC (qs rfl (qs rfl Ar)) (I5 g16) (sd 1 rfl (BB (qk [4] rfl (Af ((by cases h; cases hr1; exact ⟨.inl rfl,rfl⟩)))))))
   ·exact qF rfl g10 (Ae (hK5 _ (rg (sp 3 rfl (evn (hN _ _ h (okr rfl)))))))
  ·exact qF rfl g4 (An (kXB1 (Option.some.inj h) _ (okr rfl)))
 ·exact qg 10 g3 rfl (sp 5 rfl (evn (qF rfl rfl (An (kXB1 (Option.some.inj h) _ (okr rfl))))))
def CP (rec : Int -> Option (Sum (Unit) (Bool))) (y1 : Int) (x13 : Bool) : Option (Sum (Unit) (Bool)):=cond x13 (some (.inr false)) (rec (IntKind.i64.wrap (y1 + 1)))
def E6 (a0 : Int) (a1 : List (List Int)) (rec : Int -> Option (Sum (Unit) (Bool))) (y1 : Int) : Option (Sum (Unit) (Bool)):=cond (decide (y1 < (List.length a1 : Int))) (Ad (AK a1 y1) fun e10 => cond ((List.length e10 : Int) != a0) (CP rec y1 true) (Ad (CI e10) fun v16 => cond (!v16) (CP rec y1 true) (cond (decide (0 < y1)) (Ad (AK a1 (IntKind.i64.wrap (y1 - 1))) fun e20 => Ad (Cv e20 e10) fun v22 => CP rec y1 (decide (0 <= v22))) (CP rec y1 false)))) (some (.inl ()))
def EL (a0 : Int) (a1 : List (List Int)) : Option (Bool):=Ad (Ck a0 0 5) fun v2 => cond (!v2) (some false) (cond (decide (4000 < (List.length a1 : Int))) (some false) (Ad (Al (E6 a0 a1) fz 0) fun o1 => (match o1 with
  | .inl _ => (some true)
  | .inr r => some r)))
theorem J0 {a0 : Int} {a1 : List (List Int)} {r : Bool} (h : EL a0 a1 = some r) : Ai Tryz.prog 106 [nI a0,dL AG a1] (.bool r):=by
 unfold EL at h
 refine st aH rfl (rn 1 rfl (Ac fun K1 hK1 => rs (sp 1 rfl (?_))))
 obtain ⟨v2,g3,h⟩:=Aa h
 refine qC (qs rfl (qs rfl (qs rfl Ar))) (CY g3) (sp 2 rfl (?_))
 rcases Ab h with ⟨g4,h⟩ | ⟨g4,h⟩
 ·exact qg 10 g4 rfl (sp 4 rfl (evn (qT rfl rfl (rn 1 rfl (Af ((by cases h; exact ⟨.inl rfl,rfl⟩)))))))
 ·refine qg 10 g4 rfl (sp 4 rfl (evn ?_))
  rcases Ab h with ⟨g5,h⟩ | ⟨g5,h⟩
  ·exact qT rfl g5 (rn 1 rfl (Af ((by cases h; exact ⟨.inl rfl,rfl⟩))))
  ·refine qF rfl g5 (Ae (hK1 _ (Ac fun K6 hK6 => rn 1 rfl (qk [0,1,15,16,17] rfl ?_))))
   obtain ⟨o1,hl,hr1⟩:=Aa h
   have kXB1 : (.inl ()) = o1 -> Jn K6 []:=by
    intro h σ' hk
    subst h
    replace h:=hr1
    try dsimp only at h
    exact hK6 _ (lh hk rfl (rn 1 rfl (Af ((by cases h; exact ⟨.inl rfl,rfl⟩)))))
   refine Ax (fun (y1 : Int) => [(0,nI a0),(1,dL AG a1),(15,dL AG a1),(16,nI (List.length a1 : Int)),(17,nI y1)]) _ _ _ _ hl (okr rfl) (fun _ => rfl) ?_
   rintro m y1 N h hN
   unfold E6 at h
   refine rn 1 rfl (Ac fun K7 hK7 => ?_)
   rcases Ab h with ⟨g8,h⟩ | ⟨g8,h⟩
   ·refine qT rfl g8 (Ae (hK7 _ (Ac fun K9 hK9 => Au (rs (sp 1 rfl (?_))))))
    obtain ⟨e10,g11,h⟩:=Aa h
    refine qI rfl Bv g11 (sp 3 rfl (evn (rk fun K12 hK12 => ?_)))
    have kJ2 : ∀ {x13 : Bool},CP (Al (E6 a0 a1) m) y1 x13 = some o1 -> Jn K12 [(0,nI a0),(1,dL AG a1),(15,dL AG a1),(16,nI (List.length a1 : Int)),(17,nI y1),(44,.bool x13)]:=by
     intro x13 h σ' hk
     unfold CP at h
     refine hK12 _ (lh hk rfl ?_)
     rcases Ab h with ⟨g14,h⟩ | ⟨g14,h⟩
     ·exact qT rfl g14 (rn 1 rfl (Af ((by cases h; cases hr1; exact ⟨.inl rfl,rfl⟩))))
     ·exact qF rfl g14 (Ae (hK9 _ (rg (sp 2 rfl (evn (hN _ _ h (okr rfl)))))))
    refine sp 5 rfl (?_)
    rcases Ab h with ⟨g15,h⟩ | ⟨g15,h⟩
    ·exact qg 26 g15 rfl (sp 18 rfl (evn (kJ2 h _ (okr rfl))))
    ·refine qg 26 g15 rfl (sp 1 rfl (?_))
     obtain ⟨v16,g17,h⟩:=Aa h
     refine oGR rfl rfl (qC (qa rfl (erD Am _) Ar) (If g17) (sp 3 rfl (?_)))
     rcases Ab h with ⟨g18,h⟩ | ⟨g18,h⟩
     ·exact qg 31 g18 rfl (sp 13 rfl (evn (kJ2 h _ (okr rfl))))
     ·refine qg 31 g18 rfl (sp 3 rfl (?_))
      rcases Ab h with ⟨g19,h⟩ | ⟨g19,h⟩
      ·refine qg 34 g19 rfl (sp 3 rfl (?_))
       obtain ⟨e20,g21,h⟩:=Aa h
       refine oGR rfl rfl (qI rfl Bv g21 (sp 2 rfl (?_)))
       obtain ⟨v22,g23,h⟩:=Aa h
       exact oGR rfl rfl (qC (qa rfl (erD Am _) (qa rfl (erD Am _) Ar)) (F3 g23) (sp 3 rfl (evn (kJ2 h _ (okr rfl)))))
      ·exact qg 34 g19 rfl (sp 10 rfl (evn (kJ2 h _ (okr rfl))))
   ·exact qF rfl g8 (An (kXB1 (Option.some.inj h) _ trivial))
def AC (a0 : Y32) : Option (Bool):=Ad (EL a0.1 a0.2) fun v1 => some v1
theorem AP {a0 : Y32} {r : Bool} (h : AC a0 = some r) : Ai Tryz.prog 78 [.agg (ER a0)] (.bool r):=by
 unfold AC at h
 refine st fT rfl (rn 1 rfl (rs (sp 4 rfl (?_))))
 obtain ⟨v1,g2,h⟩:=Aa h
 exact qC (qs rfl (qa rfl (erD As _) Ar)) (J0 g2) (sp 1 rfl (evn (Af ((by cases h; exact ⟨.inl rfl,rfl⟩)))))
def AQ (rec : Int -> Option (Sum (Unit) (Bool))) (y1 : Int) (x10 : Bool) : Option (Sum (Unit) (Bool)):=cond x10 (some (.inr false)) (rec (IntKind.i64.wrap (y1 + 1)))
def Cj (a0 : List Y88) (rec : Int -> Option (Sum (Unit) (Bool))) (y1 : Int) : Option (Sum (Unit) (Bool)):=cond (decide (y1 < (List.length a0 : Int))) (Ad (AK a0 y1) fun e7 => Ad (Ef e7.1) fun v12 => cond (!v12) (AQ rec y1 true) (cond (decide (0 < y1)) (Ad (AK a0 (IntKind.i64.wrap (y1 - 1))) fun e16 => cond (!Op.bytesLess e16.1 e7.1) (AQ rec y1 true) (Ad (AC e7.2) fun v19 => cond (!v19) (AQ rec y1 true) (cond (decide (e7.2.1 < 1)) (AQ rec y1 true) (AQ rec y1 (decide (16 < (List.length e7.2.2 : Int))))))) (Ad (AC e7.2) fun v23 => cond (!v23) (AQ rec y1 true) (cond (decide (e7.2.1 < 1)) (AQ rec y1 true) (AQ rec y1 (decide (16 < (List.length e7.2.2 : Int)))))))) (some (.inl ()))
def Bd (a0 : List Y88) : Option (Bool):=cond (decide (6 < (List.length a0 : Int))) (some false) (Ad (Al (Cj a0) fz 0) fun o1 => (match o1 with
  | .inl _ => (some true)
  | .inr r => some r))
theorem Cz {a0 : List Y88} {r : Bool} (h : Bd a0 = some r) : Ai Tryz.prog 28 [.agg [dL AB a0]] (.bool r):=by
 unfold Bd at h
 refine st eP rfl (rn 1 rfl (Ac fun K1 hK1 => rn 1 rfl ?_))
 rcases Ab h with ⟨g2,h⟩ | ⟨g2,h⟩
 ·exact qT rfl g2 (rn 1 rfl (Af ((by cases h; exact ⟨.inl rfl,rfl⟩))))
 ·refine qF rfl g2 (Ae (hK1 _ (Ac fun K3 hK3 => rn 1 rfl ?_)))
  obtain ⟨o1,hl,hr1⟩:=Aa h
  have kXB1 : (.inl ()) = o1 -> Jn K3 []:=by
   intro h σ' hk
   subst h
   replace h:=hr1
   try dsimp only at h
   exact hK3 _ (lh hk rfl (rn 1 rfl (Af ((by cases h; exact ⟨.inl rfl,rfl⟩)))))
  refine Ax (fun (y1 : Int) => [(1,.box [dL AB a0]),(10,dL AB a0),(11,nI (List.length a0 : Int)),(12,nI y1)]) _ _ _ _ hl (okr rfl) (fun _ => rfl) ?_
  rintro m y1 N h hN
  unfold Cj at h
  refine rn 1 rfl (Ac fun K4 hK4 => ?_)
  rcases Ab h with ⟨g5,h⟩ | ⟨g5,h⟩
  ·refine qT rfl g5 (Ae (hK4 _ (Ac fun K6 hK6 => Au (rs (sp 1 rfl (?_))))))
   obtain ⟨e7,g8,h⟩:=Aa h
   refine qI rfl Ee g8 (sp 4 rfl (evn (rdk (by kernel_rfl) fun K9 hK9 => ?_)))
   have kJ2 : ∀ {x10 : Bool},AQ (Al (Cj a0) m) y1 x10 = some o1 -> Jn K9 [(1,.box [dL AB a0]),(10,dL AB a0),(11,nI (List.length a0 : Int)),(12,nI y1),(55,.bool x10)]:=by
    intro x10 h σ' hk
    unfold AQ at h
    refine hK9 _ (lh hk rfl ?_)
    rcases Ab h with ⟨g11,h⟩ | ⟨g11,h⟩
    ·exact qT rfl g11 (rn 1 rfl (Af ((by cases h; cases hr1; exact ⟨.inl rfl,rfl⟩))))
    ·exact qF rfl g11 (Ae (hK6 _ (rg (sp 2 rfl (evn (hN _ _ h (okr rfl)))))))
   refine sd 2 rfl (?_)
   obtain ⟨v12,g13,h⟩:=Aa h
   refine ed rfl (qC (qs rfl Ar) (I3 g13) (sd 2 rfl (?_)))
   rcases Ab h with ⟨g14,h⟩ | ⟨g14,h⟩
   ·exact qgd 21 g14 rfl (sd 34 rfl (BB (kJ2 h _ (okr rfl))))
   ·refine qgd 21 g14 rfl (sd 3 rfl (?_))
    rcases Ab h with ⟨g15,h⟩ | ⟨g15,h⟩
    ·refine qgd 24 g15 rfl (sd 4 rfl (?_))
     obtain ⟨e16,g17,h⟩:=Aa h
     refine ed rfl (oGR rfl rfl (qI rfl Ee g17 (sd 8 rfl (?_))))
     rcases Ab h with ⟨g18,h⟩ | ⟨g18,h⟩
     ·exact qgd 37 g18 rfl (sd 18 rfl (BB (kJ2 h _ (okr rfl))))
     ·refine qgd 37 g18 rfl (sd 2 rfl (?_))
      obtain ⟨v19,g20,h⟩:=Aa h
      refine ed rfl (oGR rfl rfl (qC (qa rfl (erg (erc rfl (erc (erD As _) rfl))) Ar) (AP g20) (sd 3 rfl (?_))))
      rcases Ab h with ⟨g21,h⟩ | ⟨g21,h⟩
      ·exact qgd 43 g21 rfl (sd 12 rfl (BB (kJ2 h _ (okr rfl))))
      ·refine qgd 43 g21 rfl (sd 6 rfl (?_))
       rcases Ab h with ⟨g22,h⟩ | ⟨g22,h⟩
       ·exact qgd 49 g22 rfl (sd 6 rfl (BB (kJ2 h _ (okr rfl))))
       ·exact qgd 49 g22 rfl (sd 6 rfl (BB (kJ2 h _ (okr rfl))))
    ·refine qgd 24 g15 rfl (sd 15 rfl (?_))
     obtain ⟨v23,g24,h⟩:=Aa h
     refine ed rfl (oGR rfl rfl (qC (qa rfl (erg (erc rfl (erc (erD As _) rfl))) Ar) (AP g24) (sd 3 rfl (?_))))
     rcases Ab h with ⟨g25,h⟩ | ⟨g25,h⟩
     ·exact qgd 43 g25 rfl (sd 12 rfl (BB (kJ2 h _ (okr rfl))))
     ·refine qgd 43 g25 rfl (sd 6 rfl (?_))
      rcases Ab h with ⟨g26,h⟩ | ⟨g26,h⟩
      ·exact qgd 49 g26 rfl (sd 6 rfl (BB (kJ2 h _ (okr rfl))))
      ·exact qgd 49 g26 rfl (sd 6 rfl (BB (kJ2 h _ (okr rfl))))
  ·exact qF rfl g5 (An (kXB1 (Option.some.inj h) _ trivial))
def GZ (a0 : List Int) (a1 : List Int) (rec : Int -> Option (Sum (Unit) (Bool))) (y1 : Int) : Option (Sum (Unit) (Bool)):=cond (decide (y1 < (List.length a0 : Int))) (Ad (AK a0 y1) fun e7 => Ad (AK a1 y1) fun e9 => cond (e7 != e9) (some (.inr false)) (rec (IntKind.i64.wrap (y1 + 1)))) (some (.inl ()))
def Gz (a0 : List Int) (a1 : List Int) : Option (Bool):=cond ((List.length a0 : Int) != (List.length a1 : Int)) (some false) (Ad (Al (GZ a0 a1) fz 0) fun o1 => (match o1 with
  | .inl _ => (some true)
  | .inr r => some r))
theorem Kg {a0 : List Int} {a1 : List Int} {r : Bool} (h : Gz a0 a1 = some r) : Ai Tryz.prog 80 [dL Aq a0,dL Aq a1] (.bool r):=by
 unfold Gz at h
 refine st fV rfl (rn 1 rfl (Ac fun K1 hK1 => rn 1 rfl ?_))
 rcases Ab h with ⟨g2,h⟩ | ⟨g2,h⟩
 ·exact qT rfl g2 (rn 1 rfl (Af ((by cases h; exact ⟨.inl rfl,rfl⟩))))
 ·refine qF rfl g2 (Ae (hK1 _ (Ac fun K3 hK3 => rn 1 rfl ?_)))
  obtain ⟨o1,hl,hr1⟩:=Aa h
  have kXB1 : (.inl ()) = o1 -> Jn K3 []:=by
   intro h σ' hk
   subst h
   replace h:=hr1
   try dsimp only at h
   exact hK3 _ (lh hk rfl (rn 1 rfl (Af ((by cases h; exact ⟨.inl rfl,rfl⟩)))))
  refine Ax (fun (y1 : Int) => [(0,dL Aq a0),(1,dL Aq a1),(12,nI (List.length a0 : Int)),(13,nI y1)]) _ _ _ _ hl (okr rfl) (fun _ => rfl) ?_
  rintro m y1 N h hN
  unfold GZ at h
  refine rn 1 rfl (Ac fun K4 hK4 => ?_)
  rcases Ab h with ⟨g5,h⟩ | ⟨g5,h⟩
  ·refine qT rfl g5 (Ae (hK4 _ (Ac fun K6 hK6 => Au (rn 1 rfl (rd (by kernel_rfl) (sd 2 rfl (?_)))))))
   obtain ⟨e7,g8,h⟩:=Aa h
   refine ed rfl (qI rfl AH g8 (sd 3 rfl (?_)))
   obtain ⟨e9,g10,h⟩:=Aa h
   refine ed rfl (qI rfl AH g10 (sd 2 rfl (BB ?_)))
   rcases Ab h with ⟨g11,h⟩ | ⟨g11,h⟩
   ·exact qT rfl g11 (rn 1 rfl (Af ((by cases h; cases hr1; exact ⟨.inl rfl,rfl⟩))))
   ·exact qF rfl g11 (Ae (hK6 _ (rg (sp 2 rfl (evn (hN _ _ h (okr rfl)))))))
  ·exact qF rfl g5 (An (kXB1 (Option.some.inj h) _ trivial))
def G0 (a0 : List (List Int)) (a1 : List (List Int)) (rec : Int -> Option (Sum (Unit) (Bool))) (y1 : Int) : Option (Sum (Unit) (Bool)):=cond (decide (y1 < (List.length a0 : Int))) (Ad (AK a0 y1) fun e7 => Ad (AK a1 y1) fun e9 => Ad (Gz e7 e9) fun v11 => cond (!v11) (some (.inr false)) (rec (IntKind.i64.wrap (y1 + 1)))) (some (.inl ()))
def Hu (a0 : List (List Int)) (a1 : List (List Int)) : Option (Bool):=cond ((List.length a0 : Int) != (List.length a1 : Int)) (some false) (Ad (Al (G0 a0 a1) fz 0) fun o1 => (match o1 with
  | .inl _ => (some true)
  | .inr r => some r))
theorem NK {a0 : List (List Int)} {a1 : List (List Int)} {r : Bool} (h : Hu a0 a1 = some r) : Ai Tryz.prog 79 [dL AG a0,dL AG a1] (.bool r):=by
 unfold Hu at h
 refine st fU rfl (rn 1 rfl (Ac fun K1 hK1 => rn 1 rfl ?_))
 rcases Ab h with ⟨g2,h⟩ | ⟨g2,h⟩
 ·exact qT rfl g2 (rn 1 rfl (Af ((by cases h; exact ⟨.inl rfl,rfl⟩))))
 ·refine qF rfl g2 (Ae (hK1 _ (Ac fun K3 hK3 => rn 1 rfl ?_)))
  obtain ⟨o1,hl,hr1⟩:=Aa h
  have kXB1 : (.inl ()) = o1 -> Jn K3 []:=by
   intro h σ' hk
   subst h
   replace h:=hr1
   try dsimp only at h
   exact hK3 _ (lh hk rfl (rn 1 rfl (Af ((by cases h; exact ⟨.inl rfl,rfl⟩)))))
  refine Ax (fun (y1 : Int) => [(0,dL AG a0),(1,dL AG a1),(12,nI (List.length a0 : Int)),(13,nI y1)]) _ _ _ _ hl (okr rfl) (fun _ => rfl) ?_
  rintro m y1 N h hN
  unfold G0 at h
  refine rn 1 rfl (Ac fun K4 hK4 => ?_)
  rcases Ab h with ⟨g5,h⟩ | ⟨g5,h⟩
  ·refine qT rfl g5 (Ae (hK4 _ (Ac fun K6 hK6 => Au (rn 1 rfl (rd (by kernel_rfl) (sd 2 rfl (?_)))))))
   obtain ⟨e7,g8,h⟩:=Aa h
   refine ed rfl (qI rfl Bv g8 (sd 3 rfl (?_)))
   obtain ⟨e9,g10,h⟩:=Aa h
   refine ed rfl (qI rfl Bv g10 (sd 1 rfl (?_)))
   obtain ⟨v11,g12,h⟩:=Aa h
   refine ed rfl (qC (qa rfl (erD Am _) (qa rfl (erD Am _) Ar)) (Kg g12) (sd 1 rfl (BB ?_)))
   rcases Ab h with ⟨g13,h⟩ | ⟨g13,h⟩
   ·exact qT rfl g13 (rn 1 rfl (Af ((by cases h; cases hr1; exact ⟨.inl rfl,rfl⟩))))
   ·exact qF rfl g13 (Ae (hK6 _ (rg (sp 2 rfl (evn (hN _ _ h (okr rfl)))))))
  ·exact qF rfl g5 (An (kXB1 (Option.some.inj h) _ trivial))
def Cr (x2 : Bool) : Option (Bool):=some x2
def DC (a0 : Y43) (a1 : Y43) : Option (Bool):=cond (a0.1 == a1.1) (Ad (Hu a0.2.1 a1.2.1) fun v4 => cond v4 (Ad (Gz a0.2.2 a1.2.2) fun v7 => Cr v7) (Cr false)) (Cr false)
theorem IP {a0 : Y43} {a1 : Y43} {r : Bool} (h : DC a0 a1 = some r) : Ai Tryz.prog 30 [.agg (A7 a0),.agg (A7 a1)] (.bool r):=by
 unfold DC at h
 refine st eR rfl (rn 1 rfl (rk fun K1 hK1 => ?_))
 have kJ1 : ∀ {x2 : Bool},Cr x2 = some r -> Jn K1 [(4,.bool x2)]:=by
  intro x2 h σ' hk
  unfold Cr at h
  exact hK1 _ (lh hk rfl (Af ((by cases h; exact ⟨.inl rfl,rfl⟩))))
 refine sp 6 rfl (?_)
 rcases Ab h with ⟨g3,h⟩ | ⟨g3,h⟩
 ·refine qg 10 g3 rfl (sp 4 rfl (?_))
  obtain ⟨v4,g5,h⟩:=Aa h
  refine oGR rfl rfl (qC (qa rfl (erD As _) (qa rfl (erD As _) Ar)) (NK g5) (sp 2 rfl (?_)))
  rcases Ab h with ⟨g6,h⟩ | ⟨g6,h⟩
  ·refine qg 17 g6 rfl (sp 4 rfl (?_))
   obtain ⟨v7,g8,h⟩:=Aa h
   exact oGR rfl rfl (qC (qa rfl (erD Am _) (qa rfl (erD Am _) Ar)) (Kg g8) (sp 2 rfl (evn (kJ1 h _ (okr rfl)))))
  ·exact qg 17 g6 rfl (sp 7 rfl (evn (kJ1 h _ (okr rfl))))
 ·exact qg 10 g3 rfl (sp 14 rfl (evn (kJ1 h _ (okr rfl))))
def A8 (a0 : List Int) : Option ((List Int)):=chk (List.length ([] : List Int) + List.length a0 <= lim) (some (([] : List Int) ++ a0))
theorem By {a0 : List Int} {r : (List Int)} (h : A8 a0 = some r) : Ai Tryz.prog 99 [dL Aq a0] (oL 3 Aq r):=by
 unfold A8 at h
 refine st gu rfl (rn 1 rfl (rs (qBs Aq [] rfl rfl rfl AH (sp 1 rfl (?_)))))
 obtain ⟨g1,h⟩:=Ah h
 exact qA Aq ([] : List Int) a0 rfl rfl (Ap AH a0) (GJ (fun _ => rfl) _) g1 (sp 1 rfl (evn (Af ((by cases h; exact ⟨.inl rfl,rfl⟩)))))
def Gx (a0 : Y51) (rec : ((List HI) × Int) -> Option ((List HI))) (s : (List HI) × Int) : Option ((List HI)):=match s with
  | (y1,y2) => cond (decide (y2 < (List.length a0.2.1 : Int))) (Ad (AK a0.2.1 y2) fun e8 => Ad (A8 e8.2) fun v10 => chk (List.length y1 + List.length [(e8.1,v10)] <= lim) (rec ((y1 ++ [(e8.1,v10)]),(IntKind.i64.wrap (y2 + 1))))) (some y1)
def EK (a0 : Y51) : Option (Y51):=Ad (A8 a0.2.2) fun v1 => Ad (Al (Gx a0) fz (([] : List HI),0)) fun z4 => some (a0.1,z4,v1)
theorem Ix {a0 : Y51} {r : Y51} (h : EK a0 = some r) : Ai Tryz.prog 63 [.agg (Dg a0)] (.agg (Mb r)):=by
 unfold EK at h
 refine st fE rfl (rn 1 rfl (rd (by kernel_rfl) (sd 4 rfl (?_))))
 obtain ⟨v1,g2,h⟩:=Aa h
 refine ed rfl (qC (qa rfl (erD Am _) Ar) (By g2) (sd 3 rfl (BB (Ac fun K3 hK3 => rn 1 rfl ?_))))
 obtain ⟨o1,hl,hr1⟩:=Aa h
 have kXB1 : ∀ {z4 : List HI},z4 = o1 -> Jn K3 [(2,.box [nI 0,oL 112 Bb [],oL 3 Aq []]),(3,.box [nI a0.1,oL 112 Bb z4,oL 3 Aq v1])]:=by
  intro z4 h σ' hk
  subst h
  replace h:=hr1
  try dsimp only at h
  exact hK3 _ (lh hk rfl (rn 1 rfl (Af ((by cases h; exact ⟨.inl rfl,rfl⟩)))))
 refine Ax (fun (s : (List HI) × Int) => match s with | (y1,y2) => [(2,.box [nI 0,oL 112 Bb [],oL 3 Aq []]),(3,.box [nI a0.1,oL 112 Bb y1,oL 3 Aq v1]),(13,dL Bk a0.2.1),(14,nI (List.length a0.2.1 : Int)),(15,nI y2)]) _ _ _ _ hl (okr rfl) (fun _ => rfl) ?_
 rintro m ⟨y1,y2⟩ N h hN
 unfold Gx at h
 dsimp only at h
 refine rn 1 rfl (Ac fun K5 hK5 => ?_)
 rcases Ab h with ⟨g6,h⟩ | ⟨g6,h⟩
 ·refine qT rfl g6 (Ae (hK5 _ (Ac fun K7 hK7 => Au (rs ?_))))
  obtain ⟨e8,g9,h⟩:=Aa h
  refine qI rfl FE g9 (sp 3 rfl (evn (rgd (by kernel_rfl) (sd 6 rfl (?_)))))
  obtain ⟨v10,g11,h⟩:=Aa h
  refine ed rfl (qC (qa rfl (erD Am _) Ar) (By g11) (sd 1 rfl (ed rfl (qBs Bb [(e8.1,v10)] rfl rfl rfl Kx (?_)))))
  obtain ⟨g12,h⟩:=Ah h
  exact ed rfl (qA Bb y1 [(e8.1,v10)] rfl rfl (Ap Kx [(e8.1,v10)]) rfl g12 (sd 2 rfl (BB (hK7 _ (rg (sp 2 rfl (evn (hN _ _ h (okr rfl)))))))))
 ·exact qF rfl g6 (An (kXB1 (Option.some.inj h) _ (okr rfl)))
end Go.Proofs.YtklcofndjkjldaaGreat
