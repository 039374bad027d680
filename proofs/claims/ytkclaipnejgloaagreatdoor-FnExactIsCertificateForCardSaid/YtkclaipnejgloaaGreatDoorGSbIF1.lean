/-
  Functions of the program as typed functions, printed by gen.py, and that the program's functions do what they say. No conditions.
-/
import Derived.Test.YtkclaipnejgloaaGreatDoorGSIF1
namespace Go.Proofs.YtkclaipnejgloaaGreatDoor
open Go.RowKit
set_option linter.unusedVariables false
set_option maxRecDepth 100000
set_option maxHeartbeats 1000000
def Fy (a0 : List Y57) (a1 : Y41) (a2 : List Int) (a3 : List Int) (v3 : (List Int)) (rec : ((List (List Int)) × Int) -> Option ((List (List Int)))) (s : (List (List Int)) × Int) : Option ((List (List Int))):=match s with
  | (y1,y2) => cond (decide (y2 < (List.length v3 : Int))) (Ad (AA v3 y2) fun e10 => Ad (AA a0 e10) fun e12 => Ad (AA v3 y2) fun e14 => Ad (AA a1.2.1 e14) fun e16 => Ad (G1 e16 a2 a3) fun v18 => Ad (Cn e12 v18) fun v20 => chk (List.length y1 + List.length [v20] <= lim) (rec ((y1 ++ [v20]),(IntKind.i64.wrap (y2 + 1))))) (some y1)
def Ia (a0 : List Y57) (a1 : Y41) (a2 : List Int) (a3 : List Int) : Option ((List Int) × Int):=Ad (AA a2 (List.length a3 : Int)) fun e1 => Ad (Da a1 e1) fun v3 => Ad (Ah (Fy a0 a1 a2 a3 v3) fz (([] : List (List Int)),0)) fun z6 => Ad (Df z6) fun v23 => some (v23.1,v23.2)
theorem OW {a0 : List Y57} {a1 : Y41} {a2 : List Int} {a3 : List Int} {r : (List Int) × Int} (h : Ia a0 a1 a2 a3 = some r) : Ag Tryz.prog 68 [dL BC a0,.agg (Bz a1),dL Ak a2,dL Ak a3] (.tup [oL 3 Ak r.1,nI r.2]):=by
 unfold Ia at h
 refine st iP rfl (rn 1 rfl (rd (by kernel_rfl) (sd 4 rfl (?_))))
 obtain ⟨e1,g2,h⟩:=Aa h
 refine ed rfl (qI rfl Ao g2 (sd 1 rfl (?_)))
 obtain ⟨v3,g4,h⟩:=Aa h
 refine ed rfl (qC (qa rfl (erg (erc rfl (erc (erD Ce _) (erc (erD Al _) rfl)))) (qs rfl Aw)) (JC g4) (sd 1 rfl (Ea (rs (qBs As [] rfl rfl rfl Cf (sp 1 rfl (evn (Ac fun K5 hK5 => rn 1 rfl ?_))))))))
 obtain ⟨o1,hl,hr1⟩:=Aa h
 have kXB1 : ∀ {z6 : List (List Int)},z6 = o1 -> Jn K5 [(11,oL 26 As z6)]:=by
  intro z6 h σ' hk
  subst h
  replace h:=hr1
  try dsimp only at h
  refine hK5 _ (lh hk rfl (rs (sp 1 rfl (?_))))
  obtain ⟨v23,g24,h⟩:=Aa h
  exact qC (qa rfl (erD I4 _) Aw) (JG g24) (sp 5 rfl (evn (rn 1 rfl (Af ((by cases h; exact ⟨.inl rfl,rfl⟩))))))
 refine Aq (fun (s : (List (List Int)) × Int) => match s with | (y1,y2) => [(0,dL BC a0),(2,dL Ak a2),(3,dL Ak a3),(5,.box [nI a1.1,dL BM a1.2.1,dL Ak a1.2.2]),(10,oL 3 Ak v3),(11,oL 26 As y1),(12,nI y2)]) _ _ _ _ hl (okr rfl) (fun _ => rfl) ?_
 rintro m ⟨y1,y2⟩ N h hN
 unfold Fy at h
 dsimp only at h
 refine Ac fun K7 hK7 => rn 1 rfl ?_
 rcases Ab h with ⟨g8,h⟩ | ⟨g8,h⟩
 ·refine qT rfl g8 (Ae (hK7 _ (Ac fun K9 hK9 => Ap (rgd (by kernel_rfl) (sd 4 rfl (?_))))))
  obtain ⟨e10,g11,h⟩:=Aa h
  refine ed rfl (qI rfl Ao g11 (sd 1 rfl (?_)))
  obtain ⟨e12,g13,h⟩:=Aa h
  refine ed rfl (qI rfl Ns g13 (sd 5 rfl (?_)))
  obtain ⟨e14,g15,h⟩:=Aa h
  refine ed rfl (qI rfl Ao g15 (sd 1 rfl (?_)))
  obtain ⟨e16,g17,h⟩:=Aa h
  refine ed rfl (qI rfl G3 g17 (sd 3 rfl (?_)))
  obtain ⟨v18,g19,h⟩:=Aa h
  refine ed rfl (qC (qa rfl (erg (erc rfl (erc (erD Al _) rfl))) (qa rfl (erD Al _) (qa rfl (erD Al _) Aw))) (Nb g19) (?_))
  obtain ⟨v20,g21,h⟩:=Aa h
  refine ed rfl (qC (qa rfl (erg (erc rfl (erc (erD Bc _) rfl))) (qa rfl (erO Al _) Aw)) (Lu g21) (ed rfl (qBs As [v20] rfl rfl rfl Cf (?_))))
  obtain ⟨g22,h⟩:=An h
  exact ed rfl (qA As y1 [v20] rfl rfl (AE Cf [v20]) rfl g22 (sd 1 rfl (Ea (hK9 _ (rg (sp 3 rfl (evn (hN _ _ h (okr rfl)))))))))
 ·exact qF rfl g8 (Aj (kXB1 (Option.some.inj h) _ (okr rfl)))
def Fz (a0 : List Y57) (a1 : Y41) (a2 : List Int) (a3 : List Int) (v4 : (List Int) × Int) (frec : ((List Y57) × Y41 × (List Int) × (List Int)) -> Option ((List (List Int)) × Int)) (rec : ((List (List Int)) × Int × Int) -> Option ((List (List Int)) × Int)) (s : (List (List Int)) × Int × Int) : Option ((List (List Int)) × Int):=match s with
  | (y1,y2,y3) => cond (decide (y3 < (List.length v4.1 : Int))) (chk (List.length ([] : List Int) + List.length a3 <= lim) (Ad (AA v4.1 y3) fun e13 => chk (List.length (([] : List Int) ++ a3) + List.length [e13] <= lim) (Ad (frec (a0,a1,a2,((([] : List Int) ++ a3) ++ [e13]))) fun v16 => chk (List.length y1 + List.length v16.1 <= lim) (rec ((y1 ++ v16.1),(IntKind.i64.wrap (y2 + v16.2)),(IntKind.i64.wrap (y3 + 1))))))) (some (y1,y2))
def Cc (rec : ((List Y57) × Y41 × (List Int) × (List Int)) -> Option ((List (List Int)) × Int)) (s : (List Y57) × Y41 × (List Int) × (List Int)) : Option ((List (List Int)) × Int):=match s with
  | (a0,a1,a2,a3) => cond ((List.length a3 : Int) == (List.length a2 : Int)) (chk (List.length ([] : List Int) + List.length a3 <= lim) (some ([([] : List Int) ++ a3],0))) (Ad (Ia a0 a1 a2 a3) fun v4 => Ad (Ah (Fz a0 a1 a2 a3 v4 rec) fz (([] : List (List Int)),v4.2,0)) fun o1 => (match o1 with
  | (z7,z8) => (some (z7,z8))))
def KB (a0 : List Y57) (a1 : Y41) (a2 : List Int) (a3 : List Int) : Option ((List (List Int)) × Int):=Ah Cc fz (a0,a1,a2,a3)
theorem OX {a0 : List Y57} {a1 : Y41} {a2 : List Int} {a3 : List Int} {r : (List (List Int)) × Int} (h : KB a0 a1 a2 a3 = some r) : Ag Tryz.prog 39 [dL BC a0,.agg (Bz a1),dL Ak a2,dL Ak a3] (.tup [oL 26 As r.1,nI r.2]):=by
 suffices key : ∀ mF (a0 : List Y57) (a1 : Y41) (a2 : List Int) (a3 : List Int) (r : (List (List Int)) × Int),Ah Cc mF (a0,a1,a2,a3) = some r -> Ag Tryz.prog 39 [dL BC a0,.agg (Bz a1),dL Ak a2,dL Ak a3] (.tup [oL 26 As r.1,nI r.2]) from key fz a0 a1 a2 a3 r h
 intro mF
 induction mF with
 | zero => intro a0 a1 a2 a3 r h; cases h
 | succ mF ih0 =>
  intro a0 a1 a2 a3 r h
  have ih : ∀ {a0 : List Y57} {a1 : Y41} {a2 : List Int} {a3 : List Int} {r : (List (List Int)) × Int},Ah Cc mF (a0,a1,a2,a3) = some r -> Ag Tryz.prog 39 [dL BC a0,.agg (Bz a1),dL Ak a2,dL Ak a3] (.tup [oL 26 As r.1,nI r.2]):=fun h => ih0 _ _ _ _ _ h
  change Cc (Ah Cc mF) (a0,a1,a2,a3) = some r at h
  unfold Cc at h
  try dsimp only at h
  refine st ii rfl (rn 1 rfl (Ac fun K1 hK1 => rn 1 rfl ?_))
  rcases Ab h with ⟨g2,h⟩ | ⟨g2,h⟩
  ·refine qT rfl g2 (rs (qBs Ak [] rfl rfl rfl Ao (sp 1 rfl (?_))))
   obtain ⟨g3,h⟩:=An h
   exact qA Ak ([] : List Int) a3 rfl rfl (AE Ao a3) (LU (fun _ => rfl) _) g3 (qBs As [([] : List Int) ++ a3] rfl rfl rfl Cf (sp 2 rfl (evn (Af ((by cases h; exact ⟨.inl rfl,rfl⟩))))))
  ·refine qF rfl g2 (Ae (hK1 _ (rs (qBs As [] rfl rfl rfl Cf (sp 1 rfl (evn (rs (sp 4 rfl (?_)))))))))
   obtain ⟨v4,g5,h⟩:=Aa h
   refine qC (qa rfl (erD PC _) (qa rfl (erg (erc rfl (erc (erD Ce _) (erc (erD Al _) rfl)))) (qa rfl (erD Al _) (qa rfl (erD Al _) Aw)))) (OW g5) (sp 5 rfl (evn (Ac fun K6 hK6 => rn 1 rfl (qk [0,2,3,5,10,11,12,13] rfl ?_))))
   obtain ⟨o1,hl,hr1⟩:=Aa h
   have kXB1 : ∀ {z7 : List (List Int)} {z8 : Int},(z7,z8) = o1 -> Jn K6 [(10,oL 26 As z7),(12,nI z8)]:=by
    intro z7 z8 h σ' hk
    subst h
    replace h:=hr1
    try dsimp only at h
    exact hK6 _ (lh hk rfl (rn 1 rfl (Af ((by cases h; exact ⟨.inl rfl,rfl⟩)))))
   refine Aq (fun (s : (List (List Int)) × Int × Int) => match s with | (y1,y2,y3) => [(0,dL BC a0),(2,dL Ak a2),(3,dL Ak a3),(5,.box [nI a1.1,dL BM a1.2.1,dL Ak a1.2.2]),(10,oL 26 As y1),(11,oL 3 Ak v4.1),(12,nI y2),(13,nI y3)]) _ _ _ _ hl (okr rfl) (fun _ => rfl) ?_
   rintro m ⟨y1,y2,y3⟩ N h hN
   unfold Fz at h
   dsimp only at h
   refine Ac fun K9 hK9 => rn 1 rfl ?_
   rcases Ab h with ⟨g10,h⟩ | ⟨g10,h⟩
   ·refine qT rfl g10 (Ae (hK9 _ (Ac fun K11 hK11 => Ap (rd (by kernel_rfl) (sd 3 rfl (ed rfl (qBs Ak [] rfl rfl rfl Ao (sd 1 rfl (?_)))))))))
    obtain ⟨g12,h⟩:=An h
    refine ed rfl (qA Ak ([] : List Int) a3 rfl rfl (AE Ao a3) (LU (fun _ => rfl) _) g12 (sd 2 rfl (?_)))
    obtain ⟨e13,g14,h⟩:=Aa h
    refine ed rfl (qI rfl Ao g14 (sd 1 rfl (ed rfl (qBs Ak [e13] rfl rfl rfl Ao (?_)))))
    obtain ⟨g15,h⟩:=An h
    refine ed rfl (qA Ak (([] : List Int) ++ a3) [e13] rfl rfl (AE Ao [e13]) rfl g15 (?_))
    obtain ⟨v16,g17,h⟩:=Aa h
    refine ed rfl (qC (qa rfl (erD PC _) (qa rfl (erg (erc rfl (erc (erD Ce _) (erc (erD Al _) rfl)))) (qa rfl (erD Al _) (qa rfl (erO Al _) Aw)))) (ih g17) (sd 5 rfl (Ea (rs (sp 2 rfl (?_))))))
    obtain ⟨g18,h⟩:=An h
    exact qA As y1 v16.1 rfl rfl (AE Cf v16.1) rfl g18 (sp 1 rfl (evn (rg (sp 4 rfl (evn (hK11 _ (qk [0,2,3,5,10,11,12,13] rfl (rg (sp 3 rfl (evn (hN _ _ h (okr rfl))))))))))))
   ·exact qF rfl g10 (Aj (kXB1 (Option.some.inj h) _ (okr rfl)))
def Fv (a0 : List Y96) (a1 : Y41) (a2 : List Int) : Option (Y57 × Int × Bool):=Ad (Gu a0 a1 a2) fun v1 => cond (!v1.2) (some ((0,[]),0,false)) (Ad (Hx v1.1) fun v6 => cond v6 (some (((List.length a2 : Int),[]),0,true)) (Ad (KB v1.1 a1 a2 ([] : List Int)) fun v9 => Ad (DP (List.length a2 : Int) v9.1) fun v11 => cond (!v11.2) (some ((0,[]),0,false)) (some (v11.1,v9.2,true))))
theorem Ls {a0 : List Y96} {a1 : Y41} {a2 : List Int} {r : Y57 × Int × Bool} (h : Fv a0 a1 a2 = some r) : Ag Tryz.prog 19 [.agg [dL BY a0],.agg (Bz a1),dL Ak a2] (.tup [.agg (ID r.1),nI r.2.1,.bool r.2.2]):=by
 unfold Fv at h
 refine st gH rfl (rn 1 rfl (rs (sp 3 rfl (?_))))
 obtain ⟨v1,g2,h⟩:=Aa h
 refine qC (qa rfl (erg (erc (erD D1 _) rfl)) (qa rfl (erg (erc rfl (erc (erD Ce _) (erc (erD Al _) rfl)))) (qa rfl (erD Al _) Aw))) (MK g2) (sp 5 rfl (evn (Ac fun K3 hK3 => rn 1 rfl ?_)))
 rcases Ab h with ⟨g4,h⟩ | ⟨g4,h⟩
 ·exact qT rfl g4 (rn 1 rfl (Af ((by cases h; exact ⟨.inl rfl,rfl⟩))))
 ·refine qF rfl g4 (Ae (hK3 _ (Ac fun K5 hK5 => rs (sp 1 rfl (?_)))))
  obtain ⟨v6,g7,h⟩:=Aa h
  refine qC (qa rfl (erD Nd _) Aw) (Ok g7) (evn ?_)
  rcases Ab h with ⟨g8,h⟩ | ⟨g8,h⟩
  ·exact qT rfl g8 (rn 1 rfl (qk [6,7,8] rfl (Af ((by cases h; exact ⟨.inl rfl,rfl⟩)))))
  ·refine qF rfl g8 (Ae (hK5 _ (rs (sp 3 rfl (qBs Ak [] rfl rfl rfl Ao (?_))))))
   obtain ⟨v9,g10,h⟩:=Aa h
   refine qC (qa rfl (erD Nd _) (qa rfl (erg (erc rfl (erc (erD Ce _) (erc (erD Al _) rfl)))) (qa rfl (erD Al _) (qa rfl rfl Aw)))) (OX g10) (sp 5 rfl (evn (rs (sp 3 rfl (?_)))))
   obtain ⟨v11,g12,h⟩:=Aa h
   refine qC (qs rfl (qa rfl (erD I4 _) Aw)) (Hu g12) (sp 6 rfl (evn (Ac fun K13 hK13 => rn 1 rfl ?_)))
   rcases Ab h with ⟨g14,h⟩ | ⟨g14,h⟩
   ·exact qT rfl g14 (rn 1 rfl (Af ((by cases h; exact ⟨.inl rfl,rfl⟩))))
   ·exact qF rfl g14 (Ae (hK13 _ (rn 1 rfl (qk [6,7,8] rfl (Af ((by cases h; exact ⟨.inl rfl,rfl⟩)))))))
def GE (a0 : List Y96) (a1 : Y41) (rec : ((List Int) × Int) -> Option ((List Int))) (s : (List Int) × Int) : Option ((List Int)):=match s with
  | (y1,y2) => cond (decide (y2 < (List.length a1.2.1 : Int))) (Ad (AA a1.2.1 y2) fun e10 => Ad (Ek a0 e10) fun v12 => chk (List.length y1 + List.length [(List.length v12.2 : Int)] <= lim) (rec ((y1 ++ [(List.length v12.2 : Int)]),(IntKind.i64.wrap (y2 + 1))))) (some y1)
def GW (a0 : List Y96) (a1 : Y41) : Option ((List Int) × Bool):=Ad (Fu a0 a1) fun v2 => cond (!v2) (some (([] : List Int),false)) (Ad (Ah (GE a0 a1) fz (([] : List Int),0)) fun z6 => some (z6,true))
theorem M7 {a0 : List Y96} {a1 : Y41} {r : (List Int) × Bool} (h : GW a0 a1 = some r) : Ag Tryz.prog 20 [.agg [dL BY a0],.agg (Bz a1)] (.tup [oL 3 Ak r.1,.bool r.2]):=by
 unfold GW at h
 refine st gJ rfl (rn 1 rfl (rs (qBs Ak [] rfl rfl rfl Ao (sp 1 rfl (evn (Ac fun K1 hK1 => rs (sp 2 rfl (?_))))))))
 obtain ⟨v2,g3,h⟩:=Aa h
 refine qC (qa rfl (erg (erc (erD D1 _) rfl)) (qa rfl (erg (erc rfl (erc (erD Ce _) (erc (erD Al _) rfl)))) Aw)) (JE g3) (sp 1 rfl (evn ?_))
 rcases Ab h with ⟨g4,h⟩ | ⟨g4,h⟩
 ·exact qT rfl g4 (rn 1 rfl (Af ((by cases h; exact ⟨.inl rfl,rfl⟩))))
 ·refine qF rfl g4 (Ae (hK1 _ (Ac fun K5 hK5 => rn 1 rfl ?_)))
  obtain ⟨o1,hl,hr1⟩:=Aa h
  have kXB1 : ∀ {z6 : List Int},z6 = o1 -> Jn K5 [(6,oL 3 Ak z6)]:=by
   intro z6 h σ' hk
   subst h
   replace h:=hr1
   try dsimp only at h
   exact hK5 _ (lh hk rfl (rn 1 rfl (Af ((by cases h; exact ⟨.inl rfl,rfl⟩)))))
  refine Aq (fun (s : (List Int) × Int) => match s with | (y1,y2) => [(2,.box [dL BY a0]),(3,.box [nI a1.1,dL BM a1.2.1,dL Ak a1.2.2]),(6,oL 3 Ak y1),(7,nI y2)]) _ _ _ _ hl (okr rfl) (fun _ => rfl) ?_
  rintro m ⟨y1,y2⟩ N h hN
  unfold GE at h
  dsimp only at h
  refine Ac fun K7 hK7 => rn 1 rfl ?_
  rcases Ab h with ⟨g8,h⟩ | ⟨g8,h⟩
  ·refine qT rfl g8 (Ae (hK7 _ (Ac fun K9 hK9 => Ap (rgd (by kernel_rfl) (sd 5 rfl (?_))))))
   obtain ⟨e10,g11,h⟩:=Aa h
   refine ed rfl (qI rfl G3 g11 (sd 1 rfl (?_)))
   obtain ⟨v12,g13,h⟩:=Aa h
   refine ed rfl (qC (qa rfl (erg (erc (erD D1 _) rfl)) (qa rfl (erg (erc rfl (erc (erD Al _) rfl))) Aw)) (IW g13) (ed rfl (qFd 1 (by kernel_rfl) rfl (sd 1 rfl (ed rfl (qBs Ak [(List.length v12.2 : Int)] rfl rfl rfl Ao (?_)))))))
   obtain ⟨g14,h⟩:=An h
   exact ed rfl (qA Ak y1 [(List.length v12.2 : Int)] rfl rfl (AE Ao [(List.length v12.2 : Int)]) rfl g14 (sd 1 rfl (Ea (hK9 _ (rg (sp 3 rfl (evn (hN _ _ h (okr rfl)))))))))
  ·exact qF rfl g8 (Aj (kXB1 (Option.some.inj h) _ (okr rfl)))
def J4  (rec : (Int × Int) -> Option (Int)) (s : Int × Int) : Option (Int):=match s with
  | (y1,y2) => cond (y2 != 0) (chk (y2 ≠ 0) (rec (y2,(Int.tmod y1 y2)))) (some y1)
def HI (a0 : Int) (a1 : Int) : Option (Int):=Ad (Ah J4 fz (a0,a1)) fun z2 => some z2
theorem KC {a0 : Int} {a1 : Int} {r : Int} (h : HI a0 a1 = some r) : Ag Tryz.prog 122 [nI a0,nI a1] (nI r):=by
 unfold HI at h
 refine st bX rfl (rn 1 rfl (Ac fun K1 hK1 => ?_))
 obtain ⟨o1,hl,hr1⟩:=Aa h
 have kXB1 : ∀ {z2 : Int},z2 = o1 -> Jn K1 [(0,nI z2)]:=by
  intro z2 h σ' hk
  subst h
  replace h:=hr1
  try dsimp only at h
  exact hK1 _ (lh hk rfl (rn 1 rfl (Af ((by cases h; exact ⟨.inl rfl,rfl⟩)))))
 refine Aq (fun (s : Int × Int) => match s with | (y1,y2) => [(0,nI y1),(1,nI y2)]) _ _ _ _ hl (okr rfl) (fun _ => rfl) ?_
 rintro m ⟨y1,y2⟩ N h hN
 unfold J4 at h
 dsimp only at h
 refine Ac fun K3 hK3 => rn 1 rfl ?_
 rcases Ab h with ⟨g4,h⟩ | ⟨g4,h⟩
 ·refine qT rfl g4 (Ae (hK3 _ (Ap (rs (sp 2 rfl (?_))))))
  obtain ⟨g5,h⟩:=An h
  exact qB rfl ⟨rfl,g5⟩ rfl (sp 1 rfl (evn (rn 1 rfl (rg (sp 2 rfl (evn (hN _ _ h (okr rfl))))))))
 ·exact qF rfl g4 (Aj (kXB1 (Option.some.inj h) _ (okr rfl)))
def A4 (x : Br) : List V:=[nI x.1,nI x.2]
theorem FC (x : Br) : (A4 x).length = 2:=rfl
theorem FK (x : Br) : erL (A4 x) = A4 x:=(erc rfl (erc rfl rfl))
def CD (x2 : Bool) : Option (Bool):=some x2
def AO (a0 : Br) : Option (Bool):=Ad (BN a0.2 1 1000000000) fun v3 => cond v3 (Ad (BN a0.1 (-1000000000) 1000000000) fun v6 => cond v6 (Ad (HI (if a0.1 < (IntKind.i64.wrap (0 - a0.1)) then (IntKind.i64.wrap (0 - a0.1)) else a0.1) a0.2) fun v9 => CD (v9 == 1)) (CD false)) (CD false)
theorem Bt {a0 : Br} {r : Bool} (h : AO a0 = some r) : Ag Tryz.prog 120 [.agg (A4 a0)] (.bool r):=by
 unfold AO at h
 refine st bV rfl (rn 1 rfl (rk fun K1 hK1 => ?_))
 have kJ1 : ∀ {x2 : Bool},CD x2 = some r -> Jn K1 [(2,.bool x2)]:=by
  intro x2 h σ' hk
  unfold CD at h
  exact hK1 _ (lh hk rfl (Af ((by cases h; exact ⟨.inl rfl,rfl⟩))))
 refine sp 2 rfl (?_)
 obtain ⟨v3,g4,h⟩:=Aa h
 refine qC (qs rfl (qs rfl (qs rfl Aw))) (Bv g4) (sp 1 rfl (?_))
 rcases Ab h with ⟨g5,h⟩ | ⟨g5,h⟩
 ·refine qg 6 g5 rfl (sp 2 rfl (?_))
  obtain ⟨v6,g7,h⟩:=Aa h
  refine oGR rfl rfl (qC (qs rfl (qs rfl (qs rfl Aw))) (Bv g7) (sp 2 rfl (?_)))
  rcases Ab h with ⟨g8,h⟩ | ⟨g8,h⟩
  ·refine qg 11 g8 rfl (sp 8 rfl (?_))
   obtain ⟨v9,g10,h⟩:=Aa h
   exact oGR rfl rfl (qC (qs rfl (qs rfl Aw)) (KC g10) (sp 3 rfl (evn (kJ1 h _ (okr rfl)))))
  ·exact qg 11 g8 rfl (sp 12 rfl (evn (kJ1 h _ (okr rfl))))
 ·exact qg 6 g5 rfl (sp 17 rfl (evn (kJ1 h _ (okr rfl))))
def Hb (a0 : List Br) (rec : Int -> Option (Sum (Unit) (Bool))) (y1 : Int) : Option (Sum (Unit) (Bool)):=cond (decide (y1 < (List.length a0 : Int))) (Ad (AA a0 y1) fun e5 => Ad (AO e5) fun v7 => cond (!v7) (some (.inr false)) (Ad (AA a0 y1) fun e10 => cond (decide (e10.1 < 0)) (some (.inr false)) (Ad (AA a0 y1) fun e13 => cond (decide (1000 < e13.1)) (some (.inr false)) (Ad (AA a0 y1) fun e16 => cond (decide (1000 < e16.2)) (some (.inr false)) (rec (IntKind.i64.wrap (y1 + 1))))))) (some (.inl ()))
def Hv (a0 : List Br) (a1 : Int) : Option (Bool):=Ad (Ah (Hb a0) fz 0) fun o1 => (match o1 with
  | .inl _ => (some ((List.length a0 : Int) == a1))
  | .inr r => some r)
theorem Oi {a0 : List Br} {a1 : Int} {r : Bool} (h : Hv a0 a1 = some r) : Ag Tryz.prog 79 [dL A4 a0,nI a1] (.bool r):=by
 unfold Hv at h
 refine st i0 rfl (rn 1 rfl (Ac fun K1 hK1 => rn 1 rfl ?_))
 obtain ⟨o1,hl,hr1⟩:=Aa h
 have kXB1 : (.inl ()) = o1 -> Jn K1 [(0,dL A4 a0),(1,nI a1)]:=by
  intro h σ' hk
  subst h
  replace h:=hr1
  try dsimp only at h
  exact hK1 _ (lh hk rfl (rn 1 rfl (Af ((by cases h; exact ⟨.inl rfl,rfl⟩)))))
 refine Aq (fun (y1 : Int) => [(0,dL A4 a0),(1,nI a1),(5,nI y1)]) _ _ _ _ hl (okr rfl) (fun _ => rfl) ?_
 rintro m y1 N h hN
 unfold Hb at h
 refine Ac fun K2 hK2 => rn 1 rfl ?_
 rcases Ab h with ⟨g3,h⟩ | ⟨g3,h⟩
 ·refine qT rfl g3 (Ae (hK2 _ (Ac fun K4 hK4 => Ap (rs (sp 2 rfl (?_))))))
  obtain ⟨e5,g6,h⟩:=Aa h
  refine qI rfl FC g6 (sp 1 rfl (?_))
  obtain ⟨v7,g8,h⟩:=Aa h
  refine qC (qa rfl (erg (erc rfl (erc rfl rfl))) Aw) (Bt g8) (sp 2 rfl (?_))
  rcases Ab h with ⟨g9,h⟩ | ⟨g9,h⟩
  ·exact qg 18 g9 rfl (sp 23 rfl (evn (qk [0,1,5,41] rfl (qT rfl rfl (rn 1 rfl (Af ((by cases h; cases hr1; exact ⟨.inl rfl,rfl⟩))))))))
  ·refine qg 18 g9 rfl (sp 2 rfl (?_))
   obtain ⟨e10,g11,h⟩:=Aa h
   refine oGR rfl rfl (qI rfl FC g11 (sp 5 rfl (?_)))
   rcases Ab h with ⟨g12,h⟩ | ⟨g12,h⟩
   ·exact qg 26 g12 rfl (sp 15 rfl (evn (qT rfl rfl (rn 1 rfl (Af ((by cases h; cases hr1; exact ⟨.inl rfl,rfl⟩)))))))
   ·refine qg 26 g12 rfl (sp 2 rfl (?_))
    obtain ⟨e13,g14,h⟩:=Aa h
    refine oGR rfl rfl (qI rfl FC g14 (sp 5 rfl (?_)))
    rcases Ab h with ⟨g15,h⟩ | ⟨g15,h⟩
    ·exact qg 34 g15 rfl (sp 7 rfl (evn (qk [0,1,5,41] rfl (qT rfl rfl (rn 1 rfl (Af ((by cases h; cases hr1; exact ⟨.inl rfl,rfl⟩))))))))
    ·refine qg 34 g15 rfl (sp 2 rfl (?_))
     obtain ⟨e16,g17,h⟩:=Aa h
     refine oGR rfl rfl (qI rfl FC g17 (sp 4 rfl (evn ?_)))
     rcases Ab h with ⟨g18,h⟩ | ⟨g18,h⟩
     ·exact qT rfl g18 (rn 1 rfl (Af ((by cases h; cases hr1; exact ⟨.inl rfl,rfl⟩))))
     ·exact qF rfl g18 (Ae (hK4 _ (rg (sp 3 rfl (evn (hN _ _ h (okr rfl)))))))
 ·exact qF rfl g3 (Aj (kXB1 (Option.some.inj h) _ (okr rfl)))
def Dr (x10 : Int) (x11 : Int) : Option (Br × Bool):=Ad (HI (if x10 < (IntKind.i64.wrap (0 - x10)) then (IntKind.i64.wrap (0 - x10)) else x10) x11) fun v12 => chk (v12 ≠ 0) (chk (v12 ≠ 0) (Ad (AO (IntKind.i64.wrap (Int.tdiv x10 v12),IntKind.i64.wrap (Int.tdiv x11 v12))) fun v17 => cond (!v17) (some ((0,0),false)) (some ((IntKind.i64.wrap (Int.tdiv x10 v12),IntKind.i64.wrap (Int.tdiv x11 v12)),true))))
def FT (a0 : Int) (a1 : Int) : Option (Br × Bool):=cond (a1 == 0) (some ((0,0),false)) (Ad (BN a0 (IntKind.i64.wrap (0 - 4000000000000000000)) 4000000000000000000) fun v3 => cond (!v3) (some ((0,0),false)) (Ad (BN a1 (IntKind.i64.wrap (0 - 4000000000000000000)) 4000000000000000000) fun v6 => cond (!v6) (some ((0,0),false)) (cond (decide (a1 < 0)) (Dr (IntKind.i64.wrap (0 - a0)) (IntKind.i64.wrap (0 - a1))) (Dr a0 a1))))
theorem L9 {a0 : Int} {a1 : Int} {r : Br × Bool} (h : FT a0 a1 = some r) : Ag Tryz.prog 153 [nI a0,nI a1] (.tup [.agg (A4 r.1),.bool r.2]):=by
 unfold FT at h
 refine st cF rfl (rn 2 rfl (Ac fun K1 hK1 => rs (sp 3 rfl (?_))))
 rcases Ab h with ⟨g2,h⟩ | ⟨g2,h⟩
 ·exact qg 11 g2 rfl (sp 15 rfl (evn (qT rfl rfl (rn 1 rfl (Af ((by cases h; exact ⟨.inl rfl,rfl⟩)))))))
 ·refine qg 11 g2 rfl (sp 4 rfl (?_))
  obtain ⟨v3,g4,h⟩:=Aa h
  refine oGR rfl rfl (qC (qs rfl (qs rfl (qs rfl Aw))) (Bv g4) (sp 3 rfl (?_)))
  rcases Ab h with ⟨g5,h⟩ | ⟨g5,h⟩
  ·exact qg 19 g5 rfl (sp 7 rfl (evn (qk [0,1,4,26] rfl (qT rfl rfl (rn 1 rfl (Af ((by cases h; exact ⟨.inl rfl,rfl⟩))))))))
  ·refine qg 19 g5 rfl (sp 4 rfl (?_))
   obtain ⟨v6,g7,h⟩:=Aa h
   refine oGR rfl rfl (qC (qs rfl (qs rfl (qs rfl Aw))) (Bv g7) (sp 2 rfl (evn ?_)))
   rcases Ab h with ⟨g8,h⟩ | ⟨g8,h⟩
   ·exact qT rfl g8 (rn 1 rfl (Af ((by cases h; exact ⟨.inl rfl,rfl⟩))))
   ·refine qF rfl g8 (Ae (hK1 _ (Ac fun K9 hK9 => rn 1 rfl ?_)))
    have kJ1 : ∀ {x10 : Int} {x11 : Int},Dr x10 x11 = some r -> Jn K9 [(0,nI x10),(1,nI x11),(4,.box [nI 0,nI 0])]:=by
     intro x10 x11 h σ' hk
     unfold Dr at h
     refine hK9 _ (lh hk rfl (rs (sp 5 rfl (?_))))
     obtain ⟨v12,g13,h⟩:=Aa h
     refine qC (qs rfl (qs rfl Aw)) (KC g13) (sp 1 rfl (evn (rd (by kernel_rfl) (sd 2 rfl (?_)))))
     obtain ⟨g14,h⟩:=An h
     refine ed rfl (qB rfl ⟨rfl,g14⟩ rfl (sd 2 rfl (?_)))
     obtain ⟨g15,h⟩:=An h
     refine ed rfl (qB rfl ⟨rfl,g15⟩ rfl (sd 3 rfl (Ea (Ac fun K16 hK16 => rs (sp 1 rfl (?_))))))
     obtain ⟨v17,g18,h⟩:=Aa h
     refine qC (qa rfl (erg (erc rfl (erc rfl rfl))) Aw) (Bt g18) (sp 1 rfl (evn ?_))
     rcases Ab h with ⟨g19,h⟩ | ⟨g19,h⟩
     ·exact qT rfl g19 (rn 1 rfl (Af ((by cases h; exact ⟨.inl rfl,rfl⟩))))
     ·exact qF rfl g19 (Ae (hK16 _ (rn 1 rfl (Af ((by cases h; exact ⟨.inl rfl,rfl⟩))))))
    rcases Ab h with ⟨g20,h⟩ | ⟨g20,h⟩
    ·exact qT rfl g20 (rn 1 rfl (qk [0,1,4] rfl (rg (sp 3 rfl (evn (kJ1 h _ (okr rfl)))))))
    ·exact qF rfl g20 (Ae (kJ1 h _ (okr rfl)))
def FSQ (a0 : Br) (a1 : Br) : Option (Br × Bool):=Ad (AO a0) fun v2 => cond (!v2) (some ((0,0),false)) (Ad (AO a1) fun v5 => cond (!v5) (some ((0,0),false)) (Ad (FT (IntKind.i64.wrap ((IntKind.i64.wrap (a0.1 * a1.2)) + (IntKind.i64.wrap (a1.1 * a0.2)))) (IntKind.i64.wrap (a0.2 * a1.2))) fun v8 => some (v8.1,v8.2)))
theorem L7 {a0 : Br} {a1 : Br} {r : Br × Bool} (h : FSQ a0 a1 = some r) : Ag Tryz.prog 121 [.agg (A4 a0),.agg (A4 a1)] (.tup [.agg (A4 r.1),.bool r.2]):=by
 unfold FSQ at h
 refine st bW rfl (rn 1 rfl (Ac fun K1 hK1 => rs (sp 1 rfl (?_))))
 obtain ⟨v2,g3,h⟩:=Aa h
 refine qC (qa rfl (erg (erc rfl (erc rfl rfl))) Aw) (Bt g3) (sp 2 rfl (?_))
 rcases Ab h with ⟨g4,h⟩ | ⟨g4,h⟩
 ·exact qg 11 g4 rfl (sp 4 rfl (evn (qT rfl rfl (rn 1 rfl (Af ((by cases h; exact ⟨.inl rfl,rfl⟩)))))))
 ·refine qg 11 g4 rfl (sp 1 rfl (?_))
  obtain ⟨v5,g6,h⟩:=Aa h
  refine oGR rfl rfl (qC (qa rfl (erg (erc rfl (erc rfl rfl))) Aw) (Bt g6) (sp 2 rfl (evn ?_)))
  rcases Ab h with ⟨g7,h⟩ | ⟨g7,h⟩
  ·exact qT rfl g7 (rn 1 rfl (Af ((by cases h; exact ⟨.inl rfl,rfl⟩))))
  ·refine qF rfl g7 (Ae (hK1 _ (rs (sp 16 rfl (?_)))))
   obtain ⟨v8,g9,h⟩:=Aa h
   exact qC (qs rfl (qs rfl Aw)) (L9 g9) (sp 6 rfl (evn (qk [4,6,7] rfl (rn 1 rfl (Af ((by cases h; exact ⟨.inl rfl,rfl⟩)))))))
def CS (a0 : List Br) (rec : (Int × Int × Int) -> Option (Sum (Int × Int) (Br × Bool))) (s : Int × Int × Int) : Option (Sum (Int × Int) (Br × Bool)):=match s with
  | (y1,y2,y3) => cond (decide (y3 < (List.length a0 : Int))) (Ad (AA a0 y3) fun e7 => Ad (FSQ (y1,y2) e7) fun v9 => cond (!v9.2) (some (.inr ((0,0),false))) (rec (v9.1.1,v9.1.2,(IntKind.i64.wrap (y3 + 1))))) (some (.inl (y1,y2)))
def Fx (a0 : List Br) : Option (Br × Bool):=Ad (Ah (CS a0) fz (0,1,0)) fun o1 => (match o1 with
  | .inl (z2,z3) => (some ((z2,z3),true))
  | .inr r => some r)
theorem Lt {a0 : List Br} {r : Br × Bool} (h : Fx a0 = some r) : Ag Tryz.prog 81 [dL A4 a0] (.tup [.agg (A4 r.1),.bool r.2]):=by
 unfold Fx at h
 refine st i4 rfl (rn 2 rfl (Ac fun K1 hK1 => rn 1 rfl ?_))
 obtain ⟨o1,hl,hr1⟩:=Aa h
 have kXB1 : ∀ {z2 : Int} {z3 : Int},(.inl (z2,z3)) = o1 -> Jn K1 [(2,.box [nI 0,nI 0]),(4,.box [nI z2,nI z3])]:=by
  intro z2 z3 h σ' hk
  subst h
  replace h:=hr1
  try dsimp only at h
  exact hK1 _ (lh hk rfl (rn 1 rfl (Af ((by cases h; exact ⟨.inl rfl,rfl⟩)))))
 refine Aq (fun (s : Int × Int × Int) => match s with | (y1,y2,y3) => [(0,dL A4 a0),(2,.box [nI 0,nI 0]),(4,.box [nI y1,nI y2]),(5,nI y3)]) _ _ _ _ hl (okr rfl) (fun _ => rfl) ?_
 rintro m ⟨y1,y2,y3⟩ N h hN
 unfold CS at h
 dsimp only at h
 refine Ac fun K4 hK4 => rn 1 rfl ?_
 rcases Ab h with ⟨g5,h⟩ | ⟨g5,h⟩
 ·refine qT rfl g5 (Ae (hK4 _ (Ac fun K6 hK6 => Ap (rd (by kernel_rfl) (sd 3 rfl (?_))))))
  obtain ⟨e7,g8,h⟩:=Aa h
  refine ed rfl (qI rfl FC g8 (sd 1 rfl (?_)))
  obtain ⟨v9,g10,h⟩:=Aa h
  refine ed rfl (qC (qa rfl (erg (erc rfl (erc rfl rfl))) (qa rfl (erg (erc rfl (erc rfl rfl))) Aw)) (L7 g10) (sd 6 rfl (Ea (Ac fun K11 hK11 => rn 1 rfl ?_))))
  rcases Ab h with ⟨g12,h⟩ | ⟨g12,h⟩
  ·exact qT rfl g12 (rn 1 rfl (Af ((by cases h; cases hr1; exact ⟨.inl rfl,rfl⟩))))
  ·exact qF rfl g12 (Ae (hK11 _ (qk [0,2,4,5,6] rfl (rg (sp 2 rfl (evn (hK6 _ (rg (sp 3 rfl (evn (hN _ _ h (okr rfl))))))))))))
 ·exact qF rfl g5 (Aj (kXB1 (Option.some.inj h) _ (okr rfl)))
def DH (a0 : Br) (a1 : Br) : Option (Int):=Ad (AO a0) fun v2 => cond (!v2) (some 0) (Ad (AO a1) fun v5 => cond (!v5) (some 0) (cond (decide ((IntKind.i64.wrap (a0.1 * a1.2)) < (IntKind.i64.wrap (a1.1 * a0.2)))) (some (-1)) (cond (decide ((IntKind.i64.wrap (a1.1 * a0.2)) < (IntKind.i64.wrap (a0.1 * a1.2)))) (some 1) (some 0))))
theorem J0 {a0 : Br} {a1 : Br} {r : Int} (h : DH a0 a1 = some r) : Ag Tryz.prog 82 [.agg (A4 a0),.agg (A4 a1)] (nI r):=by
 unfold DH at h
 refine st i5 rfl (rn 1 rfl (Ac fun K1 hK1 => rs (sp 1 rfl (?_))))
 obtain ⟨v2,g3,h⟩:=Aa h
 refine qC (qa rfl (erg (erc rfl (erc rfl rfl))) Aw) (Bt g3) (sp 2 rfl (?_))
 rcases Ab h with ⟨g4,h⟩ | ⟨g4,h⟩
 ·exact qg 10 g4 rfl (sp 4 rfl (evn (qT rfl rfl (rn 1 rfl (Af ((by cases h; exact ⟨.inl rfl,rfl⟩)))))))
 ·refine qg 10 g4 rfl (sp 1 rfl (?_))
  obtain ⟨v5,g6,h⟩:=Aa h
  refine oGR rfl rfl (qC (qa rfl (erg (erc rfl (erc rfl rfl))) Aw) (Bt g6) (sp 2 rfl (evn ?_)))
  rcases Ab h with ⟨g7,h⟩ | ⟨g7,h⟩
  ·exact qT rfl g7 (rn 1 rfl (Af ((by cases h; exact ⟨.inl rfl,rfl⟩))))
  ·refine qF rfl g7 (Ae (hK1 _ (rn 1 rfl (qk [2,3,5] rfl (rn 1 rfl (Ac fun K8 hK8 => rn 1 rfl ?_))))))
   rcases Ab h with ⟨g9,h⟩ | ⟨g9,h⟩
   ·exact qT rfl g9 (rn 1 rfl (Af ((by cases h; exact ⟨.inl rfl,rfl⟩))))
   ·refine qF rfl g9 (Ae (hK8 _ (Ac fun K10 hK10 => rn 1 rfl ?_)))
    rcases Ab h with ⟨g11,h⟩ | ⟨g11,h⟩
    ·exact qT rfl g11 (rn 1 rfl (Af ((by cases h; exact ⟨.inl rfl,rfl⟩))))
    ·exact qF rfl g11 (Ae (hK10 _ (rn 1 rfl (qk [4] rfl (Af ((by cases h; exact ⟨.inl rfl,rfl⟩)))))))
def Cb (rec : ((List Br) × Int) -> Option ((List Br))) (y7 : Int) (x21 : List Br) : Option ((List Br)):=rec (x21,(IntKind.i64.wrap (y7 + 1)))
def Ca (a0 : Y41) (a1 : List Br) (y3 : Int) (rec : ((List Br) × Int) -> Option ((List Br))) (s : (List Br) × Int) : Option ((List Br)):=match s with
  | (y6,y7) => cond (decide (y7 < (List.length a1 : Int))) (Ad (AA a0.2.1 y7) fun e17 => Ad (AQ e17 y3) fun v19 => cond v19 (Ad (AA a1 y7) fun e23 => chk (List.length y6 + List.length [e23] <= lim) (Cb rec y7 (y6 ++ [e23]))) (Cb rec y7 y6)) (some y6)
def Dx (a0 : Y41) (a1 : List Br) (rec : Int -> Option (Sum (Unit) (Bool))) (y3 : Int) : Option (Sum (Unit) (Bool)):=cond (decide (y3 < a0.1)) (Ad (Ah (Ca a0 a1 y3) fz (([] : List Br),0)) fun z13 => Ad (Fx z13) fun v26 => cond (!v26.2) (some (.inr false)) (Ad (DH v26.1 (1,1)) fun v29 => cond (decide (v29 < 0)) (some (.inr false)) (rec (IntKind.i64.wrap (y3 + 1))))) (some (.inl ()))
def Dc (a0 : Y41) (a1 : List Br) : Option (Bool):=Ad (Bo a0) fun v2 => cond (!v2) (some false) (Ad (Hv a1 (List.length a0.2.1 : Int)) fun v5 => cond (!v5) (some false) (Ad (Ah (Dx a0 a1) fz 0) fun o1 => (match o1 with
  | .inl _ => (some true)
  | .inr r => some r)))
theorem JD {a0 : Y41} {a1 : List Br} {r : Bool} (h : Dc a0 a1 = some r) : Ag Tryz.prog 44 [.agg (Bz a0),dL A4 a1] (.bool r):=by
 unfold Dc at h
 refine st io rfl (rn 1 rfl (Ac fun K1 hK1 => rs (sp 1 rfl (?_))))
 obtain ⟨v2,g3,h⟩:=Aa h
 refine qC (qa rfl (erg (erc rfl (erc (erD Ce _) (erc (erD Al _) rfl)))) Aw) (Dp g3) (sp 2 rfl (?_))
 rcases Ab h with ⟨g4,h⟩ | ⟨g4,h⟩
 ·exact qg 13 g4 rfl (sp 7 rfl (evn (qT rfl rfl (rn 1 rfl (Af ((by cases h; exact ⟨.inl rfl,rfl⟩)))))))
 ·refine qg 13 g4 rfl (sp 4 rfl (?_))
  obtain ⟨v5,g6,h⟩:=Aa h
  refine oGR rfl rfl (qC (qa rfl (erD FK _) (qs rfl Aw)) (Oi g6) (sp 2 rfl (evn ?_)))
  rcases Ab h with ⟨g7,h⟩ | ⟨g7,h⟩
  ·exact qT rfl g7 (rn 1 rfl (Af ((by cases h; exact ⟨.inl rfl,rfl⟩))))
  ·refine qF rfl g7 (Ae (hK1 _ (qk [1,2] rfl (Ac fun K8 hK8 => rn 1 rfl ?_))))
   obtain ⟨o1,hl,hr1⟩:=Aa h
   have kXB1 : (.inl ()) = o1 -> Jn K8 []:=by
    intro h σ' hk
    subst h
    replace h:=hr1
    try dsimp only at h
    exact hK8 _ (lh hk rfl (rn 1 rfl (Af ((by cases h; exact ⟨.inl rfl,rfl⟩)))))
   refine Aq (fun (y3 : Int) => [(1,dL A4 a1),(2,.box [nI a0.1,dL BM a0.2.1,dL Ak a0.2.2]),(5,nI y3)]) _ _ _ _ hl (okr rfl) (fun _ => rfl) ?_
   rintro m y3 N h hN
   unfold Dx at h
   refine Ac fun K9 hK9 => rn 1 rfl ?_
   rcases Ab h with ⟨g10,h⟩ | ⟨g10,h⟩
   ·refine qT rfl g10 (Ae (hK9 _ (Ac fun K11 hK11 => Ap (rs (qBs A4 [] rfl rfl rfl FC (sp 1 rfl (evn (Ac fun K12 hK12 => rn 1 rfl ?_))))))))
    obtain ⟨o2,hl,hr2⟩:=Aa h
    have kXB2 : ∀ {z13 : List Br},z13 = o2 -> Jn K12 [(1,dL A4 a1),(2,.box [nI a0.1,dL BM a0.2.1,dL Ak a0.2.2]),(5,nI y3),(6,oL 101 A4 z13)]:=by
     intro z13 h σ' hk
     subst h
     replace h:=hr2
     try dsimp only at h
     refine hK12 _ (lh hk rfl (rs (sp 1 rfl (?_))))
     obtain ⟨v26,g27,h⟩:=Aa h
     refine qC (qa rfl (erD FK _) Aw) (Lt g27) (sp 6 rfl (evn (rs (sp 3 rfl (?_)))))
     rcases Ab h with ⟨g28,h⟩ | ⟨g28,h⟩
     ·exact qg 55 g28 rfl (sp 5 rfl (evn (qT rfl rfl (rn 1 rfl (Af ((by cases h; cases hr1; exact ⟨.inl rfl,rfl⟩)))))))
     ·refine qg 55 g28 rfl (sp 2 rfl (?_))
      obtain ⟨v29,g30,h⟩:=Aa h
      refine oGR rfl rfl (qC (qa rfl (erg (erc rfl (erc rfl rfl))) (qa rfl (erg (erc rfl (erc rfl rfl))) Aw)) (J0 g30) (sp 2 rfl (evn ?_)))
      rcases Ab h with ⟨g31,h⟩ | ⟨g31,h⟩
      ·exact qT rfl g31 (rn 1 rfl (Af ((by cases h; cases hr1; exact ⟨.inl rfl,rfl⟩))))
      ·exact qF rfl g31 (Ae (hK11 _ (qk [1,2,5] rfl (rg (sp 3 rfl (evn (hN _ _ h (okr rfl))))))))
    refine Aq (fun (s : (List Br) × Int) => match s with | (y6,y7) => [(1,dL A4 a1),(2,.box [nI a0.1,dL BM a0.2.1,dL Ak a0.2.2]),(5,nI y3),(6,oL 101 A4 y6),(7,nI y7)]) _ _ _ _ hl (okr rfl) (fun _ => rfl) ?_
    rintro m ⟨y6,y7⟩ N h hN
    unfold Ca at h
    dsimp only at h
    refine Ac fun K14 hK14 => rn 1 rfl ?_
    rcases Ab h with ⟨g15,h⟩ | ⟨g15,h⟩
    ·refine qT rfl g15 (Ae (hK14 _ (Ac fun K16 hK16 => Ap (rs (sp 3 rfl (?_))))))
     obtain ⟨e17,g18,h⟩:=Aa h
     refine qI rfl G3 g18 (sp 2 rfl (?_))
     obtain ⟨v19,g20,h⟩:=Aa h
     refine qC (qa rfl (erg (erc rfl (erc (erD Al _) rfl))) (qs rfl Aw)) (CA g20) (evn ?_)
     have kJ3 : ∀ {x21 : List Br},Cb (Ah (Ca a0 a1 y3) m) y7 x21 = some o2 -> Jn K16 [(1,dL A4 a1),(2,.box [nI a0.1,dL BM a0.2.1,dL Ak a0.2.2]),(5,nI y3),(6,oL 101 A4 x21),(7,nI y7)]:=by
      intro x21 h σ' hk
      unfold Cb at h
      exact hK16 _ (lh hk rfl (rg (sp 3 rfl (evn (hN _ _ h (okr rfl))))))
     rcases Ab h with ⟨g22,h⟩ | ⟨g22,h⟩
     ·refine qT rfl g22 (rg (sp 3 rfl (?_)))
      obtain ⟨e23,g24,h⟩:=Aa h
      refine qI rfl FC g24 (sp 1 rfl (qBs A4 [e23] rfl rfl rfl FC (?_)))
      obtain ⟨g25,h⟩:=An h
      exact qA A4 y6 [e23] rfl rfl (AE FC [e23]) rfl g25 (sp 1 rfl (evn (kJ3 h _ (okr rfl))))
     ·exact qF rfl g22 (Ae (kJ3 h _ (okr rfl)))
    ·exact qF rfl g15 (Aj (kXB2 (Option.some.inj h) _ (okr rfl)))
   ·exact qF rfl g10 (Aj (kXB1 (Option.some.inj h) _ trivial))
def BL (a0 : List Br) (rec : (Int × Int) -> Option (Sum (Int) ((List Int) × Int))) (s : Int × Int) : Option (Sum (Int) ((List Int) × Int)):=match s with
  | (y1,y2) => cond (decide (y2 < (List.length a0 : Int))) (Ad (AA a0 y2) fun e7 => Ad (AO e7) fun v9 => cond (!v9) (some (.inr (([] : List Int),0))) (Ad (AA a0 y2) fun e12 => cond (decide (e12.1 < 0)) (some (.inr (([] : List Int),0))) (Ad (AA a0 y2) fun e15 => Ad (HI y1 e15.2) fun v17 => chk (v17 ≠ 0) (Ad (AA a0 y2) fun e20 => cond (decide (1000 < (IntKind.i64.wrap ((IntKind.i64.wrap (Int.tdiv y1 v17)) * e20.2)))) (some (.inr (([] : List Int),0))) (rec ((IntKind.i64.wrap ((IntKind.i64.wrap (Int.tdiv y1 v17)) * e20.2)),(IntKind.i64.wrap (y2 + 1)))))))) (some (.inl y1))
def D7 (a0 : List Br) (z2 : Int) (rec : ((List Int) × Int) -> Option ((List Int))) (s : (List Int) × Int) : Option ((List Int)):=match s with
  | (y3,y4) => cond (decide (y4 < (List.length a0 : Int))) (Ad (AA a0 y4) fun e28 => Ad (AA a0 y4) fun e30 => chk (e30.2 ≠ 0) (chk (List.length y3 + List.length [IntKind.i64.wrap (e28.1 * (IntKind.i64.wrap (Int.tdiv z2 e30.2)))] <= lim) (rec ((y3 ++ [IntKind.i64.wrap (e28.1 * (IntKind.i64.wrap (Int.tdiv z2 e30.2)))]),(IntKind.i64.wrap (y4 + 1)))))) (some y3)
def CR (a0 : List Br) : Option ((List Int) × Int):=Ad (Ah (BL a0) fz (1,0)) fun o1 => (match o1 with
  | .inl z2 => (Ad (Ah (D7 a0 z2) fz (([] : List Int),0)) fun z24 => some (z24,z2))
  | .inr r => some r)
theorem HD {a0 : List Br} {r : (List Int) × Int} (h : CR a0 = some r) : Ag Tryz.prog 83 [dL A4 a0] (.tup [oL 3 Ak r.1,nI r.2]):=by
 unfold CR at h
 refine st i6 rfl (rn 2 rfl (Ac fun K1 hK1 => rn 1 rfl ?_))
 obtain ⟨o1,hl,hr1⟩:=Aa h
 have kXB1 : ∀ {z2 : Int},(.inl z2) = o1 -> Jn K1 [(0,dL A4 a0),(4,nI z2)]:=by
  intro z2 h σ' hk
  subst h
  replace h:=hr1
  try dsimp only at h
  refine hK1 _ (lh hk rfl (rs (qBs Ak [] rfl rfl rfl Ao (sp 1 rfl (evn (Ac fun K23 hK23 => rn 1 rfl ?_))))))
  obtain ⟨o2,hl,hr2⟩:=Aa h
  have kXB2 : ∀ {z24 : List Int},z24 = o2 -> Jn K23 [(4,nI z2),(6,oL 3 Ak z24)]:=by
   intro z24 h σ' hk
   subst h
   replace h:=hr2
   try dsimp only at h
   exact hK23 _ (lh hk rfl (rn 1 rfl (Af ((by cases h; exact ⟨.inl rfl,rfl⟩)))))
  refine Aq (fun (s : (List Int) × Int) => match s with | (y3,y4) => [(0,dL A4 a0),(4,nI z2),(6,oL 3 Ak y3),(7,nI y4)]) _ _ _ _ hl (okr rfl) (fun _ => rfl) ?_
  rintro m ⟨y3,y4⟩ N h hN
  unfold D7 at h
  dsimp only at h
  refine Ac fun K25 hK25 => rn 1 rfl ?_
  rcases Ab h with ⟨g26,h⟩ | ⟨g26,h⟩
  ·refine qT rfl g26 (Ae (hK25 _ (Ac fun K27 hK27 => Ap (rgd (by kernel_rfl) (sd 3 rfl (?_))))))
   obtain ⟨e28,g29,h⟩:=Aa h
   refine ed rfl (qI rfl FC g29 (sd 5 rfl (?_)))
   obtain ⟨e30,g31,h⟩:=Aa h
   refine ed rfl (qI rfl FC g31 (sd 2 rfl (?_)))
   obtain ⟨g32,h⟩:=An h
   refine ed rfl (qB rfl ⟨rfl,g32⟩ rfl (sd 1 rfl (ed rfl (qBs Ak [IntKind.i64.wrap (e28.1 * (IntKind.i64.wrap (Int.tdiv z2 e30.2)))] rfl rfl rfl Ao (?_)))))
   obtain ⟨g33,h⟩:=An h
   exact ed rfl (qA Ak y3 [IntKind.i64.wrap (e28.1 * (IntKind.i64.wrap (Int.tdiv z2 e30.2)))] rfl rfl (AE Ao [IntKind.i64.wrap (e28.1 * (IntKind.i64.wrap (Int.tdiv z2 e30.2)))]) rfl g33 (sd 1 rfl (Ea (hK27 _ (rg (sp 3 rfl (evn (hN _ _ h (okr rfl)))))))))
  ·exact qF rfl g26 (Aj (kXB2 (Option.some.inj h) _ (okr rfl)))
 refine Aq (fun (s : Int × Int) => match s with | (y1,y2) => [(0,dL A4 a0),(4,nI y1),(5,nI y2)]) _ _ _ _ hl (okr rfl) (fun _ => rfl) ?_
 rintro m ⟨y1,y2⟩ N h hN
 unfold BL at h
 dsimp only at h
 refine Ac fun K3 hK3 => rn 1 rfl ?_
 rcases Ab h with ⟨g4,h⟩ | ⟨g4,h⟩
 ·refine qT rfl g4 (Ae (hK3 _ (Ac fun K5 hK5 => Ap (Ac fun K6 hK6 => rs (sp 2 rfl (?_))))))
  obtain ⟨e7,g8,h⟩:=Aa h
  refine qI rfl FC g8 (sp 1 rfl (?_))
  obtain ⟨v9,g10,h⟩:=Aa h
  refine qC (qa rfl (erg (erc rfl (erc rfl rfl))) Aw) (Bt g10) (sp 2 rfl (?_))
  rcases Ab h with ⟨g11,h⟩ | ⟨g11,h⟩
  ·exact qg 20 g11 rfl (sp 7 rfl (evn (qT rfl rfl (rs (qBs Ak [] rfl rfl rfl Ao (sp 2 rfl (evn (Af ((by cases h; cases hr1; exact ⟨.inl rfl,rfl⟩))))))))))
  ·refine qg 20 g11 rfl (sp 2 rfl (?_))
   obtain ⟨e12,g13,h⟩:=Aa h
   refine oGR rfl rfl (qI rfl FC g13 (sp 4 rfl (evn (qk [0,4,5,27] rfl ?_))))
   rcases Ab h with ⟨g14,h⟩ | ⟨g14,h⟩
   ·exact qT rfl g14 (rs (qBs Ak [] rfl rfl rfl Ao (sp 2 rfl (evn (Af ((by cases h; cases hr1; exact ⟨.inl rfl,rfl⟩)))))))
   ·refine qF rfl g14 (Ae (hK6 _ (rd (by kernel_rfl) (sd 4 rfl (?_)))))
    obtain ⟨e15,g16,h⟩:=Aa h
    refine ed rfl (qI rfl FC g16 (sd 2 rfl (?_)))
    obtain ⟨v17,g18,h⟩:=Aa h
    refine ed rfl (qC (qs rfl (qs rfl Aw)) (KC g18) (?_))
    obtain ⟨g19,h⟩:=An h
    refine ed rfl (qB rfl ⟨rfl,g19⟩ rfl (sd 2 rfl (?_)))
    obtain ⟨e20,g21,h⟩:=Aa h
    refine ed rfl (qI rfl FC g21 (sd 4 rfl (Ea (rn 1 rfl ?_))))
    rcases Ab h with ⟨g22,h⟩ | ⟨g22,h⟩
    ·exact qT rfl g22 (rs (qBs Ak [] rfl rfl rfl Ao (sp 2 rfl (evn (Af ((by cases h; cases hr1; exact ⟨.inl rfl,rfl⟩)))))))
    ·exact qF rfl g22 (Ae (hK5 _ (rg (sp 3 rfl (evn (hN _ _ h (okr rfl)))))))
 ·exact qF rfl g4 (Aj (kXB1 (Option.some.inj h) _ (okr rfl)))
def EZ (a0 : List Int) (rec : Int -> Option (Sum (Unit) (Bool))) (y1 : Int) : Option (Sum (Unit) (Bool)):=cond (decide (y1 < (List.length a0 : Int))) (Ad (AA a0 y1) fun e5 => Ad (BN e5 0 9) fun v7 => cond (!v7) (some (.inr false)) (rec (IntKind.i64.wrap (y1 + 1)))) (some (.inl ()))
def DI (x11 : Bool) : Option (Bool):=some x11
def B3 (a0 : List Int) : Option (Bool):=Ad (Ah (EZ a0) fz 0) fun o1 => (match o1 with
  | .inl _ => (cond (decide ((List.length a0 : Int) <= 60)) (cond ((List.length a0 : Int) == 0) (DI true) (Ad (AA a0 (IntKind.i64.wrap ((List.length a0 : Int) - 1))) fun e14 => DI (e14 != 0))) (DI false))
  | .inr r => some r)
theorem Ff {a0 : List Int} {r : Bool} (h : B3 a0 = some r) : Ag Tryz.prog 124 [.agg [dL Ak a0]] (.bool r):=by
 unfold B3 at h
 refine st bZ rfl (rn 1 rfl (Ac fun K1 hK1 => rn 1 rfl ?_))
 obtain ⟨o1,hl,hr1⟩:=Aa h
 have kXB1 : (.inl ()) = o1 -> Jn K1 [(1,.box [dL Ak a0])]:=by
  intro h σ' hk
  subst h
  replace h:=hr1
  try dsimp only at h
  refine hK1 _ (lh hk rfl (rk fun K10 hK10 => ?_))
  have kJ2 : ∀ {x11 : Bool},DI x11 = some r -> Jn K10 [(2,.bool x11)]:=by
   intro x11 h σ' hk
   unfold DI at h
   exact hK10 _ (lh hk rfl (Af ((by cases h; exact ⟨.inl rfl,rfl⟩))))
  refine sp 5 rfl (?_)
  rcases Ab h with ⟨g12,h⟩ | ⟨g12,h⟩
  ·refine qg 22 g12 rfl (sp 5 rfl (?_))
   rcases Ab h with ⟨g13,h⟩ | ⟨g13,h⟩
   ·exact qg 27 g13 rfl (sp 12 rfl (evn (kJ2 h _ (okr rfl))))
   ·refine qg 27 g13 rfl (sp 6 rfl (?_))
    obtain ⟨e14,g15,h⟩:=Aa h
    exact oGR rfl rfl (qI rfl Ao g15 (sp 5 rfl (evn (kJ2 h _ (okr rfl)))))
  ·exact qg 22 g12 rfl (sp 17 rfl (evn (kJ2 h _ (okr rfl))))
 refine Aq (fun (y1 : Int) => [(1,.box [dL Ak a0]),(3,nI y1)]) _ _ _ _ hl (okr rfl) (fun _ => rfl) ?_
 rintro m y1 N h hN
 unfold EZ at h
 refine Ac fun K2 hK2 => rn 1 rfl ?_
 rcases Ab h with ⟨g3,h⟩ | ⟨g3,h⟩
 ·refine qT rfl g3 (Ae (hK2 _ (Ac fun K4 hK4 => Ap (rs (sp 3 rfl (?_))))))
  obtain ⟨e5,g6,h⟩:=Aa h
  refine qI rfl Ao g6 (sp 1 rfl (?_))
  obtain ⟨v7,g8,h⟩:=Aa h
  refine qC (qs rfl (qs rfl (qs rfl Aw))) (Bv g8) (sp 1 rfl (evn ?_))
  rcases Ab h with ⟨g9,h⟩ | ⟨g9,h⟩
  ·exact qT rfl g9 (rn 1 rfl (Af ((by cases h; cases hr1; exact ⟨.inl rfl,rfl⟩))))
  ·exact qF rfl g9 (Ae (hK4 _ (rg (sp 3 rfl (evn (hN _ _ h (okr rfl)))))))
 ·exact qF rfl g3 (Aj (kXB1 (Option.some.inj h) _ (okr rfl)))
def FB (rec : ((List Int) × Int × Int) -> Option ((List Int))) (y1 : List Int) (y3 : Int) (x9 : Int) : Option ((List Int)):=chk (List.length y1 + List.length [Int.tmod x9 10] <= lim) (rec ((y1 ++ [Int.tmod x9 10]),(IntKind.i64.wrap (Int.tdiv x9 10)),(IntKind.i64.wrap (y3 + 1))))
def FA (rec : ((List Int) × Int × Int) -> Option ((List Int))) (a0 : List Int) (y1 : List Int) (y2 : Int) (y3 : Int) (x5 : Bool) : Option ((List Int)):=cond x5 (cond (decide (y3 < (List.length a0 : Int))) (Ad (AA a0 y3) fun e12 => FB rec y1 y3 (IntKind.i64.wrap (y2 + e12))) (FB rec y1 y3 y2)) (some y1)
def EE (a0 : List Int) (rec : ((List Int) × Int × Int) -> Option ((List Int))) (s : (List Int) × Int × Int) : Option ((List Int)):=match s with
  | (y1,y2,y3) => cond (decide (y3 < (List.length a0 : Int))) (FA rec a0 y1 y2 y3 true) (FA rec a0 y1 y2 y3 (decide (0 < y2)))
def Gw  (rec : ((List Int)) -> Option ((List Int))) (y4 : (List Int)) : Option ((List Int)):=cond (decide (0 < (List.length y4 : Int))) (Ad (AA y4 (IntKind.i64.wrap ((List.length y4 : Int) - 1))) fun e19 => cond (e19 == 0) (chk ((0 : Int) <= 0 ∧ 0 <= IntKind.i64.wrap ((List.length y4 : Int) - 1) ∧ IntKind.i64.wrap ((List.length y4 : Int) - 1) <= (List.length y4 : Int)) (rec (Cq y4 0 (IntKind.i64.wrap ((List.length y4 : Int) - 1))))) (some y4)) (some y4)
def Ib (a0 : List Int) : Option ((List Int) × Bool):=Ad (Ah (EE a0) fz (([] : List Int),0,0)) fun z2 => Ad (Ah Gw fz z2) fun z16 => cond (decide (60 < (List.length z16 : Int))) (some ([],false)) (some (z16,true))
theorem OY {a0 : List Int} {r : (List Int) × Bool} (h : Ib a0 = some r) : Ag Tryz.prog 125 [dL Ak a0] (.tup [.agg [dL Ak r.1],.bool r.2]):=by
 unfold Ib at h
 refine st b6 rfl (rn 3 rfl (Ac fun K1 hK1 => rn 1 rfl ?_))
 obtain ⟨o1,hl,hr1⟩:=Aa h
 have kXB1 : ∀ {z2 : List Int},z2 = o1 -> Jn K1 [(2,.box [oL 3 Ak []]),(4,.box [oL 3 Ak z2])]:=by
  intro z2 h σ' hk
  subst h
  replace h:=hr1
  try dsimp only at h
  refine hK1 _ (lh hk rfl (Ac fun K15 hK15 => ?_))
  obtain ⟨o4,hl,hr4⟩:=Aa h
  have kXB4 : ∀ {z16 : List Int},z16 = o4 -> Jn K15 [(2,.box [oL 3 Ak []]),(4,.box [dL Ak z16])]:=by
   intro z16 h σ' hk
   subst h
   replace h:=hr4
   try dsimp only at h
   refine hK15 _ (lh hk rfl (Ac fun K23 hK23 => rn 1 rfl ?_))
   rcases Ab h with ⟨g24,h⟩ | ⟨g24,h⟩
   ·exact qT rfl g24 (rn 1 rfl (Ez [(2,.box [dL Ak []]),(3,.bool false)] ⟨(kb (cwe rfl rfl cwn)),kr,trivial⟩ rfl (Af ((by cases h; exact ⟨.inl rfl,rfl⟩)))))
   ·exact qF rfl g24 (Ae (hK23 _ (rn 1 rfl (Af ((by cases h; exact ⟨.inl rfl,rfl⟩))))))
  refine Aq (fun (y4 : List Int) => [(2,.box [oL 3 Ak []]),(4,.box [dL Ak y4])]) _ _ _ _ hl ⟨kr,(kb (cwd rfl rfl cwn)),trivial⟩ (fun _ => rfl) ?_
  rintro m y4 N h hN
  unfold Gw at h
  refine Ac fun K17 hK17 => rs (sp 5 rfl (?_))
  rcases Ab h with ⟨g18,h⟩ | ⟨g18,h⟩
  ·refine qg 41 g18 rfl (sp 6 rfl (?_))
   obtain ⟨e19,g20,h⟩:=Aa h
   refine oGR rfl rfl (qI rfl Ao g20 (sp 3 rfl (evn ?_)))
   rcases Ab h with ⟨g21,h⟩ | ⟨g21,h⟩
   ·refine qT rfl g21 (Ae (hK17 _ (Ap (rg (sp 6 rfl (?_))))))
    obtain ⟨g22,h⟩:=An h
    exact qSl rfl Ao g22 (sp 2 rfl (evn (hN _ _ h (okr rfl))))
   ·exact qF rfl g21 (Aj (kXB4 (Option.some.inj h) _ (okr rfl)))
  ·exact qg 41 g18 rfl (sp 10 rfl (evn (qk [2,4,51] rfl (qF rfl rfl (Aj (kXB4 (Option.some.inj h) _ (okr rfl)))))))
 refine Aq (fun (s : (List Int) × Int × Int) => match s with | (y1,y2,y3) => [(0,dL Ak a0),(2,.box [oL 3 Ak []]),(4,.box [oL 3 Ak y1]),(5,nI y2),(6,nI y3)]) _ _ _ _ hl (okr rfl) (fun _ => rfl) ?_
 rintro m ⟨y1,y2,y3⟩ N h hN
 unfold EE at h
 dsimp only at h
 refine Ac fun K3 hK3 => rk fun K4 hK4 => ?_
 have kJ2 : ∀ {x5 : Bool},FA (Ah (EE a0) m) a0 y1 y2 y3 x5 = some o1 -> Jn K4 [(0,dL Ak a0),(2,.box [oL 3 Ak []]),(4,.box [oL 3 Ak y1]),(5,nI y2),(6,nI y3),(15,.bool x5)]:=by
  intro x5 h σ' hk
  unfold FA at h
  refine hK4 _ (lh hk rfl ?_)
  rcases Ab h with ⟨g6,h⟩ | ⟨g6,h⟩
  ·refine qT rfl g6 (Ae (hK3 _ (Ac fun K7 hK7 => Ap (Ac fun K8 hK8 => rn 1 rfl ?_))))
   have kJ3 : ∀ {x9 : Int},FB (Ah (EE a0) m) y1 y3 x9 = some o1 -> Jn K8 [(0,dL Ak a0),(2,.box [oL 3 Ak []]),(4,.box [oL 3 Ak y1]),(5,nI x9),(6,nI y3)]:=by
    intro x9 h σ' hk
    unfold FB at h
    refine hK8 _ (lh hk rfl (rs (sp 4 rfl (qBs Ak [Int.tmod x9 10] rfl rfl rfl Ao (?_)))))
    obtain ⟨g10,h⟩:=An h
    exact qA Ak y1 [Int.tmod x9 10] rfl rfl (AE Ao [Int.tmod x9 10]) rfl g10 (sp 2 rfl (evn (rg (sp 3 rfl (evn (hK7 _ (rg (sp 3 rfl (evn (hN _ _ h (okr rfl)))))))))))
   rcases Ab h with ⟨g11,h⟩ | ⟨g11,h⟩
   ·refine qT rfl g11 (rg (sp 3 rfl (?_)))
    obtain ⟨e12,g13,h⟩:=Aa h
    exact qI rfl Ao g13 (sp 3 rfl (evn (kJ3 h _ (okr rfl))))
   ·exact qF rfl g11 (Ae (kJ3 h _ (okr rfl)))
  ·exact qF rfl g6 (Aj (kXB1 (Option.some.inj h) _ (okr rfl)))
 refine sp 5 rfl (?_)
 rcases Ab h with ⟨g14,h⟩ | ⟨g14,h⟩
 ·exact qg 12 g14 rfl (sp 3 rfl (evn (kJ2 h _ (okr rfl))))
 ·exact qg 12 g14 rfl (sp 3 rfl (evn (kJ2 h _ (okr rfl))))
def En (a0 : List Int) (a1 : List Int) (y4 : Int) (rec : ((List Int) × Int) -> Option ((List Int))) (s : (List Int) × Int) : Option ((List Int)):=match s with
  | (y7,y8) => cond (decide (y8 < (List.length a1 : Int))) (Ad (AA y7 (IntKind.i64.wrap (y4 + y8))) fun e18 => Ad (AA a0 y4) fun e20 => Ad (AA a1 y8) fun e22 => Ad (AA y7 (IntKind.i64.wrap (y4 + y8))) fun e24 => rec ((Ky y7 (IntKind.i64.wrap (y4 + y8)) (IntKind.i64.wrap (e18 + (IntKind.i64.wrap (e20 * e22))))),(IntKind.i64.wrap (y8 + 1)))) (some y7)
def Em (a0 : List Int) (a1 : List Int) (rec : ((List Int) × Int) -> Option ((List Int))) (s : (List Int) × Int) : Option ((List Int)):=match s with
  | (y3,y4) => cond (decide (y4 < (List.length a0 : Int))) (Ad (Ah (En a0 a1 y4) fz (y3,0)) fun z14 => rec (z14,(IntKind.i64.wrap (y4 + 1)))) (some y3)
def E9 (a0 : List Int) (a1 : List Int) : Option ((List Int) × Bool):=Ad (B3 a0) fun v2 => cond (!v2) (some ([],false)) (Ad (B3 a1) fun v5 => cond (!v5) (some ([],false)) (chk ((0 : Int) <= IntKind.i64.wrap ((List.length a0 : Int) + (List.length a1 : Int)) ∧ Int.toNat (IntKind.i64.wrap ((List.length a0 : Int) + (List.length a1 : Int))) <= lim) (Ad (Ah (Em a0 a1) fz ((List.replicate (Int.toNat (IntKind.i64.wrap ((List.length a0 : Int) + (List.length a1 : Int)))) (0 : Int)),0)) fun z10 => Ad (Ib z10) fun v26 => some (v26.1,v26.2))))
theorem Im {a0 : List Int} {a1 : List Int} {r : (List Int) × Bool} (h : E9 a0 a1 = some r) : Ag Tryz.prog 88 [.agg [dL Ak a0],.agg [dL Ak a1]] (.tup [.agg [dL Ak r.1],.bool r.2]):=by
 unfold E9 at h
 refine st jb rfl (rn 1 rfl (Ac fun K1 hK1 => rs (sp 1 rfl (?_))))
 obtain ⟨v2,g3,h⟩:=Aa h
 refine qC (qa rfl (erg (erc (erD Al _) rfl)) Aw) (Ff g3) (sp 2 rfl (?_))
 rcases Ab h with ⟨g4,h⟩ | ⟨g4,h⟩
 ·exact qg 14 g4 rfl (sp 4 rfl (evn (qT rfl rfl (rn 1 rfl (Ez [(4,.box [dL Ak []]),(5,.bool false)] ⟨(kb (cwe rfl rfl cwn)),kr,trivial⟩ rfl (Af ((by cases h; exact ⟨.inl rfl,rfl⟩))))))))
 ·refine qg 14 g4 rfl (sp 1 rfl (?_))
  obtain ⟨v5,g6,h⟩:=Aa h
  refine oGR rfl rfl (qC (qa rfl (erg (erc (erD Al _) rfl)) Aw) (Ff g6) (sp 2 rfl (evn ?_)))
  rcases Ab h with ⟨g7,h⟩ | ⟨g7,h⟩
  ·exact qT rfl g7 (rn 1 rfl (Ez [(4,.box [dL Ak []]),(5,.bool false)] ⟨(kb (cwe rfl rfl cwn)),kr,trivial⟩ rfl (Af ((by cases h; exact ⟨.inl rfl,rfl⟩)))))
  ·refine qF rfl g7 (Ae (hK1 _ (rs (sp 7 rfl (?_)))))
   obtain ⟨g8,h⟩:=An h
   refine qMu Ak (0 : Int) rfl rfl rfl rfl g8 rfl (qAu rfl rfl rfl rfl (evn (Ac fun K9 hK9 => rn 1 rfl ?_)))
   obtain ⟨o1,hl,hr1⟩:=Aa h
   have kXB1 : ∀ {z10 : List Int},z10 = o1 -> Jn K9 [(4,.box [oL 3 Ak []]),(6,wL 3 Ak z10)]:=by
    intro z10 h σ' hk
    subst h
    replace h:=hr1
    try dsimp only at h
    refine hK9 _ (lh hk rfl (rs (qTu rfl rfl rfl (?_))))
    obtain ⟨v26,g27,h⟩:=Aa h
    exact qC (qa rfl (erO Al _) Aw) (OY g27) (sp 6 rfl (evn (rn 1 rfl (Af ((by cases h; exact ⟨.inl rfl,rfl⟩))))))
   refine Aq (fun (s : (List Int) × Int) => match s with | (y3,y4) => [(2,.box [dL Ak a0]),(3,.box [dL Ak a1]),(4,.box [oL 3 Ak []]),(6,wL 3 Ak y3),(7,nI y4)]) _ _ _ _ hl (okr rfl) (fun _ => rfl) ?_
   rintro m ⟨y3,y4⟩ N h hN
   unfold Em at h
   dsimp only at h
   refine Ac fun K11 hK11 => rn 1 rfl ?_
   rcases Ab h with ⟨g12,h⟩ | ⟨g12,h⟩
   ·refine qT rfl g12 (Ae (hK11 _ (Ac fun K13 hK13 => Ap (rn 1 rfl ?_))))
    obtain ⟨o2,hl,hr2⟩:=Aa h
    have kXB2 : ∀ {z14 : List Int},z14 = o2 -> Jn K13 [(2,.box [dL Ak a0]),(3,.box [dL Ak a1]),(4,.box [oL 3 Ak []]),(6,wL 3 Ak z14),(7,nI y4)]:=by
     intro z14 h σ' hk
     subst h
     replace h:=hr2
     try dsimp only at h
     exact hK13 _ (lh hk rfl (rg (sp 3 rfl (evn (hN _ _ h (okr rfl))))))
    refine Aq (fun (s : (List Int) × Int) => match s with | (y7,y8) => [(2,.box [dL Ak a0]),(3,.box [dL Ak a1]),(4,.box [oL 3 Ak []]),(6,wL 3 Ak y7),(7,nI y4),(8,nI y8)]) _ _ _ _ hl (okr rfl) (fun _ => rfl) ?_
    rintro m ⟨y7,y8⟩ N h hN
    unfold En at h
    dsimp only at h
    refine Ac fun K15 hK15 => rn 1 rfl ?_
    rcases Ab h with ⟨g16,h⟩ | ⟨g16,h⟩
    ·refine qT rfl g16 (Ae (hK15 _ (Ac fun K17 hK17 => Ap (rgd (by kernel_rfl) (sd 8 rfl (?_))))))
     obtain ⟨e18,g19,h⟩:=Aa h
     refine ed rfl (qIu rfl ⟨(Am g19).1,(Am g19).2.1⟩ (ed rfl (qLu 0 rfl rfl rfl Ao g19 rfl rfl rfl (sd 3 rfl (?_)))))
     obtain ⟨e20,g21,h⟩:=Aa h
     refine ed rfl (qI rfl Ao g21 (sd 4 rfl (?_)))
     obtain ⟨e22,g23,h⟩:=Aa h
     refine ed rfl (qI rfl Ao g23 (sd 3 rfl (?_)))
     obtain ⟨e24,g25,h⟩:=Aa h
     exact ed rfl (qIu rfl ⟨(Am g25).1,(Am g25).2.1⟩ (ed rfl (qSu (IntKind.i64.wrap (e18 + (IntKind.i64.wrap (e20 * e22)))) rfl rfl Ao ⟨(Am g25).1,(Am g25).2.1⟩ rfl rfl rfl rfl rfl rfl (Ea (hK17 _ (rg (sp 3 rfl (evn (hN _ _ h (okr rfl))))))))))
    ·exact qF rfl g16 (Aj (kXB2 (Option.some.inj h) _ (okr rfl)))
   ·exact qF rfl g12 (Aj (kXB1 (Option.some.inj h) _ (okr rfl)))
def Gt  (rec : (Int × (List Int)) -> Option ((List Int))) (s : Int × (List Int)) : Option ((List Int)):=match s with
  | (y1,y2) => cond (decide (0 < y1)) (chk (List.length y2 + List.length [Int.tmod y1 10] <= lim) (rec ((IntKind.i64.wrap (Int.tdiv y1 10)),(y2 ++ [Int.tmod y1 10])))) (some y2)
def Cz (a0 : Int) : Option ((List Int)):=Ad (Ah Gt fz (a0,([] : List Int))) fun z2 => some z2
theorem GL {a0 : Int} {r : (List Int)} (h : Cz a0 = some r) : Ag Tryz.prog 123 [nI a0] (.agg [oL 3 Ak r]):=by
 unfold Cz at h
 refine st bY rfl (rn 2 rfl (Ac fun K1 hK1 => ?_))
 obtain ⟨o1,hl,hr1⟩:=Aa h
 have kXB1 : ∀ {z2 : List Int},z2 = o1 -> Jn K1 [(2,.box [oL 3 Ak []]),(3,.box [oL 3 Ak z2])]:=by
  intro z2 h σ' hk
  subst h
  replace h:=hr1
  try dsimp only at h
  exact hK1 _ (lh hk rfl (rn 1 rfl (Af ((by cases h; exact ⟨.inl rfl,rfl⟩)))))
 refine Aq (fun (s : Int × (List Int)) => match s with | (y1,y2) => [(0,nI y1),(2,.box [oL 3 Ak []]),(3,.box [oL 3 Ak y2])]) _ _ _ _ hl (okr rfl) (fun _ => rfl) ?_
 rintro m ⟨y1,y2⟩ N h hN
 unfold Gt at h
 dsimp only at h
 refine Ac fun K3 hK3 => rn 1 rfl ?_
 rcases Ab h with ⟨g4,h⟩ | ⟨g4,h⟩
 ·refine qT rfl g4 (Ae (hK3 _ (Ap (rs (sp 4 rfl (qBs Ak [Int.tmod y1 10] rfl rfl rfl Ao (?_)))))))
  obtain ⟨g5,h⟩:=An h
  exact qA Ak y2 [Int.tmod y1 10] rfl rfl (AE Ao [Int.tmod y1 10]) rfl g5 (sp 2 rfl (evn (rg (sp 3 rfl (evn (hN _ _ h (okr rfl)))))))
 ·exact qF rfl g4 (Aj (kXB1 (Option.some.inj h) _ (okr rfl)))
def Eo (a0 : Int) (a1 : Int) (rec : ((List Int) × Int) -> Option (Sum ((List Int)) ((List Int) × Bool))) (s : (List Int) × Int) : Option (Sum ((List Int)) ((List Int) × Bool)):=match s with
  | (y1,y2) => cond (decide (y2 < a1)) (Ad (Cz a0) fun v13 => Ad (E9 y1 v13) fun v15 => cond (!v15.2) (some (.inr ([],false))) (rec (v15.1,(IntKind.i64.wrap (y2 + 1))))) (some (.inl y1))
def D8 (a0 : Int) (a1 : Int) : Option ((List Int) × Bool):=cond (decide (a0 < 0)) (some ([],false)) (Ad (BN a1 0 100) fun v3 => cond (!v3) (some ([],false)) (Ad (Cz 1) fun v6 => Ad (Ah (Eo a0 a1) fz (v6,0)) fun o1 => (match o1 with
  | .inl z9 => (some (z9,true))
  | .inr r => some r)))
theorem Ha {a0 : Int} {a1 : Int} {r : (List Int) × Bool} (h : D8 a0 a1 = some r) : Ag Tryz.prog 85 [nI a0,nI a1] (.tup [.agg [dL Ak r.1],.bool r.2]):=by
 unfold D8 at h
 refine st i8 rfl (rn 1 rfl (Ac fun K1 hK1 => rs (sp 3 rfl (?_))))
 rcases Ab h with ⟨g2,h⟩ | ⟨g2,h⟩
 ·exact qg 12 g2 rfl (sp 4 rfl (evn (qT rfl rfl (rn 1 rfl (Ez [(4,.box [dL Ak []]),(5,.bool false)] ⟨(kb (cwe rfl rfl cwn)),kr,trivial⟩ rfl (Af ((by cases h; exact ⟨.inl rfl,rfl⟩))))))))
 ·refine qg 12 g2 rfl (sp 1 rfl (?_))
  obtain ⟨v3,g4,h⟩:=Aa h
  refine oGR rfl rfl (qC (qs rfl (qs rfl (qs rfl Aw))) (Bv g4) (sp 2 rfl (evn ?_)))
  rcases Ab h with ⟨g5,h⟩ | ⟨g5,h⟩
  ·exact qT rfl g5 (rn 1 rfl (Ez [(4,.box [dL Ak []]),(5,.bool false)] ⟨(kb (cwe rfl rfl cwn)),kr,trivial⟩ rfl (Af ((by cases h; exact ⟨.inl rfl,rfl⟩)))))
  ·refine qF rfl g5 (Ae (hK1 _ (rs ?_)))
   obtain ⟨v6,g7,h⟩:=Aa h
   refine qC (qs rfl Aw) (GL g7) (sp 2 rfl (evn (Ac fun K8 hK8 => rn 1 rfl ?_)))
   obtain ⟨o1,hl,hr1⟩:=Aa h
   have kXB1 : ∀ {z9 : List Int},(.inl z9) = o1 -> Jn K8 [(4,.box [oL 3 Ak []]),(6,.box [dL Ak z9])]:=by
    intro z9 h σ' hk
    subst h
    replace h:=hr1
    try dsimp only at h
    exact hK8 _ (lh hk rfl (rn 1 rfl (Af ((by cases h; exact ⟨.inl rfl,rfl⟩)))))
   refine Aq (fun (s : (List Int) × Int) => match s with | (y1,y2) => [(0,nI a0),(1,nI a1),(4,.box [oL 3 Ak []]),(6,.box [dL Ak y1]),(7,nI y2)]) _ _ _ _ hl ⟨kr,kr,kr,(kb (cwd rfl rfl cwn)),kr,trivial⟩ (fun _ => rfl) ?_
   rintro m ⟨y1,y2⟩ N h hN
   unfold Eo at h
   dsimp only at h
   refine Ac fun K10 hK10 => rn 1 rfl ?_
   rcases Ab h with ⟨g11,h⟩ | ⟨g11,h⟩
   ·refine qT rfl g11 (Ae (hK10 _ (Ac fun K12 hK12 => Ap (rd (by kernel_rfl) (sd 2 rfl (?_))))))
    obtain ⟨v13,g14,h⟩:=Aa h
    refine ed rfl (qC (qs rfl Aw) (GL g14) (?_))
    obtain ⟨v15,g16,h⟩:=Aa h
    refine ed rfl (qC (qa rfl (erg (erc (erD Al _) rfl)) (qa rfl (erg (erc (erO Al _) rfl)) Aw)) (Im g16) (sd 6 rfl (Ea (Ac fun K17 hK17 => rn 1 rfl ?_))))
    rcases Ab h with ⟨g18,h⟩ | ⟨g18,h⟩
    ·exact qT rfl g18 (rn 1 rfl (Ez [(4,.box [dL Ak []]),(5,.bool false)] ⟨(kb (cwe rfl rfl cwn)),kr,trivial⟩ rfl (Af ((by cases h; cases hr1; exact ⟨.inl rfl,rfl⟩)))))
    ·exact qF rfl g18 (Ae (hK17 _ (rg (sp 2 rfl (evn (hK12 _ (rg (sp 3 rfl (evn (hN _ _ h (okr rfl)))))))))))
   ·exact qF rfl g11 (Aj (kXB1 (Option.some.inj h) _ (okr rfl)))
def BK (a0 : List Int) (a1 : List Int) (rec : ((List Int) × Int) -> Option (Sum ((List Int)) ((List Int) × Bool))) (s : (List Int) × Int) : Option (Sum ((List Int)) ((List Int) × Bool)):=match s with
  | (y1,y2) => cond (decide (y2 < (List.length a0 : Int))) (Ad (AA a0 y2) fun e10 => Ad (AA a1 y2) fun e12 => Ad (D8 e10 e12) fun v14 => Ad (E9 y1 v14.1) fun v16 => cond (!v14.2) (some (.inr ([],false))) (cond (!v16.2) (some (.inr ([],false))) (rec (v16.1,(IntKind.i64.wrap (y2 + 1)))))) (some (.inl y1))
def CQ (a0 : List Int) (a1 : List Int) : Option ((List Int) × Bool):=cond ((List.length a0 : Int) != (List.length a1 : Int)) (some ([],false)) (Ad (Cz 1) fun v3 => Ad (Ah (BK a0 a1) fz (v3,0)) fun o1 => (match o1 with
  | .inl z6 => (some (z6,true))
  | .inr r => some r))
theorem HC {a0 : List Int} {a1 : List Int} {r : (List Int) × Bool} (h : CQ a0 a1 = some r) : Ag Tryz.prog 84 [dL Ak a0,dL Ak a1] (.tup [.agg [dL Ak r.1],.bool r.2]):=by
 unfold CQ at h
 refine st i7 rfl (rn 1 rfl (Ac fun K1 hK1 => rn 1 rfl ?_))
 rcases Ab h with ⟨g2,h⟩ | ⟨g2,h⟩
 ·exact qT rfl g2 (rn 1 rfl (Ez [(4,.box [dL Ak []]),(5,.bool false)] ⟨(kb (cwe rfl rfl cwn)),kr,trivial⟩ rfl (Af ((by cases h; exact ⟨.inl rfl,rfl⟩)))))
 ·refine qF rfl g2 (Ae (hK1 _ (rs ?_)))
  obtain ⟨v3,g4,h⟩:=Aa h
  refine qC (qs rfl Aw) (GL g4) (sp 2 rfl (evn (Ac fun K5 hK5 => rn 1 rfl ?_)))
  obtain ⟨o1,hl,hr1⟩:=Aa h
  have kXB1 : ∀ {z6 : List Int},(.inl z6) = o1 -> Jn K5 [(4,.box [oL 3 Ak []]),(6,.box [dL Ak z6])]:=by
   intro z6 h σ' hk
   subst h
   replace h:=hr1
   try dsimp only at h
   exact hK5 _ (lh hk rfl (rn 1 rfl (Af ((by cases h; exact ⟨.inl rfl,rfl⟩)))))
  refine Aq (fun (s : (List Int) × Int) => match s with | (y1,y2) => [(0,dL Ak a0),(1,dL Ak a1),(4,.box [oL 3 Ak []]),(6,.box [dL Ak y1]),(7,nI y2)]) _ _ _ _ hl ⟨kr,kr,kr,(kb (cwd rfl rfl cwn)),kr,trivial⟩ (fun _ => rfl) ?_
  rintro m ⟨y1,y2⟩ N h hN
  unfold BK at h
  dsimp only at h
  refine Ac fun K7 hK7 => rn 1 rfl ?_
  rcases Ab h with ⟨g8,h⟩ | ⟨g8,h⟩
  ·refine qT rfl g8 (Ae (hK7 _ (Ac fun K9 hK9 => Ap (rd (by kernel_rfl) (sd 2 rfl (?_))))))
   obtain ⟨e10,g11,h⟩:=Aa h
   refine ed rfl (qI rfl Ao g11 (sd 3 rfl (?_)))
   obtain ⟨e12,g13,h⟩:=Aa h
   refine ed rfl (qI rfl Ao g13 (sd 1 rfl (?_)))
   obtain ⟨v14,g15,h⟩:=Aa h
   refine ed rfl (qC (qs rfl (qs rfl Aw)) (Ha g15) (sd 6 rfl (Ea (rs (sp 2 rfl (?_))))))
   obtain ⟨v16,g17,h⟩:=Aa h
   refine qC (qa rfl (erg (erc (erD Al _) rfl)) (qa rfl (erg (erc (erD Al _) rfl)) Aw)) (Im g17) (sp 6 rfl (evn (Ac fun K18 hK18 => rs (sp 3 rfl (?_)))))
   rcases Ab h with ⟨g19,h⟩ | ⟨g19,h⟩
   ·exact qg 45 g19 rfl (sp 3 rfl (evn (qk [0,1,4,6,7,10,48] rfl (qT rfl rfl (rn 1 rfl (Ez [(4,.box [dL Ak []]),(5,.bool false)] ⟨(kb (cwe rfl rfl cwn)),kr,trivial⟩ rfl (Af ((by cases h; cases hr1; exact ⟨.inl rfl,rfl⟩)))))))))
   ·refine qg 45 g19 rfl (sp 3 rfl (evn ?_))
    rcases Ab h with ⟨g20,h⟩ | ⟨g20,h⟩
    ·exact qT rfl g20 (rn 1 rfl (Ez [(4,.box [dL Ak []]),(5,.bool false)] ⟨(kb (cwe rfl rfl cwn)),kr,trivial⟩ rfl (Af ((by cases h; cases hr1; exact ⟨.inl rfl,rfl⟩)))))
    ·exact qF rfl g20 (Ae (hK18 _ (rg (sp 2 rfl (evn (hK9 _ (rg (sp 3 rfl (evn (hN _ _ h (okr rfl)))))))))))
  ·exact qF rfl g8 (Aj (kXB1 (Option.some.inj h) _ (okr rfl)))
def Db (a0 : List Int) (a1 : List Int) (rec : Int -> Option (Sum (Unit) (Int))) (y1 : Int) : Option (Sum (Unit) (Int)):=cond (decide (0 <= y1)) (Ad (AA a0 y1) fun e17 => Ad (AA a1 y1) fun e19 => cond (decide (e17 < e19)) (some (.inr (-1))) (Ad (AA a0 y1) fun e22 => Ad (AA a1 y1) fun e24 => cond (decide (e24 < e22)) (some (.inr 1)) (rec (IntKind.i64.wrap (y1 - 1))))) (some (.inl ()))
def Do (a0 : List Int) (a1 : List Int) : Option (Int):=Ad (B3 a0) fun v2 => cond (!v2) (some 0) (Ad (B3 a1) fun v5 => cond (!v5) (some 0) (cond ((List.length a0 : Int) != (List.length a1 : Int)) (cond (decide ((List.length a0 : Int) < (List.length a1 : Int))) (some (-1)) (some 1)) (Ad (Ah (Db a0 a1) fz (IntKind.i64.wrap ((List.length a0 : Int) - 1))) fun o1 => (match o1 with
  | .inl _ => (some 0)
  | .inr r => some r))))
theorem H6 {a0 : List Int} {a1 : List Int} {r : Int} (h : Do a0 a1 = some r) : Ag Tryz.prog 86 [.agg [dL Ak a0],.agg [dL Ak a1]] (nI r):=by
 unfold Do at h
 refine st i9 rfl (rn 1 rfl (Ac fun K1 hK1 => rs (sp 1 rfl (?_))))
 obtain ⟨v2,g3,h⟩:=Aa h
 refine qC (qa rfl (erg (erc (erD Al _) rfl)) Aw) (Ff g3) (sp 2 rfl (?_))
 rcases Ab h with ⟨g4,h⟩ | ⟨g4,h⟩
 ·exact qg 9 g4 rfl (sp 4 rfl (evn (qT rfl rfl (rn 1 rfl (Af ((by cases h; exact ⟨.inl rfl,rfl⟩)))))))
 ·refine qg 9 g4 rfl (sp 1 rfl (?_))
  obtain ⟨v5,g6,h⟩:=Aa h
  refine oGR rfl rfl (qC (qa rfl (erg (erc (erD Al _) rfl)) Aw) (Ff g6) (sp 2 rfl (evn ?_)))
  rcases Ab h with ⟨g7,h⟩ | ⟨g7,h⟩
  ·exact qT rfl g7 (rn 1 rfl (Af ((by cases h; exact ⟨.inl rfl,rfl⟩))))
  ·refine qF rfl g7 (Ae (hK1 _ (Ac fun K8 hK8 => rn 1 rfl (qk [2,3,20] rfl ?_))))
   rcases Ab h with ⟨g9,h⟩ | ⟨g9,h⟩
   ·refine qT rfl g9 (Ac fun K10 hK10 => rn 1 rfl ?_)
    rcases Ab h with ⟨g11,h⟩ | ⟨g11,h⟩
    ·exact qT rfl g11 (rn 1 rfl (Af ((by cases h; exact ⟨.inl rfl,rfl⟩))))
    ·exact qF rfl g11 (Ae (hK10 _ (rn 1 rfl (Af ((by cases h; exact ⟨.inl rfl,rfl⟩))))))
   ·refine qF rfl g9 (Ae (hK8 _ (Ac fun K12 hK12 => rn 1 rfl ?_)))
    obtain ⟨o1,hl,hr1⟩:=Aa h
    have kXB1 : (.inl ()) = o1 -> Jn K12 []:=by
     intro h σ' hk
     subst h
     replace h:=hr1
     try dsimp only at h
     exact hK12 _ (lh hk rfl (rn 1 rfl (Af ((by cases h; exact ⟨.inl rfl,rfl⟩)))))
    refine Aq (fun (y1 : Int) => [(2,.box [dL Ak a0]),(3,.box [dL Ak a1]),(5,nI y1)]) _ _ _ _ hl (okr rfl) (fun _ => rfl) ?_
    rintro m y1 N h hN
    unfold Db at h
    refine Ac fun K13 hK13 => rn 1 rfl ?_
    rcases Ab h with ⟨g14,h⟩ | ⟨g14,h⟩
    ·refine qT rfl g14 (Ae (hK13 _ (Ac fun K15 hK15 => Ap (Ac fun K16 hK16 => rd (by kernel_rfl) (sd 3 rfl (?_))))))
     obtain ⟨e17,g18,h⟩:=Aa h
     refine ed rfl (qI rfl Ao g18 (sd 4 rfl (?_)))
     obtain ⟨e19,g20,h⟩:=Aa h
     refine ed rfl (qI rfl Ao g20 (sd 2 rfl (Ea ?_)))
     rcases Ab h with ⟨g21,h⟩ | ⟨g21,h⟩
     ·exact qT rfl g21 (rn 1 rfl (Af ((by cases h; cases hr1; exact ⟨.inl rfl,rfl⟩))))
     ·refine qF rfl g21 (Ae (hK16 _ (rd (by kernel_rfl) (sd 3 rfl (?_)))))
      obtain ⟨e22,g23,h⟩:=Aa h
      refine ed rfl (qI rfl Ao g23 (sd 4 rfl (?_)))
      obtain ⟨e24,g25,h⟩:=Aa h
      refine ed rfl (qI rfl Ao g25 (sd 2 rfl (Ea (qk [2,3,5,57] rfl ?_))))
      rcases Ab h with ⟨g26,h⟩ | ⟨g26,h⟩
      ·exact qT rfl g26 (rn 1 rfl (Af ((by cases h; cases hr1; exact ⟨.inl rfl,rfl⟩))))
      ·exact qF rfl g26 (Ae (hK15 _ (rg (sp 3 rfl (evn (hN _ _ h (okr rfl)))))))
    ·exact qF rfl g14 (Aj (kXB1 (Option.some.inj h) _ trivial))
def By (x8 : Bool) : Option (Bool):=some x8
def DJ (a0 : List Int) (a1 : List Br) (a2 : Int) : Option (Bool):=Ad (CR a1) fun v1 => Ad (CQ a0 v1.1) fun v3 => Ad (D8 a2 v1.2) fun v5 => cond (decide (0 < v1.2)) (cond v3.2 (cond v5.2 (Ad (Do v5.1 v3.1) fun v12 => By (decide (v12 <= 0))) (By false)) (By false)) (By false)
theorem J2 {a0 : List Int} {a1 : List Br} {a2 : Int} {r : Bool} (h : DJ a0 a1 a2 = some r) : Ag Tryz.prog 46 [dL Ak a0,dL A4 a1,nI a2] (.bool r):=by
 unfold DJ at h
 refine st iq rfl (rn 1 rfl (rs (sp 1 rfl (?_))))
 obtain ⟨v1,g2,h⟩:=Aa h
 refine qC (qa rfl (erD FK _) Aw) (HD g2) (sp 5 rfl (evn (rs (sp 2 rfl (?_)))))
 obtain ⟨v3,g4,h⟩:=Aa h
 refine qC (qa rfl (erD Al _) (qa rfl (erD Al _) Aw)) (HC g4) (sp 6 rfl (evn (rs (sp 2 rfl (?_)))))
 obtain ⟨v5,g6,h⟩:=Aa h
 refine qC (qs rfl (qs rfl Aw)) (Ha g6) (sp 6 rfl (evn (rk fun K7 hK7 => ?_)))
 have kJ1 : ∀ {x8 : Bool},By x8 = some r -> Jn K7 [(6,.bool x8)]:=by
  intro x8 h σ' hk
  unfold By at h
  exact hK7 _ (lh hk rfl (Af ((by cases h; exact ⟨.inl rfl,rfl⟩))))
 refine sp 3 rfl (?_)
 rcases Ab h with ⟨g9,h⟩ | ⟨g9,h⟩
 ·refine qg 32 g9 rfl (sp 3 rfl (?_))
  rcases Ab h with ⟨g10,h⟩ | ⟨g10,h⟩
  ·refine qg 35 g10 rfl (sp 3 rfl (?_))
   rcases Ab h with ⟨g11,h⟩ | ⟨g11,h⟩
   ·refine qg 38 g11 rfl (sp 2 rfl (?_))
    obtain ⟨v12,g13,h⟩:=Aa h
    exact oGR rfl rfl (qC (qa rfl (erg (erc (erD Al _) rfl)) (qa rfl (erg (erc (erD Al _) rfl)) Aw)) (H6 g13) (sp 3 rfl (evn (kJ1 h _ (okr rfl)))))
   ·exact qg 38 g11 rfl (sp 6 rfl (evn (kJ1 h _ (okr rfl))))
  ·exact qg 35 g10 rfl (sp 9 rfl (evn (kJ1 h _ (okr rfl))))
 ·exact qg 32 g9 rfl (sp 12 rfl (evn (kJ1 h _ (okr rfl))))
def GY (a0 : Y41) (a1 : Int) : Option (Int):=Ad (Bo a0) fun v2 => cond (!v2) (some 0) (Ad (BN a1 0 1000000) fun v5 => cond (!v5) (some 0) (some (IntKind.i64.wrap ((IntKind.i64.wrap ((IntKind.i64.wrap (2 * a0.1)) * (List.length a0.2.1 : Int))) * a1))))
theorem M9 {a0 : Y41} {a1 : Int} {r : Int} (h : GY a0 a1 = some r) : Ag Tryz.prog 87 [.agg (Bz a0),nI a1] (nI r):=by
 unfold GY at h
 refine st ja rfl (rn 1 rfl (Ac fun K1 hK1 => rs (sp 1 rfl (?_))))
 obtain ⟨v2,g3,h⟩:=Aa h
 refine qC (qa rfl (erg (erc rfl (erc (erD Ce _) (erc (erD Al _) rfl)))) Aw) (Dp g3) (sp 2 rfl (?_))
 rcases Ab h with ⟨g4,h⟩ | ⟨g4,h⟩
 ·exact qg 8 g4 rfl (sp 4 rfl (evn (qT rfl rfl (rn 1 rfl (Af ((by cases h; exact ⟨.inl rfl,rfl⟩)))))))
 ·refine qg 8 g4 rfl (sp 1 rfl (?_))
  obtain ⟨v5,g6,h⟩:=Aa h
  refine oGR rfl rfl (qC (qs rfl (qs rfl (qs rfl Aw))) (Bv g6) (sp 2 rfl (evn ?_)))
  rcases Ab h with ⟨g7,h⟩ | ⟨g7,h⟩
  ·exact qT rfl g7 (rn 1 rfl (Af ((by cases h; exact ⟨.inl rfl,rfl⟩))))
  ·exact qF rfl g7 (Ae (hK1 _ (rn 1 rfl (qk [4] rfl (Af ((by cases h; exact ⟨.inl rfl,rfl⟩)))))))
def AM (x14 : Bool) : Option (Bool):=some x14
def De (a0 : Y41) (a1 : List Int) (a2 : List Br) (a3 : Int) : Option (Bool):=Ad (CR a2) fun v1 => Ad (CQ a1 v1.1) fun v3 => Ad (D8 a3 v1.2) fun v5 => Ad (GY a0 1) fun v7 => Ad (D8 v7 v1.2) fun v9 => Ad (E9 v3.1 v9.1) fun v11 => cond (decide (0 < v1.2)) (cond v3.2 (cond v5.2 (cond v9.2 (cond v11.2 (Ad (Bo a0) fun v20 => cond v20 (Ad (Do v5.1 v11.1) fun v23 => AM (decide (v23 <= 0))) (AM false)) (AM false)) (AM false)) (AM false)) (AM false)) (AM false)
theorem JF {a0 : Y41} {a1 : List Int} {a2 : List Br} {a3 : Int} {r : Bool} (h : De a0 a1 a2 a3 = some r) : Ag Tryz.prog 47 [.agg (Bz a0),dL Ak a1,dL A4 a2,nI a3] (.bool r):=by
 unfold De at h
 refine st ir rfl (rn 1 rfl (rs (sp 1 rfl (?_))))
 obtain ⟨v1,g2,h⟩:=Aa h
 refine qC (qa rfl (erD FK _) Aw) (HD g2) (sp 5 rfl (evn (rs (sp 2 rfl (?_)))))
 obtain ⟨v3,g4,h⟩:=Aa h
 refine qC (qa rfl (erD Al _) (qa rfl (erD Al _) Aw)) (HC g4) (sp 6 rfl (evn (rs (sp 2 rfl (?_)))))
 obtain ⟨v5,g6,h⟩:=Aa h
 refine qC (qs rfl (qs rfl Aw)) (Ha g6) (sp 6 rfl (evn (rs (sp 1 rfl (?_)))))
 obtain ⟨v7,g8,h⟩:=Aa h
 refine qC (qa rfl (erg (erc rfl (erc (erD Ce _) (erc (erD Al _) rfl)))) (qs rfl Aw)) (M9 g8) (sp 1 rfl (?_))
 obtain ⟨v9,g10,h⟩:=Aa h
 refine qC (qs rfl (qs rfl Aw)) (Ha g10) (sp 6 rfl (evn (qk [4,10,11,12,13,14,15,16] rfl (rs (sp 2 rfl (?_))))))
 obtain ⟨v11,g12,h⟩:=Aa h
 refine qC (qa rfl (erg (erc (erD Al _) rfl)) (qa rfl (erg (erc (erD Al _) rfl)) Aw)) (Im g12) (sp 6 rfl (evn (rk fun K13 hK13 => ?_)))
 have kJ1 : ∀ {x14 : Bool},AM x14 = some r -> Jn K13 [(8,.bool x14)]:=by
  intro x14 h σ' hk
  unfold AM at h
  exact hK13 _ (lh hk rfl (Af ((by cases h; exact ⟨.inl rfl,rfl⟩))))
 refine sp 3 rfl (?_)
 rcases Ab h with ⟨g15,h⟩ | ⟨g15,h⟩
 ·refine qg 51 g15 rfl (sp 3 rfl (?_))
  rcases Ab h with ⟨g16,h⟩ | ⟨g16,h⟩
  ·refine qg 54 g16 rfl (sp 3 rfl (?_))
   rcases Ab h with ⟨g17,h⟩ | ⟨g17,h⟩
   ·refine qg 57 g17 rfl (sp 3 rfl (?_))
    rcases Ab h with ⟨g18,h⟩ | ⟨g18,h⟩
    ·refine qg 60 g18 rfl (sp 3 rfl (?_))
     rcases Ab h with ⟨g19,h⟩ | ⟨g19,h⟩
     ·refine qg 63 g19 rfl (sp 1 rfl (?_))
      obtain ⟨v20,g21,h⟩:=Aa h
      refine oGR rfl rfl (qC (qa rfl (erg (erc rfl (erc (erD Ce _) (erc (erD Al _) rfl)))) Aw) (Dp g21) (sp 2 rfl (?_)))
      rcases Ab h with ⟨g22,h⟩ | ⟨g22,h⟩
      ·refine qg 67 g22 rfl (sp 2 rfl (?_))
       obtain ⟨v23,g24,h⟩:=Aa h
       exact oGR rfl rfl (qC (qa rfl (erg (erc (erD Al _) rfl)) (qa rfl (erg (erc (erD Al _) rfl)) Aw)) (H6 g24) (sp 3 rfl (evn (kJ1 h _ (okr rfl)))))
      ·exact qg 67 g22 rfl (sp 6 rfl (evn (kJ1 h _ (okr rfl))))
     ·exact qg 63 g19 rfl (sp 10 rfl (evn (kJ1 h _ (okr rfl))))
    ·exact qg 60 g18 rfl (sp 13 rfl (evn (kJ1 h _ (okr rfl))))
   ·exact qg 57 g17 rfl (sp 16 rfl (evn (kJ1 h _ (okr rfl))))
  ·exact qg 54 g16 rfl (sp 19 rfl (evn (kJ1 h _ (okr rfl))))
 ·exact qg 51 g15 rfl (sp 22 rfl (evn (kJ1 h _ (okr rfl))))
abbrev Y45:=(List Int) × (List Br) × (List Int) × Int × Int
def Jh (x : Y45) : List V:=[dL Ak x.1,dL A4 x.2.1,dL Ak x.2.2.1,nI x.2.2.2.1,nI x.2.2.2.2]
theorem ff (x : Y45) : (Jh x).length = 5:=rfl
theorem eK (x : Y45) : erL (Jh x) = Jh x:=(erc (erD Al _) (erc (erD FK _) (erc (erD Al _) (erc rfl (erc rfl rfl)))))
def C0 (a1 : Y45) (rec : Int -> Option (Sum (Unit) (Bool))) (y1 : Int) : Option (Sum (Unit) (Bool)):=cond (decide (y1 < (List.length a1.2.2.1 : Int))) (Ad (AA a1.2.2.1 y1) fun e13 => Ad (BN e13 0 16) fun v15 => cond (!v15) (some (.inr false)) (rec (IntKind.i64.wrap (y1 + 1)))) (some (.inl ()))
def C1 (x19 : Bool) : Option (Bool):=some x19
def CB (a0 : Y41) (a1 : Y45) : Option (Bool):=Ad (El a0 a1.1) fun v2 => cond (!v2) (some false) (Ad (Dc a0 a1.2.1) fun v5 => cond (!v5) (some false) (cond ((List.length a1.2.2.1 : Int) != (List.length a0.2.1 : Int)) (some false) (Ad (Ah (C0 a1) fz 0) fun o1 => (match o1 with
  | .inl _ => (Ad (DJ a1.2.2.1 a1.2.1 a1.2.2.2.1) fun v20 => cond v20 (Ad (De a0 a1.2.2.1 a1.2.1 a1.2.2.2.2) fun v23 => C1 v23) (C1 false))
  | .inr r => some r))))
theorem Jp {a0 : Y41} {a1 : Y45} {r : Bool} (h : CB a0 a1 = some r) : Ag Tryz.prog 21 [.agg (Bz a0),.agg (Jh a1)] (.bool r):=by
 unfold CB at h
 refine st gK rfl (rn 1 rfl (Ac fun K1 hK1 => rs (sp 3 rfl (?_))))
 obtain ⟨v2,g3,h⟩:=Aa h
 refine qC (qa rfl (erg (erc rfl (erc (erD Ce _) (erc (erD Al _) rfl)))) (qa rfl (erD Al _) Aw)) (IX g3) (sp 2 rfl (?_))
 rcases Ab h with ⟨g4,h⟩ | ⟨g4,h⟩
 ·exact qg 11 g4 rfl (sp 15 rfl (evn (qT rfl rfl (rn 1 rfl (Af ((by cases h; exact ⟨.inl rfl,rfl⟩)))))))
 ·refine qg 11 g4 rfl (sp 3 rfl (?_))
  obtain ⟨v5,g6,h⟩:=Aa h
  refine oGR rfl rfl (qC (qa rfl (erg (erc rfl (erc (erD Ce _) (erc (erD Al _) rfl)))) (qa rfl (erD FK _) Aw)) (JD g6) (sp 3 rfl (?_)))
  rcases Ab h with ⟨g7,h⟩ | ⟨g7,h⟩
  ·exact qg 18 g7 rfl (sp 8 rfl (evn (qk [2,3,26] rfl (qT rfl rfl (rn 1 rfl (Af ((by cases h; exact ⟨.inl rfl,rfl⟩))))))))
  ·refine qg 18 g7 rfl (sp 8 rfl (evn ?_))
   rcases Ab h with ⟨g8,h⟩ | ⟨g8,h⟩
   ·exact qT rfl g8 (rn 1 rfl (Af ((by cases h; exact ⟨.inl rfl,rfl⟩))))
   ·refine qF rfl g8 (Ae (hK1 _ (Ac fun K9 hK9 => rn 1 rfl ?_)))
    obtain ⟨o1,hl,hr1⟩:=Aa h
    have kXB1 : (.inl ()) = o1 -> Jn K9 [(2,.box [nI a0.1,dL BM a0.2.1,dL Ak a0.2.2]),(3,.box [dL Ak a1.1,dL A4 a1.2.1,dL Ak a1.2.2.1,nI a1.2.2.2.1,nI a1.2.2.2.2])]:=by
     intro h σ' hk
     subst h
     replace h:=hr1
     try dsimp only at h
     refine hK9 _ (lh hk rfl (rk fun K18 hK18 => ?_))
     have kJ2 : ∀ {x19 : Bool},C1 x19 = some r -> Jn K18 [(4,.bool x19)]:=by
      intro x19 h σ' hk
      unfold C1 at h
      exact hK18 _ (lh hk rfl (Af ((by cases h; exact ⟨.inl rfl,rfl⟩))))
     refine sp 6 rfl (?_)
     obtain ⟨v20,g21,h⟩:=Aa h
     refine qC (qa rfl (erD Al _) (qa rfl (erD FK _) (qs rfl Aw))) (J2 g21) (sp 1 rfl (?_))
     rcases Ab h with ⟨g22,h⟩ | ⟨g22,h⟩
     ·refine qg 48 g22 rfl (sp 7 rfl (?_))
      obtain ⟨v23,g24,h⟩:=Aa h
      exact oGR rfl rfl (qC (qa rfl (erg (erc rfl (erc (erD Ce _) (erc (erD Al _) rfl)))) (qa rfl (erD Al _) (qa rfl (erD FK _) (qs rfl Aw)))) (JF g24) (sp 2 rfl (evn (kJ2 h _ (okr rfl)))))
     ·exact qg 48 g22 rfl (sp 10 rfl (evn (kJ2 h _ (okr rfl))))
    refine Aq (fun (y1 : Int) => [(2,.box [nI a0.1,dL BM a0.2.1,dL Ak a0.2.2]),(3,.box [dL Ak a1.1,dL A4 a1.2.1,dL Ak a1.2.2.1,nI a1.2.2.2.1,nI a1.2.2.2.2]),(5,nI y1)]) _ _ _ _ hl (okr rfl) (fun _ => rfl) ?_
    rintro m y1 N h hN
    unfold C0 at h
    refine Ac fun K10 hK10 => rn 1 rfl ?_
    rcases Ab h with ⟨g11,h⟩ | ⟨g11,h⟩
    ·refine qT rfl g11 (Ae (hK10 _ (Ac fun K12 hK12 => Ap (rs (sp 3 rfl (?_))))))
     obtain ⟨e13,g14,h⟩:=Aa h
     refine qI rfl Ao g14 (sp 1 rfl (?_))
     obtain ⟨v15,g16,h⟩:=Aa h
     refine qC (qs rfl (qs rfl (qs rfl Aw))) (Bv g16) (sp 1 rfl (evn ?_))
     rcases Ab h with ⟨g17,h⟩ | ⟨g17,h⟩
     ·exact qT rfl g17 (rn 1 rfl (Af ((by cases h; cases hr1; exact ⟨.inl rfl,rfl⟩))))
     ·exact qF rfl g17 (Ae (hK12 _ (rg (sp 3 rfl (evn (hN _ _ h (okr rfl)))))))
    ·exact qF rfl g11 (Aj (kXB1 (Option.some.inj h) _ (okr rfl)))
def AW (x6 : Bool) : Option (Bool):=some x6
def Cl (a0 : List Y96) (a1 : Y41) (a2 : Y45) : Option (Bool):=Ad (Fv a0 a1 a2.1) fun v1 => Ad (GW a0 a1) fun v3 => cond v1.2.2 (cond v3.2 (Ad (CB a1 a2) fun v9 => cond v9 (cond ((List.length v1.1.2 : Int) == a2.2.2.2.1) (cond (v1.2.1 == a2.2.2.2.2) (Ad (BA v3.1 a2.2.2.1) fun v14 => AW (v14 == 0)) (AW false)) (AW false)) (AW false)) (AW false)) (AW false)
theorem J1 {a0 : List Y96} {a1 : Y41} {a2 : Y45} {r : Bool} (h : Cl a0 a1 a2 = some r) : Ag Tryz.prog 7 [.agg [dL BY a0],.agg (Bz a1),.agg (Jh a2)] (.bool r):=by
 unfold Cl at h
 refine st kL rfl (rn 1 rfl (rs (sp 4 rfl (?_))))
 obtain ⟨v1,g2,h⟩:=Aa h
 refine qC (qa rfl (erg (erc (erD D1 _) rfl)) (qa rfl (erg (erc rfl (erc (erD Ce _) (erc (erD Al _) rfl)))) (qa rfl (erD Al _) Aw))) (Ls g2) (sp 8 rfl (evn (rs (sp 2 rfl (?_)))))
 obtain ⟨v3,g4,h⟩:=Aa h
 refine qC (qa rfl (erg (erc (erD D1 _) rfl)) (qa rfl (erg (erc rfl (erc (erD Ce _) (erc (erD Al _) rfl)))) Aw)) (M7 g4) (sp 5 rfl (evn (rk fun K5 hK5 => ?_)))
 have kJ1 : ∀ {x6 : Bool},AW x6 = some r -> Jn K5 [(6,.bool x6)]:=by
  intro x6 h σ' hk
  unfold AW at h
  exact hK5 _ (lh hk rfl (Af ((by cases h; exact ⟨.inl rfl,rfl⟩))))
 refine sp 2 rfl (?_)
 rcases Ab h with ⟨g7,h⟩ | ⟨g7,h⟩
 ·refine qg 28 g7 rfl (sp 3 rfl (?_))
  rcases Ab h with ⟨g8,h⟩ | ⟨g8,h⟩
  ·refine qg 31 g8 rfl (sp 2 rfl (?_))
   obtain ⟨v9,g10,h⟩:=Aa h
   refine oGR rfl rfl (qC (qa rfl (erg (erc rfl (erc (erD Ce _) (erc (erD Al _) rfl)))) (qa rfl (erg (erc (erD Al _) (erc (erD FK _) (erc (erD Al _) (erc rfl (erc rfl rfl)))))) Aw)) (Jp g10) (sp 2 rfl (?_)))
   rcases Ab h with ⟨g11,h⟩ | ⟨g11,h⟩
   ·refine qg 36 g11 rfl (sp 8 rfl (?_))
    rcases Ab h with ⟨g12,h⟩ | ⟨g12,h⟩
    ·refine qg 44 g12 rfl (sp 6 rfl (?_))
     rcases Ab h with ⟨g13,h⟩ | ⟨g13,h⟩
     ·refine qg 50 g13 rfl (sp 3 rfl (?_))
      obtain ⟨v14,g15,h⟩:=Aa h
      exact oGR rfl rfl (qC (qa rfl (erD Al _) (qa rfl (erD Al _) Aw)) (DM g15) (sp 3 rfl (evn (kJ1 h _ (okr rfl)))))
     ·exact qg 50 g13 rfl (sp 7 rfl (evn (kJ1 h _ (okr rfl))))
    ·exact qg 44 g12 rfl (sp 13 rfl (evn (kJ1 h _ (okr rfl))))
   ·exact qg 36 g11 rfl (sp 21 rfl (evn (kJ1 h _ (okr rfl))))
  ·exact qg 31 g8 rfl (sp 26 rfl (evn (kJ1 h _ (okr rfl))))
 ·exact qg 28 g7 rfl (sp 29 rfl (evn (kJ1 h _ (okr rfl))))
def K0 (a0 : List Int) (rec : ((List Int) × Int) -> Option ((List Int))) (s : (List Int) × Int) : Option ((List Int)):=match s with
  | (y1,y2) => cond (decide (y2 < (List.length a0 : Int))) (Ad (AA a0 y2) fun e7 => Ad (AA y1 y2) fun e9 => rec ((Ky y1 y2 e7),(IntKind.i64.wrap (y2 + 1)))) (some y1)
def E8 (a0 : List Int) : Option ((List Int)):=chk ((0 : Int) <= (List.length a0 : Int) ∧ Int.toNat (List.length a0 : Int) <= lim) (Ad (Ah (K0 a0) fz ((List.replicate (Int.toNat (List.length a0 : Int)) (0 : Int)),0)) fun z3 => some z3)
theorem Hq {a0 : List Int} {r : (List Int)} (h : E8 a0 = some r) : Ag Tryz.prog 25 [dL Ak a0] (oL 3 Ak r):=by
 unfold E8 at h
 refine st gW rfl (rn 1 rfl (rs (sp 2 rfl (?_))))
 obtain ⟨g1,h⟩:=An h
 refine qMu Ak (0 : Int) rfl rfl rfl rfl g1 rfl (qAu rfl rfl rfl rfl (evn (Ac fun K2 hK2 => rn 1 rfl ?_)))
 obtain ⟨o1,hl,hr1⟩:=Aa h
 have kXB1 : ∀ {z3 : List Int},z3 = o1 -> Jn K2 [(3,wL 3 Ak z3)]:=by
  intro z3 h σ' hk
  subst h
  replace h:=hr1
  try dsimp only at h
  exact hK2 _ (lh hk rfl (rs (qTu rfl rfl rfl (sp 1 rfl (evn (Af ((by cases h; exact ⟨.inl rfl,rfl⟩))))))))
 refine Aq (fun (s : (List Int) × Int) => match s with | (y1,y2) => [(0,dL Ak a0),(3,wL 3 Ak y1),(4,nI y2)]) _ _ _ _ hl (okr rfl) (fun _ => rfl) ?_
 rintro m ⟨y1,y2⟩ N h hN
 unfold K0 at h
 dsimp only at h
 refine Ac fun K4 hK4 => rn 1 rfl ?_
 rcases Ab h with ⟨g5,h⟩ | ⟨g5,h⟩
 ·refine qT rfl g5 (Ae (hK4 _ (Ac fun K6 hK6 => Ap (rg (sp 4 rfl (?_))))))
  obtain ⟨e7,g8,h⟩:=Aa h
  refine qI rfl Ao g8 (sp 1 rfl (?_))
  obtain ⟨e9,g10,h⟩:=Aa h
  exact qIu rfl ⟨(Am g10).1,(Am g10).2.1⟩ (qSu e7 rfl rfl Ao ⟨(Am g10).1,(Am g10).2.1⟩ rfl rfl rfl rfl rfl rfl (evn (hK6 _ (rg (sp 3 rfl (evn (hN _ _ h (okr rfl))))))))
 ·exact qF rfl g5 (Aj (kXB1 (Option.some.inj h) _ (okr rfl)))
def Kr (a0 : List (List Int)) (rec : ((List (List Int)) × Int) -> Option ((List (List Int)))) (s : (List (List Int)) × Int) : Option ((List (List Int))):=match s with
  | (y1,y2) => cond (decide (y2 < (List.length a0 : Int))) (Ad (AA a0 y2) fun e7 => Ad (E8 e7) fun v9 => Ad (AA y1 y2) fun e11 => rec ((Ky y1 y2 v9),(IntKind.i64.wrap (y2 + 1)))) (some y1)
def H2 (a0 : List (List Int)) : Option ((List (List Int))):=chk ((0 : Int) <= (List.length a0 : Int) ∧ Int.toNat (List.length a0 : Int) <= lim) (Ad (Ah (Kr a0) fz ((List.replicate (Int.toNat (List.length a0 : Int)) ([] : List Int)),0)) fun z3 => some z3)
theorem OP {a0 : List (List Int)} {r : (List (List Int))} (h : H2 a0 = some r) : Ag Tryz.prog 126 [dL AL a0] (oL 26 As r):=by
 unfold H2 at h
 refine st b7 rfl (rn 1 rfl (rs (sp 2 rfl (?_))))
 obtain ⟨g1,h⟩:=An h
 refine qMu As ([] : List Int) rfl rfl rfl rfl g1 rfl (qAu rfl rfl rfl rfl (evn (Ac fun K2 hK2 => rn 1 rfl ?_)))
 obtain ⟨o1,hl,hr1⟩:=Aa h
 have kXB1 : ∀ {z3 : List (List Int)},z3 = o1 -> Jn K2 [(3,wL 26 As z3)]:=by
  intro z3 h σ' hk
  subst h
  replace h:=hr1
  try dsimp only at h
  exact hK2 _ (lh hk rfl (rs (qTu rfl rfl rfl (sp 1 rfl (evn (Af ((by cases h; exact ⟨.inl rfl,rfl⟩))))))))
 refine Aq (fun (s : (List (List Int)) × Int) => match s with | (y1,y2) => [(0,dL AL a0),(3,wL 26 As y1),(4,nI y2)]) _ _ _ _ hl (okr rfl) (fun _ => rfl) ?_
 rintro m ⟨y1,y2⟩ N h hN
 unfold Kr at h
 dsimp only at h
 refine Ac fun K4 hK4 => rn 1 rfl ?_
 rcases Ab h with ⟨g5,h⟩ | ⟨g5,h⟩
 ·refine qT rfl g5 (Ae (hK4 _ (Ac fun K6 hK6 => Ap (rg (sp 4 rfl (?_))))))
  obtain ⟨e7,g8,h⟩:=Aa h
  refine qI rfl AY g8 (sp 1 rfl (?_))
  obtain ⟨v9,g10,h⟩:=Aa h
  refine qC (qa rfl (erD Al _) Aw) (Hq g10) (?_)
  obtain ⟨e11,g12,h⟩:=Aa h
  exact qIu rfl ⟨(Am g12).1,(Am g12).2.1⟩ (qSu v9 rfl rfl Cf ⟨(Am g12).1,(Am g12).2.1⟩ rfl rfl rfl rfl rfl rfl (evn (hK6 _ (rg (sp 3 rfl (evn (hN _ _ h (okr rfl))))))))
 ·exact qF rfl g5 (Aj (kXB1 (Option.some.inj h) _ (okr rfl)))
def Gp (a0 : Y57) : Option (Y57):=Ad (H2 a0.2) fun v1 => some (a0.1,v1)
theorem MC {a0 : Y57} {r : Y57} (h : Gp a0 = some r) : Ag Tryz.prog 89 [.agg (O7 a0)] (.agg (ID r)):=by
 unfold Gp at h
 refine st jc rfl (rn 3 rfl (rs (sp 2 rfl (?_))))
 obtain ⟨v1,g2,h⟩:=Aa h
 exact qC (qa rfl (erD Bc _) Aw) (OP g2) (sp 2 rfl (evn (rn 1 rfl (Af ((by cases h; exact ⟨.inl rfl,rfl⟩))))))
def MN (x : Y96) : List V:=[.str x.1,nI x.2.1,oL 26 As x.2.2]
theorem ai (x : Y96) : (MN x).length = 3:=rfl
theorem PD (x : Y96) : erL (MN x) = BY x:=(erc rfl (erc rfl (erc (erO I4 _) rfl)))
def Hh (a0 : Y75) : Option (Y96):=Ad (Gp a0.2) fun v1 => some (a0.1,v1)
theorem OQ {a0 : Y75} {r : Y96} (h : Hh a0 = some r) : Ag Tryz.prog 48 [.agg (IE a0)] (.agg (MN r)):=by
 unfold Hh at h
 refine st iu rfl (rn 3 rfl (rs (sp 2 rfl (?_))))
 obtain ⟨v1,g2,h⟩:=Aa h
 exact qC (qa rfl (erg (erc rfl (erc (erD Bc _) rfl))) Aw) (MC g2) (sp 2 rfl (evn (rn 1 rfl (Af ((by cases h; exact ⟨.inl rfl,rfl⟩))))))
def J8 (a0 : List Y75) (rec : ((List Y96) × Int) -> Option ((List Y96))) (s : (List Y96) × Int) : Option ((List Y96)):=match s with
  | (y1,y2) => cond (decide (y2 < (List.length a0 : Int))) (Ad (AA a0 y2) fun e7 => Ad (Hh e7) fun v9 => Ad (AA y1 y2) fun e11 => rec ((Ky y1 y2 v9),(IntKind.i64.wrap (y2 + 1)))) (some y1)
def Hr (a0 : List Y75) : Option ((List Y96)):=chk ((0 : Int) <= (List.length a0 : Int) ∧ Int.toNat (List.length a0 : Int) <= lim) (Ad (Ah (J8 a0) fz ((List.replicate (Int.toNat (List.length a0 : Int)) (([],(0,[])) : Y96)),0)) fun z3 => some z3)
theorem N2 {a0 : List Y75} {r : (List Y96)} (h : Hr a0 = some r) : Ag Tryz.prog 23 [dL IE a0] (oL 97 MN r):=by
 unfold Hr at h
 refine st gQ rfl (rn 1 rfl (rs (sp 2 rfl (?_))))
 obtain ⟨g1,h⟩:=An h
 refine qMu MN (([],(0,[])) : Y96) rfl rfl rfl rfl g1 rfl (qAu rfl rfl rfl rfl (evn (Ac fun K2 hK2 => rn 1 rfl ?_)))
 obtain ⟨o1,hl,hr1⟩:=Aa h
 have kXB1 : ∀ {z3 : List Y96},z3 = o1 -> Jn K2 [(3,wL 97 MN z3)]:=by
  intro z3 h σ' hk
  subst h
  replace h:=hr1
  try dsimp only at h
  exact hK2 _ (lh hk rfl (rs (qTu rfl rfl rfl (sp 1 rfl (evn (Af ((by cases h; exact ⟨.inl rfl,rfl⟩))))))))
 refine Aq (fun (s : (List Y96) × Int) => match s with | (y1,y2) => [(0,dL IE a0),(3,wL 97 MN y1),(4,nI y2)]) _ _ _ _ hl (okr rfl) (fun _ => rfl) ?_
 rintro m ⟨y1,y2⟩ N h hN
 unfold J8 at h
 dsimp only at h
 refine Ac fun K4 hK4 => rn 1 rfl ?_
 rcases Ab h with ⟨g5,h⟩ | ⟨g5,h⟩
 ·refine qT rfl g5 (Ae (hK4 _ (Ac fun K6 hK6 => Ap (rg (sp 4 rfl (?_))))))
  obtain ⟨e7,g8,h⟩:=Aa h
  refine qI rfl Si g8 (sp 1 rfl (?_))
  obtain ⟨v9,g10,h⟩:=Aa h
  refine qC (qa rfl (erg (erc rfl (erc rfl (erc (erD Bc _) rfl)))) Aw) (OQ g10) (?_)
  obtain ⟨e11,g12,h⟩:=Aa h
  exact qIu rfl ⟨(Am g12).1,(Am g12).2.1⟩ (qSu v9 rfl rfl ai ⟨(Am g12).1,(Am g12).2.1⟩ rfl rfl rfl rfl rfl rfl (evn (hK6 _ (rg (sp 3 rfl (evn (hN _ _ h (okr rfl))))))))
 ·exact qF rfl g5 (Aj (kXB1 (Option.some.inj h) _ (okr rfl)))
def Ey (a0 : List Y75) : Option ((List Y96)):=Ad (Hr a0) fun v1 => some v1
theorem HH {a0 : List Y75} {r : (List Y96)} (h : Ey a0 = some r) : Ag Tryz.prog 8 [.agg [dL IE a0]] (.agg [oL 97 MN r]):=by
 unfold Ey at h
 refine st kM rfl (rn 2 rfl (rs (sp 2 rfl (?_))))
 obtain ⟨v1,g2,h⟩:=Aa h
 exact qC (qa rfl (erD Ml _) Aw) (N2 g2) (sp 2 rfl (evn (rn 1 rfl (Af ((by cases h; exact ⟨.inl rfl,rfl⟩))))))
def Qx (x : Y78) : List V:=[.str x.1,oL 3 Ak x.2]
theorem en (x : Y78) : (Qx x).length = 2:=rfl
theorem QA (x : Y78) : erL (Qx x) = BM x:=(erc rfl (erc (erO Al _) rfl))
def HG (a0 : Y78) : Option (Y78):=Ad (E8 a0.2) fun v1 => some (a0.1,v1)
theorem PW {a0 : Y78} {r : Y78} (h : HG a0 = some r) : Ag Tryz.prog 49 [.agg (MW a0)] (.agg (Qx r)):=by
 unfold HG at h
 refine st iv rfl (rn 3 rfl (rs (sp 2 rfl (?_))))
 obtain ⟨v1,g2,h⟩:=Aa h
 exact qC (qa rfl (erD Al _) Aw) (Hq g2) (sp 2 rfl (evn (rn 1 rfl (Af ((by cases h; exact ⟨.inl rfl,rfl⟩))))))
def Kq (a0 : List Y78) (rec : ((List Y78) × Int) -> Option ((List Y78))) (s : (List Y78) × Int) : Option ((List Y78)):=match s with
  | (y1,y2) => cond (decide (y2 < (List.length a0 : Int))) (Ad (AA a0 y2) fun e7 => Ad (HG e7) fun v9 => Ad (AA y1 y2) fun e11 => rec ((Ky y1 y2 v9),(IntKind.i64.wrap (y2 + 1)))) (some y1)
def H1 (a0 : List Y78) : Option ((List Y78)):=chk ((0 : Int) <= (List.length a0 : Int) ∧ Int.toNat (List.length a0 : Int) <= lim) (Ad (Ah (Kq a0) fz ((List.replicate (Int.toNat (List.length a0 : Int)) (([],[]) : Y78)),0)) fun z3 => some z3)
theorem OO {a0 : List Y78} {r : (List Y78)} (h : H1 a0 = some r) : Ag Tryz.prog 24 [dL MW a0] (oL 90 Qx r):=by
 unfold H1 at h
 refine st gV rfl (rn 1 rfl (rs (sp 2 rfl (?_))))
 obtain ⟨g1,h⟩:=An h
 refine qMu Qx (([],[]) : Y78) rfl rfl rfl rfl g1 rfl (qAu rfl rfl rfl rfl (evn (Ac fun K2 hK2 => rn 1 rfl ?_)))
 obtain ⟨o1,hl,hr1⟩:=Aa h
 have kXB1 : ∀ {z3 : List Y78},z3 = o1 -> Jn K2 [(3,wL 90 Qx z3)]:=by
  intro z3 h σ' hk
  subst h
  replace h:=hr1
  try dsimp only at h
  exact hK2 _ (lh hk rfl (rs (qTu rfl rfl rfl (sp 1 rfl (evn (Af ((by cases h; exact ⟨.inl rfl,rfl⟩))))))))
 refine Aq (fun (s : (List Y78) × Int) => match s with | (y1,y2) => [(0,dL MW a0),(3,wL 90 Qx y1),(4,nI y2)]) _ _ _ _ hl (okr rfl) (fun _ => rfl) ?_
 rintro m ⟨y1,y2⟩ N h hN
 unfold Kq at h
 dsimp only at h
 refine Ac fun K4 hK4 => rn 1 rfl ?_
 rcases Ab h with ⟨g5,h⟩ | ⟨g5,h⟩
 ·refine qT rfl g5 (Ae (hK4 _ (Ac fun K6 hK6 => Ap (rg (sp 4 rfl (?_))))))
  obtain ⟨e7,g8,h⟩:=Aa h
  refine qI rfl Wb g8 (sp 1 rfl (?_))
  obtain ⟨v9,g10,h⟩:=Aa h
  refine qC (qa rfl (erg (erc rfl (erc (erD Al _) rfl))) Aw) (PW g10) (?_)
  obtain ⟨e11,g12,h⟩:=Aa h
  exact qIu rfl ⟨(Am g12).1,(Am g12).2.1⟩ (qSu v9 rfl rfl en ⟨(Am g12).1,(Am g12).2.1⟩ rfl rfl rfl rfl rfl rfl (evn (hK6 _ (rg (sp 3 rfl (evn (hN _ _ h (okr rfl))))))))
 ·exact qF rfl g5 (Aj (kXB1 (Option.some.inj h) _ (okr rfl)))
def Ry (x : Y41) : List V:=[nI x.1,oL 90 Qx x.2.1,oL 3 Ak x.2.2]
theorem fe (x : Y41) : (Ry x).length = 3:=rfl
theorem eJ (x : Y41) : erL (Ry x) = Bz x:=(erc rfl (erc (erO QA _) (erc (erO Al _) rfl)))
def Gm (a0 : Y27) : Option (Y41):=Ad (H1 a0.2.1) fun v1 => Ad (E8 a0.2.2) fun v3 => some (a0.1,v1,v3)
theorem Jm {a0 : Y27} {r : Y41} (h : Gm a0 = some r) : Ag Tryz.prog 9 [.agg (Le a0)] (.agg (Ry r)):=by
 unfold Gm at h
 refine st kN rfl (rn 3 rfl (rs (sp 2 rfl (?_))))
 obtain ⟨v1,g2,h⟩:=Aa h
 refine qC (qa rfl (erD NE _) Aw) (OO g2) (sp 2 rfl (evn (rs (sp 2 rfl (?_)))))
 obtain ⟨v3,g4,h⟩:=Aa h
 exact qC (qa rfl (erD Al _) Aw) (Hq g4) (sp 2 rfl (evn (rn 1 rfl (Af ((by cases h; exact ⟨.inl rfl,rfl⟩))))))
def Gn (a0 : Br) : Option (Br):=some a0
theorem MB {a0 : Br} {r : Br} (h : Gn a0 = some r) : Ag Tryz.prog 50 [.agg (OA a0)] (.agg (A4 r)):=by
 unfold Gn at h
 exact st iw rfl (rn 5 rfl (Af ((by cases h; exact ⟨.inl rfl,rfl⟩))))
def IP (a0 : List Br) (rec : ((List Br) × Int) -> Option ((List Br))) (s : (List Br) × Int) : Option ((List Br)):=match s with
  | (y1,y2) => cond (decide (y2 < (List.length a0 : Int))) (Ad (AA a0 y2) fun e7 => Ad (Gn e7) fun v9 => Ad (AA y1 y2) fun e11 => rec ((Ky y1 y2 v9),(IntKind.i64.wrap (y2 + 1)))) (some y1)
def FQ (a0 : List Br) : Option ((List Br)):=chk ((0 : Int) <= (List.length a0 : Int) ∧ Int.toNat (List.length a0 : Int) <= lim) (Ad (Ah (IP a0) fz ((List.replicate (Int.toNat (List.length a0 : Int)) ((0,0) : Br)),0)) fun z3 => some z3)
theorem LP {a0 : List Br} {r : (List Br)} (h : FQ a0 = some r) : Ag Tryz.prog 26 [dL OA a0] (oL 101 A4 r):=by
 unfold FQ at h
 refine st gX rfl (rn 1 rfl (rs (sp 2 rfl (?_))))
 obtain ⟨g1,h⟩:=An h
 refine qMu A4 ((0,0) : Br) rfl rfl rfl rfl g1 rfl (qAu rfl rfl rfl rfl (evn (Ac fun K2 hK2 => rn 1 rfl ?_)))
 obtain ⟨o1,hl,hr1⟩:=Aa h
 have kXB1 : ∀ {z3 : List Br},z3 = o1 -> Jn K2 [(3,wL 101 A4 z3)]:=by
  intro z3 h σ' hk
  subst h
  replace h:=hr1
  try dsimp only at h
  exact hK2 _ (lh hk rfl (rs (qTu rfl rfl rfl (sp 1 rfl (evn (Af ((by cases h; exact ⟨.inl rfl,rfl⟩))))))))
 refine Aq (fun (s : (List Br) × Int) => match s with | (y1,y2) => [(0,dL OA a0),(3,wL 101 A4 y1),(4,nI y2)]) _ _ _ _ hl (okr rfl) (fun _ => rfl) ?_
 rintro m ⟨y1,y2⟩ N h hN
 unfold IP at h
 dsimp only at h
 refine Ac fun K4 hK4 => rn 1 rfl ?_
 rcases Ab h with ⟨g5,h⟩ | ⟨g5,h⟩
 ·refine qT rfl g5 (Ae (hK4 _ (Ac fun K6 hK6 => Ap (rg (sp 4 rfl (?_))))))
  obtain ⟨e7,g8,h⟩:=Aa h
  refine qI rfl YC g8 (sp 1 rfl (?_))
  obtain ⟨v9,g10,h⟩:=Aa h
  refine qC (qa rfl (erg (erc rfl (erc rfl rfl))) Aw) (MB g10) (?_)
  obtain ⟨e11,g12,h⟩:=Aa h
  exact qIu rfl ⟨(Am g12).1,(Am g12).2.1⟩ (qSu v9 rfl rfl FC ⟨(Am g12).1,(Am g12).2.1⟩ rfl rfl rfl rfl rfl rfl (evn (hK6 _ (rg (sp 3 rfl (evn (hN _ _ h (okr rfl))))))))
 ·exact qF rfl g5 (Aj (kXB1 (Option.some.inj h) _ (okr rfl)))
def Rz (x : Y45) : List V:=[oL 3 Ak x.1,oL 101 A4 x.2.1,oL 3 Ak x.2.2.1,nI x.2.2.2.1,nI x.2.2.2.2]
theorem fg (x : Y45) : (Rz x).length = 5:=rfl
theorem eL (x : Y45) : erL (Rz x) = Jh x:=(erc (erO Al _) (erc (erO FK _) (erc (erO Al _) (erc rfl (erc rfl rfl)))))
def Cy (a0 : Y30) : Option (Y45):=Ad (E8 a0.1) fun v1 => Ad (FQ a0.2.1) fun v3 => Ad (E8 a0.2.2.1) fun v5 => some (v1,v3,v5,a0.2.2.2.1,a0.2.2.2.2)
theorem GJ {a0 : Y30} {r : Y45} (h : Cy a0 = some r) : Ag Tryz.prog 10 [.agg (Lf a0)] (.agg (Rz r)):=by
 unfold Cy at h
 refine st gx rfl (rn 2 rfl (rs (sp 2 rfl (?_))))
 obtain ⟨v1,g2,h⟩:=Aa h
 refine qC (qa rfl (erD Al _) Aw) (Hq g2) (sp 2 rfl (evn (rs (sp 2 rfl (?_)))))
 obtain ⟨v3,g4,h⟩:=Aa h
 refine qC (qa rfl (erD ND _) Aw) (LP g4) (sp 2 rfl (evn (rs (sp 2 rfl (?_)))))
 obtain ⟨v5,g6,h⟩:=Aa h
 exact qC (qa rfl (erD Al _) Aw) (Hq g6) (sp 2 rfl (evn (rn 3 rfl (qk [2] rfl (Af ((by cases h; exact ⟨.inl rfl,rfl⟩)))))))
def GS (x2 : Bool) : Option (Bool):=some x2
def A2 (a0 : Int) (a1 : Int) (a2 : Int) : Option (Bool):=cond (decide (a1 <= a0)) (GS (decide (a0 <= a2))) (GS false)
theorem AZ {a0 : Int} {a1 : Int} {a2 : Int} {r : Bool} (h : A2 a0 a1 a2 = some r) : Ag Tryz.prog 59 [nI a0,nI a1,nI a2] (.bool r):=by
 unfold A2 at h
 refine st iG rfl (rn 1 rfl (rk fun K1 hK1 => ?_))
 have kJ1 : ∀ {x2 : Bool},GS x2 = some r -> Jn K1 [(6,.bool x2)]:=by
  intro x2 h σ' hk
  unfold GS at h
  exact hK1 _ (lh hk rfl (Af ((by cases h; exact ⟨.inl rfl,rfl⟩))))
 refine sp 4 rfl (?_)
 rcases Ab h with ⟨g3,h⟩ | ⟨g3,h⟩
 ·exact qg 10 g3 rfl (sp 5 rfl (evn (kJ1 h _ (okr rfl))))
 ·exact qg 10 g3 rfl (sp 5 rfl (evn (kJ1 h _ (okr rfl))))
def Hk (a0 : List Int) (a1 : Int) (rec : Int -> Option (Sum (Unit) (Int))) (y1 : Int) : Option (Sum (Unit) (Int)):=cond (decide (y1 < (List.length a0 : Int))) (Ad (AA a0 y1) fun e5 => cond (e5 == a1) (some (.inr y1)) (rec (IntKind.i64.wrap (y1 + 1)))) (some (.inl ()))
def Gf (a0 : List Int) (a1 : Int) : Option (Int):=Ad (Ah (Hk a0 a1) fz 0) fun o1 => (match o1 with
  | .inl _ => (some (-1))
  | .inr r => some r)
theorem Jj {a0 : List Int} {a1 : Int} {r : Int} (h : Gf a0 a1 = some r) : Ag Tryz.prog 95 [dL Ak a0,nI a1] (nI r):=by
 unfold Gf at h
 refine st ji rfl (rn 1 rfl (Ac fun K1 hK1 => rn 1 rfl ?_))
 obtain ⟨o1,hl,hr1⟩:=Aa h
 have kXB1 : (.inl ()) = o1 -> Jn K1 []:=by
  intro h σ' hk
  subst h
  replace h:=hr1
  try dsimp only at h
  exact hK1 _ (lh hk rfl (rn 1 rfl (Af ((by cases h; exact ⟨.inl rfl,rfl⟩)))))
 refine Aq (fun (y1 : Int) => [(1,nI a1),(7,dL Ak a0),(8,nI (List.length a0 : Int)),(9,nI y1)]) _ _ _ _ hl (okr rfl) (fun _ => rfl) ?_
 rintro m y1 N h hN
 unfold Hk at h
 refine rn 1 rfl (Ac fun K2 hK2 => ?_)
 rcases Ab h with ⟨g3,h⟩ | ⟨g3,h⟩
 ·refine qT rfl g3 (Ae (hK2 _ (Ac fun K4 hK4 => Ap (rs (sp 1 rfl (?_))))))
  obtain ⟨e5,g6,h⟩:=Aa h
  refine qI rfl Ao g6 (sp 3 rfl (evn (rn 1 rfl ?_)))
  rcases Ab h with ⟨g7,h⟩ | ⟨g7,h⟩
  ·exact qT rfl g7 (rn 1 rfl (Af ((by cases h; cases hr1; exact ⟨.inl rfl,rfl⟩))))
  ·exact qF rfl g7 (Ae (hK4 _ (rg (sp 2 rfl (evn (hN _ _ h (okr rfl)))))))
 ·exact qF rfl g3 (Aj (kXB1 (Option.some.inj h) _ trivial))
def Hd (a0 : List Int) (a1 : Int) : Option (Bool):=Ad (Gf a0 a1) fun v1 => some (decide (0 <= v1))
theorem JT {a0 : List Int} {a1 : Int} {r : Bool} (h : Hd a0 a1 = some r) : Ag Tryz.prog 134 [dL Ak a0,nI a1] (.bool r):=by
 unfold Hd at h
 refine st ci rfl (rn 1 rfl (rs (sp 2 rfl (?_))))
 obtain ⟨v1,g2,h⟩:=Aa h
 exact qC (qa rfl (erD Al _) (qs rfl Aw)) (Jj g2) (sp 2 rfl (evn (Af ((by cases h; exact ⟨.inl rfl,rfl⟩)))))
def Hl (a0 : List Int) (a1 : Int) (rec : Int -> Option (Sum (Unit) (Bool))) (y1 : Int) : Option (Sum (Unit) (Bool)):=cond (decide (y1 < (List.length a0 : Int))) (Ad (AA a0 y1) fun e5 => Ad (A2 e5 0 (IntKind.i64.wrap (a1 - 1))) fun v7 => cond (!v7) (some (.inr false)) (chk ((0 : Int) <= 0 ∧ 0 <= y1 ∧ y1 <= (List.length a0 : Int)) (Ad (Hd (Cq a0 0 y1) e5) fun v11 => cond v11 (some (.inr false)) (rec (IntKind.i64.wrap (y1 + 1)))))) (some (.inl ()))
def Gg (a0 : List Int) (a1 : Int) : Option (Bool):=Ad (Ah (Hl a0 a1) fz 0) fun o1 => (match o1 with
  | .inl _ => (some true)
  | .inr r => some r)
theorem Jk {a0 : List Int} {a1 : Int} {r : Bool} (h : Gg a0 a1 = some r) : Ag Tryz.prog 105 [dL Ak a0,nI a1] (.bool r):=by
 unfold Gg at h
 refine st bG rfl (rn 1 rfl (Ac fun K1 hK1 => rn 1 rfl ?_))
 obtain ⟨o1,hl,hr1⟩:=Aa h
 have kXB1 : (.inl ()) = o1 -> Jn K1 []:=by
  intro h σ' hk
  subst h
  replace h:=hr1
  try dsimp only at h
  exact hK1 _ (lh hk rfl (rn 1 rfl (Af ((by cases h; exact ⟨.inl rfl,rfl⟩)))))
 refine Aq (fun (y1 : Int) => [(0,dL Ak a0),(1,nI a1),(7,dL Ak a0),(8,nI (List.length a0 : Int)),(9,nI y1)]) _ _ _ _ hl (okr rfl) (fun _ => rfl) ?_
 rintro m y1 N h hN
 unfold Hl at h
 refine rn 1 rfl (Ac fun K2 hK2 => ?_)
 rcases Ab h with ⟨g3,h⟩ | ⟨g3,h⟩
 ·refine qT rfl g3 (Ae (hK2 _ (Ac fun K4 hK4 => Ap (rs (sp 1 rfl (?_))))))
  obtain ⟨e5,g6,h⟩:=Aa h
  refine qI rfl Ao g6 (sp 3 rfl (evn (rs (sp 3 rfl (?_)))))
  obtain ⟨v7,g8,h⟩:=Aa h
  refine qC (qs rfl (qs rfl (qs rfl Aw))) (AZ g8) (sp 2 rfl (?_))
  rcases Ab h with ⟨g9,h⟩ | ⟨g9,h⟩
  ·exact qg 19 g9 rfl (sp 6 rfl (evn (qT rfl rfl (rn 1 rfl (Af ((by cases h; cases hr1; exact ⟨.inl rfl,rfl⟩)))))))
  ·refine qg 19 g9 rfl (sp 2 rfl (?_))
   obtain ⟨g10,h⟩:=An h
   refine oGR rfl rfl (qSl rfl Ao g10 (sp 1 rfl (?_)))
   obtain ⟨v11,g12,h⟩:=Aa h
   refine oGR rfl rfl (qC (qa rfl (erD Al _) (qs rfl Aw)) (JT g12) (sp 1 rfl (evn (qk [0,1,7,8,9,25] rfl ?_))))
   rcases Ab h with ⟨g13,h⟩ | ⟨g13,h⟩
   ·exact qT rfl g13 (rn 1 rfl (Af ((by cases h; cases hr1; exact ⟨.inl rfl,rfl⟩))))
   ·exact qF rfl g13 (Ae (hK4 _ (rg (sp 2 rfl (evn (hN _ _ h (okr rfl)))))))
 ·exact qF rfl g3 (Aj (kXB1 (Option.some.inj h) _ trivial))
def GD (a0 : List UInt8) (rec : Int -> Option (Sum (Unit) (Bool))) (y1 : Int) : Option (Sum (Unit) (Bool)):=cond (decide (y1 < (List.length a0 : Int))) (Ad (AA a0 y1) fun b8 => cond (decide ((UInt8.toNat b8 : Int) < 97)) (some (.inr false)) (Ad (AA a0 y1) fun b11 => cond (decide (122 < (UInt8.toNat b11 : Int))) (some (.inr false)) (rec (IntKind.i64.wrap (y1 + 1))))) (some (.inl ()))
def HL (a0 : List UInt8) (a1 : Int) : Option (Bool):=cond (decide ((List.length a0 : Int) < 1)) (some false) (cond (decide (a1 < (List.length a0 : Int))) (some false) (Ad (Ah (GD a0) fz 0) fun o1 => (match o1 with
  | .inl _ => (some true)
  | .inr r => some r)))
theorem M1 {a0 : List UInt8} {a1 : Int} {r : Bool} (h : HL a0 a1 = some r) : Ag Tryz.prog 154 [.str a0,nI a1] (.bool r):=by
 unfold HL at h
 refine st cG rfl (rn 1 rfl (Ac fun K1 hK1 => rs (sp 4 rfl (?_))))
 rcases Ab h with ⟨g2,h⟩ | ⟨g2,h⟩
 ·exact qg 9 g2 rfl (sp 5 rfl (evn (qT rfl rfl (rn 1 rfl (Af ((by cases h; exact ⟨.inl rfl,rfl⟩)))))))
 ·refine qg 9 g2 rfl (sp 5 rfl (evn ?_))
  rcases Ab h with ⟨g3,h⟩ | ⟨g3,h⟩
  ·exact qT rfl g3 (rn 1 rfl (Af ((by cases h; exact ⟨.inl rfl,rfl⟩))))
  ·refine qF rfl g3 (Ae (hK1 _ (Ac fun K4 hK4 => rn 1 rfl (qk [0,5] rfl ?_))))
   obtain ⟨o1,hl,hr1⟩:=Aa h
   have kXB1 : (.inl ()) = o1 -> Jn K4 []:=by
    intro h σ' hk
    subst h
    replace h:=hr1
    try dsimp only at h
    exact hK4 _ (lh hk rfl (rn 1 rfl (Af ((by cases h; exact ⟨.inl rfl,rfl⟩)))))
   refine Aq (fun (y1 : Int) => [(0,.str a0),(5,nI y1)]) _ _ _ _ hl (okr rfl) (fun _ => rfl) ?_
   rintro m y1 N h hN
   unfold GD at h
   refine Ac fun K5 hK5 => rn 1 rfl ?_
   rcases Ab h with ⟨g6,h⟩ | ⟨g6,h⟩
   ·refine qT rfl g6 (Ae (hK5 _ (Ac fun K7 hK7 => Ap (rs (sp 2 rfl (?_))))))
    obtain ⟨b8,g9,h⟩:=Aa h
    refine qX rfl g9 (sp 2 rfl (?_))
    rcases Ab h with ⟨g10,h⟩ | ⟨g10,h⟩
    ·exact qg 25 g10 rfl (sp 5 rfl (evn (qT rfl rfl (rn 1 rfl (Af ((by cases h; cases hr1; exact ⟨.inl rfl,rfl⟩)))))))
    ·refine qg 25 g10 rfl (sp 2 rfl (?_))
     obtain ⟨b11,g12,h⟩:=Aa h
     refine oGR rfl rfl (qX rfl g12 (sp 2 rfl (evn ?_)))
     rcases Ab h with ⟨g13,h⟩ | ⟨g13,h⟩
     ·exact qT rfl g13 (rn 1 rfl (qk [4] rfl (Af ((by cases h; cases hr1; exact ⟨.inl rfl,rfl⟩)))))
     ·exact qF rfl g13 (Ae (hK7 _ (rg (sp 3 rfl (evn (hN _ _ h (okr rfl)))))))
   ·exact qF rfl g6 (Aj (kXB1 (Option.some.inj h) _ trivial))
def EN (a0 : List UInt8) : Option (Bool):=Ad (HL a0 4) fun v1 => some v1
theorem I6 {a0 : List UInt8} {r : Bool} (h : EN a0 = some r) : Ag Tryz.prog 127 [.str a0] (.bool r):=by
 unfold EN at h
 refine st b9 rfl (rn 1 rfl (rs (sp 1 rfl (?_))))
 obtain ⟨v1,g2,h⟩:=Aa h
 exact qC (qs rfl (qs rfl Aw)) (M1 g2) (sp 1 rfl (evn (Af ((by cases h; exact ⟨.inl rfl,rfl⟩)))))
def DS (a0 : Y41) (e17 : Y78) (rec : ((List Bool) × Int) -> Option (Sum ((List Bool)) (Bool))) (s : (List Bool) × Int) : Option (Sum ((List Bool)) (Bool)):=match s with
  | (y7,y8) => cond (decide (y8 < (List.length e17.2 : Int))) (Ad (AA e17.2 y8) fun e30 => Ad (A2 e30 0 (IntKind.i64.wrap (a0.1 - 1))) fun v33 => cond (!v33) (some (.inr false)) (Ad (AA y7 e30) fun e36 => rec ((Ky y7 e30 true),(IntKind.i64.wrap (y8 + 1))))) (some (.inl y7))
def CJ (a0 : Y41) (rec : ((List Bool) × Int) -> Option (Sum ((List Bool)) (Bool))) (s : (List Bool) × Int) : Option (Sum ((List Bool)) (Bool)):=match s with
  | (y3,y4) => cond (decide (y4 < (List.length a0.2.1 : Int))) (Ad (AA a0.2.1 y4) fun e17 => Ad (EN e17.1) fun v20 => cond (!v20) (some (.inr false)) (Ad (A2 (List.length e17.2 : Int) 1 5) fun v23 => cond (!v23) (some (.inr false)) (Ad (Ah (DS a0 e17) fz (y3,0)) fun o2 => (match o2 with
  | .inl z26 => (rec (z26,(IntKind.i64.wrap (y4 + 1))))
  | .inr r => some (.inr r))))) (some (.inl y3))
def Fd (z13 : List Bool) (rec : Int -> Option (Sum (Unit) (Bool))) (y9 : Int) : Option (Sum (Unit) (Bool)):=cond (decide (y9 < (List.length z13 : Int))) (Ad (AA z13 y9) fun e42 => cond (!e42) (some (.inr false)) (rec (IntKind.i64.wrap (y9 + 1)))) (some (.inl ()))
def BF (a0 : Y41) : Option (Bool):=Ad (A2 a0.1 1 5) fun v2 => cond (!v2) (some false) (Ad (A2 (List.length a0.2.1 : Int) 1 4) fun v5 => cond (!v5) (some false) (Ad (Gg a0.2.2 a0.1) fun v8 => cond (!v8) (some false) (chk ((0 : Int) <= a0.1 ∧ Int.toNat a0.1 <= lim) (Ad (Ah (CJ a0) fz ((List.replicate (Int.toNat a0.1) (false : Bool)),0)) fun o1 => (match o1 with
  | .inl z13 => (Ad (Ah (Fd z13) fz 0) fun o3 => (match o3 with
  | .inl _ => (some true)
  | .inr r => some r))
  | .inr r => some r)))))
theorem Eu {a0 : Y41} {r : Bool} (h : BF a0 = some r) : Ag Tryz.prog 90 [.agg (Bz a0)] (.bool r):=by
 unfold BF at h
 refine st jd rfl (rn 2 rfl (Ac fun K1 hK1 => rs (sp 1 rfl (?_))))
 obtain ⟨v2,g3,h⟩:=Aa h
 refine qC (qs rfl (qs rfl (qs rfl Aw))) (AZ g3) (sp 2 rfl (?_))
 rcases Ab h with ⟨g4,h⟩ | ⟨g4,h⟩
 ·exact qg 16 g4 rfl (sp 13 rfl (evn (qT rfl rfl (rn 1 rfl (Af ((by cases h; exact ⟨.inl rfl,rfl⟩)))))))
 ·refine qg 16 g4 rfl (sp 3 rfl (?_))
  obtain ⟨v5,g6,h⟩:=Aa h
  refine oGR rfl rfl (qC (qs rfl (qs rfl (qs rfl Aw))) (AZ g6) (sp 3 rfl (?_)))
  rcases Ab h with ⟨g7,h⟩ | ⟨g7,h⟩
  ·exact qg 23 g7 rfl (sp 6 rfl (evn (qk [1,3,29] rfl (qT rfl rfl (rn 1 rfl (Af ((by cases h; exact ⟨.inl rfl,rfl⟩))))))))
  ·refine qg 23 g7 rfl (sp 3 rfl (?_))
   obtain ⟨v8,g9,h⟩:=Aa h
   refine oGR rfl rfl (qC (qa rfl (erD Al _) (qs rfl Aw)) (Jk g9) (sp 2 rfl (evn ?_)))
   rcases Ab h with ⟨g10,h⟩ | ⟨g10,h⟩
   ·exact qT rfl g10 (rn 1 rfl (Af ((by cases h; exact ⟨.inl rfl,rfl⟩))))
   ·refine qF rfl g10 (Ae (hK1 _ (rs (sp 1 rfl (?_)))))
    obtain ⟨g11,h⟩:=An h
    refine qMu cbl (false : Bool) rfl rfl rfl rfl g11 rfl (qAu rfl rfl rfl rfl (evn (Ac fun K12 hK12 => rn 1 rfl ?_)))
    obtain ⟨o1,hl,hr1⟩:=Aa h
    have kXB1 : ∀ {z13 : List Bool},(.inl z13) = o1 -> Jn K12 [(4,wL 4 cbl z13)]:=by
     intro z13 h σ' hk
     subst h
     replace h:=hr1
     try dsimp only at h
     refine hK12 _ (lh hk rfl (Ac fun K38 hK38 => rn 1 rfl ?_))
     obtain ⟨o3,hl,hr3⟩:=Aa h
     have kXB3 : (.inl ()) = o3 -> Jn K38 []:=by
      intro h σ' hk
      subst h
      replace h:=hr3
      try dsimp only at h
      exact hK38 _ (lh hk rfl (rn 1 rfl (Af ((by cases h; exact ⟨.inl rfl,rfl⟩)))))
     refine Aq (fun (y9 : Int) => [(4,wL 4 cbl z13),(67,.same 4),(68,nI (List.length z13 : Int)),(69,nI y9)]) _ _ _ _ hl (okr rfl) (fun _ => rfl) ?_
     rintro m y9 N h hN
     unfold Fd at h
     refine rn 1 rfl (Ac fun K39 hK39 => ?_)
     rcases Ab h with ⟨g40,h⟩ | ⟨g40,h⟩
     ·refine qT rfl g40 (Ae (hK39 _ (Ac fun K41 hK41 => Ap (rs ?_))))
      obtain ⟨e42,g43,h⟩:=Aa h
      refine qIu rfl ⟨(Am g43).1,(Am g43).2.1⟩ (qLu 0 rfl rfl rfl kc g43 rfl rfl rfl (sp 1 rfl (evn (rn 1 rfl ?_))))
      rcases Ab h with ⟨g44,h⟩ | ⟨g44,h⟩
      ·exact qT rfl g44 (rn 1 rfl (Af ((by cases h; cases hr3; exact ⟨.inl rfl,rfl⟩))))
      ·exact qF rfl g44 (Ae (hK41 _ (rg (sp 2 rfl (evn (hN _ _ h (okr rfl)))))))
     ·exact qF rfl g40 (Aj (kXB3 (Option.some.inj h) _ trivial))
    refine Aq (fun (s : (List Bool) × Int) => match s with | (y3,y4) => [(3,nI a0.1),(4,wL 4 cbl y3),(33,dL BM a0.2.1),(34,nI (List.length a0.2.1 : Int)),(35,nI y4)]) _ _ _ _ hl (okr rfl) (fun _ => rfl) ?_
    rintro m ⟨y3,y4⟩ N h hN
    unfold CJ at h
    dsimp only at h
    refine rn 1 rfl (Ac fun K14 hK14 => ?_)
    rcases Ab h with ⟨g15,h⟩ | ⟨g15,h⟩
    ·refine qT rfl g15 (Ae (hK14 _ (Ac fun K16 hK16 => Ap (rs ?_))))
     obtain ⟨e17,g18,h⟩:=Aa h
     refine qI rfl G3 g18 (sp 3 rfl (evn (Ac fun K19 hK19 => rs (sp 2 rfl (?_)))))
     obtain ⟨v20,g21,h⟩:=Aa h
     refine qC (qs rfl Aw) (I6 g21) (sp 2 rfl (?_))
     rcases Ab h with ⟨g22,h⟩ | ⟨g22,h⟩
     ·exact qg 43 g22 rfl (sp 6 rfl (evn (qT rfl rfl (rn 1 rfl (Af ((by cases h; cases hr1; exact ⟨.inl rfl,rfl⟩)))))))
     ·refine qg 43 g22 rfl (sp 3 rfl (?_))
      obtain ⟨v23,g24,h⟩:=Aa h
      refine oGR rfl rfl (qC (qs rfl (qs rfl (qs rfl Aw))) (AZ g24) (sp 2 rfl (evn (qk [3,4,6,33,34,35,49] rfl ?_))))
      rcases Ab h with ⟨g25,h⟩ | ⟨g25,h⟩
      ·exact qT rfl g25 (rn 1 rfl (Af ((by cases h; cases hr1; exact ⟨.inl rfl,rfl⟩))))
      ·refine qF rfl g25 (Ae (hK19 _ (rn 1 rfl ?_)))
       obtain ⟨o2,hl,hr2⟩:=Aa h
       have kXB2 : ∀ {z26 : List Bool},(.inl z26) = o2 -> Jn K16 [(3,nI a0.1),(4,wL 4 cbl z26),(33,dL BM a0.2.1),(34,nI (List.length a0.2.1 : Int)),(35,nI y4)]:=by
        intro z26 h σ' hk
        subst h
        replace h:=hr2
        try dsimp only at h
        exact hK16 _ (lh hk rfl (rg (sp 2 rfl (evn (hN _ _ h (okr rfl))))))
       refine Aq (fun (s : (List Bool) × Int) => match s with | (y7,y8) => [(3,nI a0.1),(4,wL 4 cbl y7),(33,dL BM a0.2.1),(34,nI (List.length a0.2.1 : Int)),(35,nI y4),(51,dL Ak e17.2),(52,nI (List.length e17.2 : Int)),(53,nI y8)]) _ _ _ _ hl (okr rfl) (fun _ => rfl) ?_
       rintro m ⟨y7,y8⟩ N h hN
       unfold DS at h
       dsimp only at h
       refine rn 1 rfl (Ac fun K27 hK27 => ?_)
       rcases Ab h with ⟨g28,h⟩ | ⟨g28,h⟩
       ·refine qT rfl g28 (Ae (hK27 _ (Ac fun K29 hK29 => Ap (rs ?_))))
        obtain ⟨e30,g31,h⟩:=Aa h
        refine qI rfl Ao g31 (sp 2 rfl (evn (Ac fun K32 hK32 => rs (sp 3 rfl (?_)))))
        obtain ⟨v33,g34,h⟩:=Aa h
        refine qC (qs rfl (qs rfl (qs rfl Aw))) (AZ g34) (sp 1 rfl (evn ?_))
        rcases Ab h with ⟨g35,h⟩ | ⟨g35,h⟩
        ·exact qT rfl g35 (rn 1 rfl (Af ((by cases h; cases hr2; cases hr1; exact ⟨.inl rfl,rfl⟩))))
        ·refine qF rfl g35 (Ae (hK32 _ (rg (sp 2 rfl (?_)))))
         obtain ⟨e36,g37,h⟩:=Aa h
         exact qIu rfl ⟨(Am g37).1,(Am g37).2.1⟩ (qSu true rfl rfl kc ⟨(Am g37).1,(Am g37).2.1⟩ rfl rfl rfl rfl rfl rfl (evn (hK29 _ (rg (sp 2 rfl (evn (hN _ _ h (okr rfl))))))))
       ·exact qF rfl g28 (Aj (kXB2 (Option.some.inj h) _ (okr rfl)))
    ·exact qF rfl g15 (Aj (kXB1 (Option.some.inj h) _ (okr rfl)))
def Cd (a0 : Int) (a1 : Int) : Option (Int):=cond (decide (a0 < a1)) (some (-1)) (cond (decide (a1 < a0)) (some 1) (some 0))
theorem ES {a0 : Int} {a1 : Int} {r : Int} (h : Cd a0 a1 = some r) : Ag Tryz.prog 140 [nI a0,nI a1] (nI r):=by
 unfold Cd at h
 refine st cr rfl (rn 1 rfl (Ac fun K1 hK1 => Ap (rn 1 rfl ?_)))
 rcases Ab h with ⟨g2,h⟩ | ⟨g2,h⟩
 ·exact qT rfl g2 (rn 1 rfl (Af ((by cases h; exact ⟨.inl rfl,rfl⟩))))
 ·refine qF rfl g2 (rn 1 rfl ?_)
  rcases Ab h with ⟨g3,h⟩ | ⟨g3,h⟩
  ·exact qT rfl g3 (rn 1 rfl (Af ((by cases h; exact ⟨.inl rfl,rfl⟩))))
  ·exact qF rfl g3 (Ae (hK1 _ (rn 1 rfl (qk [4] rfl (Af ((by cases h; exact ⟨.inl rfl,rfl⟩)))))))
def Et (a0 : List Int) (a1 : List Int) (rec : Int -> Option (Sum (Unit) (Int))) (y1 : Int) : Option (Sum (Unit) (Int)):=cond (decide (y1 < (List.length a0 : Int))) (cond (decide (y1 < (List.length a1 : Int))) (Ad (AA a0 y1) fun e6 => Ad (AA a1 y1) fun e8 => cond (e6 != e8) (Ad (AA a0 y1) fun e11 => Ad (AA a1 y1) fun e13 => Ad (Cd e11 e13) fun v15 => some (.inr v15)) (rec (IntKind.i64.wrap (y1 + 1)))) (some (.inl ()))) (some (.inl ()))
def CX (a0 : List Int) (a1 : List Int) : Option (Int):=Ad (Ah (Et a0 a1) fz 0) fun o1 => (match o1 with
  | .inl _ => (Ad (Cd (List.length a0 : Int) (List.length a1 : Int)) fun v17 => some v17)
  | .inr r => some r)
theorem F2 {a0 : List Int} {a1 : List Int} {r : Int} (h : CX a0 a1 = some r) : Ag Tryz.prog 131 [dL Ak a0,dL Ak a1] (nI r):=by
 unfold CX at h
 refine st ce rfl (rn 1 rfl (Ac fun K1 hK1 => rn 1 rfl ?_))
 obtain ⟨o1,hl,hr1⟩:=Aa h
 have kXB1 : (.inl ()) = o1 -> Jn K1 [(0,dL Ak a0),(1,dL Ak a1)]:=by
  intro h σ' hk
  subst h
  replace h:=hr1
  try dsimp only at h
  refine hK1 _ (lh hk rfl (rs (sp 4 rfl (?_))))
  obtain ⟨v17,g18,h⟩:=Aa h
  exact qC (qs rfl (qs rfl Aw)) (ES g18) (sp 1 rfl (evn (Af ((by cases h; exact ⟨.inl rfl,rfl⟩)))))
 refine Aq (fun (y1 : Int) => [(0,dL Ak a0),(1,dL Ak a1),(5,nI y1)]) _ _ _ _ hl (okr rfl) (fun _ => rfl) ?_
 rintro m y1 N h hN
 unfold Et at h
 refine Ac fun K2 hK2 => rs (sp 5 rfl (?_))
 rcases Ab h with ⟨g3,h⟩ | ⟨g3,h⟩
 ·refine qg 10 g3 rfl (sp 5 rfl (evn ?_))
  rcases Ab h with ⟨g4,h⟩ | ⟨g4,h⟩
  ·refine qT rfl g4 (Ae (hK2 _ (Ac fun K5 hK5 => Ap (rd (by kernel_rfl) (sd 2 rfl (?_))))))
   obtain ⟨e6,g7,h⟩:=Aa h
   refine ed rfl (qI rfl Ao g7 (sd 3 rfl (?_)))
   obtain ⟨e8,g9,h⟩:=Aa h
   refine ed rfl (qI rfl Ao g9 (sd 2 rfl (Ea ?_)))
   rcases Ab h with ⟨g10,h⟩ | ⟨g10,h⟩
   ·refine qT rfl g10 (rd (by kernel_rfl) (sd 2 rfl (?_)))
    obtain ⟨e11,g12,h⟩:=Aa h
    refine ed rfl (qI rfl Ao g12 (sd 3 rfl (?_)))
    obtain ⟨e13,g14,h⟩:=Aa h
    refine ed rfl (qI rfl Ao g14 (sd 1 rfl (?_)))
    obtain ⟨v15,g16,h⟩:=Aa h
    exact ed rfl (qC (qs rfl (qs rfl Aw)) (ES g16) (sd 1 rfl (Ea (qk [4] rfl (Af ((by cases h; cases hr1; exact ⟨.inl rfl,rfl⟩)))))))
   ·exact qF rfl g10 (Ae (hK5 _ (rg (sp 3 rfl (evn (hN _ _ h (okr rfl)))))))
  ·exact qF rfl g4 (Aj (kXB1 (Option.some.inj h) _ (okr rfl)))
 ·exact qg 10 g3 rfl (sp 5 rfl (evn (qF rfl rfl (Aj (kXB1 (Option.some.inj h) _ (okr rfl))))))
def EF (a0 : List Int) (rec : Int -> Option (Sum (Unit) (Bool))) (y1 : Int) : Option (Sum (Unit) (Bool)):=cond (decide (y1 < (List.length a0 : Int))) (Ad (AA a0 y1) fun e5 => Ad (A2 e5 0 99) fun v7 => cond (!v7) (some (.inr false)) (rec (IntKind.i64.wrap (y1 + 1)))) (some (.inl ()))
def Dg (a0 : List Int) : Option (Bool):=Ad (Ah (EF a0) fz 0) fun o1 => (match o1 with
  | .inl _ => (some true)
  | .inr r => some r)
theorem HR {a0 : List Int} {r : Bool} (h : Dg a0 = some r) : Ag Tryz.prog 167 [dL Ak a0] (.bool r):=by
 unfold Dg at h
 refine st cT rfl (rn 1 rfl (Ac fun K1 hK1 => rn 1 rfl ?_))
 obtain ⟨o1,hl,hr1⟩:=Aa h
 have kXB1 : (.inl ()) = o1 -> Jn K1 []:=by
  intro h σ' hk
  subst h
  replace h:=hr1
  try dsimp only at h
  exact hK1 _ (lh hk rfl (rn 1 rfl (Af ((by cases h; exact ⟨.inl rfl,rfl⟩)))))
 refine Aq (fun (y1 : Int) => [(5,dL Ak a0),(6,nI (List.length a0 : Int)),(7,nI y1)]) _ _ _ _ hl (okr rfl) (fun _ => rfl) ?_
 rintro m y1 N h hN
 unfold EF at h
 refine rn 1 rfl (Ac fun K2 hK2 => ?_)
 rcases Ab h with ⟨g3,h⟩ | ⟨g3,h⟩
 ·refine qT rfl g3 (Ae (hK2 _ (Ac fun K4 hK4 => Ap (rs ?_))))
  obtain ⟨e5,g6,h⟩:=Aa h
  refine qI rfl Ao g6 (sp 2 rfl (evn (rs (sp 1 rfl (?_)))))
  obtain ⟨v7,g8,h⟩:=Aa h
  refine qC (qs rfl (qs rfl (qs rfl Aw))) (AZ g8) (sp 1 rfl (evn ?_))
  rcases Ab h with ⟨g9,h⟩ | ⟨g9,h⟩
  ·exact qT rfl g9 (rn 1 rfl (Af ((by cases h; cases hr1; exact ⟨.inl rfl,rfl⟩))))
  ·exact qF rfl g9 (Ae (hK4 _ (rg (sp 2 rfl (evn (hN _ _ h (okr rfl)))))))
 ·exact qF rfl g3 (Aj (kXB1 (Option.some.inj h) _ trivial))
def Dm (rec : Int -> Option (Sum (Unit) (Bool))) (y1 : Int) (x13 : Bool) : Option (Sum (Unit) (Bool)):=cond x13 (some (.inr false)) (rec (IntKind.i64.wrap (y1 + 1)))
def Fo (a0 : Int) (a1 : List (List Int)) (rec : Int -> Option (Sum (Unit) (Bool))) (y1 : Int) : Option (Sum (Unit) (Bool)):=cond (decide (y1 < (List.length a1 : Int))) (Ad (AA a1 y1) fun e10 => cond ((List.length e10 : Int) != a0) (Dm rec y1 true) (Ad (Dg e10) fun v16 => cond (!v16) (Dm rec y1 true) (cond (decide (0 < y1)) (Ad (AA a1 (IntKind.i64.wrap (y1 - 1))) fun e20 => Ad (CX e20 e10) fun v22 => Dm rec y1 (decide (0 <= v22))) (Dm rec y1 false)))) (some (.inl ()))
def HM (a0 : Int) (a1 : List (List Int)) : Option (Bool):=Ad (A2 a0 0 5) fun v2 => cond (!v2) (some false) (cond (decide (4000 < (List.length a1 : Int))) (some false) (Ad (Ah (Fo a0 a1) fz 0) fun o1 => (match o1 with
  | .inl _ => (some true)
  | .inr r => some r)))
theorem M3 {a0 : Int} {a1 : List (List Int)} {r : Bool} (h : HM a0 a1 = some r) : Ag Tryz.prog 155 [nI a0,dL AL a1] (.bool r):=by
 unfold HM at h
 refine st cH rfl (rn 1 rfl (Ac fun K1 hK1 => rs (sp 1 rfl (?_))))
 obtain ⟨v2,g3,h⟩:=Aa h
 refine qC (qs rfl (qs rfl (qs rfl Aw))) (AZ g3) (sp 2 rfl (?_))
 rcases Ab h with ⟨g4,h⟩ | ⟨g4,h⟩
 ·exact qg 10 g4 rfl (sp 4 rfl (evn (qT rfl rfl (rn 1 rfl (Af ((by cases h; exact ⟨.inl rfl,rfl⟩)))))))
 ·refine qg 10 g4 rfl (sp 4 rfl (evn ?_))
  rcases Ab h with ⟨g5,h⟩ | ⟨g5,h⟩
  ·exact qT rfl g5 (rn 1 rfl (Af ((by cases h; exact ⟨.inl rfl,rfl⟩))))
  ·refine qF rfl g5 (Ae (hK1 _ (Ac fun K6 hK6 => rn 1 rfl (qk [0,1,15,16,17] rfl ?_))))
   obtain ⟨o1,hl,hr1⟩:=Aa h
   have kXB1 : (.inl ()) = o1 -> Jn K6 []:=by
    intro h σ' hk
    subst h
    replace h:=hr1
    try dsimp only at h
    exact hK6 _ (lh hk rfl (rn 1 rfl (Af ((by cases h; exact ⟨.inl rfl,rfl⟩)))))
   refine Aq (fun (y1 : Int) => [(0,nI a0),(1,dL AL a1),(15,dL AL a1),(16,nI (List.length a1 : Int)),(17,nI y1)]) _ _ _ _ hl (okr rfl) (fun _ => rfl) ?_
   rintro m y1 N h hN
   unfold Fo at h
   refine rn 1 rfl (Ac fun K7 hK7 => ?_)
   rcases Ab h with ⟨g8,h⟩ | ⟨g8,h⟩
   ·refine qT rfl g8 (Ae (hK7 _ (Ac fun K9 hK9 => Ap (rs (sp 1 rfl (?_))))))
    obtain ⟨e10,g11,h⟩:=Aa h
    refine qI rfl AY g11 (sp 3 rfl (evn (rk fun K12 hK12 => ?_)))
    have kJ2 : ∀ {x13 : Bool},Dm (Ah (Fo a0 a1) m) y1 x13 = some o1 -> Jn K12 [(0,nI a0),(1,dL AL a1),(15,dL AL a1),(16,nI (List.length a1 : Int)),(17,nI y1),(44,.bool x13)]:=by
     intro x13 h σ' hk
     unfold Dm at h
     refine hK12 _ (lh hk rfl ?_)
     rcases Ab h with ⟨g14,h⟩ | ⟨g14,h⟩
     ·exact qT rfl g14 (rn 1 rfl (Af ((by cases h; cases hr1; exact ⟨.inl rfl,rfl⟩))))
     ·exact qF rfl g14 (Ae (hK9 _ (rg (sp 2 rfl (evn (hN _ _ h (okr rfl)))))))
    refine sp 5 rfl (?_)
    rcases Ab h with ⟨g15,h⟩ | ⟨g15,h⟩
    ·exact qg 26 g15 rfl (sp 18 rfl (evn (kJ2 h _ (okr rfl))))
    ·refine qg 26 g15 rfl (sp 1 rfl (?_))
     obtain ⟨v16,g17,h⟩:=Aa h
     refine oGR rfl rfl (qC (qa rfl (erD Al _) Aw) (HR g17) (sp 3 rfl (?_)))
     rcases Ab h with ⟨g18,h⟩ | ⟨g18,h⟩
     ·exact qg 31 g18 rfl (sp 13 rfl (evn (kJ2 h _ (okr rfl))))
     ·refine qg 31 g18 rfl (sp 3 rfl (?_))
      rcases Ab h with ⟨g19,h⟩ | ⟨g19,h⟩
      ·refine qg 34 g19 rfl (sp 3 rfl (?_))
       obtain ⟨e20,g21,h⟩:=Aa h
       refine oGR rfl rfl (qI rfl AY g21 (sp 2 rfl (?_)))
       obtain ⟨v22,g23,h⟩:=Aa h
       exact oGR rfl rfl (qC (qa rfl (erD Al _) (qa rfl (erD Al _) Aw)) (F2 g23) (sp 3 rfl (evn (kJ2 h _ (okr rfl)))))
      ·exact qg 34 g19 rfl (sp 10 rfl (evn (kJ2 h _ (okr rfl))))
   ·exact qF rfl g8 (Aj (kXB1 (Option.some.inj h) _ trivial))
def A9 (a0 : Y57) : Option (Bool):=Ad (HM a0.1 a0.2) fun v1 => some v1
theorem C5 {a0 : Y57} {r : Bool} (h : A9 a0 = some r) : Ag Tryz.prog 128 [.agg (Io a0)] (.bool r):=by
 unfold A9 at h
 refine st ca rfl (rn 1 rfl (rs (sp 4 rfl (?_))))
 obtain ⟨v1,g2,h⟩:=Aa h
 exact qC (qs rfl (qa rfl (erD Bc _) Aw)) (M3 g2) (sp 1 rfl (evn (Af ((by cases h; exact ⟨.inl rfl,rfl⟩)))))
def AH (rec : Int -> Option (Sum (Unit) (Bool))) (y1 : Int) (x10 : Bool) : Option (Sum (Unit) (Bool)):=cond x10 (some (.inr false)) (rec (IntKind.i64.wrap (y1 + 1)))
def Cv (a0 : List Y96) (rec : Int -> Option (Sum (Unit) (Bool))) (y1 : Int) : Option (Sum (Unit) (Bool)):=cond (decide (y1 < (List.length a0 : Int))) (Ad (AA a0 y1) fun e7 => Ad (EN e7.1) fun v12 => cond (!v12) (AH rec y1 true) (cond (decide (0 < y1)) (Ad (AA a0 (IntKind.i64.wrap (y1 - 1))) fun e16 => cond (!Op.bytesLess e16.1 e7.1) (AH rec y1 true) (Ad (A9 e7.2) fun v19 => cond (!v19) (AH rec y1 true) (cond (decide (e7.2.1 < 1)) (AH rec y1 true) (AH rec y1 (decide (16 < (List.length e7.2.2 : Int))))))) (Ad (A9 e7.2) fun v23 => cond (!v23) (AH rec y1 true) (cond (decide (e7.2.1 < 1)) (AH rec y1 true) (AH rec y1 (decide (16 < (List.length e7.2.2 : Int)))))))) (some (.inl ()))
def CH (a0 : List Y96) : Option (Bool):=cond (decide (6 < (List.length a0 : Int))) (some false) (Ad (Ah (Cv a0) fz 0) fun o1 => (match o1 with
  | .inl _ => (some true)
  | .inr r => some r))
theorem HA {a0 : List Y96} {r : Bool} (h : CH a0 = some r) : Ag Tryz.prog 91 [.agg [dL BY a0]] (.bool r):=by
 unfold CH at h
 refine st je rfl (rn 1 rfl (Ac fun K1 hK1 => rn 1 rfl ?_))
 rcases Ab h with ⟨g2,h⟩ | ⟨g2,h⟩
 ·exact qT rfl g2 (rn 1 rfl (Af ((by cases h; exact ⟨.inl rfl,rfl⟩))))
 ·refine qF rfl g2 (Ae (hK1 _ (Ac fun K3 hK3 => rn 1 rfl ?_)))
  obtain ⟨o1,hl,hr1⟩:=Aa h
  have kXB1 : (.inl ()) = o1 -> Jn K3 []:=by
   intro h σ' hk
   subst h
   replace h:=hr1
   try dsimp only at h
   exact hK3 _ (lh hk rfl (rn 1 rfl (Af ((by cases h; exact ⟨.inl rfl,rfl⟩)))))
  refine Aq (fun (y1 : Int) => [(1,.box [dL BY a0]),(10,dL BY a0),(11,nI (List.length a0 : Int)),(12,nI y1)]) _ _ _ _ hl (okr rfl) (fun _ => rfl) ?_
  rintro m y1 N h hN
  unfold Cv at h
  refine rn 1 rfl (Ac fun K4 hK4 => ?_)
  rcases Ab h with ⟨g5,h⟩ | ⟨g5,h⟩
  ·refine qT rfl g5 (Ae (hK4 _ (Ac fun K6 hK6 => Ap (rs (sp 1 rfl (?_))))))
   obtain ⟨e7,g8,h⟩:=Aa h
   refine qI rfl J6 g8 (sp 4 rfl (evn (rdk (by kernel_rfl) fun K9 hK9 => ?_)))
   have kJ2 : ∀ {x10 : Bool},AH (Ah (Cv a0) m) y1 x10 = some o1 -> Jn K9 [(1,.box [dL BY a0]),(10,dL BY a0),(11,nI (List.length a0 : Int)),(12,nI y1),(55,.bool x10)]:=by
    intro x10 h σ' hk
    unfold AH at h
    refine hK9 _ (lh hk rfl ?_)
    rcases Ab h with ⟨g11,h⟩ | ⟨g11,h⟩
    ·exact qT rfl g11 (rn 1 rfl (Af ((by cases h; cases hr1; exact ⟨.inl rfl,rfl⟩))))
    ·exact qF rfl g11 (Ae (hK6 _ (rg (sp 2 rfl (evn (hN _ _ h (okr rfl)))))))
   refine sd 2 rfl (?_)
   obtain ⟨v12,g13,h⟩:=Aa h
   refine ed rfl (qC (qs rfl Aw) (I6 g13) (sd 2 rfl (?_)))
   rcases Ab h with ⟨g14,h⟩ | ⟨g14,h⟩
   ·exact qgd 21 g14 rfl (sd 34 rfl (Ea (kJ2 h _ (okr rfl))))
   ·refine qgd 21 g14 rfl (sd 3 rfl (?_))
    rcases Ab h with ⟨g15,h⟩ | ⟨g15,h⟩
    ·refine qgd 24 g15 rfl (sd 4 rfl (?_))
     obtain ⟨e16,g17,h⟩:=Aa h
     refine ed rfl (oGR rfl rfl (qI rfl J6 g17 (sd 8 rfl (?_))))
     rcases Ab h with ⟨g18,h⟩ | ⟨g18,h⟩
     ·exact qgd 37 g18 rfl (sd 18 rfl (Ea (kJ2 h _ (okr rfl))))
     ·refine qgd 37 g18 rfl (sd 2 rfl (?_))
      obtain ⟨v19,g20,h⟩:=Aa h
      refine ed rfl (oGR rfl rfl (qC (qa rfl (erg (erc rfl (erc (erD Bc _) rfl))) Aw) (C5 g20) (sd 3 rfl (?_))))
      rcases Ab h with ⟨g21,h⟩ | ⟨g21,h⟩
      ·exact qgd 43 g21 rfl (sd 12 rfl (Ea (kJ2 h _ (okr rfl))))
      ·refine qgd 43 g21 rfl (sd 6 rfl (?_))
       rcases Ab h with ⟨g22,h⟩ | ⟨g22,h⟩
       ·exact qgd 49 g22 rfl (sd 6 rfl (Ea (kJ2 h _ (okr rfl))))
       ·exact qgd 49 g22 rfl (sd 6 rfl (Ea (kJ2 h _ (okr rfl))))
    ·refine qgd 24 g15 rfl (sd 15 rfl (?_))
     obtain ⟨v23,g24,h⟩:=Aa h
     refine ed rfl (oGR rfl rfl (qC (qa rfl (erg (erc rfl (erc (erD Bc _) rfl))) Aw) (C5 g24) (sd 3 rfl (?_))))
     rcases Ab h with ⟨g25,h⟩ | ⟨g25,h⟩
     ·exact qgd 43 g25 rfl (sd 12 rfl (Ea (kJ2 h _ (okr rfl))))
     ·refine qgd 43 g25 rfl (sd 6 rfl (?_))
      rcases Ab h with ⟨g26,h⟩ | ⟨g26,h⟩
      ·exact qgd 49 g26 rfl (sd 6 rfl (Ea (kJ2 h _ (okr rfl))))
      ·exact qgd 49 g26 rfl (sd 6 rfl (Ea (kJ2 h _ (okr rfl))))
  ·exact qF rfl g5 (Aj (kXB1 (Option.some.inj h) _ trivial))
def GB (a0 : List Int) : Option ((List Int)):=chk (List.length ([] : List Int) + List.length a0 <= lim) (some (([] : List Int) ++ a0))
theorem Kn {a0 : List Int} {r : (List Int)} (h : GB a0 = some r) : Ag Tryz.prog 101 [dL Ak a0] (oL 3 Ak r):=by
 unfold GB at h
 refine st bC rfl (rn 1 rfl (rs (qBs Ak [] rfl rfl rfl Ao (sp 1 rfl (?_)))))
 obtain ⟨g1,h⟩:=An h
 exact qA Ak ([] : List Int) a0 rfl rfl (AE Ao a0) (LU (fun _ => rfl) _) g1 (sp 1 rfl (evn (Af ((by cases h; exact ⟨.inl rfl,rfl⟩)))))
def G5 (a0 : List (List Int)) (rec : ((List (List Int)) × Int) -> Option ((List (List Int)))) (s : (List (List Int)) × Int) : Option ((List (List Int))):=match s with
  | (y1,y2) => cond (decide (y2 < (List.length a0 : Int))) (Ad (AA a0 y2) fun e6 => Ad (GB e6) fun v8 => chk (List.length y1 + List.length [v8] <= lim) (rec ((y1 ++ [v8]),(IntKind.i64.wrap (y2 + 1))))) (some y1)
def GC (a0 : List (List Int)) : Option ((List (List Int))):=Ad (Ah (G5 a0) fz (([] : List (List Int)),0)) fun z2 => some z2
theorem Ko {a0 : List (List Int)} {r : (List (List Int))} (h : GC a0 = some r) : Ag Tryz.prog 130 [dL AL a0] (oL 26 As r):=by
 unfold GC at h
 refine st cd rfl (rn 2 rfl (Ac fun K1 hK1 => rn 1 rfl ?_))
 obtain ⟨o1,hl,hr1⟩:=Aa h
 have kXB1 : ∀ {z2 : List (List Int)},z2 = o1 -> Jn K1 [(3,oL 26 As z2)]:=by
  intro z2 h σ' hk
  subst h
  replace h:=hr1
  try dsimp only at h
  exact hK1 _ (lh hk rfl (rn 1 rfl (Af ((by cases h; exact ⟨.inl rfl,rfl⟩)))))
 refine Aq (fun (s : (List (List Int)) × Int) => match s with | (y1,y2) => [(3,oL 26 As y1),(6,dL AL a0),(7,nI (List.length a0 : Int)),(8,nI y2)]) _ _ _ _ hl (okr rfl) (fun _ => rfl) ?_
 rintro m ⟨y1,y2⟩ N h hN
 unfold G5 at h
 dsimp only at h
 refine rn 1 rfl (Ac fun K3 hK3 => ?_)
 rcases Ab h with ⟨g4,h⟩ | ⟨g4,h⟩
 ·refine qT rfl g4 (Ae (hK3 _ (Ac fun K5 hK5 => Ap (rs ?_))))
  obtain ⟨e6,g7,h⟩:=Aa h
  refine qI rfl AY g7 (sp 2 rfl (evn (rg (sp 2 rfl (?_)))))
  obtain ⟨v8,g9,h⟩:=Aa h
  refine qC (qa rfl (erD Al _) Aw) (Kn g9) (qBs As [v8] rfl rfl rfl Cf (?_))
  obtain ⟨g10,h⟩:=An h
  exact qA As y1 [v8] rfl rfl (AE Cf [v8]) rfl g10 (sp 1 rfl (evn (hK5 _ (rg (sp 2 rfl (evn (hN _ _ h (okr rfl))))))))
 ·exact qF rfl g4 (Aj (kXB1 (Option.some.inj h) _ (okr rfl)))
def Fn (a0 : Y57) : Option (Y57):=Ad (GC a0.2) fun v1 => some (a0.1,v1)
theorem Ll {a0 : Y57} {r : Y57} (h : Fn a0 = some r) : Ag Tryz.prog 129 [.agg (Io a0)] (.agg (ID r)):=by
 unfold Fn at h
 refine st cb rfl (rn 1 rfl (rd (by kernel_rfl) (sd 4 rfl (?_))))
 obtain ⟨v1,g2,h⟩:=Aa h
 exact ed rfl (qC (qa rfl (erD Bc _) Aw) (Ko g2) (sd 2 rfl (Ea (Af ((by cases h; exact ⟨.inl rfl,rfl⟩))))))
def C8  : Option (Y57 × Bool):=some ((0,[]),false)
def EG (a0 : List Y96) (a1 : List UInt8) (rec : Int -> Option (Sum (Unit) (Y57 × Bool))) (y2 : Int) : Option (Sum (Unit) (Y57 × Bool)):=cond (decide (y2 < (List.length a0 : Int))) (Ad (AA a0 y2) fun e8 => cond (e8.1 == a1) (Ad (Fn e8.2) fun v11 => some (.inr (v11,true))) (rec (IntKind.i64.wrap (y2 + 1)))) (some (.inl ()))
def Dh (a0 : List Y96) (a1 : List UInt8) : Option (Y57 × Bool):=Ad (CH a0) fun v2 => cond v2 (Ad (Ah (EG a0 a1) fz 0) fun o2 => (match o2 with
  | .inl _ => (C8 )
  | .inr r => some r)) (C8 )
theorem HS {a0 : List Y96} {a1 : List UInt8} {r : Y57 × Bool} (h : Dh a0 a1 = some r) : Ag Tryz.prog 92 [.agg [dL BY a0],.str a1] (.tup [.agg (ID r.1),.bool r.2]):=by
 unfold Dh at h
 refine st jf rfl (rn 1 rfl (Ac fun K1 hK1 => rs (sp 1 rfl (?_))))
 obtain ⟨v2,g3,h⟩:=Aa h
 refine qC (qa rfl (erg (erc (erD D1 _) rfl)) Aw) (HA g3) (evn ?_)
 have kJ1 : C8 = some r -> Jn K1 [(4,.box [nI 0,oL 26 As []])]:=by
  intro h σ' hk
  unfold C8 at h
  exact hK1 _ (lh hk rfl (rn 1 rfl (Af ((by cases h; exact ⟨.inl rfl,rfl⟩)))))
 rcases Ab h with ⟨g4,h⟩ | ⟨g4,h⟩
 ·refine qT rfl g4 (rn 1 rfl ?_)
  obtain ⟨o2,hl,hr2⟩:=Aa h
  have kXB2 : (.inl ()) = o2 -> Jn K1 [(4,.box [nI 0,oL 26 As []])]:=by
   intro h σ' hk
   subst h
   replace h:=hr2
   try dsimp only at h
   exact kJ1 h _ ⟨hk.1,trivial⟩
  refine Aq (fun (y2 : Int) => [(1,.str a1),(4,.box [nI 0,oL 26 As []]),(11,dL BY a0),(12,nI (List.length a0 : Int)),(13,nI y2)]) _ _ _ _ hl (okr rfl) (fun _ => rfl) ?_
  rintro m y2 N h hN
  unfold EG at h
  refine rn 1 rfl (Ac fun K5 hK5 => ?_)
  rcases Ab h with ⟨g6,h⟩ | ⟨g6,h⟩
  ·refine qT rfl g6 (Ae (hK5 _ (Ac fun K7 hK7 => Ap (rs ?_))))
   obtain ⟨e8,g9,h⟩:=Aa h
   refine qI rfl J6 g9 (sp 3 rfl (evn (rn 1 rfl ?_)))
   rcases Ab h with ⟨g10,h⟩ | ⟨g10,h⟩
   ·refine qT rfl g10 (rs (sp 2 rfl (?_)))
    obtain ⟨v11,g12,h⟩:=Aa h
    exact qC (qa rfl (erg (erc rfl (erc (erD Bc _) rfl))) Aw) (Ll g12) (sp 2 rfl (evn (Af ((by cases h; cases hr2; exact ⟨.inl rfl,rfl⟩)))))
   ·exact qF rfl g10 (Ae (hK7 _ (rg (sp 2 rfl (evn (hN _ _ h (okr rfl)))))))
  ·exact qF rfl g6 (Aj (kXB2 (Option.some.inj h) _ (okr rfl)))
 ·exact qF rfl g4 (Ae (kJ1 h _ (okr rfl)))
def F4 (a0 : List Y96) (a1 : Y41) (rec : Int -> Option (Sum (Unit) (Bool))) (y1 : Int) : Option (Sum (Unit) (Bool)):=cond (decide (y1 < (List.length a1.2.1 : Int))) (Ad (AA a1.2.1 y1) fun e12 => Ad (Dh a0 e12.1) fun v14 => cond (!v14.2) (some (.inr false)) (cond (v14.1.1 != (List.length e12.2 : Int)) (some (.inr false)) (rec (IntKind.i64.wrap (y1 + 1))))) (some (.inl ()))
def Fi (a0 : List Y96) (a1 : Y41) : Option (Bool):=Ad (BF a1) fun v2 => cond (!v2) (some false) (Ad (CH a0) fun v5 => cond (!v5) (some false) (Ad (Ah (F4 a0 a1) fz 0) fun o1 => (match o1 with
  | .inl _ => (some true)
  | .inr r => some r)))
theorem Jt {a0 : List Y96} {a1 : Y41} {r : Bool} (h : Fi a0 a1 = some r) : Ag Tryz.prog 51 [.agg [dL BY a0],.agg (Bz a1)] (.bool r):=by
 unfold Fi at h
 refine st iy rfl (rn 1 rfl (Ac fun K1 hK1 => rs (sp 1 rfl (?_))))
 obtain ⟨v2,g3,h⟩:=Aa h
 refine qC (qa rfl (erg (erc rfl (erc (erD Ce _) (erc (erD Al _) rfl)))) Aw) (Eu g3) (sp 2 rfl (?_))
 rcases Ab h with ⟨g4,h⟩ | ⟨g4,h⟩
 ·exact qg 12 g4 rfl (sp 4 rfl (evn (qT rfl rfl (rn 1 rfl (Af ((by cases h; exact ⟨.inl rfl,rfl⟩)))))))
 ·refine qg 12 g4 rfl (sp 1 rfl (?_))
  obtain ⟨v5,g6,h⟩:=Aa h
  refine oGR rfl rfl (qC (qa rfl (erg (erc (erD D1 _) rfl)) Aw) (HA g6) (sp 2 rfl (evn ?_)))
  rcases Ab h with ⟨g7,h⟩ | ⟨g7,h⟩
  ·exact qT rfl g7 (rn 1 rfl (Af ((by cases h; exact ⟨.inl rfl,rfl⟩))))
  ·refine qF rfl g7 (Ae (hK1 _ (Ac fun K8 hK8 => rn 1 rfl (qk [2,18,19,20] rfl ?_))))
   obtain ⟨o1,hl,hr1⟩:=Aa h
   have kXB1 : (.inl ()) = o1 -> Jn K8 []:=by
    intro h σ' hk
    subst h
    replace h:=hr1
    try dsimp only at h
    exact hK8 _ (lh hk rfl (rn 1 rfl (Af ((by cases h; exact ⟨.inl rfl,rfl⟩)))))
   refine Aq (fun (y1 : Int) => [(2,.box [dL BY a0]),(18,dL BM a1.2.1),(19,nI (List.length a1.2.1 : Int)),(20,nI y1)]) _ _ _ _ hl (okr rfl) (fun _ => rfl) ?_
   rintro m y1 N h hN
   unfold F4 at h
   refine rn 1 rfl (Ac fun K9 hK9 => ?_)
   rcases Ab h with ⟨g10,h⟩ | ⟨g10,h⟩
   ·refine qT rfl g10 (Ae (hK9 _ (Ac fun K11 hK11 => Ap (rs ?_))))
    obtain ⟨e12,g13,h⟩:=Aa h
    refine qI rfl G3 g13 (sp 3 rfl (evn (rs (sp 3 rfl (?_)))))
    obtain ⟨v14,g15,h⟩:=Aa h
    refine qC (qa rfl (erg (erc (erD D1 _) rfl)) (qs rfl Aw)) (HS g15) (sp 6 rfl (evn (rs (sp 3 rfl (?_)))))
    rcases Ab h with ⟨g16,h⟩ | ⟨g16,h⟩
    ·exact qg 33 g16 rfl (sp 7 rfl (evn (qT rfl rfl (rn 1 rfl (qk [4] rfl (Af ((by cases h; cases hr1; exact ⟨.inl rfl,rfl⟩))))))))
    ·refine qg 33 g16 rfl (sp 7 rfl (evn ?_))
     rcases Ab h with ⟨g17,h⟩ | ⟨g17,h⟩
     ·exact qT rfl g17 (rn 1 rfl (Af ((by cases h; cases hr1; exact ⟨.inl rfl,rfl⟩))))
     ·exact qF rfl g17 (Ae (hK11 _ (rg (sp 2 rfl (evn (hN _ _ h (okr rfl)))))))
   ·exact qF rfl g10 (Aj (kXB1 (Option.some.inj h) _ trivial))
def AP (a0 : Y78) (a1 : Int) : Option (Bool):=Ad (Hd a0.2 a1) fun v1 => some v1
theorem D2 {a0 : Y78} {a1 : Int} {r : Bool} (h : AP a0 a1 = some r) : Ag Tryz.prog 107 [.agg (BM a0),nI a1] (.bool r):=by
 unfold AP at h
 refine st bI rfl (rn 1 rfl (rs (sp 3 rfl (?_))))
 obtain ⟨v1,g2,h⟩:=Aa h
 exact qC (qa rfl (erD Al _) (qs rfl Aw)) (JT g2) (sp 1 rfl (evn (Af ((by cases h; exact ⟨.inl rfl,rfl⟩)))))
def Dz (rec : ((List Int) × Int) -> Option ((List Int))) (y2 : Int) (x8 : List Int) : Option ((List Int)):=rec (x8,(IntKind.i64.wrap (y2 + 1)))
def Ch (a0 : Y78) (rec : ((List Int) × Int) -> Option ((List Int))) (s : (List Int) × Int) : Option ((List Int)):=match s with
  | (y1,y2) => cond (decide (y2 < 5)) (Ad (AP a0 y2) fun v6 => cond v6 (chk (List.length y1 + List.length [y2] <= lim) (Dz rec y2 (y1 ++ [y2]))) (Dz rec y2 y1)) (some y1)
def DK (a0 : Y78) : Option ((List Int)):=Ad (Ah (Ch a0) fz (([] : List Int),0)) fun z2 => some z2
theorem Ip {a0 : Y78} {r : (List Int)} (h : DK a0 = some r) : Ag Tryz.prog 93 [.agg (BM a0)] (oL 3 Ak r):=by
 unfold DK at h
 refine st jg rfl (rn 2 rfl (Ac fun K1 hK1 => rn 1 rfl ?_))
 obtain ⟨o1,hl,hr1⟩:=Aa h
 have kXB1 : ∀ {z2 : List Int},z2 = o1 -> Jn K1 [(3,oL 3 Ak z2)]:=by
  intro z2 h σ' hk
  subst h
  replace h:=hr1
  try dsimp only at h
  exact hK1 _ (lh hk rfl (rn 1 rfl (Af ((by cases h; exact ⟨.inl rfl,rfl⟩)))))
 refine Aq (fun (s : (List Int) × Int) => match s with | (y1,y2) => [(1,.box [.str a0.1,dL Ak a0.2]),(3,oL 3 Ak y1),(4,nI y2)]) _ _ _ _ hl (okr rfl) (fun _ => rfl) ?_
 rintro m ⟨y1,y2⟩ N h hN
 unfold Ch at h
 dsimp only at h
 refine Ac fun K3 hK3 => rn 1 rfl ?_
 rcases Ab h with ⟨g4,h⟩ | ⟨g4,h⟩
 ·refine qT rfl g4 (Ae (hK3 _ (Ac fun K5 hK5 => Ap (rs (sp 2 rfl (?_))))))
  obtain ⟨v6,g7,h⟩:=Aa h
  refine qC (qa rfl (erg (erc rfl (erc (erD Al _) rfl))) (qs rfl Aw)) (D2 g7) (evn ?_)
  have kJ2 : ∀ {x8 : List Int},Dz (Ah (Ch a0) m) y2 x8 = some o1 -> Jn K5 [(1,.box [.str a0.1,dL Ak a0.2]),(3,oL 3 Ak x8),(4,nI y2)]:=by
   intro x8 h σ' hk
   unfold Dz at h
   exact hK5 _ (lh hk rfl (rg (sp 3 rfl (evn (hN _ _ h (okr rfl))))))
  rcases Ab h with ⟨g9,h⟩ | ⟨g9,h⟩
  ·refine qT rfl g9 (rg (sp 2 rfl (qBs Ak [y2] rfl rfl rfl Ao (?_))))
   obtain ⟨g10,h⟩:=An h
   exact qA Ak y1 [y2] rfl rfl (AE Ao [y2]) rfl g10 (sp 1 rfl (evn (kJ2 h _ (okr rfl))))
  ·exact qF rfl g9 (Ae (kJ2 h _ (okr rfl)))
 ·exact qF rfl g4 (Aj (kXB1 (Option.some.inj h) _ (okr rfl)))
def Cx (a0 : Int) (a1 : List Int) (rec : Int -> Option (Sum (Unit) (Bool))) (y1 : Int) : Option (Sum (Unit) (Bool)):=cond (decide (y1 < (List.length a1 : Int))) (Ad (AA a1 y1) fun e7 => Ad (A2 e7 0 (IntKind.i64.wrap (a0 - 1))) fun v9 => cond (!v9) (some (.inr false)) (rec (IntKind.i64.wrap (y1 + 1)))) (some (.inl ()))
def DE (a0 : Int) (a1 : List Int) : Option (Bool):=cond (decide (5 < (List.length a1 : Int))) (some false) (Ad (Ah (Cx a0 a1) fz 0) fun o1 => (match o1 with
  | .inl _ => (some true)
  | .inr r => some r))
theorem Jw {a0 : Int} {a1 : List Int} {r : Bool} (h : DE a0 a1 = some r) : Ag Tryz.prog 94 [nI a0,dL Ak a1] (.bool r):=by
 unfold DE at h
 refine st jh rfl (rn 1 rfl (Ac fun K1 hK1 => rn 1 rfl ?_))
 rcases Ab h with ⟨g2,h⟩ | ⟨g2,h⟩
 ·exact qT rfl g2 (rn 1 rfl (Af ((by cases h; exact ⟨.inl rfl,rfl⟩))))
 ·refine qF rfl g2 (Ae (hK1 _ (Ac fun K3 hK3 => rn 1 rfl ?_)))
  obtain ⟨o1,hl,hr1⟩:=Aa h
  have kXB1 : (.inl ()) = o1 -> Jn K3 []:=by
   intro h σ' hk
   subst h
   replace h:=hr1
   try dsimp only at h
   exact hK3 _ (lh hk rfl (rn 1 rfl (Af ((by cases h; exact ⟨.inl rfl,rfl⟩)))))
  refine Aq (fun (y1 : Int) => [(0,nI a0),(10,dL Ak a1),(11,nI (List.length a1 : Int)),(12,nI y1)]) _ _ _ _ hl (okr rfl) (fun _ => rfl) ?_
  rintro m y1 N h hN
  unfold Cx at h
  refine rn 1 rfl (Ac fun K4 hK4 => ?_)
  rcases Ab h with ⟨g5,h⟩ | ⟨g5,h⟩
  ·refine qT rfl g5 (Ae (hK4 _ (Ac fun K6 hK6 => Ap (rs ?_))))
   obtain ⟨e7,g8,h⟩:=Aa h
   refine qI rfl Ao g8 (sp 2 rfl (evn (rs (sp 3 rfl (?_)))))
   obtain ⟨v9,g10,h⟩:=Aa h
   refine qC (qs rfl (qs rfl (qs rfl Aw))) (AZ g10) (sp 1 rfl (evn ?_))
   rcases Ab h with ⟨g11,h⟩ | ⟨g11,h⟩
   ·exact qT rfl g11 (rn 1 rfl (Af ((by cases h; cases hr1; exact ⟨.inl rfl,rfl⟩))))
   ·exact qF rfl g11 (Ae (hK6 _ (rg (sp 2 rfl (evn (hN _ _ h (okr rfl)))))))
  ·exact qF rfl g5 (Aj (kXB1 (Option.some.inj h) _ trivial))
end Go.Proofs.YtkclaipnejgloaaGreatDoor
