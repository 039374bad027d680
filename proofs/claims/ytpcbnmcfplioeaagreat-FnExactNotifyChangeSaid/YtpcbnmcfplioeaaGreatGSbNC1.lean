/-
  Functions of the program as typed functions, printed by gen.py, and that the program's functions do what they say. No conditions.
-/
import Derived.Test.YtpcbnmcfplioeaaGreatGSNC1
namespace Go.Proofs.YtpcbnmcfplioeaaGreat
open Go.RowKit
set_option linter.unusedVariables false
set_option maxRecDepth 100000
set_option maxHeartbeats 1000000
def E4 (a0 : List AU) (rec : ((List AU) × Int) -> Option ((List AU))) (s : (List AU) × Int) : Option ((List AU)) := match s with
  | (y1,y2) => cond (decide (y2 < (List.length a0 : Int))) (Ad (AO a0 y2) fun e6 => Ad (CT e6.2) fun v8 => chk (List.length y1 + List.length [(e6.1,v8)] <= lim) (rec ((y1 ++ [(e6.1,v8)]),(IntKind.i64.wrap (y2 + 1))))) (some y1)
def Bn (a0 : List AU) : Option ((List AU)) := Ad (Ao (E4 a0) fz (([] : List AU),0)) fun z2 => some z2
theorem CR {a0 : List AU} {r : (List AU)} (h : Bn a0 = some r) : Ai Tryz.prog 88 [.agg [dL At a0]] (.agg [oL 123 Ak r]) := by
 unfold Bn at h
 refine st nO rfl (rn 2 rfl (Ac fun K1 hK1 => rn 1 rfl ?_))
 obtain ⟨o1,hl,hr1⟩ := Aa h
 have kXB1 : ∀ {z2 : List AU},z2 = o1 -> Jn K1 [(2,.box [oL 123 Ak []]),(3,.box [oL 123 Ak z2])] := by
  intro z2 h σ' hk
  subst h
  replace h := hr1
  try dsimp only at h
  exact hK1 _ (lh hk rfl (rn 1 rfl (Af ((by cases h; exact ⟨.inl rfl,rfl⟩)))))
 refine AB (fun (s : (List AU) × Int) => match s with | (y1,y2) => [(2,.box [oL 123 Ak []]),(3,.box [oL 123 Ak y1]),(7,dL At a0),(8,nI (List.length a0 : Int)),(9,nI y2)]) _ _ _ _ hl (okr rfl) (fun _ => rfl) ?_
 rintro m ⟨y1,y2⟩ N h hN
 unfold E4 at h
 dsimp only at h
 refine rn 1 rfl (Ac fun K3 hK3 => ?_)
 rcases Ab h with ⟨g4,h⟩ | ⟨g4,h⟩
 ·refine qT rfl g4 (Ae (hK3 _ (Ac fun K5 hK5 => Az (rs ?_))))
  obtain ⟨e6,g7,h⟩ := Aa h
  refine qI rfl Cz g7 (sp 3 rfl (evn (rgd (by kernel_rfl) (sd 6 rfl (?_)))))
  obtain ⟨v8,g9,h⟩ := Aa h
  refine ed rfl (qC (qa rfl (erg (erc rfl (erc (erD Ar _) rfl))) Ax) (Hn g9) (sd 1 rfl (ed rfl (qBs Ak [(e6.1,v8)] rfl rfl rfl DP (?_)))))
  obtain ⟨g10,h⟩ := Aj h
  exact ed rfl (qA Ak y1 [(e6.1,v8)] rfl rfl (Av DP [(e6.1,v8)]) rfl g10 (sd 2 rfl (CK (hK5 _ (rg (sp 2 rfl (evn (hN _ _ h (okr rfl)))))))))
 ·exact qF rfl g4 (Aq (kXB1 (Option.some.inj h) _ (okr rfl)))
def EB (rec : ((List (List Int)) × Int) -> Option ((List (List Int)))) (y2 : Int) (x18 : List (List Int)) : Option ((List (List Int))) := rec (x18,(IntKind.i64.wrap (y2 + 1)))
def EA (a0 : Y32) (a1 : Y32) (rec : ((List (List Int)) × Int) -> Option ((List (List Int)))) (s : (List (List Int)) × Int) : Option ((List (List Int))) := match s with
  | (y1,y2) => cond (decide (y2 < (List.length a0.2 : Int))) (Ad (AO a0.2 y2) fun e14 => Ad (Cx a1 e14) fun v16 => cond (!v16) (Ad (A5 e14) fun v20 => chk (List.length y1 + List.length [v20] <= lim) (EB rec y2 (y1 ++ [v20]))) (EB rec y2 y1)) (some y1)
def Gu (a0 : Y32) (a1 : Y32) : Option (Y32 × Bool) := Ad (AF a0) fun v2 => cond (!v2) (some ((0,[]),false)) (Ad (AF a1) fun v5 => cond (!v5) (some ((0,[]),false)) (cond (a0.1 != a1.1) (some ((0,[]),false)) (Ad (Ao (EA a0 a1) fz (([] : List (List Int)),0)) fun z10 => some ((a0.1,z10),true))))
theorem N9 {a0 : Y32} {a1 : Y32} {r : Y32 × Bool} (h : Gu a0 a1 = some r) : Ai Tryz.prog 90 [.agg (Gs a0),.agg (Gs a1)] (.tup [.agg (Ez r.1),.bool r.2]) := by
 unfold Gu at h
 refine st nQ rfl (rn 1 rfl (Ac fun K1 hK1 => rs (sp 1 rfl (?_))))
 obtain ⟨v2,g3,h⟩ := Aa h
 refine qC (qa rfl (erg (erc rfl (erc (erD Ar _) rfl))) Ax) (AN g3) (sp 2 rfl (?_))
 rcases Ab h with ⟨g4,h⟩ | ⟨g4,h⟩
 ·exact qg 12 g4 rfl (sp 11 rfl (evn (qT rfl rfl (rn 1 rfl (Af ((by cases h; exact ⟨.inl rfl,rfl⟩)))))))
 ·refine qg 12 g4 rfl (sp 1 rfl (?_))
  obtain ⟨v5,g6,h⟩ := Aa h
  refine oGR rfl rfl (qC (qa rfl (erg (erc rfl (erc (erD Ar _) rfl))) Ax) (AN g6) (sp 3 rfl (?_)))
  rcases Ab h with ⟨g7,h⟩ | ⟨g7,h⟩
  ·exact qg 17 g7 rfl (sp 6 rfl (evn (qk [2,3,4,23] rfl (qT rfl rfl (rn 1 rfl (Af ((by cases h; exact ⟨.inl rfl,rfl⟩))))))))
  ·refine qg 17 g7 rfl (sp 6 rfl (evn ?_))
   rcases Ab h with ⟨g8,h⟩ | ⟨g8,h⟩
   ·exact qT rfl g8 (rn 1 rfl (Af ((by cases h; exact ⟨.inl rfl,rfl⟩))))
   ·refine qF rfl g8 (Ae (hK1 _ (rn 1 rfl (Ac fun K9 hK9 => rn 1 rfl ?_))))
    obtain ⟨o1,hl,hr1⟩ := Aa h
    have kXB1 : ∀ {z10 : List (List Int)},z10 = o1 -> Jn K9 [(4,.box [nI 0,oL 42 Ah []]),(6,.box [nI a0.1,oL 42 Ah z10])] := by
     intro z10 h σ' hk
     subst h
     replace h := hr1
     try dsimp only at h
     exact hK9 _ (lh hk rfl (rn 1 rfl (Af ((by cases h; exact ⟨.inl rfl,rfl⟩)))))
    refine AB (fun (s : (List (List Int)) × Int) => match s with | (y1,y2) => [(3,.box [nI a1.1,dL AJ a1.2]),(4,.box [nI 0,oL 42 Ah []]),(6,.box [nI a0.1,oL 42 Ah y1]),(29,dL AJ a0.2),(30,nI (List.length a0.2 : Int)),(31,nI y2)]) _ _ _ _ hl (okr rfl) (fun _ => rfl) ?_
    rintro m ⟨y1,y2⟩ N h hN
    unfold EA at h
    dsimp only at h
    refine rn 1 rfl (Ac fun K11 hK11 => ?_)
    rcases Ab h with ⟨g12,h⟩ | ⟨g12,h⟩
    ·refine qT rfl g12 (Ae (hK11 _ (Ac fun K13 hK13 => Az (rs ?_))))
     obtain ⟨e14,g15,h⟩ := Aa h
     refine qI rfl Br g15 (sp 2 rfl (evn (rs (sp 2 rfl (?_)))))
     obtain ⟨v16,g17,h⟩ := Aa h
     refine qC (qa rfl (erg (erc rfl (erc (erD Ar _) rfl))) (qa rfl (erD An _) Ax)) (Gg g17) (sp 1 rfl (evn ?_))
     have kJ2 : ∀ {x18 : List (List Int)},EB (Ao (EA a0 a1) m) y2 x18 = some o1 -> Jn K13 [(3,.box [nI a1.1,dL AJ a1.2]),(4,.box [nI 0,oL 42 Ah []]),(6,.box [nI a0.1,oL 42 Ah x18]),(29,dL AJ a0.2),(30,nI (List.length a0.2 : Int)),(31,nI y2)] := by
      intro x18 h σ' hk
      unfold EB at h
      exact hK13 _ (lh hk rfl (rg (sp 2 rfl (evn (hN _ _ h (okr rfl))))))
     rcases Ab h with ⟨g19,h⟩ | ⟨g19,h⟩
     ·refine qT rfl g19 (rgd (by kernel_rfl) (sd 3 rfl (?_)))
      obtain ⟨v20,g21,h⟩ := Aa h
      refine ed rfl (qC (qa rfl (erD An _) Ax) (BE g21) (ed rfl (qBs Ah [v20] rfl rfl rfl A8 (?_))))
      obtain ⟨g22,h⟩ := Aj h
      exact ed rfl (qA Ah y1 [v20] rfl rfl (Av A8 [v20]) rfl g22 (sd 2 rfl (CK (kJ2 h _ (okr rfl)))))
     ·exact qF rfl g19 (Ae (kJ2 h _ (okr rfl)))
    ·exact qF rfl g12 (Aq (kXB1 (Option.some.inj h) _ (okr rfl)))
def Fx (a0 : Int) (a1 : List (List Int)) (rec : Int -> Option (Sum (Unit) (Y32 × Bool))) (y1 : Int) : Option (Sum (Unit) (Y32 × Bool)) := cond (decide (y1 < (List.length a1 : Int))) (Ad (AO a1 y1) fun e5 => cond ((List.length e5 : Int) != a0) (some (.inr ((0,[]),false))) (Ad (CM e5) fun v8 => cond (!v8) (some (.inr ((0,[]),false))) (rec (IntKind.i64.wrap (y1 + 1))))) (some (.inl ()))
def FR (a0 : Int) (a1 : List (List Int)) : Option (Y32 × Bool) := Ad (Ao (Fx a0 a1) fz 0) fun o1 => (match o1 with
  | .inl _ => (Ad (JB a1) fun v11 => Ad (AF (a0,v11)) fun v14 => cond (!v14) (some ((0,[]),false)) (some ((a0,v11),true)))
  | .inr r => some r)
theorem Nt {a0 : Int} {a1 : List (List Int)} {r : Y32 × Bool} (h : FR a0 a1 = some r) : Ai Tryz.prog 151 [nI a0,dL AJ a1] (.tup [.agg (Ez r.1),.bool r.2]) := by
 unfold FR at h
 refine st iS rfl (rn 1 rfl (Ac fun K1 hK1 => rn 1 rfl ?_))
 obtain ⟨o1,hl,hr1⟩ := Aa h
 have kXB1 : (.inl ()) = o1 -> Jn K1 [(0,nI a0),(1,dL AJ a1),(4,.box [nI 0,oL 42 Ah []])] := by
  intro h σ' hk
  subst h
  replace h := hr1
  try dsimp only at h
  refine hK1 _ (lh hk rfl (rs (sp 2 rfl (?_))))
  obtain ⟨v11,g12,h⟩ := Aa h
  refine qC (qa rfl (erD Ar _) Ax) (Le g12) (sp 3 rfl (evn (Ac fun K13 hK13 => rs (sp 1 rfl (?_)))))
  obtain ⟨v14,g15,h⟩ := Aa h
  refine qC (qa rfl (erg (erc rfl (erc (erD A3 _) rfl))) Ax) (AN g15) (sp 1 rfl (evn ?_))
  rcases Ab h with ⟨g16,h⟩ | ⟨g16,h⟩
  ·exact qT rfl g16 (rn 1 rfl (Af ((by cases h; exact ⟨.inl rfl,rfl⟩))))
  ·exact qF rfl g16 (Ae (hK13 _ (rn 1 rfl (Af ((by cases h; exact ⟨.inl rfl,rfl⟩))))))
 refine AB (fun (y1 : Int) => [(0,nI a0),(1,dL AJ a1),(4,.box [nI 0,oL 42 Ah []]),(9,dL AJ a1),(10,nI (List.length a1 : Int)),(11,nI y1)]) _ _ _ _ hl (okr rfl) (fun _ => rfl) ?_
 rintro m y1 N h hN
 unfold Fx at h
 refine rn 1 rfl (Ac fun K2 hK2 => ?_)
 rcases Ab h with ⟨g3,h⟩ | ⟨g3,h⟩
 ·refine qT rfl g3 (Ae (hK2 _ (Ac fun K4 hK4 => Az (rs ?_))))
  obtain ⟨e5,g6,h⟩ := Aa h
  refine qI rfl Br g6 (sp 2 rfl (evn (rs (sp 5 rfl (?_)))))
  rcases Ab h with ⟨g7,h⟩ | ⟨g7,h⟩
  ·exact qg 19 g7 rfl (sp 4 rfl (evn (qT rfl rfl (rn 1 rfl (Af ((by cases h; cases hr1; exact ⟨.inl rfl,rfl⟩)))))))
  ·refine qg 19 g7 rfl (sp 1 rfl (?_))
   obtain ⟨v8,g9,h⟩ := Aa h
   refine oGR rfl rfl (qC (qa rfl (erD An _) Ax) (IC g9) (sp 2 rfl (evn ?_)))
   rcases Ab h with ⟨g10,h⟩ | ⟨g10,h⟩
   ·exact qT rfl g10 (rn 1 rfl (qk [4,5] rfl (Af ((by cases h; cases hr1; exact ⟨.inl rfl,rfl⟩)))))
   ·exact qF rfl g10 (Ae (hK4 _ (rg (sp 2 rfl (evn (hN _ _ h (okr rfl)))))))
 ·exact qF rfl g3 (Aq (kXB1 (Option.some.inj h) _ (okr rfl)))
def KI (a0 : Y32) (a1 : Y32) : Option (Y32 × Bool) := Ad (AF a0) fun v2 => cond (!v2) (some ((0,[]),false)) (Ad (AF a1) fun v5 => cond (!v5) (some ((0,[]),false)) (cond (a0.1 != a1.1) (some ((0,[]),false)) (Ad (DJ a0.2) fun v9 => chk (List.length v9 + List.length a1.2 <= lim) (Ad (FR a0.1 (v9 ++ a1.2)) fun v12 => some (v12.1,v12.2)))))
theorem Tc {a0 : Y32} {a1 : Y32} {r : Y32 × Bool} (h : KI a0 a1 = some r) : Ai Tryz.prog 91 [.agg (Gs a0),.agg (Gs a1)] (.tup [.agg (Ez r.1),.bool r.2]) := by
 unfold KI at h
 refine st nR rfl (rn 1 rfl (Ac fun K1 hK1 => rs (sp 1 rfl (?_))))
 obtain ⟨v2,g3,h⟩ := Aa h
 refine qC (qa rfl (erg (erc rfl (erc (erD Ar _) rfl))) Ax) (AN g3) (sp 2 rfl (?_))
 rcases Ab h with ⟨g4,h⟩ | ⟨g4,h⟩
 ·exact qg 9 g4 rfl (sp 11 rfl (evn (qT rfl rfl (rn 1 rfl (Af ((by cases h; exact ⟨.inl rfl,rfl⟩)))))))
 ·refine qg 9 g4 rfl (sp 1 rfl (?_))
  obtain ⟨v5,g6,h⟩ := Aa h
  refine oGR rfl rfl (qC (qa rfl (erg (erc rfl (erc (erD Ar _) rfl))) Ax) (AN g6) (sp 3 rfl (?_)))
  rcases Ab h with ⟨g7,h⟩ | ⟨g7,h⟩
  ·exact qg 14 g7 rfl (sp 6 rfl (evn (qk [2,3,4,20] rfl (qT rfl rfl (rn 1 rfl (Af ((by cases h; exact ⟨.inl rfl,rfl⟩))))))))
  ·refine qg 14 g7 rfl (sp 6 rfl (evn ?_))
   rcases Ab h with ⟨g8,h⟩ | ⟨g8,h⟩
   ·exact qT rfl g8 (rn 1 rfl (Af ((by cases h; exact ⟨.inl rfl,rfl⟩))))
   ·refine qF rfl g8 (Ae (hK1 _ (rd (by kernel_rfl) (sd 4 rfl (?_)))))
    obtain ⟨v9,g10,h⟩ := Aa h
    refine ed rfl (qC (qa rfl (erD Ar _) Ax) (Gx g10) (sd 2 rfl (?_)))
    obtain ⟨g11,h⟩ := Aj h
    refine ed rfl (qAd Ah AJ AJ v9 a1.2 rfl rfl (Av Br a1.2) (HQ (fun _ => rfl) _) g11 (fun _ => rfl) (fun _ => rfl) (fun _ => rfl) (fun _ => rfl) (?_))
    obtain ⟨v12,g13,h⟩ := Aa h
    exact ed rfl (qC (qs rfl (qa rfl (erO Ar _) Ax)) (Nt g13) (sd 4 rfl (CK (Af ((by cases h; exact ⟨.inl rfl,rfl⟩))))))
def F7 (x : AU) : List V := [.str x.1,nI x.2.1,aL FN x.2.2]
theorem lF (x : AU) : (F7 x).length = 3 := rfl
theorem DH (x : AU) : erL (F7 x) = At x := (erc rfl (erc rfl (erc (erG Cv _) rfl)))
theorem G5 (x : AU) : AX (Ak x) = true := (dcc rfl (dcc rfl (dcc (dco Dd 42 _) dcn)))
theorem KE (x : AU) : E8 (F7 x) = true := (acc rfl (acc rfl (acc (aca F9 _) rfl)))
theorem Ng (x : AU) : BT (At x) = true := (bcc rfl (bcc rfl (bcc (Gm IV _) rfl)))
theorem NT (x : AU) : IU (At x) = F7 x := (vcc rfl (vcc rfl (vcc (LD I2 _) rfl)))
def CO (a1 : List UInt8) (v7 : (List AU)) (rec : Int -> Option (Int)) (y1 : Int) : Option (Int) := cond (decide (y1 < (List.length v7 : Int))) (Ad (AO v7 y1) fun e13 => cond (Op.bytesLess e13.1 a1) (rec (IntKind.i64.wrap (y1 + 1))) (some y1)) (some y1)
def CQ (a0 : List AU) (x21 : List AU) : Option ((List AU) × Bool) := Ad (A9 x21) fun v23 => cond (!v23) (Ad (Bn a0) fun v26 => some (v26,false)) (some (x21,true))
def CP (a0 : List AU) (a1 : List UInt8) (v7 : (List AU)) (z10 : Int) (v16 : Y32) (x20 : Bool) : Option ((List AU) × Bool) := cond x20 (chk (0 < List.length v7) (Ad (AO v7 z10) fun e31 => CQ a0 (Jr v7 z10 (a1,v16)))) (chk ((0 : Int) <= 0 ∧ 0 <= z10 ∧ z10 <= (List.length (AC 0 v7) : Int)) (chk (List.length ([] : List (Nat × AU)) + List.length (Ey (AC 0 v7) 0 z10) <= lim) (chk (List.length (H4 (([] : List (Nat × AU)) ++ (Ey (AC 0 v7) 0 z10))) + List.length (Pe ([(a1,v16)] : List AU)) <= lim) (chk ((0 : Int) <= z10 ∧ z10 <= (List.length (AC 0 v7) : Int) ∧ (List.length (AC 0 v7) : Int) <= (List.length (AC 0 v7) : Int)) (chk (List.length ((H4 (([] : List (Nat × AU)) ++ (Ey (AC 0 v7) 0 z10))) ++ (Pe ([(a1,v16)] : List AU))) + List.length (H4 (Ey (AC 0 v7) z10 (List.length (AC 0 v7) : Int))) <= lim) (chk (okJ (v7) (((H4 (([] : List (Nat × AU)) ++ (Ey (AC 0 v7) 0 z10))) ++ (Pe ([(a1,v16)] : List AU))) ++ (H4 (Ey (AC 0 v7) z10 (List.length (AC 0 v7) : Int)))) [] = true) (CQ a0 (List.map getM (((H4 (([] : List (Nat × AU)) ++ (Ey (AC 0 v7) 0 z10))) ++ (Pe ([(a1,v16)] : List AU))) ++ (H4 (Ey (AC 0 v7) z10 (List.length (AC 0 v7) : Int))))))))))))
def FSQ (a0 : List AU) (a1 : List UInt8) (a2 : Y32) : Option ((List AU) × Bool) := Ad (A9 a0) fun v2 => cond (!v2) (Ad (Bn a0) fun v5 => some (v5,false)) (Ad (Bn a0) fun v7 => Ad (Ao (CO a1 v7) fz 0) fun z10 => Ad (CT a2) fun v16 => cond (decide (z10 < (List.length v7 : Int))) (Ad (AO v7 z10) fun e40 => CP a0 a1 v7 z10 v16 (e40.1 == a1)) (CP a0 a1 v7 z10 v16 false))
theorem Nu {a0 : List AU} {a1 : List UInt8} {a2 : Y32} {r : (List AU) × Bool} (h : FSQ a0 a1 a2 = some r) : Ai Tryz.prog 92 [.agg [dL At a0],.str a1,.agg (Gs a2)] (.tup [.agg [oL 123 Ak r.1],.bool r.2]) := by
 unfold FSQ at h
 refine sta nS rfl (SN (bcc (Gm Ng _) rfl) (SN rfl (SN (bcc rfl (bcc (Gm IV _) rfl)) rfl))) (mvv (vag (vcc (LD NT _) rfl)) (mvv rfl (mvv (vag (vcc rfl (vcc (LD I2 _) rfl))) rfl))) (dcc (dag (dcc (dco G5 123 _) dcn)) (dcc rfl dcn)) (rn 1 rfl (Ac fun K1 hK1 => rs (sp 1 rfl (?_))))
 obtain ⟨v2,g3,h⟩ := Aa h
 refine qC (qa rfl (erg (erc (erG DH _) rfl)) Ax) (CB g3) (sp 1 rfl (evn ?_))
 rcases Ab h with ⟨g4,h⟩ | ⟨g4,h⟩
 ·refine qT rfl g4 (rs (sp 1 rfl (?_)))
  obtain ⟨v5,g6,h⟩ := Aa h
  exact qC (qa rfl (erg (erc (erG DH _) rfl)) Ax) (CR g6) (sp 2 rfl (evn (Af ((by cases h; exact ⟨.inl rfl,rfl⟩)))))
 ·refine qF rfl g4 (Ae (hK1 _ (rs (sp 1 rfl (?_)))))
  obtain ⟨v7,g8,h⟩ := Aa h
  refine qC (qa rfl (erg (erc (erG DH _) rfl)) Ax) (CR g8) (sp 2 rfl (evn (rn 1 rfl (Ac fun K9 hK9 => ?_))))
  obtain ⟨o1,hl,hr1⟩ := Aa h
  have kXB1 : ∀ {z10 : Int},z10 = o1 -> Jn K9 [(1,.str a1),(3,.box [aL F7 a0]),(5,.box [nI a2.1,aL FN a2.2]),(6,.box [oL 123 Ak []]),(8,.box [oL 123 Ak v7]),(9,nI z10)] := by
   intro z10 h σ' hk
   subst h
   replace h := hr1
   try dsimp only at h
   refine hK9 _ (lh hk rfl (rs (sp 2 rfl (?_))))
   obtain ⟨v16,g17,h⟩ := Aa h
   refine qC (qa rfl (erg (erc rfl (erc (erG Cv _) rfl))) Ax) (Hn g17) (sp 3 rfl (evn (Ac fun K18 hK18 => rk fun K19 hK19 => ?_)))
   have kJ2 : ∀ {x20 : Bool},CP a0 a1 v7 z10 v16 x20 = some r -> Jn K19 [(3,.box [aL F7 a0]),(6,.box [oL 123 Ak []]),(8,.box [oL 123 Ak v7]),(9,nI z10),(10,.box [.str a1,nI v16.1,oL 42 Ah v16.2]),(53,.bool x20)] := by
    intro x20 h σ' hk
    unfold CP at h
    refine hK19 _ (lh hk rfl ?_)
    have kJ3 : ∀ {x21 : List AU},CQ a0 x21 = some r -> Jn K18 [(3,.box [aL F7 a0]),(6,.box [oL 123 Ak []]),(8,.box [oL 123 Ak x21])] := by
     intro x21 h σ' hk
     unfold CQ at h
     refine hK18 _ (lh hk rfl (Ac fun K22 hK22 => rs (sp 1 rfl (?_))))
     obtain ⟨v23,g24,h⟩ := Aa h
     refine qC (qa rfl (erg (erc (erD E2 _) rfl)) Ax) (CB g24) (sp 1 rfl (evn ?_))
     rcases Ab h with ⟨g25,h⟩ | ⟨g25,h⟩
     ·refine qT rfl g25 (rs (sp 1 rfl (?_)))
      obtain ⟨v26,g27,h⟩ := Aa h
      exact qC (qa rfl (erg (erc (erG DH _) rfl)) Ax) (CR g27) (sp 2 rfl (evn (Af ((by cases h; exact ⟨.inl rfl,rfl⟩)))))
     ·exact qF rfl g25 (Ae (hK22 _ (rn 1 rfl (Af ((by cases h; exact ⟨.inl rfl,rfl⟩))))))
    rcases Ab h with ⟨g28,h⟩ | ⟨g28,h⟩
    ·refine qT rfl g28 (qk [3,6,8,9,10] rfl ?_)
     obtain ⟨g29,h⟩ := Aj h
     refine J1 (gLb (q := 900003) (b := 8) [] [] rfl rfl rfl g29 ?_)
     intro gg30 mm30
     refine qk [3,6,8,9,10,900003] rfl (Z9 (rg (sp 4 rfl (?_))))
     obtain ⟨e31,g32,h⟩ := Aa h
     refine qIt rfl rfl rfl rfl g32 (?_)
     refine qSt (y0 := e31) (i := z10) (es := 3) 0 (a1,v16) [3,6,8] rfl rfl rfl rfl rfl rfl rfl rfl rfl rfl DP g32 (fun x => sdL (G5 x)) (sdL (dcc rfl (dcc rfl (dcc (dco Dd 42 _) dcn)))) (yc (snc (sA (aca KE _)) rfl) (yc (snc rfl rfl) (yc (snc rfl rfl) yn))) (?_)
     exact evn (gDb (q := 900003) (b := 8) [] [] rfl rfl rfl (sl rfl) (kJ3 h _ (okr rfl)))
    ·refine qF rfl g28 (qk [3,6,8,9,10] rfl (J1 (gSb (f := Ak) (l := v7) (q := 900001) (b := 8) [] [] rfl rfl rfl (fun _ => rfl) ?_)))
     intro U us1 hU
     refine qk [3,6,8,9,10,900001] rfl (Z9 (rgd (by kernel_rfl) (ed rfl (qBs Ak [] rfl rfl rfl DP (sd 3 rfl (?_))))))
     obtain ⟨g33,h⟩ := Aj h
     refine ed rfl (qSl rfl (zpE DP) g33 (?_))
     obtain ⟨g34,h⟩ := Aj h
     refine ed rfl (qA (pE Ak U) ([] : List (Nat × AU)) (Ey (AC 0 v7) 0 z10) rfl rfl (Av (zpE DP) (Ey (AC 0 v7) 0 z10)) (R8 _) g34 (sd 1 rfl (ed rfl (qBs Ak [(a1,v16)] rfl rfl rfl DP (?_)))))
     obtain ⟨g35,h⟩ := Aj h
     refine ed rfl (qA2 (mE Ak U) (H4 (([] : List (Nat × AU)) ++ (Ey (AC 0 v7) 0 z10))) (Pe ([(a1,v16)] : List AU)) rfl rfl (Av DP [(a1,v16)]) Qc W1 Wt fU g35 (sd 3 rfl (?_)))
     obtain ⟨g36,h⟩ := Aj h
     refine ed rfl (qSl rfl (zpE DP) g36 (?_))
     obtain ⟨g37,h⟩ := Aj h
     refine ed rfl (qA2 (mE Ak U) ((H4 (([] : List (Nat × AU)) ++ (Ey (AC 0 v7) 0 z10))) ++ (Pe ([(a1,v16)] : List AU))) (H4 (Ey (AC 0 v7) z10 (List.length (AC 0 v7) : Int))) rfl rfl (Av (zpE DP) (Ey (AC 0 v7) z10 (List.length (AC 0 v7) : Int))) rfl rfl Qc ((R8 _).trans W1) g37 (sd 2 rfl (CK ?_)))
     obtain ⟨g38,h⟩ := Aj h
     exact gJb (f := Ak) (l := v7) (q := 900001) (b := 8) [] [] (((H4 (([] : List (Nat × AU)) ++ (Ey (AC 0 v7) 0 z10))) ++ (Pe ([(a1,v16)] : List AU))) ++ (H4 (Ey (AC 0 v7) z10 (List.length (AC 0 v7) : Int)))) rfl rfl rfl rfl (fun _ => rfl) hU g38 (kJ3 h _ (okr rfl))
   refine sp 6 rfl (?_)
   rcases Ab h with ⟨g39,h⟩ | ⟨g39,h⟩
   ·refine qg 44 g39 rfl (sp 3 rfl (?_))
    obtain ⟨e40,g41,h⟩ := Aa h
    exact oGR rfl rfl (qI rfl DP g41 (sp 5 rfl (evn (kJ2 h _ (okr rfl)))))
   ·exact qg 44 g39 rfl (sp 9 rfl (evn (kJ2 h _ (okr rfl))))
  refine AB (fun (y1 : Int) => [(1,.str a1),(3,.box [aL F7 a0]),(5,.box [nI a2.1,aL FN a2.2]),(6,.box [oL 123 Ak []]),(8,.box [oL 123 Ak v7]),(9,nI y1)]) _ _ _ _ hl (okr rfl) (fun _ => rfl) ?_
  rintro m y1 N h hN
  unfold CO at h
  refine Ac fun K11 hK11 => rs (sp 6 rfl (?_))
  rcases Ab h with ⟨g12,h⟩ | ⟨g12,h⟩
  ·refine qg 23 g12 rfl (sp 3 rfl (?_))
   obtain ⟨e13,g14,h⟩ := Aa h
   refine oGR rfl rfl (qI rfl DP g14 (sp 5 rfl (evn ?_)))
   rcases Ab h with ⟨g15,h⟩ | ⟨g15,h⟩
   ·exact qT rfl g15 (Ae (hK11 _ (Az (rg (sp 3 rfl (evn (hN _ _ h (okr rfl))))))))
   ·exact qF rfl g15 (Aq (kXB1 (Option.some.inj h) _ (okr rfl)))
  ·exact qg 23 g12 rfl (sp 9 rfl (evn (qF rfl rfl (Aq (kXB1 (Option.some.inj h) _ (okr rfl))))))
def Fa (a0 : List AU) (a1 : Y34) : Option ((List AU) × Bool) := Ad (D1 a0 a1) fun v1 => cond (!v1.2) (Ad (Bn a0) fun v5 => some (v5,false)) (Ad (BD a0 a1.1) fun v7 => Ad (Gu v7.1 v1.1.2.2) fun v9 => Ad (KI v9.1 v1.1.2.1) fun v11 => cond (!v11.2) (Ad (Bn a0) fun v15 => some (v15,false)) (Ad (FSQ a0 a1.1 v11.1) fun v17 => some (v17.1,v17.2)))
theorem KH {a0 : List AU} {a1 : Y34} {r : (List AU) × Bool} (h : Fa a0 a1 = some r) : Ai Tryz.prog 32 [.agg [dL At a0],.agg (Gc a1)] (.tup [.agg [oL 123 Ak r.1],.bool r.2]) := by
 unfold Fa at h
 refine st m6 rfl (rn 1 rfl (rs (sp 2 rfl (?_))))
 obtain ⟨v1,g2,h⟩ := Aa h
 refine qC (qa rfl (erg (erc (erD AH _) rfl)) (qa rfl (erg (erc rfl (erc rfl (erc (erD Ar _) (erc rfl (erc (erD Ar _) rfl)))))) Ax)) (LK g2) (sp 6 rfl (evn (Ac fun K3 hK3 => rn 1 rfl ?_)))
 rcases Ab h with ⟨g4,h⟩ | ⟨g4,h⟩
 ·refine qT rfl g4 (rs (sp 1 rfl (?_)))
  obtain ⟨v5,g6,h⟩ := Aa h
  exact qC (qa rfl (erg (erc (erD AH _) rfl)) Ax) (CR g6) (sp 2 rfl (evn (Af ((by cases h; exact ⟨.inl rfl,rfl⟩)))))
 ·refine qF rfl g4 (Ae (hK3 _ (rs (sp 3 rfl (?_)))))
  obtain ⟨v7,g8,h⟩ := Aa h
  refine qC (qa rfl (erg (erc (erD AH _) rfl)) (qs rfl Ax)) (EC g8) (sp 6 rfl (evn (qk [2,3,4,6,8] rfl (rs (sp 3 rfl (?_))))))
  obtain ⟨v9,g10,h⟩ := Aa h
  refine qC (qa rfl (erg (erc rfl (erc (erD A3 _) rfl))) (qa rfl (erg (erc rfl (erc (erD A3 _) rfl))) Ax)) (N9 g10) (sp 6 rfl (evn (rs (sp 3 rfl (?_)))))
  obtain ⟨v11,g12,h⟩ := Aa h
  refine qC (qa rfl (erg (erc rfl (erc (erD A3 _) rfl))) (qa rfl (erg (erc rfl (erc (erD A3 _) rfl))) Ax)) (Tc g12) (sp 6 rfl (evn (Ac fun K13 hK13 => rn 1 rfl ?_)))
  rcases Ab h with ⟨g14,h⟩ | ⟨g14,h⟩
  ·refine qT rfl g14 (rs (sp 1 rfl (?_)))
   obtain ⟨v15,g16,h⟩ := Aa h
   exact qC (qa rfl (erg (erc (erD AH _) rfl)) Ax) (CR g16) (sp 2 rfl (evn (Af ((by cases h; exact ⟨.inl rfl,rfl⟩)))))
  ·refine qF rfl g14 (Ae (hK13 _ (rs (sp 4 rfl (?_)))))
   obtain ⟨v17,g18,h⟩ := Aa h
   exact qC (qa rfl (erg (erc (erD AH _) rfl)) (qs rfl (qa rfl (erg (erc rfl (erc (erD A3 _) rfl))) Ax))) (Nu g18) (sp 4 rfl (evn (qk [4,5] rfl (Af ((by cases h; exact ⟨.inl rfl,rfl⟩))))))
def Cy (a0 : Y43) : Option (Y43) := Ad (DJ a0.2.1) fun v1 => Ad (A5 a0.2.2) fun v3 => some (a0.1,v1,v3)
theorem Gj {a0 : Y43} {r : Y43} (h : Cy a0 = some r) : Ai Tryz.prog 94 [.agg (Bf a0)] (.agg (Al r)) := by
 unfold Cy at h
 refine st nU rfl (rn 1 rfl (rd (by kernel_rfl) (sd 4 rfl (?_))))
 obtain ⟨v1,g2,h⟩ := Aa h
 refine ed rfl (qC (qa rfl (erD Ar _) Ax) (Gx g2) (sd 2 rfl (?_)))
 obtain ⟨v3,g4,h⟩ := Aa h
 exact ed rfl (qC (qa rfl (erD An _) Ax) (BE g4) (sd 2 rfl (CK (Af ((by cases h; exact ⟨.inl rfl,rfl⟩))))))
def HH (a0 : Y53) : Option (Y53) := Ad (EU a0.1) fun v1 => Ad (Cy a0.2) fun v3 => some (v1,v3)
theorem P7 {a0 : Y53} {r : Y53} (h : HH a0 = some r) : Ai Tryz.prog 93 [.agg (AW a0)] (.agg (Ag r)) := by
 unfold HH at h
 refine st nT rfl (rn 1 rfl (rd (by kernel_rfl) (sd 2 rfl (?_))))
 obtain ⟨v1,g2,h⟩ := Aa h
 refine ed rfl (qC (qa rfl (erg (erc rfl (erc (erD BB _) (erc (erD An _) rfl)))) Ax) (IX g2) (sd 2 rfl (?_)))
 obtain ⟨v3,g4,h⟩ := Aa h
 exact ed rfl (qC (qa rfl (erg (erc rfl (erc (erD Ar _) (erc (erD An _) rfl)))) Ax) (Gj g4) (sd 2 rfl (CK (Af ((by cases h; exact ⟨.inl rfl,rfl⟩))))))
def E5 (a0 : Y29) (rec : ((List Y53) × Int) -> Option ((List Y53))) (s : (List Y53) × Int) : Option ((List Y53)) := match s with
  | (y1,y2) => cond (decide (y2 < (List.length a0.2.1 : Int))) (Ad (AO a0.2.1 y2) fun e8 => Ad (HH e8) fun v10 => chk (List.length y1 + List.length [v10] <= lim) (rec ((y1 ++ [v10]),(IntKind.i64.wrap (y2 + 1))))) (some y1)
def E6 (a0 : Y29) (rec : ((List Y43) × Int) -> Option ((List Y43))) (s : (List Y43) × Int) : Option ((List Y43)) := match s with
  | (y3,y4) => cond (decide (y4 < (List.length a0.2.2 : Int))) (Ad (AO a0.2.2 y4) fun e18 => Ad (Cy e18) fun v20 => chk (List.length y3 + List.length [v20] <= lim) (rec ((y3 ++ [v20]),(IntKind.i64.wrap (y4 + 1))))) (some y3)
def CS (a0 : Y29) : Option (Y29) := Ad (Bn a0.1) fun v1 => Ad (Ao (E5 a0) fz (([] : List Y53),0)) fun z4 => Ad (Ao (E6 a0) fz (([] : List Y43),0)) fun z14 => some (v1,z4,z14)
theorem Hm {a0 : Y29} {r : Y29} (h : CS a0 = some r) : Ai Tryz.prog 33 [.agg (Bx a0)] (.agg (Aw r)) := by
 unfold CS at h
 refine st m7 rfl (rn 1 rfl (rs (sp 2 rfl (?_))))
 obtain ⟨v1,g2,h⟩ := Aa h
 refine qC (qa rfl (erg (erc (erD AH _) rfl)) Ax) (CR g2) (sp 3 rfl (evn (Ac fun K3 hK3 => rn 1 rfl ?_)))
 obtain ⟨o1,hl,hr1⟩ := Aa h
 have kXB1 : ∀ {z4 : List Y53},z4 = o1 -> Jn K3 [(1,.box [dL At a0.1,dL AW a0.2.1,dL Bf a0.2.2]),(2,.box [oL 123 Ak [],oL 54 Ag [],oL 44 Al []]),(3,.box [oL 123 Ak v1,oL 54 Ag z4,oL 44 Al []])] := by
  intro z4 h σ' hk
  subst h
  replace h := hr1
  try dsimp only at h
  refine hK3 _ (lh hk rfl (Ac fun K13 hK13 => rn 1 rfl ?_))
  obtain ⟨o2,hl,hr2⟩ := Aa h
  have kXB2 : ∀ {z14 : List Y43},z14 = o2 -> Jn K13 [(2,.box [oL 123 Ak [],oL 54 Ag [],oL 44 Al []]),(3,.box [oL 123 Ak v1,oL 54 Ag z4,oL 44 Al z14])] := by
   intro z14 h σ' hk
   subst h
   replace h := hr2
   try dsimp only at h
   exact hK13 _ (lh hk rfl (rn 1 rfl (Af ((by cases h; exact ⟨.inl rfl,rfl⟩)))))
  refine AB (fun (s : (List Y43) × Int) => match s with | (y3,y4) => [(2,.box [oL 123 Ak [],oL 54 Ag [],oL 44 Al []]),(3,.box [oL 123 Ak v1,oL 54 Ag z4,oL 44 Al y3]),(28,dL Bf a0.2.2),(29,nI (List.length a0.2.2 : Int)),(30,nI y4)]) _ _ _ _ hl (okr rfl) (fun _ => rfl) ?_
  rintro m ⟨y3,y4⟩ N h hN
  unfold E6 at h
  dsimp only at h
  refine rn 1 rfl (Ac fun K15 hK15 => ?_)
  rcases Ab h with ⟨g16,h⟩ | ⟨g16,h⟩
  ·refine qT rfl g16 (Ae (hK15 _ (Ac fun K17 hK17 => Az (rs ?_))))
   obtain ⟨e18,g19,h⟩ := Aa h
   refine qI rfl Jj g19 (sp 3 rfl (evn (rgd (by kernel_rfl) (sd 3 rfl (?_)))))
   obtain ⟨v20,g21,h⟩ := Aa h
   refine ed rfl (qC (qa rfl (erg (erc rfl (erc (erD Ar _) (erc (erD An _) rfl)))) Ax) (Gj g21) (ed rfl (qBs Al [v20] rfl rfl rfl ES (?_))))
   obtain ⟨g22,h⟩ := Aj h
   exact ed rfl (qA Al y3 [v20] rfl rfl (Av ES [v20]) rfl g22 (sd 2 rfl (CK (hK17 _ (rg (sp 2 rfl (evn (hN _ _ h (okr rfl)))))))))
  ·exact qF rfl g16 (Aq (kXB2 (Option.some.inj h) _ (okr rfl)))
 refine AB (fun (s : (List Y53) × Int) => match s with | (y1,y2) => [(1,.box [dL At a0.1,dL AW a0.2.1,dL Bf a0.2.2]),(2,.box [oL 123 Ak [],oL 54 Ag [],oL 44 Al []]),(3,.box [oL 123 Ak v1,oL 54 Ag y1,oL 44 Al []]),(13,dL AW a0.2.1),(14,nI (List.length a0.2.1 : Int)),(15,nI y2)]) _ _ _ _ hl (okr rfl) (fun _ => rfl) ?_
 rintro m ⟨y1,y2⟩ N h hN
 unfold E5 at h
 dsimp only at h
 refine rn 1 rfl (Ac fun K5 hK5 => ?_)
 rcases Ab h with ⟨g6,h⟩ | ⟨g6,h⟩
 ·refine qT rfl g6 (Ae (hK5 _ (Ac fun K7 hK7 => Az (rs ?_))))
  obtain ⟨e8,g9,h⟩ := Aa h
  refine qI rfl C1 g9 (sp 3 rfl (evn (rgd (by kernel_rfl) (sd 3 rfl (?_)))))
  obtain ⟨v10,g11,h⟩ := Aa h
  refine ed rfl (qC (qa rfl (erg (erc rfl (erc (erD BB _) (erc (erD An _) (erc rfl (erc (erD Ar _) (erc (erD An _) rfl))))))) Ax) (P7 g11) (ed rfl (qBs Ag [v10] rfl rfl rfl Cn (?_))))
  obtain ⟨g12,h⟩ := Aj h
  exact ed rfl (qA Ag y1 [v10] rfl rfl (Av Cn [v10]) rfl g12 (sd 2 rfl (CK (hK7 _ (rg (sp 2 rfl (evn (hN _ _ h (okr rfl)))))))))
 ·exact qF rfl g6 (Aq (kXB1 (Option.some.inj h) _ (okr rfl)))
def Dn (a1 : Y43) (rec : (Int × (List (List Int)) × (List Int) × Int) -> Option (Int × (List (List Int)) × (List Int))) (s : Int × (List (List Int)) × (List Int) × Int) : Option (Int × (List (List Int)) × (List Int)) := match s with
  | (y1,y2,y3,y4) => cond (decide (y4 < (List.length a1.2.1 : Int))) (Ad (AO a1.2.1 y4) fun e18 => Ad (AO a1.2.2 y4) fun e20 => Ad (GU (y1,y2,y3) e18 e20) fun v22 => rec (v22.1,v22.2.1,v22.2.2,(IntKind.i64.wrap (y4 + 1)))) (some (y1,y2,y3))
def DY (a0 : Y43) (a1 : Y43) : Option (Y43 × Bool) := Ad (A2 a0) fun v2 => cond (!v2) (some ((0,[],[]),false)) (Ad (A2 a1) fun v5 => cond (!v5) (some ((0,[],[]),false)) (cond (a0.1 != a1.1) (some ((0,[],[]),false)) (Ad (Cy a0) fun v9 => Ad (Ao (Dn a1) fz (v9.1,v9.2.1,v9.2.2,0)) fun o1 => (match o1 with
  | (z12,z13,z14) => (Ad (Fu (z12,AC 0 z13,z14)) fun v24 => chk (okJ (z13) (H4 v24.2.1) [] = true) (cond (decide (4000 < (List.length (AC 0 z13) : Int))) (some ((0,[],[]),false)) (Ad (A2 (v24.1,List.map getM (H4 v24.2.1),v24.2.2)) fun v29 => cond (!v29) (some ((0,[],[]),false)) (some ((v24.1,List.map getM (H4 v24.2.1),v24.2.2),true)))))))))
theorem H5 {a0 : Y43} {a1 : Y43} {r : Y43 × Bool} (h : DY a0 a1 = some r) : Ai Tryz.prog 36 [.agg (Bf a0),.agg (Bf a1)] (.tup [.agg (Al r.1),.bool r.2]) := by
 unfold DY at h
 refine sta na rfl (SN (bcc rfl (bcc (Gm IV _) (bcc (Gm (fun _ => rfl) _) rfl))) (SN (bcc rfl (bcc (Gm IV _) (bcc (Gm (fun _ => rfl) _) rfl))) rfl)) (mvv (vag (vcc rfl (vcc (LD I2 _) (vcc (LD (fun _ => rfl) _) rfl)))) (mvv (vag (vcc rfl (vcc (LD I2 _) (vcc (LD (fun _ => rfl) _) rfl)))) rfl)) (dcc (dag (dcc rfl (dcc (dco Dd 42 _) (dcc (dco (fun _ => rfl) 3 _) dcn)))) (dcc rfl dcn)) (rn 1 rfl (Ac fun K1 hK1 => rs (sp 1 rfl (?_))))
 obtain ⟨v2,g3,h⟩ := Aa h
 refine qC (qa rfl (erg (erc rfl (erc (erG Cv _) (erc (erG An _) rfl)))) Ax) (Df g3) (sp 2 rfl (?_))
 rcases Ab h with ⟨g4,h⟩ | ⟨g4,h⟩
 ·exact qg 13 g4 rfl (sp 11 rfl (evn (qT rfl rfl (rn 1 rfl (Af ((by cases h; exact ⟨.inl rfl,rfl⟩)))))))
 ·refine qg 13 g4 rfl (sp 1 rfl (?_))
  obtain ⟨v5,g6,h⟩ := Aa h
  refine oGR rfl rfl (qC (qa rfl (erg (erc rfl (erc (erG Cv _) (erc (erG An _) rfl)))) Ax) (Df g6) (sp 3 rfl (?_)))
  rcases Ab h with ⟨g7,h⟩ | ⟨g7,h⟩
  ·exact qg 18 g7 rfl (sp 6 rfl (evn (qk [2,3,4,24] rfl (qT rfl rfl (rn 1 rfl (Af ((by cases h; exact ⟨.inl rfl,rfl⟩))))))))
  ·refine qg 18 g7 rfl (sp 6 rfl (evn ?_))
   rcases Ab h with ⟨g8,h⟩ | ⟨g8,h⟩
   ·exact qT rfl g8 (rn 1 rfl (Af ((by cases h; exact ⟨.inl rfl,rfl⟩))))
   ·refine qF rfl g8 (Ae (hK1 _ (rs (sp 1 rfl (?_)))))
    obtain ⟨v9,g10,h⟩ := Aa h
    refine qC (qa rfl (erg (erc rfl (erc (erG Cv _) (erc (erG An _) rfl)))) Ax) (Gj g10) (sp 2 rfl (evn (Ac fun K11 hK11 => rn 1 rfl ?_)))
    obtain ⟨o1,hl,hr1⟩ := Aa h
    have kXB1 : ∀ {z12 : Int} {z13 : List (List Int)} {z14 : List Int},(z12,z13,z14) = o1 -> Jn K11 [(4,.box [nI 0,oL 42 Ah [],oL 3 As []]),(6,.box [nI z12,oL 42 Ah z13,oL 3 As z14])] := by
     intro z12 z13 z14 h σ' hk
     subst h
     replace h := hr1
     try dsimp only at h
     refine hK11 _ (lh hk rfl (qk [4,6] rfl (J1 (gSb (f := Ah) (l := z13) (q := 900001) (b := 6) [nI z12] [oL 3 As z14] rfl rfl rfl (fun _ => rfl) ?_))))
     intro U us1 hU
     refine kp [(4,.box [nI 0,oL 42 Ah [],oL 3 As []]),(6,.box [nI z12,oL 42 (pE Ah U) (AC 0 z13),oL 3 As z14]),(900001,.gh us1 (List.map (fun x => Kv (Ah x)) z13))] rfl rfl (rs (sp 1 rfl (?_)))
     obtain ⟨v24,g25,h⟩ := Aa h
     refine qCi rfl rfl rfl (Mu g25) (sp 2 rfl (evn (Ac fun K26 hK26 => qk [4,6,9,900001] rfl ?_)))
     obtain ⟨g27,h⟩ := Aj h
     refine J1 (gJb (f := Ah) (l := z13) (q := 900001) (b := 9) [nI v24.1] [oL 3 As v24.2.2] (H4 v24.2.1) rfl UB rfl rfl (fun _ => rfl) hU g27 (kp [(4,.box [nI 0,oL 42 Ah [],oL 3 As []]),(6,.box [nI z12,oL 42 (pE Ah U) (AC 0 z13),oL 3 As z14]),(9,.box [nI v24.1,oL 42 Ah (List.map getM (H4 v24.2.1)),oL 3 As v24.2.2])] rfl rfl (rs (sp 5 rfl (?_)))))
     rcases Ab h with ⟨g28,h⟩ | ⟨g28,h⟩
     ·exact qg 50 g28 rfl (sp 4 rfl (evn (qT rfl rfl (rn 1 rfl (Af ((by cases h; exact ⟨.inl rfl,rfl⟩)))))))
     ·refine qg 50 g28 rfl (sp 1 rfl (?_))
      obtain ⟨v29,g30,h⟩ := Aa h
      refine oGR rfl rfl (qC (qa rfl (erg (erc rfl (erc (erD A3 _) (erc (erD An _) rfl)))) Ax) (Df g30) (sp 2 rfl (evn ?_)))
      rcases Ab h with ⟨g31,h⟩ | ⟨g31,h⟩
      ·exact qT rfl g31 (rn 1 rfl (Af ((by cases h; exact ⟨.inl rfl,rfl⟩))))
      ·exact qF rfl g31 (Ae (hK26 _ (rn 1 rfl (Af ((by cases h; exact ⟨.inl rfl,rfl⟩))))))
    refine AB (fun (s : Int × (List (List Int)) × (List Int) × Int) => match s with | (y1,y2,y3,y4) => [(3,.box [nI a1.1,aL FN a1.2.1,aL As a1.2.2]),(4,.box [nI 0,oL 42 Ah [],oL 3 As []]),(6,.box [nI y1,oL 42 Ah y2,oL 3 As y3]),(29,aL FN a1.2.1),(30,nI (List.length a1.2.1 : Int)),(31,nI y4)]) _ _ _ _ hl (okr rfl) (fun _ => rfl) ?_
    rintro m ⟨y1,y2,y3,y4⟩ N h hN
    unfold Dn at h
    dsimp only at h
    refine rn 1 rfl (Ac fun K15 hK15 => ?_)
    rcases Ab h with ⟨g16,h⟩ | ⟨g16,h⟩
    ·refine qT rfl g16 (Ae (hK15 _ (Ac fun K17 hK17 => Az (rs (sp 1 rfl (?_))))))
     obtain ⟨e18,g19,h⟩ := Aa h
     refine qI rfl cj g19 (sp 3 rfl (evn (rg (sp 4 rfl (?_)))))
     obtain ⟨e20,g21,h⟩ := Aa h
     refine qI rfl AM g21 (sp 1 rfl (?_))
     obtain ⟨v22,g23,h⟩ := Aa h
     exact qPo [3,4,29,30,31,36,41] rfl rfl rfl rfl (qa rfl (erG An _) (qs rfl Ax)) (dcc rfl (dcc (dco Dd 42 _) (dcc (dco (fun _ => rfl) 3 _) dcn))) (OI g23) rfl (yc (snc rfl (snc (sA (aca F9 _)) (snc (sA (aca (fun _ => rfl) _)) rfl))) (yc (snc rfl (snc rfl (snc rfl rfl))) (yc (acf F9 _) (yc rfl (yc rfl (yc (acf (fun _ => rfl) _) (yc rfl yn))))))) (evn (hK17 _ (rg (sp 2 rfl (evn (hN _ _ h (okr rfl)))))))
    ·exact qF rfl g16 (Aq (kXB1 (Option.some.inj h) _ (okr rfl)))
def B7 (v1 : Y43) (rec : ((List Int) × Int) -> Option ((List Int))) (s : (List Int) × Int) : Option ((List Int)) := match s with
  | (y1,y2) => cond (decide (y2 < (List.length v1.2.2 : Int))) (chk (0 < List.length y1) (Ad (AO y1 y2) fun e10 => Ad (AO y1 y2) fun e12 => rec ((Jr y1 y2 (IntKind.i64.wrap (0 - e10))),(IntKind.i64.wrap (y2 + 1))))) (some y1)
def ED (a0 : Y43) : Option (Y43) := Ad (Cy a0) fun v1 => Ad (Ao (B7 v1) fz (v1.2.2,0)) fun z4 => some (v1.1,v1.2.1,z4)
theorem Mn {a0 : Y43} {r : Y43} (h : ED a0 = some r) : Ai Tryz.prog 96 [.agg (Bf a0)] (.agg (Al r)) := by
 unfold ED at h
 refine sta nW rfl (SN (bcc rfl (bcc (Gm IV _) (bcc (Gm (fun _ => rfl) _) rfl))) rfl) (mvv (vag (vcc rfl (vcc (LD I2 _) (vcc (LD (fun _ => rfl) _) rfl)))) rfl) (dag (dcc rfl (dcc (dco Dd 42 _) (dcc (dco (fun _ => rfl) 3 _) dcn)))) (rn 1 rfl (rs (sp 1 rfl (?_))))
 obtain ⟨v1,g2,h⟩ := Aa h
 refine qC (qa rfl (erg (erc rfl (erc (erG Cv _) (erc (erG An _) rfl)))) Ax) (Gj g2) (sp 2 rfl (evn (Ac fun K3 hK3 => rn 1 rfl ?_)))
 obtain ⟨o1,hl,hr1⟩ := Aa h
 have kXB1 : ∀ {z4 : List Int},z4 = o1 -> Jn K3 [(2,.box [nI 0,oL 42 Ah [],oL 3 As []]),(3,.box [nI v1.1,oL 42 Ah v1.2.1,oL 3 As z4])] := by
  intro z4 h σ' hk
  subst h
  replace h := hr1
  try dsimp only at h
  exact hK3 _ (lh hk rfl (rn 1 rfl (Af ((by cases h; exact ⟨.inl rfl,rfl⟩)))))
 refine AB (fun (s : (List Int) × Int) => match s with | (y1,y2) => [(2,.box [nI 0,oL 42 Ah [],oL 3 As []]),(3,.box [nI v1.1,oL 42 Ah v1.2.1,oL 3 As y1]),(9,nI (List.length v1.2.2 : Int)),(10,nI y2)]) _ _ _ _ hl (okr rfl) (fun _ => rfl) ?_
 rintro m ⟨y1,y2⟩ N h hN
 unfold B7 at h
 dsimp only at h
 refine rn 1 rfl (Ac fun K5 hK5 => ?_)
 rcases Ab h with ⟨g6,h⟩ | ⟨g6,h⟩
 ·refine qT rfl g6 (Ae (hK5 _ (Ac fun K7 hK7 => Az (rn 1 rfl (qk [2,3,4,9,10] rfl ?_)))))
  obtain ⟨g8,h⟩ := Aj h
  refine J1 (gLb (q := 900003) (b := 3) [nI v1.1,oL 42 Ah v1.2.1] [] rfl rfl rfl g8 ?_)
  intro gg9 mm9
  refine qk [2,3,4,9,10,900003] rfl (Z9 (rgt 9 (by kernel_rfl) (sd 6 rfl (?_))))
  obtain ⟨e10,g11,h⟩ := Aa h
  refine ed rfl (qIt rfl rfl rfl rfl g11 (?_))
  refine ed rfl (qLe (i := y2) (es := 1) (q := 900003) 0 rfl rfl rfl rfl rfl rfl AM g11 rfl rfl (?_))
  refine sd 1 rfl (CK (bw ?_))
  obtain ⟨e12,g13,h⟩ := Aa h
  refine qIt rfl rfl rfl rfl g13 (?_)
  refine qSt (y0 := e12) (i := y2) (es := 1) 0 (IntKind.i64.wrap (0 - e10)) [2,3,9,10] rfl rfl rfl rfl rfl rfl rfl rfl rfl rfl AM g13 (fun _ => rfl) (sdL (dcc rfl dcn)) (yc (snc rfl (snc rfl (snc rfl rfl))) (yc (snc rfl (snc (sO (dco Dd 42 _)) (snc rfl rfl))) (yc rfl (yc rfl yn)))) (?_)
  exact evn (gDb (q := 900003) (b := 3) [nI v1.1,oL 42 Ah v1.2.1] [] rfl rfl rfl (sl rfl) (hK7 _ (rg (sp 2 rfl (evn (hN _ _ h (okr rfl)))))))
 ·exact qF rfl g6 (Aq (kXB1 (Option.some.inj h) _ (okr rfl)))
def FY (a0 : List AU) (a1 : Y51) (a2 : Y34) : Option (Y43 × Bool) := Ad (Fa a0 a2) fun v1 => Ad (Fq v1.1 a1) fun v3 => Ad (Fq a0 a1) fun v5 => cond (!v1.2) (some ((0,[],[]),false)) (cond (!v3.2) (some ((0,[],[]),false)) (cond (!v5.2) (some ((0,[],[]),false)) (Ad (ED v5.1.2) fun v11 => Ad (DY v3.1.2 v11) fun v13 => some (v13.1,v13.2))))
theorem Lq {a0 : List AU} {a1 : Y51} {a2 : Y34} {r : Y43 × Bool} (h : FY a0 a1 a2 = some r) : Ai Tryz.prog 34 [.agg [dL At a0],.agg (Gt a1),.agg (Gc a2)] (.tup [.agg (Al r.1),.bool r.2]) := by
 unfold FY at h
 refine st m8 rfl (rn 1 rfl (rs (sp 2 rfl (?_))))
 obtain ⟨v1,g2,h⟩ := Aa h
 refine qC (qa rfl (erg (erc (erD AH _) rfl)) (qa rfl (erg (erc rfl (erc rfl (erc (erD Ar _) (erc rfl (erc (erD Ar _) rfl)))))) Ax)) (KH g2) (sp 6 rfl (evn (rs (sp 2 rfl (?_)))))
 obtain ⟨v3,g4,h⟩ := Aa h
 refine qC (qa rfl (erg (erc (erD E2 _) rfl)) (qa rfl (erg (erc rfl (erc (erD BB _) (erc (erD An _) rfl)))) Ax)) (Kq g4) (sp 6 rfl (evn (rs (sp 2 rfl (?_)))))
 obtain ⟨v5,g6,h⟩ := Aa h
 refine qC (qa rfl (erg (erc (erD AH _) rfl)) (qa rfl (erg (erc rfl (erc (erD BB _) (erc (erD An _) rfl)))) Ax)) (Kq g6) (sp 6 rfl (evn (Ac fun K7 hK7 => rs (sp 3 rfl (?_)))))
 rcases Ab h with ⟨g8,h⟩ | ⟨g8,h⟩
 ·exact qg 34 g8 rfl (sp 7 rfl (evn (qk [6,10,12,41] rfl (qT rfl rfl (rn 1 rfl (Af ((by cases h; exact ⟨.inl rfl,rfl⟩))))))))
 ·refine qg 34 g8 rfl (sp 4 rfl (?_))
  rcases Ab h with ⟨g9,h⟩ | ⟨g9,h⟩
  ·exact qg 38 g9 rfl (sp 3 rfl (evn (qT rfl rfl (rn 1 rfl (Af ((by cases h; exact ⟨.inl rfl,rfl⟩)))))))
  ·refine qg 38 g9 rfl (sp 3 rfl (evn ?_))
   rcases Ab h with ⟨g10,h⟩ | ⟨g10,h⟩
   ·exact qT rfl g10 (rn 1 rfl (Af ((by cases h; exact ⟨.inl rfl,rfl⟩))))
   ·refine qF rfl g10 (Ae (hK7 _ (rd (by kernel_rfl) (sd 4 rfl (?_)))))
    obtain ⟨v11,g12,h⟩ := Aa h
    refine ed rfl (qC (qa rfl (erg (erc rfl (erc (erD A3 _) (erc (erD An _) rfl)))) Ax) (Mn g12) (?_))
    obtain ⟨v13,g14,h⟩ := Aa h
    exact ed rfl (qC (qa rfl (erg (erc rfl (erc (erD A3 _) (erc (erD An _) rfl)))) (qa rfl (erg (erc rfl (erc (erO A3 _) (erc (erO An _) rfl)))) Ax)) (H5 g14) (sd 4 rfl (CK (qk [6,7] rfl (Af ((by cases h; exact ⟨.inl rfl,rfl⟩)))))))
def FQ (a0 : Y53) (a1 : List AU) (a2 : Y34) : Option (Y53 × Bool) := Ad (FY a1 a0.1 a2) fun v1 => Ad (BH a1 a0) fun v4 => cond (!v4) (some (((0,[],[]),(0,[],[])),false)) (cond (!v1.2) (some (((0,[],[]),(0,[],[])),false)) (Ad (DY a0.2 v1.1) fun v8 => cond (!v8.2) (some (((0,[],[]),(0,[],[])),false)) (Ad (EU a0.1) fun v12 => some ((v12,v8.1),true))))
theorem Ns {a0 : Y53} {a1 : List AU} {a2 : Y34} {r : Y53 × Bool} (h : FQ a0 a1 a2 = some r) : Ai Tryz.prog 35 [.agg (AW a0),.agg [dL At a1],.agg (Gc a2)] (.tup [.agg (Ag r.1),.bool r.2]) := by
 unfold FQ at h
 refine st m9 rfl (rn 1 rfl (rs (sp 4 rfl (?_))))
 obtain ⟨v1,g2,h⟩ := Aa h
 refine qC (qa rfl (erg (erc (erD AH _) rfl)) (qa rfl (erg (erc rfl (erc (erD BB _) (erc (erD An _) rfl)))) (qa rfl (erg (erc rfl (erc rfl (erc (erD Ar _) (erc rfl (erc (erD Ar _) rfl)))))) Ax))) (Lq g2) (sp 6 rfl (evn (Ac fun K3 hK3 => rs (sp 2 rfl (?_)))))
 obtain ⟨v4,g5,h⟩ := Aa h
 refine qC (qa rfl (erg (erc (erD AH _) rfl)) (qa rfl (erg (erc rfl (erc (erD BB _) (erc (erD An _) (erc rfl (erc (erD Ar _) (erc (erD An _) rfl))))))) Ax)) (Ka g5) (sp 2 rfl (?_))
 rcases Ab h with ⟨g6,h⟩ | ⟨g6,h⟩
 ·exact qg 24 g6 rfl (sp 3 rfl (evn (qT rfl rfl (rn 1 rfl (Af ((by cases h; exact ⟨.inl rfl,rfl⟩)))))))
 ·refine qg 24 g6 rfl (sp 3 rfl (evn ?_))
  rcases Ab h with ⟨g7,h⟩ | ⟨g7,h⟩
  ·exact qT rfl g7 (rn 1 rfl (qk [6,7] rfl (Af ((by cases h; exact ⟨.inl rfl,rfl⟩)))))
  ·refine qF rfl g7 (Ae (hK3 _ (rs (sp 3 rfl (?_)))))
   obtain ⟨v8,g9,h⟩ := Aa h
   refine qC (qa rfl (erg (erc rfl (erc (erD Ar _) (erc (erD An _) rfl)))) (qa rfl (erg (erc rfl (erc (erD A3 _) (erc (erD An _) rfl)))) Ax)) (H5 g9) (sp 6 rfl (evn (Ac fun K10 hK10 => rn 1 rfl ?_)))
   rcases Ab h with ⟨g11,h⟩ | ⟨g11,h⟩
   ·exact qT rfl g11 (rn 1 rfl (Af ((by cases h; exact ⟨.inl rfl,rfl⟩))))
   ·refine qF rfl g11 (Ae (hK10 _ (rd (by kernel_rfl) (sd 2 rfl (?_)))))
    obtain ⟨v12,g13,h⟩ := Aa h
    exact ed rfl (qC (qa rfl (erg (erc rfl (erc (erD BB _) (erc (erD An _) rfl)))) Ax) (IX g13) (sd 4 rfl (CK (Af ((by cases h; exact ⟨.inl rfl,rfl⟩))))))
def KY (x : Y43) : List V := [nI x.1,aL FN x.2.1,aL As x.2.2]
theorem V4 (x : Y43) : (KY x).length = 3 := rfl
theorem Lb (x : Y43) : erL (KY x) = Bf x := (erc rfl (erc (erG Cv _) (erc (erG An _) rfl)))
def Mq (x : CA) : List V := [.str x.1,aL As x.2]
theorem Y5 (x : CA) : (Mq x).length = 2 := rfl
theorem N1 (x : CA) : erL (Mq x) = Bc x := (erc rfl (erc (erG An _) rfl))
def E9 (x : Y53) : List V := [nI x.1.1,aL Mq x.1.2.1,aL As x.1.2.2,nI x.2.1,aL FN x.2.2.1,aL As x.2.2.2]
theorem Nb (x : Y53) : (E9 x).length = 6 := rfl
theorem Hl (x : Y53) : erL (E9 x) = AW x := (erc rfl (erc (erG N1 _) (erc (erG An _) (erc rfl (erc (erG Cv _) (erc (erG An _) rfl))))))
theorem RD (x : CA) : AX (Bk x) = true := (dcc rfl (dcc (dco (fun _ => rfl) 3 _) dcn))
theorem Hu (x : Y53) : AX (Ag x) = true := (dcc rfl (dcc (dco RD 146 _) (dcc (dco (fun _ => rfl) 3 _) (dcc rfl (dcc (dco Dd 42 _) (dcc (dco (fun _ => rfl) 3 _) dcn))))))
theorem Vg (x : CA) : E8 (Mq x) = true := (acc rfl (acc (aca (fun _ => rfl) _) rfl))
theorem Hv (x : Y53) : E8 (E9 x) = true := (acc rfl (acc (aca Vg _) (acc (aca (fun _ => rfl) _) (acc rfl (acc (aca F9 _) (acc (aca (fun _ => rfl) _) rfl))))))
theorem FP (x : Y43) : AX (Al x) = true := (dcc rfl (dcc (dco Dd 42 _) (dcc (dco (fun _ => rfl) 3 _) dcn)))
theorem Nq (x : Y43) : E8 (KY x) = true := (acc rfl (acc (aca F9 _) (acc (aca (fun _ => rfl) _) rfl)))
theorem SZ (x : Y43) : BT (Bf x) = true := (bcc rfl (bcc (Gm IV _) (bcc (Gm (fun _ => rfl) _) rfl)))
theorem U1 (x : CA) : BT (Bc x) = true := (bcc rfl (bcc (Gm (fun _ => rfl) _) rfl))
theorem OB (x : Y53) : BT (AW x) = true := (bcc rfl (bcc (Gm U1 _) (bcc (Gm (fun _ => rfl) _) (bcc rfl (bcc (Gm IV _) (bcc (Gm (fun _ => rfl) _) rfl))))))
theorem TN (x : Y43) : IU (Bf x) = KY x := (vcc rfl (vcc (LD I2 _) (vcc (LD (fun _ => rfl) _) rfl)))
theorem V2 (x : CA) : IU (Bc x) = Mq x := (vcc rfl (vcc (LD (fun _ => rfl) _) rfl))
theorem OO (x : Y53) : IU (AW x) = E9 x := (vcc rfl (vcc (LD V2 _) (vcc (LD (fun _ => rfl) _) (vcc rfl (vcc (LD I2 _) (vcc (LD (fun _ => rfl) _) rfl))))))
def Bp (rec : ((List Y53) × (List Y43) × (List Y43) × Int) -> Option (Sum ((List Y53) × (List Y43) × (List Y43)) (Y29 × (List Y43) × Bool))) (a0 : Y29) (y1 : List Y53) (y2 : List Y43) (y3 : List Y43) (y4 : Int) (v20 : Y43 × Bool) (v22 : Y53 × Bool) (v26 : Y43 × Bool) (x30 : Bool) : Option (Sum ((List Y53) × (List Y43) × (List Y43)) (Y29 × (List Y43) × Bool)) := cond x30 (Ad (CS a0) fun v32 => some (.inr (v32,([] : List Y43),false))) (chk (0 < List.length y1) (Ad (AO y1 y4) fun e36 => chk (0 < List.length y2) (Ad (AO y2 y4) fun e40 => chk (List.length y3 + List.length [v20.1] <= lim) (rec ((Jr y1 y4 v22.1),(Jr y2 y4 v26.1),(y3 ++ [v20.1]),(IntKind.i64.wrap (y4 + 1)))))))
def BO (a0 : Y29) (a1 : Y34) (rec : ((List Y53) × (List Y43) × (List Y43) × Int) -> Option (Sum ((List Y53) × (List Y43) × (List Y43)) (Y29 × (List Y43) × Bool))) (s : (List Y53) × (List Y43) × (List Y43) × Int) : Option (Sum ((List Y53) × (List Y43) × (List Y43)) (Y29 × (List Y43) × Bool)) := match s with
  | (y1,y2,y3,y4) => cond (decide (y4 < (List.length a0.2.1 : Int))) (Ad (AO a0.2.1 y4) fun e18 => Ad (FY a0.1 e18.1 a1) fun v20 => Ad (FQ e18 a0.1 a1) fun v22 => Ad (AO a0.2.2 y4) fun e24 => Ad (DY e24 v20.1) fun v26 => cond (!v20.2) (Bp rec a0 y1 y2 y3 y4 v20 v22 v26 true) (cond (!v22.2) (Bp rec a0 y1 y2 y3 y4 v20 v22 v26 true) (Bp rec a0 y1 y2 y3 y4 v20 v22 v26 (!v26.2)))) (some (.inl (y1,y2,y3)))
def Ct (a0 : Y29) (a1 : Y34) (v1 : (List AU) × Bool) (x5 : Bool) : Option (Y29 × (List Y43) × Bool) := cond x5 (Ad (CS a0) fun v7 => some (v7,([] : List Y43),false)) (Ad (CS a0) fun v9 => Ad (Ao (BO a0 a1) fz (v9.2.1,v9.2.2,([] : List Y43),0)) fun o2 => (match o2 with
  | .inl (z12,z13,z14) => (some ((v1.1,z12,z13),z14,true))
  | .inr r => some r))
def CN (a0 : Y29) (a1 : Y34) : Option (Y29 × (List Y43) × Bool) := Ad (Fa a0.1 a1) fun v1 => Ad (Cr a0) fun v45 => cond (!v45) (Ct a0 a1 v1 true) (Ct a0 a1 v1 (!v1.2))
theorem Jz {a0 : Y29} {a1 : Y34} {r : Y29 × (List Y43) × Bool} (h : CN a0 a1 = some r) : Ai Tryz.prog 7 [.agg (Bx a0),.agg (Gc a1)] (.tup [.agg (Aw r.1),oL 44 Al r.2.1,.bool r.2.2]) := by
 unfold CN at h
 refine sta pJ rfl (SN (bcc (Gm Ng _) (bcc (Gm OB _) (bcc (Gm SZ _) rfl))) (SN (bcc rfl (bcc rfl (bcc (Gm IV _) (bcc rfl (bcc (Gm IV _) rfl))))) rfl)) (mvv (vag (vcc (LD NT _) (vcc (LD OO _) (vcc (LD TN _) rfl)))) (mvv (vag (vcc rfl (vcc rfl (vcc (LD I2 _) (vcc rfl (vcc (LD I2 _) rfl)))))) rfl)) (dcc (dag (dcc (dco G5 123 _) (dcc (dco Hu 54 _) (dcc (dco FP 44 _) dcn)))) (dcc (dco FP 44 _) (dcc rfl dcn))) (rn 1 rfl (rs (sp 3 rfl (?_))))
 obtain ⟨v1,g2,h⟩ := Aa h
 refine qC (qa rfl (erg (erc (erG DH _) rfl)) (qa rfl (erg (erc rfl (erc rfl (erc (erG Cv _) (erc rfl (erc (erG Cv _) rfl)))))) Ax)) (KH g2) (sp 6 rfl (evn (Ac fun K3 hK3 => rk fun K4 hK4 => ?_)))
 have kJ1 : ∀ {x5 : Bool},Ct a0 a1 v1 x5 = some r -> Jn K4 [(2,.box [aL F7 a0.1,aL E9 a0.2.1,aL KY a0.2.2]),(3,.box [.str a1.1,nI a1.2.1.1,aL FN a1.2.1.2,nI a1.2.2.1,aL FN a1.2.2.2]),(4,.box [oL 123 Ak [],oL 54 Ag [],oL 44 Al []]),(7,.box [oL 123 Ak v1.1]),(32,.bool x5)] := by
  intro x5 h σ' hk
  unfold Ct at h
  refine hK4 _ (lh hk rfl ?_)
  rcases Ab h with ⟨g6,h⟩ | ⟨g6,h⟩
  ·refine qT rfl g6 (rs (sp 1 rfl (?_)))
   obtain ⟨v7,g8,h⟩ := Aa h
   exact qC (qa rfl (erg (erc (erG DH _) (erc (erG Hl _) (erc (erG Lb _) rfl)))) Ax) (Hm g8) (sp 3 rfl (evn (Af ((by cases h; exact ⟨.inl rfl,rfl⟩)))))
  ·refine qF rfl g6 (Ae (hK3 _ (rs (sp 1 rfl (?_)))))
   obtain ⟨v9,g10,h⟩ := Aa h
   refine qC (qa rfl (erg (erc (erG DH _) (erc (erG Hl _) (erc (erG Lb _) rfl)))) Ax) (Hm g10) (sp 2 rfl (evn (rn 2 rfl (Ac fun K11 hK11 => rn 1 rfl ?_))))
   obtain ⟨o2,hl,hr2⟩ := Aa h
   have kXB2 : ∀ {z12 : List Y53} {z13 : List Y43} {z14 : List Y43},(.inl (z12,z13,z14)) = o2 -> Jn K11 [(4,.box [oL 123 Ak [],oL 54 Ag [],oL 44 Al []]),(9,.box [oL 123 Ak v1.1,oL 54 Ag z12,oL 44 Al z13]),(10,oL 44 Al z14)] := by
    intro z12 z13 z14 h σ' hk
    subst h
    replace h := hr2
    try dsimp only at h
    exact hK11 _ (lh hk rfl (rn 1 rfl (Af ((by cases h; exact ⟨.inl rfl,rfl⟩)))))
   refine AB (fun (s : (List Y53) × (List Y43) × (List Y43) × Int) => match s with | (y1,y2,y3,y4) => [(2,.box [aL F7 a0.1,aL E9 a0.2.1,aL KY a0.2.2]),(3,.box [.str a1.1,nI a1.2.1.1,aL FN a1.2.1.2,nI a1.2.2.1,aL FN a1.2.2.2]),(4,.box [oL 123 Ak [],oL 54 Ag [],oL 44 Al []]),(9,.box [oL 123 Ak v1.1,oL 54 Ag y1,oL 44 Al y2]),(10,oL 44 Al y3),(40,aL E9 a0.2.1),(41,nI (List.length a0.2.1 : Int)),(42,nI y4)]) _ _ _ _ hl (okr rfl) (fun _ => rfl) ?_
   rintro m ⟨y1,y2,y3,y4⟩ N h hN
   unfold BO at h
   dsimp only at h
   refine rn 1 rfl (Ac fun K15 hK15 => ?_)
   rcases Ab h with ⟨g16,h⟩ | ⟨g16,h⟩
   ·refine qT rfl g16 (Ae (hK15 _ (Ac fun K17 hK17 => Az (rs (sp 1 rfl (?_))))))
    obtain ⟨e18,g19,h⟩ := Aa h
    refine qI rfl Nb g19 (sp 4 rfl (evn (rs (sp 5 rfl (?_)))))
    obtain ⟨v20,g21,h⟩ := Aa h
    refine qC (qa rfl (erg (erc (erG DH _) rfl)) (qa rfl (erg (erc rfl (erc (erG N1 _) (erc (erG An _) rfl)))) (qa rfl (erg (erc rfl (erc rfl (erc (erG Cv _) (erc rfl (erc (erG Cv _) rfl)))))) Ax))) (Lq g21) (sp 6 rfl (evn (rs (sp 4 rfl (?_)))))
    obtain ⟨v22,g23,h⟩ := Aa h
    refine qC (qa rfl (erg (erc rfl (erc (erG N1 _) (erc (erG An _) (erc rfl (erc (erG Cv _) (erc (erG An _) rfl))))))) (qa rfl (erg (erc (erG DH _) rfl)) (qa rfl (erg (erc rfl (erc rfl (erc (erG Cv _) (erc rfl (erc (erG Cv _) rfl)))))) Ax))) (Ns g23) (sp 6 rfl (evn (qk [2,3,4,9,10,11,13,14,15,16,40,41,42] rfl (rd (by kernel_rfl) (sd 3 rfl (?_))))))
    obtain ⟨e24,g25,h⟩ := Aa h
    refine ed rfl (qI rfl V4 g25 (sd 2 rfl (?_)))
    obtain ⟨v26,g27,h⟩ := Aa h
    refine ed rfl (qC (qa rfl (erg (erc rfl (erc (erG Cv _) (erc (erG An _) rfl)))) (qa rfl (erg (erc rfl (erc (erD A3 _) (erc (erD An _) rfl)))) Ax)) (H5 g27) (sd 6 rfl (CK (Ac fun K28 hK28 => rk fun K29 hK29 => ?_))))
    have kJ3 : ∀ {x30 : Bool},Bp (Ao (BO a0 a1) m) a0 y1 y2 y3 y4 v20 v22 v26 x30 = some o2 -> Jn K29 [(2,.box [aL F7 a0.1,aL E9 a0.2.1,aL KY a0.2.2]),(3,.box [.str a1.1,nI a1.2.1.1,aL FN a1.2.1.2,nI a1.2.2.1,aL FN a1.2.2.2]),(4,.box [oL 123 Ak [],oL 54 Ag [],oL 44 Al []]),(9,.box [oL 123 Ak v1.1,oL 54 Ag y1,oL 44 Al y2]),(10,oL 44 Al y3),(11,nI y4),(13,.box [nI v20.1.1,oL 42 Ah v20.1.2.1,oL 3 As v20.1.2.2]),(15,.box [nI v22.1.1.1,oL 146 Bk v22.1.1.2.1,oL 3 As v22.1.1.2.2,nI v22.1.2.1,oL 42 Ah v22.1.2.2.1,oL 3 As v22.1.2.2.2]),(17,.box [nI v26.1.1,oL 42 Ah v26.1.2.1,oL 3 As v26.1.2.2]),(40,aL E9 a0.2.1),(41,nI (List.length a0.2.1 : Int)),(42,nI y4),(83,.bool x30)] := by
     intro x30 h σ' hk
     unfold Bp at h
     refine hK29 _ (lh hk rfl ?_)
     rcases Ab h with ⟨g31,h⟩ | ⟨g31,h⟩
     ·refine qT rfl g31 (rs (sp 1 rfl (?_)))
      obtain ⟨v32,g33,h⟩ := Aa h
      exact qC (qa rfl (erg (erc (erG DH _) (erc (erG Hl _) (erc (erG Lb _) rfl)))) Ax) (Hm g33) (sp 3 rfl (evn (Af ((by cases h; cases hr2; exact ⟨.inl rfl,rfl⟩)))))
     ·refine qF rfl g31 (Ae (hK28 _ (qk [2,3,4,9,10,11,13,15,17,40,41,42] rfl ?_)))
      obtain ⟨g34,h⟩ := Aj h
      refine J1 (gLb (q := 900003) (b := 9) [oL 123 Ak v1.1] [oL 44 Al y2] rfl rfl rfl g34 ?_)
      intro gg35 mm35
      refine qk [2,3,4,9,10,11,13,15,17,40,41,42,900003] rfl (rs (sp 4 rfl (?_)))
      obtain ⟨e36,g37,h⟩ := Aa h
      refine qIt rfl rfl rfl rfl g37 (?_)
      refine qSt (y0 := e36) (i := y4) (es := 6) 0 v22.1 [2,3,4,9,10,11,13,17,40,41,42] rfl rfl rfl rfl rfl rfl rfl rfl rfl rfl Cn g37 (fun x => sdL (Hu x)) (sdL (dcc rfl (dcc (dco RD 146 _) (dcc (dco (fun _ => rfl) 3 _) (dcc rfl (dcc (dco Dd 42 _) (dcc (dco (fun _ => rfl) 3 _) dcn))))))) (yc (snc (sA (aca KE _)) (snc (sA (aca Hv _)) (snc (sA (aca Nq _)) rfl))) (yc (snc rfl (snc rfl (snc (sA (aca F9 _)) (snc rfl (snc (sA (aca F9 _)) rfl))))) (yc (snc rfl (snc rfl (snc rfl rfl))) (yc (snc (sO (dco G5 123 _)) (snc rfl (snc (sO (dco FP 44 _)) rfl))) (yc (sdL (dcf FP _)) (yc rfl (yc (snc rfl (snc (sO (dco Dd 42 _)) (snc (sO (dco (fun _ => rfl) 3 _)) rfl))) (yc (snc rfl (snc (sO (dco Dd 42 _)) (snc (sO (dco (fun _ => rfl) 3 _)) rfl))) (yc (acf Hv _) (yc rfl (yc rfl yn))))))))))) (?_)
      refine evn (J1 (gDb (q := 900003) (b := 9) [oL 123 Ak v1.1] [oL 44 Al y2] rfl rfl rfl (sl rfl) (qk [2,3,4,9,10,11,13,17,40,41,42] rfl (qk [2,3,4,9,10,11,13,17,40,41,42] rfl ?_))))
      obtain ⟨g38,h⟩ := Aj h
      refine J1 (gLb (q := 900003) (b := 9) [oL 123 Ak v1.1,oL 54 Ag (Jr y1 y4 v22.1)] [] rfl rfl rfl g38 ?_)
      intro gg39 mm39
      refine qk [2,3,4,9,10,11,13,17,40,41,42,900003] rfl (rs (sp 4 rfl (?_)))
      obtain ⟨e40,g41,h⟩ := Aa h
      refine qIt rfl rfl rfl rfl g41 (?_)
      refine qSt (y0 := e40) (i := y4) (es := 3) 0 v26.1 [2,3,4,9,10,13,40,41,42] rfl rfl rfl rfl rfl rfl rfl rfl rfl rfl ES g41 (fun x => sdL (FP x)) (sdL (dcc rfl (dcc (dco Dd 42 _) (dcc (dco (fun _ => rfl) 3 _) dcn)))) (yc (snc (sA (aca KE _)) (snc (sA (aca Hv _)) (snc (sA (aca Nq _)) rfl))) (yc (snc rfl (snc rfl (snc (sA (aca F9 _)) (snc rfl (snc (sA (aca F9 _)) rfl))))) (yc (snc rfl (snc rfl (snc rfl rfl))) (yc (snc (sO (dco G5 123 _)) (snc (sO (dco Hu 54 _)) (snc rfl rfl))) (yc (sdL (dcf FP _)) (yc (snc rfl (snc (sO (dco Dd 42 _)) (snc (sO (dco (fun _ => rfl) 3 _)) rfl))) (yc (acf Hv _) (yc rfl (yc rfl yn))))))))) (?_)
      refine evn (J1 (gDb (q := 900003) (b := 9) [oL 123 Ak v1.1,oL 54 Ag (Jr y1 y4 v22.1)] [] rfl rfl rfl (sl rfl) (qk [2,3,4,9,10,13,40,41,42] rfl (rg (sp 2 rfl (qBs Al [v20.1] rfl rfl rfl ES (?_)))))))
      obtain ⟨g42,h⟩ := Aj h
      exact qA Al y3 [v20.1] rfl rfl (Av ES [v20.1]) rfl g42 (sp 1 rfl (evn (hK17 _ (rg (sp 2 rfl (evn (hN _ _ h (okr rfl))))))))
    refine sp 3 rfl (?_)
    rcases Ab h with ⟨g43,h⟩ | ⟨g43,h⟩
    ·exact qg 76 g43 rfl (sp 7 rfl (evn (kJ3 h _ (okr rfl))))
    ·refine qg 76 g43 rfl (sp 4 rfl (?_))
     rcases Ab h with ⟨g44,h⟩ | ⟨g44,h⟩
     ·exact qg 80 g44 rfl (sp 3 rfl (evn (kJ3 h _ (okr rfl))))
     ·exact qg 80 g44 rfl (sp 3 rfl (evn (kJ3 h _ (okr rfl))))
   ·exact qF rfl g16 (Aq (kXB2 (Option.some.inj h) _ (okr rfl)))
 refine sp 1 rfl (?_)
 obtain ⟨v45,g46,h⟩ := Aa h
 refine qC (qa rfl (erg (erc (erG DH _) (erc (erG Hl _) (erc (erG Lb _) rfl)))) Ax) (Ly g46) (sp 2 rfl (?_))
 rcases Ab h with ⟨g47,h⟩ | ⟨g47,h⟩
 ·exact qg 29 g47 rfl (sp 3 rfl (evn (kJ1 h _ (okr rfl))))
 ·exact qg 29 g47 rfl (sp 3 rfl (evn (kJ1 h _ (okr rfl))))
def D9 (a0 : List Int) (a1 : List Int) (rec : Int -> Option (Sum (Unit) (Int))) (y1 : Int) : Option (Sum (Unit) (Int)) := cond (decide (y1 < (List.length a0 : Int))) (cond (decide (y1 < (List.length a1 : Int))) (Ad (AO a0 y1) fun e7 => Ad (AO a1 y1) fun e9 => cond (decide (e7 < e9)) (some (.inr (-1))) (Ad (AO a0 y1) fun e12 => Ad (AO a1 y1) fun e14 => cond (decide (e14 < e12)) (some (.inr 1)) (rec (IntKind.i64.wrap (y1 + 1))))) (some (.inl ()))) (some (.inl ()))
def Bm (a0 : List Int) (a1 : List Int) : Option (Int) := Ad (Ao (D9 a0 a1) fz 0) fun o1 => (match o1 with
  | .inl _ => (cond (decide ((List.length a0 : Int) < (List.length a1 : Int))) (some (-1)) (cond (decide ((List.length a1 : Int) < (List.length a0 : Int))) (some 1) (some 0)))
  | .inr r => some r)
theorem Cj {a0 : List Int} {a1 : List Int} {r : Int} (h : Bm a0 a1 = some r) : Ai Tryz.prog 55 [dL As a0,dL As a1] (nI r) := by
 unfold Bm at h
 refine st nv rfl (rn 1 rfl (Ac fun K1 hK1 => rn 1 rfl ?_))
 obtain ⟨o1,hl,hr1⟩ := Aa h
 have kXB1 : (.inl ()) = o1 -> Jn K1 [(0,dL As a0),(1,dL As a1)] := by
  intro h σ' hk
  subst h
  replace h := hr1
  try dsimp only at h
  refine hK1 _ (lh hk rfl (Ac fun K17 hK17 => rn 1 rfl ?_))
  rcases Ab h with ⟨g18,h⟩ | ⟨g18,h⟩
  ·exact qT rfl g18 (rn 1 rfl (Af ((by cases h; exact ⟨.inl rfl,rfl⟩))))
  ·refine qF rfl g18 (Ae (hK17 _ (Ac fun K19 hK19 => rn 1 rfl ?_)))
   rcases Ab h with ⟨g20,h⟩ | ⟨g20,h⟩
   ·exact qT rfl g20 (rn 1 rfl (Af ((by cases h; exact ⟨.inl rfl,rfl⟩))))
   ·exact qF rfl g20 (Ae (hK19 _ (rn 1 rfl (Af ((by cases h; exact ⟨.inl rfl,rfl⟩))))))
 refine AB (fun (y1 : Int) => [(0,dL As a0),(1,dL As a1),(5,nI y1)]) _ _ _ _ hl (okr rfl) (fun _ => rfl) ?_
 rintro m y1 N h hN
 unfold D9 at h
 refine Ac fun K2 hK2 => rs (sp 5 rfl (?_))
 rcases Ab h with ⟨g3,h⟩ | ⟨g3,h⟩
 ·refine qg 10 g3 rfl (sp 5 rfl (evn ?_))
  rcases Ab h with ⟨g4,h⟩ | ⟨g4,h⟩
  ·refine qT rfl g4 (Ae (hK2 _ (Ac fun K5 hK5 => Az (Ac fun K6 hK6 => rd (by kernel_rfl) (sd 2 rfl (?_))))))
   obtain ⟨e7,g8,h⟩ := Aa h
   refine ed rfl (qI rfl AM g8 (sd 3 rfl (?_)))
   obtain ⟨e9,g10,h⟩ := Aa h
   refine ed rfl (qI rfl AM g10 (sd 2 rfl (CK ?_)))
   rcases Ab h with ⟨g11,h⟩ | ⟨g11,h⟩
   ·exact qT rfl g11 (rn 1 rfl (Af ((by cases h; cases hr1; exact ⟨.inl rfl,rfl⟩))))
   ·refine qF rfl g11 (Ae (hK6 _ (rd (by kernel_rfl) (sd 2 rfl (?_)))))
    obtain ⟨e12,g13,h⟩ := Aa h
    refine ed rfl (qI rfl AM g13 (sd 3 rfl (?_)))
    obtain ⟨e14,g15,h⟩ := Aa h
    refine ed rfl (qI rfl AM g15 (sd 2 rfl (CK (qk [0,1,5,35] rfl ?_))))
    rcases Ab h with ⟨g16,h⟩ | ⟨g16,h⟩
    ·exact qT rfl g16 (rn 1 rfl (Af ((by cases h; cases hr1; exact ⟨.inl rfl,rfl⟩))))
    ·exact qF rfl g16 (Ae (hK5 _ (rg (sp 3 rfl (evn (hN _ _ h (okr rfl)))))))
  ·exact qF rfl g4 (Aq (kXB1 (Option.some.inj h) _ (okr rfl)))
 ·exact qg 10 g3 rfl (sp 5 rfl (evn (qF rfl rfl (Aq (kXB1 (Option.some.inj h) _ (okr rfl))))))
def El (a0 : Y32) (a1 : Y32) (rec : Int -> Option (Sum (Unit) (Bool))) (y1 : Int) : Option (Sum (Unit) (Bool)) := cond (decide (y1 < (List.length a0.2 : Int))) (Ad (AO a0.2 y1) fun e8 => Ad (AO a1.2 y1) fun e10 => Ad (Bm e8 e10) fun v12 => cond (v12 != 0) (some (.inr false)) (rec (IntKind.i64.wrap (y1 + 1)))) (some (.inl ()))
def Ea (a0 : Y32) (a1 : Y32) : Option (Bool) := cond (a0.1 != a1.1) (some false) (cond ((List.length a0.2 : Int) != (List.length a1.2 : Int)) (some false) (Ad (Ao (El a0 a1) fz 0) fun o1 => (match o1 with
  | .inl _ => (some true)
  | .inr r => some r)))
theorem L7 {a0 : Y32} {a1 : Y32} {r : Bool} (h : Ea a0 a1 = some r) : Ai Tryz.prog 16 [.agg (Gs a0),.agg (Gs a1)] (.bool r) := by
 unfold Ea at h
 refine st mS rfl (rn 1 rfl (Ac fun K1 hK1 => rs (sp 6 rfl (?_))))
 rcases Ab h with ⟨g2,h⟩ | ⟨g2,h⟩
 ·exact qg 11 g2 rfl (sp 8 rfl (evn (qT rfl rfl (rn 1 rfl (Af ((by cases h; exact ⟨.inl rfl,rfl⟩)))))))
 ·refine qg 11 g2 rfl (sp 8 rfl (evn ?_))
  rcases Ab h with ⟨g3,h⟩ | ⟨g3,h⟩
  ·exact qT rfl g3 (rn 1 rfl (qk [4] rfl (Af ((by cases h; exact ⟨.inl rfl,rfl⟩)))))
  ·refine qF rfl g3 (Ae (hK1 _ (Ac fun K4 hK4 => rn 1 rfl ?_)))
   obtain ⟨o1,hl,hr1⟩ := Aa h
   have kXB1 : (.inl ()) = o1 -> Jn K4 [] := by
    intro h σ' hk
    subst h
    replace h := hr1
    try dsimp only at h
    exact hK4 _ (lh hk rfl (rn 1 rfl (Af ((by cases h; exact ⟨.inl rfl,rfl⟩)))))
   refine AB (fun (y1 : Int) => [(2,.box [nI a0.1,dL AJ a0.2]),(3,.box [nI a1.1,dL AJ a1.2]),(5,nI y1)]) _ _ _ _ hl (okr rfl) (fun _ => rfl) ?_
   rintro m y1 N h hN
   unfold El at h
   refine Ac fun K5 hK5 => rn 1 rfl ?_
   rcases Ab h with ⟨g6,h⟩ | ⟨g6,h⟩
   ·refine qT rfl g6 (Ae (hK5 _ (Ac fun K7 hK7 => Az (rd (by kernel_rfl) (sd 3 rfl (?_))))))
    obtain ⟨e8,g9,h⟩ := Aa h
    refine ed rfl (qI rfl Br g9 (sd 4 rfl (?_)))
    obtain ⟨e10,g11,h⟩ := Aa h
    refine ed rfl (qI rfl Br g11 (sd 1 rfl (?_)))
    obtain ⟨v12,g13,h⟩ := Aa h
    refine ed rfl (qC (qa rfl (erD An _) (qa rfl (erD An _) Ax)) (Cj g13) (sd 1 rfl (CK ?_)))
    rcases Ab h with ⟨g14,h⟩ | ⟨g14,h⟩
    ·exact qT rfl g14 (rn 1 rfl (Af ((by cases h; cases hr1; exact ⟨.inl rfl,rfl⟩))))
    ·exact qF rfl g14 (Ae (hK7 _ (rg (sp 3 rfl (evn (hN _ _ h (okr rfl)))))))
   ·exact qF rfl g6 (Aq (kXB1 (Option.some.inj h) _ trivial))
def Cu (x2 : Bool) : Option (Bool) := some x2
def DV (a0 : Y43) (a1 : Y43) : Option (Bool) := cond (a0.1 == a1.1) (Ad (Ea (0,a0.2.1) (0,a1.2.1)) fun v4 => cond v4 (Ad (Bm a0.2.2 a1.2.2) fun v7 => Cu (v7 == 0)) (Cu false)) (Cu false)
theorem JV {a0 : Y43} {a1 : Y43} {r : Bool} (h : DV a0 a1 = some r) : Ai Tryz.prog 15 [.agg (Bf a0),.agg (Bf a1)] (.bool r) := by
 unfold DV at h
 refine st mR rfl (rn 1 rfl (rk fun K1 hK1 => ?_))
 have kJ1 : ∀ {x2 : Bool},Cu x2 = some r -> Jn K1 [(4,.bool x2)] := by
  intro x2 h σ' hk
  unfold Cu at h
  exact hK1 _ (lh hk rfl (Af ((by cases h; exact ⟨.inl rfl,rfl⟩))))
 refine sp 6 rfl (?_)
 rcases Ab h with ⟨g3,h⟩ | ⟨g3,h⟩
 ·refine qg 10 g3 rfl (sp 6 rfl (?_))
  obtain ⟨v4,g5,h⟩ := Aa h
  refine oGR rfl rfl (qC (qa rfl (erg (erc rfl (erc (erD Ar _) rfl))) (qa rfl (erg (erc rfl (erc (erD Ar _) rfl))) Ax)) (L7 g5) (sp 2 rfl (?_)))
  rcases Ab h with ⟨g6,h⟩ | ⟨g6,h⟩
  ·refine qg 19 g6 rfl (sp 4 rfl (?_))
   obtain ⟨v7,g8,h⟩ := Aa h
   exact oGR rfl rfl (qC (qa rfl (erD An _) (qa rfl (erD An _) Ax)) (Cj g8) (sp 3 rfl (evn (kJ1 h _ (okr rfl)))))
  ·exact qg 19 g6 rfl (sp 8 rfl (evn (kJ1 h _ (okr rfl))))
 ·exact qg 10 g3 rfl (sp 17 rfl (evn (kJ1 h _ (okr rfl))))
def IR (x2 : Bool) : Option (Bool) := some x2
def EP (a0 : Int) (a1 : Int) (a2 : Int) : Option (Bool) := cond (decide (a1 <= a0)) (IR (decide (a0 <= a2))) (IR false)
theorem E0 {a0 : Int} {a1 : Int} {a2 : Int} {r : Bool} (h : EP a0 a1 a2 = some r) : Ai Tryz.prog 117 [nI a0,nI a1,nI a2] (.bool r) := by
 unfold EP at h
 refine st ip rfl (rn 1 rfl (rk fun K1 hK1 => ?_))
 have kJ1 : ∀ {x2 : Bool},IR x2 = some r -> Jn K1 [(6,.bool x2)] := by
  intro x2 h σ' hk
  unfold IR at h
  exact hK1 _ (lh hk rfl (Af ((by cases h; exact ⟨.inl rfl,rfl⟩))))
 refine sp 4 rfl (?_)
 rcases Ab h with ⟨g3,h⟩ | ⟨g3,h⟩
 ·exact qg 10 g3 rfl (sp 5 rfl (evn (kJ1 h _ (okr rfl))))
 ·exact qg 10 g3 rfl (sp 5 rfl (evn (kJ1 h _ (okr rfl))))
def FF (a0 : List UInt8) (rec : Int -> Option (Sum (Unit) (Bool))) (y1 : Int) : Option (Sum (Unit) (Bool)) := cond (decide (y1 < (List.length a0 : Int))) (Ad (AO a0 y1) fun b5 => cond (decide ((UInt8.toNat b5 : Int) < 97)) (some (.inr false)) (Ad (AO a0 y1) fun b8 => cond (decide (122 < (UInt8.toNat b8 : Int))) (some (.inr false)) (rec (IntKind.i64.wrap (y1 + 1))))) (some (.inl ()))
def Ex (a0 : List UInt8) : Option (Bool) := Ad (Ao (FF a0) fz 0) fun o1 => (match o1 with
  | .inl _ => (Ad (EP (List.length a0 : Int) 1 4) fun v11 => some v11)
  | .inr r => some r)
theorem Ki {a0 : List UInt8} {r : Bool} (h : Ex a0 = some r) : Ai Tryz.prog 115 [.str a0] (.bool r) := by
 unfold Ex at h
 refine st im rfl (rn 1 rfl (Ac fun K1 hK1 => rn 1 rfl ?_))
 obtain ⟨o1,hl,hr1⟩ := Aa h
 have kXB1 : (.inl ()) = o1 -> Jn K1 [(0,.str a0)] := by
  intro h σ' hk
  subst h
  replace h := hr1
  try dsimp only at h
  refine hK1 _ (lh hk rfl (rs (sp 2 rfl (?_))))
  obtain ⟨v11,g12,h⟩ := Aa h
  exact qC (qs rfl (qs rfl (qs rfl Ax))) (E0 g12) (sp 1 rfl (evn (Af ((by cases h; exact ⟨.inl rfl,rfl⟩)))))
 refine AB (fun (y1 : Int) => [(0,.str a0),(3,nI y1)]) _ _ _ _ hl (okr rfl) (fun _ => rfl) ?_
 rintro m y1 N h hN
 unfold FF at h
 refine Ac fun K2 hK2 => rn 1 rfl ?_
 rcases Ab h with ⟨g3,h⟩ | ⟨g3,h⟩
 ·refine qT rfl g3 (Ae (hK2 _ (Ac fun K4 hK4 => Az (rs (sp 2 rfl (?_))))))
  obtain ⟨b5,g6,h⟩ := Aa h
  refine qX rfl g6 (sp 2 rfl (?_))
  rcases Ab h with ⟨g7,h⟩ | ⟨g7,h⟩
  ·exact qg 14 g7 rfl (sp 5 rfl (evn (qT rfl rfl (rn 1 rfl (Af ((by cases h; cases hr1; exact ⟨.inl rfl,rfl⟩)))))))
  ·refine qg 14 g7 rfl (sp 2 rfl (?_))
   obtain ⟨b8,g9,h⟩ := Aa h
   refine oGR rfl rfl (qX rfl g9 (sp 2 rfl (evn ?_)))
   rcases Ab h with ⟨g10,h⟩ | ⟨g10,h⟩
   ·exact qT rfl g10 (rn 1 rfl (qk [2] rfl (Af ((by cases h; cases hr1; exact ⟨.inl rfl,rfl⟩)))))
   ·exact qF rfl g10 (Ae (hK4 _ (rg (sp 3 rfl (evn (hN _ _ h (okr rfl)))))))
 ·exact qF rfl g3 (Aq (kXB1 (Option.some.inj h) _ (okr rfl)))
def Ek (a0 : List Int) (rec : Int -> Option (Sum (Unit) (Bool))) (y1 : Int) : Option (Sum (Unit) (Bool)) := cond (decide (y1 < (List.length a0 : Int))) (Ad (AO a0 y1) fun e5 => Ad (EP e5 0 99) fun v7 => cond (!v7) (some (.inr false)) (rec (IntKind.i64.wrap (y1 + 1)))) (some (.inl ()))
def CZ (a0 : List Int) : Option (Bool) := Ad (Ao (Ek a0) fz 0) fun o1 => (match o1 with
  | .inl _ => (some true)
  | .inr r => some r)
theorem IQ {a0 : List Int} {r : Bool} (h : CZ a0 = some r) : Ai Tryz.prog 146 [dL As a0] (.bool r) := by
 unfold CZ at h
 refine st iN rfl (rn 1 rfl (Ac fun K1 hK1 => rn 1 rfl ?_))
 obtain ⟨o1,hl,hr1⟩ := Aa h
 have kXB1 : (.inl ()) = o1 -> Jn K1 [] := by
  intro h σ' hk
  subst h
  replace h := hr1
  try dsimp only at h
  exact hK1 _ (lh hk rfl (rn 1 rfl (Af ((by cases h; exact ⟨.inl rfl,rfl⟩)))))
 refine AB (fun (y1 : Int) => [(0,dL As a0),(3,nI y1)]) _ _ _ _ hl (okr rfl) (fun _ => rfl) ?_
 rintro m y1 N h hN
 unfold Ek at h
 refine Ac fun K2 hK2 => rn 1 rfl ?_
 rcases Ab h with ⟨g3,h⟩ | ⟨g3,h⟩
 ·refine qT rfl g3 (Ae (hK2 _ (Ac fun K4 hK4 => Az (rs (sp 2 rfl (?_))))))
  obtain ⟨e5,g6,h⟩ := Aa h
  refine qI rfl AM g6 (sp 1 rfl (?_))
  obtain ⟨v7,g8,h⟩ := Aa h
  refine qC (qs rfl (qs rfl (qs rfl Ax))) (E0 g8) (sp 1 rfl (evn ?_))
  rcases Ab h with ⟨g9,h⟩ | ⟨g9,h⟩
  ·exact qT rfl g9 (rn 1 rfl (Af ((by cases h; cases hr1; exact ⟨.inl rfl,rfl⟩))))
  ·exact qF rfl g9 (Ae (hK4 _ (rg (sp 3 rfl (evn (hN _ _ h (okr rfl)))))))
 ·exact qF rfl g3 (Aq (kXB1 (Option.some.inj h) _ trivial))
def Bh (rec : Int -> Option (Sum (Unit) (Bool))) (y1 : Int) (x11 : Bool) : Option (Sum (Unit) (Bool)) := cond x11 (some (.inr false)) (rec (IntKind.i64.wrap (y1 + 1)))
def Cm (a0 : Y32) (rec : Int -> Option (Sum (Unit) (Bool))) (y1 : Int) : Option (Sum (Unit) (Bool)) := cond (decide (y1 < (List.length a0.2 : Int))) (Ad (AO a0.2 y1) fun e13 => cond ((List.length e13 : Int) != a0.1) (Bh rec y1 true) (Ad (AO a0.2 y1) fun e16 => Ad (CZ e16) fun v18 => cond (!v18) (Bh rec y1 true) (cond (decide (0 < y1)) (Ad (AO a0.2 (IntKind.i64.wrap (y1 - 1))) fun e22 => Ad (AO a0.2 y1) fun e24 => Ad (Bm e22 e24) fun v26 => Bh rec y1 (decide (0 <= v26))) (Bh rec y1 false)))) (some (.inl ()))
def AK (a0 : Y32) : Option (Bool) := Ad (EP a0.1 0 5) fun v2 => cond (!v2) (some false) (cond (decide (4000 < (List.length a0.2 : Int))) (some false) (Ad (Ao (Cm a0) fz 0) fun o1 => (match o1 with
  | .inl _ => (some true)
  | .inr r => some r)))
theorem AT {a0 : Y32} {r : Bool} (h : AK a0 = some r) : Ai Tryz.prog 116 [.agg (Gs a0)] (.bool r) := by
 unfold AK at h
 refine st io rfl (rn 1 rfl (Ac fun K1 hK1 => rs (sp 2 rfl (?_))))
 obtain ⟨v2,g3,h⟩ := Aa h
 refine qC (qs rfl (qs rfl (qs rfl Ax))) (E0 g3) (sp 2 rfl (?_))
 rcases Ab h with ⟨g4,h⟩ | ⟨g4,h⟩
 ·exact qg 8 g4 rfl (sp 5 rfl (evn (qT rfl rfl (rn 1 rfl (Af ((by cases h; exact ⟨.inl rfl,rfl⟩)))))))
 ·refine qg 8 g4 rfl (sp 5 rfl (evn ?_))
  rcases Ab h with ⟨g5,h⟩ | ⟨g5,h⟩
  ·exact qT rfl g5 (rn 1 rfl (Af ((by cases h; exact ⟨.inl rfl,rfl⟩))))
  ·refine qF rfl g5 (Ae (hK1 _ (qk [1] rfl (Ac fun K6 hK6 => rn 1 rfl ?_))))
   obtain ⟨o1,hl,hr1⟩ := Aa h
   have kXB1 : (.inl ()) = o1 -> Jn K6 [] := by
    intro h σ' hk
    subst h
    replace h := hr1
    try dsimp only at h
    exact hK6 _ (lh hk rfl (rn 1 rfl (Af ((by cases h; exact ⟨.inl rfl,rfl⟩)))))
   refine AB (fun (y1 : Int) => [(1,.box [nI a0.1,dL AJ a0.2]),(3,nI y1)]) _ _ _ _ hl (okr rfl) (fun _ => rfl) ?_
   rintro m y1 N h hN
   unfold Cm at h
   refine Ac fun K7 hK7 => rn 1 rfl ?_
   rcases Ab h with ⟨g8,h⟩ | ⟨g8,h⟩
   ·refine qT rfl g8 (Ae (hK7 _ (Ac fun K9 hK9 => Az (rdk (by kernel_rfl) fun K10 hK10 => ?_))))
    have kJ2 : ∀ {x11 : Bool},Bh (Ao (Cm a0) m) y1 x11 = some o1 -> Jn K10 [(1,.box [nI a0.1,dL AJ a0.2]),(3,nI y1),(57,.bool x11)] := by
     intro x11 h σ' hk
     unfold Bh at h
     refine hK10 _ (lh hk rfl ?_)
     rcases Ab h with ⟨g12,h⟩ | ⟨g12,h⟩
     ·exact qT rfl g12 (rn 1 rfl (Af ((by cases h; cases hr1; exact ⟨.inl rfl,rfl⟩))))
     ·exact qF rfl g12 (Ae (hK9 _ (rg (sp 3 rfl (evn (hN _ _ h (okr rfl)))))))
    refine sd 3 rfl (?_)
    obtain ⟨e13,g14,h⟩ := Aa h
    refine ed rfl (qI rfl Br g14 (sd 6 rfl (?_)))
    rcases Ab h with ⟨g15,h⟩ | ⟨g15,h⟩
    ·exact qgd 30 g15 rfl (sd 27 rfl (CK (kJ2 h _ (okr rfl))))
    ·refine qgd 30 g15 rfl (sd 3 rfl (?_))
     obtain ⟨e16,g17,h⟩ := Aa h
     refine ed rfl (oGR rfl rfl (qI rfl Br g17 (sd 1 rfl (?_))))
     obtain ⟨v18,g19,h⟩ := Aa h
     refine ed rfl (oGR rfl rfl (qC (qa rfl (erD An _) Ax) (IQ g19) (sd 3 rfl (?_))))
     rcases Ab h with ⟨g20,h⟩ | ⟨g20,h⟩
     ·exact qgd 39 g20 rfl (sd 18 rfl (CK (kJ2 h _ (okr rfl))))
     ·refine qgd 39 g20 rfl (sd 3 rfl (?_))
      rcases Ab h with ⟨g21,h⟩ | ⟨g21,h⟩
      ·refine qgd 42 g21 rfl (sd 4 rfl (?_))
       obtain ⟨e22,g23,h⟩ := Aa h
       refine ed rfl (oGR rfl rfl (qI rfl Br g23 (sd 4 rfl (?_))))
       obtain ⟨e24,g25,h⟩ := Aa h
       refine ed rfl (oGR rfl rfl (qI rfl Br g25 (sd 1 rfl (?_))))
       obtain ⟨v26,g27,h⟩ := Aa h
       exact ed rfl (oGR rfl rfl (qC (qa rfl (erD An _) (qa rfl (erD An _) Ax)) (Cj g27) (sd 3 rfl (CK (kJ2 h _ (okr rfl))))))
      ·exact qgd 42 g21 rfl (sd 15 rfl (CK (kJ2 h _ (okr rfl))))
   ·exact qF rfl g8 (Aq (kXB1 (Option.some.inj h) _ trivial))
def AQ (rec : Int -> Option (Sum (Unit) (Bool))) (y1 : Int) (x8 : Bool) : Option (Sum (Unit) (Bool)) := cond x8 (some (.inr false)) (rec (IntKind.i64.wrap (y1 + 1)))
def Cl (a0 : List AU) (rec : Int -> Option (Sum (Unit) (Bool))) (y1 : Int) : Option (Sum (Unit) (Bool)) := cond (decide (y1 < (List.length a0 : Int))) (Ad (AO a0 y1) fun e5 => Ad (Ex e5.1) fun v10 => cond (!v10) (AQ rec y1 true) (cond (decide (0 < y1)) (Ad (AO a0 (IntKind.i64.wrap (y1 - 1))) fun e14 => cond (!Op.bytesLess e14.1 e5.1) (AQ rec y1 true) (Ad (AK e5.2) fun v17 => cond (!v17) (AQ rec y1 true) (cond (decide (16 < (List.length e5.2.2 : Int))) (AQ rec y1 true) (AQ rec y1 (decide (e5.2.1 < 1)))))) (Ad (AK e5.2) fun v21 => cond (!v21) (AQ rec y1 true) (cond (decide (16 < (List.length e5.2.2 : Int))) (AQ rec y1 true) (AQ rec y1 (decide (e5.2.1 < 1))))))) (some (.inl ()))
def Bb (a0 : List AU) : Option (Bool) := Ad (Ao (Cl a0) fz 0) fun o1 => (match o1 with
  | .inl _ => (some (decide ((List.length a0 : Int) <= 6)))
  | .inr r => some r)
theorem CI {a0 : List AU} {r : Bool} (h : Bb a0 = some r) : Ai Tryz.prog 44 [.agg [dL At a0]] (.bool r) := by
 unfold Bb at h
 refine st nk rfl (rn 1 rfl (Ac fun K1 hK1 => rn 1 rfl ?_))
 obtain ⟨o1,hl,hr1⟩ := Aa h
 have kXB1 : (.inl ()) = o1 -> Jn K1 [(1,.box [dL At a0])] := by
  intro h σ' hk
  subst h
  replace h := hr1
  try dsimp only at h
  exact hK1 _ (lh hk rfl (rn 1 rfl (Af ((by cases h; exact ⟨.inl rfl,rfl⟩)))))
 refine AB (fun (y1 : Int) => [(1,.box [dL At a0]),(3,nI y1)]) _ _ _ _ hl (okr rfl) (fun _ => rfl) ?_
 rintro m y1 N h hN
 unfold Cl at h
 refine Ac fun K2 hK2 => rn 1 rfl ?_
 rcases Ab h with ⟨g3,h⟩ | ⟨g3,h⟩
 ·refine qT rfl g3 (Ae (hK2 _ (Ac fun K4 hK4 => Az (rs (sp 3 rfl (?_))))))
  obtain ⟨e5,g6,h⟩ := Aa h
  refine qI rfl Cz g6 (sp 3 rfl (evn (rdk (by kernel_rfl) fun K7 hK7 => ?_)))
  have kJ2 : ∀ {x8 : Bool},AQ (Ao (Cl a0) m) y1 x8 = some o1 -> Jn K7 [(1,.box [dL At a0]),(3,nI y1),(55,.bool x8)] := by
   intro x8 h σ' hk
   unfold AQ at h
   refine hK7 _ (lh hk rfl ?_)
   rcases Ab h with ⟨g9,h⟩ | ⟨g9,h⟩
   ·exact qT rfl g9 (rn 1 rfl (Af ((by cases h; cases hr1; exact ⟨.inl rfl,rfl⟩))))
   ·exact qF rfl g9 (Ae (hK4 _ (rg (sp 3 rfl (evn (hN _ _ h (okr rfl)))))))
  refine sd 2 rfl (?_)
  obtain ⟨v10,g11,h⟩ := Aa h
  refine ed rfl (qC (qs rfl Ax) (Ki g11) (sd 2 rfl (?_)))
  rcases Ab h with ⟨g12,h⟩ | ⟨g12,h⟩
  ·exact qgd 21 g12 rfl (sd 34 rfl (CK (kJ2 h _ (okr rfl))))
  ·refine qgd 21 g12 rfl (sd 3 rfl (?_))
   rcases Ab h with ⟨g13,h⟩ | ⟨g13,h⟩
   ·refine qgd 24 g13 rfl (sd 4 rfl (?_))
    obtain ⟨e14,g15,h⟩ := Aa h
    refine ed rfl (oGR rfl rfl (qI rfl Cz g15 (sd 8 rfl (?_))))
    rcases Ab h with ⟨g16,h⟩ | ⟨g16,h⟩
    ·exact qgd 37 g16 rfl (sd 18 rfl (CK (kJ2 h _ (okr rfl))))
    ·refine qgd 37 g16 rfl (sd 2 rfl (?_))
     obtain ⟨v17,g18,h⟩ := Aa h
     refine ed rfl (oGR rfl rfl (qC (qa rfl (erg (erc rfl (erc (erD Ar _) rfl))) Ax) (AT g18) (sd 3 rfl (?_))))
     rcases Ab h with ⟨g19,h⟩ | ⟨g19,h⟩
     ·exact qgd 43 g19 rfl (sd 12 rfl (CK (kJ2 h _ (okr rfl))))
     ·refine qgd 43 g19 rfl (sd 7 rfl (?_))
      rcases Ab h with ⟨g20,h⟩ | ⟨g20,h⟩
      ·exact qgd 50 g20 rfl (sd 5 rfl (CK (kJ2 h _ (okr rfl))))
      ·exact qgd 50 g20 rfl (sd 5 rfl (CK (kJ2 h _ (okr rfl))))
   ·refine qgd 24 g13 rfl (sd 15 rfl (?_))
    obtain ⟨v21,g22,h⟩ := Aa h
    refine ed rfl (oGR rfl rfl (qC (qa rfl (erg (erc rfl (erc (erD Ar _) rfl))) Ax) (AT g22) (sd 3 rfl (?_))))
    rcases Ab h with ⟨g23,h⟩ | ⟨g23,h⟩
    ·exact qgd 43 g23 rfl (sd 12 rfl (CK (kJ2 h _ (okr rfl))))
    ·refine qgd 43 g23 rfl (sd 7 rfl (?_))
     rcases Ab h with ⟨g24,h⟩ | ⟨g24,h⟩
     ·exact qgd 50 g24 rfl (sd 5 rfl (CK (kJ2 h _ (okr rfl))))
     ·exact qgd 50 g24 rfl (sd 5 rfl (CK (kJ2 h _ (okr rfl))))
 ·exact qF rfl g3 (Aq (kXB1 (Option.some.inj h) _ (okr rfl)))
def Ir (a0 : Y32) (rec : ((List (List Int)) × Int) -> Option ((List (List Int)))) (s : (List (List Int)) × Int) : Option ((List (List Int))) := match s with
  | (y1,y2) => cond (decide (y2 < (List.length a0.2 : Int))) (Ad (AO a0.2 y2) fun e6 => chk (List.length ([] : List Int) + List.length e6 <= lim) (chk (List.length y1 + List.length ([([] : List Int) ++ e6]) <= lim) (rec ((y1 ++ ([([] : List Int) ++ e6])),(IntKind.i64.wrap (y2 + 1)))))) (some y1)
def FI (a0 : Y32) : Option (Y32) := Ad (Ao (Ir a0) fz (([] : List (List Int)),0)) fun z2 => some (a0.1,z2)
theorem HY {a0 : Y32} {r : Y32} (h : FI a0 = some r) : Ai Tryz.prog 145 [.agg (Gs a0)] (.agg (Ez r)) := by
 unfold FI at h
 refine st iM rfl (rn 2 rfl (Ac fun K1 hK1 => rn 1 rfl ?_))
 obtain ⟨o1,hl,hr1⟩ := Aa h
 have kXB1 : ∀ {z2 : List (List Int)},z2 = o1 -> Jn K1 [(2,.box [nI 0,oL 42 Ah []]),(3,.box [nI a0.1,oL 42 Ah z2])] := by
  intro z2 h σ' hk
  subst h
  replace h := hr1
  try dsimp only at h
  exact hK1 _ (lh hk rfl (rn 1 rfl (Af ((by cases h; exact ⟨.inl rfl,rfl⟩)))))
 refine AB (fun (s : (List (List Int)) × Int) => match s with | (y1,y2) => [(1,.box [nI a0.1,dL AJ a0.2]),(2,.box [nI 0,oL 42 Ah []]),(3,.box [nI a0.1,oL 42 Ah y1]),(4,nI y2)]) _ _ _ _ hl (okr rfl) (fun _ => rfl) ?_
 rintro m ⟨y1,y2⟩ N h hN
 unfold Ir at h
 dsimp only at h
 refine Ac fun K3 hK3 => rn 1 rfl ?_
 rcases Ab h with ⟨g4,h⟩ | ⟨g4,h⟩
 ·refine qT rfl g4 (Ae (hK3 _ (Ac fun K5 hK5 => Az (rgd (by kernel_rfl) (sd 2 rfl (ed rfl (qBs As [] rfl rfl rfl AM (sd 3 rfl (?_)))))))))
  obtain ⟨e6,g7,h⟩ := Aa h
  refine ed rfl (qI rfl Br g7 (sd 1 rfl (?_)))
  obtain ⟨g8,h⟩ := Aj h
  refine ed rfl (qA As ([] : List Int) e6 rfl rfl (Av AM e6) (HQ (fun _ => rfl) _) g8 (ed rfl (qBs Ah [([] : List Int) ++ e6] rfl rfl rfl A8 (?_))))
  obtain ⟨g9,h⟩ := Aj h
  exact ed rfl (qA Ah y1 ([([] : List Int) ++ e6]) rfl rfl (Av A8 ([([] : List Int) ++ e6])) rfl g9 (sd 2 rfl (CK (hK5 _ (rg (sp 3 rfl (evn (hN _ _ h (okr rfl)))))))))
 ·exact qF rfl g4 (Aq (kXB1 (Option.some.inj h) _ (okr rfl)))
def Bw (a0 : List AU) (a1 : List UInt8) (rec : Int -> Option (Sum (Unit) (Y32 × Bool))) (y1 : Int) : Option (Sum (Unit) (Y32 × Bool)) := cond (decide (y1 < (List.length a0 : Int))) (Ad (Bb a0) fun v4 => cond v4 (Ad (AO a0 y1) fun e8 => cond (e8.1 == a1) (Ad (AO a0 y1) fun e11 => Ad (FI e11.2) fun v13 => some (.inr (v13,true))) (rec (IntKind.i64.wrap (y1 + 1)))) (some (.inl ()))) (some (.inl ()))
def Bi (a0 : List AU) (a1 : List UInt8) : Option (Y32 × Bool) := Ad (Ao (Bw a0 a1) fz 0) fun o1 => (match o1 with
  | .inl _ => (some ((0,[]),false))
  | .inr r => some r)
theorem Dl {a0 : List AU} {a1 : List UInt8} {r : Y32 × Bool} (h : Bi a0 a1 = some r) : Ai Tryz.prog 105 [.agg [dL At a0],.str a1] (.tup [.agg (Ez r.1),.bool r.2]) := by
 unfold Bi at h
 refine st hZ rfl (rn 1 rfl (Ac fun K1 hK1 => rn 1 rfl ?_))
 obtain ⟨o1,hl,hr1⟩ := Aa h
 have kXB1 : (.inl ()) = o1 -> Jn K1 [(4,.box [nI 0,oL 42 Ah []])] := by
  intro h σ' hk
  subst h
  replace h := hr1
  try dsimp only at h
  exact hK1 _ (lh hk rfl (rn 1 rfl (Af ((by cases h; exact ⟨.inl rfl,rfl⟩)))))
 refine AB (fun (y1 : Int) => [(1,.str a1),(2,.box [dL At a0]),(4,.box [nI 0,oL 42 Ah []]),(6,nI y1)]) _ _ _ _ hl (okr rfl) (fun _ => rfl) ?_
 rintro m y1 N h hN
 unfold Bw at h
 refine Ac fun K2 hK2 => rs (sp 6 rfl (?_))
 rcases Ab h with ⟨g3,h⟩ | ⟨g3,h⟩
 ·refine qg 12 g3 rfl (sp 1 rfl (?_))
  obtain ⟨v4,g5,h⟩ := Aa h
  refine oGR rfl rfl (qC (qa rfl (erg (erc (erD AH _) rfl)) Ax) (CI g5) (sp 1 rfl (evn ?_)))
  rcases Ab h with ⟨g6,h⟩ | ⟨g6,h⟩
  ·refine qT rfl g6 (Ae (hK2 _ (Ac fun K7 hK7 => Az (rs (sp 3 rfl (?_))))))
   obtain ⟨e8,g9,h⟩ := Aa h
   refine qI rfl Cz g9 (sp 4 rfl (evn ?_))
   rcases Ab h with ⟨g10,h⟩ | ⟨g10,h⟩
   ·refine qT rfl g10 (rs (sp 3 rfl (?_)))
    obtain ⟨e11,g12,h⟩ := Aa h
    refine qI rfl Cz g12 (sp 2 rfl (?_))
    obtain ⟨v13,g14,h⟩ := Aa h
    exact qC (qa rfl (erg (erc rfl (erc (erD Ar _) rfl))) Ax) (HY g14) (sp 2 rfl (evn (Af ((by cases h; cases hr1; exact ⟨.inl rfl,rfl⟩)))))
   ·exact qF rfl g10 (Ae (hK7 _ (qk [1,2,4,6] rfl (rg (sp 3 rfl (evn (hN _ _ h (okr rfl))))))))
  ·exact qF rfl g6 (Aq (kXB1 (Option.some.inj h) _ (okr rfl)))
 ·exact qg 12 g3 rfl (sp 3 rfl (evn (qF rfl rfl (Aq (kXB1 (Option.some.inj h) _ (okr rfl))))))
def Du (a0 : CA) (a1 : Int) (rec : Int -> Option (Sum (Unit) (Bool))) (y1 : Int) : Option (Sum (Unit) (Bool)) := cond (decide (y1 < (List.length a0.2 : Int))) (Ad (AO a0.2 y1) fun e5 => cond (e5 == a1) (some (.inr true)) (rec (IntKind.i64.wrap (y1 + 1)))) (some (.inl ()))
def Dk (a0 : CA) (a1 : Int) : Option (Bool) := Ad (Ao (Du a0 a1) fz 0) fun o1 => (match o1 with
  | .inl _ => (some false)
  | .inr r => some r)
theorem Ll {a0 : CA} {a1 : Int} {r : Bool} (h : Dk a0 a1 = some r) : Ai Tryz.prog 163 [.agg (Bc a0),nI a1] (.bool r) := by
 unfold Dk at h
 refine st jd rfl (rn 1 rfl (Ac fun K1 hK1 => rn 1 rfl ?_))
 obtain ⟨o1,hl,hr1⟩ := Aa h
 have kXB1 : (.inl ()) = o1 -> Jn K1 [] := by
  intro h σ' hk
  subst h
  replace h := hr1
  try dsimp only at h
  exact hK1 _ (lh hk rfl (rn 1 rfl (Af ((by cases h; exact ⟨.inl rfl,rfl⟩)))))
 refine AB (fun (y1 : Int) => [(1,nI a1),(2,.box [.str a0.1,dL As a0.2]),(5,nI y1)]) _ _ _ _ hl (okr rfl) (fun _ => rfl) ?_
 rintro m y1 N h hN
 unfold Du at h
 refine Ac fun K2 hK2 => rn 1 rfl ?_
 rcases Ab h with ⟨g3,h⟩ | ⟨g3,h⟩
 ·refine qT rfl g3 (Ae (hK2 _ (Ac fun K4 hK4 => Az (rs (sp 3 rfl (?_))))))
  obtain ⟨e5,g6,h⟩ := Aa h
  refine qI rfl AM g6 (sp 3 rfl (evn ?_))
  rcases Ab h with ⟨g7,h⟩ | ⟨g7,h⟩
  ·exact qT rfl g7 (rn 1 rfl (Af ((by cases h; cases hr1; exact ⟨.inl rfl,rfl⟩))))
  ·exact qF rfl g7 (Ae (hK4 _ (rg (sp 3 rfl (evn (hN _ _ h (okr rfl)))))))
 ·exact qF rfl g3 (Aq (kXB1 (Option.some.inj h) _ trivial))
def Iu (a0 : List Int) (a1 : Int) (rec : Int -> Option (Sum (Unit) (Int))) (y1 : Int) : Option (Sum (Unit) (Int)) := cond (decide (y1 < (List.length a0 : Int))) (Ad (AO a0 y1) fun e5 => cond (e5 == a1) (some (.inr y1)) (rec (IntKind.i64.wrap (y1 + 1)))) (some (.inl ()))
def JX (a0 : List Int) (a1 : Int) : Option (Int) := Ad (Ao (Iu a0 a1) fz 0) fun o1 => (match o1 with
  | .inl _ => (some (-1))
  | .inr r => some r)
theorem Sy {a0 : List Int} {a1 : Int} {r : Int} (h : JX a0 a1 = some r) : Ai Tryz.prog 164 [dL As a0,nI a1] (nI r) := by
 unfold JX at h
 refine st je rfl (rn 1 rfl (Ac fun K1 hK1 => rn 1 rfl ?_))
 obtain ⟨o1,hl,hr1⟩ := Aa h
 have kXB1 : (.inl ()) = o1 -> Jn K1 [] := by
  intro h σ' hk
  subst h
  replace h := hr1
  try dsimp only at h
  exact hK1 _ (lh hk rfl (rn 1 rfl (Af ((by cases h; exact ⟨.inl rfl,rfl⟩)))))
 refine AB (fun (y1 : Int) => [(0,dL As a0),(1,nI a1),(5,nI y1)]) _ _ _ _ hl (okr rfl) (fun _ => rfl) ?_
 rintro m y1 N h hN
 unfold Iu at h
 refine Ac fun K2 hK2 => rn 1 rfl ?_
 rcases Ab h with ⟨g3,h⟩ | ⟨g3,h⟩
 ·refine qT rfl g3 (Ae (hK2 _ (Ac fun K4 hK4 => Az (rs (sp 2 rfl (?_))))))
  obtain ⟨e5,g6,h⟩ := Aa h
  refine qI rfl AM g6 (sp 3 rfl (evn ?_))
  rcases Ab h with ⟨g7,h⟩ | ⟨g7,h⟩
  ·exact qT rfl g7 (rn 1 rfl (Af ((by cases h; cases hr1; exact ⟨.inl rfl,rfl⟩))))
  ·exact qF rfl g7 (Ae (hK4 _ (rg (sp 3 rfl (evn (hN _ _ h (okr rfl)))))))
 ·exact qF rfl g3 (Aq (kXB1 (Option.some.inj h) _ trivial))
def E7 (a0 : Y51) (y2 : Int) (rec : Int -> Option (Sum (Unit) (Bool))) (y4 : Int) : Option (Sum (Unit) (Bool)) := Ad (AO a0.2.1 y2) fun e25 => cond (decide (y4 < (List.length e25.2 : Int))) (Ad (AO a0.2.1 y2) fun e29 => Ad (AO e29.2 y4) fun e31 => Ad (EP e31 0 (IntKind.i64.wrap (a0.1 - 1))) fun v33 => cond (!v33) (some (.inr false)) (rec (IntKind.i64.wrap (y4 + 1)))) (some (.inl ()))
def DC (a0 : Y51) (rec : Int -> Option (Sum (Unit) (Bool))) (y2 : Int) : Option (Sum (Unit) (Bool)) := cond (decide (y2 < (List.length a0.2.1 : Int))) (Ad (AO a0.2.1 y2) fun e14 => Ad (Ex e14.1) fun v16 => cond (!v16) (some (.inr false)) (Ad (AO a0.2.1 y2) fun e19 => Ad (EP (List.length e19.2 : Int) 1 5) fun v21 => cond (!v21) (some (.inr false)) (Ad (Ao (E7 a0 y2) fz 0) fun o2 => (match o2 with
  | .inl _ => (rec (IntKind.i64.wrap (y2 + 1)))
  | .inr r => some (.inr r))))) (some (.inl ()))
def DF (rec : (Bool × Int) -> Option (Bool)) (y11 : Int) (x45 : Bool) : Option (Bool) := rec (x45,(IntKind.i64.wrap (y11 + 1)))
def BQ (a0 : Y51) (y7 : Int) (rec : (Bool × Int) -> Option (Bool)) (s : Bool × Int) : Option (Bool) := match s with
  | (y10,y11) => cond (decide (y11 < (List.length a0.2.1 : Int))) (cond y10 (DF rec y11 true) (Ad (AO a0.2.1 y11) fun e47 => Ad (Dk e47 y7) fun v49 => DF rec y11 v49)) (some y10)
def DD (a0 : Y51) (rec : Int -> Option (Sum (Unit) (Bool))) (y7 : Int) : Option (Sum (Unit) (Bool)) := cond (decide (y7 < a0.1)) (Ad (Ao (BQ a0 y7) fz (false,0)) fun z41 => cond (!z41) (some (.inr false)) (rec (IntKind.i64.wrap (y7 + 1)))) (some (.inl ()))
def DE (a0 : Y51) (rec : Int -> Option (Sum (Unit) (Bool))) (y12 : Int) : Option (Sum (Unit) (Bool)) := cond (decide (y12 < (List.length a0.2.2 : Int))) (Ad (AO a0.2.2 y12) fun e56 => Ad (EP e56 0 (IntKind.i64.wrap (a0.1 - 1))) fun v58 => cond (!v58) (some (.inr false)) (chk ((0 : Int) <= 0 ∧ 0 <= y12 ∧ y12 <= (List.length a0.2.2 : Int)) (Ad (AO a0.2.2 y12) fun e62 => Ad (JX (Ey a0.2.2 0 y12) e62) fun v64 => cond (decide (0 <= v64)) (some (.inr false)) (rec (IntKind.i64.wrap (y12 + 1)))))) (some (.inl ()))
def Fo (a0 : Y51) : Option (Bool) := Ad (EP a0.1 1 5) fun v2 => cond (!v2) (some false) (Ad (EP (List.length a0.2.1 : Int) 1 4) fun v5 => cond (!v5) (some false) (cond (decide (a0.1 < (List.length a0.2.2 : Int))) (some false) (Ad (Ao (DC a0) fz 0) fun o1 => (match o1 with
  | .inl _ => (Ad (Ao (DD a0) fz 0) fun o3 => (match o3 with
  | .inl _ => (Ad (Ao (DE a0) fz 0) fun o6 => (match o6 with
  | .inl _ => (some true)
  | .inr r => some r))
  | .inr r => some r))
  | .inr r => some r))))
theorem M1 {a0 : Y51} {r : Bool} (h : Fo a0 = some r) : Ai Tryz.prog 122 [.agg (Gt a0)] (.bool r) := by
 unfold Fo at h
 refine st iv rfl (rn 1 rfl (Ac fun K1 hK1 => rs (sp 2 rfl (?_))))
 obtain ⟨v2,g3,h⟩ := Aa h
 refine qC (qs rfl (qs rfl (qs rfl Ax))) (E0 g3) (sp 2 rfl (?_))
 rcases Ab h with ⟨g4,h⟩ | ⟨g4,h⟩
 ·exact qg 13 g4 rfl (sp 14 rfl (evn (qT rfl rfl (rn 1 rfl (Af ((by cases h; exact ⟨.inl rfl,rfl⟩)))))))
 ·refine qg 13 g4 rfl (sp 3 rfl (?_))
  obtain ⟨v5,g6,h⟩ := Aa h
  refine oGR rfl rfl (qC (qs rfl (qs rfl (qs rfl Ax))) (E0 g6) (sp 3 rfl (?_)))
  rcases Ab h with ⟨g7,h⟩ | ⟨g7,h⟩
  ·exact qg 20 g7 rfl (sp 7 rfl (evn (qk [1,27] rfl (qT rfl rfl (rn 1 rfl (Af ((by cases h; exact ⟨.inl rfl,rfl⟩))))))))
  ·refine qg 20 g7 rfl (sp 7 rfl (evn ?_))
   rcases Ab h with ⟨g8,h⟩ | ⟨g8,h⟩
   ·exact qT rfl g8 (rn 1 rfl (Af ((by cases h; exact ⟨.inl rfl,rfl⟩))))
   ·refine qF rfl g8 (Ae (hK1 _ (Ac fun K9 hK9 => rn 1 rfl ?_)))
    obtain ⟨o1,hl,hr1⟩ := Aa h
    have kXB1 : (.inl ()) = o1 -> Jn K9 [(1,.box [nI a0.1,dL Bc a0.2.1,dL As a0.2.2])] := by
     intro h σ' hk
     subst h
     replace h := hr1
     try dsimp only at h
     refine hK9 _ (lh hk rfl (Ac fun K36 hK36 => rn 1 rfl ?_))
     obtain ⟨o3,hl,hr3⟩ := Aa h
     have kXB3 : (.inl ()) = o3 -> Jn K36 [(1,.box [nI a0.1,dL Bc a0.2.1,dL As a0.2.2])] := by
      intro h σ' hk
      subst h
      replace h := hr3
      try dsimp only at h
      refine hK36 _ (lh hk rfl (Ac fun K52 hK52 => rn 1 rfl ?_))
      obtain ⟨o6,hl,hr6⟩ := Aa h
      have kXB6 : (.inl ()) = o6 -> Jn K52 [] := by
       intro h σ' hk
       subst h
       replace h := hr6
       try dsimp only at h
       exact hK52 _ (lh hk rfl (rn 1 rfl (Af ((by cases h; exact ⟨.inl rfl,rfl⟩)))))
      refine AB (fun (y12 : Int) => [(1,.box [nI a0.1,dL Bc a0.2.1,dL As a0.2.2]),(8,nI y12)]) _ _ _ _ hl (okr rfl) (fun _ => rfl) ?_
      rintro m y12 N h hN
      unfold DE at h
      refine Ac fun K53 hK53 => rn 1 rfl ?_
      rcases Ab h with ⟨g54,h⟩ | ⟨g54,h⟩
      ·refine qT rfl g54 (Ae (hK53 _ (Ac fun K55 hK55 => Az (rd (by kernel_rfl) (sd 3 rfl (?_))))))
       obtain ⟨e56,g57,h⟩ := Aa h
       refine ed rfl (qI rfl AM g57 (sd 4 rfl (?_)))
       obtain ⟨v58,g59,h⟩ := Aa h
       refine ed rfl (qC (qs rfl (qs rfl (qs rfl Ax))) (E0 g59) (sd 2 rfl (?_)))
       rcases Ab h with ⟨g60,h⟩ | ⟨g60,h⟩
       ·exact qgd 121 g60 rfl (sd 12 rfl (CK (qT rfl rfl (rn 1 rfl (qk [2] rfl (Af ((by cases h; cases hr6; exact ⟨.inl rfl,rfl⟩))))))))
       ·refine qgd 121 g60 rfl (sd 3 rfl (?_))
        obtain ⟨g61,h⟩ := Aj h
        refine ed rfl (oGR rfl rfl (qSl rfl AM g61 (sd 3 rfl (?_))))
        obtain ⟨e62,g63,h⟩ := Aa h
        refine ed rfl (oGR rfl rfl (qI rfl AM g63 (sd 1 rfl (?_))))
        obtain ⟨v64,g65,h⟩ := Aa h
        refine ed rfl (oGR rfl rfl (qC (qa rfl (erD An _) (qs rfl Ax)) (Sy g65) (sd 2 rfl (CK ?_))))
        rcases Ab h with ⟨g66,h⟩ | ⟨g66,h⟩
        ·exact qT rfl g66 (rn 1 rfl (Af ((by cases h; cases hr6; exact ⟨.inl rfl,rfl⟩))))
        ·exact qF rfl g66 (Ae (hK55 _ (rg (sp 3 rfl (evn (hN _ _ h (okr rfl)))))))
      ·exact qF rfl g54 (Aq (kXB6 (Option.some.inj h) _ trivial))
     refine AB (fun (y7 : Int) => [(1,.box [nI a0.1,dL Bc a0.2.1,dL As a0.2.2]),(5,nI y7)]) _ _ _ _ hl (okr rfl) (fun _ => rfl) ?_
     rintro m y7 N h hN
     unfold DD at h
     refine Ac fun K37 hK37 => rn 1 rfl ?_
     rcases Ab h with ⟨g38,h⟩ | ⟨g38,h⟩
     ·refine qT rfl g38 (Ae (hK37 _ (Ac fun K39 hK39 => Az (rn 1 rfl (Ac fun K40 hK40 => rn 1 rfl ?_)))))
      obtain ⟨o4,hl,hr4⟩ := Aa h
      have kXB4 : ∀ {z41 : Bool},z41 = o4 -> Jn K40 [(1,.box [nI a0.1,dL Bc a0.2.1,dL As a0.2.2]),(5,nI y7),(6,.bool z41)] := by
       intro z41 h σ' hk
       subst h
       replace h := hr4
       try dsimp only at h
       refine hK40 _ (lh hk rfl (rn 1 rfl ?_))
       rcases Ab h with ⟨g51,h⟩ | ⟨g51,h⟩
       ·exact qT rfl g51 (rn 1 rfl (Af ((by cases h; cases hr3; exact ⟨.inl rfl,rfl⟩))))
       ·exact qF rfl g51 (Ae (hK39 _ (rg (sp 3 rfl (evn (hN _ _ h (okr rfl)))))))
      refine AB (fun (s : Bool × Int) => match s with | (y10,y11) => [(1,.box [nI a0.1,dL Bc a0.2.1,dL As a0.2.2]),(5,nI y7),(6,.bool y10),(7,nI y11)]) _ _ _ _ hl (okr rfl) (fun _ => rfl) ?_
      rintro m ⟨y10,y11⟩ N h hN
      unfold BQ at h
      dsimp only at h
      refine Ac fun K42 hK42 => rn 1 rfl ?_
      rcases Ab h with ⟨g43,h⟩ | ⟨g43,h⟩
      ·refine qT rfl g43 (Ae (hK42 _ (Ac fun K44 hK44 => Az ?_)))
       have kJ5 : ∀ {x45 : Bool},DF (Ao (BQ a0 y7) m) y11 x45 = some o4 -> Jn K44 [(1,.box [nI a0.1,dL Bc a0.2.1,dL As a0.2.2]),(5,nI y7),(6,.bool x45),(7,nI y11)] := by
        intro x45 h σ' hk
        unfold DF at h
        exact hK44 _ (lh hk rfl (rg (sp 3 rfl (evn (hN _ _ h (okr rfl))))))
       refine rg (sp 2 rfl (?_))
       rcases Ab h with ⟨g46,h⟩ | ⟨g46,h⟩
       ·exact qg 93 g46 rfl (sp 9 rfl (evn (kJ5 h _ (okr rfl))))
       ·refine qg 93 g46 rfl (sp 3 rfl (?_))
        obtain ⟨e47,g48,h⟩ := Aa h
        refine oGR rfl rfl (qI rfl GN g48 (sp 2 rfl (?_)))
        obtain ⟨v49,g50,h⟩ := Aa h
        exact oGR rfl rfl (qC (qa rfl (erg (erc rfl (erc (erD An _) rfl))) (qs rfl Ax)) (Ll g50) (sp 2 rfl (evn (kJ5 h _ (okr rfl)))))
      ·exact qF rfl g43 (Aq (kXB4 (Option.some.inj h) _ (okr rfl)))
     ·exact qF rfl g38 (Aq (kXB3 (Option.some.inj h) _ (okr rfl)))
    refine AB (fun (y2 : Int) => [(1,.box [nI a0.1,dL Bc a0.2.1,dL As a0.2.2]),(3,nI y2)]) _ _ _ _ hl (okr rfl) (fun _ => rfl) ?_
    rintro m y2 N h hN
    unfold DC at h
    refine Ac fun K10 hK10 => rn 1 rfl ?_
    rcases Ab h with ⟨g11,h⟩ | ⟨g11,h⟩
    ·refine qT rfl g11 (Ae (hK10 _ (Ac fun K12 hK12 => Az (Ac fun K13 hK13 => rs (sp 3 rfl (?_))))))
     obtain ⟨e14,g15,h⟩ := Aa h
     refine qI rfl GN g15 (sp 2 rfl (?_))
     obtain ⟨v16,g17,h⟩ := Aa h
     refine qC (qs rfl Ax) (Ki g17) (sp 2 rfl (?_))
     rcases Ab h with ⟨g18,h⟩ | ⟨g18,h⟩
     ·exact qg 43 g18 rfl (sp 10 rfl (evn (qT rfl rfl (rn 1 rfl (Af ((by cases h; cases hr1; exact ⟨.inl rfl,rfl⟩)))))))
     ·refine qg 43 g18 rfl (sp 3 rfl (?_))
      obtain ⟨e19,g20,h⟩ := Aa h
      refine oGR rfl rfl (qI rfl GN g20 (sp 3 rfl (?_)))
      obtain ⟨v21,g22,h⟩ := Aa h
      refine oGR rfl rfl (qC (qs rfl (qs rfl (qs rfl Ax))) (E0 g22) (sp 2 rfl (evn (qk [1,3,53] rfl ?_))))
      rcases Ab h with ⟨g23,h⟩ | ⟨g23,h⟩
      ·exact qT rfl g23 (rn 1 rfl (Af ((by cases h; cases hr1; exact ⟨.inl rfl,rfl⟩))))
      ·refine qF rfl g23 (Ae (hK13 _ (rn 1 rfl ?_)))
       obtain ⟨o2,hl,hr2⟩ := Aa h
       have kXB2 : (.inl ()) = o2 -> Jn K12 [(1,.box [nI a0.1,dL Bc a0.2.1,dL As a0.2.2]),(3,nI y2)] := by
        intro h σ' hk
        subst h
        replace h := hr2
        try dsimp only at h
        exact hK12 _ (lh hk rfl (rg (sp 3 rfl (evn (hN _ _ h (okr rfl))))))
       refine AB (fun (y4 : Int) => [(1,.box [nI a0.1,dL Bc a0.2.1,dL As a0.2.2]),(3,nI y2),(4,nI y4)]) _ _ _ _ hl (okr rfl) (fun _ => rfl) ?_
       rintro m y4 N h hN
       unfold E7 at h
       refine Ac fun K24 hK24 => rs (sp 4 rfl (?_))
       obtain ⟨e25,g26,h⟩ := Aa h
       refine qI rfl GN g26 (sp 4 rfl (evn ?_))
       rcases Ab h with ⟨g27,h⟩ | ⟨g27,h⟩
       ·refine qT rfl g27 (Ae (hK24 _ (Ac fun K28 hK28 => Az (rd (by kernel_rfl) (sd 3 rfl (?_))))))
        obtain ⟨e29,g30,h⟩ := Aa h
        refine ed rfl (qI rfl GN g30 (sd 3 rfl (?_)))
        obtain ⟨e31,g32,h⟩ := Aa h
        refine ed rfl (qI rfl AM g32 (sd 4 rfl (?_)))
        obtain ⟨v33,g34,h⟩ := Aa h
        refine ed rfl (qC (qs rfl (qs rfl (qs rfl Ax))) (E0 g34) (sd 1 rfl (CK ?_)))
        rcases Ab h with ⟨g35,h⟩ | ⟨g35,h⟩
        ·exact qT rfl g35 (rn 1 rfl (Af ((by cases h; cases hr2; cases hr1; exact ⟨.inl rfl,rfl⟩))))
        ·exact qF rfl g35 (Ae (hK28 _ (qk [1,3,4] rfl (rg (sp 3 rfl (evn (hN _ _ h (okr rfl))))))))
       ·exact qF rfl g27 (Aq (kXB2 (Option.some.inj h) _ (okr rfl)))
    ·exact qF rfl g11 (Aq (kXB1 (Option.some.inj h) _ (okr rfl)))
def Gl (a0 : List AU) (a1 : Y51) (rec : Int -> Option (Sum (Unit) (Bool))) (y1 : Int) : Option (Sum (Unit) (Bool)) := cond (decide (y1 < (List.length a1.2.1 : Int))) (Ad (AO a1.2.1 y1) fun e5 => Ad (Bi a0 e5.1) fun v7 => cond (!v7.2) (some (.inr false)) (Ad (AO a1.2.1 y1) fun e10 => cond (v7.1.1 != (List.length e10.2 : Int)) (some (.inr false)) (rec (IntKind.i64.wrap (y1 + 1))))) (some (.inl ()))
def EM (x14 : Bool) : Option (Bool) := some x14
def Fn (a0 : List AU) (a1 : Y51) : Option (Bool) := Ad (Ao (Gl a0 a1) fz 0) fun o1 => (match o1 with
  | .inl _ => (Ad (Fo a1) fun v15 => cond v15 (Ad (Bb a0) fun v18 => EM v18) (EM false))
  | .inr r => some r)
theorem KR {a0 : List AU} {a1 : Y51} {r : Bool} (h : Fn a0 a1 = some r) : Ai Tryz.prog 53 [.agg [dL At a0],.agg (Gt a1)] (.bool r) := by
 unfold Fn at h
 refine st nu rfl (rn 1 rfl (Ac fun K1 hK1 => rn 1 rfl ?_))
 obtain ⟨o1,hl,hr1⟩ := Aa h
 have kXB1 : (.inl ()) = o1 -> Jn K1 [(2,.box [dL At a0]),(3,.box [nI a1.1,dL Bc a1.2.1,dL As a1.2.2])] := by
  intro h σ' hk
  subst h
  replace h := hr1
  try dsimp only at h
  refine hK1 _ (lh hk rfl (rk fun K13 hK13 => ?_))
  have kJ2 : ∀ {x14 : Bool},EM x14 = some r -> Jn K13 [(4,.bool x14)] := by
   intro x14 h σ' hk
   unfold EM at h
   exact hK13 _ (lh hk rfl (Af ((by cases h; exact ⟨.inl rfl,rfl⟩))))
  refine sp 1 rfl (?_)
  obtain ⟨v15,g16,h⟩ := Aa h
  refine qC (qa rfl (erg (erc rfl (erc (erD BB _) (erc (erD An _) rfl)))) Ax) (M1 g16) (sp 1 rfl (?_))
  rcases Ab h with ⟨g17,h⟩ | ⟨g17,h⟩
  ·refine qg 42 g17 rfl (sp 1 rfl (?_))
   obtain ⟨v18,g19,h⟩ := Aa h
   exact oGR rfl rfl (qC (qa rfl (erg (erc (erD AH _) rfl)) Ax) (CI g19) (sp 2 rfl (evn (kJ2 h _ (okr rfl)))))
  ·exact qg 42 g17 rfl (sp 4 rfl (evn (kJ2 h _ (okr rfl))))
 refine AB (fun (y1 : Int) => [(2,.box [dL At a0]),(3,.box [nI a1.1,dL Bc a1.2.1,dL As a1.2.2]),(5,nI y1)]) _ _ _ _ hl (okr rfl) (fun _ => rfl) ?_
 rintro m y1 N h hN
 unfold Gl at h
 refine Ac fun K2 hK2 => rn 1 rfl ?_
 rcases Ab h with ⟨g3,h⟩ | ⟨g3,h⟩
 ·refine qT rfl g3 (Ae (hK2 _ (Ac fun K4 hK4 => Az (rd (by kernel_rfl) (sd 4 rfl (?_))))))
  obtain ⟨e5,g6,h⟩ := Aa h
  refine ed rfl (qI rfl GN g6 (sd 2 rfl (?_)))
  obtain ⟨v7,g8,h⟩ := Aa h
  refine ed rfl (qC (qa rfl (erg (erc (erD AH _) rfl)) (qs rfl Ax)) (Dl g8) (sd 6 rfl (CK (rd (by kernel_rfl) (sd 3 rfl (?_))))))
  rcases Ab h with ⟨g9,h⟩ | ⟨g9,h⟩
  ·exact qgd 28 g9 rfl (sd 11 rfl (CK (qk [2,3,5,39] rfl (qT rfl rfl (rn 1 rfl (Af ((by cases h; cases hr1; exact ⟨.inl rfl,rfl⟩))))))))
  ·refine qgd 28 g9 rfl (sd 5 rfl (?_))
   obtain ⟨e10,g11,h⟩ := Aa h
   refine ed rfl (oGR rfl rfl (qI rfl GN g11 (sd 5 rfl (CK ?_))))
   rcases Ab h with ⟨g12,h⟩ | ⟨g12,h⟩
   ·exact qT rfl g12 (rn 1 rfl (Af ((by cases h; cases hr1; exact ⟨.inl rfl,rfl⟩))))
   ·exact qF rfl g12 (Ae (hK4 _ (rg (sp 3 rfl (evn (hN _ _ h (okr rfl)))))))
 ·exact qF rfl g3 (Aq (kXB1 (Option.some.inj h) _ (okr rfl)))
def F4 (rec : ((List (List Int)) × (List (List Int)) × (List (List Int))) -> Option ((List (List Int)))) (y3 : List (List Int)) (x18 : List (List Int)) (x19 : List (List Int)) (x20 : List Int) (x22 : Bool) : Option ((List (List Int))) := cond x22 (chk (List.length y3 + List.length [x20] <= lim) (rec (x18,x19,(y3 ++ [x20])))) (rec (x18,x19,y3))
def F3 (rec : ((List (List Int)) × (List (List Int)) × (List (List Int))) -> Option ((List (List Int)))) (y3 : List (List Int)) (x18 : List (List Int)) (x19 : List (List Int)) (x20 : List Int) : Option ((List (List Int))) := cond ((List.length y3 : Int) == 0) (F4 rec y3 x18 x19 x20 true) (Ad (AO y3 (IntKind.i64.wrap ((List.length y3 : Int) - 1))) fun e26 => Ad (Bm e26 x20) fun v28 => F4 rec y3 x18 x19 x20 (v28 != 0))
def C8 (rec : ((List (List Int)) × (List (List Int)) × (List (List Int))) -> Option ((List (List Int)))) (y1 : List (List Int)) (y2 : List (List Int)) (y3 : List (List Int)) (x16 : Int) : Option ((List (List Int))) := cond (decide (0 < x16)) (Ad (AO y2 0) fun e31 => chk ((0 : Int) <= 1 ∧ 1 <= (List.length y2 : Int) ∧ (List.length y2 : Int) <= (List.length y2 : Int)) (F3 rec y3 y1 (Ey y2 1 (List.length y2 : Int)) e31)) (Ad (AO y1 0) fun e34 => chk ((0 : Int) <= 1 ∧ 1 <= (List.length y1 : Int) ∧ (List.length y1 : Int) <= (List.length y1 : Int)) (F3 rec y3 (Ey y1 1 (List.length y1 : Int)) y2 e34))
def DR (rec : ((List (List Int)) × (List (List Int)) × (List (List Int))) -> Option ((List (List Int)))) (y1 : List (List Int)) (y2 : List (List Int)) (y3 : List (List Int)) (x13 : Bool) : Option ((List (List Int))) := cond x13 (cond ((List.length y1 : Int) == 0) (C8 rec y1 y2 y3 1) (cond (decide (0 < (List.length y2 : Int))) (Ad (AO y1 0) fun e39 => Ad (AO y2 0) fun e41 => Ad (Bm e39 e41) fun v43 => C8 rec y1 y2 y3 v43) (C8 rec y1 y2 y3 (-1)))) (some y3)
def BI  (rec : ((List (List Int)) × (List (List Int)) × (List (List Int))) -> Option ((List (List Int)))) (s : (List (List Int)) × (List (List Int)) × (List (List Int))) : Option ((List (List Int))) := match s with
  | (y1,y2,y3) => cond (decide (0 < (List.length y1 : Int))) (DR rec y1 y2 y3 true) (DR rec y1 y2 y3 (decide (0 < (List.length y2 : Int))))
def EQ (rec : ((List (List Int))) -> Option ((List (List Int)))) (a0 : (List (List Int))) : Option ((List (List Int))) := cond (decide ((List.length a0 : Int) < 2)) (some a0) (chk ((0 : Int) <= 0 ∧ 0 <= IntKind.i64.wrap (Int.tdiv (List.length a0 : Int) 2) ∧ IntKind.i64.wrap (Int.tdiv (List.length a0 : Int) 2) <= (List.length a0 : Int)) (Ad (rec (Ey a0 0 (IntKind.i64.wrap (Int.tdiv (List.length a0 : Int) 2)))) fun v4 => chk ((0 : Int) <= IntKind.i64.wrap (Int.tdiv (List.length a0 : Int) 2) ∧ IntKind.i64.wrap (Int.tdiv (List.length a0 : Int) 2) <= (List.length a0 : Int) ∧ (List.length a0 : Int) <= (List.length a0 : Int)) (Ad (rec (Ey a0 (IntKind.i64.wrap (Int.tdiv (List.length a0 : Int) 2)) (List.length a0 : Int))) fun v7 => Ad (Ao BI fz (v4,v7,([] : List (List Int)))) fun z10 => some z10)))
def M4 (a0 : List (List Int)) : Option ((List (List Int))) := Ao EQ fz a0
theorem Sx {a0 : List (List Int)} {r : (List (List Int))} (h : M4 a0 = some r) : Ai Tryz.prog 162 [dL AJ a0] (dL AJ r) := by
 suffices key : ∀ mF (a0 : List (List Int)) (r : (List (List Int))),Ao EQ mF a0 = some r -> Ai Tryz.prog 162 [dL AJ a0] (dL AJ r) from key fz a0 r h
 intro mF
 induction mF with
 | zero => intro a0 r h; cases h
 | succ mF ih0 =>
  intro a0 r h
  have ih : ∀ {a0 : List (List Int)} {r : (List (List Int))},Ao EQ mF a0 = some r -> Ai Tryz.prog 162 [dL AJ a0] (dL AJ r) := fun h => ih0 _ _ h
  change EQ (Ao EQ mF) a0 = some r at h
  unfold EQ at h
  try dsimp only at h
  refine st jc rfl (rn 1 rfl (Ac fun K1 hK1 => rn 1 rfl ?_))
  rcases Ab h with ⟨g2,h⟩ | ⟨g2,h⟩
  ·exact qT rfl g2 (rn 1 rfl (Af ((by cases h; exact ⟨.inl rfl,rfl⟩))))
  ·refine qF rfl g2 (Ae (hK1 _ (rn 1 rfl (rs (sp 2 rfl (?_))))))
   obtain ⟨g3,h⟩ := Aj h
   refine qSl rfl Br g3 (?_)
   obtain ⟨v4,g5,h⟩ := Aa h
   refine qC (qa rfl (erD Ar _) Ax) (ih g5) (sp 1 rfl (evn (rs (sp 2 rfl (?_)))))
   obtain ⟨g6,h⟩ := Aj h
   refine qSl rfl Br g6 (?_)
   obtain ⟨v7,g8,h⟩ := Aa h
   refine qC (qa rfl (erD Ar _) Ax) (ih g8) (sp 1 rfl (evn (qk [4,5] rfl (rs (qBs Ah [] rfl rfl rfl A8 (sp 1 rfl (evn (Ac fun K9 hK9 => ?_))))))))
   obtain ⟨o1,hl,hr1⟩ := Aa h
   have kXB1 : ∀ {z10 : List (List Int)},z10 = o1 -> Jn K9 [(6,oL 42 AJ z10)] := by
    intro z10 h σ' hk
    subst h
    replace h := hr1
    try dsimp only at h
    exact hK9 _ (lh hk rfl (rn 1 rfl (Qi [(2,dL AJ z10)] ⟨(ke rfl (erO Ar _)),trivial⟩ rfl (Af ((by cases h; exact ⟨.inl rfl,rfl⟩))))))
   refine AB (fun (s : (List (List Int)) × (List (List Int)) × (List (List Int))) => match s with | (y1,y2,y3) => [(4,dL AJ y1),(5,dL AJ y2),(6,oL 42 AJ y3)]) _ _ _ _ hl (okr rfl) (fun _ => rfl) ?_
   rintro m ⟨y1,y2,y3⟩ N h hN
   unfold BI at h
   dsimp only at h
   refine Ac fun K11 hK11 => rk fun K12 hK12 => ?_
   have kJ2 : ∀ {x13 : Bool},DR (Ao BI m) y1 y2 y3 x13 = some o1 -> Jn K12 [(4,dL AJ y1),(5,dL AJ y2),(6,oL 42 AJ y3),(32,.bool x13)] := by
    intro x13 h σ' hk
    unfold DR at h
    refine hK12 _ (lh hk rfl ?_)
    rcases Ab h with ⟨g14,h⟩ | ⟨g14,h⟩
    ·refine qT rfl g14 (Ae (hK11 _ (Az (rn 1 rfl (Ac fun K15 hK15 => Az (rn 1 rfl ?_))))))
     have kJ3 : ∀ {x16 : Int},C8 (Ao BI m) y1 y2 y3 x16 = some o1 -> Jn K15 [(4,dL AJ y1),(5,dL AJ y2),(6,oL 42 AJ y3),(7,nI x16)] := by
      intro x16 h σ' hk
      unfold C8 at h
      refine hK15 _ (lh hk rfl (rs (qBs As [] rfl rfl rfl AM (sp 1 rfl (evn (Ac fun K17 hK17 => rn 1 rfl ?_))))))
      have kJ4 : ∀ {x18 : List (List Int)} {x19 : List (List Int)} {x20 : List Int},F3 (Ao BI m) y3 x18 x19 x20 = some o1 -> Jn K17 [(4,dL AJ x18),(5,dL AJ x19),(6,oL 42 AJ y3),(8,dL As x20)] := by
       intro x18 x19 x20 h σ' hk
       unfold F3 at h
       refine hK17 _ (lh hk rfl (rk fun K21 hK21 => ?_))
       have kJ5 : ∀ {x22 : Bool},F4 (Ao BI m) y3 x18 x19 x20 x22 = some o1 -> Jn K21 [(4,dL AJ x18),(5,dL AJ x19),(6,oL 42 AJ y3),(8,dL As x20),(74,.bool x22)] := by
        intro x22 h σ' hk
        unfold F4 at h
        refine hK21 _ (lh hk rfl ?_)
        rcases Ab h with ⟨g23,h⟩ | ⟨g23,h⟩
        ·refine qT rfl g23 (rg (sp 2 rfl (qBs AJ [x20] rfl rfl rfl Br (?_))))
         obtain ⟨g24,h⟩ := Aj h
         exact qA AJ y3 [x20] rfl rfl (Av Br [x20]) rfl g24 (sp 1 rfl (evn (hN _ _ h (okr rfl))))
        ·exact qF rfl g23 (Ae (hN _ _ h (okr rfl)))
       refine sp 4 rfl (?_)
       rcases Ab h with ⟨g25,h⟩ | ⟨g25,h⟩
       ·exact qg 64 g25 rfl (sp 10 rfl (evn (kJ5 h _ (okr rfl))))
       ·refine qg 64 g25 rfl (sp 4 rfl (?_))
        obtain ⟨e26,g27,h⟩ := Aa h
        refine oGR rfl rfl (qI rfl Br g27 (sp 2 rfl (?_)))
        obtain ⟨v28,g29,h⟩ := Aa h
        exact oGR rfl rfl (qC (qa rfl (erD An _) (qa rfl (erD An _) Ax)) (Cj g29) (sp 2 rfl (evn (kJ5 h _ (okr rfl)))))
      rcases Ab h with ⟨g30,h⟩ | ⟨g30,h⟩
      ·refine qT rfl g30 (rs (sp 1 rfl (?_)))
       obtain ⟨e31,g32,h⟩ := Aa h
       refine qI rfl Br g32 (sp 2 rfl (evn (qk [4,5,6,8] rfl (rg (sp 1 rfl (?_))))))
       obtain ⟨g33,h⟩ := Aj h
       exact qSl rfl Br g33 (sp 1 rfl (evn (kJ4 h _ (okr rfl))))
      ·refine qF rfl g30 (rs (sp 1 rfl (?_)))
       obtain ⟨e34,g35,h⟩ := Aa h
       refine qI rfl Br g35 (sp 2 rfl (evn (rg (sp 1 rfl (?_)))))
       obtain ⟨g36,h⟩ := Aj h
       exact qSl rfl Br g36 (sp 1 rfl (evn (kJ4 h _ (okr rfl))))
     rcases Ab h with ⟨g37,h⟩ | ⟨g37,h⟩
     ·exact qT rfl g37 (rg (sp 1 rfl (evn (kJ3 h _ (okr rfl)))))
     ·refine qF rfl g37 (rn 1 rfl ?_)
      rcases Ab h with ⟨g38,h⟩ | ⟨g38,h⟩
      ·refine qT rfl g38 (rgd (by kernel_rfl) (sd 1 rfl (?_)))
       obtain ⟨e39,g40,h⟩ := Aa h
       refine ed rfl (qI rfl Br g40 (sd 2 rfl (?_)))
       obtain ⟨e41,g42,h⟩ := Aa h
       refine ed rfl (qI rfl Br g42 (sd 1 rfl (?_)))
       obtain ⟨v43,g44,h⟩ := Aa h
       exact ed rfl (qC (qa rfl (erD An _) (qa rfl (erD An _) Ax)) (Cj g44) (sd 1 rfl (CK (kJ3 h _ (okr rfl)))))
      ·exact qF rfl g38 (rg (sp 1 rfl (evn (kJ3 h _ (okr rfl)))))
    ·exact qF rfl g14 (Aq (kXB1 (Option.some.inj h) _ (okr rfl)))
   refine sp 4 rfl (?_)
   rcases Ab h with ⟨g45,h⟩ | ⟨g45,h⟩
   ·exact qg 28 g45 rfl (sp 4 rfl (evn (kJ2 h _ (okr rfl))))
   ·exact qg 28 g45 rfl (sp 4 rfl (evn (kJ2 h _ (okr rfl))))
def FH (a0 : Int) (a1 : List (List Int)) (rec : Int -> Option (Sum (Unit) (Y32 × Bool))) (y1 : Int) : Option (Sum (Unit) (Y32 × Bool)) := cond (decide (y1 < (List.length a1 : Int))) (Ad (AO a1 y1) fun e5 => cond ((List.length e5 : Int) != a0) (some (.inr ((0,[]),false))) (Ad (AO a1 y1) fun e8 => Ad (CZ e8) fun v10 => cond (!v10) (some (.inr ((0,[]),false))) (rec (IntKind.i64.wrap (y1 + 1))))) (some (.inl ()))
def Dz (a0 : Int) (a1 : List (List Int)) : Option (Y32 × Bool) := Ad (Ao (FH a0 a1) fz 0) fun o1 => (match o1 with
  | .inl _ => (Ad (M4 a1) fun v13 => Ad (FI (a0,v13)) fun v15 => Ad (AK v15) fun v18 => cond (!v18) (some ((0,[]),false)) (some (v15,true)))
  | .inr r => some r)
theorem HU {a0 : Int} {a1 : List (List Int)} {r : Y32 × Bool} (h : Dz a0 a1 = some r) : Ai Tryz.prog 118 [nI a0,dL AJ a1] (.tup [.agg (Ez r.1),.bool r.2]) := by
 unfold Dz at h
 refine st iq rfl (rn 1 rfl (Ac fun K1 hK1 => rn 1 rfl ?_))
 obtain ⟨o1,hl,hr1⟩ := Aa h
 have kXB1 : (.inl ()) = o1 -> Jn K1 [(0,nI a0),(1,dL AJ a1),(4,.box [nI 0,oL 42 Ah []])] := by
  intro h σ' hk
  subst h
  replace h := hr1
  try dsimp only at h
  refine hK1 _ (lh hk rfl (rs (sp 2 rfl (?_))))
  obtain ⟨v13,g14,h⟩ := Aa h
  refine qC (qa rfl (erD Ar _) Ax) (Sx g14) (sp 1 rfl (?_))
  obtain ⟨v15,g16,h⟩ := Aa h
  refine qC (qa rfl (erg (erc rfl (erc (erD Ar _) rfl))) Ax) (HY g16) (sp 2 rfl (evn (Ac fun K17 hK17 => rs (sp 1 rfl (?_)))))
  obtain ⟨v18,g19,h⟩ := Aa h
  refine qC (qa rfl (erg (erc rfl (erc (erD A3 _) rfl))) Ax) (AT g19) (sp 1 rfl (evn ?_))
  rcases Ab h with ⟨g20,h⟩ | ⟨g20,h⟩
  ·exact qT rfl g20 (rn 1 rfl (Af ((by cases h; exact ⟨.inl rfl,rfl⟩))))
  ·exact qF rfl g20 (Ae (hK17 _ (rn 1 rfl (Af ((by cases h; exact ⟨.inl rfl,rfl⟩))))))
 refine AB (fun (y1 : Int) => [(0,nI a0),(1,dL AJ a1),(4,.box [nI 0,oL 42 Ah []]),(6,nI y1)]) _ _ _ _ hl (okr rfl) (fun _ => rfl) ?_
 rintro m y1 N h hN
 unfold FH at h
 refine Ac fun K2 hK2 => rn 1 rfl ?_
 rcases Ab h with ⟨g3,h⟩ | ⟨g3,h⟩
 ·refine qT rfl g3 (Ae (hK2 _ (Ac fun K4 hK4 => Az (rs (sp 2 rfl (?_))))))
  obtain ⟨e5,g6,h⟩ := Aa h
  refine qI rfl Br g6 (sp 5 rfl (?_))
  rcases Ab h with ⟨g7,h⟩ | ⟨g7,h⟩
  ·exact qg 21 g7 rfl (sp 7 rfl (evn (qT rfl rfl (rn 1 rfl (Af ((by cases h; cases hr1; exact ⟨.inl rfl,rfl⟩)))))))
  ·refine qg 21 g7 rfl (sp 2 rfl (?_))
   obtain ⟨e8,g9,h⟩ := Aa h
   refine oGR rfl rfl (qI rfl Br g9 (sp 1 rfl (?_)))
   obtain ⟨v10,g11,h⟩ := Aa h
   refine oGR rfl rfl (qC (qa rfl (erD An _) Ax) (IQ g11) (sp 2 rfl (evn (qk [0,1,4,6,28] rfl ?_))))
   rcases Ab h with ⟨g12,h⟩ | ⟨g12,h⟩
   ·exact qT rfl g12 (rn 1 rfl (Af ((by cases h; cases hr1; exact ⟨.inl rfl,rfl⟩))))
   ·exact qF rfl g12 (Ae (hK4 _ (rg (sp 3 rfl (evn (hN _ _ h (okr rfl)))))))
 ·exact qF rfl g3 (Aq (kXB1 (Option.some.inj h) _ (okr rfl)))
def F5 (rec : ((List Int) × Bool × Int) -> Option ((List Int) × Bool)) (v6 : Y32 × Bool) (y5 : Int) (y9 : List Int) (y11 : Int) (e23 : Int) (x26 : Bool) : Option ((List Int) × Bool) := chk (0 < List.length y9) (Ad (AO v6.1.2 y5) fun e29 => Ad (AO e29 y11) fun e31 => Ad (AO y9 e23) fun e33 => rec ((Jr y9 e23 e31),x26,(IntKind.i64.wrap (y11 + 1))))
def C9 (a1 : Y51) (a2 : Int) (v6 : Y32 × Bool) (y5 : Int) (rec : ((List Int) × Bool × Int) -> Option ((List Int) × Bool)) (s : (List Int) × Bool × Int) : Option ((List Int) × Bool) := match s with
  | (y9,y10,y11) => cond (decide (y11 < v6.1.1)) (cond y10 (Ad (AO a1.2.1 a2) fun e21 => Ad (AO e21.2 y11) fun e23 => Ad (AO y9 e23) fun e35 => cond (e35 == (-1)) (F5 rec v6 y5 y9 y11 e23 true) (Ad (AO y9 e23) fun e38 => Ad (AO v6.1.2 y5) fun e40 => Ad (AO e40 y11) fun e42 => F5 rec v6 y5 y9 y11 e23 (e38 == e42))) (some (y9,y10))) (some (y9,y10))
def F6 (rec : ((List (List Int)) × Int) -> Option ((List (List Int)))) (y5 : Int) (x44 : List (List Int)) : Option ((List (List Int))) := rec (x44,(IntKind.i64.wrap (y5 + 1)))
def DS (a0 : List AU) (a1 : Y51) (a2 : Int) (a3 : List Int) (v6 : Y32 × Bool) (frec : ((List AU) × Y51 × Int × (List Int)) -> Option ((List (List Int)))) (rec : ((List (List Int)) × Int) -> Option ((List (List Int)))) (s : (List (List Int)) × Int) : Option ((List (List Int))) := match s with
  | (y4,y5) => cond (decide (y5 < (List.length v6.1.2 : Int))) (chk (List.length ([] : List Int) + List.length a3 <= lim) (Ad (Ao (C9 a1 a2 v6 y5) fz ((([] : List Int) ++ a3),true,0)) fun o2 => (match o2 with
  | (z15,z16) => (cond z16 (Ad (frec (a0,a1,(IntKind.i64.wrap (a2 + 1)),z15)) fun v46 => chk (List.length y4 + List.length v46 <= lim) (F6 rec y5 (y4 ++ v46))) (F6 rec y5 y4))))) (some y4)
def B3 (rec : ((List AU) × Y51 × Int × (List Int)) -> Option ((List (List Int)))) (s : (List AU) × Y51 × Int × (List Int)) : Option ((List (List Int))) := match s with
  | (a0,a1,a2,a3) => cond (a2 == (List.length a1.2.1 : Int)) (chk (List.length ([] : List Int) + List.length a3 <= lim) (some ([([] : List Int) ++ a3]))) (Ad (AO a1.2.1 a2) fun e4 => Ad (Bi a0 e4.1) fun v6 => Ad (Ao (DS a0 a1 a2 a3 v6 rec) fz (([] : List (List Int)),0)) fun z9 => some z9)
def M5 (a0 : List AU) (a1 : Y51) (a2 : Int) (a3 : List Int) : Option ((List (List Int))) := Ao B3 fz (a0,a1,a2,a3)
theorem Sz {a0 : List AU} {a1 : Y51} {a2 : Int} {a3 : List Int} {r : (List (List Int))} (h : M5 a0 a1 a2 a3 = some r) : Ai Tryz.prog 121 [.agg [dL At a0],.agg (Gt a1),nI a2,dL As a3] (oL 42 Ah r) := by
 suffices key : ∀ mF (a0 : List AU) (a1 : Y51) (a2 : Int) (a3 : List Int) (r : (List (List Int))),Ao B3 mF (a0,a1,a2,a3) = some r -> Ai Tryz.prog 121 [.agg [dL At a0],.agg (Gt a1),nI a2,dL As a3] (oL 42 Ah r) from key fz a0 a1 a2 a3 r h
 intro mF
 induction mF with
 | zero => intro a0 a1 a2 a3 r h; cases h
 | succ mF ih0 =>
  intro a0 a1 a2 a3 r h
  have ih : ∀ {a0 : List AU} {a1 : Y51} {a2 : Int} {a3 : List Int} {r : (List (List Int))},Ao B3 mF (a0,a1,a2,a3) = some r -> Ai Tryz.prog 121 [.agg [dL At a0],.agg (Gt a1),nI a2,dL As a3] (oL 42 Ah r) := fun h => ih0 _ _ _ _ _ h
  change B3 (Ao B3 mF) (a0,a1,a2,a3) = some r at h
  unfold B3 at h
  try dsimp only at h
  refine sta iu rfl (SN (bcc (Gm Ng _) rfl) (SN (bcc rfl (bcc (Gm U1 _) (bcc (Gm (fun _ => rfl) _) rfl))) (SN rfl (SN (Gm (fun _ => rfl) _) rfl)))) (mvv (vag (vcc (LD NT _) rfl)) (mvv (vag (vcc rfl (vcc (LD V2 _) (vcc (LD (fun _ => rfl) _) rfl)))) (mvv rfl (mvv (LD (fun _ => rfl) _) rfl)))) (dco Dd 42 _) (rn 1 rfl (Ac fun K1 hK1 => rn 1 rfl ?_))
  rcases Ab h with ⟨g2,h⟩ | ⟨g2,h⟩
  ·refine qT rfl g2 (rs (qBs As [] rfl rfl rfl AM (sp 1 rfl (?_))))
   obtain ⟨g3,h⟩ := Aj h
   exact qA As ([] : List Int) a3 rfl rfl (Av AM a3) (HQ (fun _ => rfl) _) g3 (qBs Ah [([] : List Int) ++ a3] rfl rfl rfl A8 (sp 1 rfl (evn (Af ((by cases h; exact ⟨.inl rfl,rfl⟩))))))
  ·refine qF rfl g2 (Ae (hK1 _ (rs (qBs Ah [] rfl rfl rfl A8 (sp 1 rfl (evn (rd (by kernel_rfl) (sd 4 rfl (?_)))))))))
   obtain ⟨e4,g5,h⟩ := Aa h
   refine ed rfl (qI rfl Y5 g5 (sd 2 rfl (?_)))
   obtain ⟨v6,g7,h⟩ := Aa h
   refine ed rfl (qC (qa rfl (erg (erc (erG DH _) rfl)) (qs rfl Ax)) (Dl g7) (sd 6 rfl (CK (Ac fun K8 hK8 => rn 1 rfl (qk [2,3,4,5,9,10,12] rfl ?_)))))
   obtain ⟨o1,hl,hr1⟩ := Aa h
   have kXB1 : ∀ {z9 : List (List Int)},z9 = o1 -> Jn K8 [(9,oL 42 Ah z9)] := by
    intro z9 h σ' hk
    subst h
    replace h := hr1
    try dsimp only at h
    exact hK8 _ (lh hk rfl (rn 1 rfl (Af ((by cases h; exact ⟨.inl rfl,rfl⟩)))))
   refine AB (fun (s : (List (List Int)) × Int) => match s with | (y4,y5) => [(2,nI a2),(3,aL As a3),(4,.box [aL F7 a0]),(5,.box [nI a1.1,aL Mq a1.2.1,aL As a1.2.2]),(9,oL 42 Ah y4),(10,.box [nI v6.1.1,oL 42 Ah v6.1.2]),(12,nI y5)]) _ _ _ _ hl (okr rfl) (fun _ => rfl) ?_
   rintro m ⟨y4,y5⟩ N h hN
   unfold DS at h
   dsimp only at h
   refine Ac fun K10 hK10 => rn 1 rfl ?_
   rcases Ab h with ⟨g11,h⟩ | ⟨g11,h⟩
   ·refine qT rfl g11 (Ae (hK10 _ (Ac fun K12 hK12 => Az (rs (qBs As [] rfl rfl rfl AM (sp 1 rfl (?_)))))))
    obtain ⟨g13,h⟩ := Aj h
    refine qA As ([] : List Int) a3 rfl rfl (Av AM a3) (HQ (fun _ => rfl) _) g13 (sp 1 rfl (evn (rn 1 rfl (Ac fun K14 hK14 => rn 1 rfl ?_))))
    obtain ⟨o2,hl,hr2⟩ := Aa h
    have kXB2 : ∀ {z15 : List Int} {z16 : Bool},(z15,z16) = o2 -> Jn K14 [(2,nI a2),(3,aL As a3),(4,.box [aL F7 a0]),(5,.box [nI a1.1,aL Mq a1.2.1,aL As a1.2.2]),(9,oL 42 Ah y4),(10,.box [nI v6.1.1,oL 42 Ah v6.1.2]),(12,nI y5),(13,oL 3 As z15),(14,.bool z16)] := by
     intro z15 z16 h σ' hk
     subst h
     replace h := hr2
     try dsimp only at h
     refine hK14 _ (lh hk rfl (rn 1 rfl ?_))
     have kJ4 : ∀ {x44 : List (List Int)},F6 (Ao (DS a0 a1 a2 a3 v6 (Ao B3 mF)) m) y5 x44 = some o1 -> Jn K12 [(2,nI a2),(3,aL As a3),(4,.box [aL F7 a0]),(5,.box [nI a1.1,aL Mq a1.2.1,aL As a1.2.2]),(9,oL 42 Ah x44),(10,.box [nI v6.1.1,oL 42 Ah v6.1.2]),(12,nI y5)] := by
      intro x44 h σ' hk
      unfold F6 at h
      exact hK12 _ (lh hk rfl (rg (sp 3 rfl (evn (hN _ _ h (okr rfl))))))
     rcases Ab h with ⟨g45,h⟩ | ⟨g45,h⟩
     ·refine qT rfl g45 (rg (sp 6 rfl (?_)))
      obtain ⟨v46,g47,h⟩ := Aa h
      refine qC (qa rfl (erg (erc (erG DH _) rfl)) (qa rfl (erg (erc rfl (erc (erG N1 _) (erc (erG An _) rfl)))) (qs rfl (qa rfl (erD An _) Ax)))) (ih g47) (?_)
      obtain ⟨g48,h⟩ := Aj h
      exact qA Ah y4 v46 rfl rfl (Av A8 v46) rfl g48 (sp 1 rfl (evn (kJ4 h _ (okr rfl))))
     ·exact qF rfl g45 (Ae (kJ4 h _ (okr rfl)))
    refine AB (fun (s : (List Int) × Bool × Int) => match s with | (y9,y10,y11) => [(2,nI a2),(3,aL As a3),(4,.box [aL F7 a0]),(5,.box [nI a1.1,aL Mq a1.2.1,aL As a1.2.2]),(9,oL 42 Ah y4),(10,.box [nI v6.1.1,oL 42 Ah v6.1.2]),(12,nI y5),(13,oL 3 As y9),(14,.bool y10),(15,nI y11)]) _ _ _ _ hl (okr rfl) (fun _ => rfl) ?_
    rintro m ⟨y9,y10,y11⟩ N h hN
    unfold C9 at h
    dsimp only at h
    refine Ac fun K17 hK17 => rs (sp 5 rfl (?_))
    rcases Ab h with ⟨g18,h⟩ | ⟨g18,h⟩
    ·refine qg 52 g18 rfl (sp 2 rfl (evn ?_))
     rcases Ab h with ⟨g19,h⟩ | ⟨g19,h⟩
     ·refine qT rfl g19 (Ae (hK17 _ (Ac fun K20 hK20 => Az (rs (sp 3 rfl (?_))))))
      obtain ⟨e21,g22,h⟩ := Aa h
      refine qI rfl Y5 g22 (sp 3 rfl (?_))
      obtain ⟨e23,g24,h⟩ := Aa h
      refine qI rfl AM g24 (sp 2 rfl (evn (rdk (by kernel_rfl) fun K25 hK25 => ?_)))
      have kJ3 : ∀ {x26 : Bool},F5 (Ao (C9 a1 a2 v6 y5) m) v6 y5 y9 y11 e23 x26 = some o2 -> Jn K25 [(2,nI a2),(3,aL As a3),(4,.box [aL F7 a0]),(5,.box [nI a1.1,aL Mq a1.2.1,aL As a1.2.2]),(9,oL 42 Ah y4),(10,.box [nI v6.1.1,oL 42 Ah v6.1.2]),(12,nI y5),(13,oL 3 As y9),(14,.bool x26),(15,nI y11),(16,nI e23)] := by
       intro x26 h σ' hk
       unfold F5 at h
       refine hK25 _ (lh hk rfl (qk [2,3,4,5,9,10,12,13,14,15,16] rfl ?_))
       obtain ⟨g27,h⟩ := Aj h
       refine J1 (gLs (q := 900003) (b := 13) rfl rfl rfl g27 ?_)
       intro gg28 mm28
       refine qk [2,3,4,5,9,10,12,13,14,15,16,900003] rfl (Z9 (rg (sp 5 rfl (?_))))
       obtain ⟨e29,g30,h⟩ := Aa h
       refine qI rfl A8 g30 (sp 2 rfl (?_))
       obtain ⟨e31,g32,h⟩ := Aa h
       refine qI rfl AM g32 (sp 1 rfl (?_))
       obtain ⟨e33,g34,h⟩ := Aa h
       refine qIt rfl rfl rfl rfl g34 (?_)
       refine qSt (y0 := e33) (i := e23) (es := 1) 0 e31 [2,3,4,5,9,10,12,13,14,15] rfl rfl rfl rfl rfl rfl rfl rfl rfl rfl AM g34 (fun _ => rfl) (sdL (dcc rfl dcn)) (yc rfl (yc (acf (fun _ => rfl) _) (yc (snc (sA (aca KE _)) rfl) (yc (snc rfl (snc (sA (aca Vg _)) (snc (sA (aca (fun _ => rfl) _)) rfl))) (yc (sdL (dcf Dd _)) (yc (snc rfl (snc (sO (dco Dd 42 _)) rfl)) (yc rfl (yc rfl (yc rfl (yc rfl yn)))))))))) (?_)
       exact evn (gDs (q := 900003) (b := 13) rfl rfl rfl (sl rfl) (hK20 _ (rg (sp 3 rfl (evn (hN _ _ h (okr rfl)))))))
      refine sd 2 rfl (?_)
      obtain ⟨e35,g36,h⟩ := Aa h
      refine ed rfl (qI rfl AM g36 (sd 3 rfl (?_)))
      rcases Ab h with ⟨g37,h⟩ | ⟨g37,h⟩
      ·exact qgd 71 g37 rfl (sd 15 rfl (CK (kJ3 h _ (okr rfl))))
      ·refine qgd 71 g37 rfl (sd 2 rfl (?_))
       obtain ⟨e38,g39,h⟩ := Aa h
       refine ed rfl (oGR rfl rfl (qI rfl AM g39 (sd 4 rfl (?_))))
       obtain ⟨e40,g41,h⟩ := Aa h
       refine ed rfl (oGR rfl rfl (qI rfl A8 g41 (sd 2 rfl (?_))))
       obtain ⟨e42,g43,h⟩ := Aa h
       exact ed rfl (oGR rfl rfl (qI rfl AM g43 (sd 4 rfl (CK (kJ3 h _ (okr rfl))))))
     ·exact qF rfl g19 (Aq (kXB2 (Option.some.inj h) _ (okr rfl)))
    ·exact qg 52 g18 rfl (sp 2 rfl (evn (qk [2,3,4,5,9,10,12,13,14,15,54] rfl (qF rfl rfl (Aq (kXB2 (Option.some.inj h) _ (okr rfl)))))))
   ·exact qF rfl g11 (Aq (kXB1 (Option.some.inj h) _ (okr rfl)))
def CY (a1 : Y51) (rec : ((List Int)) -> Option ((List Int))) (y1 : (List Int)) : Option ((List Int)) := cond (decide ((List.length y1 : Int) < a1.1)) (chk (List.length y1 + List.length [-1] <= lim) (rec (y1 ++ [-1]))) (some y1)
def Dy (a0 : List AU) (a1 : Y51) : Option (Y32) := Ad (Fn a0 a1) fun v2 => cond (!v2) (some (0,[])) (Ad (Ao (CY a1) fz ([] : List Int)) fun z6 => Ad (M5 a0 a1 0 z6) fun v10 => Ad (Dz a1.1 v10) fun v12 => cond (!v12.2) (some (0,[])) (some v12.1))
theorem NN {a0 : List AU} {a1 : Y51} {r : Y32} (h : Dy a0 a1 = some r) : Ai Tryz.prog 52 [.agg [dL At a0],.agg (Gt a1)] (.agg (Ez r)) := by
 unfold Dy at h
 refine st nr rfl (rn 1 rfl (Ac fun K1 hK1 => rs (sp 2 rfl (?_))))
 obtain ⟨v2,g3,h⟩ := Aa h
 refine qC (qa rfl (erg (erc (erD AH _) rfl)) (qa rfl (erg (erc rfl (erc (erD BB _) (erc (erD An _) rfl)))) Ax)) (KR g3) (sp 1 rfl (evn ?_))
 rcases Ab h with ⟨g4,h⟩ | ⟨g4,h⟩
 ·exact qT rfl g4 (rn 1 rfl (Af ((by cases h; exact ⟨.inl rfl,rfl⟩))))
 ·refine qF rfl g4 (Ae (hK1 _ (rs (qBs As [] rfl rfl rfl AM (sp 1 rfl (evn (Ac fun K5 hK5 => ?_)))))))
  obtain ⟨o1,hl,hr1⟩ := Aa h
  have kXB1 : ∀ {z6 : List Int},z6 = o1 -> Jn K5 [(2,.box [dL At a0]),(3,.box [nI a1.1,dL Bc a1.2.1,dL As a1.2.2]),(4,.box [nI 0,oL 42 Ah []]),(5,oL 3 As z6)] := by
   intro z6 h σ' hk
   subst h
   replace h := hr1
   try dsimp only at h
   refine hK5 _ (lh hk rfl (rd (by kernel_rfl) (sd 5 rfl (?_))))
   obtain ⟨v10,g11,h⟩ := Aa h
   refine ed rfl (qC (qa rfl (erg (erc (erD AH _) rfl)) (qa rfl (erg (erc rfl (erc (erD BB _) (erc (erD An _) rfl)))) (qs rfl (qa rfl (erD An _) Ax)))) (Sz g11) (?_))
   obtain ⟨v12,g13,h⟩ := Aa h
   refine ed rfl (qC (qs rfl (qa rfl (erO A3 _) Ax)) (HU g13) (sd 6 rfl (CK (Ac fun K14 hK14 => rn 1 rfl ?_))))
   rcases Ab h with ⟨g15,h⟩ | ⟨g15,h⟩
   ·exact qT rfl g15 (rn 1 rfl (Af ((by cases h; exact ⟨.inl rfl,rfl⟩))))
   ·exact qF rfl g15 (Ae (hK14 _ (rn 1 rfl (Af ((by cases h; exact ⟨.inl rfl,rfl⟩))))))
  refine AB (fun (y1 : List Int) => [(2,.box [dL At a0]),(3,.box [nI a1.1,dL Bc a1.2.1,dL As a1.2.2]),(4,.box [nI 0,oL 42 Ah []]),(5,oL 3 As y1)]) _ _ _ _ hl (okr rfl) (fun _ => rfl) ?_
  rintro m y1 N h hN
  unfold CY at h
  refine Ac fun K7 hK7 => rn 1 rfl ?_
  rcases Ab h with ⟨g8,h⟩ | ⟨g8,h⟩
  ·refine qT rfl g8 (Ae (hK7 _ (Az (rg (sp 1 rfl (qBs As [-1] rfl rfl rfl AM (?_)))))))
   obtain ⟨g9,h⟩ := Aj h
   exact qA As y1 [-1] rfl rfl (Av AM [-1]) rfl g9 (sp 1 rfl (evn (hN _ _ h (okr rfl))))
  ·exact qF rfl g8 (Aq (kXB1 (Option.some.inj h) _ (okr rfl)))
def BF (a0 : Y32) (rec : ((List Int) × Int) -> Option ((List Int))) (s : (List Int) × Int) : Option ((List Int)) := match s with
  | (y1,y2) => cond (decide (y2 < (List.length a0.2 : Int))) (chk (List.length y1 + List.length [1] <= lim) (rec ((y1 ++ [1]),(IntKind.i64.wrap (y2 + 1))))) (some y1)
def B9 (a0 : Y32) : Option (Y43 × Bool) := Ad (AK a0) fun v2 => cond (!v2) (some ((0,[],[]),false)) (Ad (FI a0) fun v5 => Ad (Ao (BF a0) fz (([] : List Int),0)) fun z8 => some ((a0.1,v5.2,z8),true))
theorem J2 {a0 : Y32} {r : Y43 × Bool} (h : B9 a0 = some r) : Ai Tryz.prog 159 [.agg (Gs a0)] (.tup [.agg (Al r.1),.bool r.2]) := by
 unfold B9 at h
 refine st i9 rfl (rn 1 rfl (Ac fun K1 hK1 => rs (sp 1 rfl (?_))))
 obtain ⟨v2,g3,h⟩ := Aa h
 refine qC (qa rfl (erg (erc rfl (erc (erD Ar _) rfl))) Ax) (AT g3) (sp 1 rfl (evn ?_))
 rcases Ab h with ⟨g4,h⟩ | ⟨g4,h⟩
 ·exact qT rfl g4 (rn 1 rfl (Af ((by cases h; exact ⟨.inl rfl,rfl⟩))))
 ·refine qF rfl g4 (Ae (hK1 _ (rs (sp 1 rfl (?_)))))
  obtain ⟨v5,g6,h⟩ := Aa h
  refine qC (qa rfl (erg (erc rfl (erc (erD Ar _) rfl))) Ax) (HY g6) (sp 2 rfl (evn (rn 1 rfl (Ac fun K7 hK7 => rn 1 rfl ?_))))
  obtain ⟨o1,hl,hr1⟩ := Aa h
  have kXB1 : ∀ {z8 : List Int},z8 = o1 -> Jn K7 [(2,.box [nI 0,oL 42 Ah [],oL 3 As []]),(5,.box [nI a0.1,oL 42 Ah v5.2,oL 3 As z8])] := by
   intro z8 h σ' hk
   subst h
   replace h := hr1
   try dsimp only at h
   exact hK7 _ (lh hk rfl (rn 1 rfl (Af ((by cases h; exact ⟨.inl rfl,rfl⟩)))))
  refine AB (fun (s : (List Int) × Int) => match s with | (y1,y2) => [(1,.box [nI a0.1,dL AJ a0.2]),(2,.box [nI 0,oL 42 Ah [],oL 3 As []]),(5,.box [nI a0.1,oL 42 Ah v5.2,oL 3 As y1]),(6,nI y2)]) _ _ _ _ hl (okr rfl) (fun _ => rfl) ?_
  rintro m ⟨y1,y2⟩ N h hN
  unfold BF at h
  dsimp only at h
  refine Ac fun K9 hK9 => rn 1 rfl ?_
  rcases Ab h with ⟨g10,h⟩ | ⟨g10,h⟩
  ·refine qT rfl g10 (Ae (hK9 _ (Ac fun K11 hK11 => Az (rg (sp 2 rfl (qBs As [1] rfl rfl rfl AM (?_)))))))
   obtain ⟨g12,h⟩ := Aj h
   exact qA As y1 [1] rfl rfl (Av AM [1]) rfl g12 (sp 2 rfl (evn (hK11 _ (rg (sp 3 rfl (evn (hN _ _ h (okr rfl))))))))
  ·exact qF rfl g10 (Aq (kXB1 (Option.some.inj h) _ (okr rfl)))
def Em (a0 : Y43) (rec : Int -> Option (Sum (Unit) (Bool))) (y1 : Int) : Option (Sum (Unit) (Bool)) := cond (decide (y1 < (List.length a0.2.2 : Int))) (Ad (AO a0.2.2 y1) fun e10 => cond (e10 == 0) (some (.inr false)) (Ad (AO a0.2.2 y1) fun e13 => Ad (EP e13 (-1000000) 1000000) fun v15 => cond (!v15) (some (.inr false)) (rec (IntKind.i64.wrap (y1 + 1))))) (some (.inl ()))
def Bg (a0 : Y43) : Option (Bool) := cond ((List.length a0.2.1 : Int) != (List.length a0.2.2 : Int)) (some false) (Ad (AK (a0.1,a0.2.1)) fun v3 => cond (!v3) (some false) (Ad (Ao (Em a0) fz 0) fun o1 => (match o1 with
  | .inl _ => (some true)
  | .inr r => some r)))
theorem EN {a0 : Y43} {r : Bool} (h : Bg a0 = some r) : Ai Tryz.prog 48 [.agg (Bf a0)] (.bool r) := by
 unfold Bg at h
 refine st nn rfl (rn 1 rfl (Ac fun K1 hK1 => rs (sp 8 rfl (?_))))
 rcases Ab h with ⟨g2,h⟩ | ⟨g2,h⟩
 ·exact qg 11 g2 rfl (sp 8 rfl (evn (qT rfl rfl (rn 1 rfl (Af ((by cases h; exact ⟨.inl rfl,rfl⟩)))))))
 ·refine qg 11 g2 rfl (sp 5 rfl (?_))
  obtain ⟨v3,g4,h⟩ := Aa h
  refine oGR rfl rfl (qC (qa rfl (erg (erc rfl (erc (erD Ar _) rfl))) Ax) (AT g4) (sp 2 rfl (evn ?_)))
  rcases Ab h with ⟨g5,h⟩ | ⟨g5,h⟩
  ·exact qT rfl g5 (rn 1 rfl (qk [2] rfl (Af ((by cases h; exact ⟨.inl rfl,rfl⟩)))))
  ·refine qF rfl g5 (Ae (hK1 _ (Ac fun K6 hK6 => rn 1 rfl ?_)))
   obtain ⟨o1,hl,hr1⟩ := Aa h
   have kXB1 : (.inl ()) = o1 -> Jn K6 [] := by
    intro h σ' hk
    subst h
    replace h := hr1
    try dsimp only at h
    exact hK6 _ (lh hk rfl (rn 1 rfl (Af ((by cases h; exact ⟨.inl rfl,rfl⟩)))))
   refine AB (fun (y1 : Int) => [(1,.box [nI a0.1,dL AJ a0.2.1,dL As a0.2.2]),(3,nI y1)]) _ _ _ _ hl (okr rfl) (fun _ => rfl) ?_
   rintro m y1 N h hN
   unfold Em at h
   refine Ac fun K7 hK7 => rn 1 rfl ?_
   rcases Ab h with ⟨g8,h⟩ | ⟨g8,h⟩
   ·refine qT rfl g8 (Ae (hK7 _ (Ac fun K9 hK9 => Az (rs (sp 3 rfl (?_))))))
    obtain ⟨e10,g11,h⟩ := Aa h
    refine qI rfl AM g11 (sp 3 rfl (?_))
    rcases Ab h with ⟨g12,h⟩ | ⟨g12,h⟩
    ·exact qg 33 g12 rfl (sp 8 rfl (evn (qT rfl rfl (rn 1 rfl (Af ((by cases h; cases hr1; exact ⟨.inl rfl,rfl⟩)))))))
    ·refine qg 33 g12 rfl (sp 3 rfl (?_))
     obtain ⟨e13,g14,h⟩ := Aa h
     refine oGR rfl rfl (qI rfl AM g14 (sp 1 rfl (?_)))
     obtain ⟨v15,g16,h⟩ := Aa h
     refine oGR rfl rfl (qC (qs rfl (qs rfl (qs rfl Ax))) (E0 g16) (sp 2 rfl (evn (qk [1,3,41] rfl ?_))))
     rcases Ab h with ⟨g17,h⟩ | ⟨g17,h⟩
     ·exact qT rfl g17 (rn 1 rfl (Af ((by cases h; cases hr1; exact ⟨.inl rfl,rfl⟩))))
     ·exact qF rfl g17 (Ae (hK9 _ (rg (sp 3 rfl (evn (hN _ _ h (okr rfl)))))))
   ·exact qF rfl g8 (Aq (kXB1 (Option.some.inj h) _ trivial))
def GK (a0 : Y32) (a1 : List Int) (rec : (Int × Int) -> Option (Int)) (s : Int × Int) : Option (Int) := match s with
  | (y1,y2) => cond (decide (y1 < y2)) (Ad (AO a0.2 (IntKind.i64.wrap (Int.tdiv (IntKind.i64.wrap (y1 + y2)) 2))) fun e5 => Ad (Bm e5 a1) fun v7 => cond (decide (v7 < 0)) (rec ((IntKind.i64.wrap ((IntKind.i64.wrap (Int.tdiv (IntKind.i64.wrap (y1 + y2)) 2)) + 1)),y2)) (rec (y1,(IntKind.i64.wrap (Int.tdiv (IntKind.i64.wrap (y1 + y2)) 2))))) (some y1)
def GL (z2 : Int) (x11 : Bool) : Option (Int × Bool) := some (z2,x11)
def GJ (a0 : Y32) (a1 : List Int) : Option (Int × Bool) := Ad (Ao (GK a0 a1) fz (0,(List.length a0.2 : Int))) fun z2 => cond (decide (z2 < (List.length a0.2 : Int))) (Ad (AO a0.2 z2) fun e13 => Ad (Bm e13 a1) fun v15 => GL z2 (v15 == 0)) (GL z2 false)
theorem ME {a0 : Y32} {a1 : List Int} {r : Int × Bool} (h : GJ a0 a1 = some r) : Ai Tryz.prog 119 [.agg (Gs a0),dL As a1] (.tup [nI r.1,.bool r.2]) := by
 unfold GJ at h
 refine st ir rfl (rn 3 rfl (Ac fun K1 hK1 => ?_))
 obtain ⟨o1,hl,hr1⟩ := Aa h
 have kXB1 : ∀ {z2 : Int},z2 = o1 -> Jn K1 [(1,dL As a1),(2,.box [nI a0.1,dL AJ a0.2]),(6,nI z2)] := by
  intro z2 h σ' hk
  subst h
  replace h := hr1
  try dsimp only at h
  refine hK1 _ (lh hk rfl (rk fun K10 hK10 => ?_))
  have kJ2 : ∀ {x11 : Bool},GL z2 x11 = some r -> Jn K10 [(4,nI z2),(5,.bool x11)] := by
   intro x11 h σ' hk
   unfold GL at h
   exact hK10 _ (lh hk rfl (Af ((by cases h; exact ⟨.inl rfl,rfl⟩))))
  refine sp 7 rfl (?_)
  rcases Ab h with ⟨g12,h⟩ | ⟨g12,h⟩
  ·refine qg 36 g12 rfl (sp 3 rfl (?_))
   obtain ⟨e13,g14,h⟩ := Aa h
   refine oGR rfl rfl (qI rfl Br g14 (sp 2 rfl (?_)))
   obtain ⟨v15,g16,h⟩ := Aa h
   exact oGR rfl rfl (qC (qa rfl (erD An _) (qa rfl (erD An _) Ax)) (Cj g16) (sp 4 rfl (evn (kJ2 h _ (okr rfl)))))
  ·exact qg 36 g12 rfl (sp 11 rfl (evn (kJ2 h _ (okr rfl))))
 refine AB (fun (s : Int × Int) => match s with | (y1,y2) => [(1,dL As a1),(2,.box [nI a0.1,dL AJ a0.2]),(6,nI y1),(7,nI y2)]) _ _ _ _ hl (okr rfl) (fun _ => rfl) ?_
 rintro m ⟨y1,y2⟩ N h hN
 unfold GK at h
 dsimp only at h
 refine Ac fun K3 hK3 => rn 1 rfl ?_
 rcases Ab h with ⟨g4,h⟩ | ⟨g4,h⟩
 ·refine qT rfl g4 (Ae (hK3 _ (Az (rn 1 rfl (rs (sp 3 rfl (?_)))))))
  obtain ⟨e5,g6,h⟩ := Aa h
  refine qI rfl Br g6 (sp 2 rfl (?_))
  obtain ⟨v7,g8,h⟩ := Aa h
  refine qC (qa rfl (erD An _) (qa rfl (erD An _) Ax)) (Cj g8) (sp 1 rfl (evn ?_))
  rcases Ab h with ⟨g9,h⟩ | ⟨g9,h⟩
  ·exact qT rfl g9 (rg (sp 3 rfl (evn (hN _ _ h (okr rfl)))))
  ·exact qF rfl g9 (rg (sp 2 rfl (evn (hN _ _ h (okr rfl)))))
 ·exact qF rfl g4 (Aq (kXB1 (Option.some.inj h) _ (okr rfl)))
end Go.Proofs.YtpcbnmcfplioeaaGreat
