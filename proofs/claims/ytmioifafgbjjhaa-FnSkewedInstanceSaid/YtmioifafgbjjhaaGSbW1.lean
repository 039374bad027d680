/-
  Functions of the program as typed functions, printed by gen.py, and that the program's functions do what they say. No conditions.
-/
import Derived.Test.YtmioifafgbjjhaaGSW1
namespace Go.Proofs.Ytmioifafgbjjhaa
open Go.RowKit
set_option linter.unusedVariables false
set_option maxRecDepth 100000
set_option maxHeartbeats 1000000
def impl_CompareBigInts_B1 (a0 : List Int) (a1 : List Int) (rec : Int → Option (Sum (Unit) (Int))) (y1 : Int) : Option (Sum (Unit) (Int)) := cond (decide (0 ≤ y1)) (obind (geti a0 y1) fun e16 => obind (geti a1 y1) fun e18 => cond (e16 != e18) (obind (geti a0 y1) fun e21 => obind (geti a1 y1) fun e23 => obind (impl_compareInts e21 e23) fun v25 => some (.inr v25)) (rec (IntKind.i64.wrap (y1 - 1)))) (some (.inl ()))
def impl_CompareBigInts (a0 : List Int) (a1 : List Int) : Option (Int) := obind (impl_IsValidBigInt a0) fun v2 => cond (!v2) (some 0) (obind (impl_IsValidBigInt a1) fun v5 => cond (!v5) (some 0) (cond ((List.length a0 : Int) != (List.length a1 : Int)) (obind (impl_compareInts (List.length a0 : Int) (List.length a1 : Int)) fun v10 => some v10) (obind (loopF (impl_CompareBigInts_B1 a0 a1) fz (IntKind.i64.wrap ((List.length a0 : Int) - 1))) fun o1 => (match o1 with
  | .inl _ => (some 0)
  | .inr r => some r))))
theorem impl_CompareBigInts_s {a0 : List Int} {a1 : List Int} {r : Int} (h : impl_CompareBigInts a0 a1 = some r) : SoundAt Try.prog 217 [.agg [dL ci64 a0], .agg [dL ci64 a1]] (nI r) := by
 unfold impl_CompareBigInts at h
 refine st lit217 rfl (rn 1 rfl (ls_seq_k fun K1 hK1 => rs (sp 1 rfl (?_))))
 obtain ⟨v2, g3, h⟩ := ob_some h
 refine qC (qa rfl (erg (erc (erD eci64 _) rfl)) eran) (impl_IsValidBigInt_s g3) (sp 2 rfl (?_))
 rcases cond_some h with ⟨g4, h⟩ | ⟨g4, h⟩
 ·exact qg 9 g4 rfl (sp 4 rfl (evn (qT rfl rfl (rn 1 rfl (ls_ret ((by cases h; exact ⟨.inl rfl, rfl⟩)))))))
 ·refine qg 9 g4 rfl (sp 1 rfl (?_))
  obtain ⟨v5, g6, h⟩ := ob_some h
  refine oGR rfl rfl (qC (qa rfl (erg (erc (erD eci64 _) rfl)) eran) (impl_IsValidBigInt_s g6) (sp 2 rfl (evn ?_)))
  rcases cond_some h with ⟨g7, h⟩ | ⟨g7, h⟩
  ·exact qT rfl g7 (rn 1 rfl (ls_ret ((by cases h; exact ⟨.inl rfl, rfl⟩))))
  ·refine qF rfl g7 (ls_skip (hK1 _ (ls_seq_k fun K8 hK8 => rn 1 rfl (qk [2, 3, 20] rfl ?_))))
   rcases cond_some h with ⟨g9, h⟩ | ⟨g9, h⟩
   ·refine qT rfl g9 (rs (sp 6 rfl (?_)))
    obtain ⟨v10, g11, h⟩ := ob_some h
    exact qC (qs rfl (qs rfl eran)) (impl_compareInts_s g11) (sp 1 rfl (evn (ls_ret ((by cases h; exact ⟨.inl rfl, rfl⟩)))))
   ·refine qF rfl g9 (ls_skip (hK8 _ (ls_seq_k fun K12 hK12 => rn 1 rfl ?_)))
    obtain ⟨o1, hl, hr1⟩ := ob_some h
    have kXB1 : (.inl ()) = o1 → Jn K12 [] := by
     intro h σ' hk
     subst h
     replace h := hr1
     try dsimp only at h
     exact hK12 _ (lh hk rfl (rn 1 rfl (ls_ret ((by cases h; exact ⟨.inl rfl, rfl⟩)))))
    refine ls_rec (fun (y1 : Int) => [(2, .box [dL ci64 a0]), (3, .box [dL ci64 a1]), (5, nI y1)]) _ _ _ _ hl (okr rfl) (fun _ => rfl) ?_
    rintro m y1 N h hN
    unfold impl_CompareBigInts_B1 at h
    refine ls_seq_k fun K13 hK13 => rn 1 rfl ?_
    rcases cond_some h with ⟨g14, h⟩ | ⟨g14, h⟩
    ·refine qT rfl g14 (ls_skip (hK13 _ (ls_seq_k fun K15 hK15 => ls_blk (rd (by kernel_rfl) (sd 3 rfl (?_))))))
     obtain ⟨e16, g17, h⟩ := ob_some h
     refine ed rfl (qI rfl zci64 g17 (sd 4 rfl (?_)))
     obtain ⟨e18, g19, h⟩ := ob_some h
     refine ed rfl (qI rfl zci64 g19 (sd 2 rfl (evdn ?_)))
     rcases cond_some h with ⟨g20, h⟩ | ⟨g20, h⟩
     ·refine qT rfl g20 (rd (by kernel_rfl) (sd 3 rfl (?_)))
      obtain ⟨e21, g22, h⟩ := ob_some h
      refine ed rfl (qI rfl zci64 g22 (sd 4 rfl (?_)))
      obtain ⟨e23, g24, h⟩ := ob_some h
      refine ed rfl (qI rfl zci64 g24 (sd 1 rfl (?_)))
      obtain ⟨v25, g26, h⟩ := ob_some h
      exact ed rfl (qC (qs rfl (qs rfl eran)) (impl_compareInts_s g26) (sd 1 rfl (evdn (ls_ret ((by cases h; cases hr1; exact ⟨.inl rfl, rfl⟩))))))
     ·exact qF rfl g20 (ls_skip (hK15 _ (qk [2, 3, 5] rfl (rg (sp 3 rfl (evn (hN _ _ h (okr rfl))))))))
    ·exact qF rfl g14 (ls_exit (kXB1 (Option.some.inj h) _ trivial))
def impl_withinPowers_B1 (a0 : List Int) (rec : Int → Option (Sum (Unit) (Bool))) (y1 : Int) : Option (Sum (Unit) (Bool)) := cond (decide (y1 < (List.length a0 : Int))) (obind (geti a0 y1) fun e11 => cond (decide (e11 < 0)) (some (.inr false)) (rec (IntKind.i64.wrap (y1 + 1)))) (some (.inl ()))
def impl_withinPowers_J2 (x23 : Bool) : Option (Bool) := some x23
def impl_withinPowers (a0 : List Int) (a1 : List Y114) (a2 : Int) (a3 : Int) : Option (Bool) := obind (impl_ScaleToIntegers a1) fun v1 => cond (decide (a2 < 0)) (some false) (cond (decide (v1.2 < 1)) (some false) (cond (decide (100 < v1.2)) (some false) (obind (loopF (impl_withinPowers_B1 a0) fz 0) fun o1 => (match o1 with
  | .inl _ => (obind (impl_PowBigInt a2 v1.2) fun v14 => obind (impl_ProductOfPowers a0 v1.1) fun v16 => obind (impl_PowBigInt a3 v1.2) fun v18 => obind (impl_MulBigInt v16.1 v18.1) fun v20 => cond v14.2 (cond v16.2 (cond v18.2 (cond v20.2 (obind (impl_CompareBigInts v14.1 v20.1) fun v28 => impl_withinPowers_J2 (decide (v28 ≤ 0))) (impl_withinPowers_J2 false)) (impl_withinPowers_J2 false)) (impl_withinPowers_J2 false)) (impl_withinPowers_J2 false))
  | .inr r => some r))))
theorem impl_withinPowers_s {a0 : List Int} {a1 : List Y114} {a2 : Int} {a3 : Int} {r : Bool} (h : impl_withinPowers a0 a1 a2 a3 = some r) : SoundAt Try.prog 151 [dL ci64 a0, dL c115_ a1, nI a2, nI a3] (.bool r) := by
 unfold impl_withinPowers at h
 refine st lit151 rfl (rn 1 rfl (rs (sp 1 rfl (?_))))
 obtain ⟨v1, g2, h⟩ := ob_some h
 refine qC (qa rfl (erD ec115_ _) eran) (impl_ScaleToIntegers_s g2) (sp 5 rfl (evn (ls_seq_k fun K3 hK3 => rs (sp 3 rfl (?_)))))
 rcases cond_some h with ⟨g4, h⟩ | ⟨g4, h⟩
 ·exact qg 28 g4 rfl (sp 7 rfl (evn (qT rfl rfl (rn 1 rfl (ls_ret ((by cases h; exact ⟨.inl rfl, rfl⟩)))))))
 ·refine qg 28 g4 rfl (sp 4 rfl (?_))
  rcases cond_some h with ⟨g5, h⟩ | ⟨g5, h⟩
  ·exact qg 32 g5 rfl (sp 3 rfl (evn (qk [0, 2, 3, 9, 10, 35] rfl (qT rfl rfl (rn 1 rfl (ls_ret ((by cases h; exact ⟨.inl rfl, rfl⟩))))))))
  ·refine qg 32 g5 rfl (sp 3 rfl (evn ?_))
   rcases cond_some h with ⟨g6, h⟩ | ⟨g6, h⟩
   ·exact qT rfl g6 (rn 1 rfl (ls_ret ((by cases h; exact ⟨.inl rfl, rfl⟩))))
   ·refine qF rfl g6 (ls_skip (hK3 _ (ls_seq_k fun K7 hK7 => rn 1 rfl ?_)))
    obtain ⟨o1, hl, hr1⟩ := ob_some h
    have kXB1 : (.inl ()) = o1 → Jn K7 [(0, dL ci64 a0), (2, nI a2), (3, nI a3), (9, oL 3 ci64 v1.1), (10, nI v1.2)] := by
     intro h σ' hk
     subst h
     replace h := hr1
     try dsimp only at h
     refine hK7 _ (lh hk rfl (rs (sp 2 rfl (?_))))
     obtain ⟨v14, g15, h⟩ := ob_some h
     refine qC (qs rfl (qs rfl eran)) (impl_PowBigInt_s g15) (sp 6 rfl (evn (rs (sp 2 rfl (?_)))))
     obtain ⟨v16, g17, h⟩ := ob_some h
     refine qC (qa rfl (erD eci64 _) (qa rfl (erD eci64 _) eran)) (impl_ProductOfPowers_s g17) (sp 6 rfl (evn (rs (sp 2 rfl (?_)))))
     obtain ⟨v18, g19, h⟩ := ob_some h
     refine qC (qs rfl (qs rfl eran)) (impl_PowBigInt_s g19) (sp 6 rfl (evn (rs (sp 2 rfl (?_)))))
     obtain ⟨v20, g21, h⟩ := ob_some h
     refine qC (qa rfl (erg (erc (erD eci64 _) rfl)) (qa rfl (erg (erc (erD eci64 _) rfl)) eran)) (impl_MulBigInt_s g21) (sp 6 rfl (evn (rk fun K22 hK22 => ?_)))
     have kJ2 : ∀ {x23 : Bool}, impl_withinPowers_J2 x23 = some r → Jn K22 [(8, .bool x23)] := by
      intro x23 h σ' hk
      unfold impl_withinPowers_J2 at h
      exact hK22 _ (lh hk rfl (ls_ret ((by cases h; exact ⟨.inl rfl, rfl⟩))))
     refine sp 2 rfl (?_)
     rcases cond_some h with ⟨g24, h⟩ | ⟨g24, h⟩
     ·refine qg 70 g24 rfl (sp 3 rfl (?_))
      rcases cond_some h with ⟨g25, h⟩ | ⟨g25, h⟩
      ·refine qg 73 g25 rfl (sp 3 rfl (?_))
       rcases cond_some h with ⟨g26, h⟩ | ⟨g26, h⟩
       ·refine qg 76 g26 rfl (sp 3 rfl (?_))
        rcases cond_some h with ⟨g27, h⟩ | ⟨g27, h⟩
        ·refine qg 79 g27 rfl (sp 2 rfl (?_))
         obtain ⟨v28, g29, h⟩ := ob_some h
         exact oGR rfl rfl (qC (qa rfl (erg (erc (erD eci64 _) rfl)) (qa rfl (erg (erc (erD eci64 _) rfl)) eran)) (impl_CompareBigInts_s g29) (sp 3 rfl (evn (kJ2 h _ (okr rfl)))))
        ·exact qg 79 g27 rfl (sp 6 rfl (evn (kJ2 h _ (okr rfl))))
       ·exact qg 76 g26 rfl (sp 9 rfl (evn (kJ2 h _ (okr rfl))))
      ·exact qg 73 g25 rfl (sp 12 rfl (evn (kJ2 h _ (okr rfl))))
     ·exact qg 70 g24 rfl (sp 15 rfl (evn (kJ2 h _ (okr rfl))))
    refine ls_rec (fun (y1 : Int) => [(0, dL ci64 a0), (2, nI a2), (3, nI a3), (9, oL 3 ci64 v1.1), (10, nI v1.2), (36, dL ci64 a0), (37, nI (List.length a0 : Int)), (38, nI y1)]) _ _ _ _ hl (okr rfl) (fun _ => rfl) ?_
    rintro m y1 N h hN
    unfold impl_withinPowers_B1 at h
    refine rn 1 rfl (ls_seq_k fun K8 hK8 => ?_)
    rcases cond_some h with ⟨g9, h⟩ | ⟨g9, h⟩
    ·refine qT rfl g9 (ls_skip (hK8 _ (ls_seq_k fun K10 hK10 => ls_blk (rs ?_))))
     obtain ⟨e11, g12, h⟩ := ob_some h
     refine qI rfl zci64 g12 (sp 2 rfl (evn (rn 1 rfl ?_)))
     rcases cond_some h with ⟨g13, h⟩ | ⟨g13, h⟩
     ·exact qT rfl g13 (rn 1 rfl (ls_ret ((by cases h; cases hr1; exact ⟨.inl rfl, rfl⟩))))
     ·exact qF rfl g13 (ls_skip (hK10 _ (rg (sp 2 rfl (evn (hN _ _ h (okr rfl)))))))
    ·exact qF rfl g9 (ls_exit (kXB1 (Option.some.inj h) _ (okr rfl)))
def impl_SeekBound (a0 : Y58) (a1 : Int) : Option (Int) := obind (impl_IsValidQuery a0) fun v2 => cond (!v2) (some 0) (obind (impl_within a1 0 1000000) fun v5 => cond (!v5) (some 0) (some (IntKind.i64.wrap ((IntKind.i64.wrap ((IntKind.i64.wrap (2 * a0.1)) * (List.length a0.2.1 : Int))) * a1))))
theorem impl_SeekBound_s {a0 : Y58} {a1 : Int} {r : Int} (h : impl_SeekBound a0 a1 = some r) : SoundAt Try.prog 152 [.agg (c59_ddd a0), nI a1] (nI r) := by
 unfold impl_SeekBound at h
 refine st lit152 rfl (rn 1 rfl (ls_seq_k fun K1 hK1 => rs (sp 1 rfl (?_))))
 obtain ⟨v2, g3, h⟩ := ob_some h
 refine qC (qa rfl (erg (erc rfl (erc (erD ec142_d _) (erc (erD eci64 _) rfl)))) eran) (impl_IsValidQuery_s g3) (sp 2 rfl (?_))
 rcases cond_some h with ⟨g4, h⟩ | ⟨g4, h⟩
 ·exact qg 8 g4 rfl (sp 4 rfl (evn (qT rfl rfl (rn 1 rfl (ls_ret ((by cases h; exact ⟨.inl rfl, rfl⟩)))))))
 ·refine qg 8 g4 rfl (sp 1 rfl (?_))
  obtain ⟨v5, g6, h⟩ := ob_some h
  refine oGR rfl rfl (qC (qs rfl (qs rfl (qs rfl eran))) (impl_within_s g6) (sp 2 rfl (evn ?_)))
  rcases cond_some h with ⟨g7, h⟩ | ⟨g7, h⟩
  ·exact qT rfl g7 (rn 1 rfl (ls_ret ((by cases h; exact ⟨.inl rfl, rfl⟩))))
  ·exact qF rfl g7 (ls_skip (hK1 _ (rn 1 rfl (qk [4] rfl (ls_ret ((by cases h; exact ⟨.inl rfl, rfl⟩)))))))
def impl_IsWithinSeekBound_J1 (x2 : Bool) : Option (Bool) := some x2
def impl_IsWithinSeekBound (a0 : Y58) (a1 : List Int) (a2 : List Y114) (a3 : Int) : Option (Bool) := obind (impl_IsValidQuery a0) fun v3 => cond v3 (obind (impl_SeekBound a0 1) fun v6 => obind (impl_withinPowers a1 a2 a3 v6) fun v8 => impl_IsWithinSeekBound_J1 v8) (impl_IsWithinSeekBound_J1 false)
theorem impl_IsWithinSeekBound_s {a0 : Y58} {a1 : List Int} {a2 : List Y114} {a3 : Int} {r : Bool} (h : impl_IsWithinSeekBound a0 a1 a2 a3 = some r) : SoundAt Try.prog 72 [.agg (c59_ddd a0), dL ci64 a1, dL c115_ a2, nI a3] (.bool r) := by
 unfold impl_IsWithinSeekBound at h
 refine st lit72 rfl (rn 1 rfl (rk fun K1 hK1 => ?_))
 have kJ1 : ∀ {x2 : Bool}, impl_IsWithinSeekBound_J1 x2 = some r → Jn K1 [(8, .bool x2)] := by
  intro x2 h σ' hk
  unfold impl_IsWithinSeekBound_J1 at h
  exact hK1 _ (lh hk rfl (ls_ret ((by cases h; exact ⟨.inl rfl, rfl⟩))))
 refine sp 1 rfl (?_)
 obtain ⟨v3, g4, h⟩ := ob_some h
 refine qC (qa rfl (erg (erc rfl (erc (erD ec142_d _) (erc (erD eci64 _) rfl)))) eran) (impl_IsValidQuery_s g4) (sp 1 rfl (?_))
 rcases cond_some h with ⟨g5, h⟩ | ⟨g5, h⟩
 ·refine qg 11 g5 rfl (sp 4 rfl (?_))
  obtain ⟨v6, g7, h⟩ := ob_some h
  refine oGR rfl rfl (qC (qa rfl (erg (erc rfl (erc (erD ec142_d _) (erc (erD eci64 _) rfl)))) (qs rfl eran)) (impl_SeekBound_s g7) (?_))
  obtain ⟨v8, g9, h⟩ := ob_some h
  exact oGR rfl rfl (qC (qa rfl (erD eci64 _) (qa rfl (erD ec115_ _) (qs rfl (qs rfl eran)))) (impl_withinPowers_s g9) (sp 2 rfl (evn (kJ1 h _ (okr rfl)))))
 ·exact qg 11 g5 rfl (sp 8 rfl (evn (kJ1 h _ (okr rfl))))
def c26_do (x : Y25) : List V := [nI x.1, dL c31_o x.2]
theorem zc26_do (x : Y25) : (c26_do x).length = 2 := rfl
theorem ec26_do (x : Y25) : erL (c26_do x) = c26_dd x := (erc rfl (erc (erD ec31_o _) rfl))
def c107_do (x : Y106) : List V := [.str x.1, nI x.2.1, dL c31_o x.2.2]
theorem zc107_do (x : Y106) : (c107_do x).length = 3 := rfl
theorem ec107_do (x : Y106) : erL (c107_do x) = c107_dd x := (erc rfl (erc rfl (erc (erD ec31_o _) rfl)))
def laws_FnSkewedInstance_J1 (x20 : Bool) : Option (Bool) := some x20
def laws_FnSkewedInstance (a0 : List Int) : Option (Bool) := obind (laws_big a0) fun v2 => cond v2 (some true) (obind (laws_at a0 0) fun v5 => obind (impl_SkewedRelation (IntKind.i64.wrap (2 + (Int.tmod v5 6)))) fun v7 => obind (laws_at a0 1) fun v9 => obind (impl_FullRelation [2, Int.tmod v9 4]) fun v11 => obind (spec_ParseQuery [40, 88, 89, 90, 41, 61, 114, 40, 88, 89, 41, 44, 115, 40, 89, 90, 41, 44, 116, 40, 90, 88, 41]) fun v13 => obind (impl_PairwiseJoin ([([114], v7.1), ([115], v7.1), ([116], v7.1)]) v13.1) fun v15 => obind (impl_LeapfrogJoin ([([114], v7.1), ([115], v7.1), ([116], v7.1)]) v13.1 [0, 1, 2]) fun v17 => cond v7.2 (cond v11.2 (obind (laws_at a0 1) fun v23 => cond ((List.length v11.1.2 : Int) == (IntKind.i64.wrap (2 * (Int.tmod v23 4)))) (cond ((List.length v7.1.2 : Int) == (IntKind.i64.wrap ((IntKind.i64.wrap (2 * (IntKind.i64.wrap (2 + (Int.tmod v5 6))))) + 1))) (cond v15.2.2 (cond v17.2.2 (obind (spec_EqualRelations v15.1 v17.1) fun v29 => cond v29 (cond ((List.length v15.1.2 : Int) == (IntKind.i64.wrap ((IntKind.i64.wrap (3 * (IntKind.i64.wrap (2 + (Int.tmod v5 6))))) + 1))) (cond (decide ((IntKind.i64.wrap ((IntKind.i64.wrap (2 + (Int.tmod v5 6))) * (IntKind.i64.wrap (2 + (Int.tmod v5 6))))) ≤ v15.2.1)) (obind (impl_IsWithinSeekBound v13.1 [IntKind.i64.wrap ((IntKind.i64.wrap (2 * (IntKind.i64.wrap (2 + (Int.tmod v5 6))))) + 1), IntKind.i64.wrap ((IntKind.i64.wrap (2 * (IntKind.i64.wrap (2 + (Int.tmod v5 6))))) + 1), IntKind.i64.wrap ((IntKind.i64.wrap (2 * (IntKind.i64.wrap (2 + (Int.tmod v5 6))))) + 1)] [(1, 2), (1, 2), (1, 2)] v17.2.1) fun v34 => laws_FnSkewedInstance_J1 v34) (laws_FnSkewedInstance_J1 false)) (laws_FnSkewedInstance_J1 false)) (laws_FnSkewedInstance_J1 false)) (laws_FnSkewedInstance_J1 false)) (laws_FnSkewedInstance_J1 false)) (laws_FnSkewedInstance_J1 false)) (laws_FnSkewedInstance_J1 false)) (laws_FnSkewedInstance_J1 false)) (laws_FnSkewedInstance_J1 false))
theorem laws_FnSkewedInstance_s {a0 : List Int} {r : Bool} (h : laws_FnSkewedInstance a0 = some r) : SoundAt Try.prog 9 [dL cu8 a0] (.bool r) := by
 unfold laws_FnSkewedInstance at h
 refine st lit9 rfl (rn 1 rfl (ls_seq_k fun K1 hK1 => rs (sp 1 rfl (?_))))
 obtain ⟨v2, g3, h⟩ := ob_some h
 refine qC (qa rfl (erD ecu8 _) eran) (laws_big_s g3) (evn ?_)
 rcases cond_some h with ⟨g4, h⟩ | ⟨g4, h⟩
 ·exact qT rfl g4 (rn 1 rfl (ls_ret ((by cases h; exact ⟨.inl rfl, rfl⟩))))
 ·refine qF rfl g4 (ls_skip (hK1 _ (rs (sp 1 rfl (?_)))))
  obtain ⟨v5, g6, h⟩ := ob_some h
  refine qC (qa rfl (erD ecu8 _) (qs rfl eran)) (laws_at_s g6) (sp 3 rfl (evn (rs (sp 1 rfl (?_)))))
  obtain ⟨v7, g8, h⟩ := ob_some h
  refine qC (qs rfl eran) (impl_SkewedRelation_s g8) (sp 6 rfl (evn (rs (sp 1 rfl (?_)))))
  obtain ⟨v9, g10, h⟩ := ob_some h
  refine qC (qa rfl (erD ecu8 _) (qs rfl eran)) (laws_at_s g10) (sp 1 rfl (qBs ci64 [2, Int.tmod v9 4] rfl rfl rfl zci64 (?_)))
  obtain ⟨v11, g12, h⟩ := ob_some h
  refine qC (qa rfl (erO eci64 _) eran) (impl_FullRelation_s g12) (sp 6 rfl (evn (qk [0, 3, 4, 5, 6, 7] rfl (rs (sp 6 rfl (qBs c107_do [([114], v7.1), ([115], v7.1), ([116], v7.1)] rfl rfl rfl zc107_do (sp 3 rfl (evn (rs ?_)))))))))
  obtain ⟨v13, g14, h⟩ := ob_some h
  refine qC (qs rfl eran) (spec_ParseQuery_s g14) (sp 6 rfl (evn (rs (sp 2 rfl (?_)))))
  obtain ⟨v15, g16, h⟩ := ob_some h
  refine qC (qa rfl (erg (erc (erD ec107_do _) rfl)) (qa rfl (erg (erc rfl (erc (erD ec142_o _) (erc (erD eci64 _) rfl)))) eran)) (impl_PairwiseJoin_s g16) (sp 8 rfl (evn (rs (sp 2 rfl (qBs ci64 [0, 1, 2] rfl rfl rfl zci64 (?_))))))
  obtain ⟨v17, g18, h⟩ := ob_some h
  refine qC (qa rfl (erg (erc (erD ec107_do _) rfl)) (qa rfl (erg (erc rfl (erc (erD ec142_o _) (erc (erD eci64 _) rfl)))) (qa rfl (erO eci64 _) eran))) (impl_LeapfrogJoin_s g18) (sp 8 rfl (evn (rdk (by kernel_rfl) fun K19 hK19 => ?_)))
  have kJ1 : ∀ {x20 : Bool}, laws_FnSkewedInstance_J1 x20 = some r → Jn K19 [(2, .bool x20)] := by
   intro x20 h σ' hk
   unfold laws_FnSkewedInstance_J1 at h
   exact hK19 _ (lh hk rfl (ls_ret ((by cases h; exact ⟨.inl rfl, rfl⟩))))
  refine sd 2 rfl (?_)
  rcases cond_some h with ⟨g21, h⟩ | ⟨g21, h⟩
  ·refine qgd 64 g21 rfl (sd 3 rfl (?_))
   rcases cond_some h with ⟨g22, h⟩ | ⟨g22, h⟩
   ·refine qgd 67 g22 rfl (sd 4 rfl (?_))
    obtain ⟨v23, g24, h⟩ := ob_some h
    refine ed rfl (oGR rfl rfl (qC (qa rfl (erD ecu8 _) (qs rfl eran)) (laws_at_s g24) (sd 5 rfl (?_))))
    rcases cond_some h with ⟨g25, h⟩ | ⟨g25, h⟩
    ·refine qgd 77 g25 rfl (sd 9 rfl (?_))
     rcases cond_some h with ⟨g26, h⟩ | ⟨g26, h⟩
     ·refine qgd 86 g26 rfl (sd 3 rfl (?_))
      rcases cond_some h with ⟨g27, h⟩ | ⟨g27, h⟩
      ·refine qgd 89 g27 rfl (sd 3 rfl (?_))
       rcases cond_some h with ⟨g28, h⟩ | ⟨g28, h⟩
       ·refine qgd 92 g28 rfl (sd 2 rfl (?_))
        obtain ⟨v29, g30, h⟩ := ob_some h
        refine ed rfl (oGR rfl rfl (qC (qa rfl (erg (erc rfl (erc (erD ec31_o _) rfl))) (qa rfl (erg (erc rfl (erc (erD ec31_o _) rfl))) eran)) (spec_EqualRelations_s g30) (sd 2 rfl (?_))))
        rcases cond_some h with ⟨g31, h⟩ | ⟨g31, h⟩
        ·refine qgd 97 g31 rfl (sd 9 rfl (?_))
         rcases cond_some h with ⟨g32, h⟩ | ⟨g32, h⟩
         ·refine qgd 106 g32 rfl (sd 7 rfl (?_))
          rcases cond_some h with ⟨g33, h⟩ | ⟨g33, h⟩
          ·refine qgd 113 g33 rfl (sd 10 rfl (ed rfl (oGR rfl rfl (qBs ci64 [IntKind.i64.wrap ((IntKind.i64.wrap (2 * (IntKind.i64.wrap (2 + (Int.tmod v5 6))))) + 1), IntKind.i64.wrap ((IntKind.i64.wrap (2 * (IntKind.i64.wrap (2 + (Int.tmod v5 6))))) + 1), IntKind.i64.wrap ((IntKind.i64.wrap (2 * (IntKind.i64.wrap (2 + (Int.tmod v5 6))))) + 1)] rfl rfl rfl zci64 (sd 3 rfl (ed rfl (oGR rfl rfl (qBs c115_ [(1, 2), (1, 2), (1, 2)] rfl rfl rfl zc115_ (sd 1 rfl (?_))))))))))
           obtain ⟨v34, g35, h⟩ := ob_some h
           exact ed rfl (oGR rfl rfl (qC (qa rfl (erg (erc rfl (erc (erD ec142_o _) (erc (erD eci64 _) rfl)))) (qa rfl (erO eci64 _) (qa rfl (erO ec115_ _) (qs rfl eran)))) (impl_IsWithinSeekBound_s g35) (sd 2 rfl (evdn (kJ1 h _ (okr rfl))))))
          ·exact qgd 113 g33 rfl (sd 19 rfl (evdn (kJ1 h _ (okr rfl))))
         ·exact qgd 106 g32 rfl (sd 26 rfl (evdn (kJ1 h _ (okr rfl))))
        ·exact qgd 97 g31 rfl (sd 35 rfl (evdn (kJ1 h _ (okr rfl))))
       ·exact qgd 92 g28 rfl (sd 40 rfl (evdn (kJ1 h _ (okr rfl))))
      ·exact qgd 89 g27 rfl (sd 43 rfl (evdn (kJ1 h _ (okr rfl))))
     ·exact qgd 86 g26 rfl (sd 46 rfl (evdn (kJ1 h _ (okr rfl))))
    ·exact qgd 77 g25 rfl (sd 55 rfl (evdn (kJ1 h _ (okr rfl))))
   ·exact qgd 67 g22 rfl (sd 65 rfl (evdn (kJ1 h _ (okr rfl))))
  ·exact qgd 64 g21 rfl (sd 68 rfl (evdn (kJ1 h _ (okr rfl))))
end Go.Proofs.Ytmioifafgbjjhaa
