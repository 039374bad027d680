/-
  Functions of the program as typed functions, printed by gen.py, and that the program's functions do what they say. No conditions.
-/
import Derived.Test.YtkcfahfladikkaaGSD1
namespace Go.Proofs.Ytkcfahfladikkaa
open Go.RowKit
set_option linter.unusedVariables false
set_option maxRecDepth 100000
set_option maxHeartbeats 1000000
def spec_TrieChildren_J3 (rec : ((List Int) × Int) → Option ((List Int))) (y2 : Int) (x15 : List Int) : Option ((List Int)) := rec (x15, (IntKind.i64.wrap (y2 + 1)))
def spec_TrieChildren_J2 (rec : ((List Int) × Int) → Option ((List Int))) (y1 : List Int) (y2 : Int) (e11 : Int) (x14 : Bool) : Option ((List Int)) := cond x14 (chk (List.length y1 + List.length [e11] ≤ lim) (spec_TrieChildren_J3 rec y2 (y1 ++ [e11]))) (spec_TrieChildren_J3 rec y2 y1)
def spec_TrieChildren_B1 (a0 : Y127) (a1 : List Int) (v1 : Int × Int) (rec : ((List Int) × Int) → Option ((List Int))) (s : (List Int) × Int) : Option ((List Int)) := match s with
  | (y1, y2) => cond (decide (y2 < v1.2)) (cond (decide ((List.length a1 : Int) < a0.1)) (obind (geti a0.2 y2) fun e9 => obind (geti e9 (List.length a1 : Int)) fun e11 => cond ((List.length y1 : Int) == 0) (spec_TrieChildren_J2 rec y1 y2 e11 true) (obind (geti y1 (IntKind.i64.wrap ((List.length y1 : Int) - 1))) fun e19 => spec_TrieChildren_J2 rec y1 y2 e11 (e19 != e11))) (some y1)) (some y1)
def spec_TrieChildren (a0 : Y127) (a1 : List Int) : Option ((List Int)) := obind (spec_TriePrefixRange a0 a1) fun v1 => obind (loopF (spec_TrieChildren_B1 a0 a1 v1) fz (([] : List Int), v1.1)) fun z4 => some z4
theorem spec_TrieChildren_s {a0 : Y127} {a1 : List Int} {r : (List Int)} (h : spec_TrieChildren a0 a1 = some r) : SoundAt Try.prog 225 [.agg (c197_dd a0), dL ci64 a1] (oL 3 ci64 r) := by
 unfold spec_TrieChildren at h
 refine sound_lit tbOk lit225 (nb rfl) rfl ?_
 unfold c225
 refine kp [(0, .agg (c197_dd a0)), (1, dL ci64 a1)] rfl rfl (ls_rs tbOk (oX (.agg (c197_dd a0)) rfl (ev_an rfl rfl (en [(1, dL ci64 a1), (2, .box [nI a0.1, dL c25_d a0.2])] rfl rfl (ls_rs tbOk (ev_bs [] (cs := []) rfl trivial rfl (nb rfl) rfl (oA (oL 3 ci64 []) rfl (en [(1, dL ci64 a1), (2, .box [nI a0.1, dL c25_d a0.2]), (5, oL 3 ci64 [])] rfl rfl (ls_rs tbOk (oL1 0 (.agg (c197_dd a0)) rfl (oM (dL ci64 a1) rfl (?_))))))))))))
 obtain ⟨v1, g2, h⟩ := ob_some h
 refine ev_call (era rfl (erg (erc rfl (erc (erD ec25_d _) rfl))) (era rfl (erD eci64 _) eran)) (spec_TriePrefixRange_s g2) (oM (.tup [nI v1.1, nI v1.2]) rfl (ev_ext rfl rfl rfl rfl (ev_ext rfl rfl rfl rfl (oA (nI v1.1) rfl (oA (nI v1.2) rfl (en [(1, dL ci64 a1), (2, .box [nI a0.1, dL c25_d a0.2]), (5, oL 3 ci64 []), (6, nI v1.1), (7, nI v1.2)] rfl rfl (ls_seq_k fun K3 hK3 => ls_rs tbOk (oM (nI v1.1) rfl (oA (nI v1.1) rfl (en [(1, dL ci64 a1), (2, .box [nI a0.1, dL c25_d a0.2]), (5, oL 3 ci64 []), (7, nI v1.2), (8, nI v1.1)] rfl rfl ?_))))))))))
 obtain ⟨o1, hl, hr1⟩ := ob_some h
 clear h
 have kXspec_TrieChildren_B1 : ∀ (z4 : List Int), (some z4) = some r → ∀ σ' : PS, okK σ' [(5, oL 3 ci64 z4)] → K3 σ' := by
  intro z4 h σ' hk
  refine hK3 _ (ls_keep [(5, oL 3 ci64 z4)] hk rfl (ls_rs tbOk (oT (oL 3 ci64 z4) rfl (oA (oL 3 ci64 z4) rfl (en [(4, oL 3 ci64 z4)] rfl rfl (ls_ret ?_))))))
  cases h
  exact ⟨.inl rfl, rfl⟩
 refine ls_rec (fun (s : (List Int) × Int) => match s with | (y1, y2) => [(1, dL ci64 a1), (2, .box [nI a0.1, dL c25_d a0.2]), (5, oL 3 ci64 y1), (7, nI v1.2), (8, nI y2)]) (spec_TrieChildren_B1 a0 a1 v1) fz (([] : List Int), v1.1) o1 hl (okr rfl) (fun _ => rfl) ?_
 rintro m ⟨y1, y2⟩ N h hN
 unfold spec_TrieChildren_B1 at h
 dsimp only at h
 refine ls_seq_k fun K5 hK5 => ls_rs tbOk (oM (nI y2) rfl (oM (nI v1.2) rfl (oB (nI y2) (nI v1.2) rfl rfl (oM (.bool (decide (y2 < v1.2))) rfl (?_)))))
 rcases cond_some h with ⟨g6, h⟩ | ⟨g6, h⟩
 ·refine oGR g6 rfl (oM (dL ci64 a1) rfl (oGR g6 rfl (oN (dL ci64 a1) rfl (oGR g6 rfl (oF 2 0 rfl ⟨_, rfl⟩ (oGR g6 rfl (oL1 0 (nI a0.1) rfl (oGR g6 rfl (oB (nI (List.length a1 : Int)) (nI a0.1) rfl rfl (oPT (.bool (decide ((List.length a1 : Int) < a0.1))) g6 rfl (en [(1, dL ci64 a1), (2, .box [nI a0.1, dL c25_d a0.2]), (5, oL 3 ci64 y1), (7, nI v1.2), (8, nI y2), (27, .bool (decide ((List.length a1 : Int) < a0.1)))] rfl rfl ?_)))))))))))
  rcases cond_some h with ⟨g7, h⟩ | ⟨g7, h⟩
  ·refine ls_cT rfl g7 (ls_skip (hK5 _ (kp [(1, dL ci64 a1), (2, .box [nI a0.1, dL c25_d a0.2]), (5, oL 3 ci64 y1), (7, nI v1.2), (8, nI y2)] rfl rfl (ls_seq_k fun K8 hK8 => ls_blk (ls_rs tbOk (oF 2 0 rfl ⟨_, rfl⟩ (oL1 1 (dL c25_d a0.2) rfl (oM (nI y2) rfl (?_)))))))))
   obtain ⟨e9, g10, h⟩ := ob_some h
   refine ev_ia rfl rfl rfl ⟨(geti_some g10).1, (geti_some g10).2.1⟩ (oLE y2 1 0 (dL ci64 e9) zc25_d g10 rfl (oM (dL ci64 a1) rfl (oN (dL ci64 a1) rfl (?_))))
   obtain ⟨e11, g12, h⟩ := ob_some h
   refine ev_ia rfl rfl rfl ⟨(geti_some g12).1, (geti_some g12).2.1⟩ (oLE (List.length a1 : Int) 1 0 (nI e11) zci64 g12 rfl (oA (nI e11) rfl (en [(1, dL ci64 a1), (2, .box [nI a0.1, dL c25_d a0.2]), (5, oL 3 ci64 y1), (7, nI v1.2), (8, nI y2), (9, nI e11)] rfl rfl (ls_rs_k tbOk fun K13 hK13 => ?_))))
   have kspec_TrieChildren_J2 : ∀ (x14 : Bool), spec_TrieChildren_J2 (loopF (spec_TrieChildren_B1 a0 a1 v1) m) y1 y2 e11 x14 = some o1 → ∀ σ' : PS, okK σ' [(1, dL ci64 a1), (2, .box [nI a0.1, dL c25_d a0.2]), (5, oL 3 ci64 y1), (7, nI v1.2), (8, nI y2), (9, nI e11), (51, .bool x14)] → K13 σ' := by
    intro x14 h σ' hk
    unfold spec_TrieChildren_J2 at h
    refine hK13 _ (ls_keep [(1, dL ci64 a1), (2, .box [nI a0.1, dL c25_d a0.2]), (5, oL 3 ci64 y1), (7, nI v1.2), (8, nI y2), (9, nI e11), (51, .bool x14)] hk rfl ?_)
    have kspec_TrieChildren_J3 : ∀ (x15 : List Int), spec_TrieChildren_J3 (loopF (spec_TrieChildren_B1 a0 a1 v1) m) y2 x15 = some o1 → ∀ σ' : PS, okK σ' [(1, dL ci64 a1), (2, .box [nI a0.1, dL c25_d a0.2]), (5, oL 3 ci64 x15), (7, nI v1.2), (8, nI y2)] → K8 σ' := by
     intro x15 h σ' hk
     unfold spec_TrieChildren_J3 at h
     exact hK8 _ (ls_keep [(1, dL ci64 a1), (2, .box [nI a0.1, dL c25_d a0.2]), (5, oL 3 ci64 x15), (7, nI v1.2), (8, nI y2)] hk rfl (ls_rgn tbOk (oM (nI y2) rfl (oB (nI y2) (nI 1) rfl rfl (oA (nI (IntKind.i64.wrap (y2 + 1))) rfl (evn (hN _ (x15, (IntKind.i64.wrap (y2 + 1))) h (okr rfl))))))))
    rcases cond_some h with ⟨g16, h⟩ | ⟨g16, h⟩
    ·refine ls_cT rfl g16 (ls_rgn tbOk (oT (oL 3 ci64 y1) rfl (oM (nI e11) rfl (ev_bs [nI e11] (cs := [nI e11]) rfl ⟨rfl, trivial⟩ rfl (nb rfl) rfl (?_)))))
     obtain ⟨g17, h⟩ := chk_some h
     exact ev_app (f := ci64) (l := y1) (m := [e11]) (c2 := oL 3 ci64 [e11]) rfl rfl rfl (flat_len zci64 [e11]) rfl rfl g17 rfl (oA (oL 3 ci64 (y1 ++ [e11])) rfl (evn (kspec_TrieChildren_J3 (y1 ++ [e11]) h _ (okr rfl))))
    ·exact ls_cF rfl g16 (ls_skip (kspec_TrieChildren_J3 y1 h _ (okr rfl)))
   refine oM (oL 3 ci64 y1) rfl (oN (dL ci64 y1) rfl (oB (nI (List.length y1 : Int)) (nI 0) rfl rfl (oM (.bool ((List.length y1 : Int) == 0)) rfl (?_))))
   rcases cond_some h with ⟨g18, h⟩ | ⟨g18, h⟩
   ·exact oGT g18 rfl (oGT g18 rfl (oGT g18 rfl (oGT g18 rfl (oGT g18 rfl (oGT g18 rfl (oGT g18 rfl (oGT g18 rfl (oPT (.bool true) g18 rfl (evn (kspec_TrieChildren_J2 true h _ (okr rfl)))))))))))
   ·refine oGR g18 rfl (oM (oL 3 ci64 y1) rfl (oGR g18 rfl (oM (oL 3 ci64 y1) rfl (oGR g18 rfl (oN (dL ci64 y1) rfl (oGR g18 rfl (oB (nI (List.length y1 : Int)) (nI 1) rfl rfl (?_))))))))
    obtain ⟨e19, g20, h⟩ := ob_some h
    exact oGR g18 rfl (ev_ia rfl rfl rfl ⟨(geti_some g20).1, (geti_some g20).2.1⟩ (oGR g18 rfl (oLE (IntKind.i64.wrap ((List.length y1 : Int) - 1)) 1 0 (nI e19) zci64 g20 rfl (oGR g18 rfl (oM (nI e11) rfl (oGR g18 rfl (oB (nI e19) (nI e11) rfl rfl (oPF (.bool (e19 != e11)) g18 rfl (evn (kspec_TrieChildren_J2 (e19 != e11) h _ (okr rfl)))))))))))
  ·exact ls_cF rfl g7 (ls_exit (kXspec_TrieChildren_B1 y1 (by cases h; exact hr1) _ (okr rfl)))
 ·exact oGF g6 rfl (oGF g6 rfl (oGF g6 rfl (oGF g6 rfl (oGF g6 rfl (oPF (.bool false) g6 rfl (en [(1, dL ci64 a1), (2, .box [nI a0.1, dL c25_d a0.2]), (5, oL 3 ci64 y1), (7, nI v1.2), (8, nI y2), (27, .bool false)] rfl rfl (ls_cF rfl rfl (ls_exit (kXspec_TrieChildren_B1 y1 (by cases h; exact hr1) _ (okr rfl))))))))))
def spec_l36Most_B1 (a0 : Y127) (a1 : Int) (rec : (Int × Int) → Option (Int)) (s : Int × Int) : Option (Int) := match s with
  | (y1, y2) => cond (decide (y2 < (List.length a0.2 : Int))) (obind (geti a0.2 y2) fun e6 => chk ((0 : Int) ≤ 0 ∧ 0 ≤ a1 ∧ a1 ≤ (List.length e6 : Int)) (obind (spec_TrieChildren a0 (subl e6 0 a1)) fun v9 => rec ((if y1 < (List.length v9 : Int) then (List.length v9 : Int) else y1), (IntKind.i64.wrap (y2 + 1))))) (some y1)
def spec_l36Most (a0 : Y127) (a1 : Int) : Option (Int) := obind (loopF (spec_l36Most_B1 a0 a1) fz (0, 0)) fun z2 => some z2
theorem spec_l36Most_s {a0 : Y127} {a1 : Int} {r : Int} (h : spec_l36Most a0 a1 = some r) : SoundAt Try.prog 158 [.agg (c197_dd a0), nI a1] (nI r) := by
 unfold spec_l36Most at h
 refine sound_lit tbOk lit158 (nb rfl) rfl ?_
 unfold c158
 refine kp [(0, .agg (c197_dd a0)), (1, nI a1)] rfl rfl (ls_rs tbOk (oX (.agg (c197_dd a0)) rfl (oC nofun rfl (en [(1, nI a1), (2, .box [nI a0.1, dL c25_d a0.2])] rfl rfl (ls_rs tbOk (oC nofun rfl (en [(1, nI a1), (2, .box [nI a0.1, dL c25_d a0.2]), (5, nI 0)] rfl rfl (ls_seq_k fun K1 hK1 => ls_rs tbOk (oC nofun rfl (en [(1, nI a1), (2, .box [nI a0.1, dL c25_d a0.2]), (5, nI 0), (6, nI 0)] rfl rfl ?_))))))))))
 obtain ⟨o1, hl, hr1⟩ := ob_some h
 clear h
 have kXspec_l36Most_B1 : ∀ (z2 : Int), (some z2) = some r → ∀ σ' : PS, okK σ' [(5, nI z2)] → K1 σ' := by
  intro z2 h σ' hk
  refine hK1 _ (ls_keep [(5, nI z2)] hk rfl (ls_rs tbOk (oM (nI z2) rfl (oA (nI z2) rfl (en [(4, nI z2)] rfl rfl (ls_ret ?_))))))
  cases h
  exact ⟨.inl rfl, rfl⟩
 refine ls_rec (fun (s : Int × Int) => match s with | (y1, y2) => [(1, nI a1), (2, .box [nI a0.1, dL c25_d a0.2]), (5, nI y1), (6, nI y2)]) (spec_l36Most_B1 a0 a1) fz (0, 0) o1 hl (okr rfl) (fun _ => rfl) ?_
 rintro m ⟨y1, y2⟩ N h hN
 unfold spec_l36Most_B1 at h
 dsimp only at h
 refine ls_seq_k fun K3 hK3 => ls_rs tbOk (oM (nI y2) rfl (oF 2 0 rfl ⟨_, rfl⟩ (oL1 1 (dL c25_d a0.2) rfl (oN (dL c25_d a0.2) rfl (oB (nI y2) (nI (List.length a0.2 : Int)) rfl rfl (en [(1, nI a1), (2, .box [nI a0.1, dL c25_d a0.2]), (5, nI y1), (6, nI y2), (11, .bool (decide (y2 < (List.length a0.2 : Int))))] rfl rfl ?_))))))
 rcases cond_some h with ⟨g4, h⟩ | ⟨g4, h⟩
 ·refine ls_cT rfl g4 (ls_skip (hK3 _ (kp [(1, nI a1), (2, .box [nI a0.1, dL c25_d a0.2]), (5, nI y1), (6, nI y2)] rfl rfl (ls_seq_k fun K5 hK5 => ls_blk (ls_drw tbOk mixed (by kernel_rfl) (ed rfl (oM (nI y1) rfl (ed rfl (oL1 0 (.agg (c197_dd a0)) rfl (ed rfl (oF 2 0 rfl ⟨_, rfl⟩ (ed rfl (oL1 1 (dL c25_d a0.2) rfl (ed rfl (oM (nI y2) rfl (?_))))))))))))))))
  obtain ⟨e6, g7, h⟩ := ob_some h
  refine ed rfl (ev_ia rfl rfl rfl ⟨(geti_some g7).1, (geti_some g7).2.1⟩ (ed rfl (oLE y2 1 0 (dL ci64 e6) zc25_d g7 rfl (ed rfl (oM (nI a1) rfl (?_))))))
  obtain ⟨g8, h⟩ := chk_some h
  refine ed rfl (ev_sle (lst := e6) rfl rfl zci64 rfl rfl g8 (?_))
  obtain ⟨v9, g10, h⟩ := ob_some h
  exact ed rfl (ev_call (era rfl (erg (erc rfl (erc (erD ec25_d _) rfl))) (era rfl (erD eci64 _) eran)) (spec_TrieChildren_s g10) (ed rfl (oN (oL 3 ci64 v9) rfl (ed rfl (ev_max rfl rfl (ed rfl (oA (nI (if y1 < (List.length v9 : Int) then (List.length v9 : Int) else y1)) rfl (evdn (hK5 _ (kp [(1, nI a1), (2, .box [nI a0.1, dL c25_d a0.2]), (5, nI (if y1 < (List.length v9 : Int) then (List.length v9 : Int) else y1)), (6, nI y2)] rfl rfl (ls_rgn tbOk (oM (nI y2) rfl (oB (nI y2) (nI 1) rfl rfl (oA (nI (IntKind.i64.wrap (y2 + 1))) rfl (evn (hN _ ((if y1 < (List.length v9 : Int) then (List.length v9 : Int) else y1), (IntKind.i64.wrap (y2 + 1))) h (okr rfl)))))))))))))))))
 ·exact ls_cF rfl g4 (ls_exit (kXspec_l36Most_B1 y1 (by cases h; exact hr1) _ (okr rfl)))
def c197_do (x : Y127) : List V := [nI x.1, dL c25_o x.2]
theorem zc197_do (x : Y127) : (c197_do x).length = 2 := rfl
theorem ec197_do (x : Y127) : erL (c197_do x) = c197_dd x := (erc rfl (erc (erD ec25_o _) rfl))
def spec_DegreeBound_J4 (rec : (Int × Int) → Option (Int)) (y26 : Int) (x32 : Int) : Option (Int) := rec (x32, (IntKind.i64.wrap (y26 + 1)))
def spec_DegreeBound_B3 (a1 : Y91) (a2 : List Int) (y10 : Int) (v12 : (List Int)) (y22 : Int) (rec : (Int × Int) → Option (Int)) (s : Int × Int) : Option (Int) := match s with
  | (y25, y26) => cond (decide (y26 < y10)) (obind (geti v12 y22) fun e24 => obind (geti a1.2.1 e24) fun e26 => obind (geti a2 y26) fun e28 => obind (spec_ContainsVariable e26 e28) fun v30 => cond v30 (spec_DegreeBound_J4 rec y26 (IntKind.i64.wrap (y25 + 1))) (spec_DegreeBound_J4 rec y26 y25)) (some y25)
def spec_DegreeBound_J6 (rec : (Int × Int) → Option (Int)) (y22 : Int) (x42 : Int) : Option (Int) := rec (x42, (IntKind.i64.wrap (y22 + 1)))
def spec_DegreeBound_J5 (rec : (Int × Int) → Option (Int)) (y21 : Int) (y22 : Int) (v38 : Int) (x41 : Bool) : Option (Int) := cond x41 (spec_DegreeBound_J6 rec y22 v38) (spec_DegreeBound_J6 rec y22 y21)
def spec_DegreeBound_B2 (a1 : Y91) (a2 : List Int) (v1 : (List Y127) × Bool) (y10 : Int) (v12 : (List Int)) (rec : (Int × Int) → Option (Int)) (s : Int × Int) : Option (Int) := match s with
  | (y21, y22) => cond (decide (y22 < (List.length v12 : Int))) (obind (loopF (spec_DegreeBound_B3 a1 a2 y10 v12 y22) fz (0, 0)) fun z20 => obind (geti v12 y22) fun e34 => obind (geti v1.1 e34) fun e36 => obind (spec_l36Most e36 z20) fun v38 => cond (y22 == 0) (spec_DegreeBound_J5 rec y21 y22 v38 true) (spec_DegreeBound_J5 rec y21 y22 v38 (decide (v38 < y21)))) (some y21)
def spec_DegreeBound_B1 (a1 : Y91) (a2 : List Int) (v1 : (List Y127) × Bool) (rec : (Int × Int) → Option (Int)) (s : Int × Int) : Option (Int) := match s with
  | (y9, y10) => cond (decide (y10 < (List.length a2 : Int))) (obind (geti a2 y10) fun e10 => obind (spec_AtomsWithVariable a1 e10) fun v12 => obind (loopF (spec_DegreeBound_B2 a1 a2 v1 y10 v12) fz (0, 0)) fun z15 => rec ((if (IntKind.i64.wrap (y9 * z15)) < 1000000000 then (IntKind.i64.wrap (y9 * z15)) else 1000000000), (IntKind.i64.wrap (y10 + 1)))) (some y9)
def spec_DegreeBound (a0 : List Y207) (a1 : Y91) (a2 : List Int) : Option (Int × Bool) := obind (spec_BuildTries a0 a1 a2) fun v1 => cond (!v1.2) (some (0, false)) (obind (loopF (spec_DegreeBound_B1 a1 a2 v1) fz (1, 0)) fun z6 => some (z6, true))
theorem spec_DegreeBound_s {a0 : List Y207} {a1 : Y91} {a2 : List Int} {r : Int × Bool} (h : spec_DegreeBound a0 a1 a2 = some r) : SoundAt Try.prog 64 [.agg [dL c208_dd a0], .agg (c92_ddd a1), dL ci64 a2] (.tup [nI r.1, .bool r.2]) := by
 unfold spec_DegreeBound at h
 refine sound_lit tbOk lit64 (nb rfl) rfl ?_
 unfold c64
 refine kp [(0, .agg [dL c208_dd a0]), (1, .agg (c92_ddd a1)), (2, dL ci64 a2)] rfl rfl (ls_rs tbOk (oX (.agg [dL c208_dd a0]) rfl (oX (.agg (c92_ddd a1)) rfl (oC nofun rfl (oC nofun rfl (en [(2, dL ci64 a2), (3, .box [dL c208_dd a0]), (4, .box [nI a1.1, dL c195_d a1.2.1, dL ci64 a1.2.2])] rfl rfl (ls_rs tbOk (oL1 0 (.agg [dL c208_dd a0]) rfl (oL1 0 (.agg (c92_ddd a1)) rfl (oM (dL ci64 a2) rfl (?_)))))))))))
 obtain ⟨v1, g2, h⟩ := ob_some h
 refine ev_call (era rfl (erg (erc (erD ec208_dd _) rfl)) (era rfl (erg (erc rfl (erc (erD ec195_d _) (erc (erD eci64 _) rfl)))) (era rfl (erD eci64 _) eran))) (spec_BuildTries_s g2) (oT (.tup [oL 197 c197_oo v1.1, .bool v1.2]) rfl (ev_ext rfl rfl rfl rfl (ev_ext rfl rfl rfl rfl (oA (oL 197 c197_oo v1.1) rfl (oA (.bool v1.2) rfl (en [(2, dL ci64 a2), (4, .box [nI a1.1, dL c195_d a1.2.1, dL ci64 a1.2.2]), (8, oL 197 c197_oo v1.1), (9, .bool v1.2)] rfl rfl (ls_seq_k fun K3 hK3 => ls_rs tbOk (oM (.bool v1.2) rfl (ev_un (c1 := .bool v1.2) rfl trivial (en [(2, dL ci64 a2), (4, .box [nI a1.1, dL c195_d a1.2.1, dL ci64 a1.2.2]), (8, oL 197 c197_oo v1.1), (26, .bool (!v1.2))] rfl rfl ?_))))))))))
 rcases cond_some h with ⟨g4, h⟩ | ⟨g4, h⟩
 ·refine ls_cT rfl g4 (ls_rs tbOk (oC nofun rfl (oC nofun rfl (en [(6, nI 0), (7, .bool false)] rfl rfl (ls_ret ?_)))))
  cases h
  exact ⟨.inl rfl, rfl⟩
 ·refine ls_cF rfl g4 (ls_skip (hK3 _ (kp [(2, dL ci64 a2), (4, .box [nI a1.1, dL c195_d a1.2.1, dL ci64 a1.2.2]), (8, oL 197 c197_oo v1.1)] rfl rfl (ls_rs tbOk (oC nofun rfl (en [(2, dL ci64 a2), (4, .box [nI a1.1, dL c195_d a1.2.1, dL ci64 a1.2.2]), (8, oL 197 c197_oo v1.1), (10, nI 1)] rfl rfl (ls_seq_k fun K5 hK5 => ls_rs tbOk (oC nofun rfl (en [(2, dL ci64 a2), (4, .box [nI a1.1, dL c195_d a1.2.1, dL ci64 a1.2.2]), (8, oL 197 c197_oo v1.1), (10, nI 1), (11, nI 0)] rfl rfl ?_)))))))))
  obtain ⟨o1, hl, hr1⟩ := ob_some h
  clear h
  have kXspec_DegreeBound_B1 : ∀ (z6 : Int), (some (z6, true)) = some r → ∀ σ' : PS, okK σ' [(10, nI z6)] → K5 σ' := by
   intro z6 h σ' hk
   refine hK5 _ (ls_keep [(10, nI z6)] hk rfl (ls_rs tbOk (oM (nI z6) rfl (oA (nI z6) rfl (oC nofun rfl (en [(6, nI z6), (7, .bool true)] rfl rfl (ls_ret ?_)))))))
   cases h
   exact ⟨.inl rfl, rfl⟩
  refine ls_rec (fun (s : Int × Int) => match s with | (y9, y10) => [(2, dL ci64 a2), (4, .box [nI a1.1, dL c195_d a1.2.1, dL ci64 a1.2.2]), (8, oL 197 c197_oo v1.1), (10, nI y9), (11, nI y10)]) (spec_DegreeBound_B1 a1 a2 v1) fz (1, 0) o1 hl (okr rfl) (fun _ => rfl) ?_
  rintro m ⟨y9, y10⟩ N h hN
  unfold spec_DegreeBound_B1 at h
  dsimp only at h
  refine ls_seq_k fun K7 hK7 => ls_rs tbOk (oM (nI y10) rfl (oM (dL ci64 a2) rfl (oN (dL ci64 a2) rfl (oB (nI y10) (nI (List.length a2 : Int)) rfl rfl (en [(2, dL ci64 a2), (4, .box [nI a1.1, dL c195_d a1.2.1, dL ci64 a1.2.2]), (8, oL 197 c197_oo v1.1), (10, nI y9), (11, nI y10), (30, .bool (decide (y10 < (List.length a2 : Int))))] rfl rfl ?_)))))
  rcases cond_some h with ⟨g8, h⟩ | ⟨g8, h⟩
  ·refine ls_cT rfl g8 (ls_skip (hK7 _ (kp [(2, dL ci64 a2), (4, .box [nI a1.1, dL c195_d a1.2.1, dL ci64 a1.2.2]), (8, oL 197 c197_oo v1.1), (10, nI y9), (11, nI y10)] rfl rfl (ls_seq_k fun K9 hK9 => ls_blk (ls_rd tbOk mixed (by kernel_rfl) (ed rfl (oL1 0 (.agg (c92_ddd a1)) rfl (ed rfl (oM (dL ci64 a2) rfl (ed rfl (oM (nI y10) rfl (?_))))))))))))
   obtain ⟨e10, g11, h⟩ := ob_some h
   refine ed rfl (ev_ia rfl rfl rfl ⟨(geti_some g11).1, (geti_some g11).2.1⟩ (ed rfl (oLE y10 1 0 (nI e10) zci64 g11 rfl (?_))))
   obtain ⟨v12, g13, h⟩ := ob_some h
   refine ed rfl (ev_call (era rfl (erg (erc rfl (erc (erD ec195_d _) (erc (erD eci64 _) rfl)))) (era rfl rfl eran)) (spec_AtomsWithVariable_s g13) (ed rfl (oA (oL 3 ci64 v12) rfl (evdn (kp [(2, dL ci64 a2), (4, .box [nI a1.1, dL c195_d a1.2.1, dL ci64 a1.2.2]), (8, oL 197 c197_oo v1.1), (10, nI y9), (11, nI y10), (12, oL 3 ci64 v12)] rfl rfl (ls_rs tbOk (oC nofun rfl (en [(2, dL ci64 a2), (4, .box [nI a1.1, dL c195_d a1.2.1, dL ci64 a1.2.2]), (8, oL 197 c197_oo v1.1), (10, nI y9), (11, nI y10), (12, oL 3 ci64 v12), (13, nI 0)] rfl rfl (ls_seq_k fun K14 hK14 => ls_rs tbOk (oC nofun rfl (en [(2, dL ci64 a2), (4, .box [nI a1.1, dL c195_d a1.2.1, dL ci64 a1.2.2]), (8, oL 197 c197_oo v1.1), (10, nI y9), (11, nI y10), (12, oL 3 ci64 v12), (13, nI 0), (14, nI 0)] rfl rfl ?_)))))))))))
   obtain ⟨o2, hl, hr2⟩ := ob_some h
   clear h
   have kXspec_DegreeBound_B2 : ∀ (z15 : Int), ((loopF (spec_DegreeBound_B1 a1 a2 v1) m) ((if (IntKind.i64.wrap (y9 * z15)) < 1000000000 then (IntKind.i64.wrap (y9 * z15)) else 1000000000), (IntKind.i64.wrap (y10 + 1)))) = some o1 → ∀ σ' : PS, okK σ' [(2, dL ci64 a2), (4, .box [nI a1.1, dL c195_d a1.2.1, dL ci64 a1.2.2]), (8, oL 197 c197_oo v1.1), (10, nI y9), (11, nI y10), (13, nI z15)] → K14 σ' := by
    intro z15 h σ' hk
    exact hK14 _ (ls_keep [(2, dL ci64 a2), (4, .box [nI a1.1, dL c195_d a1.2.1, dL ci64 a1.2.2]), (8, oL 197 c197_oo v1.1), (10, nI y9), (11, nI y10), (13, nI z15)] hk rfl (ls_rgn tbOk (oM (nI y9) rfl (oM (nI z15) rfl (oB (nI y9) (nI z15) rfl rfl (ev_min rfl rfl (oA (nI (if (IntKind.i64.wrap (y9 * z15)) < 1000000000 then (IntKind.i64.wrap (y9 * z15)) else 1000000000)) rfl (evn (hK9 _ (kp [(2, dL ci64 a2), (4, .box [nI a1.1, dL c195_d a1.2.1, dL ci64 a1.2.2]), (8, oL 197 c197_oo v1.1), (10, nI (if (IntKind.i64.wrap (y9 * z15)) < 1000000000 then (IntKind.i64.wrap (y9 * z15)) else 1000000000)), (11, nI y10)] rfl rfl (ls_rgn tbOk (oM (nI y10) rfl (oB (nI y10) (nI 1) rfl rfl (oA (nI (IntKind.i64.wrap (y10 + 1))) rfl (evn (hN _ ((if (IntKind.i64.wrap (y9 * z15)) < 1000000000 then (IntKind.i64.wrap (y9 * z15)) else 1000000000), (IntKind.i64.wrap (y10 + 1))) h (okr rfl)))))))))))))))))
   refine ls_rec (fun (s : Int × Int) => match s with | (y21, y22) => [(2, dL ci64 a2), (4, .box [nI a1.1, dL c195_d a1.2.1, dL ci64 a1.2.2]), (8, oL 197 c197_oo v1.1), (10, nI y9), (11, nI y10), (12, oL 3 ci64 v12), (13, nI y21), (14, nI y22)]) (spec_DegreeBound_B2 a1 a2 v1 y10 v12) fz (0, 0) o2 hl (okr rfl) (fun _ => rfl) ?_
   rintro m ⟨y21, y22⟩ N h hN
   unfold spec_DegreeBound_B2 at h
   dsimp only at h
   refine ls_seq_k fun K16 hK16 => ls_rs tbOk (oM (nI y22) rfl (oM (oL 3 ci64 v12) rfl (oN (dL ci64 v12) rfl (oB (nI y22) (nI (List.length v12 : Int)) rfl rfl (en [(2, dL ci64 a2), (4, .box [nI a1.1, dL c195_d a1.2.1, dL ci64 a1.2.2]), (8, oL 197 c197_oo v1.1), (10, nI y9), (11, nI y10), (12, oL 3 ci64 v12), (13, nI y21), (14, nI y22), (42, .bool (decide (y22 < (List.length v12 : Int))))] rfl rfl ?_)))))
   rcases cond_some h with ⟨g17, h⟩ | ⟨g17, h⟩
   ·refine ls_cT rfl g17 (ls_skip (hK16 _ (kp [(2, dL ci64 a2), (4, .box [nI a1.1, dL c195_d a1.2.1, dL ci64 a1.2.2]), (8, oL 197 c197_oo v1.1), (10, nI y9), (11, nI y10), (12, oL 3 ci64 v12), (13, nI y21), (14, nI y22)] rfl rfl (ls_seq_k fun K18 hK18 => ls_blk (ls_rs tbOk (oC nofun rfl (en [(2, dL ci64 a2), (4, .box [nI a1.1, dL c195_d a1.2.1, dL ci64 a1.2.2]), (8, oL 197 c197_oo v1.1), (10, nI y9), (11, nI y10), (12, oL 3 ci64 v12), (13, nI y21), (14, nI y22), (15, nI 0)] rfl rfl (ls_seq_k fun K19 hK19 => ls_rs tbOk (oC nofun rfl (en [(2, dL ci64 a2), (4, .box [nI a1.1, dL c195_d a1.2.1, dL ci64 a1.2.2]), (8, oL 197 c197_oo v1.1), (10, nI y9), (11, nI y10), (12, oL 3 ci64 v12), (13, nI y21), (14, nI y22), (15, nI 0), (16, nI 0)] rfl rfl ?_))))))))))
    obtain ⟨o3, hl, hr3⟩ := ob_some h
    clear h
    have kXspec_DegreeBound_B3 : ∀ (z20 : Int), (obind (geti v12 y22) fun e34 => obind (geti v1.1 e34) fun e36 => obind (spec_l36Most e36 z20) fun v38 => cond (y22 == 0) (spec_DegreeBound_J5 (loopF (spec_DegreeBound_B2 a1 a2 v1 y10 v12) m) y21 y22 v38 true) (spec_DegreeBound_J5 (loopF (spec_DegreeBound_B2 a1 a2 v1 y10 v12) m) y21 y22 v38 (decide (v38 < y21)))) = some o2 → ∀ σ' : PS, okK σ' [(2, dL ci64 a2), (4, .box [nI a1.1, dL c195_d a1.2.1, dL ci64 a1.2.2]), (8, oL 197 c197_oo v1.1), (10, nI y9), (11, nI y10), (12, oL 3 ci64 v12), (13, nI y21), (14, nI y22), (15, nI z20)] → K19 σ' := by
     intro z20 h σ' hk
     refine hK19 _ (ls_keep [(2, dL ci64 a2), (4, .box [nI a1.1, dL c195_d a1.2.1, dL ci64 a1.2.2]), (8, oL 197 c197_oo v1.1), (10, nI y9), (11, nI y10), (12, oL 3 ci64 v12), (13, nI y21), (14, nI y22), (15, nI z20)] hk rfl (ls_rs tbOk (oM (oL 197 c197_oo v1.1) rfl (oM (oL 3 ci64 v12) rfl (oM (nI y22) rfl (?_))))))
     obtain ⟨e34, g35, h⟩ := ob_some h
     refine ev_ia rfl rfl rfl ⟨(geti_some g35).1, (geti_some g35).2.1⟩ (oLE y22 1 0 (nI e34) zci64 g35 rfl (?_))
     obtain ⟨e36, g37, h⟩ := ob_some h
     refine ev_ia rfl rfl rfl ⟨(geti_some g37).1, (geti_some g37).2.1⟩ (oLE e34 2 0 (.agg (c197_do e36)) zc197_oo g37 rfl (oM (nI z20) rfl (?_)))
     obtain ⟨v38, g39, h⟩ := ob_some h
     refine ev_call (era rfl (erg (erc rfl (erc (erD ec25_o _) rfl))) (era rfl rfl eran)) (spec_l36Most_s g39) (oA (nI v38) rfl (en [(2, dL ci64 a2), (4, .box [nI a1.1, dL c195_d a1.2.1, dL ci64 a1.2.2]), (8, oL 197 c197_oo v1.1), (10, nI y9), (11, nI y10), (12, oL 3 ci64 v12), (13, nI y21), (14, nI y22), (17, nI v38)] rfl rfl (ls_rs_k tbOk fun K40 hK40 => ?_)))
     have kspec_DegreeBound_J5 : ∀ (x41 : Bool), spec_DegreeBound_J5 (loopF (spec_DegreeBound_B2 a1 a2 v1 y10 v12) m) y21 y22 v38 x41 = some o2 → ∀ σ' : PS, okK σ' [(2, dL ci64 a2), (4, .box [nI a1.1, dL c195_d a1.2.1, dL ci64 a1.2.2]), (8, oL 197 c197_oo v1.1), (10, nI y9), (11, nI y10), (12, oL 3 ci64 v12), (13, nI y21), (14, nI y22), (17, nI v38), (80, .bool x41)] → K40 σ' := by
      intro x41 h σ' hk
      unfold spec_DegreeBound_J5 at h
      refine hK40 _ (ls_keep [(2, dL ci64 a2), (4, .box [nI a1.1, dL c195_d a1.2.1, dL ci64 a1.2.2]), (8, oL 197 c197_oo v1.1), (10, nI y9), (11, nI y10), (12, oL 3 ci64 v12), (13, nI y21), (14, nI y22), (17, nI v38), (80, .bool x41)] hk rfl ?_)
      have kspec_DegreeBound_J6 : ∀ (x42 : Int), spec_DegreeBound_J6 (loopF (spec_DegreeBound_B2 a1 a2 v1 y10 v12) m) y22 x42 = some o2 → ∀ σ' : PS, okK σ' [(2, dL ci64 a2), (4, .box [nI a1.1, dL c195_d a1.2.1, dL ci64 a1.2.2]), (8, oL 197 c197_oo v1.1), (10, nI y9), (11, nI y10), (12, oL 3 ci64 v12), (13, nI x42), (14, nI y22)] → K18 σ' := by
       intro x42 h σ' hk
       unfold spec_DegreeBound_J6 at h
       exact hK18 _ (ls_keep [(2, dL ci64 a2), (4, .box [nI a1.1, dL c195_d a1.2.1, dL ci64 a1.2.2]), (8, oL 197 c197_oo v1.1), (10, nI y9), (11, nI y10), (12, oL 3 ci64 v12), (13, nI x42), (14, nI y22)] hk rfl (ls_rgn tbOk (oM (nI y22) rfl (oB (nI y22) (nI 1) rfl rfl (oA (nI (IntKind.i64.wrap (y22 + 1))) rfl (evn (hN _ (x42, (IntKind.i64.wrap (y22 + 1))) h (okr rfl))))))))
      rcases cond_some h with ⟨g43, h⟩ | ⟨g43, h⟩
      ·exact ls_cT rfl g43 (ls_rgn tbOk (oM (nI v38) rfl (oA (nI v38) rfl (evn (kspec_DegreeBound_J6 v38 h _ (okr rfl))))))
      ·exact ls_cF rfl g43 (ls_skip (kspec_DegreeBound_J6 y21 h _ (okr rfl)))
     refine oM (nI y22) rfl (oB (nI y22) (nI 0) rfl rfl (oM (.bool (y22 == 0)) rfl (?_)))
     rcases cond_some h with ⟨g44, h⟩ | ⟨g44, h⟩
     ·exact oGT g44 rfl (oGT g44 rfl (oGT g44 rfl (oPT (.bool true) g44 rfl (evn (kspec_DegreeBound_J5 true h _ (okr rfl))))))
     ·exact oGR g44 rfl (oM (nI v38) rfl (oGR g44 rfl (oM (nI y21) rfl (oGR g44 rfl (oB (nI v38) (nI y21) rfl rfl (oPF (.bool (decide (v38 < y21))) g44 rfl (evn (kspec_DegreeBound_J5 (decide (v38 < y21)) h _ (okr rfl)))))))))
    refine ls_rec (fun (s : Int × Int) => match s with | (y25, y26) => [(2, dL ci64 a2), (4, .box [nI a1.1, dL c195_d a1.2.1, dL ci64 a1.2.2]), (8, oL 197 c197_oo v1.1), (10, nI y9), (11, nI y10), (12, oL 3 ci64 v12), (13, nI y21), (14, nI y22), (15, nI y25), (16, nI y26)]) (spec_DegreeBound_B3 a1 a2 y10 v12 y22) fz (0, 0) o3 hl (okr rfl) (fun _ => rfl) ?_
    rintro m ⟨y25, y26⟩ N h hN
    unfold spec_DegreeBound_B3 at h
    dsimp only at h
    refine ls_seq_k fun K21 hK21 => ls_rs tbOk (oM (nI y26) rfl (oM (nI y10) rfl (oB (nI y26) (nI y10) rfl rfl (en [(2, dL ci64 a2), (4, .box [nI a1.1, dL c195_d a1.2.1, dL ci64 a1.2.2]), (8, oL 197 c197_oo v1.1), (10, nI y9), (11, nI y10), (12, oL 3 ci64 v12), (13, nI y21), (14, nI y22), (15, nI y25), (16, nI y26), (47, .bool (decide (y26 < y10)))] rfl rfl ?_))))
    rcases cond_some h with ⟨g22, h⟩ | ⟨g22, h⟩
    ·refine ls_cT rfl g22 (ls_skip (hK21 _ (kp [(2, dL ci64 a2), (4, .box [nI a1.1, dL c195_d a1.2.1, dL ci64 a1.2.2]), (8, oL 197 c197_oo v1.1), (10, nI y9), (11, nI y10), (12, oL 3 ci64 v12), (13, nI y21), (14, nI y22), (15, nI y25), (16, nI y26)] rfl rfl (ls_seq_k fun K23 hK23 => ls_blk (ls_rd tbOk mixed (by kernel_rfl) (ed rfl (oF 4 0 rfl ⟨_, rfl⟩ (ed rfl (oL1 1 (dL c195_d a1.2.1) rfl (ed rfl (oM (oL 3 ci64 v12) rfl (ed rfl (oM (nI y22) rfl (?_))))))))))))))
     obtain ⟨e24, g25, h⟩ := ob_some h
     refine ed rfl (ev_ia rfl rfl rfl ⟨(geti_some g25).1, (geti_some g25).2.1⟩ (ed rfl (oLE y22 1 0 (nI e24) zci64 g25 rfl (?_))))
     obtain ⟨e26, g27, h⟩ := ob_some h
     refine ed rfl (ev_ia rfl rfl rfl ⟨(geti_some g27).1, (geti_some g27).2.1⟩ (ed rfl (oLE e24 2 0 (.agg (c195_d e26)) zc195_d g27 rfl (ed rfl (oM (dL ci64 a2) rfl (ed rfl (oM (nI y26) rfl (?_))))))))
     obtain ⟨e28, g29, h⟩ := ob_some h
     refine ed rfl (ev_ia rfl rfl rfl ⟨(geti_some g29).1, (geti_some g29).2.1⟩ (ed rfl (oLE y26 1 0 (nI e28) zci64 g29 rfl (?_))))
     obtain ⟨v30, g31, h⟩ := ob_some h
     refine ed rfl (ev_call (era rfl (erg (erc rfl (erc (erD eci64 _) rfl))) (era rfl rfl eran)) (spec_ContainsVariable_s g31) (evdn (kp [(2, dL ci64 a2), (4, .box [nI a1.1, dL c195_d a1.2.1, dL ci64 a1.2.2]), (8, oL 197 c197_oo v1.1), (10, nI y9), (11, nI y10), (12, oL 3 ci64 v12), (13, nI y21), (14, nI y22), (15, nI y25), (16, nI y26), (62, .bool v30)] rfl rfl ?_)))
     have kspec_DegreeBound_J4 : ∀ (x32 : Int), spec_DegreeBound_J4 (loopF (spec_DegreeBound_B3 a1 a2 y10 v12 y22) m) y26 x32 = some o3 → ∀ σ' : PS, okK σ' [(2, dL ci64 a2), (4, .box [nI a1.1, dL c195_d a1.2.1, dL ci64 a1.2.2]), (8, oL 197 c197_oo v1.1), (10, nI y9), (11, nI y10), (12, oL 3 ci64 v12), (13, nI y21), (14, nI y22), (15, nI x32), (16, nI y26)] → K23 σ' := by
      intro x32 h σ' hk
      unfold spec_DegreeBound_J4 at h
      exact hK23 _ (ls_keep [(2, dL ci64 a2), (4, .box [nI a1.1, dL c195_d a1.2.1, dL ci64 a1.2.2]), (8, oL 197 c197_oo v1.1), (10, nI y9), (11, nI y10), (12, oL 3 ci64 v12), (13, nI y21), (14, nI y22), (15, nI x32), (16, nI y26)] hk rfl (ls_rgn tbOk (oM (nI y26) rfl (oB (nI y26) (nI 1) rfl rfl (oA (nI (IntKind.i64.wrap (y26 + 1))) rfl (evn (hN _ (x32, (IntKind.i64.wrap (y26 + 1))) h (okr rfl))))))))
     rcases cond_some h with ⟨g33, h⟩ | ⟨g33, h⟩
     ·exact ls_cT rfl g33 (ls_rgn tbOk (oM (nI y25) rfl (oB (nI y25) (nI 1) rfl rfl (oA (nI (IntKind.i64.wrap (y25 + 1))) rfl (evn (kspec_DegreeBound_J4 (IntKind.i64.wrap (y25 + 1)) h _ (okr rfl)))))))
     ·exact ls_cF rfl g33 (ls_skip (kspec_DegreeBound_J4 y25 h _ (okr rfl)))
    ·exact ls_cF rfl g22 (ls_exit (kXspec_DegreeBound_B3 y25 (by cases h; exact hr3) _ (okr rfl)))
   ·exact ls_cF rfl g17 (ls_exit (kXspec_DegreeBound_B2 y21 (by cases h; exact hr2) _ (okr rfl)))
  ·exact ls_cF rfl g8 (ls_exit (kXspec_DegreeBound_B1 y9 (by cases h; exact hr1) _ (okr rfl)))
def impl_within_J1 (x2 : Bool) : Option (Bool) := some x2
def impl_within (a0 : Int) (a1 : Int) (a2 : Int) : Option (Bool) := cond (decide (a1 ≤ a0)) (impl_within_J1 (decide (a0 ≤ a2))) (impl_within_J1 false)
theorem impl_within_s {a0 : Int} {a1 : Int} {a2 : Int} {r : Bool} (h : impl_within a0 a1 a2 = some r) : SoundAt Try.prog 90 [nI a0, nI a1, nI a2] (.bool r) := by
 unfold impl_within at h
 refine sound_lit tbOk lit90 (nb rfl) rfl ?_
 unfold c90
 refine kp [(0, nI a0), (1, nI a1), (2, nI a2)] rfl rfl (ls_rs tbOk (oC nofun rfl (en [(0, nI a0), (1, nI a1), (2, nI a2)] rfl rfl (ls_rs_k tbOk fun K1 hK1 => ?_))))
 have kimpl_within_J1 : ∀ (x2 : Bool), impl_within_J1 x2 = some r → ∀ σ' : PS, okK σ' [(6, .bool x2)] → K1 σ' := by
  intro x2 h σ' hk
  unfold impl_within_J1 at h
  refine hK1 _ (ls_keep [(6, .bool x2)] hk rfl (ls_ret ?_))
  cases h
  exact ⟨.inl rfl, rfl⟩
 refine oM (nI a0) rfl (oM (nI a1) rfl (oB (nI a0) (nI a1) rfl rfl (oM (.bool (decide (a1 ≤ a0))) rfl (?_))))
 rcases cond_some h with ⟨g3, h⟩ | ⟨g3, h⟩
 ·exact oGR g3 rfl (oM (nI a0) rfl (oGR g3 rfl (oM (nI a2) rfl (oGR g3 rfl (oB (nI a0) (nI a2) rfl rfl (oPT (.bool (decide (a0 ≤ a2))) g3 rfl (oA (.bool (decide (a0 ≤ a2))) rfl (evn (kimpl_within_J1 (decide (a0 ≤ a2)) h _ (okr rfl))))))))))
 ·exact oGF g3 rfl (oGF g3 rfl (oGF g3 rfl (oPF (.bool false) g3 rfl (oA (.bool false) rfl (evn (kimpl_within_J1 false h _ (okr rfl)))))))
def impl_indexOf_B1 (a0 : List Int) (a1 : Int) (rec : Int → Option (Sum (Unit) (Int))) (y1 : Int) : Option (Sum (Unit) (Int)) := cond (decide (y1 < (List.length a0 : Int))) (obind (geti a0 y1) fun e5 => cond (e5 == a1) (some (.inr y1)) (rec (IntKind.i64.wrap (y1 + 1)))) (some (.inl ()))
def impl_indexOf (a0 : List Int) (a1 : Int) : Option (Int) := obind (loopF (impl_indexOf_B1 a0 a1) fz 0) fun o1 => (match o1 with
  | .inl _ => (some (-1))
  | .inr r => some r)
theorem impl_indexOf_s {a0 : List Int} {a1 : Int} {r : Int} (h : impl_indexOf a0 a1 = some r) : SoundAt Try.prog 252 [dL ci64 a0, nI a1] (nI r) := by
 unfold impl_indexOf at h
 refine sound_lit tbOk lit252 (nb rfl) rfl ?_
 unfold c252
 refine kp [(0, dL ci64 a0), (1, nI a1)] rfl rfl (ls_rs tbOk (oC nofun rfl (en [(0, dL ci64 a0), (1, nI a1)] rfl rfl (ls_seq_k fun K1 hK1 => ls_rs tbOk (oM (dL ci64 a0) rfl (oN (dL ci64 a0) rfl (ev_mc rfl rfl (en [(1, nI a1), (7, dL ci64 a0), (8, nI (List.length a0 : Int)), (9, nI 0)] rfl rfl ?_))))))))
 obtain ⟨o1, hl, hr1⟩ := ob_some h
 clear h
 have kXimpl_indexOf_B1 : ∀ (_ : Unit), (some (-1)) = some r → ∀ σ' : PS, okK σ' [] → K1 σ' := by
  intro _ h σ' hk
  refine hK1 _ (ls_keep [] hk rfl (ls_rs tbOk (oC nofun rfl (en [(4, nI (-1))] rfl rfl (ls_ret ?_)))))
  cases h
  exact ⟨.inl rfl, rfl⟩
 refine ls_rec (fun (y1 : Int) => [(1, nI a1), (7, dL ci64 a0), (8, nI (List.length a0 : Int)), (9, nI y1)]) (impl_indexOf_B1 a0 a1) fz 0 o1 hl (okr rfl) (fun _ => rfl) ?_
 rintro m y1 N h hN
 unfold impl_indexOf_B1 at h
 refine ls_rs tbOk (oB (nI y1) (nI (List.length a0 : Int)) rfl rfl (en [(1, nI a1), (7, dL ci64 a0), (8, nI (List.length a0 : Int)), (9, nI y1), (10, .bool (decide (y1 < (List.length a0 : Int))))] rfl rfl (ls_seq_k fun K2 hK2 => ?_)))
 rcases cond_some h with ⟨g3, h⟩ | ⟨g3, h⟩
 ·refine ls_cT rfl g3 (ls_skip (hK2 _ (kp [(1, nI a1), (7, dL ci64 a0), (8, nI (List.length a0 : Int)), (9, nI y1)] rfl rfl (ls_seq_k fun K4 hK4 => ls_blk (ls_rs tbOk (oM (nI y1) rfl (?_)))))))
  obtain ⟨e5, g6, h⟩ := ob_some h
  refine ev_ia rfl rfl rfl ⟨(geti_some g6).1, (geti_some g6).2.1⟩ (oLE y1 1 0 (nI e5) zci64 g6 rfl (oA (nI y1) rfl (oA (nI e5) rfl (en [(1, nI a1), (5, nI y1), (6, nI e5), (7, dL ci64 a0), (8, nI (List.length a0 : Int)), (9, nI y1)] rfl rfl (ls_rs tbOk (oM (nI e5) rfl (oM (nI a1) rfl (oB (nI e5) (nI a1) rfl rfl (en [(1, nI a1), (5, nI y1), (7, dL ci64 a0), (8, nI (List.length a0 : Int)), (9, nI y1), (16, .bool (e5 == a1))] rfl rfl ?_)))))))))
  rcases cond_some h with ⟨g7, h⟩ | ⟨g7, h⟩
  ·refine ls_cT rfl g7 (ls_rs tbOk (oM (nI y1) rfl (oA (nI y1) rfl (en [(4, nI y1)] rfl rfl (ls_ret ?_)))))
   cases h
   cases hr1
   exact ⟨.inl rfl, rfl⟩
  ·exact ls_cF rfl g7 (ls_skip (hK4 _ (kp [(1, nI a1), (7, dL ci64 a0), (8, nI (List.length a0 : Int)), (9, nI y1)] rfl rfl (ls_rgn tbOk (oB (nI y1) (nI 1) rfl rfl (oM (nI (IntKind.i64.wrap (y1 + 1))) rfl (evn (hN _ (IntKind.i64.wrap (y1 + 1)) h (okr rfl)))))))))
 ·exact ls_cF rfl g3 (ls_exit (kXimpl_indexOf_B1 () (by cases h; exact hr1) _ trivial))
def impl_hasInt (a0 : List Int) (a1 : Int) : Option (Bool) := obind (impl_indexOf a0 a1) fun v1 => some (decide (0 ≤ v1))
theorem impl_hasInt_s {a0 : List Int} {a1 : Int} {r : Bool} (h : impl_hasInt a0 a1 = some r) : SoundAt Try.prog 230 [dL ci64 a0, nI a1] (.bool r) := by
 unfold impl_hasInt at h
 refine sound_lit tbOk lit230 (nb rfl) rfl ?_
 unfold c230
 refine kp [(0, dL ci64 a0), (1, nI a1)] rfl rfl (ls_rs tbOk (oC nofun rfl (en [(0, dL ci64 a0), (1, nI a1)] rfl rfl (ls_rs tbOk (oM (dL ci64 a0) rfl (oM (nI a1) rfl (?_)))))))
 obtain ⟨v1, g2, h⟩ := ob_some h
 refine ev_call (era rfl (erD eci64 _) (era rfl rfl eran)) (impl_indexOf_s g2) (oB (nI v1) (nI 0) rfl rfl (oA (.bool (decide (0 ≤ v1))) rfl (en [(4, .bool (decide (0 ≤ v1)))] rfl rfl (ls_ret ?_))))
 cases h
 exact ⟨.inl rfl, rfl⟩
def impl_isSetOf_B1 (a0 : List Int) (a1 : Int) (rec : Int → Option (Sum (Unit) (Bool))) (y1 : Int) : Option (Sum (Unit) (Bool)) := cond (decide (y1 < (List.length a0 : Int))) (obind (geti a0 y1) fun e5 => obind (impl_within e5 0 (IntKind.i64.wrap (a1 - 1))) fun v7 => cond (!v7) (some (.inr false)) (chk ((0 : Int) ≤ 0 ∧ 0 ≤ y1 ∧ y1 ≤ (List.length a0 : Int)) (obind (impl_hasInt (subl a0 0 y1) e5) fun v11 => cond v11 (some (.inr false)) (rec (IntKind.i64.wrap (y1 + 1)))))) (some (.inl ()))
def impl_isSetOf (a0 : List Int) (a1 : Int) : Option (Bool) := obind (loopF (impl_isSetOf_B1 a0 a1) fz 0) fun o1 => (match o1 with
  | .inl _ => (some true)
  | .inr r => some r)
theorem impl_isSetOf_s {a0 : List Int} {a1 : Int} {r : Bool} (h : impl_isSetOf a0 a1 = some r) : SoundAt Try.prog 213 [dL ci64 a0, nI a1] (.bool r) := by
 unfold impl_isSetOf at h
 refine sound_lit tbOk lit213 (nb rfl) rfl ?_
 unfold c213
 refine kp [(0, dL ci64 a0), (1, nI a1)] rfl rfl (ls_rs tbOk (oC nofun rfl (en [(0, dL ci64 a0), (1, nI a1)] rfl rfl (ls_seq_k fun K1 hK1 => ls_rs tbOk (oM (dL ci64 a0) rfl (oN (dL ci64 a0) rfl (ev_mc rfl rfl (en [(0, dL ci64 a0), (1, nI a1), (7, dL ci64 a0), (8, nI (List.length a0 : Int)), (9, nI 0)] rfl rfl ?_))))))))
 obtain ⟨o1, hl, hr1⟩ := ob_some h
 clear h
 have kXimpl_isSetOf_B1 : ∀ (_ : Unit), (some true) = some r → ∀ σ' : PS, okK σ' [] → K1 σ' := by
  intro _ h σ' hk
  refine hK1 _ (ls_keep [] hk rfl (ls_rs tbOk (oC nofun rfl (en [(4, .bool true)] rfl rfl (ls_ret ?_)))))
  cases h
  exact ⟨.inl rfl, rfl⟩
 refine ls_rec (fun (y1 : Int) => [(0, dL ci64 a0), (1, nI a1), (7, dL ci64 a0), (8, nI (List.length a0 : Int)), (9, nI y1)]) (impl_isSetOf_B1 a0 a1) fz 0 o1 hl (okr rfl) (fun _ => rfl) ?_
 rintro m y1 N h hN
 unfold impl_isSetOf_B1 at h
 refine ls_rs tbOk (oB (nI y1) (nI (List.length a0 : Int)) rfl rfl (en [(0, dL ci64 a0), (1, nI a1), (7, dL ci64 a0), (8, nI (List.length a0 : Int)), (9, nI y1), (10, .bool (decide (y1 < (List.length a0 : Int))))] rfl rfl (ls_seq_k fun K2 hK2 => ?_)))
 rcases cond_some h with ⟨g3, h⟩ | ⟨g3, h⟩
 ·refine ls_cT rfl g3 (ls_skip (hK2 _ (kp [(0, dL ci64 a0), (1, nI a1), (7, dL ci64 a0), (8, nI (List.length a0 : Int)), (9, nI y1)] rfl rfl (ls_seq_k fun K4 hK4 => ls_blk (ls_rs tbOk (oM (nI y1) rfl (?_)))))))
  obtain ⟨e5, g6, h⟩ := ob_some h
  refine ev_ia rfl rfl rfl ⟨(geti_some g6).1, (geti_some g6).2.1⟩ (oLE y1 1 0 (nI e5) zci64 g6 rfl (oA (nI y1) rfl (oA (nI e5) rfl (en [(0, dL ci64 a0), (1, nI a1), (5, nI y1), (6, nI e5), (7, dL ci64 a0), (8, nI (List.length a0 : Int)), (9, nI y1)] rfl rfl (ls_rs tbOk (oM (nI e5) rfl (oM (nI a1) rfl (oB (nI a1) (nI 1) rfl rfl (?_)))))))))
  obtain ⟨v7, g8, h⟩ := ob_some h
  refine ev_call (era rfl rfl (era rfl rfl (era rfl rfl eran))) (impl_within_s g8) (ev_un (c1 := .bool v7) rfl trivial (oM (.bool (!v7)) rfl (?_)))
  rcases cond_some h with ⟨g9, h⟩ | ⟨g9, h⟩
  ·refine oGT g9 rfl (oGT g9 rfl (oGT g9 rfl (oGT g9 rfl (oGT g9 rfl (oPT (.bool true) g9 rfl (en [(0, dL ci64 a0), (1, nI a1), (7, dL ci64 a0), (8, nI (List.length a0 : Int)), (9, nI y1), (25, .bool true)] rfl rfl (ls_cT rfl rfl (ls_rs tbOk (oC nofun rfl (en [(4, .bool false)] rfl rfl (ls_ret ?_)))))))))))
   cases h
   cases hr1
   exact ⟨.inl rfl, rfl⟩
  ·refine oGR g9 rfl (oM (dL ci64 a0) rfl (oGR g9 rfl (oM (nI y1) rfl (?_))))
   obtain ⟨g10, h⟩ := chk_some h
   refine oGR g9 rfl (ev_sle (lst := a0) rfl rfl zci64 rfl rfl g10 (oGR g9 rfl (oM (nI e5) rfl (?_))))
   obtain ⟨v11, g12, h⟩ := ob_some h
   refine oGR g9 rfl (ev_call (era rfl (erD eci64 _) (era rfl rfl eran)) (impl_hasInt_s g12) (oPF (.bool v11) g9 rfl (en [(0, dL ci64 a0), (1, nI a1), (7, dL ci64 a0), (8, nI (List.length a0 : Int)), (9, nI y1), (25, .bool v11)] rfl rfl ?_)))
   rcases cond_some h with ⟨g13, h⟩ | ⟨g13, h⟩
   ·refine ls_cT rfl g13 (ls_rs tbOk (oC nofun rfl (en [(4, .bool false)] rfl rfl (ls_ret ?_))))
    cases h
    cases hr1
    exact ⟨.inl rfl, rfl⟩
   ·exact ls_cF rfl g13 (ls_skip (hK4 _ (kp [(0, dL ci64 a0), (1, nI a1), (7, dL ci64 a0), (8, nI (List.length a0 : Int)), (9, nI y1)] rfl rfl (ls_rgn tbOk (oB (nI y1) (nI 1) rfl rfl (oM (nI (IntKind.i64.wrap (y1 + 1))) rfl (evn (hN _ (IntKind.i64.wrap (y1 + 1)) h (okr rfl)))))))))
 ·exact ls_cF rfl g3 (ls_exit (kXimpl_isSetOf_B1 () (by cases h; exact hr1) _ trivial))
def impl_isLetters_B1 (a0 : List UInt8) (rec : Int → Option (Sum (Unit) (Bool))) (y1 : Int) : Option (Sum (Unit) (Bool)) := cond (decide (y1 < (List.length a0 : Int))) (obind (geti a0 y1) fun b8 => cond (decide ((UInt8.toNat b8 : Int) < 97)) (some (.inr false)) (obind (geti a0 y1) fun b11 => cond (decide (122 < (UInt8.toNat b11 : Int))) (some (.inr false)) (rec (IntKind.i64.wrap (y1 + 1))))) (some (.inl ()))
def impl_isLetters (a0 : List UInt8) (a1 : Int) : Option (Bool) := cond (decide ((List.length a0 : Int) < 1)) (some false) (cond (decide (a1 < (List.length a0 : Int))) (some false) (obind (loopF (impl_isLetters_B1 a0) fz 0) fun o1 => (match o1 with
  | .inl _ => (some true)
  | .inr r => some r)))
theorem impl_isLetters_s {a0 : List UInt8} {a1 : Int} {r : Bool} (h : impl_isLetters a0 a1 = some r) : SoundAt Try.prog 243 [.str a0, nI a1] (.bool r) := by
 unfold impl_isLetters at h
 refine sound_lit tbOk lit243 (nb rfl) rfl ?_
 unfold c243
 refine kp [(0, .str a0), (1, nI a1)] rfl rfl (ls_rs tbOk (oC nofun rfl (en [(0, .str a0), (1, nI a1)] rfl rfl (ls_seq_k fun K1 hK1 => ls_rs tbOk (oM (.str a0) rfl (ev_lens (z := []) rfl rfl (oB (nI (List.length a0 : Int)) (nI 1) rfl rfl (oM (.bool (decide ((List.length a0 : Int) < 1))) rfl (?_)))))))))
 rcases cond_some h with ⟨g2, h⟩ | ⟨g2, h⟩
 ·refine oGT g2 rfl (oGT g2 rfl (oGT g2 rfl (oGT g2 rfl (oPT (.bool true) g2 rfl (en [(0, .str a0), (14, .bool true)] rfl rfl (ls_cT rfl rfl (ls_rs tbOk (oC nofun rfl (en [(4, .bool false)] rfl rfl (ls_ret ?_))))))))))
  cases h
  exact ⟨.inl rfl, rfl⟩
 ·refine oGR g2 rfl (oM (.str a0) rfl (oGR g2 rfl (ev_lens (z := []) rfl rfl (oGR g2 rfl (oM (nI a1) rfl (oGR g2 rfl (oB (nI (List.length a0 : Int)) (nI a1) rfl rfl (oPF (.bool (decide (a1 < (List.length a0 : Int)))) g2 rfl (en [(0, .str a0), (14, .bool (decide (a1 < (List.length a0 : Int))))] rfl rfl ?_)))))))))
  rcases cond_some h with ⟨g3, h⟩ | ⟨g3, h⟩
  ·refine ls_cT rfl g3 (ls_rs tbOk (oC nofun rfl (en [(4, .bool false)] rfl rfl (ls_ret ?_))))
   cases h
   exact ⟨.inl rfl, rfl⟩
  ·refine ls_cF rfl g3 (ls_skip (hK1 _ (kp [(0, .str a0)] rfl rfl (ls_seq_k fun K4 hK4 => ls_rs tbOk (oC nofun rfl (en [(0, .str a0), (5, nI 0)] rfl rfl ?_))))))
   obtain ⟨o1, hl, hr1⟩ := ob_some h
   clear h
   have kXimpl_isLetters_B1 : ∀ (_ : Unit), (some true) = some r → ∀ σ' : PS, okK σ' [] → K4 σ' := by
    intro _ h σ' hk
    refine hK4 _ (ls_keep [] hk rfl (ls_rs tbOk (oC nofun rfl (en [(4, .bool true)] rfl rfl (ls_ret ?_)))))
    cases h
    exact ⟨.inl rfl, rfl⟩
   refine ls_rec (fun (y1 : Int) => [(0, .str a0), (5, nI y1)]) (impl_isLetters_B1 a0) fz 0 o1 hl (okr rfl) (fun _ => rfl) ?_
   rintro m y1 N h hN
   unfold impl_isLetters_B1 at h
   refine ls_seq_k fun K5 hK5 => ls_rs tbOk (oM (nI y1) rfl (oM (.str a0) rfl (ev_lens (z := []) rfl rfl (oB (nI y1) (nI (List.length a0 : Int)) rfl rfl (en [(0, .str a0), (5, nI y1), (18, .bool (decide (y1 < (List.length a0 : Int))))] rfl rfl ?_)))))
   rcases cond_some h with ⟨g6, h⟩ | ⟨g6, h⟩
   ·refine ls_cT rfl g6 (ls_skip (hK5 _ (kp [(0, .str a0), (5, nI y1)] rfl rfl (ls_seq_k fun K7 hK7 => ls_blk (ls_rs tbOk (oM (.str a0) rfl (oM (nI y1) rfl (?_))))))))
    obtain ⟨b8, g9, h⟩ := ob_some h
    refine ev_six rfl rfl rfl g9 (oB (.int .u8 (UInt8.toNat b8 : Int)) (.int .u8 97) rfl rfl (oM (.bool (decide ((UInt8.toNat b8 : Int) < 97))) rfl (?_)))
    rcases cond_some h with ⟨g10, h⟩ | ⟨g10, h⟩
    ·refine oGT g10 rfl (oGT g10 rfl (oGT g10 rfl (oGT g10 rfl (oPT (.bool true) g10 rfl (en [(0, .str a0), (5, nI y1), (30, .bool true)] rfl rfl (ls_cT rfl rfl (ls_rs tbOk (oC nofun rfl (en [(4, .bool false)] rfl rfl (ls_ret ?_))))))))))
     cases h
     cases hr1
     exact ⟨.inl rfl, rfl⟩
    ·refine oGR g10 rfl (oM (.str a0) rfl (oGR g10 rfl (oM (nI y1) rfl (?_))))
     obtain ⟨b11, g12, h⟩ := ob_some h
     refine oGR g10 rfl (ev_six rfl rfl rfl g12 (oGR g10 rfl (oB (.int .u8 (UInt8.toNat b11 : Int)) (.int .u8 122) rfl rfl (oPF (.bool (decide (122 < (UInt8.toNat b11 : Int)))) g10 rfl (en [(0, .str a0), (5, nI y1), (30, .bool (decide (122 < (UInt8.toNat b11 : Int))))] rfl rfl ?_)))))
     rcases cond_some h with ⟨g13, h⟩ | ⟨g13, h⟩
     ·refine ls_cT rfl g13 (ls_rs tbOk (oC nofun rfl (en [(4, .bool false)] rfl rfl (ls_ret ?_))))
      cases h
      cases hr1
      exact ⟨.inl rfl, rfl⟩
     ·exact ls_cF rfl g13 (ls_skip (hK7 _ (kp [(0, .str a0), (5, nI y1)] rfl rfl (ls_rgn tbOk (oM (nI y1) rfl (oB (nI y1) (nI 1) rfl rfl (oA (nI (IntKind.i64.wrap (y1 + 1))) rfl (evn (hN _ (IntKind.i64.wrap (y1 + 1)) h (okr rfl))))))))))
   ·exact ls_cF rfl g6 (ls_exit (kXimpl_isLetters_B1 () (by cases h; exact hr1) _ trivial))
def impl_IsValidName (a0 : List UInt8) : Option (Bool) := obind (impl_isLetters a0 4) fun v1 => some v1
theorem impl_IsValidName_s {a0 : List UInt8} {r : Bool} (h : impl_IsValidName a0 = some r) : SoundAt Try.prog 218 [.str a0] (.bool r) := by
 unfold impl_IsValidName at h
 refine sound_lit tbOk lit218 (nb rfl) rfl ?_
 unfold c218
 refine kp [(0, .str a0)] rfl rfl (ls_rs tbOk (oC nofun rfl (en [(0, .str a0)] rfl rfl (ls_rs tbOk (oM (.str a0) rfl (?_))))))
 obtain ⟨v1, g2, h⟩ := ob_some h
 refine ev_call (era rfl rfl (era rfl rfl eran)) (impl_isLetters_s g2) (oA (.bool v1) rfl (en [(2, .bool v1)] rfl rfl (ls_ret ?_)))
 cases h
 exact ⟨.inl rfl, rfl⟩
def impl_IsValidQuery_B2 (a0 : Y91) (e17 : Y194) (rec : ((List Bool) × Int) → Option (Sum ((List Bool)) (Bool))) (s : (List Bool) × Int) : Option (Sum ((List Bool)) (Bool)) := match s with
  | (y7, y8) => cond (decide (y8 < (List.length e17.2 : Int))) (obind (geti e17.2 y8) fun e30 => obind (impl_within e30 0 (IntKind.i64.wrap (a0.1 - 1))) fun v33 => cond (!v33) (some (.inr false)) (obind (geti y7 e30) fun e36 => rec ((seti y7 e30 true), (IntKind.i64.wrap (y8 + 1))))) (some (.inl y7))
def impl_IsValidQuery_B1 (a0 : Y91) (rec : ((List Bool) × Int) → Option (Sum ((List Bool)) (Bool))) (s : (List Bool) × Int) : Option (Sum ((List Bool)) (Bool)) := match s with
  | (y3, y4) => cond (decide (y4 < (List.length a0.2.1 : Int))) (obind (geti a0.2.1 y4) fun e17 => obind (impl_IsValidName e17.1) fun v20 => cond (!v20) (some (.inr false)) (obind (impl_within (List.length e17.2 : Int) 1 5) fun v23 => cond (!v23) (some (.inr false)) (obind (loopF (impl_IsValidQuery_B2 a0 e17) fz (y3, 0)) fun o2 => (match o2 with
  | .inl z26 => (rec (z26, (IntKind.i64.wrap (y4 + 1))))
  | .inr r => some (.inr r))))) (some (.inl y3))
def impl_IsValidQuery_B3 (z13 : List Bool) (rec : Int → Option (Sum (Unit) (Bool))) (y9 : Int) : Option (Sum (Unit) (Bool)) := cond (decide (y9 < (List.length z13 : Int))) (obind (geti z13 y9) fun e42 => cond (!e42) (some (.inr false)) (rec (IntKind.i64.wrap (y9 + 1)))) (some (.inl ()))
def impl_IsValidQuery (a0 : Y91) : Option (Bool) := obind (impl_within a0.1 1 5) fun v2 => cond (!v2) (some false) (obind (impl_within (List.length a0.2.1 : Int) 1 4) fun v5 => cond (!v5) (some false) (obind (impl_isSetOf a0.2.2 a0.1) fun v8 => cond (!v8) (some false) (chk ((0 : Int) ≤ a0.1 ∧ Int.toNat a0.1 ≤ lim) (obind (loopF (impl_IsValidQuery_B1 a0) fz ((List.replicate (Int.toNat a0.1) (false : Bool)), 0)) fun o1 => (match o1 with
  | .inl z13 => (obind (loopF (impl_IsValidQuery_B3 z13) fz 0) fun o3 => (match o3 with
  | .inl _ => (some true)
  | .inr r => some r))
  | .inr r => some r)))))
theorem impl_IsValidQuery_s {a0 : Y91} {r : Bool} (h : impl_IsValidQuery a0 = some r) : SoundAt Try.prog 209 [.agg (c92_ddd a0)] (.bool r) := by
 unfold impl_IsValidQuery at h
 refine sound_lit tbOk lit209 (nb rfl) rfl ?_
 unfold c209
 refine kp [(0, .agg (c92_ddd a0))] rfl rfl (ls_rs tbOk (oX (.agg (c92_ddd a0)) rfl (oC nofun rfl (en [(1, .box [nI a0.1, dL c195_d a0.2.1, dL ci64 a0.2.2])] rfl rfl (ls_rs tbOk (oF 1 0 rfl ⟨_, rfl⟩ (oL1 0 (nI a0.1) rfl (oA (nI a0.1) rfl (en [(1, .box [nI a0.1, dL c195_d a0.2.1, dL ci64 a0.2.2]), (3, nI a0.1)] rfl rfl (ls_seq_k fun K1 hK1 => ls_rs tbOk (oM (nI a0.1) rfl (?_))))))))))))
 obtain ⟨v2, g3, h⟩ := ob_some h
 refine ev_call (era rfl rfl (era rfl rfl (era rfl rfl eran))) (impl_within_s g3) (ev_un (c1 := .bool v2) rfl trivial (oM (.bool (!v2)) rfl (?_)))
 rcases cond_some h with ⟨g4, h⟩ | ⟨g4, h⟩
 ·refine oGT g4 rfl (oGT g4 rfl (oGT g4 rfl (oGT g4 rfl (oGT g4 rfl (oPT (.bool true) g4 rfl (oM (.bool true) rfl (oGT rfl rfl (oGT rfl rfl (oGT rfl rfl (oGT rfl rfl (oGT rfl rfl (oPT (.bool true) rfl rfl (en [(1, .box [nI a0.1, dL c195_d a0.2.1, dL ci64 a0.2.2]), (3, nI a0.1), (29, .bool true)] rfl rfl (ls_cT rfl rfl (ls_rs tbOk (oC nofun rfl (en [(2, .bool false)] rfl rfl (ls_ret ?_))))))))))))))))))
  cases h
  exact ⟨.inl rfl, rfl⟩
 ·refine oGR g4 rfl (oF 1 0 rfl ⟨_, rfl⟩ (oGR g4 rfl (oL1 1 (dL c195_d a0.2.1) rfl (oGR g4 rfl (oN (dL c195_d a0.2.1) rfl (?_))))))
  obtain ⟨v5, g6, h⟩ := ob_some h
  refine oGR g4 rfl (ev_call (era rfl rfl (era rfl rfl (era rfl rfl eran))) (impl_within_s g6) (oGR g4 rfl (ev_un (c1 := .bool v5) rfl trivial (oPF (.bool (!v5)) g4 rfl (oM (.bool (!v5)) rfl (?_))))))
  rcases cond_some h with ⟨g7, h⟩ | ⟨g7, h⟩
  ·refine oGT g7 rfl (oGT g7 rfl (oGT g7 rfl (oGT g7 rfl (oGT g7 rfl (oPT (.bool true) g7 rfl (en [(1, .box [nI a0.1, dL c195_d a0.2.1, dL ci64 a0.2.2]), (3, nI a0.1), (29, .bool true)] rfl rfl (ls_cT rfl rfl (ls_rs tbOk (oC nofun rfl (en [(2, .bool false)] rfl rfl (ls_ret ?_)))))))))))
   cases h
   exact ⟨.inl rfl, rfl⟩
  ·refine oGR g7 rfl (oF 1 0 rfl ⟨_, rfl⟩ (oGR g7 rfl (oL1 2 (dL ci64 a0.2.2) rfl (oGR g7 rfl (oM (nI a0.1) rfl (?_))))))
   obtain ⟨v8, g9, h⟩ := ob_some h
   refine oGR g7 rfl (ev_call (era rfl (erD eci64 _) (era rfl rfl eran)) (impl_isSetOf_s g9) (oGR g7 rfl (ev_un (c1 := .bool v8) rfl trivial (oPF (.bool (!v8)) g7 rfl (en [(1, .box [nI a0.1, dL c195_d a0.2.1, dL ci64 a0.2.2]), (3, nI a0.1), (29, .bool (!v8))] rfl rfl ?_)))))
   rcases cond_some h with ⟨g10, h⟩ | ⟨g10, h⟩
   ·refine ls_cT rfl g10 (ls_rs tbOk (oC nofun rfl (en [(2, .bool false)] rfl rfl (ls_ret ?_))))
    cases h
    exact ⟨.inl rfl, rfl⟩
   ·refine ls_cF rfl g10 (ls_skip (hK1 _ (kp [(1, .box [nI a0.1, dL c195_d a0.2.1, dL ci64 a0.2.2]), (3, nI a0.1)] rfl rfl (ls_rs tbOk (oM (nI a0.1) rfl (?_))))))
    obtain ⟨g11, h⟩ := chk_some h
    refine ev_mku (f := cbl) (z := (false : Bool)) rfl rfl rfl rfl rfl rfl g11 rfl (ev_asu rfl rfl rfl (en [(1, .box [nI a0.1, dL c195_d a0.2.1, dL ci64 a0.2.2]), (3, nI a0.1), (4, wL 4 cbl (List.replicate (Int.toNat a0.1) (false : Bool)))] rfl rfl (ls_seq_k fun K12 hK12 => ls_rs tbOk (oF 1 0 rfl ⟨_, rfl⟩ (oL1 1 (dL c195_d a0.2.1) rfl (oN (dL c195_d a0.2.1) rfl (ev_mc rfl rfl (en [(3, nI a0.1), (4, wL 4 cbl (List.replicate (Int.toNat a0.1) (false : Bool))), (33, dL c195_d a0.2.1), (34, nI (List.length a0.2.1 : Int)), (35, nI 0)] rfl rfl ?_))))))))
    obtain ⟨o1, hl, hr1⟩ := ob_some h
    clear h
    have kXimpl_IsValidQuery_B1 : ∀ (z13 : List Bool), (obind (loopF (impl_IsValidQuery_B3 z13) fz 0) fun o3 => (match o3 with
  | .inl _ => (some true)
  | .inr r => some r)) = some r → ∀ σ' : PS, okK σ' [(4, wL 4 cbl z13)] → K12 σ' := by
     intro z13 h σ' hk
     refine hK12 _ (ls_keep [(4, wL 4 cbl z13)] hk rfl (ls_seq_k fun K38 hK38 => ls_rs tbOk (ev_mvu rfl rfl (ev_lenu rfl rfl rfl (ev_mc rfl rfl (en [(4, wL 4 cbl z13), (67, .same 4), (68, nI (List.length z13 : Int)), (69, nI 0)] rfl rfl ?_))))))
     obtain ⟨o3, hl, hr3⟩ := ob_some h
     clear h
     have kXimpl_IsValidQuery_B3 : ∀ (_ : Unit), (some true) = some r → ∀ σ' : PS, okK σ' [] → K38 σ' := by
      intro _ h σ' hk
      refine hK38 _ (ls_keep [] hk rfl (ls_rs tbOk (oC nofun rfl (en [(2, .bool true)] rfl rfl (ls_ret ?_)))))
      cases h
      exact ⟨.inl rfl, rfl⟩
     refine ls_rec (fun (y9 : Int) => [(4, wL 4 cbl z13), (67, .same 4), (68, nI (List.length z13 : Int)), (69, nI y9)]) (impl_IsValidQuery_B3 z13) fz 0 o3 hl (okr rfl) (fun _ => rfl) ?_
     rintro m y9 N h hN
     unfold impl_IsValidQuery_B3 at h
     refine ls_rs tbOk (oB (nI y9) (nI (List.length z13 : Int)) rfl rfl (en [(4, wL 4 cbl z13), (67, .same 4), (68, nI (List.length z13 : Int)), (69, nI y9), (70, .bool (decide (y9 < (List.length z13 : Int))))] rfl rfl (ls_seq_k fun K39 hK39 => ?_)))
     rcases cond_some h with ⟨g40, h⟩ | ⟨g40, h⟩
     ·refine ls_cT rfl g40 (ls_skip (hK39 _ (kp [(4, wL 4 cbl z13), (67, .same 4), (68, nI (List.length z13 : Int)), (69, nI y9)] rfl rfl (ls_seq_k fun K41 hK41 => ls_blk (ls_rs tbOk ?_)))))
      obtain ⟨e42, g43, h⟩ := ob_some h
      refine ev_iau rfl rfl rfl rfl ⟨(geti_some g43).1, (geti_some g43).2.1⟩ (ev_ldU (off := 0) (v := .bool e42) rfl rfl rfl zcbl g43 rfl (nb rfl) rfl (oA (.bool e42) rfl (en [(4, wL 4 cbl z13), (10, .bool e42), (67, .same 4), (68, nI (List.length z13 : Int)), (69, nI y9)] rfl rfl (ls_rs tbOk (oM (.bool e42) rfl (ev_un (c1 := .bool e42) rfl trivial (en [(4, wL 4 cbl z13), (67, .same 4), (68, nI (List.length z13 : Int)), (69, nI y9), (74, .bool (!e42))] rfl rfl ?_)))))))
      rcases cond_some h with ⟨g44, h⟩ | ⟨g44, h⟩
      ·refine ls_cT rfl g44 (ls_rs tbOk (oC nofun rfl (en [(2, .bool false)] rfl rfl (ls_ret ?_))))
       cases h
       cases hr3
       exact ⟨.inl rfl, rfl⟩
      ·exact ls_cF rfl g44 (ls_skip (hK41 _ (kp [(4, wL 4 cbl z13), (67, .same 4), (68, nI (List.length z13 : Int)), (69, nI y9)] rfl rfl (ls_rgn tbOk (oB (nI y9) (nI 1) rfl rfl (oM (nI (IntKind.i64.wrap (y9 + 1))) rfl (evn (hN _ (IntKind.i64.wrap (y9 + 1)) h (okr rfl)))))))))
     ·exact ls_cF rfl g40 (ls_exit (kXimpl_IsValidQuery_B3 () (by cases h; exact hr3) _ trivial))
    refine ls_rec (fun (s : (List Bool) × Int) => match s with | (y3, y4) => [(3, nI a0.1), (4, wL 4 cbl y3), (33, dL c195_d a0.2.1), (34, nI (List.length a0.2.1 : Int)), (35, nI y4)]) (impl_IsValidQuery_B1 a0) fz ((List.replicate (Int.toNat a0.1) (false : Bool)), 0) o1 hl (okr rfl) (fun _ => rfl) ?_
    rintro m ⟨y3, y4⟩ N h hN
    unfold impl_IsValidQuery_B1 at h
    dsimp only at h
    refine ls_rs tbOk (oB (nI y4) (nI (List.length a0.2.1 : Int)) rfl rfl (en [(3, nI a0.1), (4, wL 4 cbl y3), (33, dL c195_d a0.2.1), (34, nI (List.length a0.2.1 : Int)), (35, nI y4), (36, .bool (decide (y4 < (List.length a0.2.1 : Int))))] rfl rfl (ls_seq_k fun K14 hK14 => ?_)))
    rcases cond_some h with ⟨g15, h⟩ | ⟨g15, h⟩
    ·refine ls_cT rfl g15 (ls_skip (hK14 _ (kp [(3, nI a0.1), (4, wL 4 cbl y3), (33, dL c195_d a0.2.1), (34, nI (List.length a0.2.1 : Int)), (35, nI y4)] rfl rfl (ls_seq_k fun K16 hK16 => ls_blk (ls_rs tbOk ?_)))))
     obtain ⟨e17, g18, h⟩ := ob_some h
     refine ev_ia rfl rfl rfl ⟨(geti_some g18).1, (geti_some g18).2.1⟩ (ev_ldEt (i := y4) (n := 2) (off := 0) (v := .agg (c195_d e17)) rfl rfl zc195_d g18 rfl (nb rfl) rfl (ev_al rfl rfl (oS 0 (.agg (c195_d e17)) [.str e17.1, dL ci64 e17.2] rfl rfl (en [(3, nI a0.1), (4, wL 4 cbl y3), (6, .box [.str e17.1, dL ci64 e17.2]), (33, dL c195_d a0.2.1), (34, nI (List.length a0.2.1 : Int)), (35, nI y4)] rfl rfl (ls_seq_k fun K19 hK19 => ls_rs tbOk (oF 6 0 rfl ⟨_, rfl⟩ (oL1 0 (.str e17.1) rfl (?_))))))))
     obtain ⟨v20, g21, h⟩ := ob_some h
     refine ev_call (era rfl rfl eran) (impl_IsValidName_s g21) (ev_un (c1 := .bool v20) rfl trivial (oM (.bool (!v20)) rfl (?_)))
     rcases cond_some h with ⟨g22, h⟩ | ⟨g22, h⟩
     ·refine oGT g22 rfl (oGT g22 rfl (oGT g22 rfl (oGT g22 rfl (oGT g22 rfl (oPT (.bool true) g22 rfl (en [(3, nI a0.1), (4, wL 4 cbl y3), (6, .box [.str e17.1, dL ci64 e17.2]), (33, dL c195_d a0.2.1), (34, nI (List.length a0.2.1 : Int)), (35, nI y4), (49, .bool true)] rfl rfl (ls_cT rfl rfl (ls_rs tbOk (oC nofun rfl (en [(2, .bool false)] rfl rfl (ls_ret ?_)))))))))))
      cases h
      cases hr1
      exact ⟨.inl rfl, rfl⟩
     ·refine oGR g22 rfl (oF 6 0 rfl ⟨_, rfl⟩ (oGR g22 rfl (oL1 1 (dL ci64 e17.2) rfl (oGR g22 rfl (oN (dL ci64 e17.2) rfl (?_))))))
      obtain ⟨v23, g24, h⟩ := ob_some h
      refine oGR g22 rfl (ev_call (era rfl rfl (era rfl rfl (era rfl rfl eran))) (impl_within_s g24) (oGR g22 rfl (ev_un (c1 := .bool v23) rfl trivial (oPF (.bool (!v23)) g22 rfl (en [(3, nI a0.1), (4, wL 4 cbl y3), (6, .box [.str e17.1, dL ci64 e17.2]), (33, dL c195_d a0.2.1), (34, nI (List.length a0.2.1 : Int)), (35, nI y4), (49, .bool (!v23))] rfl rfl ?_)))))
      rcases cond_some h with ⟨g25, h⟩ | ⟨g25, h⟩
      ·refine ls_cT rfl g25 (ls_rs tbOk (oC nofun rfl (en [(2, .bool false)] rfl rfl (ls_ret ?_))))
       cases h
       cases hr1
       exact ⟨.inl rfl, rfl⟩
      ·refine ls_cF rfl g25 (ls_skip (hK19 _ (kp [(3, nI a0.1), (4, wL 4 cbl y3), (6, .box [.str e17.1, dL ci64 e17.2]), (33, dL c195_d a0.2.1), (34, nI (List.length a0.2.1 : Int)), (35, nI y4)] rfl rfl (ls_rs tbOk (oF 6 0 rfl ⟨_, rfl⟩ (oL1 1 (dL ci64 e17.2) rfl (oN (dL ci64 e17.2) rfl (ev_mc rfl rfl (en [(3, nI a0.1), (4, wL 4 cbl y3), (33, dL c195_d a0.2.1), (34, nI (List.length a0.2.1 : Int)), (35, nI y4), (51, dL ci64 e17.2), (52, nI (List.length e17.2 : Int)), (53, nI 0)] rfl rfl ?_)))))))))
       obtain ⟨o2, hl, hr2⟩ := ob_some h
       clear h
       have kXimpl_IsValidQuery_B2 : ∀ (z26 : List Bool), ((loopF (impl_IsValidQuery_B1 a0) m) (z26, (IntKind.i64.wrap (y4 + 1)))) = some o1 → ∀ σ' : PS, okK σ' [(3, nI a0.1), (4, wL 4 cbl z26), (33, dL c195_d a0.2.1), (34, nI (List.length a0.2.1 : Int)), (35, nI y4)] → K16 σ' := by
        intro z26 h σ' hk
        exact hK16 _ (ls_keep [(3, nI a0.1), (4, wL 4 cbl z26), (33, dL c195_d a0.2.1), (34, nI (List.length a0.2.1 : Int)), (35, nI y4)] hk rfl (ls_rgn tbOk (oB (nI y4) (nI 1) rfl rfl (oM (nI (IntKind.i64.wrap (y4 + 1))) rfl (evn (hN _ (z26, (IntKind.i64.wrap (y4 + 1))) h (okr rfl)))))))
       refine ls_rec (fun (s : (List Bool) × Int) => match s with | (y7, y8) => [(3, nI a0.1), (4, wL 4 cbl y7), (33, dL c195_d a0.2.1), (34, nI (List.length a0.2.1 : Int)), (35, nI y4), (51, dL ci64 e17.2), (52, nI (List.length e17.2 : Int)), (53, nI y8)]) (impl_IsValidQuery_B2 a0 e17) fz (y3, 0) o2 hl (okr rfl) (fun _ => rfl) ?_
       rintro m ⟨y7, y8⟩ N h hN
       unfold impl_IsValidQuery_B2 at h
       dsimp only at h
       refine ls_rs tbOk (oB (nI y8) (nI (List.length e17.2 : Int)) rfl rfl (en [(3, nI a0.1), (4, wL 4 cbl y7), (33, dL c195_d a0.2.1), (34, nI (List.length a0.2.1 : Int)), (35, nI y4), (51, dL ci64 e17.2), (52, nI (List.length e17.2 : Int)), (53, nI y8), (54, .bool (decide (y8 < (List.length e17.2 : Int))))] rfl rfl (ls_seq_k fun K27 hK27 => ?_)))
       rcases cond_some h with ⟨g28, h⟩ | ⟨g28, h⟩
       ·refine ls_cT rfl g28 (ls_skip (hK27 _ (kp [(3, nI a0.1), (4, wL 4 cbl y7), (33, dL c195_d a0.2.1), (34, nI (List.length a0.2.1 : Int)), (35, nI y4), (51, dL ci64 e17.2), (52, nI (List.length e17.2 : Int)), (53, nI y8)] rfl rfl (ls_seq_k fun K29 hK29 => ls_blk (ls_rs tbOk ?_)))))
        obtain ⟨e30, g31, h⟩ := ob_some h
        refine ev_ia rfl rfl rfl ⟨(geti_some g31).1, (geti_some g31).2.1⟩ (oLE y8 1 0 (nI e30) zci64 g31 rfl (oA (nI e30) rfl (en [(3, nI a0.1), (4, wL 4 cbl y7), (8, nI e30), (33, dL c195_d a0.2.1), (34, nI (List.length a0.2.1 : Int)), (35, nI y4), (51, dL ci64 e17.2), (52, nI (List.length e17.2 : Int)), (53, nI y8)] rfl rfl (ls_seq_k fun K32 hK32 => ls_rs tbOk (oM (nI e30) rfl (oM (nI a0.1) rfl (oB (nI a0.1) (nI 1) rfl rfl (?_))))))))
        obtain ⟨v33, g34, h⟩ := ob_some h
        refine ev_call (era rfl rfl (era rfl rfl (era rfl rfl eran))) (impl_within_s g34) (ev_un (c1 := .bool v33) rfl trivial (en [(3, nI a0.1), (4, wL 4 cbl y7), (8, nI e30), (33, dL c195_d a0.2.1), (34, nI (List.length a0.2.1 : Int)), (35, nI y4), (51, dL ci64 e17.2), (52, nI (List.length e17.2 : Int)), (53, nI y8), (61, .bool (!v33))] rfl rfl ?_))
        rcases cond_some h with ⟨g35, h⟩ | ⟨g35, h⟩
        ·refine ls_cT rfl g35 (ls_rs tbOk (oC nofun rfl (en [(2, .bool false)] rfl rfl (ls_ret ?_))))
         cases h
         cases hr2
         cases hr1
         exact ⟨.inl rfl, rfl⟩
        ·refine ls_cF rfl g35 (ls_skip (hK32 _ (kp [(3, nI a0.1), (4, wL 4 cbl y7), (8, nI e30), (33, dL c195_d a0.2.1), (34, nI (List.length a0.2.1 : Int)), (35, nI y4), (51, dL ci64 e17.2), (52, nI (List.length e17.2 : Int)), (53, nI y8)] rfl rfl (ls_rgn tbOk (ev_mvu rfl rfl (oM (nI e30) rfl (?_)))))))
         obtain ⟨e36, g37, h⟩ := ob_some h
         exact ev_iau rfl rfl rfl rfl ⟨(geti_some g37).1, (geti_some g37).2.1⟩ (ev_stu (e := true) (c1 := .bool true) rfl rfl zcbl ⟨(geti_some g37).1, (geti_some g37).2.1⟩ rfl rfl rfl rfl rfl (evn (hK29 _ (kp [(3, nI a0.1), (4, wL 4 cbl (seti y7 e30 true)), (33, dL c195_d a0.2.1), (34, nI (List.length a0.2.1 : Int)), (35, nI y4), (51, dL ci64 e17.2), (52, nI (List.length e17.2 : Int)), (53, nI y8)] rfl rfl (ls_rgn tbOk (oB (nI y8) (nI 1) rfl rfl (oM (nI (IntKind.i64.wrap (y8 + 1))) rfl (evn (hN _ ((seti y7 e30 true), (IntKind.i64.wrap (y8 + 1))) h (okr rfl))))))))))
       ·exact ls_cF rfl g28 (ls_exit (kXimpl_IsValidQuery_B2 y7 (by cases h; exact hr2) _ (okr rfl)))
    ·exact ls_cF rfl g15 (ls_exit (kXimpl_IsValidQuery_B1 y3 (by cases h; exact hr1) _ (okr rfl)))
def impl_IsValidOrder_J1 (x2 : Bool) : Option (Bool) := some x2
def impl_IsValidOrder (a0 : Y91) (a1 : List Int) : Option (Bool) := obind (impl_IsValidQuery a0) fun v3 => cond v3 (cond ((List.length a1 : Int) == a0.1) (obind (impl_isSetOf a1 a0.1) fun v7 => impl_IsValidOrder_J1 v7) (impl_IsValidOrder_J1 false)) (impl_IsValidOrder_J1 false)
theorem impl_IsValidOrder_s {a0 : Y91} {a1 : List Int} {r : Bool} (h : impl_IsValidOrder a0 a1 = some r) : SoundAt Try.prog 131 [.agg (c92_ddd a0), dL ci64 a1] (.bool r) := by
 unfold impl_IsValidOrder at h
 refine sound_lit tbOk lit131 (nb rfl) rfl ?_
 unfold c131
 refine kp [(0, .agg (c92_ddd a0)), (1, dL ci64 a1)] rfl rfl (ls_rs tbOk (oX (.agg (c92_ddd a0)) rfl (oC nofun rfl (en [(1, dL ci64 a1), (2, .box [nI a0.1, dL c195_d a0.2.1, dL ci64 a0.2.2])] rfl rfl (ls_rs_k tbOk fun K1 hK1 => ?_)))))
 have kimpl_IsValidOrder_J1 : ∀ (x2 : Bool), impl_IsValidOrder_J1 x2 = some r → ∀ σ' : PS, okK σ' [(4, .bool x2)] → K1 σ' := by
  intro x2 h σ' hk
  unfold impl_IsValidOrder_J1 at h
  refine hK1 _ (ls_keep [(4, .bool x2)] hk rfl (ls_ret ?_))
  cases h
  exact ⟨.inl rfl, rfl⟩
 refine oL1 0 (.agg (c92_ddd a0)) rfl (?_)
 obtain ⟨v3, g4, h⟩ := ob_some h
 refine ev_call (era rfl (erg (erc rfl (erc (erD ec195_d _) (erc (erD eci64 _) rfl)))) eran) (impl_IsValidQuery_s g4) (oM (.bool v3) rfl (?_))
 rcases cond_some h with ⟨g5, h⟩ | ⟨g5, h⟩
 ·refine oGR g5 rfl (oM (dL ci64 a1) rfl (oGR g5 rfl (oN (dL ci64 a1) rfl (oGR g5 rfl (oF 2 0 rfl ⟨_, rfl⟩ (oGR g5 rfl (oL1 0 (nI a0.1) rfl (oGR g5 rfl (oB (nI (List.length a1 : Int)) (nI a0.1) rfl rfl (oPT (.bool ((List.length a1 : Int) == a0.1)) g5 rfl (oM (.bool ((List.length a1 : Int) == a0.1)) rfl (?_))))))))))))
  rcases cond_some h with ⟨g6, h⟩ | ⟨g6, h⟩
  ·refine oGR g6 rfl (oM (dL ci64 a1) rfl (oGR g6 rfl (oF 2 0 rfl ⟨_, rfl⟩ (oGR g6 rfl (oL1 0 (nI a0.1) rfl (?_))))))
   obtain ⟨v7, g8, h⟩ := ob_some h
   exact oGR g6 rfl (ev_call (era rfl (erD eci64 _) (era rfl rfl eran)) (impl_isSetOf_s g8) (oPT (.bool v7) g6 rfl (oA (.bool v7) rfl (evn (kimpl_IsValidOrder_J1 v7 h _ (okr rfl))))))
  ·exact oGF g6 rfl (oGF g6 rfl (oGF g6 rfl (oGF g6 rfl (oPF (.bool false) g6 rfl (oA (.bool false) rfl (evn (kimpl_IsValidOrder_J1 false h _ (okr rfl))))))))
 ·exact oGF g5 rfl (oGF g5 rfl (oGF g5 rfl (oGF g5 rfl (oGF g5 rfl (oPF (.bool false) g5 rfl (oM (.bool false) rfl (oGF rfl rfl (oGF rfl rfl (oGF rfl rfl (oGF rfl rfl (oPF (.bool false) rfl rfl (oA (.bool false) rfl (evn (kimpl_IsValidOrder_J1 false h _ (okr rfl)))))))))))))))
def impl_compareInts (a0 : Int) (a1 : Int) : Option (Int) := cond (decide (a0 < a1)) (some (-1)) (cond (decide (a1 < a0)) (some 1) (some 0))
theorem impl_compareInts_s {a0 : Int} {a1 : Int} {r : Int} (h : impl_compareInts a0 a1 = some r) : SoundAt Try.prog 262 [nI a0, nI a1] (nI r) := by
 unfold impl_compareInts at h
 refine sound_lit tbOk lit262 (nb rfl) rfl ?_
 unfold c262
 refine kp [(0, nI a0), (1, nI a1)] rfl rfl (ls_rs tbOk (oC nofun rfl (en [(0, nI a0), (1, nI a1)] rfl rfl (ls_seq_k fun K1 hK1 => ls_blk (ls_rs tbOk (oM (nI a0) rfl (oM (nI a1) rfl (oB (nI a0) (nI a1) rfl rfl (oA (.bool (decide (a0 < a1))) rfl (en [(0, nI a0), (1, nI a1), (5, .bool (decide (a0 < a1)))] rfl rfl ?_))))))))))
 rcases cond_some h with ⟨g2, h⟩ | ⟨g2, h⟩
 ·refine ls_cT rfl g2 (ls_rs tbOk (oC nofun rfl (en [(4, nI (-1))] rfl rfl (ls_ret ?_))))
  cases h
  exact ⟨.inl rfl, rfl⟩
 ·refine ls_cF rfl g2 (ls_rs tbOk (oM (nI a0) rfl (oM (nI a1) rfl (oB (nI a0) (nI a1) rfl rfl (oA (.bool (decide (a1 < a0))) rfl (en [(9, .bool (decide (a1 < a0)))] rfl rfl ?_))))))
  rcases cond_some h with ⟨g3, h⟩ | ⟨g3, h⟩
  ·refine ls_cT rfl g3 (ls_rs tbOk (oC nofun rfl (en [(4, nI 1)] rfl rfl (ls_ret ?_))))
   cases h
   exact ⟨.inl rfl, rfl⟩
  ·refine ls_cF rfl g3 (ls_skip (hK1 _ (kp [] rfl rfl (ls_rs tbOk (oC nofun rfl (en [(4, nI 0)] rfl rfl (ls_ret ?_)))))))
   cases h
   exact ⟨.inl rfl, rfl⟩
def impl_CompareRows_B1 (a0 : List Int) (a1 : List Int) (rec : Int → Option (Sum (Unit) (Int))) (y1 : Int) : Option (Sum (Unit) (Int)) := cond (decide (y1 < (List.length a0 : Int))) (cond (decide (y1 < (List.length a1 : Int))) (obind (geti a0 y1) fun e6 => obind (geti a1 y1) fun e8 => cond (e6 != e8) (obind (geti a0 y1) fun e11 => obind (geti a1 y1) fun e13 => obind (impl_compareInts e11 e13) fun v15 => some (.inr v15)) (rec (IntKind.i64.wrap (y1 + 1)))) (some (.inl ()))) (some (.inl ()))
def impl_CompareRows (a0 : List Int) (a1 : List Int) : Option (Int) := obind (loopF (impl_CompareRows_B1 a0 a1) fz 0) fun o1 => (match o1 with
  | .inl _ => (obind (impl_compareInts (List.length a0 : Int) (List.length a1 : Int)) fun v17 => some v17)
  | .inr r => some r)
theorem impl_CompareRows_s {a0 : List Int} {a1 : List Int} {r : Int} (h : impl_CompareRows a0 a1 = some r) : SoundAt Try.prog 255 [dL ci64 a0, dL ci64 a1] (nI r) := by
 unfold impl_CompareRows at h
 refine sound_lit tbOk lit255 (nb rfl) rfl ?_
 unfold c255
 refine kp [(0, dL ci64 a0), (1, dL ci64 a1)] rfl rfl (ls_rs tbOk (oC nofun rfl (en [(0, dL ci64 a0), (1, dL ci64 a1)] rfl rfl (ls_seq_k fun K1 hK1 => ls_rs tbOk (oC nofun rfl (en [(0, dL ci64 a0), (1, dL ci64 a1), (5, nI 0)] rfl rfl ?_))))))
 obtain ⟨o1, hl, hr1⟩ := ob_some h
 clear h
 have kXimpl_CompareRows_B1 : ∀ (_ : Unit), (obind (impl_compareInts (List.length a0 : Int) (List.length a1 : Int)) fun v17 => some v17) = some r → ∀ σ' : PS, okK σ' [(0, dL ci64 a0), (1, dL ci64 a1)] → K1 σ' := by
  intro _ h σ' hk
  refine hK1 _ (ls_keep [(0, dL ci64 a0), (1, dL ci64 a1)] hk rfl (ls_rs tbOk (oM (dL ci64 a0) rfl (oN (dL ci64 a0) rfl (oM (dL ci64 a1) rfl (oN (dL ci64 a1) rfl (?_)))))))
  obtain ⟨v17, g18, h⟩ := ob_some h
  refine ev_call (era rfl rfl (era rfl rfl eran)) (impl_compareInts_s g18) (oA (nI v17) rfl (en [(4, nI v17)] rfl rfl (ls_ret ?_)))
  cases h
  exact ⟨.inl rfl, rfl⟩
 refine ls_rec (fun (y1 : Int) => [(0, dL ci64 a0), (1, dL ci64 a1), (5, nI y1)]) (impl_CompareRows_B1 a0 a1) fz 0 o1 hl (okr rfl) (fun _ => rfl) ?_
 rintro m y1 N h hN
 unfold impl_CompareRows_B1 at h
 refine ls_seq_k fun K2 hK2 => ls_rs tbOk (oM (nI y1) rfl (oM (dL ci64 a0) rfl (oN (dL ci64 a0) rfl (oB (nI y1) (nI (List.length a0 : Int)) rfl rfl (oM (.bool (decide (y1 < (List.length a0 : Int)))) rfl (?_))))))
 rcases cond_some h with ⟨g3, h⟩ | ⟨g3, h⟩
 ·refine oGR g3 rfl (oM (nI y1) rfl (oGR g3 rfl (oM (dL ci64 a1) rfl (oGR g3 rfl (oN (dL ci64 a1) rfl (oGR g3 rfl (oB (nI y1) (nI (List.length a1 : Int)) rfl rfl (oPT (.bool (decide (y1 < (List.length a1 : Int)))) g3 rfl (en [(0, dL ci64 a0), (1, dL ci64 a1), (5, nI y1), (15, .bool (decide (y1 < (List.length a1 : Int))))] rfl rfl ?_)))))))))
  rcases cond_some h with ⟨g4, h⟩ | ⟨g4, h⟩
  ·refine ls_cT rfl g4 (ls_skip (hK2 _ (kp [(0, dL ci64 a0), (1, dL ci64 a1), (5, nI y1)] rfl rfl (ls_seq_k fun K5 hK5 => ls_blk (ls_rd tbOk mixed (by kernel_rfl) (ed rfl (oM (dL ci64 a0) rfl (ed rfl (oM (nI y1) rfl (?_))))))))))
   obtain ⟨e6, g7, h⟩ := ob_some h
   refine ed rfl (ev_ia rfl rfl rfl ⟨(geti_some g7).1, (geti_some g7).2.1⟩ (ed rfl (oLE y1 1 0 (nI e6) zci64 g7 rfl (ed rfl (oM (dL ci64 a1) rfl (ed rfl (oM (nI y1) rfl (?_))))))))
   obtain ⟨e8, g9, h⟩ := ob_some h
   refine ed rfl (ev_ia rfl rfl rfl ⟨(geti_some g9).1, (geti_some g9).2.1⟩ (ed rfl (oLE y1 1 0 (nI e8) zci64 g9 rfl (ed rfl (oB (nI e6) (nI e8) rfl rfl (evdn (kp [(0, dL ci64 a0), (1, dL ci64 a1), (5, nI y1), (26, .bool (e6 != e8))] rfl rfl ?_)))))))
   rcases cond_some h with ⟨g10, h⟩ | ⟨g10, h⟩
   ·refine ls_cT rfl g10 (ls_rd tbOk mixed (by kernel_rfl) (ed rfl (oM (dL ci64 a0) rfl (ed rfl (oM (nI y1) rfl (?_))))))
    obtain ⟨e11, g12, h⟩ := ob_some h
    refine ed rfl (ev_ia rfl rfl rfl ⟨(geti_some g12).1, (geti_some g12).2.1⟩ (ed rfl (oLE y1 1 0 (nI e11) zci64 g12 rfl (ed rfl (oM (dL ci64 a1) rfl (ed rfl (oM (nI y1) rfl (?_))))))))
    obtain ⟨e13, g14, h⟩ := ob_some h
    refine ed rfl (ev_ia rfl rfl rfl ⟨(geti_some g14).1, (geti_some g14).2.1⟩ (ed rfl (oLE y1 1 0 (nI e13) zci64 g14 rfl (?_))))
    obtain ⟨v15, g16, h⟩ := ob_some h
    refine ed rfl (ev_call (era rfl rfl (era rfl rfl eran)) (impl_compareInts_s g16) (ed rfl (oA (nI v15) rfl (evdn (kp [(4, nI v15)] rfl rfl (ls_ret ?_))))))
    cases h
    cases hr1
    exact ⟨.inl rfl, rfl⟩
   ·exact ls_cF rfl g10 (ls_skip (hK5 _ (kp [(0, dL ci64 a0), (1, dL ci64 a1), (5, nI y1)] rfl rfl (ls_rgn tbOk (oM (nI y1) rfl (oB (nI y1) (nI 1) rfl rfl (oA (nI (IntKind.i64.wrap (y1 + 1))) rfl (evn (hN _ (IntKind.i64.wrap (y1 + 1)) h (okr rfl))))))))))
  ·exact ls_cF rfl g4 (ls_exit (kXimpl_CompareRows_B1 () (by cases h; exact hr1) _ (okr rfl)))
 ·exact oGF g3 rfl (oGF g3 rfl (oGF g3 rfl (oGF g3 rfl (oPF (.bool false) g3 rfl (en [(0, dL ci64 a0), (1, dL ci64 a1), (5, nI y1), (15, .bool false)] rfl rfl (ls_cF rfl rfl (ls_exit (kXimpl_CompareRows_B1 () (by cases h; exact hr1) _ (okr rfl)))))))))
def impl_AreValidValues_B1 (a0 : List Int) (rec : Int → Option (Sum (Unit) (Bool))) (y1 : Int) : Option (Sum (Unit) (Bool)) := cond (decide (y1 < (List.length a0 : Int))) (obind (geti a0 y1) fun e5 => obind (impl_within e5 0 99) fun v7 => cond (!v7) (some (.inr false)) (rec (IntKind.i64.wrap (y1 + 1)))) (some (.inl ()))
def impl_AreValidValues (a0 : List Int) : Option (Bool) := obind (loopF (impl_AreValidValues_B1 a0) fz 0) fun o1 => (match o1 with
  | .inl _ => (some true)
  | .inr r => some r)
theorem impl_AreValidValues_s {a0 : List Int} {r : Bool} (h : impl_AreValidValues a0 = some r) : SoundAt Try.prog 258 [dL ci64 a0] (.bool r) := by
 unfold impl_AreValidValues at h
 refine sound_lit tbOk lit258 (nb rfl) rfl ?_
 unfold c258
 refine kp [(0, dL ci64 a0)] rfl rfl (ls_rs tbOk (oC nofun rfl (en [(0, dL ci64 a0)] rfl rfl (ls_seq_k fun K1 hK1 => ls_rs tbOk (oM (dL ci64 a0) rfl (oN (dL ci64 a0) rfl (ev_mc rfl rfl (en [(5, dL ci64 a0), (6, nI (List.length a0 : Int)), (7, nI 0)] rfl rfl ?_))))))))
 obtain ⟨o1, hl, hr1⟩ := ob_some h
 clear h
 have kXimpl_AreValidValues_B1 : ∀ (_ : Unit), (some true) = some r → ∀ σ' : PS, okK σ' [] → K1 σ' := by
  intro _ h σ' hk
  refine hK1 _ (ls_keep [] hk rfl (ls_rs tbOk (oC nofun rfl (en [(2, .bool true)] rfl rfl (ls_ret ?_)))))
  cases h
  exact ⟨.inl rfl, rfl⟩
 refine ls_rec (fun (y1 : Int) => [(5, dL ci64 a0), (6, nI (List.length a0 : Int)), (7, nI y1)]) (impl_AreValidValues_B1 a0) fz 0 o1 hl (okr rfl) (fun _ => rfl) ?_
 rintro m y1 N h hN
 unfold impl_AreValidValues_B1 at h
 refine ls_rs tbOk (oB (nI y1) (nI (List.length a0 : Int)) rfl rfl (en [(5, dL ci64 a0), (6, nI (List.length a0 : Int)), (7, nI y1), (8, .bool (decide (y1 < (List.length a0 : Int))))] rfl rfl (ls_seq_k fun K2 hK2 => ?_)))
 rcases cond_some h with ⟨g3, h⟩ | ⟨g3, h⟩
 ·refine ls_cT rfl g3 (ls_skip (hK2 _ (kp [(5, dL ci64 a0), (6, nI (List.length a0 : Int)), (7, nI y1)] rfl rfl (ls_seq_k fun K4 hK4 => ls_blk (ls_rs tbOk ?_)))))
  obtain ⟨e5, g6, h⟩ := ob_some h
  refine ev_ia rfl rfl rfl ⟨(geti_some g6).1, (geti_some g6).2.1⟩ (oLE y1 1 0 (nI e5) zci64 g6 rfl (oA (nI e5) rfl (en [(4, nI e5), (5, dL ci64 a0), (6, nI (List.length a0 : Int)), (7, nI y1)] rfl rfl (ls_rs tbOk (oM (nI e5) rfl (?_))))))
  obtain ⟨v7, g8, h⟩ := ob_some h
  refine ev_call (era rfl rfl (era rfl rfl (era rfl rfl eran))) (impl_within_s g8) (ev_un (c1 := .bool v7) rfl trivial (en [(5, dL ci64 a0), (6, nI (List.length a0 : Int)), (7, nI y1), (13, .bool (!v7))] rfl rfl ?_))
  rcases cond_some h with ⟨g9, h⟩ | ⟨g9, h⟩
  ·refine ls_cT rfl g9 (ls_rs tbOk (oC nofun rfl (en [(2, .bool false)] rfl rfl (ls_ret ?_))))
   cases h
   cases hr1
   exact ⟨.inl rfl, rfl⟩
  ·exact ls_cF rfl g9 (ls_skip (hK4 _ (kp [(5, dL ci64 a0), (6, nI (List.length a0 : Int)), (7, nI y1)] rfl rfl (ls_rgn tbOk (oB (nI y1) (nI 1) rfl rfl (oM (nI (IntKind.i64.wrap (y1 + 1))) rfl (evn (hN _ (IntKind.i64.wrap (y1 + 1)) h (okr rfl)))))))))
 ·exact ls_cF rfl g3 (ls_exit (kXimpl_AreValidValues_B1 () (by cases h; exact hr1) _ trivial))
def impl_rowsValid_J2 (rec : Int → Option (Sum (Unit) (Bool))) (y1 : Int) (x13 : Bool) : Option (Sum (Unit) (Bool)) := cond x13 (some (.inr false)) (rec (IntKind.i64.wrap (y1 + 1)))
def impl_rowsValid_B1 (a0 : Int) (a1 : List (List Int)) (rec : Int → Option (Sum (Unit) (Bool))) (y1 : Int) : Option (Sum (Unit) (Bool)) := cond (decide (y1 < (List.length a1 : Int))) (obind (geti a1 y1) fun e10 => cond ((List.length e10 : Int) != a0) (impl_rowsValid_J2 rec y1 true) (obind (impl_AreValidValues e10) fun v16 => cond (!v16) (impl_rowsValid_J2 rec y1 true) (cond (decide (0 < y1)) (obind (geti a1 (IntKind.i64.wrap (y1 - 1))) fun e20 => obind (impl_CompareRows e20 e10) fun v22 => impl_rowsValid_J2 rec y1 (decide (0 ≤ v22))) (impl_rowsValid_J2 rec y1 false)))) (some (.inl ()))
def impl_rowsValid (a0 : Int) (a1 : List (List Int)) : Option (Bool) := obind (impl_within a0 0 5) fun v2 => cond (!v2) (some false) (cond (decide (4000 < (List.length a1 : Int))) (some false) (obind (loopF (impl_rowsValid_B1 a0 a1) fz 0) fun o1 => (match o1 with
  | .inl _ => (some true)
  | .inr r => some r)))
theorem impl_rowsValid_s {a0 : Int} {a1 : List (List Int)} {r : Bool} (h : impl_rowsValid a0 a1 = some r) : SoundAt Try.prog 244 [nI a0, dL c25_d a1] (.bool r) := by
 unfold impl_rowsValid at h
 refine sound_lit tbOk lit244 (nb rfl) rfl ?_
 unfold c244
 refine kp [(0, nI a0), (1, dL c25_d a1)] rfl rfl (ls_rs tbOk (oC nofun rfl (en [(0, nI a0), (1, dL c25_d a1)] rfl rfl (ls_seq_k fun K1 hK1 => ls_rs tbOk (oM (nI a0) rfl (?_))))))
 obtain ⟨v2, g3, h⟩ := ob_some h
 refine ev_call (era rfl rfl (era rfl rfl (era rfl rfl eran))) (impl_within_s g3) (ev_un (c1 := .bool v2) rfl trivial (oM (.bool (!v2)) rfl (?_)))
 rcases cond_some h with ⟨g4, h⟩ | ⟨g4, h⟩
 ·refine oGT g4 rfl (oGT g4 rfl (oGT g4 rfl (oPT (.bool true) g4 rfl (en [(0, nI a0), (1, dL c25_d a1), (14, .bool true)] rfl rfl (ls_cT rfl rfl (ls_rs tbOk (oC nofun rfl (en [(4, .bool false)] rfl rfl (ls_ret ?_)))))))))
  cases h
  exact ⟨.inl rfl, rfl⟩
 ·refine oGR g4 rfl (oM (dL c25_d a1) rfl (oGR g4 rfl (oN (dL c25_d a1) rfl (oGR g4 rfl (oB (nI (List.length a1 : Int)) (nI 4000) rfl rfl (oPF (.bool (decide (4000 < (List.length a1 : Int)))) g4 rfl (en [(0, nI a0), (1, dL c25_d a1), (14, .bool (decide (4000 < (List.length a1 : Int))))] rfl rfl ?_)))))))
  rcases cond_some h with ⟨g5, h⟩ | ⟨g5, h⟩
  ·refine ls_cT rfl g5 (ls_rs tbOk (oC nofun rfl (en [(4, .bool false)] rfl rfl (ls_ret ?_))))
   cases h
   exact ⟨.inl rfl, rfl⟩
  ·refine ls_cF rfl g5 (ls_skip (hK1 _ (kp [(0, nI a0), (1, dL c25_d a1)] rfl rfl (ls_seq_k fun K6 hK6 => ls_rs tbOk (oM (dL c25_d a1) rfl (oN (dL c25_d a1) rfl (ev_mc rfl rfl (en [(0, nI a0), (1, dL c25_d a1), (15, dL c25_d a1), (16, nI (List.length a1 : Int)), (17, nI 0)] rfl rfl ?_))))))))
   obtain ⟨o1, hl, hr1⟩ := ob_some h
   clear h
   have kXimpl_rowsValid_B1 : ∀ (_ : Unit), (some true) = some r → ∀ σ' : PS, okK σ' [] → K6 σ' := by
    intro _ h σ' hk
    refine hK6 _ (ls_keep [] hk rfl (ls_rs tbOk (oC nofun rfl (en [(4, .bool true)] rfl rfl (ls_ret ?_)))))
    cases h
    exact ⟨.inl rfl, rfl⟩
   refine ls_rec (fun (y1 : Int) => [(0, nI a0), (1, dL c25_d a1), (15, dL c25_d a1), (16, nI (List.length a1 : Int)), (17, nI y1)]) (impl_rowsValid_B1 a0 a1) fz 0 o1 hl (okr rfl) (fun _ => rfl) ?_
   rintro m y1 N h hN
   unfold impl_rowsValid_B1 at h
   refine ls_rs tbOk (oB (nI y1) (nI (List.length a1 : Int)) rfl rfl (en [(0, nI a0), (1, dL c25_d a1), (15, dL c25_d a1), (16, nI (List.length a1 : Int)), (17, nI y1), (18, .bool (decide (y1 < (List.length a1 : Int))))] rfl rfl (ls_seq_k fun K7 hK7 => ?_)))
   rcases cond_some h with ⟨g8, h⟩ | ⟨g8, h⟩
   ·refine ls_cT rfl g8 (ls_skip (hK7 _ (kp [(0, nI a0), (1, dL c25_d a1), (15, dL c25_d a1), (16, nI (List.length a1 : Int)), (17, nI y1)] rfl rfl (ls_seq_k fun K9 hK9 => ls_blk (ls_rs tbOk (oM (nI y1) rfl (?_)))))))
    obtain ⟨e10, g11, h⟩ := ob_some h
    refine ev_ia rfl rfl rfl ⟨(geti_some g11).1, (geti_some g11).2.1⟩ (ev_ldEt (i := y1) (n := 1) (off := 0) (v := dL ci64 e10) rfl rfl zc25_d g11 rfl (nb rfl) rfl (oA (nI y1) rfl (oA (dL ci64 e10) rfl (en [(0, nI a0), (1, dL c25_d a1), (5, nI y1), (6, dL ci64 e10), (15, dL c25_d a1), (16, nI (List.length a1 : Int)), (17, nI y1)] rfl rfl (ls_rs_k tbOk fun K12 hK12 => ?_)))))
    have kimpl_rowsValid_J2 : ∀ (x13 : Bool), impl_rowsValid_J2 (loopF (impl_rowsValid_B1 a0 a1) m) y1 x13 = some o1 → ∀ σ' : PS, okK σ' [(0, nI a0), (1, dL c25_d a1), (15, dL c25_d a1), (16, nI (List.length a1 : Int)), (17, nI y1), (44, .bool x13)] → K12 σ' := by
     intro x13 h σ' hk
     unfold impl_rowsValid_J2 at h
     refine hK12 _ (ls_keep [(0, nI a0), (1, dL c25_d a1), (15, dL c25_d a1), (16, nI (List.length a1 : Int)), (17, nI y1), (44, .bool x13)] hk rfl ?_)
     rcases cond_some h with ⟨g14, h⟩ | ⟨g14, h⟩
     ·refine ls_cT rfl g14 (ls_rs tbOk (oC nofun rfl (en [(4, .bool false)] rfl rfl (ls_ret ?_))))
      cases h
      cases hr1
      exact ⟨.inl rfl, rfl⟩
     ·exact ls_cF rfl g14 (ls_skip (hK9 _ (kp [(0, nI a0), (1, dL c25_d a1), (15, dL c25_d a1), (16, nI (List.length a1 : Int)), (17, nI y1)] rfl rfl (ls_rgn tbOk (oB (nI y1) (nI 1) rfl rfl (oM (nI (IntKind.i64.wrap (y1 + 1))) rfl (evn (hN _ (IntKind.i64.wrap (y1 + 1)) h (okr rfl)))))))))
    refine oM (dL ci64 e10) rfl (oN (dL ci64 e10) rfl (oM (nI a0) rfl (oB (nI (List.length e10 : Int)) (nI a0) rfl rfl (oM (.bool ((List.length e10 : Int) != a0)) rfl (?_)))))
    rcases cond_some h with ⟨g15, h⟩ | ⟨g15, h⟩
    ·exact oGT g15 rfl (oGT g15 rfl (oGT g15 rfl (oPT (.bool true) g15 rfl (oM (.bool true) rfl (oGT rfl rfl (oGT rfl rfl (oGT rfl rfl (ev_gs rfl rfl rfl (ev_gs rfl rfl rfl (ev_gs rfl rfl rfl (ev_gs rfl rfl rfl (ev_gs rfl rfl rfl (ev_gs rfl rfl rfl (ev_gs rfl rfl rfl (ev_gs rfl rfl rfl (oGT rfl rfl (oPT (.bool true) rfl rfl (evn (kimpl_rowsValid_J2 true h _ (okr rfl))))))))))))))))))))
    ·refine oGR g15 rfl (oM (dL ci64 e10) rfl (?_))
     obtain ⟨v16, g17, h⟩ := ob_some h
     refine oGR g15 rfl (ev_call (era rfl (erD eci64 _) eran) (impl_AreValidValues_s g17) (oGR g15 rfl (ev_un (c1 := .bool v16) rfl trivial (oPF (.bool (!v16)) g15 rfl (oM (.bool (!v16)) rfl (?_))))))
     rcases cond_some h with ⟨g18, h⟩ | ⟨g18, h⟩
     ·exact oGT g18 rfl (oGT g18 rfl (oGT g18 rfl (ev_gs rfl rfl rfl (ev_gs rfl rfl rfl (ev_gs rfl rfl rfl (ev_gs rfl rfl rfl (ev_gs rfl rfl rfl (ev_gs rfl rfl rfl (ev_gs rfl rfl rfl (ev_gs rfl rfl rfl (oGT g18 rfl (oPT (.bool true) g18 rfl (evn (kimpl_rowsValid_J2 true h _ (okr rfl)))))))))))))))
     ·refine oGR g18 rfl (oM (nI y1) rfl (oGR g18 rfl (oB (nI y1) (nI 0) rfl rfl (oGR g18 rfl (oM (.bool (decide (0 < y1))) rfl (?_))))))
      rcases cond_some h with ⟨g19, h⟩ | ⟨g19, h⟩
      ·refine oGR g19 rfl (oM (dL c25_d a1) rfl (oGR g19 rfl (oM (nI y1) rfl (oGR g19 rfl (oB (nI y1) (nI 1) rfl rfl (?_))))))
       obtain ⟨e20, g21, h⟩ := ob_some h
       refine oGR g19 rfl (ev_ia rfl rfl rfl ⟨(geti_some g21).1, (geti_some g21).2.1⟩ (oGR g19 rfl (oLE (IntKind.i64.wrap (y1 - 1)) 1 0 (dL ci64 e20) zc25_d g21 rfl (oGR g19 rfl (oM (dL ci64 e10) rfl (?_))))))
       obtain ⟨v22, g23, h⟩ := ob_some h
       exact oGR g19 rfl (ev_call (era rfl (erD eci64 _) (era rfl (erD eci64 _) eran)) (impl_CompareRows_s g23) (oGR g19 rfl (oB (nI v22) (nI 0) rfl rfl (oGR g18 rfl (oPT (.bool (decide (0 ≤ v22))) g19 rfl (oPF (.bool (decide (0 ≤ v22))) g18 rfl (evn (kimpl_rowsValid_J2 (decide (0 ≤ v22)) h _ (okr rfl)))))))))
      ·exact oGF g19 rfl (oGF g19 rfl (oGF g19 rfl (oGF g19 rfl (oGF g19 rfl (oGF g19 rfl (oGF g19 rfl (oGF g19 rfl (oGR g18 rfl (oPF (.bool false) g19 rfl (oPF (.bool false) g18 rfl (evn (kimpl_rowsValid_J2 false h _ (okr rfl)))))))))))))
   ·exact ls_cF rfl g8 (ls_exit (kXimpl_rowsValid_B1 () (by cases h; exact hr1) _ trivial))
def impl_IsValidRelation (a0 : Y127) : Option (Bool) := obind (impl_rowsValid a0.1 a0.2) fun v1 => some v1
theorem impl_IsValidRelation_s {a0 : Y127} {r : Bool} (h : impl_IsValidRelation a0 = some r) : SoundAt Try.prog 219 [.agg (c128_dd a0)] (.bool r) := by
 unfold impl_IsValidRelation at h
 refine sound_lit tbOk lit219 (nb rfl) rfl ?_
 unfold c219
 refine kp [(0, .agg (c128_dd a0))] rfl rfl (ls_rs tbOk (oX (.agg (c128_dd a0)) rfl (oC nofun rfl (en [(1, .box [nI a0.1, dL c25_d a0.2])] rfl rfl (ls_rs tbOk (oF 1 0 rfl ⟨_, rfl⟩ (oL1 0 (nI a0.1) rfl (oF 1 0 rfl ⟨_, rfl⟩ (oL1 1 (dL c25_d a0.2) rfl (?_))))))))))
 obtain ⟨v1, g2, h⟩ := ob_some h
 refine ev_call (era rfl rfl (era rfl (erD ec25_d _) eran)) (impl_rowsValid_s g2) (oA (.bool v1) rfl (en [(2, .bool v1)] rfl rfl (ls_ret ?_)))
 cases h
 exact ⟨.inl rfl, rfl⟩
def impl_IsValidDatabase_J2 (rec : Int → Option (Sum (Unit) (Bool))) (y1 : Int) (x10 : Bool) : Option (Sum (Unit) (Bool)) := cond x10 (some (.inr false)) (rec (IntKind.i64.wrap (y1 + 1)))
def impl_IsValidDatabase_B1 (a0 : List Y207) (rec : Int → Option (Sum (Unit) (Bool))) (y1 : Int) : Option (Sum (Unit) (Bool)) := cond (decide (y1 < (List.length a0 : Int))) (obind (geti a0 y1) fun e7 => obind (impl_IsValidName e7.1) fun v12 => cond (!v12) (impl_IsValidDatabase_J2 rec y1 true) (cond (decide (0 < y1)) (obind (geti a0 (IntKind.i64.wrap (y1 - 1))) fun e16 => cond (!Op.bytesLess e16.1 e7.1) (impl_IsValidDatabase_J2 rec y1 true) (obind (impl_IsValidRelation e7.2) fun v19 => cond (!v19) (impl_IsValidDatabase_J2 rec y1 true) (cond (decide (e7.2.1 < 1)) (impl_IsValidDatabase_J2 rec y1 true) (impl_IsValidDatabase_J2 rec y1 (decide (16 < (List.length e7.2.2 : Int))))))) (obind (impl_IsValidRelation e7.2) fun v23 => cond (!v23) (impl_IsValidDatabase_J2 rec y1 true) (cond (decide (e7.2.1 < 1)) (impl_IsValidDatabase_J2 rec y1 true) (impl_IsValidDatabase_J2 rec y1 (decide (16 < (List.length e7.2.2 : Int)))))))) (some (.inl ()))
def impl_IsValidDatabase (a0 : List Y207) : Option (Bool) := cond (decide (6 < (List.length a0 : Int))) (some false) (obind (loopF (impl_IsValidDatabase_B1 a0) fz 0) fun o1 => (match o1 with
  | .inl _ => (some true)
  | .inr r => some r))
theorem impl_IsValidDatabase_s {a0 : List Y207} {r : Bool} (h : impl_IsValidDatabase a0 = some r) : SoundAt Try.prog 136 [.agg [dL c208_dd a0]] (.bool r) := by
 unfold impl_IsValidDatabase at h
 refine sound_lit tbOk lit136 (nb rfl) rfl ?_
 unfold c136
 refine kp [(0, .agg [dL c208_dd a0])] rfl rfl (ls_rs tbOk (oX (.agg [dL c208_dd a0]) rfl (oC nofun rfl (en [(1, .box [dL c208_dd a0])] rfl rfl (ls_seq_k fun K1 hK1 => ls_rs tbOk (oF 1 0 rfl ⟨_, rfl⟩ (oL1 0 (dL c208_dd a0) rfl (oN (dL c208_dd a0) rfl (oB (nI (List.length a0 : Int)) (nI 6) rfl rfl (en [(1, .box [dL c208_dd a0]), (8, .bool (decide (6 < (List.length a0 : Int))))] rfl rfl ?_))))))))))
 rcases cond_some h with ⟨g2, h⟩ | ⟨g2, h⟩
 ·refine ls_cT rfl g2 (ls_rs tbOk (oC nofun rfl (en [(2, .bool false)] rfl rfl (ls_ret ?_))))
  cases h
  exact ⟨.inl rfl, rfl⟩
 ·refine ls_cF rfl g2 (ls_skip (hK1 _ (kp [(1, .box [dL c208_dd a0])] rfl rfl (ls_seq_k fun K3 hK3 => ls_rs tbOk (oF 1 0 rfl ⟨_, rfl⟩ (oL1 0 (dL c208_dd a0) rfl (oN (dL c208_dd a0) rfl (ev_mc rfl rfl (en [(1, .box [dL c208_dd a0]), (10, dL c208_dd a0), (11, nI (List.length a0 : Int)), (12, nI 0)] rfl rfl ?_)))))))))
  obtain ⟨o1, hl, hr1⟩ := ob_some h
  clear h
  have kXimpl_IsValidDatabase_B1 : ∀ (_ : Unit), (some true) = some r → ∀ σ' : PS, okK σ' [] → K3 σ' := by
   intro _ h σ' hk
   refine hK3 _ (ls_keep [] hk rfl (ls_rs tbOk (oC nofun rfl (en [(2, .bool true)] rfl rfl (ls_ret ?_)))))
   cases h
   exact ⟨.inl rfl, rfl⟩
  refine ls_rec (fun (y1 : Int) => [(1, .box [dL c208_dd a0]), (10, dL c208_dd a0), (11, nI (List.length a0 : Int)), (12, nI y1)]) (impl_IsValidDatabase_B1 a0) fz 0 o1 hl (okr rfl) (fun _ => rfl) ?_
  rintro m y1 N h hN
  unfold impl_IsValidDatabase_B1 at h
  refine ls_rs tbOk (oB (nI y1) (nI (List.length a0 : Int)) rfl rfl (en [(1, .box [dL c208_dd a0]), (10, dL c208_dd a0), (11, nI (List.length a0 : Int)), (12, nI y1), (13, .bool (decide (y1 < (List.length a0 : Int))))] rfl rfl (ls_seq_k fun K4 hK4 => ?_)))
  rcases cond_some h with ⟨g5, h⟩ | ⟨g5, h⟩
  ·refine ls_cT rfl g5 (ls_skip (hK4 _ (kp [(1, .box [dL c208_dd a0]), (10, dL c208_dd a0), (11, nI (List.length a0 : Int)), (12, nI y1)] rfl rfl (ls_seq_k fun K6 hK6 => ls_blk (ls_rs tbOk (oM (nI y1) rfl (?_)))))))
   obtain ⟨e7, g8, h⟩ := ob_some h
   refine ev_ia rfl rfl rfl ⟨(geti_some g8).1, (geti_some g8).2.1⟩ (ev_ldEt (i := y1) (n := 3) (off := 0) (v := .agg (c208_dd e7)) rfl rfl zc208_dd g8 rfl (nb rfl) rfl (ev_al rfl rfl (oA (nI y1) rfl (oS 0 (.agg (c208_dd e7)) [.str e7.1, nI e7.2.1, dL c25_d e7.2.2] rfl rfl (en [(1, .box [dL c208_dd a0]), (3, nI y1), (4, .box [.str e7.1, nI e7.2.1, dL c25_d e7.2.2]), (10, dL c208_dd a0), (11, nI (List.length a0 : Int)), (12, nI y1)] rfl rfl (ls_rd_k tbOk mixed (by kernel_rfl) fun K9 hK9 => ?_))))))
   have kimpl_IsValidDatabase_J2 : ∀ (x10 : Bool), impl_IsValidDatabase_J2 (loopF (impl_IsValidDatabase_B1 a0) m) y1 x10 = some o1 → ∀ σ' : PS, okK σ' [(1, .box [dL c208_dd a0]), (10, dL c208_dd a0), (11, nI (List.length a0 : Int)), (12, nI y1), (55, .bool x10)] → K9 σ' := by
    intro x10 h σ' hk
    unfold impl_IsValidDatabase_J2 at h
    refine hK9 _ (ls_keep [(1, .box [dL c208_dd a0]), (10, dL c208_dd a0), (11, nI (List.length a0 : Int)), (12, nI y1), (55, .bool x10)] hk rfl ?_)
    rcases cond_some h with ⟨g11, h⟩ | ⟨g11, h⟩
    ·refine ls_cT rfl g11 (ls_rs tbOk (oC nofun rfl (en [(2, .bool false)] rfl rfl (ls_ret ?_))))
     cases h
     cases hr1
     exact ⟨.inl rfl, rfl⟩
    ·exact ls_cF rfl g11 (ls_skip (hK6 _ (kp [(1, .box [dL c208_dd a0]), (10, dL c208_dd a0), (11, nI (List.length a0 : Int)), (12, nI y1)] rfl rfl (ls_rgn tbOk (oB (nI y1) (nI 1) rfl rfl (oM (nI (IntKind.i64.wrap (y1 + 1))) rfl (evn (hN _ (IntKind.i64.wrap (y1 + 1)) h (okr rfl)))))))))
   refine ed rfl (oF 4 0 rfl ⟨_, rfl⟩ (ed rfl (oL1 0 (.str e7.1) rfl (?_))))
   obtain ⟨v12, g13, h⟩ := ob_some h
   refine ed rfl (ev_call (era rfl rfl eran) (impl_IsValidName_s g13) (ed rfl (ev_un (c1 := .bool v12) rfl trivial (ed rfl (oM (.bool (!v12)) rfl (?_))))))
   rcases cond_some h with ⟨g14, h⟩ | ⟨g14, h⟩
   ·exact ed rfl (oGT g14 rfl (ed rfl (oGT g14 rfl (ed rfl (oGT g14 rfl (ed rfl (ev_gs rfl rfl rfl (ed rfl (ev_gs rfl rfl rfl (ed rfl (ev_gs rfl rfl rfl (ed rfl (ev_gs rfl rfl rfl (ed rfl (ev_gs rfl rfl rfl (ed rfl (ev_gs rfl rfl rfl (ed rfl (ev_gs rfl rfl rfl (ed rfl (ev_gs rfl rfl rfl (ed rfl (ev_gs rfl rfl rfl (ed rfl (ev_gs rfl rfl rfl (ed rfl (oGT g14 rfl (ed rfl (oPT (.bool true) g14 rfl (ed rfl (oM (.bool true) rfl (ed rfl (oGT rfl rfl (ed rfl (oGT rfl rfl (ed rfl (oGT rfl rfl (ed rfl (oGT rfl rfl (ed rfl (oPT (.bool true) rfl rfl (ed rfl (oM (.bool true) rfl (ed rfl (oGT rfl rfl (ed rfl (oGT rfl rfl (ed rfl (oGT rfl rfl (ed rfl (oGT rfl rfl (ed rfl (oPT (.bool true) rfl rfl (ed rfl (oM (.bool true) rfl (ed rfl (oGT rfl rfl (ed rfl (oGT rfl rfl (ed rfl (oGT rfl rfl (ed rfl (oGT rfl rfl (ed rfl (oGT rfl rfl (ed rfl (oPT (.bool true) rfl rfl (evdn (kimpl_IsValidDatabase_J2 true h _ (okr rfl))))))))))))))))))))))))))))))))))))))))))))))))))))))))))))))))))))))
   ·refine ed rfl (oGR g14 rfl (oM (nI y1) rfl (ed rfl (oGR g14 rfl (oB (nI y1) (nI 0) rfl rfl (ed rfl (oGR g14 rfl (oM (.bool (decide (0 < y1))) rfl (?_)))))))))
    rcases cond_some h with ⟨g15, h⟩ | ⟨g15, h⟩
    ·refine ed rfl (oGR g15 rfl (oF 1 0 rfl ⟨_, rfl⟩ (ed rfl (oGR g15 rfl (oL1 0 (dL c208_dd a0) rfl (ed rfl (oGR g15 rfl (oM (nI y1) rfl (ed rfl (oGR g15 rfl (oB (nI y1) (nI 1) rfl rfl (?_))))))))))))
     obtain ⟨e16, g17, h⟩ := ob_some h
     refine ed rfl (oGR g15 rfl (ev_ia rfl rfl rfl ⟨(geti_some g17).1, (geti_some g17).2.1⟩ (ed rfl (oGR g15 rfl (ev_fa (c1 := .adr (a0.flatMap c208_dd) (Int.toNat (IntKind.i64.wrap (y1 - 1)) * 3)) (v := .adr (a0.flatMap c208_dd) (Int.toNat (IntKind.i64.wrap (y1 - 1)) * 3)) rfl rfl rfl trivial rfl (ed rfl (oGR g15 rfl (oLE (IntKind.i64.wrap (y1 - 1)) 3 0 (.str e16.1) zc208_dd g17 rfl (ed rfl (oGR g15 rfl (oF 4 0 rfl ⟨_, rfl⟩ (ed rfl (oGR g15 rfl (oL1 0 (.str e7.1) rfl (ed rfl (oGR g15 rfl (oB (.str e16.1) (.str e7.1) rfl trivial (ed rfl (oGR g14 rfl (oPT (.bool (!Op.bytesLess e16.1 e7.1)) g15 rfl (ed rfl (oPF (.bool (!Op.bytesLess e16.1 e7.1)) g14 rfl (ed rfl (oM (.bool (!Op.bytesLess e16.1 e7.1)) rfl (?_)))))))))))))))))))))))))
     rcases cond_some h with ⟨g18, h⟩ | ⟨g18, h⟩
     ·exact ed rfl (oGT g18 rfl (ed rfl (oGT g18 rfl (ed rfl (oGT g18 rfl (ed rfl (oGT g18 rfl (ed rfl (oPT (.bool true) g18 rfl (ed rfl (oM (.bool true) rfl (ed rfl (oGT rfl rfl (ed rfl (oGT rfl rfl (ed rfl (oGT rfl rfl (ed rfl (oGT rfl rfl (ed rfl (oPT (.bool true) rfl rfl (ed rfl (oM (.bool true) rfl (ed rfl (oGT rfl rfl (ed rfl (oGT rfl rfl (ed rfl (oGT rfl rfl (ed rfl (oGT rfl rfl (ed rfl (oGT rfl rfl (ed rfl (oPT (.bool true) rfl rfl (evdn (kimpl_IsValidDatabase_J2 true h _ (okr rfl))))))))))))))))))))))))))))))))))))))
     ·refine ed rfl (oGR g18 rfl (oF 4 0 rfl ⟨_, rfl⟩ (ed rfl (oGR g18 rfl (oL1 1 (.agg (c128_dd e7.2)) rfl (?_))))))
      obtain ⟨v19, g20, h⟩ := ob_some h
      refine ed rfl (oGR g18 rfl (ev_call (era rfl (erg (erc rfl (erc (erD ec25_d _) rfl))) eran) (impl_IsValidRelation_s g20) (ed rfl (oGR g18 rfl (ev_un (c1 := .bool v19) rfl trivial (ed rfl (oPF (.bool (!v19)) g18 rfl (ed rfl (oM (.bool (!v19)) rfl (?_))))))))))
      rcases cond_some h with ⟨g21, h⟩ | ⟨g21, h⟩
      ·exact ed rfl (oGT g21 rfl (ed rfl (oGT g21 rfl (ed rfl (oGT g21 rfl (ed rfl (oGT g21 rfl (ed rfl (oPT (.bool true) g21 rfl (ed rfl (oM (.bool true) rfl (ed rfl (oGT rfl rfl (ed rfl (oGT rfl rfl (ed rfl (oGT rfl rfl (ed rfl (oGT rfl rfl (ed rfl (oGT rfl rfl (ed rfl (oPT (.bool true) rfl rfl (evdn (kimpl_IsValidDatabase_J2 true h _ (okr rfl))))))))))))))))))))))))))
      ·refine ed rfl (oGR g21 rfl (oF 4 0 rfl ⟨_, rfl⟩ (ed rfl (oGR g21 rfl (oF 4 1 rfl ⟨_, rfl⟩ (ed rfl (oGR g21 rfl (oL1 1 (nI e7.2.1) rfl (ed rfl (oGR g21 rfl (oB (nI e7.2.1) (nI 1) rfl rfl (ed rfl (oPF (.bool (decide (e7.2.1 < 1))) g21 rfl (ed rfl (oM (.bool (decide (e7.2.1 < 1))) rfl (?_))))))))))))))))
       rcases cond_some h with ⟨g22, h⟩ | ⟨g22, h⟩
       ·exact ed rfl (oGT g22 rfl (ed rfl (oGT g22 rfl (ed rfl (oGT g22 rfl (ed rfl (oGT g22 rfl (ed rfl (oGT g22 rfl (ed rfl (oPT (.bool true) g22 rfl (evdn (kimpl_IsValidDatabase_J2 true h _ (okr rfl))))))))))))))
       ·exact ed rfl (oGR g22 rfl (oF 4 0 rfl ⟨_, rfl⟩ (ed rfl (oGR g22 rfl (oF 4 1 rfl ⟨_, rfl⟩ (ed rfl (oGR g22 rfl (oL1 2 (dL c25_d e7.2.2) rfl (ed rfl (oGR g22 rfl (oN (dL c25_d e7.2.2) rfl (ed rfl (oGR g22 rfl (oB (nI (List.length e7.2.2 : Int)) (nI 16) rfl rfl (ed rfl (oPF (.bool (decide (16 < (List.length e7.2.2 : Int)))) g22 rfl (evdn (kimpl_IsValidDatabase_J2 (decide (16 < (List.length e7.2.2 : Int))) h _ (okr rfl)))))))))))))))))))
    ·refine ed rfl (oGF g15 rfl (ed rfl (oGF g15 rfl (ed rfl (oGF g15 rfl (ed rfl (oGF g15 rfl (ed rfl (oGF g15 rfl (ed rfl (oGF g15 rfl (ed rfl (oGF g15 rfl (ed rfl (oGF g15 rfl (ed rfl (oGF g15 rfl (ed rfl (oGF g15 rfl (ed rfl (oGR g14 rfl (oPF (.bool false) g15 rfl (ed rfl (oPF (.bool false) g14 rfl (ed rfl (oM (.bool false) rfl (ed rfl (oGR rfl rfl (oF 4 0 rfl ⟨_, rfl⟩ (ed rfl (oGR rfl rfl (oL1 1 (.agg (c128_dd e7.2)) rfl (?_)))))))))))))))))))))))))))))))))
     obtain ⟨v23, g24, h⟩ := ob_some h
     refine ed rfl (oGR rfl rfl (ev_call (era rfl (erg (erc rfl (erc (erD ec25_d _) rfl))) eran) (impl_IsValidRelation_s g24) (ed rfl (oGR rfl rfl (ev_un (c1 := .bool v23) rfl trivial (ed rfl (oPF (.bool (!v23)) rfl rfl (ed rfl (oM (.bool (!v23)) rfl (?_))))))))))
     rcases cond_some h with ⟨g25, h⟩ | ⟨g25, h⟩
     ·exact ed rfl (oGT g25 rfl (ed rfl (oGT g25 rfl (ed rfl (oGT g25 rfl (ed rfl (oGT g25 rfl (ed rfl (oPT (.bool true) g25 rfl (ed rfl (oM (.bool true) rfl (ed rfl (oGT rfl rfl (ed rfl (oGT rfl rfl (ed rfl (oGT rfl rfl (ed rfl (oGT rfl rfl (ed rfl (oGT rfl rfl (ed rfl (oPT (.bool true) rfl rfl (evdn (kimpl_IsValidDatabase_J2 true h _ (okr rfl))))))))))))))))))))))))))
     ·refine ed rfl (oGR g25 rfl (oF 4 0 rfl ⟨_, rfl⟩ (ed rfl (oGR g25 rfl (oF 4 1 rfl ⟨_, rfl⟩ (ed rfl (oGR g25 rfl (oL1 1 (nI e7.2.1) rfl (ed rfl (oGR g25 rfl (oB (nI e7.2.1) (nI 1) rfl rfl (ed rfl (oPF (.bool (decide (e7.2.1 < 1))) g25 rfl (ed rfl (oM (.bool (decide (e7.2.1 < 1))) rfl (?_))))))))))))))))
      rcases cond_some h with ⟨g26, h⟩ | ⟨g26, h⟩
      ·exact ed rfl (oGT g26 rfl (ed rfl (oGT g26 rfl (ed rfl (oGT g26 rfl (ed rfl (oGT g26 rfl (ed rfl (oGT g26 rfl (ed rfl (oPT (.bool true) g26 rfl (evdn (kimpl_IsValidDatabase_J2 true h _ (okr rfl))))))))))))))
      ·exact ed rfl (oGR g26 rfl (oF 4 0 rfl ⟨_, rfl⟩ (ed rfl (oGR g26 rfl (oF 4 1 rfl ⟨_, rfl⟩ (ed rfl (oGR g26 rfl (oL1 2 (dL c25_d e7.2.2) rfl (ed rfl (oGR g26 rfl (oN (dL c25_d e7.2.2) rfl (ed rfl (oGR g26 rfl (oB (nI (List.length e7.2.2 : Int)) (nI 16) rfl rfl (ed rfl (oPF (.bool (decide (16 < (List.length e7.2.2 : Int)))) g26 rfl (evdn (kimpl_IsValidDatabase_J2 (decide (16 < (List.length e7.2.2 : Int))) h _ (okr rfl)))))))))))))))))))
  ·exact ls_cF rfl g5 (ls_exit (kXimpl_IsValidDatabase_B1 () (by cases h; exact hr1) _ trivial))
def impl_copyInts (a0 : List Int) : Option ((List Int)) := chk (List.length ([] : List Int) + List.length a0 ≤ lim) (some (([] : List Int) ++ a0))
theorem impl_copyInts_s {a0 : List Int} {r : (List Int)} (h : impl_copyInts a0 = some r) : SoundAt Try.prog 151 [dL ci64 a0] (oL 3 ci64 r) := by
 unfold impl_copyInts at h
 refine sound_lit tbOk lit151 (nb rfl) rfl ?_
 unfold c151
 refine kp [(0, dL ci64 a0)] rfl rfl (ls_rs tbOk (ev_an rfl rfl (en [(0, dL ci64 a0)] rfl rfl (ls_rs tbOk (ev_bs [] (cs := []) rfl trivial rfl (nb rfl) rfl (oT (dL ci64 a0) rfl (?_)))))))
 obtain ⟨g1, h⟩ := chk_some h
 refine ev_app (f := ci64) (l := ([] : List Int)) (m := a0) (c2 := dL ci64 a0) rfl rfl rfl (flat_len zci64 a0) rfl (map_dg (fun _ => rfl) _) g1 rfl (oA (oL 3 ci64 (([] : List Int) ++ a0)) rfl (en [(2, oL 3 ci64 (([] : List Int) ++ a0))] rfl rfl (ls_ret ?_)))
 cases h
 exact ⟨.inl rfl, rfl⟩
def impl_copyRows_B1 (a0 : List (List Int)) (rec : ((List (List Int)) × Int) → Option ((List (List Int)))) (s : (List (List Int)) × Int) : Option ((List (List Int))) := match s with
  | (y1, y2) => cond (decide (y2 < (List.length a0 : Int))) (obind (geti a0 y2) fun e6 => obind (impl_copyInts e6) fun v8 => chk (List.length y1 + List.length [v8] ≤ lim) (rec ((y1 ++ [v8]), (IntKind.i64.wrap (y2 + 1))))) (some y1)
def impl_copyRows (a0 : List (List Int)) : Option ((List (List Int))) := obind (loopF (impl_copyRows_B1 a0) fz (([] : List (List Int)), 0)) fun z2 => some z2
theorem impl_copyRows_s {a0 : List (List Int)} {r : (List (List Int))} (h : impl_copyRows a0 = some r) : SoundAt Try.prog 237 [dL c25_d a0] (oL 25 c25_o r) := by
 unfold impl_copyRows at h
 refine sound_lit tbOk lit237 (nb rfl) rfl ?_
 unfold c237
 refine kp [(0, dL c25_d a0)] rfl rfl (ls_rs tbOk (ev_an rfl rfl (en [(0, dL c25_d a0)] rfl rfl (ls_rs tbOk (ev_an rfl rfl (en [(0, dL c25_d a0), (3, oL 25 c25_o [])] rfl rfl (ls_seq_k fun K1 hK1 => ls_rs tbOk (oM (dL c25_d a0) rfl (oN (dL c25_d a0) rfl (ev_mc rfl rfl (en [(3, oL 25 c25_o []), (6, dL c25_d a0), (7, nI (List.length a0 : Int)), (8, nI 0)] rfl rfl ?_)))))))))))
 obtain ⟨o1, hl, hr1⟩ := ob_some h
 clear h
 have kXimpl_copyRows_B1 : ∀ (z2 : List (List Int)), (some z2) = some r → ∀ σ' : PS, okK σ' [(3, oL 25 c25_o z2)] → K1 σ' := by
  intro z2 h σ' hk
  refine hK1 _ (ls_keep [(3, oL 25 c25_o z2)] hk rfl (ls_rs tbOk (oT (oL 25 c25_o z2) rfl (oA (oL 25 c25_o z2) rfl (en [(2, oL 25 c25_o z2)] rfl rfl (ls_ret ?_))))))
  cases h
  exact ⟨.inl rfl, rfl⟩
 refine ls_rec (fun (s : (List (List Int)) × Int) => match s with | (y1, y2) => [(3, oL 25 c25_o y1), (6, dL c25_d a0), (7, nI (List.length a0 : Int)), (8, nI y2)]) (impl_copyRows_B1 a0) fz (([] : List (List Int)), 0) o1 hl (okr rfl) (fun _ => rfl) ?_
 rintro m ⟨y1, y2⟩ N h hN
 unfold impl_copyRows_B1 at h
 dsimp only at h
 refine ls_rs tbOk (oB (nI y2) (nI (List.length a0 : Int)) rfl rfl (en [(3, oL 25 c25_o y1), (6, dL c25_d a0), (7, nI (List.length a0 : Int)), (8, nI y2), (9, .bool (decide (y2 < (List.length a0 : Int))))] rfl rfl (ls_seq_k fun K3 hK3 => ?_)))
 rcases cond_some h with ⟨g4, h⟩ | ⟨g4, h⟩
 ·refine ls_cT rfl g4 (ls_skip (hK3 _ (kp [(3, oL 25 c25_o y1), (6, dL c25_d a0), (7, nI (List.length a0 : Int)), (8, nI y2)] rfl rfl (ls_seq_k fun K5 hK5 => ls_blk (ls_rs tbOk ?_)))))
  obtain ⟨e6, g7, h⟩ := ob_some h
  refine ev_ia rfl rfl rfl ⟨(geti_some g7).1, (geti_some g7).2.1⟩ (ev_ldEt (i := y2) (n := 1) (off := 0) (v := dL ci64 e6) rfl rfl zc25_d g7 rfl (nb rfl) rfl (oA (dL ci64 e6) rfl (en [(3, oL 25 c25_o y1), (5, dL ci64 e6), (6, dL c25_d a0), (7, nI (List.length a0 : Int)), (8, nI y2)] rfl rfl (ls_rgn tbOk (oT (oL 25 c25_o y1) rfl (oM (dL ci64 e6) rfl (?_)))))))
  obtain ⟨v8, g9, h⟩ := ob_some h
  refine ev_call (era rfl (erD eci64 _) eran) (impl_copyInts_s g9) (ev_bs [oL 3 ci64 v8] (cs := [oL 3 ci64 v8]) rfl ⟨rfl, trivial⟩ rfl (nb rfl) rfl (?_))
  obtain ⟨g10, h⟩ := chk_some h
  exact ev_app (f := c25_o) (l := y1) (m := [v8]) (c2 := oL 25 c25_o [v8]) rfl rfl rfl (flat_len zc25_o [v8]) rfl rfl g10 rfl (oA (oL 25 c25_o (y1 ++ [v8])) rfl (evn (hK5 _ (kp [(3, oL 25 c25_o (y1 ++ [v8])), (6, dL c25_d a0), (7, nI (List.length a0 : Int)), (8, nI y2)] rfl rfl (ls_rgn tbOk (oB (nI y2) (nI 1) rfl rfl (oM (nI (IntKind.i64.wrap (y2 + 1))) rfl (evn (hN _ ((y1 ++ [v8]), (IntKind.i64.wrap (y2 + 1))) h (okr rfl))))))))))
 ·exact ls_cF rfl g4 (ls_exit (kXimpl_copyRows_B1 y1 (by cases h; exact hr1) _ (okr rfl)))
def impl_copyRelation (a0 : Y127) : Option (Y127) := obind (impl_copyRows a0.2) fun v1 => some (a0.1, v1)
theorem impl_copyRelation_s {a0 : Y127} {r : Y127} (h : impl_copyRelation a0 = some r) : SoundAt Try.prog 175 [.agg (c128_dd a0)] (.agg (c128_oo r)) := by
 unfold impl_copyRelation at h
 refine sound_lit tbOk lit175 (nb rfl) rfl ?_
 unfold c175
 refine kp [(0, .agg (c128_dd a0))] rfl rfl (ls_rs tbOk (oX (.agg (c128_dd a0)) rfl (ev_al rfl rfl (en [(1, .box [nI a0.1, dL c25_d a0.2]), (2, .box [nI 0, oL 25 c25_o []])] rfl rfl (ls_rd tbOk mixed (by kernel_rfl) (ed rfl (oF 1 0 rfl ⟨_, rfl⟩ (ed rfl (oL1 0 (nI a0.1) rfl (ed rfl (oF 1 0 rfl ⟨_, rfl⟩ (ed rfl (oL1 1 (dL c25_d a0.2) rfl (?_))))))))))))))
 obtain ⟨v1, g2, h⟩ := ob_some h
 refine ed rfl (ev_call (era rfl (erD ec25_d _) eran) (impl_copyRows_s g2) (ed rfl (ev_bd [nI a0.1, oL 25 c25_o v1] (cs := [nI a0.1, oL 25 c25_o v1]) rfl ⟨rfl, rfl, trivial⟩ rfl (ed rfl (oS 0 (.agg [nI a0.1, oL 25 c25_o v1]) [nI a0.1, oL 25 c25_o v1] rfl rfl (evdn (kp [(2, .box [nI a0.1, oL 25 c25_o v1])] rfl rfl (ls_ret ?_))))))))
 cases h
 exact ⟨.inl rfl, rfl⟩
def impl_LookupRelation_J1  : Option (Y127 × Bool) := some ((0, []), false)
def impl_LookupRelation_B2 (a0 : List Y207) (a1 : List UInt8) (rec : Int → Option (Sum (Unit) (Y127 × Bool))) (y2 : Int) : Option (Sum (Unit) (Y127 × Bool)) := cond (decide (y2 < (List.length a0 : Int))) (obind (geti a0 y2) fun e8 => cond (e8.1 == a1) (obind (impl_copyRelation e8.2) fun v11 => some (.inr (v11, true))) (rec (IntKind.i64.wrap (y2 + 1)))) (some (.inl ()))
def impl_LookupRelation (a0 : List Y207) (a1 : List UInt8) : Option (Y127 × Bool) := obind (impl_IsValidDatabase a0) fun v2 => cond v2 (obind (loopF (impl_LookupRelation_B2 a0 a1) fz 0) fun o2 => (match o2 with
  | .inl _ => (impl_LookupRelation_J1 )
  | .inr r => some r)) (impl_LookupRelation_J1 )
theorem impl_LookupRelation_s {a0 : List Y207} {a1 : List UInt8} {r : Y127 × Bool} (h : impl_LookupRelation a0 a1 = some r) : SoundAt Try.prog 79 [.agg [dL c208_dd a0], .str a1] (.tup [.agg (c128_oo r.1), .bool r.2]) := by
 unfold impl_LookupRelation at h
 refine sound_lit tbOk lit79 (nb rfl) rfl ?_
 unfold c79
 refine kp [(0, .agg [dL c208_dd a0]), (1, .str a1)] rfl rfl (ls_rs tbOk (oX (.agg [dL c208_dd a0]) rfl (ev_al rfl rfl (oC nofun rfl (en [(1, .str a1), (2, .box [dL c208_dd a0]), (4, .box [nI 0, oL 25 c25_o []])] rfl rfl (ls_seq_k fun K1 hK1 => ls_rs tbOk (oL1 0 (.agg [dL c208_dd a0]) rfl (?_))))))))
 obtain ⟨v2, g3, h⟩ := ob_some h
 refine ev_call (era rfl (erg (erc (erD ec208_dd _) rfl)) eran) (impl_IsValidDatabase_s g3) (en [(1, .str a1), (2, .box [dL c208_dd a0]), (4, .box [nI 0, oL 25 c25_o []]), (9, .bool v2)] rfl rfl ?_)
 have kimpl_LookupRelation_J1 : ∀ (_ : Unit), impl_LookupRelation_J1 = some r → ∀ σ' : PS, okK σ' [(4, .box [nI 0, oL 25 c25_o []])] → K1 σ' := by
  intro _ h σ' hk
  unfold impl_LookupRelation_J1 at h
  refine hK1 _ (ls_keep [(4, .box [nI 0, oL 25 c25_o []])] hk rfl (ls_rs tbOk (ev_bd [] (cs := [nI 0, oL 25 c25_o []]) rfl trivial rfl (oS 0 (.agg [nI 0, oL 25 c25_o []]) [nI 0, oL 25 c25_o []] rfl rfl (oC nofun rfl (en [(4, .box [nI 0, oL 25 c25_o []]), (5, .bool false)] rfl rfl (ls_ret ?_)))))))
  cases h
  exact ⟨.inl rfl, rfl⟩
 rcases cond_some h with ⟨g4, h⟩ | ⟨g4, h⟩
 ·refine ls_cT rfl g4 (ls_rs tbOk (oF 2 0 rfl ⟨_, rfl⟩ (oL1 0 (dL c208_dd a0) rfl (oN (dL c208_dd a0) rfl (ev_mc rfl rfl (en [(1, .str a1), (4, .box [nI 0, oL 25 c25_o []]), (11, dL c208_dd a0), (12, nI (List.length a0 : Int)), (13, nI 0)] rfl rfl ?_))))))
  obtain ⟨o2, hl, hr2⟩ := ob_some h
  clear h
  have kXimpl_LookupRelation_B2 : ∀ (_ : Unit), (impl_LookupRelation_J1 ) = some r → ∀ σ' : PS, okK σ' [(4, .box [nI 0, oL 25 c25_o []])] → K1 σ' := by
   intro _ h σ' hk
   exact kimpl_LookupRelation_J1 () h _ ⟨hk.1, trivial⟩
  refine ls_rec (fun (y2 : Int) => [(1, .str a1), (4, .box [nI 0, oL 25 c25_o []]), (11, dL c208_dd a0), (12, nI (List.length a0 : Int)), (13, nI y2)]) (impl_LookupRelation_B2 a0 a1) fz 0 o2 hl (okr rfl) (fun _ => rfl) ?_
  rintro m y2 N h hN
  unfold impl_LookupRelation_B2 at h
  refine ls_rs tbOk (oB (nI y2) (nI (List.length a0 : Int)) rfl rfl (en [(1, .str a1), (4, .box [nI 0, oL 25 c25_o []]), (11, dL c208_dd a0), (12, nI (List.length a0 : Int)), (13, nI y2), (14, .bool (decide (y2 < (List.length a0 : Int))))] rfl rfl (ls_seq_k fun K5 hK5 => ?_)))
  rcases cond_some h with ⟨g6, h⟩ | ⟨g6, h⟩
  ·refine ls_cT rfl g6 (ls_skip (hK5 _ (kp [(1, .str a1), (4, .box [nI 0, oL 25 c25_o []]), (11, dL c208_dd a0), (12, nI (List.length a0 : Int)), (13, nI y2)] rfl rfl (ls_seq_k fun K7 hK7 => ls_blk (ls_rs tbOk ?_)))))
   obtain ⟨e8, g9, h⟩ := ob_some h
   refine ev_ia rfl rfl rfl ⟨(geti_some g9).1, (geti_some g9).2.1⟩ (ev_ldEt (i := y2) (n := 3) (off := 0) (v := .agg (c208_dd e8)) rfl rfl zc208_dd g9 rfl (nb rfl) rfl (ev_al rfl rfl (oS 0 (.agg (c208_dd e8)) [.str e8.1, nI e8.2.1, dL c25_d e8.2.2] rfl rfl (en [(1, .str a1), (4, .box [nI 0, oL 25 c25_o []]), (7, .box [.str e8.1, nI e8.2.1, dL c25_d e8.2.2]), (11, dL c208_dd a0), (12, nI (List.length a0 : Int)), (13, nI y2)] rfl rfl (ls_rs tbOk (oF 7 0 rfl ⟨_, rfl⟩ (oL1 0 (.str e8.1) rfl (oM (.str a1) rfl (oB (.str e8.1) (.str a1) rfl trivial (en [(1, .str a1), (4, .box [nI 0, oL 25 c25_o []]), (7, .box [.str e8.1, nI e8.2.1, dL c25_d e8.2.2]), (11, dL c208_dd a0), (12, nI (List.length a0 : Int)), (13, nI y2), (20, .bool (e8.1 == a1))] rfl rfl ?_))))))))))
   rcases cond_some h with ⟨g10, h⟩ | ⟨g10, h⟩
   ·refine ls_cT rfl g10 (ls_rs tbOk (oF 7 0 rfl ⟨_, rfl⟩ (oL1 1 (.agg (c128_dd e8.2)) rfl (?_))))
    obtain ⟨v11, g12, h⟩ := ob_some h
    refine ev_call (era rfl (erg (erc rfl (erc (erD ec25_d _) rfl))) eran) (impl_copyRelation_s g12) (oS 0 (.agg (c128_oo v11)) [nI v11.1, oL 25 c25_o v11.2] rfl rfl (oC nofun rfl (en [(4, .box [nI v11.1, oL 25 c25_o v11.2]), (5, .bool true)] rfl rfl (ls_ret ?_))))
    cases h
    cases hr2
    exact ⟨.inl rfl, rfl⟩
   ·exact ls_cF rfl g10 (ls_skip (hK7 _ (kp [(1, .str a1), (4, .box [nI 0, oL 25 c25_o []]), (11, dL c208_dd a0), (12, nI (List.length a0 : Int)), (13, nI y2)] rfl rfl (ls_rgn tbOk (oB (nI y2) (nI 1) rfl rfl (oM (nI (IntKind.i64.wrap (y2 + 1))) rfl (evn (hN _ (IntKind.i64.wrap (y2 + 1)) h (okr rfl)))))))))
  ·exact ls_cF rfl g6 (ls_exit (kXimpl_LookupRelation_B2 () (by cases h; exact hr2) _ (okr rfl)))
 ·exact ls_cF rfl g4 (ls_skip (kimpl_LookupRelation_J1 () h _ (okr rfl)))
def impl_IsQueryFor_B1 (a0 : List Y207) (a1 : Y91) (rec : Int → Option (Sum (Unit) (Bool))) (y1 : Int) : Option (Sum (Unit) (Bool)) := cond (decide (y1 < (List.length a1.2.1 : Int))) (obind (geti a1.2.1 y1) fun e12 => obind (impl_LookupRelation a0 e12.1) fun v14 => cond (!v14.2) (some (.inr false)) (cond (v14.1.1 != (List.length e12.2 : Int)) (some (.inr false)) (rec (IntKind.i64.wrap (y1 + 1))))) (some (.inl ()))
def impl_IsQueryFor (a0 : List Y207) (a1 : Y91) : Option (Bool) := obind (impl_IsValidQuery a1) fun v2 => cond (!v2) (some false) (obind (impl_IsValidDatabase a0) fun v5 => cond (!v5) (some false) (obind (loopF (impl_IsQueryFor_B1 a0 a1) fz 0) fun o1 => (match o1 with
  | .inl _ => (some true)
  | .inr r => some r)))
theorem impl_IsQueryFor_s {a0 : List Y207} {a1 : Y91} {r : Bool} (h : impl_IsQueryFor a0 a1 = some r) : SoundAt Try.prog 150 [.agg [dL c208_dd a0], .agg (c92_ddd a1)] (.bool r) := by
 unfold impl_IsQueryFor at h
 refine sound_lit tbOk lit150 (nb rfl) rfl ?_
 unfold c150
 refine kp [(0, .agg [dL c208_dd a0]), (1, .agg (c92_ddd a1))] rfl rfl (ls_rs tbOk (oX (.agg [dL c208_dd a0]) rfl (oX (.agg (c92_ddd a1)) rfl (oC nofun rfl (en [(2, .box [dL c208_dd a0]), (3, .box [nI a1.1, dL c195_d a1.2.1, dL ci64 a1.2.2])] rfl rfl (ls_seq_k fun K1 hK1 => ls_rs tbOk (oL1 0 (.agg (c92_ddd a1)) rfl (?_))))))))
 obtain ⟨v2, g3, h⟩ := ob_some h
 refine ev_call (era rfl (erg (erc rfl (erc (erD ec195_d _) (erc (erD eci64 _) rfl)))) eran) (impl_IsValidQuery_s g3) (ev_un (c1 := .bool v2) rfl trivial (oM (.bool (!v2)) rfl (?_)))
 rcases cond_some h with ⟨g4, h⟩ | ⟨g4, h⟩
 ·refine oGT g4 rfl (oGT g4 rfl (oGT g4 rfl (oPT (.bool true) g4 rfl (en [(2, .box [dL c208_dd a0]), (3, .box [nI a1.1, dL c195_d a1.2.1, dL ci64 a1.2.2]), (16, .bool true)] rfl rfl (ls_cT rfl rfl (ls_rs tbOk (oC nofun rfl (en [(4, .bool false)] rfl rfl (ls_ret ?_)))))))))
  cases h
  exact ⟨.inl rfl, rfl⟩
 ·refine oGR g4 rfl (oL1 0 (.agg [dL c208_dd a0]) rfl (?_))
  obtain ⟨v5, g6, h⟩ := ob_some h
  refine oGR g4 rfl (ev_call (era rfl (erg (erc (erD ec208_dd _) rfl)) eran) (impl_IsValidDatabase_s g6) (oGR g4 rfl (ev_un (c1 := .bool v5) rfl trivial (oPF (.bool (!v5)) g4 rfl (en [(2, .box [dL c208_dd a0]), (3, .box [nI a1.1, dL c195_d a1.2.1, dL ci64 a1.2.2]), (16, .bool (!v5))] rfl rfl ?_)))))
  rcases cond_some h with ⟨g7, h⟩ | ⟨g7, h⟩
  ·refine ls_cT rfl g7 (ls_rs tbOk (oC nofun rfl (en [(4, .bool false)] rfl rfl (ls_ret ?_))))
   cases h
   exact ⟨.inl rfl, rfl⟩
  ·refine ls_cF rfl g7 (ls_skip (hK1 _ (kp [(2, .box [dL c208_dd a0]), (3, .box [nI a1.1, dL c195_d a1.2.1, dL ci64 a1.2.2])] rfl rfl (ls_seq_k fun K8 hK8 => ls_rs tbOk (oF 3 0 rfl ⟨_, rfl⟩ (oL1 1 (dL c195_d a1.2.1) rfl (oN (dL c195_d a1.2.1) rfl (ev_mc rfl rfl (en [(2, .box [dL c208_dd a0]), (18, dL c195_d a1.2.1), (19, nI (List.length a1.2.1 : Int)), (20, nI 0)] rfl rfl ?_)))))))))
   obtain ⟨o1, hl, hr1⟩ := ob_some h
   clear h
   have kXimpl_IsQueryFor_B1 : ∀ (_ : Unit), (some true) = some r → ∀ σ' : PS, okK σ' [] → K8 σ' := by
    intro _ h σ' hk
    refine hK8 _ (ls_keep [] hk rfl (ls_rs tbOk (oC nofun rfl (en [(4, .bool true)] rfl rfl (ls_ret ?_)))))
    cases h
    exact ⟨.inl rfl, rfl⟩
   refine ls_rec (fun (y1 : Int) => [(2, .box [dL c208_dd a0]), (18, dL c195_d a1.2.1), (19, nI (List.length a1.2.1 : Int)), (20, nI y1)]) (impl_IsQueryFor_B1 a0 a1) fz 0 o1 hl (okr rfl) (fun _ => rfl) ?_
   rintro m y1 N h hN
   unfold impl_IsQueryFor_B1 at h
   refine ls_rs tbOk (oB (nI y1) (nI (List.length a1.2.1 : Int)) rfl rfl (en [(2, .box [dL c208_dd a0]), (18, dL c195_d a1.2.1), (19, nI (List.length a1.2.1 : Int)), (20, nI y1), (21, .bool (decide (y1 < (List.length a1.2.1 : Int))))] rfl rfl (ls_seq_k fun K9 hK9 => ?_)))
   rcases cond_some h with ⟨g10, h⟩ | ⟨g10, h⟩
   ·refine ls_cT rfl g10 (ls_skip (hK9 _ (kp [(2, .box [dL c208_dd a0]), (18, dL c195_d a1.2.1), (19, nI (List.length a1.2.1 : Int)), (20, nI y1)] rfl rfl (ls_seq_k fun K11 hK11 => ls_blk (ls_rs tbOk ?_)))))
    obtain ⟨e12, g13, h⟩ := ob_some h
    refine ev_ia rfl rfl rfl ⟨(geti_some g13).1, (geti_some g13).2.1⟩ (ev_ldEt (i := y1) (n := 2) (off := 0) (v := .agg (c195_d e12)) rfl rfl zc195_d g13 rfl (nb rfl) rfl (ev_al rfl rfl (oS 0 (.agg (c195_d e12)) [.str e12.1, dL ci64 e12.2] rfl rfl (en [(2, .box [dL c208_dd a0]), (6, .box [.str e12.1, dL ci64 e12.2]), (18, dL c195_d a1.2.1), (19, nI (List.length a1.2.1 : Int)), (20, nI y1)] rfl rfl (ls_rs tbOk (oL1 0 (.agg [dL c208_dd a0]) rfl (oF 6 0 rfl ⟨_, rfl⟩ (oL1 0 (.str e12.1) rfl (?_)))))))))
    obtain ⟨v14, g15, h⟩ := ob_some h
    refine ev_call (era rfl (erg (erc (erD ec208_dd _) rfl)) (era rfl rfl eran)) (impl_LookupRelation_s g15) (oT (.tup [.agg (c128_oo v14.1), .bool v14.2]) rfl (ev_ext rfl rfl rfl rfl (ev_ext rfl rfl rfl rfl (ev_al rfl rfl (oS 0 (.agg (c128_oo v14.1)) [nI v14.1.1, oL 25 c25_o v14.1.2] rfl rfl (oA (.bool v14.2) rfl (en [(2, .box [dL c208_dd a0]), (6, .box [.str e12.1, dL ci64 e12.2]), (7, .box [nI v14.1.1, oL 25 c25_o v14.1.2]), (8, .bool v14.2), (18, dL c195_d a1.2.1), (19, nI (List.length a1.2.1 : Int)), (20, nI y1)] rfl rfl (ls_rs tbOk (oM (.bool v14.2) rfl (ev_un (c1 := .bool v14.2) rfl trivial (oM (.bool (!v14.2)) rfl (?_))))))))))))
    rcases cond_some h with ⟨g16, h⟩ | ⟨g16, h⟩
    ·refine oGT g16 rfl (oGT g16 rfl (oGT g16 rfl (oGT g16 rfl (oGT g16 rfl (oGT g16 rfl (oPT (.bool true) g16 rfl (en [(2, .box [dL c208_dd a0]), (18, dL c195_d a1.2.1), (19, nI (List.length a1.2.1 : Int)), (20, nI y1), (40, .bool true)] rfl rfl (ls_cT rfl rfl (ls_rs tbOk (oC nofun rfl (en [(4, .bool false)] rfl rfl (ls_ret ?_))))))))))))
     cases h
     cases hr1
     exact ⟨.inl rfl, rfl⟩
    ·refine oGR g16 rfl (oF 7 0 rfl ⟨_, rfl⟩ (oGR g16 rfl (oL1 0 (nI v14.1.1) rfl (oGR g16 rfl (oF 6 0 rfl ⟨_, rfl⟩ (oGR g16 rfl (oL1 1 (dL ci64 e12.2) rfl (oGR g16 rfl (oN (dL ci64 e12.2) rfl (oGR g16 rfl (oB (nI v14.1.1) (nI (List.length e12.2 : Int)) rfl rfl (oPF (.bool (v14.1.1 != (List.length e12.2 : Int))) g16 rfl (en [(2, .box [dL c208_dd a0]), (18, dL c195_d a1.2.1), (19, nI (List.length a1.2.1 : Int)), (20, nI y1), (40, .bool (v14.1.1 != (List.length e12.2 : Int)))] rfl rfl ?_)))))))))))))
     rcases cond_some h with ⟨g17, h⟩ | ⟨g17, h⟩
     ·refine ls_cT rfl g17 (ls_rs tbOk (oC nofun rfl (en [(4, .bool false)] rfl rfl (ls_ret ?_))))
      cases h
      cases hr1
      exact ⟨.inl rfl, rfl⟩
     ·exact ls_cF rfl g17 (ls_skip (hK11 _ (kp [(2, .box [dL c208_dd a0]), (18, dL c195_d a1.2.1), (19, nI (List.length a1.2.1 : Int)), (20, nI y1)] rfl rfl (ls_rgn tbOk (oB (nI y1) (nI 1) rfl rfl (oM (nI (IntKind.i64.wrap (y1 + 1))) rfl (evn (hN _ (IntKind.i64.wrap (y1 + 1)) h (okr rfl)))))))))
   ·exact ls_cF rfl g10 (ls_exit (kXimpl_IsQueryFor_B1 () (by cases h; exact hr1) _ trivial))
def impl_IsPermutation_J1 (x2 : Bool) : Option (Bool) := some x2
def impl_IsPermutation (a0 : List Int) : Option (Bool) := cond (decide ((List.length a0 : Int) ≤ 5)) (obind (impl_isSetOf a0 (List.length a0 : Int)) fun v4 => impl_IsPermutation_J1 v4) (impl_IsPermutation_J1 false)
theorem impl_IsPermutation_s {a0 : List Int} {r : Bool} (h : impl_IsPermutation a0 = some r) : SoundAt Try.prog 249 [dL ci64 a0] (.bool r) := by
 unfold impl_IsPermutation at h
 refine sound_lit tbOk lit249 (nb rfl) rfl ?_
 unfold c249
 refine kp [(0, dL ci64 a0)] rfl rfl (ls_rs tbOk (oC nofun rfl (en [(0, dL ci64 a0)] rfl rfl (ls_rs_k tbOk fun K1 hK1 => ?_))))
 have kimpl_IsPermutation_J1 : ∀ (x2 : Bool), impl_IsPermutation_J1 x2 = some r → ∀ σ' : PS, okK σ' [(2, .bool x2)] → K1 σ' := by
  intro x2 h σ' hk
  unfold impl_IsPermutation_J1 at h
  refine hK1 _ (ls_keep [(2, .bool x2)] hk rfl (ls_ret ?_))
  cases h
  exact ⟨.inl rfl, rfl⟩
 refine oM (dL ci64 a0) rfl (oN (dL ci64 a0) rfl (oB (nI (List.length a0 : Int)) (nI 5) rfl rfl (oM (.bool (decide ((List.length a0 : Int) ≤ 5))) rfl (?_))))
 rcases cond_some h with ⟨g3, h⟩ | ⟨g3, h⟩
 ·refine oGR g3 rfl (oM (dL ci64 a0) rfl (oGR g3 rfl (oM (dL ci64 a0) rfl (oGR g3 rfl (oN (dL ci64 a0) rfl (?_))))))
  obtain ⟨v4, g5, h⟩ := ob_some h
  exact oGR g3 rfl (ev_call (era rfl (erD eci64 _) (era rfl rfl eran)) (impl_isSetOf_s g5) (oPT (.bool v4) g3 rfl (oA (.bool v4) rfl (evn (kimpl_IsPermutation_J1 v4 h _ (okr rfl))))))
 ·exact oGF g3 rfl (oGF g3 rfl (oGF g3 rfl (oGF g3 rfl (oPF (.bool false) g3 rfl (oA (.bool false) rfl (evn (kimpl_IsPermutation_J1 false h _ (okr rfl))))))))
def impl_pick_B1 (a0 : List Int) (a1 : List Int) (rec : ((List Int) × Int) → Option ((List Int))) (s : (List Int) × Int) : Option ((List Int)) := match s with
  | (y1, y2) => cond (decide (y2 < (List.length a1 : Int))) (obind (geti a1 y2) fun e6 => obind (geti a0 e6) fun e8 => chk (List.length y1 + List.length [e8] ≤ lim) (rec ((y1 ++ [e8]), (IntKind.i64.wrap (y2 + 1))))) (some y1)
def impl_pick (a0 : List Int) (a1 : List Int) : Option ((List Int)) := obind (loopF (impl_pick_B1 a0 a1) fz (([] : List Int), 0)) fun z2 => some z2
theorem impl_pick_s {a0 : List Int} {a1 : List Int} {r : (List Int)} (h : impl_pick a0 a1 = some r) : SoundAt Try.prog 81 [dL ci64 a0, dL ci64 a1] (oL 3 ci64 r) := by
 unfold impl_pick at h
 refine sound_lit tbOk lit81 (nb rfl) rfl ?_
 unfold c81
 refine kp [(0, dL ci64 a0), (1, dL ci64 a1)] rfl rfl (ls_rs tbOk (ev_an rfl rfl (en [(0, dL ci64 a0), (1, dL ci64 a1)] rfl rfl (ls_rs tbOk (ev_bs [] (cs := []) rfl trivial rfl (nb rfl) rfl (oA (oL 3 ci64 []) rfl (en [(0, dL ci64 a0), (1, dL ci64 a1), (5, oL 3 ci64 [])] rfl rfl (ls_seq_k fun K1 hK1 => ls_rs tbOk (oM (dL ci64 a1) rfl (oN (dL ci64 a1) rfl (ev_mc rfl rfl (en [(0, dL ci64 a0), (5, oL 3 ci64 []), (9, dL ci64 a1), (10, nI (List.length a1 : Int)), (11, nI 0)] rfl rfl ?_))))))))))))
 obtain ⟨o1, hl, hr1⟩ := ob_some h
 clear h
 have kXimpl_pick_B1 : ∀ (z2 : List Int), (some z2) = some r → ∀ σ' : PS, okK σ' [(5, oL 3 ci64 z2)] → K1 σ' := by
  intro z2 h σ' hk
  refine hK1 _ (ls_keep [(5, oL 3 ci64 z2)] hk rfl (ls_rs tbOk (oT (oL 3 ci64 z2) rfl (oA (oL 3 ci64 z2) rfl (en [(4, oL 3 ci64 z2)] rfl rfl (ls_ret ?_))))))
  cases h
  exact ⟨.inl rfl, rfl⟩
 refine ls_rec (fun (s : (List Int) × Int) => match s with | (y1, y2) => [(0, dL ci64 a0), (5, oL 3 ci64 y1), (9, dL ci64 a1), (10, nI (List.length a1 : Int)), (11, nI y2)]) (impl_pick_B1 a0 a1) fz (([] : List Int), 0) o1 hl (okr rfl) (fun _ => rfl) ?_
 rintro m ⟨y1, y2⟩ N h hN
 unfold impl_pick_B1 at h
 dsimp only at h
 refine ls_rs tbOk (oB (nI y2) (nI (List.length a1 : Int)) rfl rfl (en [(0, dL ci64 a0), (5, oL 3 ci64 y1), (9, dL ci64 a1), (10, nI (List.length a1 : Int)), (11, nI y2), (12, .bool (decide (y2 < (List.length a1 : Int))))] rfl rfl (ls_seq_k fun K3 hK3 => ?_)))
 rcases cond_some h with ⟨g4, h⟩ | ⟨g4, h⟩
 ·refine ls_cT rfl g4 (ls_skip (hK3 _ (kp [(0, dL ci64 a0), (5, oL 3 ci64 y1), (9, dL ci64 a1), (10, nI (List.length a1 : Int)), (11, nI y2)] rfl rfl (ls_seq_k fun K5 hK5 => ls_blk (ls_rs tbOk ?_)))))
  obtain ⟨e6, g7, h⟩ := ob_some h
  refine ev_ia rfl rfl rfl ⟨(geti_some g7).1, (geti_some g7).2.1⟩ (oLE y2 1 0 (nI e6) zci64 g7 rfl (oA (nI e6) rfl (en [(0, dL ci64 a0), (5, oL 3 ci64 y1), (7, nI e6), (9, dL ci64 a1), (10, nI (List.length a1 : Int)), (11, nI y2)] rfl rfl (ls_rgn tbOk (oT (oL 3 ci64 y1) rfl (oM (dL ci64 a0) rfl (oM (nI e6) rfl (?_))))))))
  obtain ⟨e8, g9, h⟩ := ob_some h
  refine ev_ia rfl rfl rfl ⟨(geti_some g9).1, (geti_some g9).2.1⟩ (oLE e6 1 0 (nI e8) zci64 g9 rfl (ev_bs [nI e8] (cs := [nI e8]) rfl ⟨rfl, trivial⟩ rfl (nb rfl) rfl (?_)))
  obtain ⟨g10, h⟩ := chk_some h
  exact ev_app (f := ci64) (l := y1) (m := [e8]) (c2 := oL 3 ci64 [e8]) rfl rfl rfl (flat_len zci64 [e8]) rfl rfl g10 rfl (oA (oL 3 ci64 (y1 ++ [e8])) rfl (evn (hK5 _ (kp [(0, dL ci64 a0), (5, oL 3 ci64 (y1 ++ [e8])), (9, dL ci64 a1), (10, nI (List.length a1 : Int)), (11, nI y2)] rfl rfl (ls_rgn tbOk (oB (nI y2) (nI 1) rfl rfl (oM (nI (IntKind.i64.wrap (y2 + 1))) rfl (evn (hN _ ((y1 ++ [e8]), (IntKind.i64.wrap (y2 + 1))) h (okr rfl))))))))))
 ·exact ls_cF rfl g4 (ls_exit (kXimpl_pick_B1 y1 (by cases h; exact hr1) _ (okr rfl)))
def impl_columnsFit_B1 (a0 : Int) (a1 : List Int) (rec : Int → Option (Sum (Unit) (Bool))) (y1 : Int) : Option (Sum (Unit) (Bool)) := cond (decide (y1 < (List.length a1 : Int))) (obind (geti a1 y1) fun e7 => obind (impl_within e7 0 (IntKind.i64.wrap (a0 - 1))) fun v9 => cond (!v9) (some (.inr false)) (rec (IntKind.i64.wrap (y1 + 1)))) (some (.inl ()))
def impl_columnsFit (a0 : Int) (a1 : List Int) : Option (Bool) := cond (decide (5 < (List.length a1 : Int))) (some false) (obind (loopF (impl_columnsFit_B1 a0 a1) fz 0) fun o1 => (match o1 with
  | .inl _ => (some true)
  | .inr r => some r))
theorem impl_columnsFit_s {a0 : Int} {a1 : List Int} {r : Bool} (h : impl_columnsFit a0 a1 = some r) : SoundAt Try.prog 251 [nI a0, dL ci64 a1] (.bool r) := by
 unfold impl_columnsFit at h
 refine sound_lit tbOk lit251 (nb rfl) rfl ?_
 unfold c251
 refine kp [(0, nI a0), (1, dL ci64 a1)] rfl rfl (ls_rs tbOk (oC nofun rfl (en [(0, nI a0), (1, dL ci64 a1)] rfl rfl (ls_seq_k fun K1 hK1 => ls_rs tbOk (oM (dL ci64 a1) rfl (oN (dL ci64 a1) rfl (oB (nI (List.length a1 : Int)) (nI 5) rfl rfl (en [(0, nI a0), (1, dL ci64 a1), (9, .bool (decide (5 < (List.length a1 : Int))))] rfl rfl ?_))))))))
 rcases cond_some h with ⟨g2, h⟩ | ⟨g2, h⟩
 ·refine ls_cT rfl g2 (ls_rs tbOk (oC nofun rfl (en [(4, .bool false)] rfl rfl (ls_ret ?_))))
  cases h
  exact ⟨.inl rfl, rfl⟩
 ·refine ls_cF rfl g2 (ls_skip (hK1 _ (kp [(0, nI a0), (1, dL ci64 a1)] rfl rfl (ls_seq_k fun K3 hK3 => ls_rs tbOk (oM (dL ci64 a1) rfl (oN (dL ci64 a1) rfl (ev_mc rfl rfl (en [(0, nI a0), (10, dL ci64 a1), (11, nI (List.length a1 : Int)), (12, nI 0)] rfl rfl ?_))))))))
  obtain ⟨o1, hl, hr1⟩ := ob_some h
  clear h
  have kXimpl_columnsFit_B1 : ∀ (_ : Unit), (some true) = some r → ∀ σ' : PS, okK σ' [] → K3 σ' := by
   intro _ h σ' hk
   refine hK3 _ (ls_keep [] hk rfl (ls_rs tbOk (oC nofun rfl (en [(4, .bool true)] rfl rfl (ls_ret ?_)))))
   cases h
   exact ⟨.inl rfl, rfl⟩
  refine ls_rec (fun (y1 : Int) => [(0, nI a0), (10, dL ci64 a1), (11, nI (List.length a1 : Int)), (12, nI y1)]) (impl_columnsFit_B1 a0 a1) fz 0 o1 hl (okr rfl) (fun _ => rfl) ?_
  rintro m y1 N h hN
  unfold impl_columnsFit_B1 at h
  refine ls_rs tbOk (oB (nI y1) (nI (List.length a1 : Int)) rfl rfl (en [(0, nI a0), (10, dL ci64 a1), (11, nI (List.length a1 : Int)), (12, nI y1), (13, .bool (decide (y1 < (List.length a1 : Int))))] rfl rfl (ls_seq_k fun K4 hK4 => ?_)))
  rcases cond_some h with ⟨g5, h⟩ | ⟨g5, h⟩
  ·refine ls_cT rfl g5 (ls_skip (hK4 _ (kp [(0, nI a0), (10, dL ci64 a1), (11, nI (List.length a1 : Int)), (12, nI y1)] rfl rfl (ls_seq_k fun K6 hK6 => ls_blk (ls_rs tbOk ?_)))))
   obtain ⟨e7, g8, h⟩ := ob_some h
   refine ev_ia rfl rfl rfl ⟨(geti_some g8).1, (geti_some g8).2.1⟩ (oLE y1 1 0 (nI e7) zci64 g8 rfl (oA (nI e7) rfl (en [(0, nI a0), (6, nI e7), (10, dL ci64 a1), (11, nI (List.length a1 : Int)), (12, nI y1)] rfl rfl (ls_rs tbOk (oM (nI e7) rfl (oM (nI a0) rfl (oB (nI a0) (nI 1) rfl rfl (?_))))))))
   obtain ⟨v9, g10, h⟩ := ob_some h
   refine ev_call (era rfl rfl (era rfl rfl (era rfl rfl eran))) (impl_within_s g10) (ev_un (c1 := .bool v9) rfl trivial (en [(0, nI a0), (10, dL ci64 a1), (11, nI (List.length a1 : Int)), (12, nI y1), (20, .bool (!v9))] rfl rfl ?_))
   rcases cond_some h with ⟨g11, h⟩ | ⟨g11, h⟩
   ·refine ls_cT rfl g11 (ls_rs tbOk (oC nofun rfl (en [(4, .bool false)] rfl rfl (ls_ret ?_))))
    cases h
    cases hr1
    exact ⟨.inl rfl, rfl⟩
   ·exact ls_cF rfl g11 (ls_skip (hK6 _ (kp [(0, nI a0), (10, dL ci64 a1), (11, nI (List.length a1 : Int)), (12, nI y1)] rfl rfl (ls_rgn tbOk (oB (nI y1) (nI 1) rfl rfl (oM (nI (IntKind.i64.wrap (y1 + 1))) rfl (evn (hN _ (IntKind.i64.wrap (y1 + 1)) h (okr rfl)))))))))
  ·exact ls_cF rfl g5 (ls_exit (kXimpl_columnsFit_B1 () (by cases h; exact hr1) _ trivial))
def impl_sorted_J5 (rec : ((List (Nat × (List Int))) × (List (Nat × (List Int))) × (List (Nat × (List Int)))) → Option ((List (Nat × (List Int))))) (y2 : List (Nat × (List Int))) (x20 : List (Nat × (List Int))) (x24 : List (Nat × (List Int))) : Option ((List (Nat × (List Int)))) := chk ((0 : Int) ≤ 1 ∧ 1 ≤ (List.length y2 : Int) ∧ (List.length y2 : Int) ≤ (List.length y2 : Int)) (rec (x20, (subl y2 1 (List.length y2 : Int)), x24))
def impl_sorted_J4 (rec : ((List (Nat × (List Int))) × (List (Nat × (List Int))) × (List (Nat × (List Int)))) → Option ((List (Nat × (List Int))))) (y2 : List (Nat × (List Int))) (x18 : Int) (x20 : List (Nat × (List Int))) (x21 : List (Nat × (List Int))) : Option ((List (Nat × (List Int)))) := cond (decide (0 ≤ x18)) (cond (decide (0 < x18)) (obind (geti y2 0) fun e27 => chk (List.length x21 + List.length [e27] ≤ lim) (impl_sorted_J5 rec y2 x20 (x21 ++ [e27]))) (impl_sorted_J5 rec y2 x20 x21)) (rec (x20, y2, x21))
def impl_sorted_J3 (rec : ((List (Nat × (List Int))) × (List (Nat × (List Int))) × (List (Nat × (List Int)))) → Option ((List (Nat × (List Int))))) (y1 : List (Nat × (List Int))) (y2 : List (Nat × (List Int))) (y3 : List (Nat × (List Int))) (x18 : Int) : Option ((List (Nat × (List Int)))) := cond (decide (x18 ≤ 0)) (obind (geti y1 0) fun e31 => chk (List.length y3 + List.length [e31] ≤ lim) (chk ((0 : Int) ≤ 1 ∧ 1 ≤ (List.length y1 : Int) ∧ (List.length y1 : Int) ≤ (List.length y1 : Int)) (impl_sorted_J4 rec y2 x18 (subl y1 1 (List.length y1 : Int)) (y3 ++ [e31])))) (impl_sorted_J4 rec y2 x18 y1 y3)
def impl_sorted_J2 (rec : ((List (Nat × (List Int))) × (List (Nat × (List Int))) × (List (Nat × (List Int)))) → Option ((List (Nat × (List Int))))) (y1 : List (Nat × (List Int))) (y2 : List (Nat × (List Int))) (y3 : List (Nat × (List Int))) (x15 : Bool) : Option ((List (Nat × (List Int)))) := cond x15 (cond ((List.length y1 : Int) == 0) (impl_sorted_J3 rec y1 y2 y3 1) (cond (decide (0 < (List.length y2 : Int))) (obind (geti y1 0) fun e37 => obind (geti y2 0) fun e39 => obind (impl_CompareRows e37.2 e39.2) fun v41 => impl_sorted_J3 rec y1 y2 y3 v41) (impl_sorted_J3 rec y1 y2 y3 (-1)))) (some y3)
def impl_sorted_B1  (rec : ((List (Nat × (List Int))) × (List (Nat × (List Int))) × (List (Nat × (List Int)))) → Option ((List (Nat × (List Int))))) (s : (List (Nat × (List Int))) × (List (Nat × (List Int))) × (List (Nat × (List Int)))) : Option ((List (Nat × (List Int)))) := match s with
  | (y1, y2, y3) => cond (decide (0 < (List.length y1 : Int))) (impl_sorted_J2 rec y1 y2 y3 true) (impl_sorted_J2 rec y1 y2 y3 (decide (0 < (List.length y2 : Int))))
def impl_sorted_R (rec : ((List (List Int))) → Option ((List (List Int)))) (a0 : (List (List Int))) : Option ((List (List Int))) := cond (decide ((List.length a0 : Int) < 2)) (obind (impl_copyRows a0) fun v3 => some v3) (chk ((0 : Int) ≤ 0 ∧ 0 ≤ IntKind.i64.wrap (Int.tdiv (List.length a0 : Int) 2) ∧ IntKind.i64.wrap (Int.tdiv (List.length a0 : Int) 2) ≤ (List.length a0 : Int)) (obind (rec (subl a0 0 (IntKind.i64.wrap (Int.tdiv (List.length a0 : Int) 2)))) fun v6 => chk ((0 : Int) ≤ IntKind.i64.wrap (Int.tdiv (List.length a0 : Int) 2) ∧ IntKind.i64.wrap (Int.tdiv (List.length a0 : Int) 2) ≤ (List.length a0 : Int) ∧ (List.length a0 : Int) ≤ (List.length a0 : Int)) (obind (rec (subl a0 (IntKind.i64.wrap (Int.tdiv (List.length a0 : Int) 2)) (List.length a0 : Int))) fun v9 => obind (loopF impl_sorted_B1 fz ((enumP 0 v6), (enumP (List.length v6) v9), ([] : List (Nat × (List Int))))) fun z12 => chk (okJ (v6 ++ v9) (List.map Sum.inl z12) [] = true) (some (List.map getM (List.map Sum.inl z12))))))
def impl_sorted (a0 : List (List Int)) : Option ((List (List Int))) := loopF impl_sorted_R fz a0
theorem impl_sorted_s {a0 : List (List Int)} {r : (List (List Int))} (h : impl_sorted a0 = some r) : SoundAt Try.prog 253 [dL c25_d a0] (oL 25 c25_o r) := by
 suffices key : ∀ m (a0 : List (List Int)) (r : (List (List Int))), loopF impl_sorted_R m a0 = some r → SoundAt Try.prog 253 [dL c25_d a0] (oL 25 c25_o r) from key fz a0 r h
 intro m
 induction m with
 | zero => intro a0 r h; cases h
 | succ m ih0 =>
  intro a0 r h
  have ih : ∀ {a0 : List (List Int)} {r : (List (List Int))}, loopF impl_sorted_R m a0 = some r → SoundAt Try.prog 253 [dL c25_d a0] (oL 25 c25_o r) := fun h => ih0 _ _ h
  change impl_sorted_R (loopF impl_sorted_R m) a0 = some r at h
  unfold impl_sorted_R at h
  try dsimp only at h
  refine sound_lit tbOk lit253 (nb rfl) rfl ?_
  unfold c253
  refine kp [(0, dL c25_d a0)] rfl rfl (ls_rs tbOk (ev_an rfl rfl (en [(0, dL c25_d a0)] rfl rfl (ls_seq_k fun K1 hK1 => ls_rs tbOk (oM (dL c25_d a0) rfl (oN (dL c25_d a0) rfl (oB (nI (List.length a0 : Int)) (nI 2) rfl rfl (en [(0, dL c25_d a0), (10, .bool (decide ((List.length a0 : Int) < 2)))] rfl rfl ?_))))))))
  rcases cond_some h with ⟨g2, h⟩ | ⟨g2, h⟩
  ·refine ls_cT rfl g2 (ls_rs tbOk (oM (dL c25_d a0) rfl (?_)))
   obtain ⟨v3, g4, h⟩ := ob_some h
   refine ev_call (era rfl (erD ec25_d _) eran) (impl_copyRows_s g4) (oA (oL 25 c25_o v3) rfl (en [(2, oL 25 c25_o v3)] rfl rfl (ls_ret ?_)))
   cases h
   exact ⟨.inl rfl, rfl⟩
  ·refine ls_cF rfl g2 (ls_skip (hK1 _ (kp [(0, dL c25_d a0)] rfl rfl (ls_rs tbOk (oM (dL c25_d a0) rfl (oN (dL c25_d a0) rfl (oB (nI (List.length a0 : Int)) (nI 2) rfl ⟨rfl, by decide⟩ (oA (nI (IntKind.i64.wrap (Int.tdiv (List.length a0 : Int) 2))) rfl (en [(0, dL c25_d a0), (3, nI (IntKind.i64.wrap (Int.tdiv (List.length a0 : Int) 2)))] rfl rfl (ls_rd tbOk mixed (by kernel_rfl) (ed rfl (oM (dL c25_d a0) rfl (ed rfl (oM (nI (IntKind.i64.wrap (Int.tdiv (List.length a0 : Int) 2))) rfl (?_)))))))))))))))
   obtain ⟨g5, h⟩ := chk_some h
   refine ed rfl (ev_sle (lst := a0) rfl rfl zc25_d rfl rfl g5 (?_))
   obtain ⟨v6, g7, h⟩ := ob_some h
   refine ed rfl (ev_call (era rfl (erD ec25_d _) eran) (ih g7) (ed rfl (oM (dL c25_d a0) rfl (ed rfl (oM (nI (IntKind.i64.wrap (Int.tdiv (List.length a0 : Int) 2))) rfl (?_))))))
   obtain ⟨g8, h⟩ := chk_some h
   refine ed rfl (ev_sle (lst := a0) rfl rfl zc25_d rfl rfl g8 (?_))
   obtain ⟨v9, g10, h⟩ := ob_some h
   refine ed rfl (ev_call (era rfl (erD ec25_d _) eran) (ih g10) (ed rfl (oA (oL 25 c25_o v6) rfl (ed rfl (oA (oL 25 c25_o v9) rfl (evdn (kp [(4, oL 25 c25_o v6), (5, oL 25 c25_o v9)] rfl rfl (kp [(4, oL 25 c25_o v6), (5, oL 25 c25_o v9)] rfl rfl (ls_split2 (f := c25_o) (s1 := 4) (s2 := 5) (g1 := 900001) (g2 := 900002) rfl rfl rfl rfl ⟨by decide, by decide, by decide, by decide, by decide, by decide⟩ (split_own (fun _ => rfl)) (split_own (fun _ => rfl)) (fun _ => rfl) (fun _ => rfl) (fun _ => rfl) (fun _ => rfl) ?_)))))))))
   intro U us1 us2 hu1 hu2 hU
   refine kp [(4, oL 25 (pE c25_o U) (enumP 0 v6)), (5, oL 25 (pE c25_o U) (enumP (List.length v6) v9)), (900001, .gh us1 (List.map (fun x => tokC (c25_o x)) v6)), (900002, .gh us2 (List.map (fun x => tokC (c25_o x)) v9))] rfl rfl (ls_rs tbOk (ev_an rfl rfl (en [(4, oL 25 (pE c25_o U) (enumP 0 v6)), (5, oL 25 (pE c25_o U) (enumP (List.length v6) v9)), (6, oL 25 c25_o []), (900001, .gh us1 (List.map (fun x => tokC (c25_o x)) v6)), (900002, .gh us2 (List.map (fun x => tokC (c25_o x)) v9))] rfl rfl (ls_seq_k fun K11 hK11 => ?_))))
   obtain ⟨o1, hl, hr1⟩ := ob_some h
   clear h
   have kXimpl_sorted_B1 : ∀ (z12 : List (Nat × (List Int))), (chk (okJ (v6 ++ v9) (List.map Sum.inl z12) [] = true) (some (List.map getM (List.map Sum.inl z12)))) = some r → ∀ σ' : PS, okK σ' [(6, oL 25 (pE c25_o U) z12), (900001, .gh us1 (List.map (fun x => tokC (c25_o x)) v6)), (900002, .gh us2 (List.map (fun x => tokC (c25_o x)) v9))] → K11 σ' := by
    intro z12 h σ' hk
    refine hK11 _ (ls_keep [(6, oL 25 (pE c25_o U) z12), (900001, .gh us1 (List.map (fun x => tokC (c25_o x)) v6)), (900002, .gh us2 (List.map (fun x => tokC (c25_o x)) v9))] hk rfl (kp [(6, oL 25 (pE c25_o U) z12), (900001, .gh us1 (List.map (fun x => tokC (c25_o x)) v6)), (900002, .gh us2 (List.map (fun x => tokC (c25_o x)) v9))] rfl rfl ?_))
    obtain ⟨g44, h⟩ := chk_some h
    refine ls_merge (g1 := 900001) (g2 := 900002) rfl rfl (by decide) (ls_join1 (f := c25_o) (s := 6) (q := 900001) (l := v6 ++ v9) (U := U) (L := List.map Sum.inl z12) own_inl rfl List.map_append.symm (by decide) (join_own (fun _ => rfl)) hU g44 rfl rfl (kp [(6, oL 25 c25_o (List.map getM (List.map Sum.inl z12)))] rfl rfl (ls_rs tbOk (oT (oL 25 c25_o (List.map getM (List.map Sum.inl z12))) rfl (oA (oL 25 c25_o (List.map getM (List.map Sum.inl z12))) rfl (en [(2, oL 25 c25_o (List.map getM (List.map Sum.inl z12)))] rfl rfl (ls_ret ?_)))))))
    cases h
    exact ⟨.inl rfl, rfl⟩
   refine ls_rec (fun (s : (List (Nat × (List Int))) × (List (Nat × (List Int))) × (List (Nat × (List Int)))) => match s with | (y1, y2, y3) => [(4, dL (pE c25_o U) y1), (5, dL (pE c25_o U) y2), (6, oL 25 (pE c25_o U) y3), (900001, .gh us1 (List.map (fun x => tokC (c25_o x)) v6)), (900002, .gh us2 (List.map (fun x => tokC (c25_o x)) v9))]) impl_sorted_B1 fz ((enumP 0 v6), (enumP (List.length v6) v9), ([] : List (Nat × (List Int)))) o1 hl ⟨(kd rfl rfl), (kd rfl rfl), kr, kr, kr, trivial⟩ (fun _ => rfl) ?_
   rintro m ⟨y1, y2, y3⟩ N h hN
   unfold impl_sorted_B1 at h
   dsimp only at h
   refine ls_seq_k fun K13 hK13 => ls_rs_k tbOk fun K14 hK14 => ?_
   have kimpl_sorted_J2 : ∀ (x15 : Bool), impl_sorted_J2 (loopF impl_sorted_B1 m) y1 y2 y3 x15 = some o1 → ∀ σ' : PS, okK σ' [(4, dL (pE c25_o U) y1), (5, dL (pE c25_o U) y2), (6, oL 25 (pE c25_o U) y3), (31, .bool x15), (900001, .gh us1 (List.map (fun x => tokC (c25_o x)) v6)), (900002, .gh us2 (List.map (fun x => tokC (c25_o x)) v9))] → K14 σ' := by
    intro x15 h σ' hk
    unfold impl_sorted_J2 at h
    refine hK14 _ (ls_keep [(4, dL (pE c25_o U) y1), (5, dL (pE c25_o U) y2), (6, oL 25 (pE c25_o U) y3), (31, .bool x15), (900001, .gh us1 (List.map (fun x => tokC (c25_o x)) v6)), (900002, .gh us2 (List.map (fun x => tokC (c25_o x)) v9))] hk rfl ?_)
    rcases cond_some h with ⟨g16, h⟩ | ⟨g16, h⟩
    ·refine ls_cT rfl g16 (ls_skip (hK13 _ (kp [(4, dL (pE c25_o U) y1), (5, dL (pE c25_o U) y2), (6, oL 25 (pE c25_o U) y3), (900001, .gh us1 (List.map (fun x => tokC (c25_o x)) v6)), (900002, .gh us2 (List.map (fun x => tokC (c25_o x)) v9))] rfl rfl (ls_blk (ls_rs tbOk (oC nofun rfl (en [(4, dL (pE c25_o U) y1), (5, dL (pE c25_o U) y2), (6, oL 25 (pE c25_o U) y3), (7, nI (-1)), (900001, .gh us1 (List.map (fun x => tokC (c25_o x)) v6)), (900002, .gh us2 (List.map (fun x => tokC (c25_o x)) v9))] rfl rfl (ls_seq_k fun K17 hK17 => ls_rs tbOk (oM (dL (pE c25_o U) y1) rfl (oN (dL (pE c25_o U) y1) rfl (oB (nI (List.length y1 : Int)) (nI 0) rfl rfl (en [(4, dL (pE c25_o U) y1), (5, dL (pE c25_o U) y2), (6, oL 25 (pE c25_o U) y3), (7, nI (-1)), (34, .bool ((List.length y1 : Int) == 0)), (900001, .gh us1 (List.map (fun x => tokC (c25_o x)) v6)), (900002, .gh us2 (List.map (fun x => tokC (c25_o x)) v9))] rfl rfl ?_))))))))))))
     have kimpl_sorted_J3 : ∀ (x18 : Int), impl_sorted_J3 (loopF impl_sorted_B1 m) y1 y2 y3 x18 = some o1 → ∀ σ' : PS, okK σ' [(4, dL (pE c25_o U) y1), (5, dL (pE c25_o U) y2), (6, oL 25 (pE c25_o U) y3), (7, nI x18), (900001, .gh us1 (List.map (fun x => tokC (c25_o x)) v6)), (900002, .gh us2 (List.map (fun x => tokC (c25_o x)) v9))] → K17 σ' := by
      intro x18 h σ' hk
      unfold impl_sorted_J3 at h
      refine hK17 _ (ls_keep [(4, dL (pE c25_o U) y1), (5, dL (pE c25_o U) y2), (6, oL 25 (pE c25_o U) y3), (7, nI x18), (900001, .gh us1 (List.map (fun x => tokC (c25_o x)) v6)), (900002, .gh us2 (List.map (fun x => tokC (c25_o x)) v9))] hk rfl (ls_seq_k fun K19 hK19 => ls_rs tbOk (oM (nI x18) rfl (oB (nI x18) (nI 0) rfl rfl (en [(4, dL (pE c25_o U) y1), (5, dL (pE c25_o U) y2), (6, oL 25 (pE c25_o U) y3), (7, nI x18), (46, .bool (decide (x18 ≤ 0))), (900001, .gh us1 (List.map (fun x => tokC (c25_o x)) v6)), (900002, .gh us2 (List.map (fun x => tokC (c25_o x)) v9))] rfl rfl ?_)))))
      have kimpl_sorted_J4 : ∀ (x20 : List (Nat × (List Int))) (x21 : List (Nat × (List Int))), impl_sorted_J4 (loopF impl_sorted_B1 m) y2 x18 x20 x21 = some o1 → ∀ σ' : PS, okK σ' [(4, dL (pE c25_o U) x20), (5, dL (pE c25_o U) y2), (6, oL 25 (pE c25_o U) x21), (7, nI x18), (900001, .gh us1 (List.map (fun x => tokC (c25_o x)) v6)), (900002, .gh us2 (List.map (fun x => tokC (c25_o x)) v9))] → K19 σ' := by
       intro x20 x21 h σ' hk
       unfold impl_sorted_J4 at h
       refine hK19 _ (ls_keep [(4, dL (pE c25_o U) x20), (5, dL (pE c25_o U) y2), (6, oL 25 (pE c25_o U) x21), (7, nI x18), (900001, .gh us1 (List.map (fun x => tokC (c25_o x)) v6)), (900002, .gh us2 (List.map (fun x => tokC (c25_o x)) v9))] hk rfl (ls_rs tbOk (oM (nI x18) rfl (oB (nI x18) (nI 0) rfl rfl (en [(4, dL (pE c25_o U) x20), (5, dL (pE c25_o U) y2), (6, oL 25 (pE c25_o U) x21), (7, nI x18), (56, .bool (decide (0 ≤ x18))), (900001, .gh us1 (List.map (fun x => tokC (c25_o x)) v6)), (900002, .gh us2 (List.map (fun x => tokC (c25_o x)) v9))] rfl rfl ?_)))))
       rcases cond_some h with ⟨g22, h⟩ | ⟨g22, h⟩
       ·refine ls_cT rfl g22 (ls_seq_k fun K23 hK23 => ls_rs tbOk (oM (nI x18) rfl (oB (nI x18) (nI 0) rfl rfl (en [(4, dL (pE c25_o U) x20), (5, dL (pE c25_o U) y2), (6, oL 25 (pE c25_o U) x21), (58, .bool (decide (0 < x18))), (900001, .gh us1 (List.map (fun x => tokC (c25_o x)) v6)), (900002, .gh us2 (List.map (fun x => tokC (c25_o x)) v9))] rfl rfl ?_))))
        have kimpl_sorted_J5 : ∀ (x24 : List (Nat × (List Int))), impl_sorted_J5 (loopF impl_sorted_B1 m) y2 x20 x24 = some o1 → ∀ σ' : PS, okK σ' [(4, dL (pE c25_o U) x20), (5, dL (pE c25_o U) y2), (6, oL 25 (pE c25_o U) x24), (900001, .gh us1 (List.map (fun x => tokC (c25_o x)) v6)), (900002, .gh us2 (List.map (fun x => tokC (c25_o x)) v9))] → K23 σ' := by
         intro x24 h σ' hk
         unfold impl_sorted_J5 at h
         refine hK23 _ (ls_keep [(4, dL (pE c25_o U) x20), (5, dL (pE c25_o U) y2), (6, oL 25 (pE c25_o U) x24), (900001, .gh us1 (List.map (fun x => tokC (c25_o x)) v6)), (900002, .gh us2 (List.map (fun x => tokC (c25_o x)) v9))] hk rfl (ls_rgn tbOk (oM (dL (pE c25_o U) y2) rfl (?_))))
         obtain ⟨g25, h⟩ := chk_some h
         exact ev_sle (lst := y2) rfl rfl (zpE zc25_o) rfl rfl g25 (oA (dL (pE c25_o U) (subl y2 1 (List.length y2 : Int))) rfl (evn (hN _ (x20, (subl y2 1 (List.length y2 : Int)), x24) h (okr rfl))))
        rcases cond_some h with ⟨g26, h⟩ | ⟨g26, h⟩
        ·refine ls_cT rfl g26 (ls_rgn tbOk (oT (oL 25 (pE c25_o U) x21) rfl (oM (dL (pE c25_o U) y2) rfl (?_))))
         obtain ⟨e27, g28, h⟩ := ob_some h
         refine ev_ia rfl rfl rfl ⟨(geti_some g28).1, (geti_some g28).2.1⟩ (ev_ldEt (i := 0) (n := 1) (off := 0) (v := .pin (U e27.1) e27.2.length (erL (e27.2.flatMap ci64))) rfl rfl (zpE zc25_o) g28 rfl (nb rfl) rfl (ev_bs [.pin (U e27.1) e27.2.length (erL (e27.2.flatMap ci64))] (cs := [.pin (U e27.1) e27.2.length (erL (e27.2.flatMap ci64))]) rfl ⟨rfl, trivial⟩ rfl (nb rfl) rfl (?_)))
         obtain ⟨g29, h⟩ := chk_some h
         exact ev_app (f := (pE c25_o U)) (l := x21) (m := [e27]) (c2 := oL 25 (pE c25_o U) [e27]) rfl rfl rfl (flat_len (zpE zc25_o) [e27]) rfl rfl g29 rfl (oA (oL 25 (pE c25_o U) (x21 ++ [e27])) rfl (evn (kimpl_sorted_J5 (x21 ++ [e27]) h _ (okr rfl))))
        ·exact ls_cF rfl g26 (ls_skip (kimpl_sorted_J5 x21 h _ (okr rfl)))
       ·exact ls_cF rfl g22 (ls_skip (hN _ (x20, y2, x21) h (okr rfl)))
      rcases cond_some h with ⟨g30, h⟩ | ⟨g30, h⟩
      ·refine ls_cT rfl g30 (ls_rs tbOk (oT (oL 25 (pE c25_o U) y3) rfl (oM (dL (pE c25_o U) y1) rfl (?_))))
       obtain ⟨e31, g32, h⟩ := ob_some h
       refine ev_ia rfl rfl rfl ⟨(geti_some g32).1, (geti_some g32).2.1⟩ (ev_ldEt (i := 0) (n := 1) (off := 0) (v := .pin (U e31.1) e31.2.length (erL (e31.2.flatMap ci64))) rfl rfl (zpE zc25_o) g32 rfl (nb rfl) rfl (ev_bs [.pin (U e31.1) e31.2.length (erL (e31.2.flatMap ci64))] (cs := [.pin (U e31.1) e31.2.length (erL (e31.2.flatMap ci64))]) rfl ⟨rfl, trivial⟩ rfl (nb rfl) rfl (?_)))
       obtain ⟨g33, h⟩ := chk_some h
       refine ev_app (f := (pE c25_o U)) (l := y3) (m := [e31]) (c2 := oL 25 (pE c25_o U) [e31]) rfl rfl rfl (flat_len (zpE zc25_o) [e31]) rfl rfl g33 rfl (oA (oL 25 (pE c25_o U) (y3 ++ [e31])) rfl (en [(4, dL (pE c25_o U) y1), (5, dL (pE c25_o U) y2), (6, oL 25 (pE c25_o U) (y3 ++ [e31])), (7, nI x18), (900001, .gh us1 (List.map (fun x => tokC (c25_o x)) v6)), (900002, .gh us2 (List.map (fun x => tokC (c25_o x)) v9))] rfl rfl (ls_rgn tbOk (oM (dL (pE c25_o U) y1) rfl (?_)))))
       obtain ⟨g34, h⟩ := chk_some h
       exact ev_sle (lst := y1) rfl rfl (zpE zc25_o) rfl rfl g34 (oA (dL (pE c25_o U) (subl y1 1 (List.length y1 : Int))) rfl (evn (kimpl_sorted_J4 (subl y1 1 (List.length y1 : Int)) (y3 ++ [e31]) h _ (okr rfl))))
      ·exact ls_cF rfl g30 (ls_skip (kimpl_sorted_J4 y1 y3 h _ (okr rfl)))
     rcases cond_some h with ⟨g35, h⟩ | ⟨g35, h⟩
     ·exact ls_cT rfl g35 (ls_rgn tbOk (oC nofun rfl (evn (kimpl_sorted_J3 1 h _ (okr rfl)))))
     ·refine ls_cF rfl g35 (ls_rs tbOk (oM (dL (pE c25_o U) y2) rfl (oN (dL (pE c25_o U) y2) rfl (oB (nI (List.length y2 : Int)) (nI 0) rfl rfl (en [(4, dL (pE c25_o U) y1), (5, dL (pE c25_o U) y2), (6, oL 25 (pE c25_o U) y3), (7, nI (-1)), (37, .bool (decide (0 < (List.length y2 : Int)))), (900001, .gh us1 (List.map (fun x => tokC (c25_o x)) v6)), (900002, .gh us2 (List.map (fun x => tokC (c25_o x)) v9))] rfl rfl ?_)))))
      rcases cond_some h with ⟨g36, h⟩ | ⟨g36, h⟩
      ·refine ls_cT rfl g36 (ls_drw tbOk mixed (by kernel_rfl) (ed rfl (oM (dL (pE c25_o U) y1) rfl (?_))))
       obtain ⟨e37, g38, h⟩ := ob_some h
       refine ed rfl (ev_ia rfl rfl rfl ⟨(geti_some g38).1, (geti_some g38).2.1⟩ (ed rfl (oLE 0 1 0 (.pin (U e37.1) e37.2.length (erL (e37.2.flatMap ci64))) (zpE zc25_o) g38 rfl (ed rfl (oM (dL (pE c25_o U) y2) rfl (?_))))))
       obtain ⟨e39, g40, h⟩ := ob_some h
       refine ed rfl (ev_ia rfl rfl rfl ⟨(geti_some g40).1, (geti_some g40).2.1⟩ (ed rfl (oLE 0 1 0 (.pin (U e39.1) e39.2.length (erL (e39.2.flatMap ci64))) (zpE zc25_o) g40 rfl (?_))))
       obtain ⟨v41, g42, h⟩ := ob_some h
       exact ed rfl (ev_call (era rfl (erP eci64 eci64 _) (era rfl (erP eci64 eci64 _) eran)) (impl_CompareRows_s g42) (ed rfl (oA (nI v41) rfl (evdn (kimpl_sorted_J3 v41 h _ (okr rfl))))))
      ·exact ls_cF rfl g36 (ls_skip (kimpl_sorted_J3 (-1) h _ (okr rfl)))
    ·exact ls_cF rfl g16 (ls_exit (kXimpl_sorted_B1 y3 (by cases h; exact hr1) _ (okr rfl)))
   refine oM (dL (pE c25_o U) y1) rfl (oN (dL (pE c25_o U) y1) rfl (oB (nI (List.length y1 : Int)) (nI 0) rfl rfl (oM (.bool (decide (0 < (List.length y1 : Int)))) rfl (?_))))
   rcases cond_some h with ⟨g43, h⟩ | ⟨g43, h⟩
   ·exact oGT g43 rfl (oGT g43 rfl (oGT g43 rfl (oPT (.bool true) g43 rfl (evn (kimpl_sorted_J2 true h _ (okr rfl))))))
   ·exact oGR g43 rfl (oM (dL (pE c25_o U) y2) rfl (oGR g43 rfl (oN (dL (pE c25_o U) y2) rfl (oGR g43 rfl (oB (nI (List.length y2 : Int)) (nI 0) rfl rfl (oPF (.bool (decide (0 < (List.length y2 : Int)))) g43 rfl (evn (kimpl_sorted_J2 (decide (0 < (List.length y2 : Int))) h _ (okr rfl)))))))))
def impl_NewRelation_B1 (a0 : Int) (a1 : List (List Int)) (rec : Int → Option (Sum (Unit) (Y127 × Bool))) (y1 : Int) : Option (Sum (Unit) (Y127 × Bool)) := cond (decide (y1 < (List.length a1 : Int))) (obind (geti a1 y1) fun e5 => cond ((List.length e5 : Int) != a0) (some (.inr ((0, []), false))) (obind (impl_AreValidValues e5) fun v8 => cond (!v8) (some (.inr ((0, []), false))) (rec (IntKind.i64.wrap (y1 + 1))))) (some (.inl ()))
def impl_NewRelation (a0 : Int) (a1 : List (List Int)) : Option (Y127 × Bool) := obind (loopF (impl_NewRelation_B1 a0 a1) fz 0) fun o1 => (match o1 with
  | .inl _ => (obind (impl_sorted a1) fun v11 => obind (impl_IsValidRelation (a0, v11)) fun v14 => cond (!v14) (some ((0, []), false)) (some ((a0, v11), true)))
  | .inr r => some r)
theorem impl_NewRelation_s {a0 : Int} {a1 : List (List Int)} {r : Y127 × Bool} (h : impl_NewRelation a0 a1 = some r) : SoundAt Try.prog 261 [nI a0, dL c25_d a1] (.tup [.agg (c128_oo r.1), .bool r.2]) := by
 unfold impl_NewRelation at h
 refine sound_lit tbOk lit261 (nb rfl) rfl ?_
 unfold c261
 refine kp [(0, nI a0), (1, dL c25_d a1)] rfl rfl (ls_rs tbOk (ev_al rfl rfl (oC nofun rfl (en [(0, nI a0), (1, dL c25_d a1), (4, .box [nI 0, oL 25 c25_o []])] rfl rfl (ls_seq_k fun K1 hK1 => ls_rs tbOk (oM (dL c25_d a1) rfl (oN (dL c25_d a1) rfl (ev_mc rfl rfl (en [(0, nI a0), (1, dL c25_d a1), (4, .box [nI 0, oL 25 c25_o []]), (9, dL c25_d a1), (10, nI (List.length a1 : Int)), (11, nI 0)] rfl rfl ?_)))))))))
 obtain ⟨o1, hl, hr1⟩ := ob_some h
 clear h
 have kXimpl_NewRelation_B1 : ∀ (_ : Unit), (obind (impl_sorted a1) fun v11 => obind (impl_IsValidRelation (a0, v11)) fun v14 => cond (!v14) (some ((0, []), false)) (some ((a0, v11), true))) = some r → ∀ σ' : PS, okK σ' [(0, nI a0), (1, dL c25_d a1), (4, .box [nI 0, oL 25 c25_o []])] → K1 σ' := by
  intro _ h σ' hk
  refine hK1 _ (ls_keep [(0, nI a0), (1, dL c25_d a1), (4, .box [nI 0, oL 25 c25_o []])] hk rfl (ls_rs tbOk (oM (nI a0) rfl (oM (dL c25_d a1) rfl (?_)))))
  obtain ⟨v11, g12, h⟩ := ob_some h
  refine ev_call (era rfl (erD ec25_d _) eran) (impl_sorted_s g12) (ev_bd [nI a0, oL 25 c25_o v11] (cs := [nI a0, oL 25 c25_o v11]) rfl ⟨rfl, rfl, trivial⟩ rfl (ev_al rfl rfl (oS 0 (.agg [nI a0, oL 25 c25_o v11]) [nI a0, oL 25 c25_o v11] rfl rfl (en [(4, .box [nI 0, oL 25 c25_o []]), (8, .box [nI a0, oL 25 c25_o v11])] rfl rfl (ls_seq_k fun K13 hK13 => ls_rs tbOk (oL1 0 (.agg [nI a0, dL c25_o v11]) rfl (?_)))))))
  obtain ⟨v14, g15, h⟩ := ob_some h
  refine ev_call (era rfl (erg (erc rfl (erc (erD ec25_o _) rfl))) eran) (impl_IsValidRelation_s g15) (ev_un (c1 := .bool v14) rfl trivial (en [(4, .box [nI 0, oL 25 c25_o []]), (8, .box [nI a0, oL 25 c25_o v11]), (32, .bool (!v14))] rfl rfl ?_))
  rcases cond_some h with ⟨g16, h⟩ | ⟨g16, h⟩
  ·refine ls_cT rfl g16 (ls_rs tbOk (ev_bd [] (cs := [nI 0, oL 25 c25_o []]) rfl trivial rfl (oS 0 (.agg [nI 0, oL 25 c25_o []]) [nI 0, oL 25 c25_o []] rfl rfl (oC nofun rfl (en [(4, .box [nI 0, oL 25 c25_o []]), (5, .bool false)] rfl rfl (ls_ret ?_))))))
   cases h
   exact ⟨.inl rfl, rfl⟩
  ·refine ls_cF rfl g16 (ls_skip (hK13 _ (kp [(4, .box [nI 0, oL 25 c25_o []]), (8, .box [nI a0, oL 25 c25_o v11])] rfl rfl (ls_rs tbOk (ev_ldBt (off := 0) (v := .agg [nI a0, oL 25 c25_o v11]) (c' := .box [nI a0, dL c25_o v11]) rfl rfl rfl rfl (nb rfl) rfl rfl (oS 0 (.agg [nI a0, oL 25 c25_o v11]) [nI a0, oL 25 c25_o v11] rfl rfl (oC nofun rfl (en [(4, .box [nI a0, oL 25 c25_o v11]), (5, .bool true)] rfl rfl (ls_ret ?_)))))))))
   cases h
   exact ⟨.inl rfl, rfl⟩
 refine ls_rec (fun (y1 : Int) => [(0, nI a0), (1, dL c25_d a1), (4, .box [nI 0, oL 25 c25_o []]), (9, dL c25_d a1), (10, nI (List.length a1 : Int)), (11, nI y1)]) (impl_NewRelation_B1 a0 a1) fz 0 o1 hl (okr rfl) (fun _ => rfl) ?_
 rintro m y1 N h hN
 unfold impl_NewRelation_B1 at h
 refine ls_rs tbOk (oB (nI y1) (nI (List.length a1 : Int)) rfl rfl (en [(0, nI a0), (1, dL c25_d a1), (4, .box [nI 0, oL 25 c25_o []]), (9, dL c25_d a1), (10, nI (List.length a1 : Int)), (11, nI y1), (12, .bool (decide (y1 < (List.length a1 : Int))))] rfl rfl (ls_seq_k fun K2 hK2 => ?_)))
 rcases cond_some h with ⟨g3, h⟩ | ⟨g3, h⟩
 ·refine ls_cT rfl g3 (ls_skip (hK2 _ (kp [(0, nI a0), (1, dL c25_d a1), (4, .box [nI 0, oL 25 c25_o []]), (9, dL c25_d a1), (10, nI (List.length a1 : Int)), (11, nI y1)] rfl rfl (ls_seq_k fun K4 hK4 => ls_blk (ls_rs tbOk ?_)))))
  obtain ⟨e5, g6, h⟩ := ob_some h
  refine ev_ia rfl rfl rfl ⟨(geti_some g6).1, (geti_some g6).2.1⟩ (ev_ldEt (i := y1) (n := 1) (off := 0) (v := dL ci64 e5) rfl rfl zc25_d g6 rfl (nb rfl) rfl (oA (dL ci64 e5) rfl (en [(0, nI a0), (1, dL c25_d a1), (4, .box [nI 0, oL 25 c25_o []]), (7, dL ci64 e5), (9, dL c25_d a1), (10, nI (List.length a1 : Int)), (11, nI y1)] rfl rfl (ls_rs tbOk (oM (dL ci64 e5) rfl (oN (dL ci64 e5) rfl (oM (nI a0) rfl (oB (nI (List.length e5 : Int)) (nI a0) rfl rfl (oM (.bool ((List.length e5 : Int) != a0)) rfl (?_))))))))))
  rcases cond_some h with ⟨g7, h⟩ | ⟨g7, h⟩
  ·refine oGT g7 rfl (oGT g7 rfl (oGT g7 rfl (oPT (.bool true) g7 rfl (en [(0, nI a0), (1, dL c25_d a1), (4, .box [nI 0, oL 25 c25_o []]), (9, dL c25_d a1), (10, nI (List.length a1 : Int)), (11, nI y1), (23, .bool true)] rfl rfl (ls_cT rfl rfl (ls_rs tbOk (ev_bd [] (cs := [nI 0, oL 25 c25_o []]) rfl trivial rfl (oS 0 (.agg [nI 0, oL 25 c25_o []]) [nI 0, oL 25 c25_o []] rfl rfl (oC nofun rfl (en [(4, .box [nI 0, oL 25 c25_o []]), (5, .bool false)] rfl rfl (ls_ret ?_)))))))))))
   cases h
   cases hr1
   exact ⟨.inl rfl, rfl⟩
  ·refine oGR g7 rfl (oM (dL ci64 e5) rfl (?_))
   obtain ⟨v8, g9, h⟩ := ob_some h
   refine oGR g7 rfl (ev_call (era rfl (erD eci64 _) eran) (impl_AreValidValues_s g9) (oGR g7 rfl (ev_un (c1 := .bool v8) rfl trivial (oPF (.bool (!v8)) g7 rfl (en [(0, nI a0), (1, dL c25_d a1), (4, .box [nI 0, oL 25 c25_o []]), (9, dL c25_d a1), (10, nI (List.length a1 : Int)), (11, nI y1), (23, .bool (!v8))] rfl rfl ?_)))))
   rcases cond_some h with ⟨g10, h⟩ | ⟨g10, h⟩
   ·refine ls_cT rfl g10 (ls_rs tbOk (ev_bd [] (cs := [nI 0, oL 25 c25_o []]) rfl trivial rfl (oS 0 (.agg [nI 0, oL 25 c25_o []]) [nI 0, oL 25 c25_o []] rfl rfl (oC nofun rfl (en [(4, .box [nI 0, oL 25 c25_o []]), (5, .bool false)] rfl rfl (ls_ret ?_))))))
    cases h
    cases hr1
    exact ⟨.inl rfl, rfl⟩
   ·exact ls_cF rfl g10 (ls_skip (hK4 _ (kp [(0, nI a0), (1, dL c25_d a1), (4, .box [nI 0, oL 25 c25_o []]), (9, dL c25_d a1), (10, nI (List.length a1 : Int)), (11, nI y1)] rfl rfl (ls_rgn tbOk (oB (nI y1) (nI 1) rfl rfl (oM (nI (IntKind.i64.wrap (y1 + 1))) rfl (evn (hN _ (IntKind.i64.wrap (y1 + 1)) h (okr rfl)))))))))
 ·exact ls_cF rfl g3 (ls_exit (kXimpl_NewRelation_B1 () (by cases h; exact hr1) _ (okr rfl)))
def impl_Project_B1 (a0 : Y127) (a1 : List Int) (rec : ((List (List Int)) × Int) → Option ((List (List Int)))) (s : (List (List Int)) × Int) : Option ((List (List Int))) := match s with
  | (y1, y2) => cond (decide (y2 < (List.length a0.2 : Int))) (obind (geti a0.2 y2) fun e13 => obind (impl_pick e13 a1) fun v15 => chk (List.length y1 + List.length [v15] ≤ lim) (rec ((y1 ++ [v15]), (IntKind.i64.wrap (y2 + 1))))) (some y1)
def impl_Project (a0 : Y127) (a1 : List Int) : Option (Y127 × Bool) := obind (impl_IsValidRelation a0) fun v2 => cond (!v2) (some ((0, []), false)) (obind (impl_columnsFit a0.1 a1) fun v5 => cond (!v5) (some ((0, []), false)) (obind (loopF (impl_Project_B1 a0 a1) fz (([] : List (List Int)), 0)) fun z9 => obind (impl_NewRelation (List.length a1 : Int) z9) fun v18 => some (v18.1, v18.2)))
theorem impl_Project_s {a0 : Y127} {a1 : List Int} {r : Y127 × Bool} (h : impl_Project a0 a1 = some r) : SoundAt Try.prog 250 [.agg (c128_dd a0), dL ci64 a1] (.tup [.agg (c128_oo r.1), .bool r.2]) := by
 unfold impl_Project at h
 refine sound_lit tbOk lit250 (nb rfl) rfl ?_
 unfold c250
 refine kp [(0, .agg (c128_dd a0)), (1, dL ci64 a1)] rfl rfl (ls_rs tbOk (oX (.agg (c128_dd a0)) rfl (ev_al rfl rfl (oC nofun rfl (en [(1, dL ci64 a1), (2, .box [nI a0.1, dL c25_d a0.2]), (4, .box [nI 0, oL 25 c25_o []])] rfl rfl (ls_seq_k fun K1 hK1 => ls_rs tbOk (oL1 0 (.agg (c128_dd a0)) rfl (?_))))))))
 obtain ⟨v2, g3, h⟩ := ob_some h
 refine ev_call (era rfl (erg (erc rfl (erc (erD ec25_d _) rfl))) eran) (impl_IsValidRelation_s g3) (ev_un (c1 := .bool v2) rfl trivial (oM (.bool (!v2)) rfl (?_)))
 rcases cond_some h with ⟨g4, h⟩ | ⟨g4, h⟩
 ·refine oGT g4 rfl (oGT g4 rfl (oGT g4 rfl (oGT g4 rfl (oGT g4 rfl (oPT (.bool true) g4 rfl (en [(1, dL ci64 a1), (2, .box [nI a0.1, dL c25_d a0.2]), (4, .box [nI 0, oL 25 c25_o []]), (18, .bool true)] rfl rfl (ls_cT rfl rfl (ls_rs tbOk (ev_bd [] (cs := [nI 0, oL 25 c25_o []]) rfl trivial rfl (oS 0 (.agg [nI 0, oL 25 c25_o []]) [nI 0, oL 25 c25_o []] rfl rfl (oC nofun rfl (en [(4, .box [nI 0, oL 25 c25_o []]), (5, .bool false)] rfl rfl (ls_ret ?_)))))))))))))
  cases h
  exact ⟨.inl rfl, rfl⟩
 ·refine oGR g4 rfl (oF 2 0 rfl ⟨_, rfl⟩ (oGR g4 rfl (oL1 0 (nI a0.1) rfl (oGR g4 rfl (oM (dL ci64 a1) rfl (?_))))))
  obtain ⟨v5, g6, h⟩ := ob_some h
  refine oGR g4 rfl (ev_call (era rfl rfl (era rfl (erD eci64 _) eran)) (impl_columnsFit_s g6) (oGR g4 rfl (ev_un (c1 := .bool v5) rfl trivial (oPF (.bool (!v5)) g4 rfl (en [(1, dL ci64 a1), (2, .box [nI a0.1, dL c25_d a0.2]), (4, .box [nI 0, oL 25 c25_o []]), (18, .bool (!v5))] rfl rfl ?_)))))
  rcases cond_some h with ⟨g7, h⟩ | ⟨g7, h⟩
  ·refine ls_cT rfl g7 (ls_rs tbOk (ev_bd [] (cs := [nI 0, oL 25 c25_o []]) rfl trivial rfl (oS 0 (.agg [nI 0, oL 25 c25_o []]) [nI 0, oL 25 c25_o []] rfl rfl (oC nofun rfl (en [(4, .box [nI 0, oL 25 c25_o []]), (5, .bool false)] rfl rfl (ls_ret ?_))))))
   cases h
   exact ⟨.inl rfl, rfl⟩
  ·refine ls_cF rfl g7 (ls_skip (hK1 _ (kp [(1, dL ci64 a1), (2, .box [nI a0.1, dL c25_d a0.2]), (4, .box [nI 0, oL 25 c25_o []])] rfl rfl (ls_rs tbOk (ev_an rfl rfl (en [(1, dL ci64 a1), (2, .box [nI a0.1, dL c25_d a0.2]), (4, .box [nI 0, oL 25 c25_o []]), (6, oL 25 c25_o [])] rfl rfl (ls_seq_k fun K8 hK8 => ls_rs tbOk (oF 2 0 rfl ⟨_, rfl⟩ (oL1 1 (dL c25_d a0.2) rfl (oN (dL c25_d a0.2) rfl (ev_mc rfl rfl (en [(1, dL ci64 a1), (4, .box [nI 0, oL 25 c25_o []]), (6, oL 25 c25_o []), (21, dL c25_d a0.2), (22, nI (List.length a0.2 : Int)), (23, nI 0)] rfl rfl ?_))))))))))))
   obtain ⟨o1, hl, hr1⟩ := ob_some h
   clear h
   have kXimpl_Project_B1 : ∀ (z9 : List (List Int)), (obind (impl_NewRelation (List.length a1 : Int) z9) fun v18 => some (v18.1, v18.2)) = some r → ∀ σ' : PS, okK σ' [(1, dL ci64 a1), (4, .box [nI 0, oL 25 c25_o []]), (6, oL 25 c25_o z9)] → K8 σ' := by
    intro z9 h σ' hk
    refine hK8 _ (ls_keep [(1, dL ci64 a1), (4, .box [nI 0, oL 25 c25_o []]), (6, oL 25 c25_o z9)] hk rfl (ls_rs tbOk (oM (dL ci64 a1) rfl (oN (dL ci64 a1) rfl (oM (oL 25 c25_o z9) rfl (?_))))))
    obtain ⟨v18, g19, h⟩ := ob_some h
    refine ev_call (era rfl rfl (era rfl (erD ec25_o _) eran)) (impl_NewRelation_s g19) (ev_ext rfl rfl rfl rfl (ev_ext rfl rfl rfl rfl (oS 0 (.agg (c128_oo v18.1)) [nI v18.1.1, oL 25 c25_o v18.1.2] rfl rfl (oA (.bool v18.2) rfl (en [(4, .box [nI v18.1.1, oL 25 c25_o v18.1.2]), (5, .bool v18.2)] rfl rfl (ls_ret ?_))))))
    cases h
    exact ⟨.inl rfl, rfl⟩
   refine ls_rec (fun (s : (List (List Int)) × Int) => match s with | (y1, y2) => [(1, dL ci64 a1), (4, .box [nI 0, oL 25 c25_o []]), (6, oL 25 c25_o y1), (21, dL c25_d a0.2), (22, nI (List.length a0.2 : Int)), (23, nI y2)]) (impl_Project_B1 a0 a1) fz (([] : List (List Int)), 0) o1 hl (okr rfl) (fun _ => rfl) ?_
   rintro m ⟨y1, y2⟩ N h hN
   unfold impl_Project_B1 at h
   dsimp only at h
   refine ls_rs tbOk (oB (nI y2) (nI (List.length a0.2 : Int)) rfl rfl (en [(1, dL ci64 a1), (4, .box [nI 0, oL 25 c25_o []]), (6, oL 25 c25_o y1), (21, dL c25_d a0.2), (22, nI (List.length a0.2 : Int)), (23, nI y2), (24, .bool (decide (y2 < (List.length a0.2 : Int))))] rfl rfl (ls_seq_k fun K10 hK10 => ?_)))
   rcases cond_some h with ⟨g11, h⟩ | ⟨g11, h⟩
   ·refine ls_cT rfl g11 (ls_skip (hK10 _ (kp [(1, dL ci64 a1), (4, .box [nI 0, oL 25 c25_o []]), (6, oL 25 c25_o y1), (21, dL c25_d a0.2), (22, nI (List.length a0.2 : Int)), (23, nI y2)] rfl rfl (ls_seq_k fun K12 hK12 => ls_blk (ls_rs tbOk ?_)))))
    obtain ⟨e13, g14, h⟩ := ob_some h
    refine ev_ia rfl rfl rfl ⟨(geti_some g14).1, (geti_some g14).2.1⟩ (ev_ldEt (i := y2) (n := 1) (off := 0) (v := dL ci64 e13) rfl rfl zc25_d g14 rfl (nb rfl) rfl (oA (dL ci64 e13) rfl (en [(1, dL ci64 a1), (4, .box [nI 0, oL 25 c25_o []]), (6, oL 25 c25_o y1), (8, dL ci64 e13), (21, dL c25_d a0.2), (22, nI (List.length a0.2 : Int)), (23, nI y2)] rfl rfl (ls_rgn tbOk (oT (oL 25 c25_o y1) rfl (oM (dL ci64 e13) rfl (oM (dL ci64 a1) rfl (?_))))))))
    obtain ⟨v15, g16, h⟩ := ob_some h
    refine ev_call (era rfl (erD eci64 _) (era rfl (erD eci64 _) eran)) (impl_pick_s g16) (ev_bs [oL 3 ci64 v15] (cs := [oL 3 ci64 v15]) rfl ⟨rfl, trivial⟩ rfl (nb rfl) rfl (?_))
    obtain ⟨g17, h⟩ := chk_some h
    exact ev_app (f := c25_o) (l := y1) (m := [v15]) (c2 := oL 25 c25_o [v15]) rfl rfl rfl (flat_len zc25_o [v15]) rfl rfl g17 rfl (oA (oL 25 c25_o (y1 ++ [v15])) rfl (evn (hK12 _ (kp [(1, dL ci64 a1), (4, .box [nI 0, oL 25 c25_o []]), (6, oL 25 c25_o (y1 ++ [v15])), (21, dL c25_d a0.2), (22, nI (List.length a0.2 : Int)), (23, nI y2)] rfl rfl (ls_rgn tbOk (oB (nI y2) (nI 1) rfl rfl (oM (nI (IntKind.i64.wrap (y2 + 1))) rfl (evn (hN _ ((y1 ++ [v15]), (IntKind.i64.wrap (y2 + 1))) h (okr rfl))))))))))
   ·exact ls_cF rfl g11 (ls_exit (kXimpl_Project_B1 y1 (by cases h; exact hr1) _ (okr rfl)))
def impl_BuildTrie (a0 : Y127) (a1 : List Int) : Option (Y127 × Bool) := obind (impl_IsPermutation a1) fun v2 => cond (!v2) (some ((0, []), false)) (cond ((List.length a1 : Int) != a0.1) (some ((0, []), false)) (obind (impl_Project a0 a1) fun v6 => cond (!v6.2) (some ((0, []), false)) (some (v6.1, true))))
theorem impl_BuildTrie_s {a0 : Y127} {a1 : List Int} {r : Y127 × Bool} (h : impl_BuildTrie a0 a1 = some r) : SoundAt Try.prog 226 [.agg (c128_dd a0), dL ci64 a1] (.tup [.agg (c197_oo r.1), .bool r.2]) := by
 unfold impl_BuildTrie at h
 refine sound_lit tbOk lit226 (nb rfl) rfl ?_
 unfold c226
 refine kp [(0, .agg (c128_dd a0)), (1, dL ci64 a1)] rfl rfl (ls_rs tbOk (oX (.agg (c128_dd a0)) rfl (ev_al rfl rfl (oC nofun rfl (en [(1, dL ci64 a1), (2, .box [nI a0.1, dL c25_d a0.2]), (4, .box [nI 0, oL 25 c25_o []])] rfl rfl (ls_seq_k fun K1 hK1 => ls_rs tbOk (oM (dL ci64 a1) rfl (?_))))))))
 obtain ⟨v2, g3, h⟩ := ob_some h
 refine ev_call (era rfl (erD eci64 _) eran) (impl_IsPermutation_s g3) (ev_un (c1 := .bool v2) rfl trivial (oM (.bool (!v2)) rfl (?_)))
 rcases cond_some h with ⟨g4, h⟩ | ⟨g4, h⟩
 ·refine oGT g4 rfl (oGT g4 rfl (oGT g4 rfl (oGT g4 rfl (oGT g4 rfl (oPT (.bool true) g4 rfl (en [(1, dL ci64 a1), (2, .box [nI a0.1, dL c25_d a0.2]), (4, .box [nI 0, oL 25 c25_o []]), (17, .bool true)] rfl rfl (ls_cT rfl rfl (ls_rs tbOk (ev_bd [] (cs := [nI 0, oL 25 c25_o []]) rfl trivial rfl (oS 0 (.agg [nI 0, oL 25 c25_o []]) [nI 0, oL 25 c25_o []] rfl rfl (oC nofun rfl (en [(4, .box [nI 0, oL 25 c25_o []]), (5, .bool false)] rfl rfl (ls_ret ?_)))))))))))))
  cases h
  exact ⟨.inl rfl, rfl⟩
 ·refine oGR g4 rfl (oM (dL ci64 a1) rfl (oGR g4 rfl (oN (dL ci64 a1) rfl (oGR g4 rfl (oF 2 0 rfl ⟨_, rfl⟩ (oGR g4 rfl (oL1 0 (nI a0.1) rfl (oGR g4 rfl (oB (nI (List.length a1 : Int)) (nI a0.1) rfl rfl (oPF (.bool ((List.length a1 : Int) != a0.1)) g4 rfl (en [(1, dL ci64 a1), (2, .box [nI a0.1, dL c25_d a0.2]), (4, .box [nI 0, oL 25 c25_o []]), (17, .bool ((List.length a1 : Int) != a0.1))] rfl rfl ?_)))))))))))
  rcases cond_some h with ⟨g5, h⟩ | ⟨g5, h⟩
  ·refine ls_cT rfl g5 (ls_rs tbOk (ev_bd [] (cs := [nI 0, oL 25 c25_o []]) rfl trivial rfl (oS 0 (.agg [nI 0, oL 25 c25_o []]) [nI 0, oL 25 c25_o []] rfl rfl (oC nofun rfl (en [(4, .box [nI 0, oL 25 c25_o []]), (5, .bool false)] rfl rfl (ls_ret ?_))))))
   cases h
   exact ⟨.inl rfl, rfl⟩
  ·refine ls_cF rfl g5 (ls_skip (hK1 _ (kp [(1, dL ci64 a1), (2, .box [nI a0.1, dL c25_d a0.2]), (4, .box [nI 0, oL 25 c25_o []])] rfl rfl (ls_rs tbOk (oL1 0 (.agg (c128_dd a0)) rfl (oM (dL ci64 a1) rfl (?_)))))))
   obtain ⟨v6, g7, h⟩ := ob_some h
   refine ev_call (era rfl (erg (erc rfl (erc (erD ec25_d _) rfl))) (era rfl (erD eci64 _) eran)) (impl_Project_s g7) (oT (.tup [.agg (c128_oo v6.1), .bool v6.2]) rfl (ev_ext rfl rfl rfl rfl (ev_ext rfl rfl rfl rfl (ev_al rfl rfl (oS 0 (.agg (c128_oo v6.1)) [nI v6.1.1, oL 25 c25_o v6.1.2] rfl rfl (oA (.bool v6.2) rfl (en [(4, .box [nI 0, oL 25 c25_o []]), (6, .box [nI v6.1.1, oL 25 c25_o v6.1.2]), (7, .bool v6.2)] rfl rfl (ls_seq_k fun K8 hK8 => ls_rs tbOk (oM (.bool v6.2) rfl (ev_un (c1 := .bool v6.2) rfl trivial (en [(4, .box [nI 0, oL 25 c25_o []]), (6, .box [nI v6.1.1, oL 25 c25_o v6.1.2]), (26, .bool (!v6.2))] rfl rfl ?_)))))))))))
   rcases cond_some h with ⟨g9, h⟩ | ⟨g9, h⟩
   ·refine ls_cT rfl g9 (ls_rs tbOk (ev_bd [] (cs := [nI 0, oL 25 c25_o []]) rfl trivial rfl (oS 0 (.agg [nI 0, oL 25 c25_o []]) [nI 0, oL 25 c25_o []] rfl rfl (oC nofun rfl (en [(4, .box [nI 0, oL 25 c25_o []]), (5, .bool false)] rfl rfl (ls_ret ?_))))))
    cases h
    exact ⟨.inl rfl, rfl⟩
   ·refine ls_cF rfl g9 (ls_skip (hK8 _ (kp [(4, .box [nI 0, oL 25 c25_o []]), (6, .box [nI v6.1.1, oL 25 c25_o v6.1.2])] rfl rfl (ls_rs tbOk (oF 6 0 rfl ⟨_, rfl⟩ (oL1 0 (nI v6.1.1) rfl (oF 6 0 rfl ⟨_, rfl⟩ (ev_ldBt (off := 1) (v := oL 25 c25_o v6.1.2) (c' := .box [nI v6.1.1, dL c25_o v6.1.2]) rfl rfl rfl rfl (nb rfl) rfl rfl (ev_bd [nI v6.1.1, oL 25 c25_o v6.1.2] (cs := [nI v6.1.1, oL 25 c25_o v6.1.2]) rfl ⟨rfl, rfl, trivial⟩ rfl (oS 0 (.agg (c197_oo v6.1)) [nI v6.1.1, oL 25 c25_o v6.1.2] rfl rfl (oC nofun rfl (en [(4, .box [nI v6.1.1, oL 25 c25_o v6.1.2]), (5, .bool true)] rfl rfl (ls_ret ?_)))))))))))))
    cases h
    exact ⟨.inl rfl, rfl⟩
def impl_ContainsVariable (a0 : Y194) (a1 : Int) : Option (Bool) := obind (impl_hasInt a0.2 a1) fun v1 => some v1
theorem impl_ContainsVariable_s {a0 : Y194} {a1 : Int} {r : Bool} (h : impl_ContainsVariable a0 a1 = some r) : SoundAt Try.prog 229 [.agg (c195_d a0), nI a1] (.bool r) := by
 unfold impl_ContainsVariable at h
 refine sound_lit tbOk lit229 (nb rfl) rfl ?_
 unfold c229
 refine kp [(0, .agg (c195_d a0)), (1, nI a1)] rfl rfl (ls_rs tbOk (oX (.agg (c195_d a0)) rfl (oC nofun rfl (en [(1, nI a1), (2, .box [.str a0.1, dL ci64 a0.2])] rfl rfl (ls_rs tbOk (oF 2 0 rfl ⟨_, rfl⟩ (oL1 1 (dL ci64 a0.2) rfl (oM (nI a1) rfl (?_)))))))))
 obtain ⟨v1, g2, h⟩ := ob_some h
 refine ev_call (era rfl (erD eci64 _) (era rfl rfl eran)) (impl_hasInt_s g2) (oA (.bool v1) rfl (en [(4, .bool v1)] rfl rfl (ls_ret ?_)))
 cases h
 exact ⟨.inl rfl, rfl⟩
def impl_AtomVariables_J2 (rec : ((List Int) × Int) → Option ((List Int))) (y2 : Int) (x8 : List Int) : Option ((List Int)) := rec (x8, (IntKind.i64.wrap (y2 + 1)))
def impl_AtomVariables_B1 (a0 : Y194) (rec : ((List Int) × Int) → Option ((List Int))) (s : (List Int) × Int) : Option ((List Int)) := match s with
  | (y1, y2) => cond (decide (y2 < 5)) (obind (impl_ContainsVariable a0 y2) fun v6 => cond v6 (chk (List.length y1 + List.length [y2] ≤ lim) (impl_AtomVariables_J2 rec y2 (y1 ++ [y2]))) (impl_AtomVariables_J2 rec y2 y1)) (some y1)
def impl_AtomVariables (a0 : Y194) : Option ((List Int)) := obind (loopF (impl_AtomVariables_B1 a0) fz (([] : List Int), 0)) fun z2 => some z2
theorem impl_AtomVariables_s {a0 : Y194} {r : (List Int)} (h : impl_AtomVariables a0 = some r) : SoundAt Try.prog 162 [.agg (c195_d a0)] (oL 3 ci64 r) := by
 unfold impl_AtomVariables at h
 refine sound_lit tbOk lit162 (nb rfl) rfl ?_
 unfold c162
 refine kp [(0, .agg (c195_d a0))] rfl rfl (ls_rs tbOk (oX (.agg (c195_d a0)) rfl (ev_an rfl rfl (en [(1, .box [.str a0.1, dL ci64 a0.2])] rfl rfl (ls_rs tbOk (ev_an rfl rfl (en [(1, .box [.str a0.1, dL ci64 a0.2]), (3, oL 3 ci64 [])] rfl rfl (ls_seq_k fun K1 hK1 => ls_rs tbOk (oC nofun rfl (en [(1, .box [.str a0.1, dL ci64 a0.2]), (3, oL 3 ci64 []), (4, nI 0)] rfl rfl ?_))))))))))
 obtain ⟨o1, hl, hr1⟩ := ob_some h
 clear h
 have kXimpl_AtomVariables_B1 : ∀ (z2 : List Int), (some z2) = some r → ∀ σ' : PS, okK σ' [(3, oL 3 ci64 z2)] → K1 σ' := by
  intro z2 h σ' hk
  refine hK1 _ (ls_keep [(3, oL 3 ci64 z2)] hk rfl (ls_rs tbOk (oT (oL 3 ci64 z2) rfl (oA (oL 3 ci64 z2) rfl (en [(2, oL 3 ci64 z2)] rfl rfl (ls_ret ?_))))))
  cases h
  exact ⟨.inl rfl, rfl⟩
 refine ls_rec (fun (s : (List Int) × Int) => match s with | (y1, y2) => [(1, .box [.str a0.1, dL ci64 a0.2]), (3, oL 3 ci64 y1), (4, nI y2)]) (impl_AtomVariables_B1 a0) fz (([] : List Int), 0) o1 hl (okr rfl) (fun _ => rfl) ?_
 rintro m ⟨y1, y2⟩ N h hN
 unfold impl_AtomVariables_B1 at h
 dsimp only at h
 refine ls_seq_k fun K3 hK3 => ls_rs tbOk (oM (nI y2) rfl (oB (nI y2) (nI 5) rfl rfl (en [(1, .box [.str a0.1, dL ci64 a0.2]), (3, oL 3 ci64 y1), (4, nI y2), (6, .bool (decide (y2 < 5)))] rfl rfl ?_)))
 rcases cond_some h with ⟨g4, h⟩ | ⟨g4, h⟩
 ·refine ls_cT rfl g4 (ls_skip (hK3 _ (kp [(1, .box [.str a0.1, dL ci64 a0.2]), (3, oL 3 ci64 y1), (4, nI y2)] rfl rfl (ls_seq_k fun K5 hK5 => ls_blk (ls_rs tbOk (oL1 0 (.agg (c195_d a0)) rfl (oM (nI y2) rfl (?_))))))))
  obtain ⟨v6, g7, h⟩ := ob_some h
  refine ev_call (era rfl (erg (erc rfl (erc (erD eci64 _) rfl))) (era rfl rfl eran)) (impl_ContainsVariable_s g7) (en [(1, .box [.str a0.1, dL ci64 a0.2]), (3, oL 3 ci64 y1), (4, nI y2), (11, .bool v6)] rfl rfl ?_)
  have kimpl_AtomVariables_J2 : ∀ (x8 : List Int), impl_AtomVariables_J2 (loopF (impl_AtomVariables_B1 a0) m) y2 x8 = some o1 → ∀ σ' : PS, okK σ' [(1, .box [.str a0.1, dL ci64 a0.2]), (3, oL 3 ci64 x8), (4, nI y2)] → K5 σ' := by
   intro x8 h σ' hk
   unfold impl_AtomVariables_J2 at h
   exact hK5 _ (ls_keep [(1, .box [.str a0.1, dL ci64 a0.2]), (3, oL 3 ci64 x8), (4, nI y2)] hk rfl (ls_rgn tbOk (oM (nI y2) rfl (oB (nI y2) (nI 1) rfl rfl (oA (nI (IntKind.i64.wrap (y2 + 1))) rfl (evn (hN _ (x8, (IntKind.i64.wrap (y2 + 1))) h (okr rfl))))))))
  rcases cond_some h with ⟨g9, h⟩ | ⟨g9, h⟩
  ·refine ls_cT rfl g9 (ls_rgn tbOk (oT (oL 3 ci64 y1) rfl (oM (nI y2) rfl (ev_bs [nI y2] (cs := [nI y2]) rfl ⟨rfl, trivial⟩ rfl (nb rfl) rfl (?_)))))
   obtain ⟨g10, h⟩ := chk_some h
   exact ev_app (f := ci64) (l := y1) (m := [y2]) (c2 := oL 3 ci64 [y2]) rfl rfl rfl (flat_len zci64 [y2]) rfl rfl g10 rfl (oA (oL 3 ci64 (y1 ++ [y2])) rfl (evn (kimpl_AtomVariables_J2 (y1 ++ [y2]) h _ (okr rfl))))
  ·exact ls_cF rfl g9 (ls_skip (kimpl_AtomVariables_J2 y1 h _ (okr rfl)))
 ·exact ls_cF rfl g4 (ls_exit (kXimpl_AtomVariables_B1 y1 (by cases h; exact hr1) _ (okr rfl)))
def impl_AtomBindings_J3 (rec : ((List Int) × Bool × Int) → Option ((List Int) × Bool)) (e16 : List Int) (y9 : List Int) (y11 : Int) (e25 : Int) (x30 : Bool) : Option ((List Int) × Bool) := obind (geti e16 y11) fun e31 => obind (geti y9 e25) fun e33 => rec ((seti y9 e25 e31), x30, (IntKind.i64.wrap (y11 + 1)))
def impl_AtomBindings_B2 (a1 : Y194) (e16 : List Int) (rec : ((List Int) × Bool × Int) → Option ((List Int) × Bool)) (s : (List Int) × Bool × Int) : Option ((List Int) × Bool) := match s with
  | (y9, y10, y11) => cond (decide (y11 < (List.length a1.2 : Int))) (obind (geti a1.2 y11) fun e25 => obind (impl_indexOf a1.2 e25) fun v27 => cond y10 (obind (geti e16 v27) fun e36 => obind (geti e16 y11) fun e38 => impl_AtomBindings_J3 rec e16 y9 y11 e25 (e36 == e38)) (impl_AtomBindings_J3 rec e16 y9 y11 e25 false)) (some (y9, y10))
def impl_AtomBindings_J4 (rec : ((List (List Int)) × Int) → Option ((List (List Int)))) (y5 : Int) (x40 : List (List Int)) : Option ((List (List Int))) := rec (x40, (IntKind.i64.wrap (y5 + 1)))
def impl_AtomBindings_B1 (a1 : Y194) (v1 : (List Int)) (v3 : Y127 × Bool) (rec : ((List (List Int)) × Int) → Option ((List (List Int)))) (s : (List (List Int)) × Int) : Option ((List (List Int))) := match s with
  | (y4, y5) => cond (decide (y5 < (List.length v3.1.2 : Int))) (obind (geti v3.1.2 y5) fun e16 => chk ((0 : Int) ≤ 5 ∧ Int.toNat 5 ≤ lim) (obind (loopF (impl_AtomBindings_B2 a1 e16) fz ((List.replicate (Int.toNat 5) (0 : Int)), true, 0)) fun o2 => (match o2 with
  | (z20, z21) => (cond z21 (obind (impl_pick z20 v1) fun v42 => chk (List.length y4 + List.length [v42] ≤ lim) (impl_AtomBindings_J4 rec y5 (y4 ++ [v42]))) (impl_AtomBindings_J4 rec y5 y4))))) (some y4)
def impl_AtomBindings (a0 : List Y207) (a1 : Y194) : Option (Y127) := obind (impl_AtomVariables a1) fun v1 => obind (impl_LookupRelation a0 a1.1) fun v3 => cond (!v3.2) (some ((List.length v1 : Int), [])) (cond (v3.1.1 != (List.length a1.2 : Int)) (some ((List.length v1 : Int), [])) (obind (impl_columnsFit 5 a1.2) fun v8 => cond (!v8) (some ((List.length v1 : Int), [])) (obind (loopF (impl_AtomBindings_B1 a1 v1 v3) fz (([] : List (List Int)), 0)) fun z12 => obind (impl_sorted z12) fun v45 => some ((List.length v1 : Int), v45))))
theorem impl_AtomBindings_s {a0 : List Y207} {a1 : Y194} {r : Y127} (h : impl_AtomBindings a0 a1 = some r) : SoundAt Try.prog 227 [.agg [dL c208_dd a0], .agg (c195_d a1)] (.agg (c128_oo r)) := by
 unfold impl_AtomBindings at h
 refine sound_lit tbOk lit227 (nb rfl) rfl ?_
 unfold c227
 refine kp [(0, .agg [dL c208_dd a0]), (1, .agg (c195_d a1))] rfl rfl (ls_rs tbOk (oX (.agg [dL c208_dd a0]) rfl (oX (.agg (c195_d a1)) rfl (ev_al rfl rfl (en [(2, .box [dL c208_dd a0]), (3, .box [.str a1.1, dL ci64 a1.2]), (4, .box [nI 0, oL 25 c25_o []])] rfl rfl (ls_rs tbOk (oL1 0 (.agg (c195_d a1)) rfl (?_))))))))
 obtain ⟨v1, g2, h⟩ := ob_some h
 refine ev_call (era rfl (erg (erc rfl (erc (erD eci64 _) rfl))) eran) (impl_AtomVariables_s g2) (oA (oL 3 ci64 v1) rfl (en [(2, .box [dL c208_dd a0]), (3, .box [.str a1.1, dL ci64 a1.2]), (4, .box [nI 0, oL 25 c25_o []]), (5, oL 3 ci64 v1)] rfl rfl (ls_rs tbOk (oM (oL 3 ci64 v1) rfl (oN (dL ci64 v1) rfl (ev_bd [nI (List.length v1 : Int)] (cs := [nI (List.length v1 : Int), oL 25 c25_o []]) rfl ⟨rfl, trivial⟩ rfl (ev_al rfl rfl (oS 0 (.agg [nI (List.length v1 : Int), oL 25 c25_o []]) [nI (List.length v1 : Int), oL 25 c25_o []] rfl rfl (en [(2, .box [dL c208_dd a0]), (3, .box [.str a1.1, dL ci64 a1.2]), (4, .box [nI 0, oL 25 c25_o []]), (5, oL 3 ci64 v1), (6, .box [nI (List.length v1 : Int), oL 25 c25_o []])] rfl rfl (ls_rs tbOk (oL1 0 (.agg [dL c208_dd a0]) rfl (oF 3 0 rfl ⟨_, rfl⟩ (oL1 0 (.str a1.1) rfl (?_))))))))))))))
 obtain ⟨v3, g4, h⟩ := ob_some h
 refine ev_call (era rfl (erg (erc (erD ec208_dd _) rfl)) (era rfl rfl eran)) (impl_LookupRelation_s g4) (oT (.tup [.agg (c128_oo v3.1), .bool v3.2]) rfl (ev_ext rfl rfl rfl rfl (ev_ext rfl rfl rfl rfl (ev_al rfl rfl (oS 0 (.agg (c128_oo v3.1)) [nI v3.1.1, oL 25 c25_o v3.1.2] rfl rfl (oA (.bool v3.2) rfl (en [(3, .box [.str a1.1, dL ci64 a1.2]), (4, .box [nI 0, oL 25 c25_o []]), (5, oL 3 ci64 v1), (6, .box [nI (List.length v1 : Int), oL 25 c25_o []]), (7, .box [nI v3.1.1, oL 25 c25_o v3.1.2]), (8, .bool v3.2)] rfl rfl (ls_seq_k fun K5 hK5 => ls_rs tbOk (oM (.bool v3.2) rfl (ev_un (c1 := .bool v3.2) rfl trivial (oM (.bool (!v3.2)) rfl (?_))))))))))))
 rcases cond_some h with ⟨g6, h⟩ | ⟨g6, h⟩
 ·refine oGT g6 rfl (oGT g6 rfl (oGT g6 rfl (oGT g6 rfl (oGT g6 rfl (oGT g6 rfl (oPT (.bool true) g6 rfl (oM (.bool true) rfl (oGT rfl rfl (oGT rfl rfl (oGT rfl rfl (oGT rfl rfl (oPT (.bool true) rfl rfl (en [(3, .box [.str a1.1, dL ci64 a1.2]), (4, .box [nI 0, oL 25 c25_o []]), (5, oL 3 ci64 v1), (6, .box [nI (List.length v1 : Int), oL 25 c25_o []]), (7, .box [nI v3.1.1, oL 25 c25_o v3.1.2]), (44, .bool true)] rfl rfl (ls_cT rfl rfl (ls_rs tbOk (ev_ldBt (off := 0) (v := .agg [nI (List.length v1 : Int), oL 25 c25_o []]) (c' := .box [nI (List.length v1 : Int), dL c25_o []]) rfl rfl rfl rfl (nb rfl) rfl rfl (oS 0 (.agg [nI (List.length v1 : Int), oL 25 c25_o []]) [nI (List.length v1 : Int), oL 25 c25_o []] rfl rfl (en [(4, .box [nI (List.length v1 : Int), oL 25 c25_o []])] rfl rfl (ls_ret ?_)))))))))))))))))))
  cases h
  exact ⟨.inl rfl, rfl⟩
 ·refine oGR g6 rfl (oF 7 0 rfl ⟨_, rfl⟩ (oGR g6 rfl (oL1 0 (nI v3.1.1) rfl (oGR g6 rfl (oF 3 0 rfl ⟨_, rfl⟩ (oGR g6 rfl (oL1 1 (dL ci64 a1.2) rfl (oGR g6 rfl (oN (dL ci64 a1.2) rfl (oGR g6 rfl (oB (nI v3.1.1) (nI (List.length a1.2 : Int)) rfl rfl (oPF (.bool (v3.1.1 != (List.length a1.2 : Int))) g6 rfl (oM (.bool (v3.1.1 != (List.length a1.2 : Int))) rfl (?_))))))))))))))
  rcases cond_some h with ⟨g7, h⟩ | ⟨g7, h⟩
  ·refine oGT g7 rfl (oGT g7 rfl (oGT g7 rfl (oGT g7 rfl (oPT (.bool true) g7 rfl (en [(3, .box [.str a1.1, dL ci64 a1.2]), (4, .box [nI 0, oL 25 c25_o []]), (5, oL 3 ci64 v1), (6, .box [nI (List.length v1 : Int), oL 25 c25_o []]), (7, .box [nI v3.1.1, oL 25 c25_o v3.1.2]), (44, .bool true)] rfl rfl (ls_cT rfl rfl (ls_rs tbOk (ev_ldBt (off := 0) (v := .agg [nI (List.length v1 : Int), oL 25 c25_o []]) (c' := .box [nI (List.length v1 : Int), dL c25_o []]) rfl rfl rfl rfl (nb rfl) rfl rfl (oS 0 (.agg [nI (List.length v1 : Int), oL 25 c25_o []]) [nI (List.length v1 : Int), oL 25 c25_o []] rfl rfl (en [(4, .box [nI (List.length v1 : Int), oL 25 c25_o []])] rfl rfl (ls_ret ?_)))))))))))
   cases h
   exact ⟨.inl rfl, rfl⟩
  ·refine oGR g7 rfl (oF 3 0 rfl ⟨_, rfl⟩ (oGR g7 rfl (oL1 1 (dL ci64 a1.2) rfl (?_))))
   obtain ⟨v8, g9, h⟩ := ob_some h
   refine oGR g7 rfl (ev_call (era rfl rfl (era rfl (erD eci64 _) eran)) (impl_columnsFit_s g9) (oGR g7 rfl (ev_un (c1 := .bool v8) rfl trivial (oPF (.bool (!v8)) g7 rfl (en [(3, .box [.str a1.1, dL ci64 a1.2]), (4, .box [nI 0, oL 25 c25_o []]), (5, oL 3 ci64 v1), (6, .box [nI (List.length v1 : Int), oL 25 c25_o []]), (7, .box [nI v3.1.1, oL 25 c25_o v3.1.2]), (44, .bool (!v8))] rfl rfl ?_)))))
   rcases cond_some h with ⟨g10, h⟩ | ⟨g10, h⟩
   ·refine ls_cT rfl g10 (ls_rs tbOk (ev_ldBt (off := 0) (v := .agg [nI (List.length v1 : Int), oL 25 c25_o []]) (c' := .box [nI (List.length v1 : Int), dL c25_o []]) rfl rfl rfl rfl (nb rfl) rfl rfl (oS 0 (.agg [nI (List.length v1 : Int), oL 25 c25_o []]) [nI (List.length v1 : Int), oL 25 c25_o []] rfl rfl (en [(4, .box [nI (List.length v1 : Int), oL 25 c25_o []])] rfl rfl (ls_ret ?_)))))
    cases h
    exact ⟨.inl rfl, rfl⟩
   ·refine ls_cF rfl g10 (ls_skip (hK5 _ (kp [(3, .box [.str a1.1, dL ci64 a1.2]), (4, .box [nI 0, oL 25 c25_o []]), (5, oL 3 ci64 v1), (6, .box [nI (List.length v1 : Int), oL 25 c25_o []]), (7, .box [nI v3.1.1, oL 25 c25_o v3.1.2])] rfl rfl (ls_rs tbOk (ev_an rfl rfl (en [(3, .box [.str a1.1, dL ci64 a1.2]), (4, .box [nI 0, oL 25 c25_o []]), (5, oL 3 ci64 v1), (6, .box [nI (List.length v1 : Int), oL 25 c25_o []]), (7, .box [nI v3.1.1, oL 25 c25_o v3.1.2]), (9, oL 25 c25_o [])] rfl rfl (ls_seq_k fun K11 hK11 => ls_rs tbOk (oF 7 0 rfl ⟨_, rfl⟩ (oL1 1 (dL c25_o v3.1.2) rfl (oN (dL c25_o v3.1.2) rfl (ev_mc rfl rfl (en [(3, .box [.str a1.1, dL ci64 a1.2]), (4, .box [nI 0, oL 25 c25_o []]), (5, oL 3 ci64 v1), (6, .box [nI (List.length v1 : Int), oL 25 c25_o []]), (9, oL 25 c25_o []), (47, dL c25_o v3.1.2), (48, nI (List.length v3.1.2 : Int)), (49, nI 0)] rfl rfl ?_))))))))))))
    obtain ⟨o1, hl, hr1⟩ := ob_some h
    clear h
    have kXimpl_AtomBindings_B1 : ∀ (z12 : List (List Int)), (obind (impl_sorted z12) fun v45 => some ((List.length v1 : Int), v45)) = some r → ∀ σ' : PS, okK σ' [(4, .box [nI 0, oL 25 c25_o []]), (6, .box [nI (List.length v1 : Int), oL 25 c25_o []]), (9, oL 25 c25_o z12)] → K11 σ' := by
     intro z12 h σ' hk
     refine hK11 _ (ls_keep [(4, .box [nI 0, oL 25 c25_o []]), (6, .box [nI (List.length v1 : Int), oL 25 c25_o []]), (9, oL 25 c25_o z12)] hk rfl (ls_rs tbOk (oM (oL 25 c25_o z12) rfl (?_))))
     obtain ⟨v45, g46, h⟩ := ob_some h
     refine ev_call (era rfl (erD ec25_o _) eran) (impl_sorted_s g46) (oF 6 0 rfl ⟨_, rfl⟩ (oS 1 (oL 25 c25_o v45) [nI (List.length v1 : Int), oL 25 c25_o v45] rfl rfl (en [(4, .box [nI 0, oL 25 c25_o []]), (6, .box [nI (List.length v1 : Int), oL 25 c25_o v45])] rfl rfl (ls_rs tbOk (ev_ldBt (off := 0) (v := .agg [nI (List.length v1 : Int), oL 25 c25_o v45]) (c' := .box [nI (List.length v1 : Int), dL c25_o v45]) rfl rfl rfl rfl (nb rfl) rfl rfl (oS 0 (.agg [nI (List.length v1 : Int), oL 25 c25_o v45]) [nI (List.length v1 : Int), oL 25 c25_o v45] rfl rfl (en [(4, .box [nI (List.length v1 : Int), oL 25 c25_o v45])] rfl rfl (ls_ret ?_))))))))
     cases h
     exact ⟨.inl rfl, rfl⟩
    refine ls_rec (fun (s : (List (List Int)) × Int) => match s with | (y4, y5) => [(3, .box [.str a1.1, dL ci64 a1.2]), (4, .box [nI 0, oL 25 c25_o []]), (5, oL 3 ci64 v1), (6, .box [nI (List.length v1 : Int), oL 25 c25_o []]), (9, oL 25 c25_o y4), (47, dL c25_o v3.1.2), (48, nI (List.length v3.1.2 : Int)), (49, nI y5)]) (impl_AtomBindings_B1 a1 v1 v3) fz (([] : List (List Int)), 0) o1 hl (okr rfl) (fun _ => rfl) ?_
    rintro m ⟨y4, y5⟩ N h hN
    unfold impl_AtomBindings_B1 at h
    dsimp only at h
    refine ls_rs tbOk (oB (nI y5) (nI (List.length v3.1.2 : Int)) rfl rfl (en [(3, .box [.str a1.1, dL ci64 a1.2]), (4, .box [nI 0, oL 25 c25_o []]), (5, oL 3 ci64 v1), (6, .box [nI (List.length v1 : Int), oL 25 c25_o []]), (9, oL 25 c25_o y4), (47, dL c25_o v3.1.2), (48, nI (List.length v3.1.2 : Int)), (49, nI y5), (50, .bool (decide (y5 < (List.length v3.1.2 : Int))))] rfl rfl (ls_seq_k fun K13 hK13 => ?_)))
    rcases cond_some h with ⟨g14, h⟩ | ⟨g14, h⟩
    ·refine ls_cT rfl g14 (ls_skip (hK13 _ (kp [(3, .box [.str a1.1, dL ci64 a1.2]), (4, .box [nI 0, oL 25 c25_o []]), (5, oL 3 ci64 v1), (6, .box [nI (List.length v1 : Int), oL 25 c25_o []]), (9, oL 25 c25_o y4), (47, dL c25_o v3.1.2), (48, nI (List.length v3.1.2 : Int)), (49, nI y5)] rfl rfl (ls_seq_k fun K15 hK15 => ls_blk (ls_rs tbOk ?_)))))
     obtain ⟨e16, g17, h⟩ := ob_some h
     refine ev_ia rfl rfl rfl ⟨(geti_some g17).1, (geti_some g17).2.1⟩ (ev_ldEt (i := y5) (n := 1) (off := 0) (v := dL ci64 e16) rfl rfl zc25_o g17 rfl (nb rfl) rfl (oA (dL ci64 e16) rfl (en [(3, .box [.str a1.1, dL ci64 a1.2]), (4, .box [nI 0, oL 25 c25_o []]), (5, oL 3 ci64 v1), (6, .box [nI (List.length v1 : Int), oL 25 c25_o []]), (9, oL 25 c25_o y4), (11, dL ci64 e16), (47, dL c25_o v3.1.2), (48, nI (List.length v3.1.2 : Int)), (49, nI y5)] rfl rfl (ls_rs tbOk ?_))))
     obtain ⟨g18, h⟩ := chk_some h
     refine ev_mku (f := ci64) (z := (0 : Int)) rfl rfl rfl rfl rfl rfl g18 rfl (ev_asu rfl rfl rfl (en [(3, .box [.str a1.1, dL ci64 a1.2]), (4, .box [nI 0, oL 25 c25_o []]), (5, oL 3 ci64 v1), (6, .box [nI (List.length v1 : Int), oL 25 c25_o []]), (9, oL 25 c25_o y4), (11, dL ci64 e16), (12, wL 3 ci64 (List.replicate (Int.toNat 5) (0 : Int))), (47, dL c25_o v3.1.2), (48, nI (List.length v3.1.2 : Int)), (49, nI y5)] rfl rfl (ls_rs tbOk (oC nofun rfl (en [(3, .box [.str a1.1, dL ci64 a1.2]), (4, .box [nI 0, oL 25 c25_o []]), (5, oL 3 ci64 v1), (6, .box [nI (List.length v1 : Int), oL 25 c25_o []]), (9, oL 25 c25_o y4), (11, dL ci64 e16), (12, wL 3 ci64 (List.replicate (Int.toNat 5) (0 : Int))), (13, .bool true), (47, dL c25_o v3.1.2), (48, nI (List.length v3.1.2 : Int)), (49, nI y5)] rfl rfl (ls_seq_k fun K19 hK19 => ls_rs tbOk (oF 3 0 rfl ⟨_, rfl⟩ (oL1 1 (dL ci64 a1.2) rfl (oN (dL ci64 a1.2) rfl (ev_mc rfl rfl (en [(3, .box [.str a1.1, dL ci64 a1.2]), (4, .box [nI 0, oL 25 c25_o []]), (5, oL 3 ci64 v1), (6, .box [nI (List.length v1 : Int), oL 25 c25_o []]), (9, oL 25 c25_o y4), (11, dL ci64 e16), (12, wL 3 ci64 (List.replicate (Int.toNat 5) (0 : Int))), (13, .bool true), (47, dL c25_o v3.1.2), (48, nI (List.length v3.1.2 : Int)), (49, nI y5), (55, dL ci64 a1.2), (56, nI (List.length a1.2 : Int)), (57, nI 0)] rfl rfl ?_)))))))))))
     obtain ⟨o2, hl, hr2⟩ := ob_some h
     clear h
     have kXimpl_AtomBindings_B2 : ∀ (z20 : List Int) (z21 : Bool), (cond z21 (obind (impl_pick z20 v1) fun v42 => chk (List.length y4 + List.length [v42] ≤ lim) (impl_AtomBindings_J4 (loopF (impl_AtomBindings_B1 a1 v1 v3) m) y5 (y4 ++ [v42]))) (impl_AtomBindings_J4 (loopF (impl_AtomBindings_B1 a1 v1 v3) m) y5 y4)) = some o1 → ∀ σ' : PS, okK σ' [(3, .box [.str a1.1, dL ci64 a1.2]), (4, .box [nI 0, oL 25 c25_o []]), (5, oL 3 ci64 v1), (6, .box [nI (List.length v1 : Int), oL 25 c25_o []]), (9, oL 25 c25_o y4), (12, wL 3 ci64 z20), (13, .bool z21), (47, dL c25_o v3.1.2), (48, nI (List.length v3.1.2 : Int)), (49, nI y5)] → K19 σ' := by
      intro z20 z21 h σ' hk
      refine hK19 _ (ls_keep [(3, .box [.str a1.1, dL ci64 a1.2]), (4, .box [nI 0, oL 25 c25_o []]), (5, oL 3 ci64 v1), (6, .box [nI (List.length v1 : Int), oL 25 c25_o []]), (9, oL 25 c25_o y4), (12, wL 3 ci64 z20), (13, .bool z21), (47, dL c25_o v3.1.2), (48, nI (List.length v3.1.2 : Int)), (49, nI y5)] hk rfl (ls_rs tbOk (oM (.bool z21) rfl (en [(3, .box [.str a1.1, dL ci64 a1.2]), (4, .box [nI 0, oL 25 c25_o []]), (5, oL 3 ci64 v1), (6, .box [nI (List.length v1 : Int), oL 25 c25_o []]), (9, oL 25 c25_o y4), (12, wL 3 ci64 z20), (47, dL c25_o v3.1.2), (48, nI (List.length v3.1.2 : Int)), (49, nI y5), (86, .bool z21)] rfl rfl ?_))))
      have kimpl_AtomBindings_J4 : ∀ (x40 : List (List Int)), impl_AtomBindings_J4 (loopF (impl_AtomBindings_B1 a1 v1 v3) m) y5 x40 = some o1 → ∀ σ' : PS, okK σ' [(3, .box [.str a1.1, dL ci64 a1.2]), (4, .box [nI 0, oL 25 c25_o []]), (5, oL 3 ci64 v1), (6, .box [nI (List.length v1 : Int), oL 25 c25_o []]), (9, oL 25 c25_o x40), (47, dL c25_o v3.1.2), (48, nI (List.length v3.1.2 : Int)), (49, nI y5)] → K15 σ' := by
       intro x40 h σ' hk
       unfold impl_AtomBindings_J4 at h
       exact hK15 _ (ls_keep [(3, .box [.str a1.1, dL ci64 a1.2]), (4, .box [nI 0, oL 25 c25_o []]), (5, oL 3 ci64 v1), (6, .box [nI (List.length v1 : Int), oL 25 c25_o []]), (9, oL 25 c25_o x40), (47, dL c25_o v3.1.2), (48, nI (List.length v3.1.2 : Int)), (49, nI y5)] hk rfl (ls_rgn tbOk (oB (nI y5) (nI 1) rfl rfl (oM (nI (IntKind.i64.wrap (y5 + 1))) rfl (evn (hN _ (x40, (IntKind.i64.wrap (y5 + 1))) h (okr rfl)))))))
      rcases cond_some h with ⟨g41, h⟩ | ⟨g41, h⟩
      ·refine ls_cT rfl g41 (ls_rgn tbOk (oT (oL 25 c25_o y4) rfl (ev_mvtu rfl rfl (oM (oL 3 ci64 v1) rfl (?_)))))
       obtain ⟨v42, g43, h⟩ := ob_some h
       refine ev_call (era rfl (erO eci64 _) (era rfl (erD eci64 _) eran)) (impl_pick_s g43) (ev_bs [oL 3 ci64 v42] (cs := [oL 3 ci64 v42]) rfl ⟨rfl, trivial⟩ rfl (nb rfl) rfl (?_))
       obtain ⟨g44, h⟩ := chk_some h
       exact ev_app (f := c25_o) (l := y4) (m := [v42]) (c2 := oL 25 c25_o [v42]) rfl rfl rfl (flat_len zc25_o [v42]) rfl rfl g44 rfl (oA (oL 25 c25_o (y4 ++ [v42])) rfl (evn (kimpl_AtomBindings_J4 (y4 ++ [v42]) h _ (okr rfl))))
      ·exact ls_cF rfl g41 (ls_skip (kimpl_AtomBindings_J4 y4 h _ (okr rfl)))
     refine ls_rec (fun (s : (List Int) × Bool × Int) => match s with | (y9, y10, y11) => [(3, .box [.str a1.1, dL ci64 a1.2]), (4, .box [nI 0, oL 25 c25_o []]), (5, oL 3 ci64 v1), (6, .box [nI (List.length v1 : Int), oL 25 c25_o []]), (9, oL 25 c25_o y4), (11, dL ci64 e16), (12, wL 3 ci64 y9), (13, .bool y10), (47, dL c25_o v3.1.2), (48, nI (List.length v3.1.2 : Int)), (49, nI y5), (55, dL ci64 a1.2), (56, nI (List.length a1.2 : Int)), (57, nI y11)]) (impl_AtomBindings_B2 a1 e16) fz ((List.replicate (Int.toNat 5) (0 : Int)), true, 0) o2 hl (okr rfl) (fun _ => rfl) ?_
     rintro m ⟨y9, y10, y11⟩ N h hN
     unfold impl_AtomBindings_B2 at h
     dsimp only at h
     refine ls_rs tbOk (oB (nI y11) (nI (List.length a1.2 : Int)) rfl rfl (en [(3, .box [.str a1.1, dL ci64 a1.2]), (4, .box [nI 0, oL 25 c25_o []]), (5, oL 3 ci64 v1), (6, .box [nI (List.length v1 : Int), oL 25 c25_o []]), (9, oL 25 c25_o y4), (11, dL ci64 e16), (12, wL 3 ci64 y9), (13, .bool y10), (47, dL c25_o v3.1.2), (48, nI (List.length v3.1.2 : Int)), (49, nI y5), (55, dL ci64 a1.2), (56, nI (List.length a1.2 : Int)), (57, nI y11), (58, .bool (decide (y11 < (List.length a1.2 : Int))))] rfl rfl (ls_seq_k fun K22 hK22 => ?_)))
     rcases cond_some h with ⟨g23, h⟩ | ⟨g23, h⟩
     ·refine ls_cT rfl g23 (ls_skip (hK22 _ (kp [(3, .box [.str a1.1, dL ci64 a1.2]), (4, .box [nI 0, oL 25 c25_o []]), (5, oL 3 ci64 v1), (6, .box [nI (List.length v1 : Int), oL 25 c25_o []]), (9, oL 25 c25_o y4), (11, dL ci64 e16), (12, wL 3 ci64 y9), (13, .bool y10), (47, dL c25_o v3.1.2), (48, nI (List.length v3.1.2 : Int)), (49, nI y5), (55, dL ci64 a1.2), (56, nI (List.length a1.2 : Int)), (57, nI y11)] rfl rfl (ls_seq_k fun K24 hK24 => ls_blk (ls_rs tbOk (oM (nI y11) rfl (?_)))))))
      obtain ⟨e25, g26, h⟩ := ob_some h
      refine ev_ia rfl rfl rfl ⟨(geti_some g26).1, (geti_some g26).2.1⟩ (oLE y11 1 0 (nI e25) zci64 g26 rfl (oA (nI y11) rfl (oA (nI e25) rfl (en [(3, .box [.str a1.1, dL ci64 a1.2]), (4, .box [nI 0, oL 25 c25_o []]), (5, oL 3 ci64 v1), (6, .box [nI (List.length v1 : Int), oL 25 c25_o []]), (9, oL 25 c25_o y4), (11, dL ci64 e16), (12, wL 3 ci64 y9), (13, .bool y10), (14, nI y11), (15, nI e25), (47, dL c25_o v3.1.2), (48, nI (List.length v3.1.2 : Int)), (49, nI y5), (55, dL ci64 a1.2), (56, nI (List.length a1.2 : Int)), (57, nI y11)] rfl rfl (ls_rs tbOk (oF 3 0 rfl ⟨_, rfl⟩ (oL1 1 (dL ci64 a1.2) rfl (oM (nI e25) rfl (?_)))))))))
      obtain ⟨v27, g28, h⟩ := ob_some h
      refine ev_call (era rfl (erD eci64 _) (era rfl rfl eran)) (impl_indexOf_s g28) (oA (nI v27) rfl (en [(3, .box [.str a1.1, dL ci64 a1.2]), (4, .box [nI 0, oL 25 c25_o []]), (5, oL 3 ci64 v1), (6, .box [nI (List.length v1 : Int), oL 25 c25_o []]), (9, oL 25 c25_o y4), (11, dL ci64 e16), (12, wL 3 ci64 y9), (13, .bool y10), (14, nI y11), (15, nI e25), (16, nI v27), (47, dL c25_o v3.1.2), (48, nI (List.length v3.1.2 : Int)), (49, nI y5), (55, dL ci64 a1.2), (56, nI (List.length a1.2 : Int)), (57, nI y11)] rfl rfl (ls_rd_k tbOk mixed (by kernel_rfl) fun K29 hK29 => ?_)))
      have kimpl_AtomBindings_J3 : ∀ (x30 : Bool), impl_AtomBindings_J3 (loopF (impl_AtomBindings_B2 a1 e16) m) e16 y9 y11 e25 x30 = some o2 → ∀ σ' : PS, okK σ' [(3, .box [.str a1.1, dL ci64 a1.2]), (4, .box [nI 0, oL 25 c25_o []]), (5, oL 3 ci64 v1), (6, .box [nI (List.length v1 : Int), oL 25 c25_o []]), (9, oL 25 c25_o y4), (11, dL ci64 e16), (12, wL 3 ci64 y9), (13, .bool x30), (14, nI y11), (15, nI e25), (47, dL c25_o v3.1.2), (48, nI (List.length v3.1.2 : Int)), (49, nI y5), (55, dL ci64 a1.2), (56, nI (List.length a1.2 : Int)), (57, nI y11)] → K29 σ' := by
       intro x30 h σ' hk
       unfold impl_AtomBindings_J3 at h
       refine hK29 _ (ls_keep [(3, .box [.str a1.1, dL ci64 a1.2]), (4, .box [nI 0, oL 25 c25_o []]), (5, oL 3 ci64 v1), (6, .box [nI (List.length v1 : Int), oL 25 c25_o []]), (9, oL 25 c25_o y4), (11, dL ci64 e16), (12, wL 3 ci64 y9), (13, .bool x30), (14, nI y11), (15, nI e25), (47, dL c25_o v3.1.2), (48, nI (List.length v3.1.2 : Int)), (49, nI y5), (55, dL ci64 a1.2), (56, nI (List.length a1.2 : Int)), (57, nI y11)] hk rfl (ls_rgn tbOk (ev_mvu rfl rfl (oM (nI e25) rfl (oM (dL ci64 e16) rfl (oM (nI y11) rfl (?_)))))))
       obtain ⟨e31, g32, h⟩ := ob_some h
       refine ev_ia rfl rfl rfl ⟨(geti_some g32).1, (geti_some g32).2.1⟩ (oLE y11 1 0 (nI e31) zci64 g32 rfl (?_))
       obtain ⟨e33, g34, h⟩ := ob_some h
       exact ev_iau rfl rfl rfl rfl ⟨(geti_some g34).1, (geti_some g34).2.1⟩ (ev_stu (e := e31) (c1 := nI e31) rfl rfl zci64 ⟨(geti_some g34).1, (geti_some g34).2.1⟩ rfl rfl rfl rfl rfl (evn (hK24 _ (kp [(3, .box [.str a1.1, dL ci64 a1.2]), (4, .box [nI 0, oL 25 c25_o []]), (5, oL 3 ci64 v1), (6, .box [nI (List.length v1 : Int), oL 25 c25_o []]), (9, oL 25 c25_o y4), (11, dL ci64 e16), (12, wL 3 ci64 (seti y9 e25 e31)), (13, .bool x30), (47, dL c25_o v3.1.2), (48, nI (List.length v3.1.2 : Int)), (49, nI y5), (55, dL ci64 a1.2), (56, nI (List.length a1.2 : Int)), (57, nI y11)] rfl rfl (ls_rgn tbOk (oB (nI y11) (nI 1) rfl rfl (oM (nI (IntKind.i64.wrap (y11 + 1))) rfl (evn (hN _ ((seti y9 e25 e31), x30, (IntKind.i64.wrap (y11 + 1))) h (okr rfl))))))))))
      refine ed rfl (oM (.bool y10) rfl (ed rfl (oM (.bool y10) rfl (?_))))
      rcases cond_some h with ⟨g35, h⟩ | ⟨g35, h⟩
      ·refine ed rfl (oGR g35 rfl (oM (dL ci64 e16) rfl (ed rfl (oGR g35 rfl (oM (nI v27) rfl (?_))))))
       obtain ⟨e36, g37, h⟩ := ob_some h
       refine ed rfl (oGR g35 rfl (ev_ia rfl rfl rfl ⟨(geti_some g37).1, (geti_some g37).2.1⟩ (ed rfl (oGR g35 rfl (oLE v27 1 0 (nI e36) zci64 g37 rfl (ed rfl (oGR g35 rfl (oM (dL ci64 e16) rfl (ed rfl (oGR g35 rfl (oM (nI y11) rfl (?_))))))))))))
       obtain ⟨e38, g39, h⟩ := ob_some h
       exact ed rfl (oGR g35 rfl (ev_ia rfl rfl rfl ⟨(geti_some g39).1, (geti_some g39).2.1⟩ (ed rfl (oGR g35 rfl (oLE y11 1 0 (nI e38) zci64 g39 rfl (ed rfl (oGR g35 rfl (oB (nI e36) (nI e38) rfl rfl (ed rfl (oPT (.bool (e36 == e38)) g35 rfl (ed rfl (oA (.bool (e36 == e38)) rfl (evdn (kimpl_AtomBindings_J3 (e36 == e38) h _ (okr rfl)))))))))))))))
      ·exact ed rfl (oGF g35 rfl (ed rfl (oGF g35 rfl (ed rfl (oGF g35 rfl (ed rfl (oGF g35 rfl (ed rfl (oGF g35 rfl (ed rfl (oGF g35 rfl (ed rfl (oGF g35 rfl (ed rfl (oGF g35 rfl (ed rfl (oGF g35 rfl (ed rfl (oPF (.bool false) g35 rfl (ed rfl (oA (.bool false) rfl (evdn (kimpl_AtomBindings_J3 false h _ (okr rfl))))))))))))))))))))))))
     ·exact ls_cF rfl g23 (ls_exit (kXimpl_AtomBindings_B2 y9 y10 (by cases h; exact hr2) _ (okr rfl)))
    ·exact ls_cF rfl g14 (ls_exit (kXimpl_AtomBindings_B1 y4 (by cases h; exact hr1) _ (okr rfl)))
def impl_ColumnsForOrder_J3 (rec : ((List Int) × Int) → Option ((List Int))) (y2 : Int) (x14 : List Int) : Option ((List Int)) := rec (x14, (IntKind.i64.wrap (y2 + 1)))
def impl_ColumnsForOrder_J2 (rec : ((List Int) × Int) → Option ((List Int))) (y1 : List Int) (y2 : Int) (v10 : Int) (x13 : Bool) : Option ((List Int)) := cond x13 (chk (List.length y1 + List.length [v10] ≤ lim) (impl_ColumnsForOrder_J3 rec y2 (y1 ++ [v10]))) (impl_ColumnsForOrder_J3 rec y2 y1)
def impl_ColumnsForOrder_B1 (a1 : List Int) (v1 : (List Int)) (rec : ((List Int) × Int) → Option ((List Int))) (s : (List Int) × Int) : Option ((List Int)) := match s with
  | (y1, y2) => cond (decide (y2 < (List.length a1 : Int))) (obind (geti a1 y2) fun e8 => obind (impl_indexOf v1 e8) fun v10 => cond (decide (0 ≤ v10)) (obind (impl_hasInt y1 v10) fun v18 => impl_ColumnsForOrder_J2 rec y1 y2 v10 (!v18)) (impl_ColumnsForOrder_J2 rec y1 y2 v10 false)) (some y1)
def impl_ColumnsForOrder (a0 : Y194) (a1 : List Int) : Option ((List Int)) := obind (impl_AtomVariables a0) fun v1 => obind (loopF (impl_ColumnsForOrder_B1 a1 v1) fz (([] : List Int), 0)) fun z4 => some z4
theorem impl_ColumnsForOrder_s {a0 : Y194} {a1 : List Int} {r : (List Int)} (h : impl_ColumnsForOrder a0 a1 = some r) : SoundAt Try.prog 228 [.agg (c195_d a0), dL ci64 a1] (oL 3 ci64 r) := by
 unfold impl_ColumnsForOrder at h
 refine sound_lit tbOk lit228 (nb rfl) rfl ?_
 unfold c228
 refine kp [(0, .agg (c195_d a0)), (1, dL ci64 a1)] rfl rfl (ls_rs tbOk (oX (.agg (c195_d a0)) rfl (ev_an rfl rfl (en [(1, dL ci64 a1), (2, .box [.str a0.1, dL ci64 a0.2])] rfl rfl (ls_rs tbOk (oL1 0 (.agg (c195_d a0)) rfl (?_)))))))
 obtain ⟨v1, g2, h⟩ := ob_some h
 refine ev_call (era rfl (erg (erc rfl (erc (erD eci64 _) rfl))) eran) (impl_AtomVariables_s g2) (oA (oL 3 ci64 v1) rfl (en [(1, dL ci64 a1), (5, oL 3 ci64 v1)] rfl rfl (ls_rs tbOk (ev_an rfl rfl (en [(1, dL ci64 a1), (5, oL 3 ci64 v1), (6, oL 3 ci64 [])] rfl rfl (ls_seq_k fun K3 hK3 => ls_rs tbOk (oM (dL ci64 a1) rfl (oN (dL ci64 a1) rfl (ev_mc rfl rfl (en [(5, oL 3 ci64 v1), (6, oL 3 ci64 []), (12, dL ci64 a1), (13, nI (List.length a1 : Int)), (14, nI 0)] rfl rfl ?_))))))))))
 obtain ⟨o1, hl, hr1⟩ := ob_some h
 clear h
 have kXimpl_ColumnsForOrder_B1 : ∀ (z4 : List Int), (some z4) = some r → ∀ σ' : PS, okK σ' [(6, oL 3 ci64 z4)] → K3 σ' := by
  intro z4 h σ' hk
  refine hK3 _ (ls_keep [(6, oL 3 ci64 z4)] hk rfl (ls_rs tbOk (oT (oL 3 ci64 z4) rfl (oA (oL 3 ci64 z4) rfl (en [(4, oL 3 ci64 z4)] rfl rfl (ls_ret ?_))))))
  cases h
  exact ⟨.inl rfl, rfl⟩
 refine ls_rec (fun (s : (List Int) × Int) => match s with | (y1, y2) => [(5, oL 3 ci64 v1), (6, oL 3 ci64 y1), (12, dL ci64 a1), (13, nI (List.length a1 : Int)), (14, nI y2)]) (impl_ColumnsForOrder_B1 a1 v1) fz (([] : List Int), 0) o1 hl (okr rfl) (fun _ => rfl) ?_
 rintro m ⟨y1, y2⟩ N h hN
 unfold impl_ColumnsForOrder_B1 at h
 dsimp only at h
 refine ls_rs tbOk (oB (nI y2) (nI (List.length a1 : Int)) rfl rfl (en [(5, oL 3 ci64 v1), (6, oL 3 ci64 y1), (12, dL ci64 a1), (13, nI (List.length a1 : Int)), (14, nI y2), (15, .bool (decide (y2 < (List.length a1 : Int))))] rfl rfl (ls_seq_k fun K5 hK5 => ?_)))
 rcases cond_some h with ⟨g6, h⟩ | ⟨g6, h⟩
 ·refine ls_cT rfl g6 (ls_skip (hK5 _ (kp [(5, oL 3 ci64 v1), (6, oL 3 ci64 y1), (12, dL ci64 a1), (13, nI (List.length a1 : Int)), (14, nI y2)] rfl rfl (ls_seq_k fun K7 hK7 => ls_blk (ls_rs tbOk ?_)))))
  obtain ⟨e8, g9, h⟩ := ob_some h
  refine ev_ia rfl rfl rfl ⟨(geti_some g9).1, (geti_some g9).2.1⟩ (oLE y2 1 0 (nI e8) zci64 g9 rfl (oA (nI e8) rfl (en [(5, oL 3 ci64 v1), (6, oL 3 ci64 y1), (8, nI e8), (12, dL ci64 a1), (13, nI (List.length a1 : Int)), (14, nI y2)] rfl rfl (ls_rs tbOk (oM (oL 3 ci64 v1) rfl (oM (nI e8) rfl (?_)))))))
  obtain ⟨v10, g11, h⟩ := ob_some h
  refine ev_call (era rfl (erD eci64 _) (era rfl rfl eran)) (impl_indexOf_s g11) (oA (nI v10) rfl (en [(5, oL 3 ci64 v1), (6, oL 3 ci64 y1), (9, nI v10), (12, dL ci64 a1), (13, nI (List.length a1 : Int)), (14, nI y2)] rfl rfl (ls_rs_k tbOk fun K12 hK12 => ?_)))
  have kimpl_ColumnsForOrder_J2 : ∀ (x13 : Bool), impl_ColumnsForOrder_J2 (loopF (impl_ColumnsForOrder_B1 a1 v1) m) y1 y2 v10 x13 = some o1 → ∀ σ' : PS, okK σ' [(5, oL 3 ci64 v1), (6, oL 3 ci64 y1), (9, nI v10), (12, dL ci64 a1), (13, nI (List.length a1 : Int)), (14, nI y2), (28, .bool x13)] → K12 σ' := by
   intro x13 h σ' hk
   unfold impl_ColumnsForOrder_J2 at h
   refine hK12 _ (ls_keep [(5, oL 3 ci64 v1), (6, oL 3 ci64 y1), (9, nI v10), (12, dL ci64 a1), (13, nI (List.length a1 : Int)), (14, nI y2), (28, .bool x13)] hk rfl ?_)
   have kimpl_ColumnsForOrder_J3 : ∀ (x14 : List Int), impl_ColumnsForOrder_J3 (loopF (impl_ColumnsForOrder_B1 a1 v1) m) y2 x14 = some o1 → ∀ σ' : PS, okK σ' [(5, oL 3 ci64 v1), (6, oL 3 ci64 x14), (12, dL ci64 a1), (13, nI (List.length a1 : Int)), (14, nI y2)] → K7 σ' := by
    intro x14 h σ' hk
    unfold impl_ColumnsForOrder_J3 at h
    exact hK7 _ (ls_keep [(5, oL 3 ci64 v1), (6, oL 3 ci64 x14), (12, dL ci64 a1), (13, nI (List.length a1 : Int)), (14, nI y2)] hk rfl (ls_rgn tbOk (oB (nI y2) (nI 1) rfl rfl (oM (nI (IntKind.i64.wrap (y2 + 1))) rfl (evn (hN _ (x14, (IntKind.i64.wrap (y2 + 1))) h (okr rfl)))))))
   rcases cond_some h with ⟨g15, h⟩ | ⟨g15, h⟩
   ·refine ls_cT rfl g15 (ls_rgn tbOk (oT (oL 3 ci64 y1) rfl (oM (nI v10) rfl (ev_bs [nI v10] (cs := [nI v10]) rfl ⟨rfl, trivial⟩ rfl (nb rfl) rfl (?_)))))
    obtain ⟨g16, h⟩ := chk_some h
    exact ev_app (f := ci64) (l := y1) (m := [v10]) (c2 := oL 3 ci64 [v10]) rfl rfl rfl (flat_len zci64 [v10]) rfl rfl g16 rfl (oA (oL 3 ci64 (y1 ++ [v10])) rfl (evn (kimpl_ColumnsForOrder_J3 (y1 ++ [v10]) h _ (okr rfl))))
   ·exact ls_cF rfl g15 (ls_skip (kimpl_ColumnsForOrder_J3 y1 h _ (okr rfl)))
  refine oM (nI v10) rfl (oB (nI v10) (nI 0) rfl rfl (oM (.bool (decide (0 ≤ v10))) rfl (?_)))
  rcases cond_some h with ⟨g17, h⟩ | ⟨g17, h⟩
  ·refine oGR g17 rfl (oM (oL 3 ci64 y1) rfl (oGR g17 rfl (oM (nI v10) rfl (?_))))
   obtain ⟨v18, g19, h⟩ := ob_some h
   exact oGR g17 rfl (ev_call (era rfl (erD eci64 _) (era rfl rfl eran)) (impl_hasInt_s g19) (oGR g17 rfl (ev_un (c1 := .bool v18) rfl trivial (oPT (.bool (!v18)) g17 rfl (evn (kimpl_ColumnsForOrder_J2 (!v18) h _ (okr rfl)))))))
  ·exact oGF g17 rfl (oGF g17 rfl (oGF g17 rfl (oGF g17 rfl (oPF (.bool false) g17 rfl (evn (kimpl_ColumnsForOrder_J2 false h _ (okr rfl)))))))
 ·exact ls_cF rfl g6 (ls_exit (kXimpl_ColumnsForOrder_B1 y1 (by cases h; exact hr1) _ (okr rfl)))
def impl_BuildTries_B1 (a0 : List Y207) (a1 : Y91) (a2 : List Int) (rec : ((List Y127) × Int) → Option ((List Y127))) (s : (List Y127) × Int) : Option ((List Y127)) := match s with
  | (y1, y2) => cond (decide (y2 < (List.length a1.2.1 : Int))) (obind (geti a1.2.1 y2) fun e13 => obind (impl_AtomBindings a0 e13) fun v15 => obind (impl_ColumnsForOrder e13 a2) fun v17 => obind (impl_BuildTrie v15 v17) fun v19 => chk (List.length y1 + List.length [v19.1] ≤ lim) (rec ((y1 ++ [v19.1]), (IntKind.i64.wrap (y2 + 1))))) (some y1)
def impl_BuildTries (a0 : List Y207) (a1 : Y91) (a2 : List Int) : Option ((List Y127) × Bool) := obind (impl_IsQueryFor a0 a1) fun v2 => cond (!v2) (some (([] : List Y127), false)) (obind (impl_IsValidOrder a1 a2) fun v5 => cond (!v5) (some (([] : List Y127), false)) (obind (loopF (impl_BuildTries_B1 a0 a1 a2) fz (([] : List Y127), 0)) fun z9 => some (z9, true)))
theorem impl_BuildTries_s {a0 : List Y207} {a1 : Y91} {a2 : List Int} {r : (List Y127) × Bool} (h : impl_BuildTries a0 a1 a2 = some r) : SoundAt Try.prog 159 [.agg [dL c208_dd a0], .agg (c92_ddd a1), dL ci64 a2] (.tup [oL 197 c197_oo r.1, .bool r.2]) := by
 unfold impl_BuildTries at h
 refine sound_lit tbOk lit159 (nb rfl) rfl ?_
 unfold c159
 refine kp [(0, .agg [dL c208_dd a0]), (1, .agg (c92_ddd a1)), (2, dL ci64 a2)] rfl rfl (ls_rs tbOk (oX (.agg [dL c208_dd a0]) rfl (oX (.agg (c92_ddd a1)) rfl (ev_an rfl rfl (oC nofun rfl (en [(2, dL ci64 a2), (3, .box [dL c208_dd a0]), (4, .box [nI a1.1, dL c195_d a1.2.1, dL ci64 a1.2.2])] rfl rfl (ls_seq_k fun K1 hK1 => ls_rs tbOk (oL1 0 (.agg [dL c208_dd a0]) rfl (oL1 0 (.agg (c92_ddd a1)) rfl (?_))))))))))
 obtain ⟨v2, g3, h⟩ := ob_some h
 refine ev_call (era rfl (erg (erc (erD ec208_dd _) rfl)) (era rfl (erg (erc rfl (erc (erD ec195_d _) (erc (erD eci64 _) rfl)))) eran)) (impl_IsQueryFor_s g3) (ev_un (c1 := .bool v2) rfl trivial (oM (.bool (!v2)) rfl (?_)))
 rcases cond_some h with ⟨g4, h⟩ | ⟨g4, h⟩
 ·refine oGT g4 rfl (oGT g4 rfl (oGT g4 rfl (oGT g4 rfl (oPT (.bool true) g4 rfl (en [(2, dL ci64 a2), (3, .box [dL c208_dd a0]), (4, .box [nI a1.1, dL c195_d a1.2.1, dL ci64 a1.2.2]), (22, .bool true)] rfl rfl (ls_cT rfl rfl (ls_rs tbOk (ev_an rfl rfl (oC nofun rfl (en [(6, oL 197 c197_oo []), (7, .bool false)] rfl rfl (ls_ret ?_)))))))))))
  cases h
  exact ⟨.inl rfl, rfl⟩
 ·refine oGR g4 rfl (oL1 0 (.agg (c92_ddd a1)) rfl (oGR g4 rfl (oM (dL ci64 a2) rfl (?_))))
  obtain ⟨v5, g6, h⟩ := ob_some h
  refine oGR g4 rfl (ev_call (era rfl (erg (erc rfl (erc (erD ec195_d _) (erc (erD eci64 _) rfl)))) (era rfl (erD eci64 _) eran)) (impl_IsValidOrder_s g6) (oGR g4 rfl (ev_un (c1 := .bool v5) rfl trivial (oPF (.bool (!v5)) g4 rfl (en [(2, dL ci64 a2), (3, .box [dL c208_dd a0]), (4, .box [nI a1.1, dL c195_d a1.2.1, dL ci64 a1.2.2]), (22, .bool (!v5))] rfl rfl ?_)))))
  rcases cond_some h with ⟨g7, h⟩ | ⟨g7, h⟩
  ·refine ls_cT rfl g7 (ls_rs tbOk (ev_an rfl rfl (oC nofun rfl (en [(6, oL 197 c197_oo []), (7, .bool false)] rfl rfl (ls_ret ?_)))))
   cases h
   exact ⟨.inl rfl, rfl⟩
  ·refine ls_cF rfl g7 (ls_skip (hK1 _ (kp [(2, dL ci64 a2), (3, .box [dL c208_dd a0]), (4, .box [nI a1.1, dL c195_d a1.2.1, dL ci64 a1.2.2])] rfl rfl (ls_rs tbOk (ev_an rfl rfl (en [(2, dL ci64 a2), (3, .box [dL c208_dd a0]), (4, .box [nI a1.1, dL c195_d a1.2.1, dL ci64 a1.2.2]), (8, oL 197 c197_oo [])] rfl rfl (ls_seq_k fun K8 hK8 => ls_rs tbOk (oF 4 0 rfl ⟨_, rfl⟩ (oL1 1 (dL c195_d a1.2.1) rfl (oN (dL c195_d a1.2.1) rfl (ev_mc rfl rfl (en [(2, dL ci64 a2), (3, .box [dL c208_dd a0]), (8, oL 197 c197_oo []), (24, dL c195_d a1.2.1), (25, nI (List.length a1.2.1 : Int)), (26, nI 0)] rfl rfl ?_))))))))))))
   obtain ⟨o1, hl, hr1⟩ := ob_some h
   clear h
   have kXimpl_BuildTries_B1 : ∀ (z9 : List Y127), (some (z9, true)) = some r → ∀ σ' : PS, okK σ' [(8, oL 197 c197_oo z9)] → K8 σ' := by
    intro z9 h σ' hk
    refine hK8 _ (ls_keep [(8, oL 197 c197_oo z9)] hk rfl (ls_rs tbOk (oT (oL 197 c197_oo z9) rfl (oA (oL 197 c197_oo z9) rfl (oC nofun rfl (en [(6, oL 197 c197_oo z9), (7, .bool true)] rfl rfl (ls_ret ?_)))))))
    cases h
    exact ⟨.inl rfl, rfl⟩
   refine ls_rec (fun (s : (List Y127) × Int) => match s with | (y1, y2) => [(2, dL ci64 a2), (3, .box [dL c208_dd a0]), (8, oL 197 c197_oo y1), (24, dL c195_d a1.2.1), (25, nI (List.length a1.2.1 : Int)), (26, nI y2)]) (impl_BuildTries_B1 a0 a1 a2) fz (([] : List Y127), 0) o1 hl (okr rfl) (fun _ => rfl) ?_
   rintro m ⟨y1, y2⟩ N h hN
   unfold impl_BuildTries_B1 at h
   dsimp only at h
   refine ls_rs tbOk (oB (nI y2) (nI (List.length a1.2.1 : Int)) rfl rfl (en [(2, dL ci64 a2), (3, .box [dL c208_dd a0]), (8, oL 197 c197_oo y1), (24, dL c195_d a1.2.1), (25, nI (List.length a1.2.1 : Int)), (26, nI y2), (27, .bool (decide (y2 < (List.length a1.2.1 : Int))))] rfl rfl (ls_seq_k fun K10 hK10 => ?_)))
   rcases cond_some h with ⟨g11, h⟩ | ⟨g11, h⟩
   ·refine ls_cT rfl g11 (ls_skip (hK10 _ (kp [(2, dL ci64 a2), (3, .box [dL c208_dd a0]), (8, oL 197 c197_oo y1), (24, dL c195_d a1.2.1), (25, nI (List.length a1.2.1 : Int)), (26, nI y2)] rfl rfl (ls_seq_k fun K12 hK12 => ls_blk (ls_rs tbOk ?_)))))
    obtain ⟨e13, g14, h⟩ := ob_some h
    refine ev_ia rfl rfl rfl ⟨(geti_some g14).1, (geti_some g14).2.1⟩ (ev_ldEt (i := y2) (n := 2) (off := 0) (v := .agg (c195_d e13)) rfl rfl zc195_d g14 rfl (nb rfl) rfl (ev_al rfl rfl (oS 0 (.agg (c195_d e13)) [.str e13.1, dL ci64 e13.2] rfl rfl (en [(2, dL ci64 a2), (3, .box [dL c208_dd a0]), (8, oL 197 c197_oo y1), (10, .box [.str e13.1, dL ci64 e13.2]), (24, dL c195_d a1.2.1), (25, nI (List.length a1.2.1 : Int)), (26, nI y2)] rfl rfl (ls_rd tbOk mixed (by kernel_rfl) (ed rfl (oL1 0 (.agg [dL c208_dd a0]) rfl (ed rfl (oL1 0 (.agg (c195_d e13)) rfl (?_))))))))))
    obtain ⟨v15, g16, h⟩ := ob_some h
    refine ed rfl (ev_call (era rfl (erg (erc (erD ec208_dd _) rfl)) (era rfl (erg (erc rfl (erc (erD eci64 _) rfl))) eran)) (impl_AtomBindings_s g16) (ed rfl (oL1 0 (.agg (c195_d e13)) rfl (ed rfl (oM (dL ci64 a2) rfl (?_))))))
    obtain ⟨v17, g18, h⟩ := ob_some h
    refine ed rfl (ev_call (era rfl (erg (erc rfl (erc (erD eci64 _) rfl))) (era rfl (erD eci64 _) eran)) (impl_ColumnsForOrder_s g18) (?_))
    obtain ⟨v19, g20, h⟩ := ob_some h
    refine ed rfl (ev_call (era rfl (erg (erc rfl (erc (erO ec25_o _) rfl))) (era rfl (erO eci64 _) eran)) (impl_BuildTrie_s g20) (ed rfl (oT (.tup [.agg (c197_oo v19.1), .bool v19.2]) rfl (ed rfl (ev_ext rfl rfl rfl rfl (ed rfl (ev_ext rfl rfl rfl rfl (ed rfl (ev_al rfl rfl (ed rfl (oS 0 (.agg (c197_oo v19.1)) [nI v19.1.1, oL 25 c25_o v19.1.2] rfl rfl (ed rfl (oA (.bool v19.2) rfl (evdn (kp [(2, dL ci64 a2), (3, .box [dL c208_dd a0]), (8, oL 197 c197_oo y1), (11, .box [nI v19.1.1, oL 25 c25_o v19.1.2]), (24, dL c195_d a1.2.1), (25, nI (List.length a1.2.1 : Int)), (26, nI y2)] rfl rfl (ls_rgn tbOk (oT (oL 197 c197_oo y1) rfl (ev_ldBt (off := 0) (v := .agg (c197_oo v19.1)) (c' := .box [nI v19.1.1, dL c25_o v19.1.2]) rfl rfl rfl rfl (nb rfl) rfl rfl (ev_bs [.agg (c197_oo v19.1)] (cs := [nI v19.1.1, oL 25 c25_o v19.1.2]) rfl ⟨rfl, trivial⟩ rfl (nb rfl) rfl (?_))))))))))))))))))))
    obtain ⟨g21, h⟩ := chk_some h
    exact ev_app (f := c197_oo) (l := y1) (m := [v19.1]) (c2 := oL 197 c197_oo [v19.1]) rfl rfl rfl (flat_len zc197_oo [v19.1]) rfl rfl g21 rfl (oA (oL 197 c197_oo (y1 ++ [v19.1])) rfl (evn (hK12 _ (kp [(2, dL ci64 a2), (3, .box [dL c208_dd a0]), (8, oL 197 c197_oo (y1 ++ [v19.1])), (24, dL c195_d a1.2.1), (25, nI (List.length a1.2.1 : Int)), (26, nI y2)] rfl rfl (ls_rgn tbOk (oB (nI y2) (nI 1) rfl rfl (oM (nI (IntKind.i64.wrap (y2 + 1))) rfl (evn (hN _ ((y1 ++ [v19.1]), (IntKind.i64.wrap (y2 + 1))) h (okr rfl))))))))))
   ·exact ls_cF rfl g11 (ls_exit (kXimpl_BuildTries_B1 y1 (by cases h; exact hr1) _ (okr rfl)))
def impl_AtomsWithVariable_J2 (rec : ((List Int) × Int) → Option ((List Int))) (y2 : Int) (x14 : List Int) : Option ((List Int)) := rec (x14, (IntKind.i64.wrap (y2 + 1)))
def impl_AtomsWithVariable_B1 (a0 : Y91) (a1 : Int) (rec : ((List Int) × Int) → Option ((List Int))) (s : (List Int) × Int) : Option ((List Int)) := match s with
  | (y1, y2) => cond (decide (y2 < (List.length a0.2.1 : Int))) (obind (geti a0.2.1 y2) fun e10 => obind (impl_ContainsVariable e10 a1) fun v12 => cond v12 (chk (List.length y1 + List.length [y2] ≤ lim) (impl_AtomsWithVariable_J2 rec y2 (y1 ++ [y2]))) (impl_AtomsWithVariable_J2 rec y2 y1)) (some y1)
def impl_AtomsWithVariable (a0 : Y91) (a1 : Int) : Option ((List Int)) := obind (impl_IsValidQuery a0) fun v2 => cond (!v2) (some ([] : List Int)) (obind (loopF (impl_AtomsWithVariable_B1 a0 a1) fz (([] : List Int), 0)) fun z6 => some z6)
theorem impl_AtomsWithVariable_s {a0 : Y91} {a1 : Int} {r : (List Int)} (h : impl_AtomsWithVariable a0 a1 = some r) : SoundAt Try.prog 160 [.agg (c92_ddd a0), nI a1] (oL 3 ci64 r) := by
 unfold impl_AtomsWithVariable at h
 refine sound_lit tbOk lit160 (nb rfl) rfl ?_
 unfold c160
 refine kp [(0, .agg (c92_ddd a0)), (1, nI a1)] rfl rfl (ls_rs tbOk (oX (.agg (c92_ddd a0)) rfl (ev_an rfl rfl (en [(1, nI a1), (2, .box [nI a0.1, dL c195_d a0.2.1, dL ci64 a0.2.2])] rfl rfl (ls_seq_k fun K1 hK1 => ls_rs tbOk (oL1 0 (.agg (c92_ddd a0)) rfl (?_)))))))
 obtain ⟨v2, g3, h⟩ := ob_some h
 refine ev_call (era rfl (erg (erc rfl (erc (erD ec195_d _) (erc (erD eci64 _) rfl)))) eran) (impl_IsValidQuery_s g3) (ev_un (c1 := .bool v2) rfl trivial (en [(1, nI a1), (2, .box [nI a0.1, dL c195_d a0.2.1, dL ci64 a0.2.2]), (10, .bool (!v2))] rfl rfl ?_))
 rcases cond_some h with ⟨g4, h⟩ | ⟨g4, h⟩
 ·refine ls_cT rfl g4 (ls_rs tbOk (ev_an rfl rfl (en [(4, oL 3 ci64 [])] rfl rfl (ls_ret ?_))))
  cases h
  exact ⟨.inl rfl, rfl⟩
 ·refine ls_cF rfl g4 (ls_skip (hK1 _ (kp [(1, nI a1), (2, .box [nI a0.1, dL c195_d a0.2.1, dL ci64 a0.2.2])] rfl rfl (ls_rs tbOk (ev_an rfl rfl (en [(1, nI a1), (2, .box [nI a0.1, dL c195_d a0.2.1, dL ci64 a0.2.2]), (5, oL 3 ci64 [])] rfl rfl (ls_seq_k fun K5 hK5 => ls_rs tbOk (oF 2 0 rfl ⟨_, rfl⟩ (oL1 1 (dL c195_d a0.2.1) rfl (oN (dL c195_d a0.2.1) rfl (ev_mc rfl rfl (en [(1, nI a1), (5, oL 3 ci64 []), (12, dL c195_d a0.2.1), (13, nI (List.length a0.2.1 : Int)), (14, nI 0)] rfl rfl ?_))))))))))))
  obtain ⟨o1, hl, hr1⟩ := ob_some h
  clear h
  have kXimpl_AtomsWithVariable_B1 : ∀ (z6 : List Int), (some z6) = some r → ∀ σ' : PS, okK σ' [(5, oL 3 ci64 z6)] → K5 σ' := by
   intro z6 h σ' hk
   refine hK5 _ (ls_keep [(5, oL 3 ci64 z6)] hk rfl (ls_rs tbOk (oT (oL 3 ci64 z6) rfl (oA (oL 3 ci64 z6) rfl (en [(4, oL 3 ci64 z6)] rfl rfl (ls_ret ?_))))))
   cases h
   exact ⟨.inl rfl, rfl⟩
  refine ls_rec (fun (s : (List Int) × Int) => match s with | (y1, y2) => [(1, nI a1), (5, oL 3 ci64 y1), (12, dL c195_d a0.2.1), (13, nI (List.length a0.2.1 : Int)), (14, nI y2)]) (impl_AtomsWithVariable_B1 a0 a1) fz (([] : List Int), 0) o1 hl (okr rfl) (fun _ => rfl) ?_
  rintro m ⟨y1, y2⟩ N h hN
  unfold impl_AtomsWithVariable_B1 at h
  dsimp only at h
  refine ls_rs tbOk (oB (nI y2) (nI (List.length a0.2.1 : Int)) rfl rfl (en [(1, nI a1), (5, oL 3 ci64 y1), (12, dL c195_d a0.2.1), (13, nI (List.length a0.2.1 : Int)), (14, nI y2), (15, .bool (decide (y2 < (List.length a0.2.1 : Int))))] rfl rfl (ls_seq_k fun K7 hK7 => ?_)))
  rcases cond_some h with ⟨g8, h⟩ | ⟨g8, h⟩
  ·refine ls_cT rfl g8 (ls_skip (hK7 _ (kp [(1, nI a1), (5, oL 3 ci64 y1), (12, dL c195_d a0.2.1), (13, nI (List.length a0.2.1 : Int)), (14, nI y2)] rfl rfl (ls_seq_k fun K9 hK9 => ls_blk (ls_rs tbOk (oM (nI y2) rfl (?_)))))))
   obtain ⟨e10, g11, h⟩ := ob_some h
   refine ev_ia rfl rfl rfl ⟨(geti_some g11).1, (geti_some g11).2.1⟩ (ev_ldEt (i := y2) (n := 2) (off := 0) (v := .agg (c195_d e10)) rfl rfl zc195_d g11 rfl (nb rfl) rfl (ev_al rfl rfl (oA (nI y2) rfl (oS 0 (.agg (c195_d e10)) [.str e10.1, dL ci64 e10.2] rfl rfl (en [(1, nI a1), (5, oL 3 ci64 y1), (6, nI y2), (7, .box [.str e10.1, dL ci64 e10.2]), (12, dL c195_d a0.2.1), (13, nI (List.length a0.2.1 : Int)), (14, nI y2)] rfl rfl (ls_rs tbOk (oL1 0 (.agg (c195_d e10)) rfl (oM (nI a1) rfl (?_)))))))))
   obtain ⟨v12, g13, h⟩ := ob_some h
   refine ev_call (era rfl (erg (erc rfl (erc (erD eci64 _) rfl))) (era rfl rfl eran)) (impl_ContainsVariable_s g13) (en [(1, nI a1), (5, oL 3 ci64 y1), (6, nI y2), (12, dL c195_d a0.2.1), (13, nI (List.length a0.2.1 : Int)), (14, nI y2), (21, .bool v12)] rfl rfl ?_)
   have kimpl_AtomsWithVariable_J2 : ∀ (x14 : List Int), impl_AtomsWithVariable_J2 (loopF (impl_AtomsWithVariable_B1 a0 a1) m) y2 x14 = some o1 → ∀ σ' : PS, okK σ' [(1, nI a1), (5, oL 3 ci64 x14), (12, dL c195_d a0.2.1), (13, nI (List.length a0.2.1 : Int)), (14, nI y2)] → K9 σ' := by
    intro x14 h σ' hk
    unfold impl_AtomsWithVariable_J2 at h
    exact hK9 _ (ls_keep [(1, nI a1), (5, oL 3 ci64 x14), (12, dL c195_d a0.2.1), (13, nI (List.length a0.2.1 : Int)), (14, nI y2)] hk rfl (ls_rgn tbOk (oB (nI y2) (nI 1) rfl rfl (oM (nI (IntKind.i64.wrap (y2 + 1))) rfl (evn (hN _ (x14, (IntKind.i64.wrap (y2 + 1))) h (okr rfl)))))))
   rcases cond_some h with ⟨g15, h⟩ | ⟨g15, h⟩
   ·refine ls_cT rfl g15 (ls_rgn tbOk (oT (oL 3 ci64 y1) rfl (oM (nI y2) rfl (ev_bs [nI y2] (cs := [nI y2]) rfl ⟨rfl, trivial⟩ rfl (nb rfl) rfl (?_)))))
    obtain ⟨g16, h⟩ := chk_some h
    exact ev_app (f := ci64) (l := y1) (m := [y2]) (c2 := oL 3 ci64 [y2]) rfl rfl rfl (flat_len zci64 [y2]) rfl rfl g16 rfl (oA (oL 3 ci64 (y1 ++ [y2])) rfl (evn (kimpl_AtomsWithVariable_J2 (y1 ++ [y2]) h _ (okr rfl))))
   ·exact ls_cF rfl g15 (ls_skip (kimpl_AtomsWithVariable_J2 y1 h _ (okr rfl)))
  ·exact ls_cF rfl g8 (ls_exit (kXimpl_AtomsWithVariable_B1 y1 (by cases h; exact hr1) _ (okr rfl)))
def impl_common_J2 (rec : ((List Int) × Int) → Option ((List Int))) (y2 : Int) (x10 : List Int) : Option ((List Int)) := rec (x10, (IntKind.i64.wrap (y2 + 1)))
def impl_common_B1 (a0 : List Int) (a1 : List Int) (rec : ((List Int) × Int) → Option ((List Int))) (s : (List Int) × Int) : Option ((List Int)) := match s with
  | (y1, y2) => cond (decide (y2 < (List.length a0 : Int))) (obind (geti a0 y2) fun e6 => obind (impl_hasInt a1 e6) fun v8 => cond v8 (chk (List.length y1 + List.length [e6] ≤ lim) (impl_common_J2 rec y2 (y1 ++ [e6]))) (impl_common_J2 rec y2 y1)) (some y1)
def impl_common (a0 : List Int) (a1 : List Int) : Option ((List Int)) := obind (loopF (impl_common_B1 a0 a1) fz (([] : List Int), 0)) fun z2 => some z2
theorem impl_common_s {a0 : List Int} {a1 : List Int} {r : (List Int)} (h : impl_common a0 a1 = some r) : SoundAt Try.prog 161 [dL ci64 a0, dL ci64 a1] (oL 3 ci64 r) := by
 unfold impl_common at h
 refine sound_lit tbOk lit161 (nb rfl) rfl ?_
 unfold c161
 refine kp [(0, dL ci64 a0), (1, dL ci64 a1)] rfl rfl (ls_rs tbOk (ev_an rfl rfl (en [(0, dL ci64 a0), (1, dL ci64 a1)] rfl rfl (ls_rs tbOk (ev_an rfl rfl (en [(0, dL ci64 a0), (1, dL ci64 a1), (5, oL 3 ci64 [])] rfl rfl (ls_seq_k fun K1 hK1 => ls_rs tbOk (oM (dL ci64 a0) rfl (oN (dL ci64 a0) rfl (ev_mc rfl rfl (en [(1, dL ci64 a1), (5, oL 3 ci64 []), (8, dL ci64 a0), (9, nI (List.length a0 : Int)), (10, nI 0)] rfl rfl ?_)))))))))))
 obtain ⟨o1, hl, hr1⟩ := ob_some h
 clear h
 have kXimpl_common_B1 : ∀ (z2 : List Int), (some z2) = some r → ∀ σ' : PS, okK σ' [(5, oL 3 ci64 z2)] → K1 σ' := by
  intro z2 h σ' hk
  refine hK1 _ (ls_keep [(5, oL 3 ci64 z2)] hk rfl (ls_rs tbOk (oT (oL 3 ci64 z2) rfl (oA (oL 3 ci64 z2) rfl (en [(4, oL 3 ci64 z2)] rfl rfl (ls_ret ?_))))))
  cases h
  exact ⟨.inl rfl, rfl⟩
 refine ls_rec (fun (s : (List Int) × Int) => match s with | (y1, y2) => [(1, dL ci64 a1), (5, oL 3 ci64 y1), (8, dL ci64 a0), (9, nI (List.length a0 : Int)), (10, nI y2)]) (impl_common_B1 a0 a1) fz (([] : List Int), 0) o1 hl (okr rfl) (fun _ => rfl) ?_
 rintro m ⟨y1, y2⟩ N h hN
 unfold impl_common_B1 at h
 dsimp only at h
 refine ls_rs tbOk (oB (nI y2) (nI (List.length a0 : Int)) rfl rfl (en [(1, dL ci64 a1), (5, oL 3 ci64 y1), (8, dL ci64 a0), (9, nI (List.length a0 : Int)), (10, nI y2), (11, .bool (decide (y2 < (List.length a0 : Int))))] rfl rfl (ls_seq_k fun K3 hK3 => ?_)))
 rcases cond_some h with ⟨g4, h⟩ | ⟨g4, h⟩
 ·refine ls_cT rfl g4 (ls_skip (hK3 _ (kp [(1, dL ci64 a1), (5, oL 3 ci64 y1), (8, dL ci64 a0), (9, nI (List.length a0 : Int)), (10, nI y2)] rfl rfl (ls_seq_k fun K5 hK5 => ls_blk (ls_rs tbOk ?_)))))
  obtain ⟨e6, g7, h⟩ := ob_some h
  refine ev_ia rfl rfl rfl ⟨(geti_some g7).1, (geti_some g7).2.1⟩ (oLE y2 1 0 (nI e6) zci64 g7 rfl (oA (nI e6) rfl (en [(1, dL ci64 a1), (5, oL 3 ci64 y1), (7, nI e6), (8, dL ci64 a0), (9, nI (List.length a0 : Int)), (10, nI y2)] rfl rfl (ls_rs tbOk (oM (dL ci64 a1) rfl (oM (nI e6) rfl (?_)))))))
  obtain ⟨v8, g9, h⟩ := ob_some h
  refine ev_call (era rfl (erD eci64 _) (era rfl rfl eran)) (impl_hasInt_s g9) (en [(1, dL ci64 a1), (5, oL 3 ci64 y1), (7, nI e6), (8, dL ci64 a0), (9, nI (List.length a0 : Int)), (10, nI y2), (16, .bool v8)] rfl rfl ?_)
  have kimpl_common_J2 : ∀ (x10 : List Int), impl_common_J2 (loopF (impl_common_B1 a0 a1) m) y2 x10 = some o1 → ∀ σ' : PS, okK σ' [(1, dL ci64 a1), (5, oL 3 ci64 x10), (8, dL ci64 a0), (9, nI (List.length a0 : Int)), (10, nI y2)] → K5 σ' := by
   intro x10 h σ' hk
   unfold impl_common_J2 at h
   exact hK5 _ (ls_keep [(1, dL ci64 a1), (5, oL 3 ci64 x10), (8, dL ci64 a0), (9, nI (List.length a0 : Int)), (10, nI y2)] hk rfl (ls_rgn tbOk (oB (nI y2) (nI 1) rfl rfl (oM (nI (IntKind.i64.wrap (y2 + 1))) rfl (evn (hN _ (x10, (IntKind.i64.wrap (y2 + 1))) h (okr rfl)))))))
  rcases cond_some h with ⟨g11, h⟩ | ⟨g11, h⟩
  ·refine ls_cT rfl g11 (ls_rgn tbOk (oT (oL 3 ci64 y1) rfl (oM (nI e6) rfl (ev_bs [nI e6] (cs := [nI e6]) rfl ⟨rfl, trivial⟩ rfl (nb rfl) rfl (?_)))))
   obtain ⟨g12, h⟩ := chk_some h
   exact ev_app (f := ci64) (l := y1) (m := [e6]) (c2 := oL 3 ci64 [e6]) rfl rfl rfl (flat_len zci64 [e6]) rfl rfl g12 rfl (oA (oL 3 ci64 (y1 ++ [e6])) rfl (evn (kimpl_common_J2 (y1 ++ [e6]) h _ (okr rfl))))
  ·exact ls_cF rfl g11 (ls_skip (kimpl_common_J2 y1 h _ (okr rfl)))
 ·exact ls_cF rfl g4 (ls_exit (kXimpl_common_B1 y1 (by cases h; exact hr1) _ (okr rfl)))
def impl_asRelation (a0 : Y127) : Option (Y127) := some a0
theorem impl_asRelation_s {a0 : Y127} {r : Y127} (h : impl_asRelation a0 = some r) : SoundAt Try.prog 254 [.agg (c197_dd a0)] (.agg (c128_dd r)) := by
 unfold impl_asRelation at h
 refine sound_lit tbOk lit254 (nb rfl) rfl ?_
 unfold c254
 refine kp [(0, .agg (c197_dd a0))] rfl rfl (ls_rs tbOk (oX (.agg (c197_dd a0)) rfl (ev_al rfl rfl (en [(1, .box [nI a0.1, dL c25_d a0.2]), (2, .box [nI 0, oL 25 c25_o []])] rfl rfl (ls_rs tbOk (oF 1 0 rfl ⟨_, rfl⟩ (oL1 0 (nI a0.1) rfl (oF 1 0 rfl ⟨_, rfl⟩ (oL1 1 (dL c25_d a0.2) rfl (ev_bd [nI a0.1, dL c25_d a0.2] (cs := [nI a0.1, dL c25_d a0.2]) rfl ⟨rfl, rfl, trivial⟩ rfl (oS 0 (.agg (c128_dd a0)) [nI a0.1, dL c25_d a0.2] rfl rfl (en [(2, .box [nI a0.1, dL c25_d a0.2])] rfl rfl (ls_ret ?_)))))))))))))
 cases h
 exact ⟨.inl rfl, rfl⟩
def impl_IsValidTrie (a0 : Y127) : Option (Bool) := obind (impl_asRelation a0) fun v1 => obind (impl_IsValidRelation v1) fun v3 => some v3
theorem impl_IsValidTrie_s {a0 : Y127} {r : Bool} (h : impl_IsValidTrie a0 = some r) : SoundAt Try.prog 231 [.agg (c197_dd a0)] (.bool r) := by
 unfold impl_IsValidTrie at h
 refine sound_lit tbOk lit231 (nb rfl) rfl ?_
 unfold c231
 refine kp [(0, .agg (c197_dd a0))] rfl rfl (ls_rs tbOk (oX (.agg (c197_dd a0)) rfl (oC nofun rfl (en [(1, .box [nI a0.1, dL c25_d a0.2])] rfl rfl (ls_rs tbOk (oL1 0 (.agg (c197_dd a0)) rfl (?_)))))))
 obtain ⟨v1, g2, h⟩ := ob_some h
 refine ev_call (era rfl (erg (erc rfl (erc (erD ec25_d _) rfl))) eran) (impl_asRelation_s g2) (?_)
 obtain ⟨v3, g4, h⟩ := ob_some h
 refine ev_call (era rfl (erg (erc rfl (erc (erD ec25_d _) rfl))) eran) (impl_IsValidRelation_s g4) (oA (.bool v3) rfl (en [(2, .bool v3)] rfl rfl (ls_ret ?_)))
 cases h
 exact ⟨.inl rfl, rfl⟩
def impl_TriePrefixRange_B1 (a0 : Y127) (a1 : List Int) (rec : Int → Option (Int)) (y1 : Int) : Option (Int) := cond (decide (y1 < (List.length a0.2 : Int))) (obind (geti a0.2 y1) fun e10 => chk ((0 : Int) ≤ 0 ∧ 0 ≤ (List.length a1 : Int) ∧ (List.length a1 : Int) ≤ (List.length e10 : Int)) (obind (impl_CompareRows (subl e10 0 (List.length a1 : Int)) a1) fun v13 => cond (decide (v13 < 0)) (rec (IntKind.i64.wrap (y1 + 1))) (some y1))) (some y1)
def impl_TriePrefixRange_B2 (a0 : Y127) (a1 : List Int) (rec : Int → Option (Int)) (y2 : Int) : Option (Int) := cond (decide (y2 < (List.length a0.2 : Int))) (obind (geti a0.2 y2) fun e20 => chk ((0 : Int) ≤ 0 ∧ 0 ≤ (List.length a1 : Int) ∧ (List.length a1 : Int) ≤ (List.length e20 : Int)) (obind (impl_CompareRows (subl e20 0 (List.length a1 : Int)) a1) fun v23 => cond (v23 == 0) (rec (IntKind.i64.wrap (y2 + 1))) (some y2))) (some y2)
def impl_TriePrefixRange (a0 : Y127) (a1 : List Int) : Option (Int × Int) := cond (decide (a0.1 < (List.length a1 : Int))) (some (0, 0)) (obind (impl_IsValidTrie a0) fun v3 => cond (!v3) (some (0, 0)) (obind (loopF (impl_TriePrefixRange_B1 a0 a1) fz 0) fun z7 => obind (loopF (impl_TriePrefixRange_B2 a0 a1) fz z7) fun z17 => some (z7, z17)))
theorem impl_TriePrefixRange_s {a0 : Y127} {a1 : List Int} {r : Int × Int} (h : impl_TriePrefixRange a0 a1 = some r) : SoundAt Try.prog 232 [.agg (c197_dd a0), dL ci64 a1] (.tup [nI r.1, nI r.2]) := by
 unfold impl_TriePrefixRange at h
 refine sound_lit tbOk lit232 (nb rfl) rfl ?_
 unfold c232
 refine kp [(0, .agg (c197_dd a0)), (1, dL ci64 a1)] rfl rfl (ls_rs tbOk (oX (.agg (c197_dd a0)) rfl (oC nofun rfl (oC nofun rfl (en [(1, dL ci64 a1), (2, .box [nI a0.1, dL c25_d a0.2])] rfl rfl (ls_rs tbOk (oM (dL ci64 a1) rfl (oN (dL ci64 a1) rfl (oA (nI (List.length a1 : Int)) rfl (en [(1, dL ci64 a1), (2, .box [nI a0.1, dL c25_d a0.2]), (6, nI (List.length a1 : Int))] rfl rfl (ls_seq_k fun K1 hK1 => ls_rs tbOk (oM (nI (List.length a1 : Int)) rfl (oF 2 0 rfl ⟨_, rfl⟩ (oL1 0 (nI a0.1) rfl (oB (nI (List.length a1 : Int)) (nI a0.1) rfl rfl (oM (.bool (decide (a0.1 < (List.length a1 : Int)))) rfl (?_)))))))))))))))))
 rcases cond_some h with ⟨g2, h⟩ | ⟨g2, h⟩
 ·refine oGT g2 rfl (oGT g2 rfl (oGT g2 rfl (oPT (.bool true) g2 rfl (en [(1, dL ci64 a1), (2, .box [nI a0.1, dL c25_d a0.2]), (6, nI (List.length a1 : Int)), (19, .bool true)] rfl rfl (ls_cT rfl rfl (ls_rs tbOk (oC nofun rfl (oC nofun rfl (en [(4, nI 0), (5, nI 0)] rfl rfl (ls_ret ?_))))))))))
  cases h
  exact ⟨.inl rfl, rfl⟩
 ·refine oGR g2 rfl (oL1 0 (.agg (c197_dd a0)) rfl (?_))
  obtain ⟨v3, g4, h⟩ := ob_some h
  refine oGR g2 rfl (ev_call (era rfl (erg (erc rfl (erc (erD ec25_d _) rfl))) eran) (impl_IsValidTrie_s g4) (oGR g2 rfl (ev_un (c1 := .bool v3) rfl trivial (oPF (.bool (!v3)) g2 rfl (en [(1, dL ci64 a1), (2, .box [nI a0.1, dL c25_d a0.2]), (6, nI (List.length a1 : Int)), (19, .bool (!v3))] rfl rfl ?_)))))
  rcases cond_some h with ⟨g5, h⟩ | ⟨g5, h⟩
  ·refine ls_cT rfl g5 (ls_rs tbOk (oC nofun rfl (oC nofun rfl (en [(4, nI 0), (5, nI 0)] rfl rfl (ls_ret ?_)))))
   cases h
   exact ⟨.inl rfl, rfl⟩
  ·refine ls_cF rfl g5 (ls_skip (hK1 _ (kp [(1, dL ci64 a1), (2, .box [nI a0.1, dL c25_d a0.2]), (6, nI (List.length a1 : Int))] rfl rfl (ls_rs tbOk (oC nofun rfl (en [(1, dL ci64 a1), (2, .box [nI a0.1, dL c25_d a0.2]), (6, nI (List.length a1 : Int)), (7, nI 0)] rfl rfl (ls_seq_k fun K6 hK6 => ?_)))))))
   obtain ⟨o1, hl, hr1⟩ := ob_some h
   clear h
   have kXimpl_TriePrefixRange_B1 : ∀ (z7 : Int), (obind (loopF (impl_TriePrefixRange_B2 a0 a1) fz z7) fun z17 => some (z7, z17)) = some r → ∀ σ' : PS, okK σ' [(1, dL ci64 a1), (2, .box [nI a0.1, dL c25_d a0.2]), (6, nI (List.length a1 : Int)), (7, nI z7)] → K6 σ' := by
    intro z7 h σ' hk
    refine hK6 _ (ls_keep [(1, dL ci64 a1), (2, .box [nI a0.1, dL c25_d a0.2]), (6, nI (List.length a1 : Int)), (7, nI z7)] hk rfl (ls_rs tbOk (oM (nI z7) rfl (oA (nI z7) rfl (en [(1, dL ci64 a1), (2, .box [nI a0.1, dL c25_d a0.2]), (6, nI (List.length a1 : Int)), (7, nI z7), (8, nI z7)] rfl rfl (ls_seq_k fun K16 hK16 => ?_))))))
    obtain ⟨o2, hl, hr2⟩ := ob_some h
    clear h
    have kXimpl_TriePrefixRange_B2 : ∀ (z17 : Int), (some (z7, z17)) = some r → ∀ σ' : PS, okK σ' [(7, nI z7), (8, nI z17)] → K16 σ' := by
     intro z17 h σ' hk
     refine hK16 _ (ls_keep [(7, nI z7), (8, nI z17)] hk rfl (ls_rs tbOk (oM (nI z7) rfl (oM (nI z17) rfl (oA (nI z7) rfl (oA (nI z17) rfl (en [(4, nI z7), (5, nI z17)] rfl rfl (ls_ret ?_))))))))
     cases h
     exact ⟨.inl rfl, rfl⟩
    refine ls_rec (fun (y2 : Int) => [(1, dL ci64 a1), (2, .box [nI a0.1, dL c25_d a0.2]), (6, nI (List.length a1 : Int)), (7, nI z7), (8, nI y2)]) (impl_TriePrefixRange_B2 a0 a1) fz z7 o2 hl (okr rfl) (fun _ => rfl) ?_
    rintro m y2 N h hN
    unfold impl_TriePrefixRange_B2 at h
    refine ls_seq_k fun K18 hK18 => ls_rs tbOk (oM (nI y2) rfl (oF 2 0 rfl ⟨_, rfl⟩ (oL1 1 (dL c25_d a0.2) rfl (oN (dL c25_d a0.2) rfl (oB (nI y2) (nI (List.length a0.2 : Int)) rfl rfl (oM (.bool (decide (y2 < (List.length a0.2 : Int)))) rfl (?_)))))))
    rcases cond_some h with ⟨g19, h⟩ | ⟨g19, h⟩
    ·refine oGR g19 rfl (oF 2 0 rfl ⟨_, rfl⟩ (oGR g19 rfl (oL1 1 (dL c25_d a0.2) rfl (oGR g19 rfl (oM (nI y2) rfl (?_))))))
     obtain ⟨e20, g21, h⟩ := ob_some h
     refine oGR g19 rfl (ev_ia rfl rfl rfl ⟨(geti_some g21).1, (geti_some g21).2.1⟩ (oGR g19 rfl (oLE y2 1 0 (dL ci64 e20) zc25_d g21 rfl (oGR g19 rfl (oM (nI (List.length a1 : Int)) rfl (?_))))))
     obtain ⟨g22, h⟩ := chk_some h
     refine oGR g19 rfl (ev_sle (lst := e20) rfl rfl zci64 rfl rfl g22 (oGR g19 rfl (oM (dL ci64 a1) rfl (?_))))
     obtain ⟨v23, g24, h⟩ := ob_some h
     refine oGR g19 rfl (ev_call (era rfl (erD eci64 _) (era rfl (erD eci64 _) eran)) (impl_CompareRows_s g24) (oGR g19 rfl (oB (nI v23) (nI 0) rfl rfl (oPT (.bool (v23 == 0)) g19 rfl (en [(1, dL ci64 a1), (2, .box [nI a0.1, dL c25_d a0.2]), (6, nI (List.length a1 : Int)), (7, nI z7), (8, nI y2), (56, .bool (v23 == 0))] rfl rfl ?_)))))
     rcases cond_some h with ⟨g25, h⟩ | ⟨g25, h⟩
     ·exact ls_cT rfl g25 (ls_skip (hK18 _ (kp [(1, dL ci64 a1), (2, .box [nI a0.1, dL c25_d a0.2]), (6, nI (List.length a1 : Int)), (7, nI z7), (8, nI y2)] rfl rfl (ls_blk (ls_rgn tbOk (oM (nI y2) rfl (oB (nI y2) (nI 1) rfl rfl (oA (nI (IntKind.i64.wrap (y2 + 1))) rfl (evn (hN _ (IntKind.i64.wrap (y2 + 1)) h (okr rfl)))))))))))
     ·exact ls_cF rfl g25 (ls_exit (kXimpl_TriePrefixRange_B2 y2 (by cases h; exact hr2) _ (okr rfl)))
    ·exact oGF g19 rfl (oGF g19 rfl (oGF g19 rfl (oGF g19 rfl (oGF g19 rfl (oGF g19 rfl (oGF g19 rfl (oGF g19 rfl (oGF g19 rfl (oGF g19 rfl (oPF (.bool false) g19 rfl (en [(1, dL ci64 a1), (2, .box [nI a0.1, dL c25_d a0.2]), (6, nI (List.length a1 : Int)), (7, nI z7), (8, nI y2), (56, .bool false)] rfl rfl (ls_cF rfl rfl (ls_exit (kXimpl_TriePrefixRange_B2 y2 (by cases h; exact hr2) _ (okr rfl)))))))))))))))
   refine ls_rec (fun (y1 : Int) => [(1, dL ci64 a1), (2, .box [nI a0.1, dL c25_d a0.2]), (6, nI (List.length a1 : Int)), (7, nI y1)]) (impl_TriePrefixRange_B1 a0 a1) fz 0 o1 hl (okr rfl) (fun _ => rfl) ?_
   rintro m y1 N h hN
   unfold impl_TriePrefixRange_B1 at h
   refine ls_seq_k fun K8 hK8 => ls_rs tbOk (oM (nI y1) rfl (oF 2 0 rfl ⟨_, rfl⟩ (oL1 1 (dL c25_d a0.2) rfl (oN (dL c25_d a0.2) rfl (oB (nI y1) (nI (List.length a0.2 : Int)) rfl rfl (oM (.bool (decide (y1 < (List.length a0.2 : Int)))) rfl (?_)))))))
   rcases cond_some h with ⟨g9, h⟩ | ⟨g9, h⟩
   ·refine oGR g9 rfl (oF 2 0 rfl ⟨_, rfl⟩ (oGR g9 rfl (oL1 1 (dL c25_d a0.2) rfl (oGR g9 rfl (oM (nI y1) rfl (?_))))))
    obtain ⟨e10, g11, h⟩ := ob_some h
    refine oGR g9 rfl (ev_ia rfl rfl rfl ⟨(geti_some g11).1, (geti_some g11).2.1⟩ (oGR g9 rfl (oLE y1 1 0 (dL ci64 e10) zc25_d g11 rfl (oGR g9 rfl (oM (nI (List.length a1 : Int)) rfl (?_))))))
    obtain ⟨g12, h⟩ := chk_some h
    refine oGR g9 rfl (ev_sle (lst := e10) rfl rfl zci64 rfl rfl g12 (oGR g9 rfl (oM (dL ci64 a1) rfl (?_))))
    obtain ⟨v13, g14, h⟩ := ob_some h
    refine oGR g9 rfl (ev_call (era rfl (erD eci64 _) (era rfl (erD eci64 _) eran)) (impl_CompareRows_s g14) (oGR g9 rfl (oB (nI v13) (nI 0) rfl rfl (oPT (.bool (decide (v13 < 0))) g9 rfl (en [(1, dL ci64 a1), (2, .box [nI a0.1, dL c25_d a0.2]), (6, nI (List.length a1 : Int)), (7, nI y1), (36, .bool (decide (v13 < 0)))] rfl rfl ?_)))))
    rcases cond_some h with ⟨g15, h⟩ | ⟨g15, h⟩
    ·exact ls_cT rfl g15 (ls_skip (hK8 _ (kp [(1, dL ci64 a1), (2, .box [nI a0.1, dL c25_d a0.2]), (6, nI (List.length a1 : Int)), (7, nI y1)] rfl rfl (ls_blk (ls_rgn tbOk (oM (nI y1) rfl (oB (nI y1) (nI 1) rfl rfl (oA (nI (IntKind.i64.wrap (y1 + 1))) rfl (evn (hN _ (IntKind.i64.wrap (y1 + 1)) h (okr rfl)))))))))))
    ·exact ls_cF rfl g15 (ls_exit (kXimpl_TriePrefixRange_B1 y1 (by cases h; exact hr1) _ (okr rfl)))
   ·exact oGF g9 rfl (oGF g9 rfl (oGF g9 rfl (oGF g9 rfl (oGF g9 rfl (oGF g9 rfl (oGF g9 rfl (oGF g9 rfl (oGF g9 rfl (oGF g9 rfl (oPF (.bool false) g9 rfl (en [(1, dL ci64 a1), (2, .box [nI a0.1, dL c25_d a0.2]), (6, nI (List.length a1 : Int)), (7, nI y1), (36, .bool false)] rfl rfl (ls_cF rfl rfl (ls_exit (kXimpl_TriePrefixRange_B1 y1 (by cases h; exact hr1) _ (okr rfl)))))))))))))))
def impl_TrieChildren_J3 (rec : ((List Int) × Int) → Option ((List Int))) (y2 : Int) (x18 : List Int) : Option ((List Int)) := rec (x18, (IntKind.i64.wrap (y2 + 1)))
def impl_TrieChildren_J2 (rec : ((List Int) × Int) → Option ((List Int))) (a1 : List Int) (y1 : List Int) (y2 : Int) (e14 : List Int) (x17 : Bool) : Option ((List Int)) := cond x17 (obind (geti e14 (List.length a1 : Int)) fun e20 => chk (List.length y1 + List.length [e20] ≤ lim) (impl_TrieChildren_J3 rec y2 (y1 ++ [e20]))) (impl_TrieChildren_J3 rec y2 y1)
def impl_TrieChildren_B1 (a0 : Y127) (a1 : List Int) (v6 : Int × Int) (rec : ((List Int) × Int) → Option ((List Int))) (s : (List Int) × Int) : Option ((List Int)) := match s with
  | (y1, y2) => cond (decide (y2 < (List.length (subl a0.2 v6.1 v6.2) : Int))) (obind (geti (subl a0.2 v6.1 v6.2) y2) fun e14 => cond ((List.length y1 : Int) == 0) (impl_TrieChildren_J2 rec a1 y1 y2 e14 true) (obind (geti y1 (IntKind.i64.wrap ((List.length y1 : Int) - 1))) fun e24 => obind (geti e14 (List.length a1 : Int)) fun e26 => impl_TrieChildren_J2 rec a1 y1 y2 e14 (e24 != e26))) (some y1)
def impl_TrieChildren (a0 : Y127) (a1 : List Int) : Option ((List Int)) := cond (decide (a0.1 ≤ (List.length a1 : Int))) (some ([] : List Int)) (obind (impl_IsValidTrie a0) fun v3 => cond (!v3) (some ([] : List Int)) (obind (impl_TriePrefixRange a0 a1) fun v6 => chk ((0 : Int) ≤ v6.1 ∧ v6.1 ≤ v6.2 ∧ v6.2 ≤ (List.length a0.2 : Int)) (obind (loopF (impl_TrieChildren_B1 a0 a1 v6) fz (([] : List Int), 0)) fun z10 => some z10)))
theorem impl_TrieChildren_s {a0 : Y127} {a1 : List Int} {r : (List Int)} (h : impl_TrieChildren a0 a1 = some r) : SoundAt Try.prog 163 [.agg (c197_dd a0), dL ci64 a1] (oL 3 ci64 r) := by
 unfold impl_TrieChildren at h
 refine sound_lit tbOk lit163 (nb rfl) rfl ?_
 unfold c163
 refine kp [(0, .agg (c197_dd a0)), (1, dL ci64 a1)] rfl rfl (ls_rs tbOk (oX (.agg (c197_dd a0)) rfl (ev_an rfl rfl (en [(1, dL ci64 a1), (2, .box [nI a0.1, dL c25_d a0.2])] rfl rfl (ls_rs tbOk (oM (dL ci64 a1) rfl (oN (dL ci64 a1) rfl (oA (nI (List.length a1 : Int)) rfl (en [(1, dL ci64 a1), (2, .box [nI a0.1, dL c25_d a0.2]), (5, nI (List.length a1 : Int))] rfl rfl (ls_seq_k fun K1 hK1 => ls_rs tbOk (oM (nI (List.length a1 : Int)) rfl (oF 2 0 rfl ⟨_, rfl⟩ (oL1 0 (nI a0.1) rfl (oB (nI (List.length a1 : Int)) (nI a0.1) rfl rfl (oM (.bool (decide (a0.1 ≤ (List.length a1 : Int)))) rfl (?_))))))))))))))))
 rcases cond_some h with ⟨g2, h⟩ | ⟨g2, h⟩
 ·refine oGT g2 rfl (oGT g2 rfl (oGT g2 rfl (oPT (.bool true) g2 rfl (en [(1, dL ci64 a1), (2, .box [nI a0.1, dL c25_d a0.2]), (5, nI (List.length a1 : Int)), (21, .bool true)] rfl rfl (ls_cT rfl rfl (ls_rs tbOk (ev_an rfl rfl (en [(4, oL 3 ci64 [])] rfl rfl (ls_ret ?_)))))))))
  cases h
  exact ⟨.inl rfl, rfl⟩
 ·refine oGR g2 rfl (oL1 0 (.agg (c197_dd a0)) rfl (?_))
  obtain ⟨v3, g4, h⟩ := ob_some h
  refine oGR g2 rfl (ev_call (era rfl (erg (erc rfl (erc (erD ec25_d _) rfl))) eran) (impl_IsValidTrie_s g4) (oGR g2 rfl (ev_un (c1 := .bool v3) rfl trivial (oPF (.bool (!v3)) g2 rfl (en [(1, dL ci64 a1), (2, .box [nI a0.1, dL c25_d a0.2]), (5, nI (List.length a1 : Int)), (21, .bool (!v3))] rfl rfl ?_)))))
  rcases cond_some h with ⟨g5, h⟩ | ⟨g5, h⟩
  ·refine ls_cT rfl g5 (ls_rs tbOk (ev_an rfl rfl (en [(4, oL 3 ci64 [])] rfl rfl (ls_ret ?_))))
   cases h
   exact ⟨.inl rfl, rfl⟩
  ·refine ls_cF rfl g5 (ls_skip (hK1 _ (kp [(1, dL ci64 a1), (2, .box [nI a0.1, dL c25_d a0.2]), (5, nI (List.length a1 : Int))] rfl rfl (ls_rs tbOk (ev_an rfl rfl (en [(1, dL ci64 a1), (2, .box [nI a0.1, dL c25_d a0.2]), (5, nI (List.length a1 : Int)), (6, oL 3 ci64 [])] rfl rfl (ls_rs tbOk (oL1 0 (.agg (c197_dd a0)) rfl (oM (dL ci64 a1) rfl (?_))))))))))
   obtain ⟨v6, g7, h⟩ := ob_some h
   refine ev_call (era rfl (erg (erc rfl (erc (erD ec25_d _) rfl))) (era rfl (erD eci64 _) eran)) (impl_TriePrefixRange_s g7) (oM (.tup [nI v6.1, nI v6.2]) rfl (ev_ext rfl rfl rfl rfl (ev_ext rfl rfl rfl rfl (oA (nI v6.1) rfl (oA (nI v6.2) rfl (en [(2, .box [nI a0.1, dL c25_d a0.2]), (5, nI (List.length a1 : Int)), (6, oL 3 ci64 []), (7, nI v6.1), (8, nI v6.2)] rfl rfl (ls_seq_k fun K8 hK8 => ls_rs tbOk (oF 2 0 rfl ⟨_, rfl⟩ (oL1 1 (dL c25_d a0.2) rfl (oM (nI v6.1) rfl (oM (nI v6.2) rfl (?_))))))))))))
   obtain ⟨g9, h⟩ := chk_some h
   refine ev_sle (lst := a0.2) rfl rfl zc25_d rfl rfl g9 (oN (dL c25_d (subl a0.2 v6.1 v6.2)) rfl (ev_mc rfl rfl (en [(5, nI (List.length a1 : Int)), (6, oL 3 ci64 []), (32, dL c25_d (subl a0.2 v6.1 v6.2)), (33, nI (List.length (subl a0.2 v6.1 v6.2) : Int)), (34, nI 0)] rfl rfl ?_)))
   obtain ⟨o1, hl, hr1⟩ := ob_some h
   clear h
   have kXimpl_TrieChildren_B1 : ∀ (z10 : List Int), (some z10) = some r → ∀ σ' : PS, okK σ' [(6, oL 3 ci64 z10)] → K8 σ' := by
    intro z10 h σ' hk
    refine hK8 _ (ls_keep [(6, oL 3 ci64 z10)] hk rfl (ls_rs tbOk (oT (oL 3 ci64 z10) rfl (oA (oL 3 ci64 z10) rfl (en [(4, oL 3 ci64 z10)] rfl rfl (ls_ret ?_))))))
    cases h
    exact ⟨.inl rfl, rfl⟩
   refine ls_rec (fun (s : (List Int) × Int) => match s with | (y1, y2) => [(5, nI (List.length a1 : Int)), (6, oL 3 ci64 y1), (32, dL c25_d (subl a0.2 v6.1 v6.2)), (33, nI (List.length (subl a0.2 v6.1 v6.2) : Int)), (34, nI y2)]) (impl_TrieChildren_B1 a0 a1 v6) fz (([] : List Int), 0) o1 hl (okr rfl) (fun _ => rfl) ?_
   rintro m ⟨y1, y2⟩ N h hN
   unfold impl_TrieChildren_B1 at h
   dsimp only at h
   refine ls_rs tbOk (oB (nI y2) (nI (List.length (subl a0.2 v6.1 v6.2) : Int)) rfl rfl (en [(5, nI (List.length a1 : Int)), (6, oL 3 ci64 y1), (32, dL c25_d (subl a0.2 v6.1 v6.2)), (33, nI (List.length (subl a0.2 v6.1 v6.2) : Int)), (34, nI y2), (35, .bool (decide (y2 < (List.length (subl a0.2 v6.1 v6.2) : Int))))] rfl rfl (ls_seq_k fun K11 hK11 => ?_)))
   rcases cond_some h with ⟨g12, h⟩ | ⟨g12, h⟩
   ·refine ls_cT rfl g12 (ls_skip (hK11 _ (kp [(5, nI (List.length a1 : Int)), (6, oL 3 ci64 y1), (32, dL c25_d (subl a0.2 v6.1 v6.2)), (33, nI (List.length (subl a0.2 v6.1 v6.2) : Int)), (34, nI y2)] rfl rfl (ls_seq_k fun K13 hK13 => ls_blk (ls_rs tbOk ?_)))))
    obtain ⟨e14, g15, h⟩ := ob_some h
    refine ev_ia rfl rfl rfl ⟨(geti_some g15).1, (geti_some g15).2.1⟩ (ev_ldEt (i := y2) (n := 1) (off := 0) (v := dL ci64 e14) rfl rfl zc25_d g15 rfl (nb rfl) rfl (oA (dL ci64 e14) rfl (en [(5, nI (List.length a1 : Int)), (6, oL 3 ci64 y1), (10, dL ci64 e14), (32, dL c25_d (subl a0.2 v6.1 v6.2)), (33, nI (List.length (subl a0.2 v6.1 v6.2) : Int)), (34, nI y2)] rfl rfl (ls_rd_k tbOk mixed (by kernel_rfl) fun K16 hK16 => ?_))))
    have kimpl_TrieChildren_J2 : ∀ (x17 : Bool), impl_TrieChildren_J2 (loopF (impl_TrieChildren_B1 a0 a1 v6) m) a1 y1 y2 e14 x17 = some o1 → ∀ σ' : PS, okK σ' [(5, nI (List.length a1 : Int)), (6, oL 3 ci64 y1), (10, dL ci64 e14), (32, dL c25_d (subl a0.2 v6.1 v6.2)), (33, nI (List.length (subl a0.2 v6.1 v6.2) : Int)), (34, nI y2), (53, .bool x17)] → K16 σ' := by
     intro x17 h σ' hk
     unfold impl_TrieChildren_J2 at h
     refine hK16 _ (ls_keep [(5, nI (List.length a1 : Int)), (6, oL 3 ci64 y1), (10, dL ci64 e14), (32, dL c25_d (subl a0.2 v6.1 v6.2)), (33, nI (List.length (subl a0.2 v6.1 v6.2) : Int)), (34, nI y2), (53, .bool x17)] hk rfl ?_)
     have kimpl_TrieChildren_J3 : ∀ (x18 : List Int), impl_TrieChildren_J3 (loopF (impl_TrieChildren_B1 a0 a1 v6) m) y2 x18 = some o1 → ∀ σ' : PS, okK σ' [(5, nI (List.length a1 : Int)), (6, oL 3 ci64 x18), (32, dL c25_d (subl a0.2 v6.1 v6.2)), (33, nI (List.length (subl a0.2 v6.1 v6.2) : Int)), (34, nI y2)] → K13 σ' := by
      intro x18 h σ' hk
      unfold impl_TrieChildren_J3 at h
      exact hK13 _ (ls_keep [(5, nI (List.length a1 : Int)), (6, oL 3 ci64 x18), (32, dL c25_d (subl a0.2 v6.1 v6.2)), (33, nI (List.length (subl a0.2 v6.1 v6.2) : Int)), (34, nI y2)] hk rfl (ls_rgn tbOk (oB (nI y2) (nI 1) rfl rfl (oM (nI (IntKind.i64.wrap (y2 + 1))) rfl (evn (hN _ (x18, (IntKind.i64.wrap (y2 + 1))) h (okr rfl)))))))
     rcases cond_some h with ⟨g19, h⟩ | ⟨g19, h⟩
     ·refine ls_cT rfl g19 (ls_rgn tbOk (oT (oL 3 ci64 y1) rfl (oM (dL ci64 e14) rfl (oM (nI (List.length a1 : Int)) rfl (?_)))))
      obtain ⟨e20, g21, h⟩ := ob_some h
      refine ev_ia rfl rfl rfl ⟨(geti_some g21).1, (geti_some g21).2.1⟩ (oLE (List.length a1 : Int) 1 0 (nI e20) zci64 g21 rfl (ev_bs [nI e20] (cs := [nI e20]) rfl ⟨rfl, trivial⟩ rfl (nb rfl) rfl (?_)))
      obtain ⟨g22, h⟩ := chk_some h
      exact ev_app (f := ci64) (l := y1) (m := [e20]) (c2 := oL 3 ci64 [e20]) rfl rfl rfl (flat_len zci64 [e20]) rfl rfl g22 rfl (oA (oL 3 ci64 (y1 ++ [e20])) rfl (evn (kimpl_TrieChildren_J3 (y1 ++ [e20]) h _ (okr rfl))))
     ·exact ls_cF rfl g19 (ls_skip (kimpl_TrieChildren_J3 y1 h _ (okr rfl)))
    refine ed rfl (oM (oL 3 ci64 y1) rfl (ed rfl (oN (dL ci64 y1) rfl (ed rfl (oB (nI (List.length y1 : Int)) (nI 0) rfl rfl (ed rfl (oM (.bool ((List.length y1 : Int) == 0)) rfl (?_))))))))
    rcases cond_some h with ⟨g23, h⟩ | ⟨g23, h⟩
    ·exact ed rfl (oGT g23 rfl (ed rfl (oGT g23 rfl (ed rfl (oGT g23 rfl (ed rfl (oGT g23 rfl (ed rfl (oGT g23 rfl (ed rfl (oGT g23 rfl (ed rfl (oGT g23 rfl (ed rfl (oGT g23 rfl (ed rfl (oGT g23 rfl (ed rfl (oGT g23 rfl (ed rfl (oGT g23 rfl (ed rfl (oPT (.bool true) g23 rfl (evdn (kimpl_TrieChildren_J2 true h _ (okr rfl))))))))))))))))))))))))))
    ·refine ed rfl (oGR g23 rfl (oM (oL 3 ci64 y1) rfl (ed rfl (oGR g23 rfl (oM (oL 3 ci64 y1) rfl (ed rfl (oGR g23 rfl (oN (dL ci64 y1) rfl (ed rfl (oGR g23 rfl (oB (nI (List.length y1 : Int)) (nI 1) rfl rfl (?_))))))))))))
     obtain ⟨e24, g25, h⟩ := ob_some h
     refine ed rfl (oGR g23 rfl (ev_ia rfl rfl rfl ⟨(geti_some g25).1, (geti_some g25).2.1⟩ (ed rfl (oGR g23 rfl (oLE (IntKind.i64.wrap ((List.length y1 : Int) - 1)) 1 0 (nI e24) zci64 g25 rfl (ed rfl (oGR g23 rfl (oM (dL ci64 e14) rfl (ed rfl (oGR g23 rfl (oM (nI (List.length a1 : Int)) rfl (?_))))))))))))
     obtain ⟨e26, g27, h⟩ := ob_some h
     exact ed rfl (oGR g23 rfl (ev_ia rfl rfl rfl ⟨(geti_some g27).1, (geti_some g27).2.1⟩ (ed rfl (oGR g23 rfl (oLE (List.length a1 : Int) 1 0 (nI e26) zci64 g27 rfl (ed rfl (oGR g23 rfl (oB (nI e24) (nI e26) rfl rfl (ed rfl (oPF (.bool (e24 != e26)) g23 rfl (evdn (kimpl_TrieChildren_J2 (e24 != e26) h _ (okr rfl)))))))))))))
   ·exact ls_cF rfl g12 (ls_exit (kXimpl_TrieChildren_B1 y1 (by cases h; exact hr1) _ (okr rfl)))
def impl_DegreeBound_B3 (v1 : (List Y127) × Bool) (e19 : Int) (v26 : (List Int)) (e29 : Y127) (rec : (Int × Int) → Option (Int)) (s : Int × Int) : Option (Int) := match s with
  | (y25, y26) => cond (decide (y26 < (List.length e29.2 : Int))) (obind (geti e29.2 y26) fun e35 => obind (geti v1.1 e19) fun e37 => chk ((0 : Int) ≤ 0 ∧ 0 ≤ (List.length v26 : Int) ∧ (List.length v26 : Int) ≤ (List.length e35 : Int)) (obind (impl_TrieChildren e37 (subl e35 0 (List.length v26 : Int))) fun v40 => rec ((if y25 < (List.length v40 : Int) then (List.length v40 : Int) else y25), (IntKind.i64.wrap (y26 + 1))))) (some y25)
def impl_DegreeBound_J5 (rec : (Int × Int) → Option (Int)) (y22 : Int) (x44 : Int) : Option (Int) := rec (x44, (IntKind.i64.wrap (y22 + 1)))
def impl_DegreeBound_J4 (rec : (Int × Int) → Option (Int)) (y21 : Int) (y22 : Int) (z31 : Int) (x43 : Bool) : Option (Int) := cond x43 (impl_DegreeBound_J5 rec y22 z31) (impl_DegreeBound_J5 rec y22 y21)
def impl_DegreeBound_B2 (a1 : Y91) (a2 : List Int) (v1 : (List Y127) × Bool) (y10 : Int) (v13 : (List Int)) (rec : (Int × Int) → Option (Int)) (s : Int × Int) : Option (Int) := match s with
  | (y21, y22) => cond (decide (y22 < (List.length v13 : Int))) (obind (geti v13 y22) fun e19 => chk ((0 : Int) ≤ 0 ∧ 0 ≤ y10 ∧ y10 ≤ (List.length a2 : Int)) (obind (geti a1.2.1 e19) fun e22 => obind (impl_AtomVariables e22) fun v24 => obind (impl_common (subl a2 0 y10) v24) fun v26 => obind (geti v1.1 e19) fun e29 => obind (loopF (impl_DegreeBound_B3 v1 e19 v26 e29) fz (0, 0)) fun z31 => cond (decide (y21 < 0)) (impl_DegreeBound_J4 rec y21 y22 z31 true) (impl_DegreeBound_J4 rec y21 y22 z31 (decide (z31 < y21))))) (some y21)
def impl_DegreeBound_B1 (a1 : Y91) (a2 : List Int) (v1 : (List Y127) × Bool) (rec : (Int × Int) → Option (Int)) (s : Int × Int) : Option (Int) := match s with
  | (y9, y10) => cond (decide (y10 < (List.length a2 : Int))) (obind (geti a2 y10) fun e10 => obind (impl_AtomsWithVariable a1 e10) fun v13 => obind (loopF (impl_DegreeBound_B2 a1 a2 v1 y10 v13) fz ((-1), 0)) fun z15 => rec ((if (IntKind.i64.wrap (y9 * z15)) < 1000000000 then (IntKind.i64.wrap (y9 * z15)) else 1000000000), (IntKind.i64.wrap (y10 + 1)))) (some y9)
def impl_DegreeBound (a0 : List Y207) (a1 : Y91) (a2 : List Int) : Option (Int × Bool) := obind (impl_BuildTries a0 a1 a2) fun v1 => cond (!v1.2) (some (0, false)) (obind (loopF (impl_DegreeBound_B1 a1 a2 v1) fz (1, 0)) fun z6 => some (z6, true))
theorem impl_DegreeBound_s {a0 : List Y207} {a1 : Y91} {a2 : List Int} {r : Int × Bool} (h : impl_DegreeBound a0 a1 a2 = some r) : SoundAt Try.prog 65 [.agg [dL c208_dd a0], .agg (c92_ddd a1), dL ci64 a2] (.tup [nI r.1, .bool r.2]) := by
 unfold impl_DegreeBound at h
 refine sound_lit tbOk lit65 (nb rfl) rfl ?_
 unfold c65
 refine kp [(0, .agg [dL c208_dd a0]), (1, .agg (c92_ddd a1)), (2, dL ci64 a2)] rfl rfl (ls_rs tbOk (oX (.agg [dL c208_dd a0]) rfl (oX (.agg (c92_ddd a1)) rfl (oC nofun rfl (oC nofun rfl (en [(2, dL ci64 a2), (3, .box [dL c208_dd a0]), (4, .box [nI a1.1, dL c195_d a1.2.1, dL ci64 a1.2.2])] rfl rfl (ls_rs tbOk (oL1 0 (.agg [dL c208_dd a0]) rfl (oL1 0 (.agg (c92_ddd a1)) rfl (oM (dL ci64 a2) rfl (?_)))))))))))
 obtain ⟨v1, g2, h⟩ := ob_some h
 refine ev_call (era rfl (erg (erc (erD ec208_dd _) rfl)) (era rfl (erg (erc rfl (erc (erD ec195_d _) (erc (erD eci64 _) rfl)))) (era rfl (erD eci64 _) eran))) (impl_BuildTries_s g2) (oT (.tup [oL 197 c197_oo v1.1, .bool v1.2]) rfl (ev_ext rfl rfl rfl rfl (ev_ext rfl rfl rfl rfl (oA (oL 197 c197_oo v1.1) rfl (oA (.bool v1.2) rfl (en [(2, dL ci64 a2), (4, .box [nI a1.1, dL c195_d a1.2.1, dL ci64 a1.2.2]), (8, oL 197 c197_oo v1.1), (9, .bool v1.2)] rfl rfl (ls_seq_k fun K3 hK3 => ls_rs tbOk (oM (.bool v1.2) rfl (ev_un (c1 := .bool v1.2) rfl trivial (en [(2, dL ci64 a2), (4, .box [nI a1.1, dL c195_d a1.2.1, dL ci64 a1.2.2]), (8, oL 197 c197_oo v1.1), (28, .bool (!v1.2))] rfl rfl ?_))))))))))
 rcases cond_some h with ⟨g4, h⟩ | ⟨g4, h⟩
 ·refine ls_cT rfl g4 (ls_rs tbOk (oC nofun rfl (oC nofun rfl (en [(6, nI 0), (7, .bool false)] rfl rfl (ls_ret ?_)))))
  cases h
  exact ⟨.inl rfl, rfl⟩
 ·refine ls_cF rfl g4 (ls_skip (hK3 _ (kp [(2, dL ci64 a2), (4, .box [nI a1.1, dL c195_d a1.2.1, dL ci64 a1.2.2]), (8, oL 197 c197_oo v1.1)] rfl rfl (ls_rs tbOk (oC nofun rfl (en [(2, dL ci64 a2), (4, .box [nI a1.1, dL c195_d a1.2.1, dL ci64 a1.2.2]), (8, oL 197 c197_oo v1.1), (10, nI 1)] rfl rfl (ls_seq_k fun K5 hK5 => ls_rs tbOk (oM (dL ci64 a2) rfl (oN (dL ci64 a2) rfl (ev_mc rfl rfl (en [(2, dL ci64 a2), (4, .box [nI a1.1, dL c195_d a1.2.1, dL ci64 a1.2.2]), (8, oL 197 c197_oo v1.1), (10, nI 1), (29, dL ci64 a2), (30, nI (List.length a2 : Int)), (31, nI 0)] rfl rfl ?_)))))))))))
  obtain ⟨o1, hl, hr1⟩ := ob_some h
  clear h
  have kXimpl_DegreeBound_B1 : ∀ (z6 : Int), (some (z6, true)) = some r → ∀ σ' : PS, okK σ' [(10, nI z6)] → K5 σ' := by
   intro z6 h σ' hk
   refine hK5 _ (ls_keep [(10, nI z6)] hk rfl (ls_rs tbOk (oM (nI z6) rfl (oA (nI z6) rfl (oC nofun rfl (en [(6, nI z6), (7, .bool true)] rfl rfl (ls_ret ?_)))))))
   cases h
   exact ⟨.inl rfl, rfl⟩
  refine ls_rec (fun (s : Int × Int) => match s with | (y9, y10) => [(2, dL ci64 a2), (4, .box [nI a1.1, dL c195_d a1.2.1, dL ci64 a1.2.2]), (8, oL 197 c197_oo v1.1), (10, nI y9), (29, dL ci64 a2), (30, nI (List.length a2 : Int)), (31, nI y10)]) (impl_DegreeBound_B1 a1 a2 v1) fz (1, 0) o1 hl (okr rfl) (fun _ => rfl) ?_
  rintro m ⟨y9, y10⟩ N h hN
  unfold impl_DegreeBound_B1 at h
  dsimp only at h
  refine ls_rs tbOk (oB (nI y10) (nI (List.length a2 : Int)) rfl rfl (en [(2, dL ci64 a2), (4, .box [nI a1.1, dL c195_d a1.2.1, dL ci64 a1.2.2]), (8, oL 197 c197_oo v1.1), (10, nI y9), (29, dL ci64 a2), (30, nI (List.length a2 : Int)), (31, nI y10), (32, .bool (decide (y10 < (List.length a2 : Int))))] rfl rfl (ls_seq_k fun K7 hK7 => ?_)))
  rcases cond_some h with ⟨g8, h⟩ | ⟨g8, h⟩
  ·refine ls_cT rfl g8 (ls_skip (hK7 _ (kp [(2, dL ci64 a2), (4, .box [nI a1.1, dL c195_d a1.2.1, dL ci64 a1.2.2]), (8, oL 197 c197_oo v1.1), (10, nI y9), (29, dL ci64 a2), (30, nI (List.length a2 : Int)), (31, nI y10)] rfl rfl (ls_seq_k fun K9 hK9 => ls_blk (ls_rs tbOk (oM (nI y10) rfl (?_)))))))
   obtain ⟨e10, g11, h⟩ := ob_some h
   refine ev_ia rfl rfl rfl ⟨(geti_some g11).1, (geti_some g11).2.1⟩ (oLE y10 1 0 (nI e10) zci64 g11 rfl (oA (nI y10) rfl (oA (nI e10) rfl (en [(2, dL ci64 a2), (4, .box [nI a1.1, dL c195_d a1.2.1, dL ci64 a1.2.2]), (8, oL 197 c197_oo v1.1), (10, nI y9), (11, nI y10), (12, nI e10), (29, dL ci64 a2), (30, nI (List.length a2 : Int)), (31, nI y10)] rfl rfl (ls_rs tbOk (oC nofun rfl (en [(2, dL ci64 a2), (4, .box [nI a1.1, dL c195_d a1.2.1, dL ci64 a1.2.2]), (8, oL 197 c197_oo v1.1), (10, nI y9), (11, nI y10), (12, nI e10), (13, nI (-1)), (29, dL ci64 a2), (30, nI (List.length a2 : Int)), (31, nI y10)] rfl rfl (ls_seq_k fun K12 hK12 => ls_rs tbOk (oL1 0 (.agg (c92_ddd a1)) rfl (oM (nI e10) rfl (?_)))))))))))
   obtain ⟨v13, g14, h⟩ := ob_some h
   refine ev_call (era rfl (erg (erc rfl (erc (erD ec195_d _) (erc (erD eci64 _) rfl)))) (era rfl rfl eran)) (impl_AtomsWithVariable_s g14) (oN (oL 3 ci64 v13) rfl (ev_mc rfl rfl (en [(2, dL ci64 a2), (4, .box [nI a1.1, dL c195_d a1.2.1, dL ci64 a1.2.2]), (8, oL 197 c197_oo v1.1), (10, nI y9), (11, nI y10), (13, nI (-1)), (29, dL ci64 a2), (30, nI (List.length a2 : Int)), (31, nI y10), (38, oL 3 ci64 v13), (39, nI (List.length v13 : Int)), (40, nI 0)] rfl rfl ?_)))
   obtain ⟨o2, hl, hr2⟩ := ob_some h
   clear h
   have kXimpl_DegreeBound_B2 : ∀ (z15 : Int), ((loopF (impl_DegreeBound_B1 a1 a2 v1) m) ((if (IntKind.i64.wrap (y9 * z15)) < 1000000000 then (IntKind.i64.wrap (y9 * z15)) else 1000000000), (IntKind.i64.wrap (y10 + 1)))) = some o1 → ∀ σ' : PS, okK σ' [(2, dL ci64 a2), (4, .box [nI a1.1, dL c195_d a1.2.1, dL ci64 a1.2.2]), (8, oL 197 c197_oo v1.1), (10, nI y9), (13, nI z15), (29, dL ci64 a2), (30, nI (List.length a2 : Int)), (31, nI y10)] → K12 σ' := by
    intro z15 h σ' hk
    exact hK12 _ (ls_keep [(2, dL ci64 a2), (4, .box [nI a1.1, dL c195_d a1.2.1, dL ci64 a1.2.2]), (8, oL 197 c197_oo v1.1), (10, nI y9), (13, nI z15), (29, dL ci64 a2), (30, nI (List.length a2 : Int)), (31, nI y10)] hk rfl (ls_rgn tbOk (oM (nI y9) rfl (oM (nI z15) rfl (oB (nI y9) (nI z15) rfl rfl (ev_min rfl rfl (oA (nI (if (IntKind.i64.wrap (y9 * z15)) < 1000000000 then (IntKind.i64.wrap (y9 * z15)) else 1000000000)) rfl (evn (hK9 _ (kp [(2, dL ci64 a2), (4, .box [nI a1.1, dL c195_d a1.2.1, dL ci64 a1.2.2]), (8, oL 197 c197_oo v1.1), (10, nI (if (IntKind.i64.wrap (y9 * z15)) < 1000000000 then (IntKind.i64.wrap (y9 * z15)) else 1000000000)), (29, dL ci64 a2), (30, nI (List.length a2 : Int)), (31, nI y10)] rfl rfl (ls_rgn tbOk (oB (nI y10) (nI 1) rfl rfl (oM (nI (IntKind.i64.wrap (y10 + 1))) rfl (evn (hN _ ((if (IntKind.i64.wrap (y9 * z15)) < 1000000000 then (IntKind.i64.wrap (y9 * z15)) else 1000000000), (IntKind.i64.wrap (y10 + 1))) h (okr rfl))))))))))))))))
   refine ls_rec (fun (s : Int × Int) => match s with | (y21, y22) => [(2, dL ci64 a2), (4, .box [nI a1.1, dL c195_d a1.2.1, dL ci64 a1.2.2]), (8, oL 197 c197_oo v1.1), (10, nI y9), (11, nI y10), (13, nI y21), (29, dL ci64 a2), (30, nI (List.length a2 : Int)), (31, nI y10), (38, oL 3 ci64 v13), (39, nI (List.length v13 : Int)), (40, nI y22)]) (impl_DegreeBound_B2 a1 a2 v1 y10 v13) fz ((-1), 0) o2 hl (okr rfl) (fun _ => rfl) ?_
   rintro m ⟨y21, y22⟩ N h hN
   unfold impl_DegreeBound_B2 at h
   dsimp only at h
   refine ls_rs tbOk (oB (nI y22) (nI (List.length v13 : Int)) rfl rfl (en [(2, dL ci64 a2), (4, .box [nI a1.1, dL c195_d a1.2.1, dL ci64 a1.2.2]), (8, oL 197 c197_oo v1.1), (10, nI y9), (11, nI y10), (13, nI y21), (29, dL ci64 a2), (30, nI (List.length a2 : Int)), (31, nI y10), (38, oL 3 ci64 v13), (39, nI (List.length v13 : Int)), (40, nI y22), (41, .bool (decide (y22 < (List.length v13 : Int))))] rfl rfl (ls_seq_k fun K16 hK16 => ?_)))
   rcases cond_some h with ⟨g17, h⟩ | ⟨g17, h⟩
   ·refine ls_cT rfl g17 (ls_skip (hK16 _ (kp [(2, dL ci64 a2), (4, .box [nI a1.1, dL c195_d a1.2.1, dL ci64 a1.2.2]), (8, oL 197 c197_oo v1.1), (10, nI y9), (11, nI y10), (13, nI y21), (29, dL ci64 a2), (30, nI (List.length a2 : Int)), (31, nI y10), (38, oL 3 ci64 v13), (39, nI (List.length v13 : Int)), (40, nI y22)] rfl rfl (ls_seq_k fun K18 hK18 => ls_blk (ls_rs tbOk ?_)))))
    obtain ⟨e19, g20, h⟩ := ob_some h
    refine ev_ia rfl rfl rfl ⟨(geti_some g20).1, (geti_some g20).2.1⟩ (oLE y22 1 0 (nI e19) zci64 g20 rfl (oA (nI e19) rfl (en [(2, dL ci64 a2), (4, .box [nI a1.1, dL c195_d a1.2.1, dL ci64 a1.2.2]), (8, oL 197 c197_oo v1.1), (10, nI y9), (11, nI y10), (13, nI y21), (15, nI e19), (29, dL ci64 a2), (30, nI (List.length a2 : Int)), (31, nI y10), (38, oL 3 ci64 v13), (39, nI (List.length v13 : Int)), (40, nI y22)] rfl rfl (ls_rd tbOk mixed (by kernel_rfl) (ed rfl (oM (dL ci64 a2) rfl (ed rfl (oM (nI y10) rfl (?_)))))))))
    obtain ⟨g21, h⟩ := chk_some h
    refine ed rfl (ev_sle (lst := a2) rfl rfl zci64 rfl rfl g21 (ed rfl (oF 4 0 rfl ⟨_, rfl⟩ (ed rfl (oL1 1 (dL c195_d a1.2.1) rfl (ed rfl (oM (nI e19) rfl (?_))))))))
    obtain ⟨e22, g23, h⟩ := ob_some h
    refine ed rfl (ev_ia rfl rfl rfl ⟨(geti_some g23).1, (geti_some g23).2.1⟩ (ed rfl (oLE e19 2 0 (.agg (c195_d e22)) zc195_d g23 rfl (?_))))
    obtain ⟨v24, g25, h⟩ := ob_some h
    refine ed rfl (ev_call (era rfl (erg (erc rfl (erc (erD eci64 _) rfl))) eran) (impl_AtomVariables_s g25) (?_))
    obtain ⟨v26, g27, h⟩ := ob_some h
    refine ed rfl (ev_call (era rfl (erD eci64 _) (era rfl (erO eci64 _) eran)) (impl_common_s g27) (ed rfl (oN (oL 3 ci64 v26) rfl (ed rfl (oA (nI (List.length v26 : Int)) rfl (evdn (kp [(2, dL ci64 a2), (4, .box [nI a1.1, dL c195_d a1.2.1, dL ci64 a1.2.2]), (8, oL 197 c197_oo v1.1), (10, nI y9), (11, nI y10), (13, nI y21), (15, nI e19), (16, nI (List.length v26 : Int)), (29, dL ci64 a2), (30, nI (List.length a2 : Int)), (31, nI y10), (38, oL 3 ci64 v13), (39, nI (List.length v13 : Int)), (40, nI y22)] rfl rfl (ls_rs tbOk (oC nofun rfl (en [(2, dL ci64 a2), (4, .box [nI a1.1, dL c195_d a1.2.1, dL ci64 a1.2.2]), (8, oL 197 c197_oo v1.1), (10, nI y9), (11, nI y10), (13, nI y21), (15, nI e19), (16, nI (List.length v26 : Int)), (17, nI 0), (29, dL ci64 a2), (30, nI (List.length a2 : Int)), (31, nI y10), (38, oL 3 ci64 v13), (39, nI (List.length v13 : Int)), (40, nI y22)] rfl rfl (ls_seq_k fun K28 hK28 => ls_rs tbOk (oM (oL 197 c197_oo v1.1) rfl (oM (nI e19) rfl (?_))))))))))))))
    obtain ⟨e29, g30, h⟩ := ob_some h
    refine ev_ia rfl rfl rfl ⟨(geti_some g30).1, (geti_some g30).2.1⟩ (ev_fa (c1 := .adr (v1.1.flatMap c197_oo) (Int.toNat e19 * 2)) (v := .adr (v1.1.flatMap c197_oo) (Int.toNat e19 * 2 + 1)) rfl rfl rfl trivial rfl (oLE e19 2 1 (dL c25_o e29.2) zc197_oo g30 rfl (oN (dL c25_o e29.2) rfl (ev_mc rfl rfl (en [(2, dL ci64 a2), (4, .box [nI a1.1, dL c195_d a1.2.1, dL ci64 a1.2.2]), (8, oL 197 c197_oo v1.1), (10, nI y9), (11, nI y10), (13, nI y21), (15, nI e19), (16, nI (List.length v26 : Int)), (17, nI 0), (29, dL ci64 a2), (30, nI (List.length a2 : Int)), (31, nI y10), (38, oL 3 ci64 v13), (39, nI (List.length v13 : Int)), (40, nI y22), (59, dL c25_o e29.2), (60, nI (List.length e29.2 : Int)), (61, nI 0)] rfl rfl ?_)))))
    obtain ⟨o3, hl, hr3⟩ := ob_some h
    clear h
    have kXimpl_DegreeBound_B3 : ∀ (z31 : Int), (cond (decide (y21 < 0)) (impl_DegreeBound_J4 (loopF (impl_DegreeBound_B2 a1 a2 v1 y10 v13) m) y21 y22 z31 true) (impl_DegreeBound_J4 (loopF (impl_DegreeBound_B2 a1 a2 v1 y10 v13) m) y21 y22 z31 (decide (z31 < y21)))) = some o2 → ∀ σ' : PS, okK σ' [(2, dL ci64 a2), (4, .box [nI a1.1, dL c195_d a1.2.1, dL ci64 a1.2.2]), (8, oL 197 c197_oo v1.1), (10, nI y9), (11, nI y10), (13, nI y21), (17, nI z31), (29, dL ci64 a2), (30, nI (List.length a2 : Int)), (31, nI y10), (38, oL 3 ci64 v13), (39, nI (List.length v13 : Int)), (40, nI y22)] → K28 σ' := by
     intro z31 h σ' hk
     refine hK28 _ (ls_keep [(2, dL ci64 a2), (4, .box [nI a1.1, dL c195_d a1.2.1, dL ci64 a1.2.2]), (8, oL 197 c197_oo v1.1), (10, nI y9), (11, nI y10), (13, nI y21), (17, nI z31), (29, dL ci64 a2), (30, nI (List.length a2 : Int)), (31, nI y10), (38, oL 3 ci64 v13), (39, nI (List.length v13 : Int)), (40, nI y22)] hk rfl (ls_rs_k tbOk fun K42 hK42 => ?_))
     have kimpl_DegreeBound_J4 : ∀ (x43 : Bool), impl_DegreeBound_J4 (loopF (impl_DegreeBound_B2 a1 a2 v1 y10 v13) m) y21 y22 z31 x43 = some o2 → ∀ σ' : PS, okK σ' [(2, dL ci64 a2), (4, .box [nI a1.1, dL c195_d a1.2.1, dL ci64 a1.2.2]), (8, oL 197 c197_oo v1.1), (10, nI y9), (11, nI y10), (13, nI y21), (17, nI z31), (29, dL ci64 a2), (30, nI (List.length a2 : Int)), (31, nI y10), (38, oL 3 ci64 v13), (39, nI (List.length v13 : Int)), (40, nI y22), (83, .bool x43)] → K42 σ' := by
      intro x43 h σ' hk
      unfold impl_DegreeBound_J4 at h
      refine hK42 _ (ls_keep [(2, dL ci64 a2), (4, .box [nI a1.1, dL c195_d a1.2.1, dL ci64 a1.2.2]), (8, oL 197 c197_oo v1.1), (10, nI y9), (11, nI y10), (13, nI y21), (17, nI z31), (29, dL ci64 a2), (30, nI (List.length a2 : Int)), (31, nI y10), (38, oL 3 ci64 v13), (39, nI (List.length v13 : Int)), (40, nI y22), (83, .bool x43)] hk rfl ?_)
      have kimpl_DegreeBound_J5 : ∀ (x44 : Int), impl_DegreeBound_J5 (loopF (impl_DegreeBound_B2 a1 a2 v1 y10 v13) m) y22 x44 = some o2 → ∀ σ' : PS, okK σ' [(2, dL ci64 a2), (4, .box [nI a1.1, dL c195_d a1.2.1, dL ci64 a1.2.2]), (8, oL 197 c197_oo v1.1), (10, nI y9), (11, nI y10), (13, nI x44), (29, dL ci64 a2), (30, nI (List.length a2 : Int)), (31, nI y10), (38, oL 3 ci64 v13), (39, nI (List.length v13 : Int)), (40, nI y22)] → K18 σ' := by
       intro x44 h σ' hk
       unfold impl_DegreeBound_J5 at h
       exact hK18 _ (ls_keep [(2, dL ci64 a2), (4, .box [nI a1.1, dL c195_d a1.2.1, dL ci64 a1.2.2]), (8, oL 197 c197_oo v1.1), (10, nI y9), (11, nI y10), (13, nI x44), (29, dL ci64 a2), (30, nI (List.length a2 : Int)), (31, nI y10), (38, oL 3 ci64 v13), (39, nI (List.length v13 : Int)), (40, nI y22)] hk rfl (ls_rgn tbOk (oB (nI y22) (nI 1) rfl rfl (oM (nI (IntKind.i64.wrap (y22 + 1))) rfl (evn (hN _ (x44, (IntKind.i64.wrap (y22 + 1))) h (okr rfl)))))))
      rcases cond_some h with ⟨g45, h⟩ | ⟨g45, h⟩
      ·exact ls_cT rfl g45 (ls_rgn tbOk (oM (nI z31) rfl (oA (nI z31) rfl (evn (kimpl_DegreeBound_J5 z31 h _ (okr rfl))))))
      ·exact ls_cF rfl g45 (ls_skip (kimpl_DegreeBound_J5 y21 h _ (okr rfl)))
     refine oM (nI y21) rfl (oB (nI y21) (nI 0) rfl rfl (oM (.bool (decide (y21 < 0))) rfl (?_)))
     rcases cond_some h with ⟨g46, h⟩ | ⟨g46, h⟩
     ·exact oGT g46 rfl (oGT g46 rfl (oGT g46 rfl (oPT (.bool true) g46 rfl (evn (kimpl_DegreeBound_J4 true h _ (okr rfl))))))
     ·exact oGR g46 rfl (oM (nI z31) rfl (oGR g46 rfl (oM (nI y21) rfl (oGR g46 rfl (oB (nI z31) (nI y21) rfl rfl (oPF (.bool (decide (z31 < y21))) g46 rfl (evn (kimpl_DegreeBound_J4 (decide (z31 < y21)) h _ (okr rfl)))))))))
    refine ls_rec (fun (s : Int × Int) => match s with | (y25, y26) => [(2, dL ci64 a2), (4, .box [nI a1.1, dL c195_d a1.2.1, dL ci64 a1.2.2]), (8, oL 197 c197_oo v1.1), (10, nI y9), (11, nI y10), (13, nI y21), (15, nI e19), (16, nI (List.length v26 : Int)), (17, nI y25), (29, dL ci64 a2), (30, nI (List.length a2 : Int)), (31, nI y10), (38, oL 3 ci64 v13), (39, nI (List.length v13 : Int)), (40, nI y22), (59, dL c25_o e29.2), (60, nI (List.length e29.2 : Int)), (61, nI y26)]) (impl_DegreeBound_B3 v1 e19 v26 e29) fz (0, 0) o3 hl (okr rfl) (fun _ => rfl) ?_
    rintro m ⟨y25, y26⟩ N h hN
    unfold impl_DegreeBound_B3 at h
    dsimp only at h
    refine ls_rs tbOk (oB (nI y26) (nI (List.length e29.2 : Int)) rfl rfl (en [(2, dL ci64 a2), (4, .box [nI a1.1, dL c195_d a1.2.1, dL ci64 a1.2.2]), (8, oL 197 c197_oo v1.1), (10, nI y9), (11, nI y10), (13, nI y21), (15, nI e19), (16, nI (List.length v26 : Int)), (17, nI y25), (29, dL ci64 a2), (30, nI (List.length a2 : Int)), (31, nI y10), (38, oL 3 ci64 v13), (39, nI (List.length v13 : Int)), (40, nI y22), (59, dL c25_o e29.2), (60, nI (List.length e29.2 : Int)), (61, nI y26), (62, .bool (decide (y26 < (List.length e29.2 : Int))))] rfl rfl (ls_seq_k fun K32 hK32 => ?_)))
    rcases cond_some h with ⟨g33, h⟩ | ⟨g33, h⟩
    ·refine ls_cT rfl g33 (ls_skip (hK32 _ (kp [(2, dL ci64 a2), (4, .box [nI a1.1, dL c195_d a1.2.1, dL ci64 a1.2.2]), (8, oL 197 c197_oo v1.1), (10, nI y9), (11, nI y10), (13, nI y21), (15, nI e19), (16, nI (List.length v26 : Int)), (17, nI y25), (29, dL ci64 a2), (30, nI (List.length a2 : Int)), (31, nI y10), (38, oL 3 ci64 v13), (39, nI (List.length v13 : Int)), (40, nI y22), (59, dL c25_o e29.2), (60, nI (List.length e29.2 : Int)), (61, nI y26)] rfl rfl (ls_seq_k fun K34 hK34 => ls_blk (ls_rs tbOk ?_)))))
     obtain ⟨e35, g36, h⟩ := ob_some h
     refine ev_ia rfl rfl rfl ⟨(geti_some g36).1, (geti_some g36).2.1⟩ (ev_ldEt (i := y26) (n := 1) (off := 0) (v := dL ci64 e35) rfl rfl zc25_o g36 rfl (nb rfl) rfl (oA (dL ci64 e35) rfl (en [(2, dL ci64 a2), (4, .box [nI a1.1, dL c195_d a1.2.1, dL ci64 a1.2.2]), (8, oL 197 c197_oo v1.1), (10, nI y9), (11, nI y10), (13, nI y21), (15, nI e19), (16, nI (List.length v26 : Int)), (17, nI y25), (19, dL ci64 e35), (29, dL ci64 a2), (30, nI (List.length a2 : Int)), (31, nI y10), (38, oL 3 ci64 v13), (39, nI (List.length v13 : Int)), (40, nI y22), (59, dL c25_o e29.2), (60, nI (List.length e29.2 : Int)), (61, nI y26)] rfl rfl (ls_drw tbOk mixed (by kernel_rfl) (ed rfl (oM (nI y25) rfl (ed rfl (oM (oL 197 c197_oo v1.1) rfl (ed rfl (oM (nI e19) rfl (?_)))))))))))
     obtain ⟨e37, g38, h⟩ := ob_some h
     refine ed rfl (ev_ia rfl rfl rfl ⟨(geti_some g38).1, (geti_some g38).2.1⟩ (ed rfl (oLE e19 2 0 (.agg (c197_do e37)) zc197_oo g38 rfl (ed rfl (oM (dL ci64 e35) rfl (ed rfl (oM (nI (List.length v26 : Int)) rfl (?_))))))))
     obtain ⟨g39, h⟩ := chk_some h
     refine ed rfl (ev_sle (lst := e35) rfl rfl zci64 rfl rfl g39 (?_))
     obtain ⟨v40, g41, h⟩ := ob_some h
     exact ed rfl (ev_call (era rfl (erg (erc rfl (erc (erD ec25_o _) rfl))) (era rfl (erD eci64 _) eran)) (impl_TrieChildren_s g41) (ed rfl (oN (oL 3 ci64 v40) rfl (ed rfl (ev_max rfl rfl (ed rfl (oA (nI (if y25 < (List.length v40 : Int) then (List.length v40 : Int) else y25)) rfl (evdn (hK34 _ (kp [(2, dL ci64 a2), (4, .box [nI a1.1, dL c195_d a1.2.1, dL ci64 a1.2.2]), (8, oL 197 c197_oo v1.1), (10, nI y9), (11, nI y10), (13, nI y21), (15, nI e19), (16, nI (List.length v26 : Int)), (17, nI (if y25 < (List.length v40 : Int) then (List.length v40 : Int) else y25)), (29, dL ci64 a2), (30, nI (List.length a2 : Int)), (31, nI y10), (38, oL 3 ci64 v13), (39, nI (List.length v13 : Int)), (40, nI y22), (59, dL c25_o e29.2), (60, nI (List.length e29.2 : Int)), (61, nI y26)] rfl rfl (ls_rgn tbOk (oB (nI y26) (nI 1) rfl rfl (oM (nI (IntKind.i64.wrap (y26 + 1))) rfl (evn (hN _ ((if y25 < (List.length v40 : Int) then (List.length v40 : Int) else y25), (IntKind.i64.wrap (y26 + 1))) h (okr rfl))))))))))))))))
    ·exact ls_cF rfl g33 (ls_exit (kXimpl_DegreeBound_B3 y25 (by cases h; exact hr3) _ (okr rfl)))
   ·exact ls_cF rfl g17 (ls_exit (kXimpl_DegreeBound_B2 y21 (by cases h; exact hr2) _ (okr rfl)))
  ·exact ls_cF rfl g8 (ls_exit (kXimpl_DegreeBound_B1 y9 (by cases h; exact hr1) _ (okr rfl)))
def c92_dod (x : Y91) : List V := [nI x.1, dL c195_o x.2.1, dL ci64 x.2.2]
theorem zc92_dod (x : Y91) : (c92_dod x).length = 3 := rfl
theorem ec92_dod (x : Y91) : erL (c92_dod x) = c92_ddd x := (erc rfl (erc (erD ec195_o _) (erc (erD eci64 _) rfl)))
def laws_FnExactDegreeBound (a0 : List Y205) (a1 : Y78) (a2 : List Int) : Option (Bool) := cond (decide (1048576 < (List.length a2 : Int))) (some true) (obind (laws_szDatabase a0 1048576) fun v3 => cond (decide (v3 < 0)) (some true) (obind (laws_szQuery a1 v3) fun v7 => cond (decide (v7 < 0)) (some true) (obind (laws_toDatabase a0) fun v11 => obind (laws_toQuery a1) fun v13 => obind (laws_toIntS a2) fun v15 => obind (spec_DegreeBound v11 v13 v15) fun v17 => obind (laws_toDatabase a0) fun v19 => obind (laws_toQuery a1) fun v21 => obind (laws_toIntS a2) fun v23 => obind (impl_DegreeBound v19 v21 v23) fun v25 => cond (v25.1 != v17.1) (some false) (cond (!(v25.2 == v17.2)) (some false) (obind (laws_toDatabase a0) fun v31 => obind (laws_eqDatabase v19 v31) fun v33 => cond (!v33) (some false) (obind (laws_toQuery a1) fun v37 => obind (laws_eqQuery v21 v37) fun v39 => cond (!v39) (some false) (obind (laws_toIntS a2) fun v43 => obind (laws_eqIntS v23 v43) fun v45 => cond (!v45) (some false) (some true))))))))
theorem laws_FnExactDegreeBound_s {a0 : List Y205} {a1 : Y78} {a2 : List Int} {r : Bool} (h : laws_FnExactDegreeBound a0 a1 a2 = some r) : SoundAt Try.prog 11 [.agg [dL c206_dd a0], .agg (c79_ddd a1), dL ci64 a2] (.bool r) := by
 unfold laws_FnExactDegreeBound at h
 refine sound_lit tbOk lit11 (nb rfl) rfl ?_
 unfold c11
 refine kp [(0, .agg [dL c206_dd a0]), (1, .agg (c79_ddd a1)), (2, dL ci64 a2)] rfl rfl (ls_rs tbOk (oX (.agg [dL c206_dd a0]) rfl (oX (.agg (c79_ddd a1)) rfl (oC nofun rfl (en [(2, dL ci64 a2), (3, .box [dL c206_dd a0]), (4, .box [nI a1.1, dL c231_d a1.2.1, dL ci64 a1.2.2])] rfl rfl (ls_seq_k fun K1 hK1 => ls_rs tbOk (oM (dL ci64 a2) rfl (oN (dL ci64 a2) rfl (oB (nI (List.length a2 : Int)) (nI 1048576) rfl rfl (en [(2, dL ci64 a2), (3, .box [dL c206_dd a0]), (4, .box [nI a1.1, dL c231_d a1.2.1, dL ci64 a1.2.2]), (17, .bool (decide (1048576 < (List.length a2 : Int))))] rfl rfl ?_))))))))))
 rcases cond_some h with ⟨g2, h⟩ | ⟨g2, h⟩
 ·refine ls_cT rfl g2 (ls_rs tbOk (oC nofun rfl (en [(6, .bool true)] rfl rfl (ls_ret ?_))))
  cases h
  exact ⟨.inl rfl, rfl⟩
 ·refine ls_cF rfl g2 (ls_skip (hK1 _ (kp [(2, dL ci64 a2), (3, .box [dL c206_dd a0]), (4, .box [nI a1.1, dL c231_d a1.2.1, dL ci64 a1.2.2])] rfl rfl (ls_rs tbOk (oC nofun rfl (en [(2, dL ci64 a2), (3, .box [dL c206_dd a0]), (4, .box [nI a1.1, dL c231_d a1.2.1, dL ci64 a1.2.2]), (7, nI 1048576)] rfl rfl (ls_rs tbOk (oL1 0 (.agg [dL c206_dd a0]) rfl (oM (nI 1048576) rfl (?_))))))))))
  obtain ⟨v3, g4, h⟩ := ob_some h
  refine ev_call (era rfl (erg (erc (erD ec206_dd _) rfl)) (era rfl rfl eran)) (laws_szDatabase_s g4) (oA (nI v3) rfl (en [(2, dL ci64 a2), (3, .box [dL c206_dd a0]), (4, .box [nI a1.1, dL c231_d a1.2.1, dL ci64 a1.2.2]), (7, nI v3)] rfl rfl (ls_seq_k fun K5 hK5 => ls_rs tbOk (oM (nI v3) rfl (oB (nI v3) (nI 0) rfl rfl (en [(2, dL ci64 a2), (3, .box [dL c206_dd a0]), (4, .box [nI a1.1, dL c231_d a1.2.1, dL ci64 a1.2.2]), (7, nI v3), (22, .bool (decide (v3 < 0)))] rfl rfl ?_))))))
  rcases cond_some h with ⟨g6, h⟩ | ⟨g6, h⟩
  ·refine ls_cT rfl g6 (ls_rs tbOk (oC nofun rfl (en [(6, .bool true)] rfl rfl (ls_ret ?_))))
   cases h
   exact ⟨.inl rfl, rfl⟩
  ·refine ls_cF rfl g6 (ls_skip (hK5 _ (kp [(2, dL ci64 a2), (3, .box [dL c206_dd a0]), (4, .box [nI a1.1, dL c231_d a1.2.1, dL ci64 a1.2.2]), (7, nI v3)] rfl rfl (ls_rs tbOk (oL1 0 (.agg (c79_ddd a1)) rfl (oM (nI v3) rfl (?_)))))))
   obtain ⟨v7, g8, h⟩ := ob_some h
   refine ev_call (era rfl (erg (erc rfl (erc (erD ec231_d _) (erc (erD eci64 _) rfl)))) (era rfl rfl eran)) (laws_szQuery_s g8) (oA (nI v7) rfl (en [(2, dL ci64 a2), (3, .box [dL c206_dd a0]), (4, .box [nI a1.1, dL c231_d a1.2.1, dL ci64 a1.2.2]), (7, nI v7)] rfl rfl (ls_seq_k fun K9 hK9 => ls_rs tbOk (oM (nI v7) rfl (oB (nI v7) (nI 0) rfl rfl (en [(2, dL ci64 a2), (3, .box [dL c206_dd a0]), (4, .box [nI a1.1, dL c231_d a1.2.1, dL ci64 a1.2.2]), (27, .bool (decide (v7 < 0)))] rfl rfl ?_))))))
   rcases cond_some h with ⟨g10, h⟩ | ⟨g10, h⟩
   ·refine ls_cT rfl g10 (ls_rs tbOk (oC nofun rfl (en [(6, .bool true)] rfl rfl (ls_ret ?_))))
    cases h
    exact ⟨.inl rfl, rfl⟩
   ·refine ls_cF rfl g10 (ls_skip (hK9 _ (kp [(2, dL ci64 a2), (3, .box [dL c206_dd a0]), (4, .box [nI a1.1, dL c231_d a1.2.1, dL ci64 a1.2.2])] rfl rfl (ls_rd tbOk mixed (by kernel_rfl) (ed rfl (oL1 0 (.agg [dL c206_dd a0]) rfl (?_)))))))
    obtain ⟨v11, g12, h⟩ := ob_some h
    refine ed rfl (ev_call (era rfl (erg (erc (erD ec206_dd _) rfl)) eran) (laws_toDatabase_s g12) (ed rfl (oL1 0 (.agg (c79_ddd a1)) rfl (?_))))
    obtain ⟨v13, g14, h⟩ := ob_some h
    refine ed rfl (ev_call (era rfl (erg (erc rfl (erc (erD ec231_d _) (erc (erD eci64 _) rfl)))) eran) (laws_toQuery_s g14) (ed rfl (oM (dL ci64 a2) rfl (?_))))
    obtain ⟨v15, g16, h⟩ := ob_some h
    refine ed rfl (ev_call (era rfl (erD eci64 _) eran) (laws_toIntS_s g16) (?_))
    obtain ⟨v17, g18, h⟩ := ob_some h
    refine ed rfl (ev_call (era rfl (erg (erc (erO ec208_oo _) rfl)) (era rfl (erg (erc rfl (erc (erO ec195_o _) (erc (erO eci64 _) rfl)))) (era rfl (erO eci64 _) eran))) (spec_DegreeBound_s g18) (ed rfl (oM (.tup [nI v17.1, .bool v17.2]) rfl (ed rfl (ev_ext rfl rfl rfl rfl (ed rfl (ev_ext rfl rfl rfl rfl (ed rfl (oA (nI v17.1) rfl (ed rfl (oA (.bool v17.2) rfl (evdn (kp [(2, dL ci64 a2), (3, .box [dL c206_dd a0]), (4, .box [nI a1.1, dL c231_d a1.2.1, dL ci64 a1.2.2]), (8, nI v17.1), (9, .bool v17.2)] rfl rfl (ls_rs tbOk (oL1 0 (.agg [dL c206_dd a0]) rfl (?_))))))))))))))))
    obtain ⟨v19, g20, h⟩ := ob_some h
    refine ev_call (era rfl (erg (erc (erD ec206_dd _) rfl)) eran) (laws_toDatabase_s g20) (ev_al rfl rfl (oS 0 (.agg [oL 208 c208_oo v19]) [oL 208 c208_oo v19] rfl rfl (en [(2, dL ci64 a2), (3, .box [dL c206_dd a0]), (4, .box [nI a1.1, dL c231_d a1.2.1, dL ci64 a1.2.2]), (8, nI v17.1), (9, .bool v17.2), (10, .box [oL 208 c208_oo v19])] rfl rfl (ls_rs tbOk (oL1 0 (.agg (c79_ddd a1)) rfl (?_))))))
    obtain ⟨v21, g22, h⟩ := ob_some h
    refine ev_call (era rfl (erg (erc rfl (erc (erD ec231_d _) (erc (erD eci64 _) rfl)))) eran) (laws_toQuery_s g22) (ev_al rfl rfl (oS 0 (.agg (c92_ooo v21)) [nI v21.1, oL 195 c195_o v21.2.1, oL 3 ci64 v21.2.2] rfl rfl (en [(2, dL ci64 a2), (3, .box [dL c206_dd a0]), (4, .box [nI a1.1, dL c231_d a1.2.1, dL ci64 a1.2.2]), (8, nI v17.1), (9, .bool v17.2), (10, .box [oL 208 c208_oo v19]), (11, .box [nI v21.1, oL 195 c195_o v21.2.1, oL 3 ci64 v21.2.2])] rfl rfl (ls_rs tbOk (oM (dL ci64 a2) rfl (?_))))))
    obtain ⟨v23, g24, h⟩ := ob_some h
    refine ev_call (era rfl (erD eci64 _) eran) (laws_toIntS_s g24) (oA (oL 3 ci64 v23) rfl (en [(2, dL ci64 a2), (3, .box [dL c206_dd a0]), (4, .box [nI a1.1, dL c231_d a1.2.1, dL ci64 a1.2.2]), (8, nI v17.1), (9, .bool v17.2), (10, .box [oL 208 c208_oo v19]), (11, .box [nI v21.1, oL 195 c195_o v21.2.1, oL 3 ci64 v21.2.2]), (12, oL 3 ci64 v23)] rfl rfl (ls_rs tbOk (oL1 0 (.agg [dL c208_oo v19]) rfl (oL1 0 (.agg (c92_dod v21)) rfl (oM (oL 3 ci64 v23) rfl (?_)))))))
    obtain ⟨v25, g26, h⟩ := ob_some h
    refine ev_call (era rfl (erg (erc (erD ec208_oo _) rfl)) (era rfl (erg (erc rfl (erc (erD ec195_o _) (erc (erD eci64 _) rfl)))) (era rfl (erD eci64 _) eran))) (impl_DegreeBound_s g26) (oM (.tup [nI v25.1, .bool v25.2]) rfl (ev_ext rfl rfl rfl rfl (ev_ext rfl rfl rfl rfl (oA (nI v25.1) rfl (oA (.bool v25.2) rfl (en [(2, dL ci64 a2), (3, .box [dL c206_dd a0]), (4, .box [nI a1.1, dL c231_d a1.2.1, dL ci64 a1.2.2]), (8, nI v17.1), (9, .bool v17.2), (10, .box [oL 208 c208_oo v19]), (11, .box [nI v21.1, oL 195 c195_o v21.2.1, oL 3 ci64 v21.2.2]), (12, oL 3 ci64 v23), (13, nI v25.1), (14, .bool v25.2)] rfl rfl (ls_seq_k fun K27 hK27 => ls_rs tbOk (oM (nI v25.1) rfl (oM (nI v17.1) rfl (oB (nI v25.1) (nI v17.1) rfl rfl (oM (.bool (v25.1 != v17.1)) rfl (?_))))))))))))
    rcases cond_some h with ⟨g28, h⟩ | ⟨g28, h⟩
    ·refine oGT g28 rfl (oGT g28 rfl (oGT g28 rfl (oPT (.bool true) g28 rfl (en [(2, dL ci64 a2), (3, .box [dL c206_dd a0]), (4, .box [nI a1.1, dL c231_d a1.2.1, dL ci64 a1.2.2]), (10, .box [oL 208 c208_oo v19]), (11, .box [nI v21.1, oL 195 c195_o v21.2.1, oL 3 ci64 v21.2.2]), (12, oL 3 ci64 v23), (58, .bool true)] rfl rfl (ls_cT rfl rfl (ls_rs tbOk (oC nofun rfl (en [(6, .bool false)] rfl rfl (ls_ret ?_)))))))))
     cases h
     exact ⟨.inl rfl, rfl⟩
    ·refine oGR g28 rfl (oM (.bool v25.2) rfl (oGR g28 rfl (oM (.bool v17.2) rfl (oGR g28 rfl (oB (.bool v25.2) (.bool v17.2) rfl rfl (oPF (.bool (!(v25.2 == v17.2))) g28 rfl (en [(2, dL ci64 a2), (3, .box [dL c206_dd a0]), (4, .box [nI a1.1, dL c231_d a1.2.1, dL ci64 a1.2.2]), (10, .box [oL 208 c208_oo v19]), (11, .box [nI v21.1, oL 195 c195_o v21.2.1, oL 3 ci64 v21.2.2]), (12, oL 3 ci64 v23), (58, .bool (!(v25.2 == v17.2)))] rfl rfl ?_)))))))
     rcases cond_some h with ⟨g29, h⟩ | ⟨g29, h⟩
     ·refine ls_cT rfl g29 (ls_rs tbOk (oC nofun rfl (en [(6, .bool false)] rfl rfl (ls_ret ?_))))
      cases h
      exact ⟨.inl rfl, rfl⟩
     ·refine ls_cF rfl g29 (ls_skip (hK27 _ (kp [(2, dL ci64 a2), (3, .box [dL c206_dd a0]), (4, .box [nI a1.1, dL c231_d a1.2.1, dL ci64 a1.2.2]), (10, .box [oL 208 c208_oo v19]), (11, .box [nI v21.1, oL 195 c195_o v21.2.1, oL 3 ci64 v21.2.2]), (12, oL 3 ci64 v23)] rfl rfl (ls_seq_k fun K30 hK30 => ls_rd tbOk mixed (by kernel_rfl) (ed rfl (oL1 0 (.agg [dL c208_oo v19]) rfl (ed rfl (oL1 0 (.agg [dL c206_dd a0]) rfl (?_)))))))))
      obtain ⟨v31, g32, h⟩ := ob_some h
      refine ed rfl (ev_call (era rfl (erg (erc (erD ec206_dd _) rfl)) eran) (laws_toDatabase_s g32) (?_))
      obtain ⟨v33, g34, h⟩ := ob_some h
      refine ed rfl (ev_call (era rfl (erg (erc (erD ec208_oo _) rfl)) (era rfl (erg (erc (erO ec208_oo _) rfl)) eran)) (laws_eqDatabase_s g34) (ed rfl (ev_un (c1 := .bool v33) rfl trivial (evdn (kp [(2, dL ci64 a2), (4, .box [nI a1.1, dL c231_d a1.2.1, dL ci64 a1.2.2]), (11, .box [nI v21.1, oL 195 c195_o v21.2.1, oL 3 ci64 v21.2.2]), (12, oL 3 ci64 v23), (63, .bool (!v33))] rfl rfl ?_)))))
      rcases cond_some h with ⟨g35, h⟩ | ⟨g35, h⟩
      ·refine ls_cT rfl g35 (ls_rs tbOk (oC nofun rfl (en [(6, .bool false)] rfl rfl (ls_ret ?_))))
       cases h
       exact ⟨.inl rfl, rfl⟩
      ·refine ls_cF rfl g35 (ls_skip (hK30 _ (kp [(2, dL ci64 a2), (4, .box [nI a1.1, dL c231_d a1.2.1, dL ci64 a1.2.2]), (11, .box [nI v21.1, oL 195 c195_o v21.2.1, oL 3 ci64 v21.2.2]), (12, oL 3 ci64 v23)] rfl rfl (ls_seq_k fun K36 hK36 => ls_rd tbOk mixed (by kernel_rfl) (ed rfl (oL1 0 (.agg (c92_dod v21)) rfl (ed rfl (oL1 0 (.agg (c79_ddd a1)) rfl (?_)))))))))
       obtain ⟨v37, g38, h⟩ := ob_some h
       refine ed rfl (ev_call (era rfl (erg (erc rfl (erc (erD ec231_d _) (erc (erD eci64 _) rfl)))) eran) (laws_toQuery_s g38) (?_))
       obtain ⟨v39, g40, h⟩ := ob_some h
       refine ed rfl (ev_call (era rfl (erg (erc rfl (erc (erD ec195_o _) (erc (erD eci64 _) rfl)))) (era rfl (erg (erc rfl (erc (erO ec195_o _) (erc (erO eci64 _) rfl)))) eran)) (laws_eqQuery_s g40) (ed rfl (ev_un (c1 := .bool v39) rfl trivial (evdn (kp [(2, dL ci64 a2), (12, oL 3 ci64 v23), (68, .bool (!v39))] rfl rfl ?_)))))
       rcases cond_some h with ⟨g41, h⟩ | ⟨g41, h⟩
       ·refine ls_cT rfl g41 (ls_rs tbOk (oC nofun rfl (en [(6, .bool false)] rfl rfl (ls_ret ?_))))
        cases h
        exact ⟨.inl rfl, rfl⟩
       ·refine ls_cF rfl g41 (ls_skip (hK36 _ (kp [(2, dL ci64 a2), (12, oL 3 ci64 v23)] rfl rfl (ls_seq_k fun K42 hK42 => ls_rs tbOk (oM (oL 3 ci64 v23) rfl (oM (dL ci64 a2) rfl (?_)))))))
        obtain ⟨v43, g44, h⟩ := ob_some h
        refine ev_call (era rfl (erD eci64 _) eran) (laws_toIntS_s g44) (?_)
        obtain ⟨v45, g46, h⟩ := ob_some h
        refine ev_call (era rfl (erD eci64 _) (era rfl (erO eci64 _) eran)) (laws_eqIntS_s g46) (ev_un (c1 := .bool v45) rfl trivial (en [(73, .bool (!v45))] rfl rfl ?_))
        rcases cond_some h with ⟨g47, h⟩ | ⟨g47, h⟩
        ·refine ls_cT rfl g47 (ls_rs tbOk (oC nofun rfl (en [(6, .bool false)] rfl rfl (ls_ret ?_))))
         cases h
         exact ⟨.inl rfl, rfl⟩
        ·refine ls_cF rfl g47 (ls_skip (hK42 _ (kp [] rfl rfl (ls_rs tbOk (oC nofun rfl (en [(6, .bool true)] rfl rfl (ls_ret ?_)))))))
         cases h
         exact ⟨.inl rfl, rfl⟩
end Go.Proofs.Ytkcfahfladikkaa
