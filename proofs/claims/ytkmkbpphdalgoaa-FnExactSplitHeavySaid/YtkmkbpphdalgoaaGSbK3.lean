/-
  Functions of the program as typed functions, printed by gen.py, and that the program's functions do what they say. No conditions.
-/
import Derived.Test.YtkmkbpphdalgoaaGSK3
namespace Go.Proofs.Ytkmkbpphdalgoaa
open Go.RowKit
set_option linter.unusedVariables false
set_option maxRecDepth 100000
set_option maxHeartbeats 1000000
def laws_FnExactSplitHeavy (a0 : Int × (List (List Int))) (a1 : Int) (a2 : Int) : Option (Bool) := obind (laws_szRelation a0 1048576) fun v1 => cond (decide (v1 < 0)) (some true) (obind (laws_toRelation a0) fun v5 => obind (spec_SplitHeavy v5 a1 a2) fun v7 => obind (laws_toRelation a0) fun v9 => obind (impl_SplitHeavy v9 a1 a2) fun v11 => obind (laws_eqRelation v11.1 v7.1) fun v14 => cond (!v14) (some false) (obind (laws_eqRelation v11.2.1 v7.2.1) fun v17 => cond (!v17) (some false) (cond (!(v11.2.2 == v7.2.2)) (some false) (obind (laws_toRelation a0) fun v22 => obind (laws_eqRelation v9 v22) fun v24 => cond (!v24) (some false) (obind (laws_markRelation v9 1) fun v27 => cond (decide (v27.2 < 0)) (some false) (obind (laws_eqRelation v11.1 v7.1) fun v31 => cond (!v31) (some false) (obind (laws_eqRelation v11.2.1 v7.2.1) fun v34 => cond (!v34) (some false) (cond (!(v11.2.2 == v7.2.2)) (some false) (obind (laws_markRelation v11.1 1) fun v38 => obind (laws_markRelation v11.2.1 v38.2) fun v40 => obind (laws_heldRelation v38.1 1) fun v42 => cond (decide (v42 < 0)) (some false) (obind (laws_heldRelation v40.1 v42) fun v46 => cond (decide (v46 < 0)) (some false) (cond (v46 != v40.2) (some false) (obind (laws_toRelation a0) fun v52 => obind (impl_SplitHeavy v52 a1 a2) fun v54 => obind (laws_eqRelation v54.1 v7.1) fun v57 => cond (!v57) (some false) (obind (laws_eqRelation v54.2.1 v7.2.1) fun v60 => cond (!v60) (some false) (cond (!(v54.2.2 == v7.2.2)) (some false) (obind (laws_heldRelation v38.1 1) fun v64 => cond (decide (v64 < 0)) (some false) (obind (laws_heldRelation v40.1 v64) fun v68 => cond (decide (v68 < 0)) (some false) (cond (v68 != v40.2) (some false) (some true))))))))))))))))))
theorem laws_FnExactSplitHeavy_s {a0 : Int × (List (List Int))} {a1 : Int} {a2 : Int} {r : Bool} (h : laws_FnExactSplitHeavy a0 a1 a2 = some r) : SoundAt Try.prog 5 [.agg [.int .i64 a0.1, .arg a0.2.length (a0.2.flatMap c30_a)], .int .i64 a1, .int .i64 a2] (.bool r) := by
  unfold laws_FnExactSplitHeavy at h
  refine sound_lit tbOk lit5 (Nat.le_of_ble_eq_true rfl) rfl ?_
  unfold c5
  refine ls_keep [(0, .agg [.int .i64 a0.1, .arg a0.2.length (a0.2.flatMap c30_a)]), (1, .int .i64 a1), (2, .int .i64 a2)] ⟨kr, kr, kr, trivial⟩ rfl ?_
  refine ls_rs tbOk ?_
  refine evs (ev_bx (c1 := .agg [.int .i64 a0.1, .arg a0.2.length (a0.2.flatMap c30_a)]) rfl rfl rfl (evs (ev_ac rfl nofun rfl (evn ?_))))
  refine ls_keep [(1, .int .i64 a1), (2, .int .i64 a2), (3, .box [.int .i64 a0.1, .arg a0.2.length (a0.2.flatMap c30_a)])] ⟨kr, kr, kr, trivial⟩ rfl ?_
  refine ls_rs tbOk ?_
  refine evs (ev_ac rfl nofun rfl (evn ?_))
  refine ls_keep [(1, .int .i64 a1), (2, .int .i64 a2), (3, .box [.int .i64 a0.1, .arg a0.2.length (a0.2.flatMap c30_a)]), (7, .int .i64 1048576)] ⟨kr, kr, kr, kr, trivial⟩ rfl ?_
  refine ls_rs tbOk ?_
  refine evs (ev_ldB (off := 0) (v := .agg [.int .i64 a0.1, .arg a0.2.length (a0.2.flatMap c30_a)]) rfl rfl rfl rfl (Nat.le_of_ble_eq_true rfl) rfl (evs (ev_mv (c := .int .i64 1048576) rfl rfl rfl (?_))))
  obtain ⟨v1, g2, h⟩ := ob_some h
  refine evs (ev_call (era rfl (erg (erc rfl (erc (erG ec30_a _) rfl))) (era rfl rfl eran)) (laws_szRelation_s g2) (evs (ev_as (c := .int .i64 v1) rfl rfl rfl (evn ?_))))
  refine ls_keep [(1, .int .i64 a1), (2, .int .i64 a2), (3, .box [.int .i64 a0.1, .arg a0.2.length (a0.2.flatMap c30_a)]), (7, .int .i64 v1)] ⟨kr, kr, kr, kr, trivial⟩ rfl ?_
  refine ls_seq_k fun K3 hK3 => ?_
  refine ls_rs tbOk ?_
  refine evs (ev_mv (c := .int .i64 v1) rfl rfl rfl (evs (ev_bin (c1 := .int .i64 v1) (c2 := .int .i64 0) rfl rfl rfl (evn ?_))))
  refine ls_keep [(1, .int .i64 a1), (2, .int .i64 a2), (3, .box [.int .i64 a0.1, .arg a0.2.length (a0.2.flatMap c30_a)]), (25, .bool (decide (v1 < 0)))] ⟨kr, kr, kr, kr, trivial⟩ rfl ?_
  rcases cond_some h with ⟨g4, h⟩ | ⟨g4, h⟩
  · refine ls_cT rfl g4 ?_
    refine ls_rs tbOk ?_
    refine evs (ev_ac rfl nofun rfl (evn ?_))
    refine ls_keep [(6, .bool true)] ⟨kr, trivial⟩ rfl ?_
    refine ls_ret ?_
    have hr := Option.some.inj h
    rw [← hr]
    exact ⟨.inl rfl, rfl⟩
  · refine ls_cF rfl g4 ?_
    refine ls_skip ?_
    refine hK3 _ (ls_keep [(1, .int .i64 a1), (2, .int .i64 a2), (3, .box [.int .i64 a0.1, .arg a0.2.length (a0.2.flatMap c30_a)])] ⟨kr, kr, kr, trivial⟩ rfl ?_)
    refine ls_rs tbOk ?_
    refine evs (ev_ldB (off := 0) (v := .agg [.int .i64 a0.1, .arg a0.2.length (a0.2.flatMap c30_a)]) rfl rfl rfl rfl (Nat.le_of_ble_eq_true rfl) rfl (?_))
    obtain ⟨v5, g6, h⟩ := ob_some h
    refine evs (ev_call (era rfl (erg (erc rfl (erc (erG ec30_a _) rfl))) eran) (laws_toRelation_s g6) (evs (ev_mv (c := .int .i64 a1) rfl rfl rfl (evs (ev_mv (c := .int .i64 a2) rfl rfl rfl (?_))))))
    obtain ⟨v7, g8, h⟩ := ob_some h
    refine evs (ev_call (era rfl (erg (erc rfl (erc (erO ec30_o _) rfl))) (era rfl rfl (era rfl rfl eran))) (spec_SplitHeavy_s g8) (evs (ev_mvt (c := .tup [.agg [.int .i64 v7.1.1, .own 30 v7.1.2.length (v7.1.2.flatMap c30_o)], .agg [.int .i64 v7.2.1.1, .own 30 v7.2.1.2.length (v7.2.1.2.flatMap c30_o)], .bool v7.2.2]) rfl rfl rfl (evs (ev_ext rfl rfl rfl rfl (evs (ev_ext rfl rfl rfl rfl (evs (ev_ext rfl rfl rfl rfl (evs (ev_al rfl rfl (evs (ev_al rfl rfl (evs (ev_st (off := 0) (c1 := .agg [.int .i64 v7.1.1, .own 30 v7.1.2.length (v7.1.2.flatMap c30_o)]) (cs' := [.int .i64 v7.1.1, .own 30 v7.1.2.length (v7.1.2.flatMap c30_o)]) rfl rfl rfl rfl rfl rfl (Nat.le_of_ble_eq_true rfl) rfl (evs (ev_st (off := 0) (c1 := .agg [.int .i64 v7.2.1.1, .own 30 v7.2.1.2.length (v7.2.1.2.flatMap c30_o)]) (cs' := [.int .i64 v7.2.1.1, .own 30 v7.2.1.2.length (v7.2.1.2.flatMap c30_o)]) rfl rfl rfl rfl rfl rfl (Nat.le_of_ble_eq_true rfl) rfl (evs (ev_as (c := .bool v7.2.2) rfl rfl rfl (evn ?_))))))))))))))))))))
    refine ls_keep [(1, .int .i64 a1), (2, .int .i64 a2), (3, .box [.int .i64 a0.1, .arg a0.2.length (a0.2.flatMap c30_a)]), (8, .box [.int .i64 v7.1.1, .own 30 v7.1.2.length (v7.1.2.flatMap c30_o)]), (9, .box [.int .i64 v7.2.1.1, .own 30 v7.2.1.2.length (v7.2.1.2.flatMap c30_o)]), (10, .bool v7.2.2)] ⟨kr, kr, kr, kr, kr, kr, trivial⟩ rfl ?_
    refine ls_rs tbOk ?_
    refine evs (ev_ldB (off := 0) (v := .agg [.int .i64 a0.1, .arg a0.2.length (a0.2.flatMap c30_a)]) rfl rfl rfl rfl (Nat.le_of_ble_eq_true rfl) rfl (?_))
    obtain ⟨v9, g10, h⟩ := ob_some h
    refine evs (ev_call (era rfl (erg (erc rfl (erc (erG ec30_a _) rfl))) eran) (laws_toRelation_s g10) (evs (ev_al rfl rfl (evs (ev_st (off := 0) (c1 := .agg [.int .i64 v9.1, .own 30 v9.2.length (v9.2.flatMap c30_o)]) (cs' := [.int .i64 v9.1, .own 30 v9.2.length (v9.2.flatMap c30_o)]) rfl rfl rfl rfl rfl rfl (Nat.le_of_ble_eq_true rfl) rfl (evn ?_))))))
    refine ls_keep [(1, .int .i64 a1), (2, .int .i64 a2), (3, .box [.int .i64 a0.1, .arg a0.2.length (a0.2.flatMap c30_a)]), (8, .box [.int .i64 v7.1.1, .own 30 v7.1.2.length (v7.1.2.flatMap c30_o)]), (9, .box [.int .i64 v7.2.1.1, .own 30 v7.2.1.2.length (v7.2.1.2.flatMap c30_o)]), (10, .bool v7.2.2), (11, .box [.int .i64 v9.1, .own 30 v9.2.length (v9.2.flatMap c30_o)])] ⟨kr, kr, kr, kr, kr, kr, kr, trivial⟩ rfl ?_
    refine ls_rs tbOk ?_
    refine evs (ev_ldB (off := 0) (v := .agg [.int .i64 v9.1, .dat v9.2.length (v9.2.flatMap c30_o)]) rfl rfl rfl rfl (Nat.le_of_ble_eq_true rfl) rfl (evs (ev_mv (c := .int .i64 a1) rfl rfl rfl (evs (ev_mv (c := .int .i64 a2) rfl rfl rfl (?_))))))
    obtain ⟨v11, g12, h⟩ := ob_some h
    refine evs (ev_call (era rfl (erg (erc rfl (erc (erD ec30_o _) rfl))) (era rfl rfl (era rfl rfl eran))) (impl_SplitHeavy_s g12) (evs (ev_mvt (c := .tup [.agg [.int .i64 v11.1.1, .own 30 v11.1.2.length (v11.1.2.flatMap c30_o)], .agg [.int .i64 v11.2.1.1, .own 30 v11.2.1.2.length (v11.2.1.2.flatMap c30_o)], .bool v11.2.2]) rfl rfl rfl (evs (ev_ext rfl rfl rfl rfl (evs (ev_ext rfl rfl rfl rfl (evs (ev_ext rfl rfl rfl rfl (evs (ev_al rfl rfl (evs (ev_al rfl rfl (evs (ev_st (off := 0) (c1 := .agg [.int .i64 v11.1.1, .own 30 v11.1.2.length (v11.1.2.flatMap c30_o)]) (cs' := [.int .i64 v11.1.1, .own 30 v11.1.2.length (v11.1.2.flatMap c30_o)]) rfl rfl rfl rfl rfl rfl (Nat.le_of_ble_eq_true rfl) rfl (evs (ev_st (off := 0) (c1 := .agg [.int .i64 v11.2.1.1, .own 30 v11.2.1.2.length (v11.2.1.2.flatMap c30_o)]) (cs' := [.int .i64 v11.2.1.1, .own 30 v11.2.1.2.length (v11.2.1.2.flatMap c30_o)]) rfl rfl rfl rfl rfl rfl (Nat.le_of_ble_eq_true rfl) rfl (evs (ev_as (c := .bool v11.2.2) rfl rfl rfl (evn ?_))))))))))))))))))))
    refine ls_keep [(1, .int .i64 a1), (2, .int .i64 a2), (3, .box [.int .i64 a0.1, .arg a0.2.length (a0.2.flatMap c30_a)]), (8, .box [.int .i64 v7.1.1, .own 30 v7.1.2.length (v7.1.2.flatMap c30_o)]), (9, .box [.int .i64 v7.2.1.1, .own 30 v7.2.1.2.length (v7.2.1.2.flatMap c30_o)]), (10, .bool v7.2.2), (11, .box [.int .i64 v9.1, .own 30 v9.2.length (v9.2.flatMap c30_o)]), (12, .box [.int .i64 v11.1.1, .own 30 v11.1.2.length (v11.1.2.flatMap c30_o)]), (13, .box [.int .i64 v11.2.1.1, .own 30 v11.2.1.2.length (v11.2.1.2.flatMap c30_o)]), (14, .bool v11.2.2)] ⟨kr, kr, kr, kr, kr, kr, kr, kr, kr, kr, trivial⟩ rfl ?_
    refine ls_seq_k fun K13 hK13 => ?_
    refine ls_rs tbOk ?_
    refine evs (ev_ldB (off := 0) (v := .agg [.int .i64 v11.1.1, .dat v11.1.2.length (v11.1.2.flatMap c30_o)]) rfl rfl rfl rfl (Nat.le_of_ble_eq_true rfl) rfl (evs (ev_ldB (off := 0) (v := .agg [.int .i64 v7.1.1, .dat v7.1.2.length (v7.1.2.flatMap c30_o)]) rfl rfl rfl rfl (Nat.le_of_ble_eq_true rfl) rfl (?_))))
    obtain ⟨v14, g15, h⟩ := ob_some h
    refine evs (ev_call (era rfl (erg (erc rfl (erc (erD ec30_o _) rfl))) (era rfl (erg (erc rfl (erc (erD ec30_o _) rfl))) eran)) (laws_eqRelation_s g15) (evs (ev_un (c1 := .bool v14) rfl trivial (evs (ev_mv (c := .bool (!v14)) rfl rfl rfl (?_))))))
    rcases cond_some h with ⟨g16, h⟩ | ⟨g16, h⟩
    · refine evs (ev_gs rfl rfl (isb_T g16) (evs (ev_gs rfl rfl (isb_T g16) (evs (ev_gs rfl rfl (isb_T g16) (evs (ev_gs rfl rfl (isb_T g16) (evs (ev_pkT (c1 := .bool true) rfl g16 rfl rfl (evs (ev_mv (c := .bool true) rfl rfl rfl (evs (ev_gs rfl rfl rfl (evs (ev_gs rfl rfl rfl (evs (ev_gs rfl rfl rfl (evs (ev_pkT (c1 := .bool true) rfl rfl rfl rfl (evn ?_))))))))))))))))))))
      refine ls_keep [(1, .int .i64 a1), (2, .int .i64 a2), (3, .box [.int .i64 a0.1, .arg a0.2.length (a0.2.flatMap c30_a)]), (8, .box [.int .i64 v7.1.1, .own 30 v7.1.2.length (v7.1.2.flatMap c30_o)]), (9, .box [.int .i64 v7.2.1.1, .own 30 v7.2.1.2.length (v7.2.1.2.flatMap c30_o)]), (10, .bool v7.2.2), (11, .box [.int .i64 v9.1, .own 30 v9.2.length (v9.2.flatMap c30_o)]), (12, .box [.int .i64 v11.1.1, .own 30 v11.1.2.length (v11.1.2.flatMap c30_o)]), (13, .box [.int .i64 v11.2.1.1, .own 30 v11.2.1.2.length (v11.2.1.2.flatMap c30_o)]), (14, .bool v11.2.2), (59, .bool true)] ⟨kr, kr, kr, kr, kr, kr, kr, kr, kr, kr, kr, trivial⟩ rfl ?_
      refine ls_cT rfl rfl ?_
      refine ls_rs tbOk ?_
      refine evs (ev_ac rfl nofun rfl (evn ?_))
      refine ls_keep [(6, .bool false)] ⟨kr, trivial⟩ rfl ?_
      refine ls_ret ?_
      have hr := Option.some.inj h
      rw [← hr]
      exact ⟨.inl rfl, rfl⟩
    · refine evs (ev_gr rfl (congrArg V.bool g16) (ev_ldB (off := 0) (v := .agg [.int .i64 v11.2.1.1, .dat v11.2.1.2.length (v11.2.1.2.flatMap c30_o)]) rfl rfl rfl rfl (Nat.le_of_ble_eq_true rfl) rfl (evs (ev_gr rfl (congrArg V.bool g16) (ev_ldB (off := 0) (v := .agg [.int .i64 v7.2.1.1, .dat v7.2.1.2.length (v7.2.1.2.flatMap c30_o)]) rfl rfl rfl rfl (Nat.le_of_ble_eq_true rfl) rfl (?_))))))
      obtain ⟨v17, g18, h⟩ := ob_some h
      refine evs (ev_gr rfl (congrArg V.bool g16) (ev_call (era rfl (erg (erc rfl (erc (erD ec30_o _) rfl))) (era rfl (erg (erc rfl (erc (erD ec30_o _) rfl))) eran)) (laws_eqRelation_s g18) (evs (ev_gr rfl (congrArg V.bool g16) (ev_un (c1 := .bool v17) rfl trivial (evs (ev_pkF (c1 := .bool (!v17)) rfl g16 rfl rfl (evs (ev_mv (c := .bool (!v17)) rfl rfl rfl (?_))))))))))
      rcases cond_some h with ⟨g19, h⟩ | ⟨g19, h⟩
      · refine evs (ev_gs rfl rfl (isb_T g19) (evs (ev_gs rfl rfl (isb_T g19) (evs (ev_gs rfl rfl (isb_T g19) (evs (ev_pkT (c1 := .bool true) rfl g19 rfl rfl (evn ?_))))))))
        refine ls_keep [(1, .int .i64 a1), (2, .int .i64 a2), (3, .box [.int .i64 a0.1, .arg a0.2.length (a0.2.flatMap c30_a)]), (8, .box [.int .i64 v7.1.1, .own 30 v7.1.2.length (v7.1.2.flatMap c30_o)]), (9, .box [.int .i64 v7.2.1.1, .own 30 v7.2.1.2.length (v7.2.1.2.flatMap c30_o)]), (10, .bool v7.2.2), (11, .box [.int .i64 v9.1, .own 30 v9.2.length (v9.2.flatMap c30_o)]), (12, .box [.int .i64 v11.1.1, .own 30 v11.1.2.length (v11.1.2.flatMap c30_o)]), (13, .box [.int .i64 v11.2.1.1, .own 30 v11.2.1.2.length (v11.2.1.2.flatMap c30_o)]), (14, .bool v11.2.2), (59, .bool true)] ⟨kr, kr, kr, kr, kr, kr, kr, kr, kr, kr, kr, trivial⟩ rfl ?_
        refine ls_cT rfl rfl ?_
        refine ls_rs tbOk ?_
        refine evs (ev_ac rfl nofun rfl (evn ?_))
        refine ls_keep [(6, .bool false)] ⟨kr, trivial⟩ rfl ?_
        refine ls_ret ?_
        have hr := Option.some.inj h
        rw [← hr]
        exact ⟨.inl rfl, rfl⟩
      · refine evs (ev_gr rfl (congrArg V.bool g19) (ev_mv (c := .bool v11.2.2) rfl rfl rfl (evs (ev_gr rfl (congrArg V.bool g19) (ev_mv (c := .bool v7.2.2) rfl rfl rfl (evs (ev_gr rfl (congrArg V.bool g19) (ev_bin (c1 := .bool v11.2.2) (c2 := .bool v7.2.2) rfl rfl rfl (evs (ev_pkF (c1 := .bool (!(v11.2.2 == v7.2.2))) rfl g19 rfl rfl (evn ?_)))))))))))
        refine ls_keep [(1, .int .i64 a1), (2, .int .i64 a2), (3, .box [.int .i64 a0.1, .arg a0.2.length (a0.2.flatMap c30_a)]), (8, .box [.int .i64 v7.1.1, .own 30 v7.1.2.length (v7.1.2.flatMap c30_o)]), (9, .box [.int .i64 v7.2.1.1, .own 30 v7.2.1.2.length (v7.2.1.2.flatMap c30_o)]), (10, .bool v7.2.2), (11, .box [.int .i64 v9.1, .own 30 v9.2.length (v9.2.flatMap c30_o)]), (12, .box [.int .i64 v11.1.1, .own 30 v11.1.2.length (v11.1.2.flatMap c30_o)]), (13, .box [.int .i64 v11.2.1.1, .own 30 v11.2.1.2.length (v11.2.1.2.flatMap c30_o)]), (14, .bool v11.2.2), (59, .bool (!(v11.2.2 == v7.2.2)))] ⟨kr, kr, kr, kr, kr, kr, kr, kr, kr, kr, kr, trivial⟩ rfl ?_
        rcases cond_some h with ⟨g20, h⟩ | ⟨g20, h⟩
        · refine ls_cT rfl g20 ?_
          refine ls_rs tbOk ?_
          refine evs (ev_ac rfl nofun rfl (evn ?_))
          refine ls_keep [(6, .bool false)] ⟨kr, trivial⟩ rfl ?_
          refine ls_ret ?_
          have hr := Option.some.inj h
          rw [← hr]
          exact ⟨.inl rfl, rfl⟩
        · refine ls_cF rfl g20 ?_
          refine ls_skip ?_
          refine hK13 _ (ls_keep [(1, .int .i64 a1), (2, .int .i64 a2), (3, .box [.int .i64 a0.1, .arg a0.2.length (a0.2.flatMap c30_a)]), (8, .box [.int .i64 v7.1.1, .own 30 v7.1.2.length (v7.1.2.flatMap c30_o)]), (9, .box [.int .i64 v7.2.1.1, .own 30 v7.2.1.2.length (v7.2.1.2.flatMap c30_o)]), (10, .bool v7.2.2), (11, .box [.int .i64 v9.1, .own 30 v9.2.length (v9.2.flatMap c30_o)]), (12, .box [.int .i64 v11.1.1, .own 30 v11.1.2.length (v11.1.2.flatMap c30_o)]), (13, .box [.int .i64 v11.2.1.1, .own 30 v11.2.1.2.length (v11.2.1.2.flatMap c30_o)]), (14, .bool v11.2.2)] ⟨kr, kr, kr, kr, kr, kr, kr, kr, kr, kr, trivial⟩ rfl ?_)
          refine ls_seq_k fun K21 hK21 => ?_
          refine ls_rd tbOk mixed (by kernel_rfl) ?_
          refine evd rfl rfl (ev_ldB (off := 0) (v := .agg [.int .i64 v9.1, .dat v9.2.length (v9.2.flatMap c30_o)]) rfl rfl rfl rfl (Nat.le_of_ble_eq_true rfl) rfl (evd rfl rfl (ev_ldB (off := 0) (v := .agg [.int .i64 a0.1, .arg a0.2.length (a0.2.flatMap c30_a)]) rfl rfl rfl rfl (Nat.le_of_ble_eq_true rfl) rfl (?_))))
          obtain ⟨v22, g23, h⟩ := ob_some h
          refine evd rfl rfl (ev_call (era rfl (erg (erc rfl (erc (erG ec30_a _) rfl))) eran) (laws_toRelation_s g23) (?_))
          obtain ⟨v24, g25, h⟩ := ob_some h
          refine evd rfl rfl (ev_call (era rfl (erg (erc rfl (erc (erD ec30_o _) rfl))) (era rfl (erg (erc rfl (erc (erO ec30_o _) rfl))) eran)) (laws_eqRelation_s g25) (evd rfl rfl (ev_un (c1 := .bool v24) rfl trivial (evdn ?_))))
          refine ls_keep [(1, .int .i64 a1), (2, .int .i64 a2), (3, .box [.int .i64 a0.1, .arg a0.2.length (a0.2.flatMap c30_a)]), (8, .box [.int .i64 v7.1.1, .own 30 v7.1.2.length (v7.1.2.flatMap c30_o)]), (9, .box [.int .i64 v7.2.1.1, .own 30 v7.2.1.2.length (v7.2.1.2.flatMap c30_o)]), (10, .bool v7.2.2), (11, .box [.int .i64 v9.1, .own 30 v9.2.length (v9.2.flatMap c30_o)]), (12, .box [.int .i64 v11.1.1, .own 30 v11.1.2.length (v11.1.2.flatMap c30_o)]), (13, .box [.int .i64 v11.2.1.1, .own 30 v11.2.1.2.length (v11.2.1.2.flatMap c30_o)]), (14, .bool v11.2.2), (64, .bool (!v24))] ⟨kr, kr, kr, kr, kr, kr, kr, kr, kr, kr, kr, trivial⟩ rfl ?_
          rcases cond_some h with ⟨g26, h⟩ | ⟨g26, h⟩
          · refine ls_cT rfl g26 ?_
            refine ls_rs tbOk ?_
            refine evs (ev_ac rfl nofun rfl (evn ?_))
            refine ls_keep [(6, .bool false)] ⟨kr, trivial⟩ rfl ?_
            refine ls_ret ?_
            have hr := Option.some.inj h
            rw [← hr]
            exact ⟨.inl rfl, rfl⟩
          · refine ls_cF rfl g26 ?_
            refine ls_skip ?_
            refine hK21 _ (ls_keep [(1, .int .i64 a1), (2, .int .i64 a2), (3, .box [.int .i64 a0.1, .arg a0.2.length (a0.2.flatMap c30_a)]), (8, .box [.int .i64 v7.1.1, .own 30 v7.1.2.length (v7.1.2.flatMap c30_o)]), (9, .box [.int .i64 v7.2.1.1, .own 30 v7.2.1.2.length (v7.2.1.2.flatMap c30_o)]), (10, .bool v7.2.2), (11, .box [.int .i64 v9.1, .own 30 v9.2.length (v9.2.flatMap c30_o)]), (12, .box [.int .i64 v11.1.1, .own 30 v11.1.2.length (v11.1.2.flatMap c30_o)]), (13, .box [.int .i64 v11.2.1.1, .own 30 v11.2.1.2.length (v11.2.1.2.flatMap c30_o)]), (14, .bool v11.2.2)] ⟨kr, kr, kr, kr, kr, kr, kr, kr, kr, kr, trivial⟩ rfl ?_)
            refine ls_rs tbOk ?_
            refine evs (ev_ac rfl nofun rfl (evn ?_))
            refine ls_keep [(1, .int .i64 a1), (2, .int .i64 a2), (3, .box [.int .i64 a0.1, .arg a0.2.length (a0.2.flatMap c30_a)]), (8, .box [.int .i64 v7.1.1, .own 30 v7.1.2.length (v7.1.2.flatMap c30_o)]), (9, .box [.int .i64 v7.2.1.1, .own 30 v7.2.1.2.length (v7.2.1.2.flatMap c30_o)]), (10, .bool v7.2.2), (11, .box [.int .i64 v9.1, .own 30 v9.2.length (v9.2.flatMap c30_o)]), (12, .box [.int .i64 v11.1.1, .own 30 v11.1.2.length (v11.1.2.flatMap c30_o)]), (13, .box [.int .i64 v11.2.1.1, .own 30 v11.2.1.2.length (v11.2.1.2.flatMap c30_o)]), (14, .bool v11.2.2), (15, .int .i64 1)] ⟨kr, kr, kr, kr, kr, kr, kr, kr, kr, kr, kr, trivial⟩ rfl ?_
            refine ls_keep [(1, .int .i64 a1), (2, .int .i64 a2), (3, .box [.int .i64 a0.1, .arg a0.2.length (a0.2.flatMap c30_a)]), (8, .box [.int .i64 v7.1.1, .own 30 v7.1.2.length (v7.1.2.flatMap c30_o)]), (9, .box [.int .i64 v7.2.1.1, .own 30 v7.2.1.2.length (v7.2.1.2.flatMap c30_o)]), (10, .bool v7.2.2), (11, .box [.int .i64 v9.1, .own 30 v9.2.length (v9.2.flatMap c30_o)]), (12, .box [.int .i64 v11.1.1, .own 30 v11.1.2.length (v11.1.2.flatMap c30_o)]), (13, .box [.int .i64 v11.2.1.1, .own 30 v11.2.1.2.length (v11.2.1.2.flatMap c30_o)]), (14, .bool v11.2.2), (15, .int .i64 1)] ⟨kr, kr, kr, kr, kr, kr, kr, kr, kr, kr, kr, trivial⟩ rfl ?_
            obtain ⟨v27, g28, h⟩ := ob_some h
            refine ls_mark (src_box tbOk rfl rfl rfl) rfl rfl (laws_markRelation_m g28) (dp24 _) (sf_of (sfc rfl (sfc rfl (sfc (scc rfl (scc (sca ad30 _) scn)) (sfc (scc rfl (scc (sco dp30 _) scn)) (sfc (scc rfl (scc (sco dp30 _) scn)) (sfc rfl (sfs (sfc (scc rfl (scc (sco dp30 _) scn)) (sfc (scc rfl (scc (sco dp30 _) scn)) (sfc rfl (sfc rfl sfn)))))))))))) rfl rfl ⟨by decide, by decide⟩ rfl ?_
            refine ls_keep [(1, .int .i64 a1), (2, .int .i64 a2), (3, .box [.int .i64 a0.1, .arg a0.2.length (a0.2.flatMap c30_a)]), (8, .box [.int .i64 v7.1.1, .own 30 v7.1.2.length (v7.1.2.flatMap c30_o)]), (9, .box [.int .i64 v7.2.1.1, .own 30 v7.2.1.2.length (v7.2.1.2.flatMap c30_o)]), (10, .bool v7.2.2), (12, .box [.int .i64 v11.1.1, .own 30 v11.1.2.length (v11.1.2.flatMap c30_o)]), (13, .box [.int .i64 v11.2.1.1, .own 30 v11.2.1.2.length (v11.2.1.2.flatMap c30_o)]), (14, .bool v11.2.2), (15, .int .i64 v27.2)] ⟨kr, kr, kr, kr, kr, kr, kr, kr, kr, kr, trivial⟩ rfl ?_
            refine ls_seq_k fun K29 hK29 => ?_
            refine ls_rs tbOk ?_
            refine evs (ev_mv (c := .int .i64 v27.2) rfl rfl rfl (evs (ev_bin (c1 := .int .i64 v27.2) (c2 := .int .i64 0) rfl rfl rfl (evs (ev_mv (c := .bool (decide (v27.2 < 0))) rfl rfl rfl (?_))))))
            rcases cond_some h with ⟨g30, h⟩ | ⟨g30, h⟩
            · refine evs (ev_gs rfl rfl (isb_T g30) (evs (ev_gs rfl rfl (isb_T g30) (evs (ev_gs rfl rfl (isb_T g30) (evs (ev_gs rfl rfl (isb_T g30) (evs (ev_pkT (c1 := .bool true) rfl g30 rfl rfl (evs (ev_mv (c := .bool true) rfl rfl rfl (evs (ev_gs rfl rfl rfl (evs (ev_gs rfl rfl rfl (evs (ev_gs rfl rfl rfl (evs (ev_gs rfl rfl rfl (evs (ev_pkT (c1 := .bool true) rfl rfl rfl rfl (evs (ev_mv (c := .bool true) rfl rfl rfl (evs (ev_gs rfl rfl rfl (evs (ev_gs rfl rfl rfl (evs (ev_gs rfl rfl rfl (evs (ev_pkT (c1 := .bool true) rfl rfl rfl rfl (evn ?_))))))))))))))))))))))))))))))))
              refine ls_keep [(1, .int .i64 a1), (2, .int .i64 a2), (3, .box [.int .i64 a0.1, .arg a0.2.length (a0.2.flatMap c30_a)]), (8, .box [.int .i64 v7.1.1, .own 30 v7.1.2.length (v7.1.2.flatMap c30_o)]), (9, .box [.int .i64 v7.2.1.1, .own 30 v7.2.1.2.length (v7.2.1.2.flatMap c30_o)]), (10, .bool v7.2.2), (12, .box [.int .i64 v11.1.1, .own 30 v11.1.2.length (v11.1.2.flatMap c30_o)]), (13, .box [.int .i64 v11.2.1.1, .own 30 v11.2.1.2.length (v11.2.1.2.flatMap c30_o)]), (86, .bool true)] ⟨kr, kr, kr, kr, kr, kr, kr, kr, kr, trivial⟩ rfl ?_
              refine ls_cT rfl rfl ?_
              refine ls_rs tbOk ?_
              refine evs (ev_ac rfl nofun rfl (evn ?_))
              refine ls_keep [(6, .bool false)] ⟨kr, trivial⟩ rfl ?_
              refine ls_ret ?_
              have hr := Option.some.inj h
              rw [← hr]
              exact ⟨.inl rfl, rfl⟩
            · refine evs (ev_gr rfl (congrArg V.bool g30) (ev_ldB (off := 0) (v := .agg [.int .i64 v11.1.1, .dat v11.1.2.length (v11.1.2.flatMap c30_o)]) rfl rfl rfl rfl (Nat.le_of_ble_eq_true rfl) rfl (evs (ev_gr rfl (congrArg V.bool g30) (ev_ldB (off := 0) (v := .agg [.int .i64 v7.1.1, .dat v7.1.2.length (v7.1.2.flatMap c30_o)]) rfl rfl rfl rfl (Nat.le_of_ble_eq_true rfl) rfl (?_))))))
              obtain ⟨v31, g32, h⟩ := ob_some h
              refine evs (ev_gr rfl (congrArg V.bool g30) (ev_call (era rfl (erg (erc rfl (erc (erD ec30_o _) rfl))) (era rfl (erg (erc rfl (erc (erD ec30_o _) rfl))) eran)) (laws_eqRelation_s g32) (evs (ev_gr rfl (congrArg V.bool g30) (ev_un (c1 := .bool v31) rfl trivial (evs (ev_pkF (c1 := .bool (!v31)) rfl g30 rfl rfl (evs (ev_mv (c := .bool (!v31)) rfl rfl rfl (?_))))))))))
              rcases cond_some h with ⟨g33, h⟩ | ⟨g33, h⟩
              · refine evs (ev_gs rfl rfl (isb_T g33) (evs (ev_gs rfl rfl (isb_T g33) (evs (ev_gs rfl rfl (isb_T g33) (evs (ev_gs rfl rfl (isb_T g33) (evs (ev_pkT (c1 := .bool true) rfl g33 rfl rfl (evs (ev_mv (c := .bool true) rfl rfl rfl (evs (ev_gs rfl rfl rfl (evs (ev_gs rfl rfl rfl (evs (ev_gs rfl rfl rfl (evs (ev_pkT (c1 := .bool true) rfl rfl rfl rfl (evn ?_))))))))))))))))))))
                refine ls_keep [(1, .int .i64 a1), (2, .int .i64 a2), (3, .box [.int .i64 a0.1, .arg a0.2.length (a0.2.flatMap c30_a)]), (8, .box [.int .i64 v7.1.1, .own 30 v7.1.2.length (v7.1.2.flatMap c30_o)]), (9, .box [.int .i64 v7.2.1.1, .own 30 v7.2.1.2.length (v7.2.1.2.flatMap c30_o)]), (10, .bool v7.2.2), (12, .box [.int .i64 v11.1.1, .own 30 v11.1.2.length (v11.1.2.flatMap c30_o)]), (13, .box [.int .i64 v11.2.1.1, .own 30 v11.2.1.2.length (v11.2.1.2.flatMap c30_o)]), (86, .bool true)] ⟨kr, kr, kr, kr, kr, kr, kr, kr, kr, trivial⟩ rfl ?_
                refine ls_cT rfl rfl ?_
                refine ls_rs tbOk ?_
                refine evs (ev_ac rfl nofun rfl (evn ?_))
                refine ls_keep [(6, .bool false)] ⟨kr, trivial⟩ rfl ?_
                refine ls_ret ?_
                have hr := Option.some.inj h
                rw [← hr]
                exact ⟨.inl rfl, rfl⟩
              · refine evs (ev_gr rfl (congrArg V.bool g33) (ev_ldB (off := 0) (v := .agg [.int .i64 v11.2.1.1, .dat v11.2.1.2.length (v11.2.1.2.flatMap c30_o)]) rfl rfl rfl rfl (Nat.le_of_ble_eq_true rfl) rfl (evs (ev_gr rfl (congrArg V.bool g33) (ev_ldB (off := 0) (v := .agg [.int .i64 v7.2.1.1, .dat v7.2.1.2.length (v7.2.1.2.flatMap c30_o)]) rfl rfl rfl rfl (Nat.le_of_ble_eq_true rfl) rfl (?_))))))
                obtain ⟨v34, g35, h⟩ := ob_some h
                refine evs (ev_gr rfl (congrArg V.bool g33) (ev_call (era rfl (erg (erc rfl (erc (erD ec30_o _) rfl))) (era rfl (erg (erc rfl (erc (erD ec30_o _) rfl))) eran)) (laws_eqRelation_s g35) (evs (ev_gr rfl (congrArg V.bool g33) (ev_un (c1 := .bool v34) rfl trivial (evs (ev_pkF (c1 := .bool (!v34)) rfl g33 rfl rfl (evs (ev_mv (c := .bool (!v34)) rfl rfl rfl (?_))))))))))
                rcases cond_some h with ⟨g36, h⟩ | ⟨g36, h⟩
                · refine evs (ev_gs rfl rfl (isb_T g36) (evs (ev_gs rfl rfl (isb_T g36) (evs (ev_gs rfl rfl (isb_T g36) (evs (ev_pkT (c1 := .bool true) rfl g36 rfl rfl (evn ?_))))))))
                  refine ls_keep [(1, .int .i64 a1), (2, .int .i64 a2), (3, .box [.int .i64 a0.1, .arg a0.2.length (a0.2.flatMap c30_a)]), (8, .box [.int .i64 v7.1.1, .own 30 v7.1.2.length (v7.1.2.flatMap c30_o)]), (9, .box [.int .i64 v7.2.1.1, .own 30 v7.2.1.2.length (v7.2.1.2.flatMap c30_o)]), (10, .bool v7.2.2), (12, .box [.int .i64 v11.1.1, .own 30 v11.1.2.length (v11.1.2.flatMap c30_o)]), (13, .box [.int .i64 v11.2.1.1, .own 30 v11.2.1.2.length (v11.2.1.2.flatMap c30_o)]), (86, .bool true)] ⟨kr, kr, kr, kr, kr, kr, kr, kr, kr, trivial⟩ rfl ?_
                  refine ls_cT rfl rfl ?_
                  refine ls_rs tbOk ?_
                  refine evs (ev_ac rfl nofun rfl (evn ?_))
                  refine ls_keep [(6, .bool false)] ⟨kr, trivial⟩ rfl ?_
                  refine ls_ret ?_
                  have hr := Option.some.inj h
                  rw [← hr]
                  exact ⟨.inl rfl, rfl⟩
                · refine evs (ev_gr rfl (congrArg V.bool g36) (ev_mv (c := .bool v11.2.2) rfl rfl rfl (evs (ev_gr rfl (congrArg V.bool g36) (ev_mv (c := .bool v7.2.2) rfl rfl rfl (evs (ev_gr rfl (congrArg V.bool g36) (ev_bin (c1 := .bool v11.2.2) (c2 := .bool v7.2.2) rfl rfl rfl (evs (ev_pkF (c1 := .bool (!(v11.2.2 == v7.2.2))) rfl g36 rfl rfl (evn ?_)))))))))))
                  refine ls_keep [(1, .int .i64 a1), (2, .int .i64 a2), (3, .box [.int .i64 a0.1, .arg a0.2.length (a0.2.flatMap c30_a)]), (8, .box [.int .i64 v7.1.1, .own 30 v7.1.2.length (v7.1.2.flatMap c30_o)]), (9, .box [.int .i64 v7.2.1.1, .own 30 v7.2.1.2.length (v7.2.1.2.flatMap c30_o)]), (10, .bool v7.2.2), (12, .box [.int .i64 v11.1.1, .own 30 v11.1.2.length (v11.1.2.flatMap c30_o)]), (13, .box [.int .i64 v11.2.1.1, .own 30 v11.2.1.2.length (v11.2.1.2.flatMap c30_o)]), (86, .bool (!(v11.2.2 == v7.2.2)))] ⟨kr, kr, kr, kr, kr, kr, kr, kr, kr, trivial⟩ rfl ?_
                  rcases cond_some h with ⟨g37, h⟩ | ⟨g37, h⟩
                  · refine ls_cT rfl g37 ?_
                    refine ls_rs tbOk ?_
                    refine evs (ev_ac rfl nofun rfl (evn ?_))
                    refine ls_keep [(6, .bool false)] ⟨kr, trivial⟩ rfl ?_
                    refine ls_ret ?_
                    have hr := Option.some.inj h
                    rw [← hr]
                    exact ⟨.inl rfl, rfl⟩
                  · refine ls_cF rfl g37 ?_
                    refine ls_skip ?_
                    refine hK29 _ (ls_keep [(1, .int .i64 a1), (2, .int .i64 a2), (3, .box [.int .i64 a0.1, .arg a0.2.length (a0.2.flatMap c30_a)]), (8, .box [.int .i64 v7.1.1, .own 30 v7.1.2.length (v7.1.2.flatMap c30_o)]), (9, .box [.int .i64 v7.2.1.1, .own 30 v7.2.1.2.length (v7.2.1.2.flatMap c30_o)]), (10, .bool v7.2.2), (12, .box [.int .i64 v11.1.1, .own 30 v11.1.2.length (v11.1.2.flatMap c30_o)]), (13, .box [.int .i64 v11.2.1.1, .own 30 v11.2.1.2.length (v11.2.1.2.flatMap c30_o)])] ⟨kr, kr, kr, kr, kr, kr, kr, kr, trivial⟩ rfl ?_)
                    refine ls_rs tbOk ?_
                    refine evs (ev_ac rfl nofun rfl (evn ?_))
                    refine ls_keep [(1, .int .i64 a1), (2, .int .i64 a2), (3, .box [.int .i64 a0.1, .arg a0.2.length (a0.2.flatMap c30_a)]), (8, .box [.int .i64 v7.1.1, .own 30 v7.1.2.length (v7.1.2.flatMap c30_o)]), (9, .box [.int .i64 v7.2.1.1, .own 30 v7.2.1.2.length (v7.2.1.2.flatMap c30_o)]), (10, .bool v7.2.2), (12, .box [.int .i64 v11.1.1, .own 30 v11.1.2.length (v11.1.2.flatMap c30_o)]), (13, .box [.int .i64 v11.2.1.1, .own 30 v11.2.1.2.length (v11.2.1.2.flatMap c30_o)]), (16, .int .i64 1)] ⟨kr, kr, kr, kr, kr, kr, kr, kr, kr, trivial⟩ rfl ?_
                    refine ls_keep [(1, .int .i64 a1), (2, .int .i64 a2), (3, .box [.int .i64 a0.1, .arg a0.2.length (a0.2.flatMap c30_a)]), (8, .box [.int .i64 v7.1.1, .own 30 v7.1.2.length (v7.1.2.flatMap c30_o)]), (9, .box [.int .i64 v7.2.1.1, .own 30 v7.2.1.2.length (v7.2.1.2.flatMap c30_o)]), (10, .bool v7.2.2), (12, .box [.int .i64 v11.1.1, .own 30 v11.1.2.length (v11.1.2.flatMap c30_o)]), (13, .box [.int .i64 v11.2.1.1, .own 30 v11.2.1.2.length (v11.2.1.2.flatMap c30_o)]), (16, .int .i64 1)] ⟨kr, kr, kr, kr, kr, kr, kr, kr, kr, trivial⟩ rfl ?_
                    obtain ⟨v38, g39, h⟩ := ob_some h
                    refine ls_mark (src_box tbOk rfl rfl rfl) rfl rfl (laws_markRelation_m g39) (dp24 _) (sf_of (sfc rfl (sfc rfl (sfc (scc rfl (scc (sca ad30 _) scn)) (sfc (scc rfl (scc (sco dp30 _) scn)) (sfc (scc rfl (scc (sco dp30 _) scn)) (sfc rfl (sfs (sfc (scc rfl (scc (sco dp30 _) scn)) (sfc rfl sfn)))))))))) rfl rfl ⟨by decide, by decide⟩ rfl ?_
                    refine ls_keep [(1, .int .i64 a1), (2, .int .i64 a2), (3, .box [.int .i64 a0.1, .arg a0.2.length (a0.2.flatMap c30_a)]), (8, .box [.int .i64 v7.1.1, .own 30 v7.1.2.length (v7.1.2.flatMap c30_o)]), (9, .box [.int .i64 v7.2.1.1, .own 30 v7.2.1.2.length (v7.2.1.2.flatMap c30_o)]), (10, .bool v7.2.2), (12, .box [.int .i64 v38.1.1, .own 30 v38.1.2.length (v38.1.2.flatMap c30_o)]), (13, .box [.int .i64 v11.2.1.1, .own 30 v11.2.1.2.length (v11.2.1.2.flatMap c30_o)]), (16, .int .i64 v38.2)] ⟨kr, kr, kr, kr, kr, kr, kr, kr, kr, trivial⟩ rfl ?_
                    refine ls_keep [(1, .int .i64 a1), (2, .int .i64 a2), (3, .box [.int .i64 a0.1, .arg a0.2.length (a0.2.flatMap c30_a)]), (8, .box [.int .i64 v7.1.1, .own 30 v7.1.2.length (v7.1.2.flatMap c30_o)]), (9, .box [.int .i64 v7.2.1.1, .own 30 v7.2.1.2.length (v7.2.1.2.flatMap c30_o)]), (10, .bool v7.2.2), (12, .box [.int .i64 v38.1.1, .own 30 v38.1.2.length (v38.1.2.flatMap c30_o)]), (13, .box [.int .i64 v11.2.1.1, .own 30 v11.2.1.2.length (v11.2.1.2.flatMap c30_o)]), (16, .int .i64 v38.2)] ⟨kr, kr, kr, kr, kr, kr, kr, kr, kr, trivial⟩ rfl ?_
                    obtain ⟨v40, g41, h⟩ := ob_some h
                    refine ls_mark (src_box tbOk rfl rfl rfl) rfl rfl (laws_markRelation_m g41) (dp24 _) (sf_of (sfc rfl (sfc rfl (sfc (scc rfl (scc (sca ad30 _) scn)) (sfc (scc rfl (scc (sco dp30 _) scn)) (sfc (scc rfl (scc (sco dp30 _) scn)) (sfc rfl (sfc (scc rfl (scc (sco dp30 _) scn)) (sfs (sfc rfl sfn)))))))))) rfl rfl ⟨by decide, by decide⟩ rfl ?_
                    refine ls_keep [(1, .int .i64 a1), (2, .int .i64 a2), (3, .box [.int .i64 a0.1, .arg a0.2.length (a0.2.flatMap c30_a)]), (8, .box [.int .i64 v7.1.1, .own 30 v7.1.2.length (v7.1.2.flatMap c30_o)]), (9, .box [.int .i64 v7.2.1.1, .own 30 v7.2.1.2.length (v7.2.1.2.flatMap c30_o)]), (10, .bool v7.2.2), (12, .box [.int .i64 v38.1.1, .own 30 v38.1.2.length (v38.1.2.flatMap c30_o)]), (13, .box [.int .i64 v40.1.1, .own 30 v40.1.2.length (v40.1.2.flatMap c30_o)]), (16, .int .i64 v40.2)] ⟨kr, kr, kr, kr, kr, kr, kr, kr, kr, trivial⟩ rfl ?_
                    refine ls_rs tbOk ?_
                    refine evs (ev_ac rfl nofun rfl (evn ?_))
                    refine ls_keep [(1, .int .i64 a1), (2, .int .i64 a2), (3, .box [.int .i64 a0.1, .arg a0.2.length (a0.2.flatMap c30_a)]), (8, .box [.int .i64 v7.1.1, .own 30 v7.1.2.length (v7.1.2.flatMap c30_o)]), (9, .box [.int .i64 v7.2.1.1, .own 30 v7.2.1.2.length (v7.2.1.2.flatMap c30_o)]), (10, .bool v7.2.2), (12, .box [.int .i64 v38.1.1, .own 30 v38.1.2.length (v38.1.2.flatMap c30_o)]), (13, .box [.int .i64 v40.1.1, .own 30 v40.1.2.length (v40.1.2.flatMap c30_o)]), (16, .int .i64 v40.2), (17, .int .i64 1)] ⟨kr, kr, kr, kr, kr, kr, kr, kr, kr, kr, trivial⟩ rfl ?_
                    refine ls_rs tbOk ?_
                    refine evs (ev_ldB (off := 0) (v := .agg [.int .i64 v38.1.1, .dat v38.1.2.length (v38.1.2.flatMap c30_o)]) rfl rfl rfl rfl (Nat.le_of_ble_eq_true rfl) rfl (evs (ev_mv (c := .int .i64 1) rfl rfl rfl (?_))))
                    obtain ⟨v42, g43, h⟩ := ob_some h
                    refine evs (ev_call (era rfl (erg (erc rfl (erc (erD ec30_o _) rfl))) (era rfl rfl eran)) (laws_heldRelation_s g43) (evs (ev_as (c := .int .i64 v42) rfl rfl rfl (evn ?_))))
                    refine ls_keep [(1, .int .i64 a1), (2, .int .i64 a2), (3, .box [.int .i64 a0.1, .arg a0.2.length (a0.2.flatMap c30_a)]), (8, .box [.int .i64 v7.1.1, .own 30 v7.1.2.length (v7.1.2.flatMap c30_o)]), (9, .box [.int .i64 v7.2.1.1, .own 30 v7.2.1.2.length (v7.2.1.2.flatMap c30_o)]), (10, .bool v7.2.2), (12, .box [.int .i64 v38.1.1, .own 30 v38.1.2.length (v38.1.2.flatMap c30_o)]), (13, .box [.int .i64 v40.1.1, .own 30 v40.1.2.length (v40.1.2.flatMap c30_o)]), (16, .int .i64 v40.2), (17, .int .i64 v42)] ⟨kr, kr, kr, kr, kr, kr, kr, kr, kr, kr, trivial⟩ rfl ?_
                    refine ls_seq_k fun K44 hK44 => ?_
                    refine ls_rs tbOk ?_
                    refine evs (ev_mv (c := .int .i64 v42) rfl rfl rfl (evs (ev_bin (c1 := .int .i64 v42) (c2 := .int .i64 0) rfl rfl rfl (evn ?_))))
                    refine ls_keep [(1, .int .i64 a1), (2, .int .i64 a2), (3, .box [.int .i64 a0.1, .arg a0.2.length (a0.2.flatMap c30_a)]), (8, .box [.int .i64 v7.1.1, .own 30 v7.1.2.length (v7.1.2.flatMap c30_o)]), (9, .box [.int .i64 v7.2.1.1, .own 30 v7.2.1.2.length (v7.2.1.2.flatMap c30_o)]), (10, .bool v7.2.2), (12, .box [.int .i64 v38.1.1, .own 30 v38.1.2.length (v38.1.2.flatMap c30_o)]), (13, .box [.int .i64 v40.1.1, .own 30 v40.1.2.length (v40.1.2.flatMap c30_o)]), (16, .int .i64 v40.2), (17, .int .i64 v42), (97, .bool (decide (v42 < 0)))] ⟨kr, kr, kr, kr, kr, kr, kr, kr, kr, kr, kr, trivial⟩ rfl ?_
                    rcases cond_some h with ⟨g45, h⟩ | ⟨g45, h⟩
                    · refine ls_cT rfl g45 ?_
                      refine ls_rs tbOk ?_
                      refine evs (ev_ac rfl nofun rfl (evn ?_))
                      refine ls_keep [(6, .bool false)] ⟨kr, trivial⟩ rfl ?_
                      refine ls_ret ?_
                      have hr := Option.some.inj h
                      rw [← hr]
                      exact ⟨.inl rfl, rfl⟩
                    · refine ls_cF rfl g45 ?_
                      refine ls_skip ?_
                      refine hK44 _ (ls_keep [(1, .int .i64 a1), (2, .int .i64 a2), (3, .box [.int .i64 a0.1, .arg a0.2.length (a0.2.flatMap c30_a)]), (8, .box [.int .i64 v7.1.1, .own 30 v7.1.2.length (v7.1.2.flatMap c30_o)]), (9, .box [.int .i64 v7.2.1.1, .own 30 v7.2.1.2.length (v7.2.1.2.flatMap c30_o)]), (10, .bool v7.2.2), (12, .box [.int .i64 v38.1.1, .own 30 v38.1.2.length (v38.1.2.flatMap c30_o)]), (13, .box [.int .i64 v40.1.1, .own 30 v40.1.2.length (v40.1.2.flatMap c30_o)]), (16, .int .i64 v40.2), (17, .int .i64 v42)] ⟨kr, kr, kr, kr, kr, kr, kr, kr, kr, kr, trivial⟩ rfl ?_)
                      refine ls_rs tbOk ?_
                      refine evs (ev_ldB (off := 0) (v := .agg [.int .i64 v40.1.1, .dat v40.1.2.length (v40.1.2.flatMap c30_o)]) rfl rfl rfl rfl (Nat.le_of_ble_eq_true rfl) rfl (evs (ev_mv (c := .int .i64 v42) rfl rfl rfl (?_))))
                      obtain ⟨v46, g47, h⟩ := ob_some h
                      refine evs (ev_call (era rfl (erg (erc rfl (erc (erD ec30_o _) rfl))) (era rfl rfl eran)) (laws_heldRelation_s g47) (evs (ev_as (c := .int .i64 v46) rfl rfl rfl (evn ?_))))
                      refine ls_keep [(1, .int .i64 a1), (2, .int .i64 a2), (3, .box [.int .i64 a0.1, .arg a0.2.length (a0.2.flatMap c30_a)]), (8, .box [.int .i64 v7.1.1, .own 30 v7.1.2.length (v7.1.2.flatMap c30_o)]), (9, .box [.int .i64 v7.2.1.1, .own 30 v7.2.1.2.length (v7.2.1.2.flatMap c30_o)]), (10, .bool v7.2.2), (12, .box [.int .i64 v38.1.1, .own 30 v38.1.2.length (v38.1.2.flatMap c30_o)]), (13, .box [.int .i64 v40.1.1, .own 30 v40.1.2.length (v40.1.2.flatMap c30_o)]), (16, .int .i64 v40.2), (17, .int .i64 v46)] ⟨kr, kr, kr, kr, kr, kr, kr, kr, kr, kr, trivial⟩ rfl ?_
                      refine ls_seq_k fun K48 hK48 => ?_
                      refine ls_rs tbOk ?_
                      refine evs (ev_mv (c := .int .i64 v46) rfl rfl rfl (evs (ev_bin (c1 := .int .i64 v46) (c2 := .int .i64 0) rfl rfl rfl (evn ?_))))
                      refine ls_keep [(1, .int .i64 a1), (2, .int .i64 a2), (3, .box [.int .i64 a0.1, .arg a0.2.length (a0.2.flatMap c30_a)]), (8, .box [.int .i64 v7.1.1, .own 30 v7.1.2.length (v7.1.2.flatMap c30_o)]), (9, .box [.int .i64 v7.2.1.1, .own 30 v7.2.1.2.length (v7.2.1.2.flatMap c30_o)]), (10, .bool v7.2.2), (12, .box [.int .i64 v38.1.1, .own 30 v38.1.2.length (v38.1.2.flatMap c30_o)]), (13, .box [.int .i64 v40.1.1, .own 30 v40.1.2.length (v40.1.2.flatMap c30_o)]), (16, .int .i64 v40.2), (17, .int .i64 v46), (102, .bool (decide (v46 < 0)))] ⟨kr, kr, kr, kr, kr, kr, kr, kr, kr, kr, kr, trivial⟩ rfl ?_
                      rcases cond_some h with ⟨g49, h⟩ | ⟨g49, h⟩
                      · refine ls_cT rfl g49 ?_
                        refine ls_rs tbOk ?_
                        refine evs (ev_ac rfl nofun rfl (evn ?_))
                        refine ls_keep [(6, .bool false)] ⟨kr, trivial⟩ rfl ?_
                        refine ls_ret ?_
                        have hr := Option.some.inj h
                        rw [← hr]
                        exact ⟨.inl rfl, rfl⟩
                      · refine ls_cF rfl g49 ?_
                        refine ls_skip ?_
                        refine hK48 _ (ls_keep [(1, .int .i64 a1), (2, .int .i64 a2), (3, .box [.int .i64 a0.1, .arg a0.2.length (a0.2.flatMap c30_a)]), (8, .box [.int .i64 v7.1.1, .own 30 v7.1.2.length (v7.1.2.flatMap c30_o)]), (9, .box [.int .i64 v7.2.1.1, .own 30 v7.2.1.2.length (v7.2.1.2.flatMap c30_o)]), (10, .bool v7.2.2), (12, .box [.int .i64 v38.1.1, .own 30 v38.1.2.length (v38.1.2.flatMap c30_o)]), (13, .box [.int .i64 v40.1.1, .own 30 v40.1.2.length (v40.1.2.flatMap c30_o)]), (16, .int .i64 v40.2), (17, .int .i64 v46)] ⟨kr, kr, kr, kr, kr, kr, kr, kr, kr, kr, trivial⟩ rfl ?_)
                        refine ls_seq_k fun K50 hK50 => ?_
                        refine ls_rs tbOk ?_
                        refine evs (ev_mv (c := .int .i64 v46) rfl rfl rfl (evs (ev_mv (c := .int .i64 v40.2) rfl rfl rfl (evs (ev_bin (c1 := .int .i64 v46) (c2 := .int .i64 v40.2) rfl rfl rfl (evn ?_))))))
                        refine ls_keep [(1, .int .i64 a1), (2, .int .i64 a2), (3, .box [.int .i64 a0.1, .arg a0.2.length (a0.2.flatMap c30_a)]), (8, .box [.int .i64 v7.1.1, .own 30 v7.1.2.length (v7.1.2.flatMap c30_o)]), (9, .box [.int .i64 v7.2.1.1, .own 30 v7.2.1.2.length (v7.2.1.2.flatMap c30_o)]), (10, .bool v7.2.2), (12, .box [.int .i64 v38.1.1, .own 30 v38.1.2.length (v38.1.2.flatMap c30_o)]), (13, .box [.int .i64 v40.1.1, .own 30 v40.1.2.length (v40.1.2.flatMap c30_o)]), (16, .int .i64 v40.2), (105, .bool (v46 != v40.2))] ⟨kr, kr, kr, kr, kr, kr, kr, kr, kr, kr, trivial⟩ rfl ?_
                        rcases cond_some h with ⟨g51, h⟩ | ⟨g51, h⟩
                        · refine ls_cT rfl g51 ?_
                          refine ls_rs tbOk ?_
                          refine evs (ev_ac rfl nofun rfl (evn ?_))
                          refine ls_keep [(6, .bool false)] ⟨kr, trivial⟩ rfl ?_
                          refine ls_ret ?_
                          have hr := Option.some.inj h
                          rw [← hr]
                          exact ⟨.inl rfl, rfl⟩
                        · refine ls_cF rfl g51 ?_
                          refine ls_skip ?_
                          refine hK50 _ (ls_keep [(1, .int .i64 a1), (2, .int .i64 a2), (3, .box [.int .i64 a0.1, .arg a0.2.length (a0.2.flatMap c30_a)]), (8, .box [.int .i64 v7.1.1, .own 30 v7.1.2.length (v7.1.2.flatMap c30_o)]), (9, .box [.int .i64 v7.2.1.1, .own 30 v7.2.1.2.length (v7.2.1.2.flatMap c30_o)]), (10, .bool v7.2.2), (12, .box [.int .i64 v38.1.1, .own 30 v38.1.2.length (v38.1.2.flatMap c30_o)]), (13, .box [.int .i64 v40.1.1, .own 30 v40.1.2.length (v40.1.2.flatMap c30_o)]), (16, .int .i64 v40.2)] ⟨kr, kr, kr, kr, kr, kr, kr, kr, kr, trivial⟩ rfl ?_)
                          refine ls_rs tbOk ?_
                          refine evs (ev_ldB (off := 0) (v := .agg [.int .i64 a0.1, .arg a0.2.length (a0.2.flatMap c30_a)]) rfl rfl rfl rfl (Nat.le_of_ble_eq_true rfl) rfl (?_))
                          obtain ⟨v52, g53, h⟩ := ob_some h
                          refine evs (ev_call (era rfl (erg (erc rfl (erc (erG ec30_a _) rfl))) eran) (laws_toRelation_s g53) (evs (ev_mv (c := .int .i64 a1) rfl rfl rfl (evs (ev_mv (c := .int .i64 a2) rfl rfl rfl (?_))))))
                          obtain ⟨v54, g55, h⟩ := ob_some h
                          refine evs (ev_call (era rfl (erg (erc rfl (erc (erO ec30_o _) rfl))) (era rfl rfl (era rfl rfl eran))) (impl_SplitHeavy_s g55) (evs (ev_mvt (c := .tup [.agg [.int .i64 v54.1.1, .own 30 v54.1.2.length (v54.1.2.flatMap c30_o)], .agg [.int .i64 v54.2.1.1, .own 30 v54.2.1.2.length (v54.2.1.2.flatMap c30_o)], .bool v54.2.2]) rfl rfl rfl (evs (ev_ext rfl rfl rfl rfl (evs (ev_ext rfl rfl rfl rfl (evs (ev_ext rfl rfl rfl rfl (evs (ev_al rfl rfl (evs (ev_al rfl rfl (evs (ev_st (off := 0) (c1 := .agg [.int .i64 v54.1.1, .own 30 v54.1.2.length (v54.1.2.flatMap c30_o)]) (cs' := [.int .i64 v54.1.1, .own 30 v54.1.2.length (v54.1.2.flatMap c30_o)]) rfl rfl rfl rfl rfl rfl (Nat.le_of_ble_eq_true rfl) rfl (evs (ev_st (off := 0) (c1 := .agg [.int .i64 v54.2.1.1, .own 30 v54.2.1.2.length (v54.2.1.2.flatMap c30_o)]) (cs' := [.int .i64 v54.2.1.1, .own 30 v54.2.1.2.length (v54.2.1.2.flatMap c30_o)]) rfl rfl rfl rfl rfl rfl (Nat.le_of_ble_eq_true rfl) rfl (evs (ev_as (c := .bool v54.2.2) rfl rfl rfl (evn ?_))))))))))))))))))))
                          refine ls_keep [(8, .box [.int .i64 v7.1.1, .own 30 v7.1.2.length (v7.1.2.flatMap c30_o)]), (9, .box [.int .i64 v7.2.1.1, .own 30 v7.2.1.2.length (v7.2.1.2.flatMap c30_o)]), (10, .bool v7.2.2), (12, .box [.int .i64 v38.1.1, .own 30 v38.1.2.length (v38.1.2.flatMap c30_o)]), (13, .box [.int .i64 v40.1.1, .own 30 v40.1.2.length (v40.1.2.flatMap c30_o)]), (16, .int .i64 v40.2), (18, .box [.int .i64 v54.1.1, .own 30 v54.1.2.length (v54.1.2.flatMap c30_o)]), (19, .box [.int .i64 v54.2.1.1, .own 30 v54.2.1.2.length (v54.2.1.2.flatMap c30_o)]), (20, .bool v54.2.2)] ⟨kr, kr, kr, kr, kr, kr, kr, kr, kr, trivial⟩ rfl ?_
                          refine ls_seq_k fun K56 hK56 => ?_
                          refine ls_rs tbOk ?_
                          refine evs (ev_ldB (off := 0) (v := .agg [.int .i64 v54.1.1, .dat v54.1.2.length (v54.1.2.flatMap c30_o)]) rfl rfl rfl rfl (Nat.le_of_ble_eq_true rfl) rfl (evs (ev_ldB (off := 0) (v := .agg [.int .i64 v7.1.1, .dat v7.1.2.length (v7.1.2.flatMap c30_o)]) rfl rfl rfl rfl (Nat.le_of_ble_eq_true rfl) rfl (?_))))
                          obtain ⟨v57, g58, h⟩ := ob_some h
                          refine evs (ev_call (era rfl (erg (erc rfl (erc (erD ec30_o _) rfl))) (era rfl (erg (erc rfl (erc (erD ec30_o _) rfl))) eran)) (laws_eqRelation_s g58) (evs (ev_un (c1 := .bool v57) rfl trivial (evs (ev_mv (c := .bool (!v57)) rfl rfl rfl (?_))))))
                          rcases cond_some h with ⟨g59, h⟩ | ⟨g59, h⟩
                          · refine evs (ev_gs rfl rfl (isb_T g59) (evs (ev_gs rfl rfl (isb_T g59) (evs (ev_gs rfl rfl (isb_T g59) (evs (ev_gs rfl rfl (isb_T g59) (evs (ev_pkT (c1 := .bool true) rfl g59 rfl rfl (evs (ev_mv (c := .bool true) rfl rfl rfl (evs (ev_gs rfl rfl rfl (evs (ev_gs rfl rfl rfl (evs (ev_gs rfl rfl rfl (evs (ev_pkT (c1 := .bool true) rfl rfl rfl rfl (evn ?_))))))))))))))))))))
                            refine ls_keep [(12, .box [.int .i64 v38.1.1, .own 30 v38.1.2.length (v38.1.2.flatMap c30_o)]), (13, .box [.int .i64 v40.1.1, .own 30 v40.1.2.length (v40.1.2.flatMap c30_o)]), (16, .int .i64 v40.2), (129, .bool true)] ⟨kr, kr, kr, kr, trivial⟩ rfl ?_
                            refine ls_cT rfl rfl ?_
                            refine ls_rs tbOk ?_
                            refine evs (ev_ac rfl nofun rfl (evn ?_))
                            refine ls_keep [(6, .bool false)] ⟨kr, trivial⟩ rfl ?_
                            refine ls_ret ?_
                            have hr := Option.some.inj h
                            rw [← hr]
                            exact ⟨.inl rfl, rfl⟩
                          · refine evs (ev_gr rfl (congrArg V.bool g59) (ev_ldB (off := 0) (v := .agg [.int .i64 v54.2.1.1, .dat v54.2.1.2.length (v54.2.1.2.flatMap c30_o)]) rfl rfl rfl rfl (Nat.le_of_ble_eq_true rfl) rfl (evs (ev_gr rfl (congrArg V.bool g59) (ev_ldB (off := 0) (v := .agg [.int .i64 v7.2.1.1, .dat v7.2.1.2.length (v7.2.1.2.flatMap c30_o)]) rfl rfl rfl rfl (Nat.le_of_ble_eq_true rfl) rfl (?_))))))
                            obtain ⟨v60, g61, h⟩ := ob_some h
                            refine evs (ev_gr rfl (congrArg V.bool g59) (ev_call (era rfl (erg (erc rfl (erc (erD ec30_o _) rfl))) (era rfl (erg (erc rfl (erc (erD ec30_o _) rfl))) eran)) (laws_eqRelation_s g61) (evs (ev_gr rfl (congrArg V.bool g59) (ev_un (c1 := .bool v60) rfl trivial (evs (ev_pkF (c1 := .bool (!v60)) rfl g59 rfl rfl (evs (ev_mv (c := .bool (!v60)) rfl rfl rfl (?_))))))))))
                            rcases cond_some h with ⟨g62, h⟩ | ⟨g62, h⟩
                            · refine evs (ev_gs rfl rfl (isb_T g62) (evs (ev_gs rfl rfl (isb_T g62) (evs (ev_gs rfl rfl (isb_T g62) (evs (ev_pkT (c1 := .bool true) rfl g62 rfl rfl (evn ?_))))))))
                              refine ls_keep [(12, .box [.int .i64 v38.1.1, .own 30 v38.1.2.length (v38.1.2.flatMap c30_o)]), (13, .box [.int .i64 v40.1.1, .own 30 v40.1.2.length (v40.1.2.flatMap c30_o)]), (16, .int .i64 v40.2), (129, .bool true)] ⟨kr, kr, kr, kr, trivial⟩ rfl ?_
                              refine ls_cT rfl rfl ?_
                              refine ls_rs tbOk ?_
                              refine evs (ev_ac rfl nofun rfl (evn ?_))
                              refine ls_keep [(6, .bool false)] ⟨kr, trivial⟩ rfl ?_
                              refine ls_ret ?_
                              have hr := Option.some.inj h
                              rw [← hr]
                              exact ⟨.inl rfl, rfl⟩
                            · refine evs (ev_gr rfl (congrArg V.bool g62) (ev_mv (c := .bool v54.2.2) rfl rfl rfl (evs (ev_gr rfl (congrArg V.bool g62) (ev_mv (c := .bool v7.2.2) rfl rfl rfl (evs (ev_gr rfl (congrArg V.bool g62) (ev_bin (c1 := .bool v54.2.2) (c2 := .bool v7.2.2) rfl rfl rfl (evs (ev_pkF (c1 := .bool (!(v54.2.2 == v7.2.2))) rfl g62 rfl rfl (evn ?_)))))))))))
                              refine ls_keep [(12, .box [.int .i64 v38.1.1, .own 30 v38.1.2.length (v38.1.2.flatMap c30_o)]), (13, .box [.int .i64 v40.1.1, .own 30 v40.1.2.length (v40.1.2.flatMap c30_o)]), (16, .int .i64 v40.2), (129, .bool (!(v54.2.2 == v7.2.2)))] ⟨kr, kr, kr, kr, trivial⟩ rfl ?_
                              rcases cond_some h with ⟨g63, h⟩ | ⟨g63, h⟩
                              · refine ls_cT rfl g63 ?_
                                refine ls_rs tbOk ?_
                                refine evs (ev_ac rfl nofun rfl (evn ?_))
                                refine ls_keep [(6, .bool false)] ⟨kr, trivial⟩ rfl ?_
                                refine ls_ret ?_
                                have hr := Option.some.inj h
                                rw [← hr]
                                exact ⟨.inl rfl, rfl⟩
                              · refine ls_cF rfl g63 ?_
                                refine ls_skip ?_
                                refine hK56 _ (ls_keep [(12, .box [.int .i64 v38.1.1, .own 30 v38.1.2.length (v38.1.2.flatMap c30_o)]), (13, .box [.int .i64 v40.1.1, .own 30 v40.1.2.length (v40.1.2.flatMap c30_o)]), (16, .int .i64 v40.2)] ⟨kr, kr, kr, trivial⟩ rfl ?_)
                                refine ls_rs tbOk ?_
                                refine evs (ev_ac rfl nofun rfl (evn ?_))
                                refine ls_keep [(12, .box [.int .i64 v38.1.1, .own 30 v38.1.2.length (v38.1.2.flatMap c30_o)]), (13, .box [.int .i64 v40.1.1, .own 30 v40.1.2.length (v40.1.2.flatMap c30_o)]), (16, .int .i64 v40.2), (17, .int .i64 1)] ⟨kr, kr, kr, kr, trivial⟩ rfl ?_
                                refine ls_rs tbOk ?_
                                refine evs (ev_ldB (off := 0) (v := .agg [.int .i64 v38.1.1, .dat v38.1.2.length (v38.1.2.flatMap c30_o)]) rfl rfl rfl rfl (Nat.le_of_ble_eq_true rfl) rfl (evs (ev_mv (c := .int .i64 1) rfl rfl rfl (?_))))
                                obtain ⟨v64, g65, h⟩ := ob_some h
                                refine evs (ev_call (era rfl (erg (erc rfl (erc (erD ec30_o _) rfl))) (era rfl rfl eran)) (laws_heldRelation_s g65) (evs (ev_as (c := .int .i64 v64) rfl rfl rfl (evn ?_))))
                                refine ls_keep [(13, .box [.int .i64 v40.1.1, .own 30 v40.1.2.length (v40.1.2.flatMap c30_o)]), (16, .int .i64 v40.2), (17, .int .i64 v64)] ⟨kr, kr, kr, trivial⟩ rfl ?_
                                refine ls_seq_k fun K66 hK66 => ?_
                                refine ls_rs tbOk ?_
                                refine evs (ev_mv (c := .int .i64 v64) rfl rfl rfl (evs (ev_bin (c1 := .int .i64 v64) (c2 := .int .i64 0) rfl rfl rfl (evn ?_))))
                                refine ls_keep [(13, .box [.int .i64 v40.1.1, .own 30 v40.1.2.length (v40.1.2.flatMap c30_o)]), (16, .int .i64 v40.2), (17, .int .i64 v64), (134, .bool (decide (v64 < 0)))] ⟨kr, kr, kr, kr, trivial⟩ rfl ?_
                                rcases cond_some h with ⟨g67, h⟩ | ⟨g67, h⟩
                                · refine ls_cT rfl g67 ?_
                                  refine ls_rs tbOk ?_
                                  refine evs (ev_ac rfl nofun rfl (evn ?_))
                                  refine ls_keep [(6, .bool false)] ⟨kr, trivial⟩ rfl ?_
                                  refine ls_ret ?_
                                  have hr := Option.some.inj h
                                  rw [← hr]
                                  exact ⟨.inl rfl, rfl⟩
                                · refine ls_cF rfl g67 ?_
                                  refine ls_skip ?_
                                  refine hK66 _ (ls_keep [(13, .box [.int .i64 v40.1.1, .own 30 v40.1.2.length (v40.1.2.flatMap c30_o)]), (16, .int .i64 v40.2), (17, .int .i64 v64)] ⟨kr, kr, kr, trivial⟩ rfl ?_)
                                  refine ls_rs tbOk ?_
                                  refine evs (ev_ldB (off := 0) (v := .agg [.int .i64 v40.1.1, .dat v40.1.2.length (v40.1.2.flatMap c30_o)]) rfl rfl rfl rfl (Nat.le_of_ble_eq_true rfl) rfl (evs (ev_mv (c := .int .i64 v64) rfl rfl rfl (?_))))
                                  obtain ⟨v68, g69, h⟩ := ob_some h
                                  refine evs (ev_call (era rfl (erg (erc rfl (erc (erD ec30_o _) rfl))) (era rfl rfl eran)) (laws_heldRelation_s g69) (evs (ev_as (c := .int .i64 v68) rfl rfl rfl (evn ?_))))
                                  refine ls_keep [(16, .int .i64 v40.2), (17, .int .i64 v68)] ⟨kr, kr, trivial⟩ rfl ?_
                                  refine ls_seq_k fun K70 hK70 => ?_
                                  refine ls_rs tbOk ?_
                                  refine evs (ev_mv (c := .int .i64 v68) rfl rfl rfl (evs (ev_bin (c1 := .int .i64 v68) (c2 := .int .i64 0) rfl rfl rfl (evn ?_))))
                                  refine ls_keep [(16, .int .i64 v40.2), (17, .int .i64 v68), (139, .bool (decide (v68 < 0)))] ⟨kr, kr, kr, trivial⟩ rfl ?_
                                  rcases cond_some h with ⟨g71, h⟩ | ⟨g71, h⟩
                                  · refine ls_cT rfl g71 ?_
                                    refine ls_rs tbOk ?_
                                    refine evs (ev_ac rfl nofun rfl (evn ?_))
                                    refine ls_keep [(6, .bool false)] ⟨kr, trivial⟩ rfl ?_
                                    refine ls_ret ?_
                                    have hr := Option.some.inj h
                                    rw [← hr]
                                    exact ⟨.inl rfl, rfl⟩
                                  · refine ls_cF rfl g71 ?_
                                    refine ls_skip ?_
                                    refine hK70 _ (ls_keep [(16, .int .i64 v40.2), (17, .int .i64 v68)] ⟨kr, kr, trivial⟩ rfl ?_)
                                    refine ls_seq_k fun K72 hK72 => ?_
                                    refine ls_rs tbOk ?_
                                    refine evs (ev_mv (c := .int .i64 v68) rfl rfl rfl (evs (ev_mv (c := .int .i64 v40.2) rfl rfl rfl (evs (ev_bin (c1 := .int .i64 v68) (c2 := .int .i64 v40.2) rfl rfl rfl (evn ?_))))))
                                    refine ls_keep [(142, .bool (v68 != v40.2))] ⟨kr, trivial⟩ rfl ?_
                                    rcases cond_some h with ⟨g73, h⟩ | ⟨g73, h⟩
                                    · refine ls_cT rfl g73 ?_
                                      refine ls_rs tbOk ?_
                                      refine evs (ev_ac rfl nofun rfl (evn ?_))
                                      refine ls_keep [(6, .bool false)] ⟨kr, trivial⟩ rfl ?_
                                      refine ls_ret ?_
                                      have hr := Option.some.inj h
                                      rw [← hr]
                                      exact ⟨.inl rfl, rfl⟩
                                    · refine ls_cF rfl g73 ?_
                                      refine ls_skip ?_
                                      refine hK72 _ (ls_keep [] trivial rfl ?_)
                                      refine ls_rs tbOk ?_
                                      refine evs (ev_ac rfl nofun rfl (evn ?_))
                                      refine ls_keep [(6, .bool true)] ⟨kr, trivial⟩ rfl ?_
                                      refine ls_ret ?_
                                      have hr := Option.some.inj h
                                      rw [← hr]
                                      exact ⟨.inl rfl, rfl⟩
end Go.Proofs.Ytkmkbpphdalgoaa
