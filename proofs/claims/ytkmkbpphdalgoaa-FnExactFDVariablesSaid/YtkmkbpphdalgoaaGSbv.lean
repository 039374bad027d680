/-
  Functions of the program as typed functions, printed by gen.py, and that the program's functions do what they say. No conditions.
-/
import Derived.Test.YtkmkbpphdalgoaaGSv
namespace Go.Proofs.Ytkmkbpphdalgoaa
open Go.RowKit
set_option linter.unusedVariables false
set_option maxRecDepth 100000
set_option maxHeartbeats 1000000
def laws_FnExactFDVariables (a0 : Int × (List ((List UInt8) × (List Int))) × (List Int)) (a1 : (List UInt8) × (List Int) × Int) : Option (Bool) := obind (laws_szQuery a0 1048576) fun v1 => cond (decide (v1 < 0)) (some true) (obind (laws_szFunctionalDependency a1 v1) fun v5 => cond (decide (v5 < 0)) (some true) (obind (laws_toQuery a0) fun v9 => obind (laws_toFunctionalDependency a1) fun v11 => obind (spec_FDVariables v9 v11) fun v13 => obind (laws_toQuery a0) fun v15 => obind (laws_toFunctionalDependency a1) fun v17 => obind (impl_FDVariables v15 v17) fun v19 => obind (laws_eqIntS v19.1 v13.1) fun v22 => cond (!v22) (some false) (obind (laws_eqIntS v19.2 v13.2) fun v25 => cond (!v25) (some false) (obind (laws_toQuery a0) fun v29 => obind (laws_eqQuery v15 v29) fun v31 => cond (!v31) (some false) (obind (laws_toFunctionalDependency a1) fun v35 => obind (laws_eqFunctionalDependency v17 v35) fun v37 => cond (!v37) (some false) (obind (laws_markQuery v15 1) fun v40 => obind (laws_markFunctionalDependency v17 v40.2) fun v42 => cond (decide (v42.2 < 0)) (some false) (obind (laws_eqIntS v19.1 v13.1) fun v46 => cond (!v46) (some false) (obind (laws_eqIntS v19.2 v13.2) fun v49 => cond (!v49) (some false) (obind (laws_markIntS v19.1 1) fun v52 => obind (laws_markIntS v19.2 v52.2) fun v54 => obind (laws_heldIntS v52.1 1) fun v56 => cond (decide (v56 < 0)) (some false) (obind (laws_heldIntS v54.1 v56) fun v60 => cond (decide (v60 < 0)) (some false) (cond (v60 != v54.2) (some false) (obind (laws_toQuery a0) fun v66 => obind (laws_toFunctionalDependency a1) fun v68 => obind (impl_FDVariables v66 v68) fun v70 => obind (laws_eqIntS v70.1 v13.1) fun v73 => cond (!v73) (some false) (obind (laws_eqIntS v70.2 v13.2) fun v76 => cond (!v76) (some false) (obind (laws_heldIntS v52.1 1) fun v79 => cond (decide (v79 < 0)) (some false) (obind (laws_heldIntS v54.1 v79) fun v83 => cond (decide (v83 < 0)) (some false) (cond (v83 != v54.2) (some false) (some true)))))))))))))))))
theorem laws_FnExactFDVariables_s {a0 : Int × (List ((List UInt8) × (List Int))) × (List Int)} {a1 : (List UInt8) × (List Int) × Int} {r : Bool} (h : laws_FnExactFDVariables a0 a1 = some r) : SoundAt Try.prog 9 [.agg [.int .i64 a0.1, .arg a0.2.1.length (a0.2.1.flatMap c171_a), .arg a0.2.2.length (a0.2.2.flatMap ci64)], .agg [.str a1.1, .arg a1.2.1.length (a1.2.1.flatMap ci64), .int .i64 a1.2.2]] (.bool r) := by
  unfold laws_FnExactFDVariables at h
  refine sound_lit tbOk lit9 (Nat.le_of_ble_eq_true rfl) rfl ?_
  unfold c9
  refine ls_keep [(0, .agg [.int .i64 a0.1, .arg a0.2.1.length (a0.2.1.flatMap c171_a), .arg a0.2.2.length (a0.2.2.flatMap ci64)]), (1, .agg [.str a1.1, .arg a1.2.1.length (a1.2.1.flatMap ci64), .int .i64 a1.2.2])] ⟨kr, kr, trivial⟩ rfl ?_
  refine ls_rs tbOk ?_
  refine evs (ev_bx (c1 := .agg [.int .i64 a0.1, .arg a0.2.1.length (a0.2.1.flatMap c171_a), .arg a0.2.2.length (a0.2.2.flatMap ci64)]) rfl rfl rfl (evs (ev_bx (c1 := .agg [.str a1.1, .arg a1.2.1.length (a1.2.1.flatMap ci64), .int .i64 a1.2.2]) rfl rfl rfl (evs (ev_ac rfl nofun rfl (evn ?_))))))
  refine ls_keep [(2, .box [.int .i64 a0.1, .arg a0.2.1.length (a0.2.1.flatMap c171_a), .arg a0.2.2.length (a0.2.2.flatMap ci64)]), (3, .box [.str a1.1, .arg a1.2.1.length (a1.2.1.flatMap ci64), .int .i64 a1.2.2])] ⟨kr, kr, trivial⟩ rfl ?_
  refine ls_rs tbOk ?_
  refine evs (ev_ac rfl nofun rfl (evn ?_))
  refine ls_keep [(2, .box [.int .i64 a0.1, .arg a0.2.1.length (a0.2.1.flatMap c171_a), .arg a0.2.2.length (a0.2.2.flatMap ci64)]), (3, .box [.str a1.1, .arg a1.2.1.length (a1.2.1.flatMap ci64), .int .i64 a1.2.2]), (5, .int .i64 1048576)] ⟨kr, kr, kr, trivial⟩ rfl ?_
  refine ls_rs tbOk ?_
  refine evs (ev_ldB (off := 0) (v := .agg [.int .i64 a0.1, .arg a0.2.1.length (a0.2.1.flatMap c171_a), .arg a0.2.2.length (a0.2.2.flatMap ci64)]) rfl rfl rfl rfl (Nat.le_of_ble_eq_true rfl) rfl (evs (ev_mv (c := .int .i64 1048576) rfl rfl rfl (?_))))
  obtain ⟨v1, g2, h⟩ := ob_some h
  refine evs (ev_call (era rfl (erg (erc rfl (erc (erG ec171_a _) (erc (erG eci64 _) rfl)))) (era rfl rfl eran)) (laws_szQuery_s g2) (evs (ev_as (c := .int .i64 v1) rfl rfl rfl (evn ?_))))
  refine ls_keep [(2, .box [.int .i64 a0.1, .arg a0.2.1.length (a0.2.1.flatMap c171_a), .arg a0.2.2.length (a0.2.2.flatMap ci64)]), (3, .box [.str a1.1, .arg a1.2.1.length (a1.2.1.flatMap ci64), .int .i64 a1.2.2]), (5, .int .i64 v1)] ⟨kr, kr, kr, trivial⟩ rfl ?_
  refine ls_seq_k fun K3 hK3 => ?_
  refine ls_rs tbOk ?_
  refine evs (ev_mv (c := .int .i64 v1) rfl rfl rfl (evs (ev_bin (c1 := .int .i64 v1) (c2 := .int .i64 0) rfl rfl rfl (evn ?_))))
  refine ls_keep [(2, .box [.int .i64 a0.1, .arg a0.2.1.length (a0.2.1.flatMap c171_a), .arg a0.2.2.length (a0.2.2.flatMap ci64)]), (3, .box [.str a1.1, .arg a1.2.1.length (a1.2.1.flatMap ci64), .int .i64 a1.2.2]), (5, .int .i64 v1), (21, .bool (decide (v1 < 0)))] ⟨kr, kr, kr, kr, trivial⟩ rfl ?_
  rcases cond_some h with ⟨g4, h⟩ | ⟨g4, h⟩
  · refine ls_cT rfl g4 ?_
    refine ls_rs tbOk ?_
    refine evs (ev_ac rfl nofun rfl (evn ?_))
    refine ls_keep [(4, .bool true)] ⟨kr, trivial⟩ rfl ?_
    refine ls_ret ?_
    have hr := Option.some.inj h
    rw [← hr]
    exact ⟨.inl rfl, rfl⟩
  · refine ls_cF rfl g4 ?_
    refine ls_skip ?_
    refine hK3 _ (ls_keep [(2, .box [.int .i64 a0.1, .arg a0.2.1.length (a0.2.1.flatMap c171_a), .arg a0.2.2.length (a0.2.2.flatMap ci64)]), (3, .box [.str a1.1, .arg a1.2.1.length (a1.2.1.flatMap ci64), .int .i64 a1.2.2]), (5, .int .i64 v1)] ⟨kr, kr, kr, trivial⟩ rfl ?_)
    refine ls_rs tbOk ?_
    refine evs (ev_ldB (off := 0) (v := .agg [.str a1.1, .arg a1.2.1.length (a1.2.1.flatMap ci64), .int .i64 a1.2.2]) rfl rfl rfl rfl (Nat.le_of_ble_eq_true rfl) rfl (evs (ev_mv (c := .int .i64 v1) rfl rfl rfl (?_))))
    obtain ⟨v5, g6, h⟩ := ob_some h
    refine evs (ev_call (era rfl (erg (erc rfl (erc (erG eci64 _) (erc rfl rfl)))) (era rfl rfl eran)) (laws_szFunctionalDependency_s g6) (evs (ev_as (c := .int .i64 v5) rfl rfl rfl (evn ?_))))
    refine ls_keep [(2, .box [.int .i64 a0.1, .arg a0.2.1.length (a0.2.1.flatMap c171_a), .arg a0.2.2.length (a0.2.2.flatMap ci64)]), (3, .box [.str a1.1, .arg a1.2.1.length (a1.2.1.flatMap ci64), .int .i64 a1.2.2]), (5, .int .i64 v5)] ⟨kr, kr, kr, trivial⟩ rfl ?_
    refine ls_seq_k fun K7 hK7 => ?_
    refine ls_rs tbOk ?_
    refine evs (ev_mv (c := .int .i64 v5) rfl rfl rfl (evs (ev_bin (c1 := .int .i64 v5) (c2 := .int .i64 0) rfl rfl rfl (evn ?_))))
    refine ls_keep [(2, .box [.int .i64 a0.1, .arg a0.2.1.length (a0.2.1.flatMap c171_a), .arg a0.2.2.length (a0.2.2.flatMap ci64)]), (3, .box [.str a1.1, .arg a1.2.1.length (a1.2.1.flatMap ci64), .int .i64 a1.2.2]), (26, .bool (decide (v5 < 0)))] ⟨kr, kr, kr, trivial⟩ rfl ?_
    rcases cond_some h with ⟨g8, h⟩ | ⟨g8, h⟩
    · refine ls_cT rfl g8 ?_
      refine ls_rs tbOk ?_
      refine evs (ev_ac rfl nofun rfl (evn ?_))
      refine ls_keep [(4, .bool true)] ⟨kr, trivial⟩ rfl ?_
      refine ls_ret ?_
      have hr := Option.some.inj h
      rw [← hr]
      exact ⟨.inl rfl, rfl⟩
    · refine ls_cF rfl g8 ?_
      refine ls_skip ?_
      refine hK7 _ (ls_keep [(2, .box [.int .i64 a0.1, .arg a0.2.1.length (a0.2.1.flatMap c171_a), .arg a0.2.2.length (a0.2.2.flatMap ci64)]), (3, .box [.str a1.1, .arg a1.2.1.length (a1.2.1.flatMap ci64), .int .i64 a1.2.2])] ⟨kr, kr, trivial⟩ rfl ?_)
      refine ls_rd tbOk mixed (by kernel_rfl) ?_
      refine evd rfl rfl (ev_ldB (off := 0) (v := .agg [.int .i64 a0.1, .arg a0.2.1.length (a0.2.1.flatMap c171_a), .arg a0.2.2.length (a0.2.2.flatMap ci64)]) rfl rfl rfl rfl (Nat.le_of_ble_eq_true rfl) rfl (?_))
      obtain ⟨v9, g10, h⟩ := ob_some h
      refine evd rfl rfl (ev_call (era rfl (erg (erc rfl (erc (erG ec171_a _) (erc (erG eci64 _) rfl)))) eran) (laws_toQuery_s g10) (evd rfl rfl (ev_ldB (off := 0) (v := .agg [.str a1.1, .arg a1.2.1.length (a1.2.1.flatMap ci64), .int .i64 a1.2.2]) rfl rfl rfl rfl (Nat.le_of_ble_eq_true rfl) rfl (?_))))
      obtain ⟨v11, g12, h⟩ := ob_some h
      refine evd rfl rfl (ev_call (era rfl (erg (erc rfl (erc (erG eci64 _) (erc rfl rfl)))) eran) (laws_toFunctionalDependency_s g12) (?_))
      obtain ⟨v13, g14, h⟩ := ob_some h
      refine evd rfl rfl (ev_call (era rfl (erg (erc rfl (erc (erO ec150_o _) (erc (erO eci64 _) rfl)))) (era rfl (erg (erc rfl (erc (erO eci64 _) (erc rfl rfl)))) eran)) (spec_FDVariables_s g14) (evd rfl rfl (ev_mvt (c := .tup [.own 3 v13.1.length (v13.1.flatMap ci64), .own 3 v13.2.length (v13.2.flatMap ci64)]) rfl rfl rfl (evd rfl rfl (ev_ext rfl rfl rfl rfl (evd rfl rfl (ev_ext rfl rfl rfl rfl (evd rfl rfl (ev_as (c := .own 3 v13.1.length (v13.1.flatMap ci64)) rfl rfl rfl (evd rfl rfl (ev_as (c := .own 3 v13.2.length (v13.2.flatMap ci64)) rfl rfl rfl (evdn ?_))))))))))))
      refine ls_keep [(2, .box [.int .i64 a0.1, .arg a0.2.1.length (a0.2.1.flatMap c171_a), .arg a0.2.2.length (a0.2.2.flatMap ci64)]), (3, .box [.str a1.1, .arg a1.2.1.length (a1.2.1.flatMap ci64), .int .i64 a1.2.2]), (6, .own 3 v13.1.length (v13.1.flatMap ci64)), (7, .own 3 v13.2.length (v13.2.flatMap ci64))] ⟨kr, kr, kr, kr, trivial⟩ rfl ?_
      refine ls_rs tbOk ?_
      refine evs (ev_ldB (off := 0) (v := .agg [.int .i64 a0.1, .arg a0.2.1.length (a0.2.1.flatMap c171_a), .arg a0.2.2.length (a0.2.2.flatMap ci64)]) rfl rfl rfl rfl (Nat.le_of_ble_eq_true rfl) rfl (?_))
      obtain ⟨v15, g16, h⟩ := ob_some h
      refine evs (ev_call (era rfl (erg (erc rfl (erc (erG ec171_a _) (erc (erG eci64 _) rfl)))) eran) (laws_toQuery_s g16) (evs (ev_al rfl rfl (evs (ev_st (off := 0) (c1 := .agg [.int .i64 v15.1, .own 150 v15.2.1.length (v15.2.1.flatMap c150_o), .own 3 v15.2.2.length (v15.2.2.flatMap ci64)]) (cs' := [.int .i64 v15.1, .own 150 v15.2.1.length (v15.2.1.flatMap c150_o), .own 3 v15.2.2.length (v15.2.2.flatMap ci64)]) rfl rfl rfl rfl rfl rfl (Nat.le_of_ble_eq_true rfl) rfl (evn ?_))))))
      refine ls_keep [(2, .box [.int .i64 a0.1, .arg a0.2.1.length (a0.2.1.flatMap c171_a), .arg a0.2.2.length (a0.2.2.flatMap ci64)]), (3, .box [.str a1.1, .arg a1.2.1.length (a1.2.1.flatMap ci64), .int .i64 a1.2.2]), (6, .own 3 v13.1.length (v13.1.flatMap ci64)), (7, .own 3 v13.2.length (v13.2.flatMap ci64)), (8, .box [.int .i64 v15.1, .own 150 v15.2.1.length (v15.2.1.flatMap c150_o), .own 3 v15.2.2.length (v15.2.2.flatMap ci64)])] ⟨kr, kr, kr, kr, kr, trivial⟩ rfl ?_
      refine ls_rs tbOk ?_
      refine evs (ev_ldB (off := 0) (v := .agg [.str a1.1, .arg a1.2.1.length (a1.2.1.flatMap ci64), .int .i64 a1.2.2]) rfl rfl rfl rfl (Nat.le_of_ble_eq_true rfl) rfl (?_))
      obtain ⟨v17, g18, h⟩ := ob_some h
      refine evs (ev_call (era rfl (erg (erc rfl (erc (erG eci64 _) (erc rfl rfl)))) eran) (laws_toFunctionalDependency_s g18) (evs (ev_al rfl rfl (evs (ev_st (off := 0) (c1 := .agg [.str v17.1, .own 3 v17.2.1.length (v17.2.1.flatMap ci64), .int .i64 v17.2.2]) (cs' := [.str v17.1, .own 3 v17.2.1.length (v17.2.1.flatMap ci64), .int .i64 v17.2.2]) rfl rfl rfl rfl rfl rfl (Nat.le_of_ble_eq_true rfl) rfl (evn ?_))))))
      refine ls_keep [(2, .box [.int .i64 a0.1, .arg a0.2.1.length (a0.2.1.flatMap c171_a), .arg a0.2.2.length (a0.2.2.flatMap ci64)]), (3, .box [.str a1.1, .arg a1.2.1.length (a1.2.1.flatMap ci64), .int .i64 a1.2.2]), (6, .own 3 v13.1.length (v13.1.flatMap ci64)), (7, .own 3 v13.2.length (v13.2.flatMap ci64)), (8, .box [.int .i64 v15.1, .own 150 v15.2.1.length (v15.2.1.flatMap c150_o), .own 3 v15.2.2.length (v15.2.2.flatMap ci64)]), (9, .box [.str v17.1, .own 3 v17.2.1.length (v17.2.1.flatMap ci64), .int .i64 v17.2.2])] ⟨kr, kr, kr, kr, kr, kr, trivial⟩ rfl ?_
      refine ls_rs tbOk ?_
      refine evs (ev_ldB (off := 0) (v := .agg [.int .i64 v15.1, .dat v15.2.1.length (v15.2.1.flatMap c150_o), .dat v15.2.2.length (v15.2.2.flatMap ci64)]) rfl rfl rfl rfl (Nat.le_of_ble_eq_true rfl) rfl (evs (ev_ldB (off := 0) (v := .agg [.str v17.1, .dat v17.2.1.length (v17.2.1.flatMap ci64), .int .i64 v17.2.2]) rfl rfl rfl rfl (Nat.le_of_ble_eq_true rfl) rfl (?_))))
      obtain ⟨v19, g20, h⟩ := ob_some h
      refine evs (ev_call (era rfl (erg (erc rfl (erc (erD ec150_o _) (erc (erD eci64 _) rfl)))) (era rfl (erg (erc rfl (erc (erD eci64 _) (erc rfl rfl)))) eran)) (impl_FDVariables_s g20) (evs (ev_mvt (c := .tup [.own 3 v19.1.length (v19.1.flatMap ci64), .own 3 v19.2.length (v19.2.flatMap ci64)]) rfl rfl rfl (evs (ev_ext rfl rfl rfl rfl (evs (ev_ext rfl rfl rfl rfl (evs (ev_as (c := .own 3 v19.1.length (v19.1.flatMap ci64)) rfl rfl rfl (evs (ev_as (c := .own 3 v19.2.length (v19.2.flatMap ci64)) rfl rfl rfl (evn ?_))))))))))))
      refine ls_keep [(2, .box [.int .i64 a0.1, .arg a0.2.1.length (a0.2.1.flatMap c171_a), .arg a0.2.2.length (a0.2.2.flatMap ci64)]), (3, .box [.str a1.1, .arg a1.2.1.length (a1.2.1.flatMap ci64), .int .i64 a1.2.2]), (6, .own 3 v13.1.length (v13.1.flatMap ci64)), (7, .own 3 v13.2.length (v13.2.flatMap ci64)), (8, .box [.int .i64 v15.1, .own 150 v15.2.1.length (v15.2.1.flatMap c150_o), .own 3 v15.2.2.length (v15.2.2.flatMap ci64)]), (9, .box [.str v17.1, .own 3 v17.2.1.length (v17.2.1.flatMap ci64), .int .i64 v17.2.2]), (10, .own 3 v19.1.length (v19.1.flatMap ci64)), (11, .own 3 v19.2.length (v19.2.flatMap ci64))] ⟨kr, kr, kr, kr, kr, kr, kr, kr, trivial⟩ rfl ?_
      refine ls_seq_k fun K21 hK21 => ?_
      refine ls_rs tbOk ?_
      refine evs (ev_mv (c := .own 3 v19.1.length (v19.1.flatMap ci64)) rfl rfl rfl (evs (ev_mv (c := .own 3 v13.1.length (v13.1.flatMap ci64)) rfl rfl rfl (?_))))
      obtain ⟨v22, g23, h⟩ := ob_some h
      refine evs (ev_call (era rfl (erD eci64 _) (era rfl (erD eci64 _) eran)) (laws_eqIntS_s g23) (evs (ev_un (c1 := .bool v22) rfl trivial (evs (ev_mv (c := .bool (!v22)) rfl rfl rfl (?_))))))
      rcases cond_some h with ⟨g24, h⟩ | ⟨g24, h⟩
      · refine evs (ev_gs rfl rfl (isb_T g24) (evs (ev_gs rfl rfl (isb_T g24) (evs (ev_gs rfl rfl (isb_T g24) (evs (ev_gs rfl rfl (isb_T g24) (evs (ev_pkT (c1 := .bool true) rfl g24 rfl rfl (evn ?_))))))))))
        refine ls_keep [(2, .box [.int .i64 a0.1, .arg a0.2.1.length (a0.2.1.flatMap c171_a), .arg a0.2.2.length (a0.2.2.flatMap ci64)]), (3, .box [.str a1.1, .arg a1.2.1.length (a1.2.1.flatMap ci64), .int .i64 a1.2.2]), (6, .own 3 v13.1.length (v13.1.flatMap ci64)), (7, .own 3 v13.2.length (v13.2.flatMap ci64)), (8, .box [.int .i64 v15.1, .own 150 v15.2.1.length (v15.2.1.flatMap c150_o), .own 3 v15.2.2.length (v15.2.2.flatMap ci64)]), (9, .box [.str v17.1, .own 3 v17.2.1.length (v17.2.1.flatMap ci64), .int .i64 v17.2.2]), (10, .own 3 v19.1.length (v19.1.flatMap ci64)), (11, .own 3 v19.2.length (v19.2.flatMap ci64)), (54, .bool true)] ⟨kr, kr, kr, kr, kr, kr, kr, kr, kr, trivial⟩ rfl ?_
        refine ls_cT rfl rfl ?_
        refine ls_rs tbOk ?_
        refine evs (ev_ac rfl nofun rfl (evn ?_))
        refine ls_keep [(4, .bool false)] ⟨kr, trivial⟩ rfl ?_
        refine ls_ret ?_
        have hr := Option.some.inj h
        rw [← hr]
        exact ⟨.inl rfl, rfl⟩
      · refine evs (ev_gr rfl (congrArg V.bool g24) (ev_mv (c := .own 3 v19.2.length (v19.2.flatMap ci64)) rfl rfl rfl (evs (ev_gr rfl (congrArg V.bool g24) (ev_mv (c := .own 3 v13.2.length (v13.2.flatMap ci64)) rfl rfl rfl (?_))))))
        obtain ⟨v25, g26, h⟩ := ob_some h
        refine evs (ev_gr rfl (congrArg V.bool g24) (ev_call (era rfl (erD eci64 _) (era rfl (erD eci64 _) eran)) (laws_eqIntS_s g26) (evs (ev_gr rfl (congrArg V.bool g24) (ev_un (c1 := .bool v25) rfl trivial (evs (ev_pkF (c1 := .bool (!v25)) rfl g24 rfl rfl (evn ?_))))))))
        refine ls_keep [(2, .box [.int .i64 a0.1, .arg a0.2.1.length (a0.2.1.flatMap c171_a), .arg a0.2.2.length (a0.2.2.flatMap ci64)]), (3, .box [.str a1.1, .arg a1.2.1.length (a1.2.1.flatMap ci64), .int .i64 a1.2.2]), (6, .own 3 v13.1.length (v13.1.flatMap ci64)), (7, .own 3 v13.2.length (v13.2.flatMap ci64)), (8, .box [.int .i64 v15.1, .own 150 v15.2.1.length (v15.2.1.flatMap c150_o), .own 3 v15.2.2.length (v15.2.2.flatMap ci64)]), (9, .box [.str v17.1, .own 3 v17.2.1.length (v17.2.1.flatMap ci64), .int .i64 v17.2.2]), (10, .own 3 v19.1.length (v19.1.flatMap ci64)), (11, .own 3 v19.2.length (v19.2.flatMap ci64)), (54, .bool (!v25))] ⟨kr, kr, kr, kr, kr, kr, kr, kr, kr, trivial⟩ rfl ?_
        rcases cond_some h with ⟨g27, h⟩ | ⟨g27, h⟩
        · refine ls_cT rfl g27 ?_
          refine ls_rs tbOk ?_
          refine evs (ev_ac rfl nofun rfl (evn ?_))
          refine ls_keep [(4, .bool false)] ⟨kr, trivial⟩ rfl ?_
          refine ls_ret ?_
          have hr := Option.some.inj h
          rw [← hr]
          exact ⟨.inl rfl, rfl⟩
        · refine ls_cF rfl g27 ?_
          refine ls_skip ?_
          refine hK21 _ (ls_keep [(2, .box [.int .i64 a0.1, .arg a0.2.1.length (a0.2.1.flatMap c171_a), .arg a0.2.2.length (a0.2.2.flatMap ci64)]), (3, .box [.str a1.1, .arg a1.2.1.length (a1.2.1.flatMap ci64), .int .i64 a1.2.2]), (6, .own 3 v13.1.length (v13.1.flatMap ci64)), (7, .own 3 v13.2.length (v13.2.flatMap ci64)), (8, .box [.int .i64 v15.1, .own 150 v15.2.1.length (v15.2.1.flatMap c150_o), .own 3 v15.2.2.length (v15.2.2.flatMap ci64)]), (9, .box [.str v17.1, .own 3 v17.2.1.length (v17.2.1.flatMap ci64), .int .i64 v17.2.2]), (10, .own 3 v19.1.length (v19.1.flatMap ci64)), (11, .own 3 v19.2.length (v19.2.flatMap ci64))] ⟨kr, kr, kr, kr, kr, kr, kr, kr, trivial⟩ rfl ?_)
          refine ls_seq_k fun K28 hK28 => ?_
          refine ls_rd tbOk mixed (by kernel_rfl) ?_
          refine evd rfl rfl (ev_ldB (off := 0) (v := .agg [.int .i64 v15.1, .dat v15.2.1.length (v15.2.1.flatMap c150_o), .dat v15.2.2.length (v15.2.2.flatMap ci64)]) rfl rfl rfl rfl (Nat.le_of_ble_eq_true rfl) rfl (evd rfl rfl (ev_ldB (off := 0) (v := .agg [.int .i64 a0.1, .arg a0.2.1.length (a0.2.1.flatMap c171_a), .arg a0.2.2.length (a0.2.2.flatMap ci64)]) rfl rfl rfl rfl (Nat.le_of_ble_eq_true rfl) rfl (?_))))
          obtain ⟨v29, g30, h⟩ := ob_some h
          refine evd rfl rfl (ev_call (era rfl (erg (erc rfl (erc (erG ec171_a _) (erc (erG eci64 _) rfl)))) eran) (laws_toQuery_s g30) (?_))
          obtain ⟨v31, g32, h⟩ := ob_some h
          refine evd rfl rfl (ev_call (era rfl (erg (erc rfl (erc (erD ec150_o _) (erc (erD eci64 _) rfl)))) (era rfl (erg (erc rfl (erc (erO ec150_o _) (erc (erO eci64 _) rfl)))) eran)) (laws_eqQuery_s g32) (evd rfl rfl (ev_un (c1 := .bool v31) rfl trivial (evdn ?_))))
          refine ls_keep [(2, .box [.int .i64 a0.1, .arg a0.2.1.length (a0.2.1.flatMap c171_a), .arg a0.2.2.length (a0.2.2.flatMap ci64)]), (3, .box [.str a1.1, .arg a1.2.1.length (a1.2.1.flatMap ci64), .int .i64 a1.2.2]), (6, .own 3 v13.1.length (v13.1.flatMap ci64)), (7, .own 3 v13.2.length (v13.2.flatMap ci64)), (8, .box [.int .i64 v15.1, .own 150 v15.2.1.length (v15.2.1.flatMap c150_o), .own 3 v15.2.2.length (v15.2.2.flatMap ci64)]), (9, .box [.str v17.1, .own 3 v17.2.1.length (v17.2.1.flatMap ci64), .int .i64 v17.2.2]), (10, .own 3 v19.1.length (v19.1.flatMap ci64)), (11, .own 3 v19.2.length (v19.2.flatMap ci64)), (59, .bool (!v31))] ⟨kr, kr, kr, kr, kr, kr, kr, kr, kr, trivial⟩ rfl ?_
          rcases cond_some h with ⟨g33, h⟩ | ⟨g33, h⟩
          · refine ls_cT rfl g33 ?_
            refine ls_rs tbOk ?_
            refine evs (ev_ac rfl nofun rfl (evn ?_))
            refine ls_keep [(4, .bool false)] ⟨kr, trivial⟩ rfl ?_
            refine ls_ret ?_
            have hr := Option.some.inj h
            rw [← hr]
            exact ⟨.inl rfl, rfl⟩
          · refine ls_cF rfl g33 ?_
            refine ls_skip ?_
            refine hK28 _ (ls_keep [(2, .box [.int .i64 a0.1, .arg a0.2.1.length (a0.2.1.flatMap c171_a), .arg a0.2.2.length (a0.2.2.flatMap ci64)]), (3, .box [.str a1.1, .arg a1.2.1.length (a1.2.1.flatMap ci64), .int .i64 a1.2.2]), (6, .own 3 v13.1.length (v13.1.flatMap ci64)), (7, .own 3 v13.2.length (v13.2.flatMap ci64)), (8, .box [.int .i64 v15.1, .own 150 v15.2.1.length (v15.2.1.flatMap c150_o), .own 3 v15.2.2.length (v15.2.2.flatMap ci64)]), (9, .box [.str v17.1, .own 3 v17.2.1.length (v17.2.1.flatMap ci64), .int .i64 v17.2.2]), (10, .own 3 v19.1.length (v19.1.flatMap ci64)), (11, .own 3 v19.2.length (v19.2.flatMap ci64))] ⟨kr, kr, kr, kr, kr, kr, kr, kr, trivial⟩ rfl ?_)
            refine ls_seq_k fun K34 hK34 => ?_
            refine ls_rd tbOk mixed (by kernel_rfl) ?_
            refine evd rfl rfl (ev_ldB (off := 0) (v := .agg [.str v17.1, .dat v17.2.1.length (v17.2.1.flatMap ci64), .int .i64 v17.2.2]) rfl rfl rfl rfl (Nat.le_of_ble_eq_true rfl) rfl (evd rfl rfl (ev_ldB (off := 0) (v := .agg [.str a1.1, .arg a1.2.1.length (a1.2.1.flatMap ci64), .int .i64 a1.2.2]) rfl rfl rfl rfl (Nat.le_of_ble_eq_true rfl) rfl (?_))))
            obtain ⟨v35, g36, h⟩ := ob_some h
            refine evd rfl rfl (ev_call (era rfl (erg (erc rfl (erc (erG eci64 _) (erc rfl rfl)))) eran) (laws_toFunctionalDependency_s g36) (?_))
            obtain ⟨v37, g38, h⟩ := ob_some h
            refine evd rfl rfl (ev_call (era rfl (erg (erc rfl (erc (erD eci64 _) (erc rfl rfl)))) (era rfl (erg (erc rfl (erc (erO eci64 _) (erc rfl rfl)))) eran)) (laws_eqFunctionalDependency_s g38) (evd rfl rfl (ev_un (c1 := .bool v37) rfl trivial (evdn ?_))))
            refine ls_keep [(2, .box [.int .i64 a0.1, .arg a0.2.1.length (a0.2.1.flatMap c171_a), .arg a0.2.2.length (a0.2.2.flatMap ci64)]), (3, .box [.str a1.1, .arg a1.2.1.length (a1.2.1.flatMap ci64), .int .i64 a1.2.2]), (6, .own 3 v13.1.length (v13.1.flatMap ci64)), (7, .own 3 v13.2.length (v13.2.flatMap ci64)), (8, .box [.int .i64 v15.1, .own 150 v15.2.1.length (v15.2.1.flatMap c150_o), .own 3 v15.2.2.length (v15.2.2.flatMap ci64)]), (9, .box [.str v17.1, .own 3 v17.2.1.length (v17.2.1.flatMap ci64), .int .i64 v17.2.2]), (10, .own 3 v19.1.length (v19.1.flatMap ci64)), (11, .own 3 v19.2.length (v19.2.flatMap ci64)), (64, .bool (!v37))] ⟨kr, kr, kr, kr, kr, kr, kr, kr, kr, trivial⟩ rfl ?_
            rcases cond_some h with ⟨g39, h⟩ | ⟨g39, h⟩
            · refine ls_cT rfl g39 ?_
              refine ls_rs tbOk ?_
              refine evs (ev_ac rfl nofun rfl (evn ?_))
              refine ls_keep [(4, .bool false)] ⟨kr, trivial⟩ rfl ?_
              refine ls_ret ?_
              have hr := Option.some.inj h
              rw [← hr]
              exact ⟨.inl rfl, rfl⟩
            · refine ls_cF rfl g39 ?_
              refine ls_skip ?_
              refine hK34 _ (ls_keep [(2, .box [.int .i64 a0.1, .arg a0.2.1.length (a0.2.1.flatMap c171_a), .arg a0.2.2.length (a0.2.2.flatMap ci64)]), (3, .box [.str a1.1, .arg a1.2.1.length (a1.2.1.flatMap ci64), .int .i64 a1.2.2]), (6, .own 3 v13.1.length (v13.1.flatMap ci64)), (7, .own 3 v13.2.length (v13.2.flatMap ci64)), (8, .box [.int .i64 v15.1, .own 150 v15.2.1.length (v15.2.1.flatMap c150_o), .own 3 v15.2.2.length (v15.2.2.flatMap ci64)]), (9, .box [.str v17.1, .own 3 v17.2.1.length (v17.2.1.flatMap ci64), .int .i64 v17.2.2]), (10, .own 3 v19.1.length (v19.1.flatMap ci64)), (11, .own 3 v19.2.length (v19.2.flatMap ci64))] ⟨kr, kr, kr, kr, kr, kr, kr, kr, trivial⟩ rfl ?_)
              refine ls_rs tbOk ?_
              refine evs (ev_ac rfl nofun rfl (evn ?_))
              refine ls_keep [(2, .box [.int .i64 a0.1, .arg a0.2.1.length (a0.2.1.flatMap c171_a), .arg a0.2.2.length (a0.2.2.flatMap ci64)]), (3, .box [.str a1.1, .arg a1.2.1.length (a1.2.1.flatMap ci64), .int .i64 a1.2.2]), (6, .own 3 v13.1.length (v13.1.flatMap ci64)), (7, .own 3 v13.2.length (v13.2.flatMap ci64)), (8, .box [.int .i64 v15.1, .own 150 v15.2.1.length (v15.2.1.flatMap c150_o), .own 3 v15.2.2.length (v15.2.2.flatMap ci64)]), (9, .box [.str v17.1, .own 3 v17.2.1.length (v17.2.1.flatMap ci64), .int .i64 v17.2.2]), (10, .own 3 v19.1.length (v19.1.flatMap ci64)), (11, .own 3 v19.2.length (v19.2.flatMap ci64)), (12, .int .i64 1)] ⟨kr, kr, kr, kr, kr, kr, kr, kr, kr, trivial⟩ rfl ?_
              refine ls_keep [(2, .box [.int .i64 a0.1, .arg a0.2.1.length (a0.2.1.flatMap c171_a), .arg a0.2.2.length (a0.2.2.flatMap ci64)]), (3, .box [.str a1.1, .arg a1.2.1.length (a1.2.1.flatMap ci64), .int .i64 a1.2.2]), (6, .own 3 v13.1.length (v13.1.flatMap ci64)), (7, .own 3 v13.2.length (v13.2.flatMap ci64)), (8, .box [.int .i64 v15.1, .own 150 v15.2.1.length (v15.2.1.flatMap c150_o), .own 3 v15.2.2.length (v15.2.2.flatMap ci64)]), (9, .box [.str v17.1, .own 3 v17.2.1.length (v17.2.1.flatMap ci64), .int .i64 v17.2.2]), (10, .own 3 v19.1.length (v19.1.flatMap ci64)), (11, .own 3 v19.2.length (v19.2.flatMap ci64)), (12, .int .i64 1)] ⟨kr, kr, kr, kr, kr, kr, kr, kr, kr, trivial⟩ rfl ?_
              obtain ⟨v40, g41, h⟩ := ob_some h
              refine ls_mark (src_box tbOk rfl rfl rfl) rfl rfl (laws_markQuery_m g41) (dp56 _) (sf_of (sfc (scc rfl (scc (sca ad171 _) (scc (sca (fun _ => rfl) _) scn))) (sfc (scc rfl (scc (sca (fun _ => rfl) _) (scc rfl scn))) (sfc (deep_flat (fun _ => rfl) _) (sfc (deep_flat (fun _ => rfl) _) (sfs (sfc (scc rfl (scc (sco (fun _ => rfl) _) (scc rfl scn))) (sfc (deep_flat (fun _ => rfl) _) (sfc (deep_flat (fun _ => rfl) _) (sfc rfl sfn)))))))))) rfl rfl ⟨by decide, by decide⟩ rfl ?_
              refine ls_keep [(2, .box [.int .i64 a0.1, .arg a0.2.1.length (a0.2.1.flatMap c171_a), .arg a0.2.2.length (a0.2.2.flatMap ci64)]), (3, .box [.str a1.1, .arg a1.2.1.length (a1.2.1.flatMap ci64), .int .i64 a1.2.2]), (6, .own 3 v13.1.length (v13.1.flatMap ci64)), (7, .own 3 v13.2.length (v13.2.flatMap ci64)), (9, .box [.str v17.1, .own 3 v17.2.1.length (v17.2.1.flatMap ci64), .int .i64 v17.2.2]), (10, .own 3 v19.1.length (v19.1.flatMap ci64)), (11, .own 3 v19.2.length (v19.2.flatMap ci64)), (12, .int .i64 v40.2)] ⟨kr, kr, kr, kr, kr, kr, kr, kr, trivial⟩ rfl ?_
              refine ls_keep [(2, .box [.int .i64 a0.1, .arg a0.2.1.length (a0.2.1.flatMap c171_a), .arg a0.2.2.length (a0.2.2.flatMap ci64)]), (3, .box [.str a1.1, .arg a1.2.1.length (a1.2.1.flatMap ci64), .int .i64 a1.2.2]), (6, .own 3 v13.1.length (v13.1.flatMap ci64)), (7, .own 3 v13.2.length (v13.2.flatMap ci64)), (9, .box [.str v17.1, .own 3 v17.2.1.length (v17.2.1.flatMap ci64), .int .i64 v17.2.2]), (10, .own 3 v19.1.length (v19.1.flatMap ci64)), (11, .own 3 v19.2.length (v19.2.flatMap ci64)), (12, .int .i64 v40.2)] ⟨kr, kr, kr, kr, kr, kr, kr, kr, trivial⟩ rfl ?_
              obtain ⟨v42, g43, h⟩ := ob_some h
              refine ls_mark (src_box tbOk rfl rfl rfl) rfl rfl (laws_markFunctionalDependency_m g43) (dp86 _) (sf_of (sfc (scc rfl (scc (sca ad171 _) (scc (sca (fun _ => rfl) _) scn))) (sfc (scc rfl (scc (sca (fun _ => rfl) _) (scc rfl scn))) (sfc (deep_flat (fun _ => rfl) _) (sfc (deep_flat (fun _ => rfl) _) (sfs (sfc (deep_flat (fun _ => rfl) _) (sfc (deep_flat (fun _ => rfl) _) (sfc rfl sfn))))))))) rfl rfl ⟨by decide, by decide⟩ rfl ?_
              refine ls_keep [(2, .box [.int .i64 a0.1, .arg a0.2.1.length (a0.2.1.flatMap c171_a), .arg a0.2.2.length (a0.2.2.flatMap ci64)]), (3, .box [.str a1.1, .arg a1.2.1.length (a1.2.1.flatMap ci64), .int .i64 a1.2.2]), (6, .own 3 v13.1.length (v13.1.flatMap ci64)), (7, .own 3 v13.2.length (v13.2.flatMap ci64)), (10, .own 3 v19.1.length (v19.1.flatMap ci64)), (11, .own 3 v19.2.length (v19.2.flatMap ci64)), (12, .int .i64 v42.2)] ⟨kr, kr, kr, kr, kr, kr, kr, trivial⟩ rfl ?_
              refine ls_seq_k fun K44 hK44 => ?_
              refine ls_rs tbOk ?_
              refine evs (ev_mv (c := .int .i64 v42.2) rfl rfl rfl (evs (ev_bin (c1 := .int .i64 v42.2) (c2 := .int .i64 0) rfl rfl rfl (evs (ev_mv (c := .bool (decide (v42.2 < 0))) rfl rfl rfl (?_))))))
              rcases cond_some h with ⟨g45, h⟩ | ⟨g45, h⟩
              · refine evs (ev_gs rfl rfl (isb_T g45) (evs (ev_gs rfl rfl (isb_T g45) (evs (ev_gs rfl rfl (isb_T g45) (evs (ev_gs rfl rfl (isb_T g45) (evs (ev_pkT (c1 := .bool true) rfl g45 rfl rfl (evs (ev_mv (c := .bool true) rfl rfl rfl (evs (ev_gs rfl rfl rfl (evs (ev_gs rfl rfl rfl (evs (ev_gs rfl rfl rfl (evs (ev_gs rfl rfl rfl (evs (ev_pkT (c1 := .bool true) rfl rfl rfl rfl (evn ?_))))))))))))))))))))))
                refine ls_keep [(2, .box [.int .i64 a0.1, .arg a0.2.1.length (a0.2.1.flatMap c171_a), .arg a0.2.2.length (a0.2.2.flatMap ci64)]), (3, .box [.str a1.1, .arg a1.2.1.length (a1.2.1.flatMap ci64), .int .i64 a1.2.2]), (6, .own 3 v13.1.length (v13.1.flatMap ci64)), (7, .own 3 v13.2.length (v13.2.flatMap ci64)), (10, .own 3 v19.1.length (v19.1.flatMap ci64)), (11, .own 3 v19.2.length (v19.2.flatMap ci64)), (84, .bool true)] ⟨kr, kr, kr, kr, kr, kr, kr, trivial⟩ rfl ?_
                refine ls_cT rfl rfl ?_
                refine ls_rs tbOk ?_
                refine evs (ev_ac rfl nofun rfl (evn ?_))
                refine ls_keep [(4, .bool false)] ⟨kr, trivial⟩ rfl ?_
                refine ls_ret ?_
                have hr := Option.some.inj h
                rw [← hr]
                exact ⟨.inl rfl, rfl⟩
              · refine evs (ev_gr rfl (congrArg V.bool g45) (ev_mv (c := .own 3 v19.1.length (v19.1.flatMap ci64)) rfl rfl rfl (evs (ev_gr rfl (congrArg V.bool g45) (ev_mv (c := .own 3 v13.1.length (v13.1.flatMap ci64)) rfl rfl rfl (?_))))))
                obtain ⟨v46, g47, h⟩ := ob_some h
                refine evs (ev_gr rfl (congrArg V.bool g45) (ev_call (era rfl (erD eci64 _) (era rfl (erD eci64 _) eran)) (laws_eqIntS_s g47) (evs (ev_gr rfl (congrArg V.bool g45) (ev_un (c1 := .bool v46) rfl trivial (evs (ev_pkF (c1 := .bool (!v46)) rfl g45 rfl rfl (evs (ev_mv (c := .bool (!v46)) rfl rfl rfl (?_))))))))))
                rcases cond_some h with ⟨g48, h⟩ | ⟨g48, h⟩
                · refine evs (ev_gs rfl rfl (isb_T g48) (evs (ev_gs rfl rfl (isb_T g48) (evs (ev_gs rfl rfl (isb_T g48) (evs (ev_gs rfl rfl (isb_T g48) (evs (ev_pkT (c1 := .bool true) rfl g48 rfl rfl (evn ?_))))))))))
                  refine ls_keep [(2, .box [.int .i64 a0.1, .arg a0.2.1.length (a0.2.1.flatMap c171_a), .arg a0.2.2.length (a0.2.2.flatMap ci64)]), (3, .box [.str a1.1, .arg a1.2.1.length (a1.2.1.flatMap ci64), .int .i64 a1.2.2]), (6, .own 3 v13.1.length (v13.1.flatMap ci64)), (7, .own 3 v13.2.length (v13.2.flatMap ci64)), (10, .own 3 v19.1.length (v19.1.flatMap ci64)), (11, .own 3 v19.2.length (v19.2.flatMap ci64)), (84, .bool true)] ⟨kr, kr, kr, kr, kr, kr, kr, trivial⟩ rfl ?_
                  refine ls_cT rfl rfl ?_
                  refine ls_rs tbOk ?_
                  refine evs (ev_ac rfl nofun rfl (evn ?_))
                  refine ls_keep [(4, .bool false)] ⟨kr, trivial⟩ rfl ?_
                  refine ls_ret ?_
                  have hr := Option.some.inj h
                  rw [← hr]
                  exact ⟨.inl rfl, rfl⟩
                · refine evs (ev_gr rfl (congrArg V.bool g48) (ev_mv (c := .own 3 v19.2.length (v19.2.flatMap ci64)) rfl rfl rfl (evs (ev_gr rfl (congrArg V.bool g48) (ev_mv (c := .own 3 v13.2.length (v13.2.flatMap ci64)) rfl rfl rfl (?_))))))
                  obtain ⟨v49, g50, h⟩ := ob_some h
                  refine evs (ev_gr rfl (congrArg V.bool g48) (ev_call (era rfl (erD eci64 _) (era rfl (erD eci64 _) eran)) (laws_eqIntS_s g50) (evs (ev_gr rfl (congrArg V.bool g48) (ev_un (c1 := .bool v49) rfl trivial (evs (ev_pkF (c1 := .bool (!v49)) rfl g48 rfl rfl (evn ?_))))))))
                  refine ls_keep [(2, .box [.int .i64 a0.1, .arg a0.2.1.length (a0.2.1.flatMap c171_a), .arg a0.2.2.length (a0.2.2.flatMap ci64)]), (3, .box [.str a1.1, .arg a1.2.1.length (a1.2.1.flatMap ci64), .int .i64 a1.2.2]), (6, .own 3 v13.1.length (v13.1.flatMap ci64)), (7, .own 3 v13.2.length (v13.2.flatMap ci64)), (10, .own 3 v19.1.length (v19.1.flatMap ci64)), (11, .own 3 v19.2.length (v19.2.flatMap ci64)), (84, .bool (!v49))] ⟨kr, kr, kr, kr, kr, kr, kr, trivial⟩ rfl ?_
                  rcases cond_some h with ⟨g51, h⟩ | ⟨g51, h⟩
                  · refine ls_cT rfl g51 ?_
                    refine ls_rs tbOk ?_
                    refine evs (ev_ac rfl nofun rfl (evn ?_))
                    refine ls_keep [(4, .bool false)] ⟨kr, trivial⟩ rfl ?_
                    refine ls_ret ?_
                    have hr := Option.some.inj h
                    rw [← hr]
                    exact ⟨.inl rfl, rfl⟩
                  · refine ls_cF rfl g51 ?_
                    refine ls_skip ?_
                    refine hK44 _ (ls_keep [(2, .box [.int .i64 a0.1, .arg a0.2.1.length (a0.2.1.flatMap c171_a), .arg a0.2.2.length (a0.2.2.flatMap ci64)]), (3, .box [.str a1.1, .arg a1.2.1.length (a1.2.1.flatMap ci64), .int .i64 a1.2.2]), (6, .own 3 v13.1.length (v13.1.flatMap ci64)), (7, .own 3 v13.2.length (v13.2.flatMap ci64)), (10, .own 3 v19.1.length (v19.1.flatMap ci64)), (11, .own 3 v19.2.length (v19.2.flatMap ci64))] ⟨kr, kr, kr, kr, kr, kr, trivial⟩ rfl ?_)
                    refine ls_rs tbOk ?_
                    refine evs (ev_ac rfl nofun rfl (evn ?_))
                    refine ls_keep [(2, .box [.int .i64 a0.1, .arg a0.2.1.length (a0.2.1.flatMap c171_a), .arg a0.2.2.length (a0.2.2.flatMap ci64)]), (3, .box [.str a1.1, .arg a1.2.1.length (a1.2.1.flatMap ci64), .int .i64 a1.2.2]), (6, .own 3 v13.1.length (v13.1.flatMap ci64)), (7, .own 3 v13.2.length (v13.2.flatMap ci64)), (10, .own 3 v19.1.length (v19.1.flatMap ci64)), (11, .own 3 v19.2.length (v19.2.flatMap ci64)), (13, .int .i64 1)] ⟨kr, kr, kr, kr, kr, kr, kr, trivial⟩ rfl ?_
                    refine ls_keep [(2, .box [.int .i64 a0.1, .arg a0.2.1.length (a0.2.1.flatMap c171_a), .arg a0.2.2.length (a0.2.2.flatMap ci64)]), (3, .box [.str a1.1, .arg a1.2.1.length (a1.2.1.flatMap ci64), .int .i64 a1.2.2]), (6, .own 3 v13.1.length (v13.1.flatMap ci64)), (7, .own 3 v13.2.length (v13.2.flatMap ci64)), (10, .own 3 v19.1.length (v19.1.flatMap ci64)), (11, .own 3 v19.2.length (v19.2.flatMap ci64)), (13, .int .i64 1)] ⟨kr, kr, kr, kr, kr, kr, kr, trivial⟩ rfl ?_
                    obtain ⟨v52, g53, h⟩ := ob_some h
                    refine ls_mark (src_own rfl) rfl rfl (laws_markIntS_m g53) (deep_flat (fun _ => rfl) _) (sf_of (sfc (scc rfl (scc (sca ad171 _) (scc (sca (fun _ => rfl) _) scn))) (sfc (scc rfl (scc (sca (fun _ => rfl) _) (scc rfl scn))) (sfc (deep_flat (fun _ => rfl) _) (sfc (deep_flat (fun _ => rfl) _) (sfs (sfc (deep_flat (fun _ => rfl) _) (sfc rfl sfn)))))))) rfl rfl ⟨by decide, by decide⟩ rfl ?_
                    refine ls_keep [(2, .box [.int .i64 a0.1, .arg a0.2.1.length (a0.2.1.flatMap c171_a), .arg a0.2.2.length (a0.2.2.flatMap ci64)]), (3, .box [.str a1.1, .arg a1.2.1.length (a1.2.1.flatMap ci64), .int .i64 a1.2.2]), (6, .own 3 v13.1.length (v13.1.flatMap ci64)), (7, .own 3 v13.2.length (v13.2.flatMap ci64)), (10, .own 3 v52.1.length (v52.1.flatMap ci64)), (11, .own 3 v19.2.length (v19.2.flatMap ci64)), (13, .int .i64 v52.2)] ⟨kr, kr, kr, kr, kr, kr, kr, trivial⟩ rfl ?_
                    refine ls_keep [(2, .box [.int .i64 a0.1, .arg a0.2.1.length (a0.2.1.flatMap c171_a), .arg a0.2.2.length (a0.2.2.flatMap ci64)]), (3, .box [.str a1.1, .arg a1.2.1.length (a1.2.1.flatMap ci64), .int .i64 a1.2.2]), (6, .own 3 v13.1.length (v13.1.flatMap ci64)), (7, .own 3 v13.2.length (v13.2.flatMap ci64)), (10, .own 3 v52.1.length (v52.1.flatMap ci64)), (11, .own 3 v19.2.length (v19.2.flatMap ci64)), (13, .int .i64 v52.2)] ⟨kr, kr, kr, kr, kr, kr, kr, trivial⟩ rfl ?_
                    obtain ⟨v54, g55, h⟩ := ob_some h
                    refine ls_mark (src_own rfl) rfl rfl (laws_markIntS_m g55) (deep_flat (fun _ => rfl) _) (sf_of (sfc (scc rfl (scc (sca ad171 _) (scc (sca (fun _ => rfl) _) scn))) (sfc (scc rfl (scc (sca (fun _ => rfl) _) (scc rfl scn))) (sfc (deep_flat (fun _ => rfl) _) (sfc (deep_flat (fun _ => rfl) _) (sfc (deep_flat (fun _ => rfl) _) (sfs (sfc rfl sfn)))))))) rfl rfl ⟨by decide, by decide⟩ rfl ?_
                    refine ls_keep [(2, .box [.int .i64 a0.1, .arg a0.2.1.length (a0.2.1.flatMap c171_a), .arg a0.2.2.length (a0.2.2.flatMap ci64)]), (3, .box [.str a1.1, .arg a1.2.1.length (a1.2.1.flatMap ci64), .int .i64 a1.2.2]), (6, .own 3 v13.1.length (v13.1.flatMap ci64)), (7, .own 3 v13.2.length (v13.2.flatMap ci64)), (10, .own 3 v52.1.length (v52.1.flatMap ci64)), (11, .own 3 v54.1.length (v54.1.flatMap ci64)), (13, .int .i64 v54.2)] ⟨kr, kr, kr, kr, kr, kr, kr, trivial⟩ rfl ?_
                    refine ls_rs tbOk ?_
                    refine evs (ev_ac rfl nofun rfl (evn ?_))
                    refine ls_keep [(2, .box [.int .i64 a0.1, .arg a0.2.1.length (a0.2.1.flatMap c171_a), .arg a0.2.2.length (a0.2.2.flatMap ci64)]), (3, .box [.str a1.1, .arg a1.2.1.length (a1.2.1.flatMap ci64), .int .i64 a1.2.2]), (6, .own 3 v13.1.length (v13.1.flatMap ci64)), (7, .own 3 v13.2.length (v13.2.flatMap ci64)), (10, .own 3 v52.1.length (v52.1.flatMap ci64)), (11, .own 3 v54.1.length (v54.1.flatMap ci64)), (13, .int .i64 v54.2), (14, .int .i64 1)] ⟨kr, kr, kr, kr, kr, kr, kr, kr, trivial⟩ rfl ?_
                    refine ls_rs tbOk ?_
                    refine evs (ev_mv (c := .own 3 v52.1.length (v52.1.flatMap ci64)) rfl rfl rfl (evs (ev_mv (c := .int .i64 1) rfl rfl rfl (?_))))
                    obtain ⟨v56, g57, h⟩ := ob_some h
                    refine evs (ev_call (era rfl (erD eci64 _) (era rfl rfl eran)) (laws_heldIntS_s g57) (evs (ev_as (c := .int .i64 v56) rfl rfl rfl (evn ?_))))
                    refine ls_keep [(2, .box [.int .i64 a0.1, .arg a0.2.1.length (a0.2.1.flatMap c171_a), .arg a0.2.2.length (a0.2.2.flatMap ci64)]), (3, .box [.str a1.1, .arg a1.2.1.length (a1.2.1.flatMap ci64), .int .i64 a1.2.2]), (6, .own 3 v13.1.length (v13.1.flatMap ci64)), (7, .own 3 v13.2.length (v13.2.flatMap ci64)), (10, .own 3 v52.1.length (v52.1.flatMap ci64)), (11, .own 3 v54.1.length (v54.1.flatMap ci64)), (13, .int .i64 v54.2), (14, .int .i64 v56)] ⟨kr, kr, kr, kr, kr, kr, kr, kr, trivial⟩ rfl ?_
                    refine ls_seq_k fun K58 hK58 => ?_
                    refine ls_rs tbOk ?_
                    refine evs (ev_mv (c := .int .i64 v56) rfl rfl rfl (evs (ev_bin (c1 := .int .i64 v56) (c2 := .int .i64 0) rfl rfl rfl (evn ?_))))
                    refine ls_keep [(2, .box [.int .i64 a0.1, .arg a0.2.1.length (a0.2.1.flatMap c171_a), .arg a0.2.2.length (a0.2.2.flatMap ci64)]), (3, .box [.str a1.1, .arg a1.2.1.length (a1.2.1.flatMap ci64), .int .i64 a1.2.2]), (6, .own 3 v13.1.length (v13.1.flatMap ci64)), (7, .own 3 v13.2.length (v13.2.flatMap ci64)), (10, .own 3 v52.1.length (v52.1.flatMap ci64)), (11, .own 3 v54.1.length (v54.1.flatMap ci64)), (13, .int .i64 v54.2), (14, .int .i64 v56), (95, .bool (decide (v56 < 0)))] ⟨kr, kr, kr, kr, kr, kr, kr, kr, kr, trivial⟩ rfl ?_
                    rcases cond_some h with ⟨g59, h⟩ | ⟨g59, h⟩
                    · refine ls_cT rfl g59 ?_
                      refine ls_rs tbOk ?_
                      refine evs (ev_ac rfl nofun rfl (evn ?_))
                      refine ls_keep [(4, .bool false)] ⟨kr, trivial⟩ rfl ?_
                      refine ls_ret ?_
                      have hr := Option.some.inj h
                      rw [← hr]
                      exact ⟨.inl rfl, rfl⟩
                    · refine ls_cF rfl g59 ?_
                      refine ls_skip ?_
                      refine hK58 _ (ls_keep [(2, .box [.int .i64 a0.1, .arg a0.2.1.length (a0.2.1.flatMap c171_a), .arg a0.2.2.length (a0.2.2.flatMap ci64)]), (3, .box [.str a1.1, .arg a1.2.1.length (a1.2.1.flatMap ci64), .int .i64 a1.2.2]), (6, .own 3 v13.1.length (v13.1.flatMap ci64)), (7, .own 3 v13.2.length (v13.2.flatMap ci64)), (10, .own 3 v52.1.length (v52.1.flatMap ci64)), (11, .own 3 v54.1.length (v54.1.flatMap ci64)), (13, .int .i64 v54.2), (14, .int .i64 v56)] ⟨kr, kr, kr, kr, kr, kr, kr, kr, trivial⟩ rfl ?_)
                      refine ls_rs tbOk ?_
                      refine evs (ev_mv (c := .own 3 v54.1.length (v54.1.flatMap ci64)) rfl rfl rfl (evs (ev_mv (c := .int .i64 v56) rfl rfl rfl (?_))))
                      obtain ⟨v60, g61, h⟩ := ob_some h
                      refine evs (ev_call (era rfl (erD eci64 _) (era rfl rfl eran)) (laws_heldIntS_s g61) (evs (ev_as (c := .int .i64 v60) rfl rfl rfl (evn ?_))))
                      refine ls_keep [(2, .box [.int .i64 a0.1, .arg a0.2.1.length (a0.2.1.flatMap c171_a), .arg a0.2.2.length (a0.2.2.flatMap ci64)]), (3, .box [.str a1.1, .arg a1.2.1.length (a1.2.1.flatMap ci64), .int .i64 a1.2.2]), (6, .own 3 v13.1.length (v13.1.flatMap ci64)), (7, .own 3 v13.2.length (v13.2.flatMap ci64)), (10, .own 3 v52.1.length (v52.1.flatMap ci64)), (11, .own 3 v54.1.length (v54.1.flatMap ci64)), (13, .int .i64 v54.2), (14, .int .i64 v60)] ⟨kr, kr, kr, kr, kr, kr, kr, kr, trivial⟩ rfl ?_
                      refine ls_seq_k fun K62 hK62 => ?_
                      refine ls_rs tbOk ?_
                      refine evs (ev_mv (c := .int .i64 v60) rfl rfl rfl (evs (ev_bin (c1 := .int .i64 v60) (c2 := .int .i64 0) rfl rfl rfl (evn ?_))))
                      refine ls_keep [(2, .box [.int .i64 a0.1, .arg a0.2.1.length (a0.2.1.flatMap c171_a), .arg a0.2.2.length (a0.2.2.flatMap ci64)]), (3, .box [.str a1.1, .arg a1.2.1.length (a1.2.1.flatMap ci64), .int .i64 a1.2.2]), (6, .own 3 v13.1.length (v13.1.flatMap ci64)), (7, .own 3 v13.2.length (v13.2.flatMap ci64)), (10, .own 3 v52.1.length (v52.1.flatMap ci64)), (11, .own 3 v54.1.length (v54.1.flatMap ci64)), (13, .int .i64 v54.2), (14, .int .i64 v60), (100, .bool (decide (v60 < 0)))] ⟨kr, kr, kr, kr, kr, kr, kr, kr, kr, trivial⟩ rfl ?_
                      rcases cond_some h with ⟨g63, h⟩ | ⟨g63, h⟩
                      · refine ls_cT rfl g63 ?_
                        refine ls_rs tbOk ?_
                        refine evs (ev_ac rfl nofun rfl (evn ?_))
                        refine ls_keep [(4, .bool false)] ⟨kr, trivial⟩ rfl ?_
                        refine ls_ret ?_
                        have hr := Option.some.inj h
                        rw [← hr]
                        exact ⟨.inl rfl, rfl⟩
                      · refine ls_cF rfl g63 ?_
                        refine ls_skip ?_
                        refine hK62 _ (ls_keep [(2, .box [.int .i64 a0.1, .arg a0.2.1.length (a0.2.1.flatMap c171_a), .arg a0.2.2.length (a0.2.2.flatMap ci64)]), (3, .box [.str a1.1, .arg a1.2.1.length (a1.2.1.flatMap ci64), .int .i64 a1.2.2]), (6, .own 3 v13.1.length (v13.1.flatMap ci64)), (7, .own 3 v13.2.length (v13.2.flatMap ci64)), (10, .own 3 v52.1.length (v52.1.flatMap ci64)), (11, .own 3 v54.1.length (v54.1.flatMap ci64)), (13, .int .i64 v54.2), (14, .int .i64 v60)] ⟨kr, kr, kr, kr, kr, kr, kr, kr, trivial⟩ rfl ?_)
                        refine ls_seq_k fun K64 hK64 => ?_
                        refine ls_rs tbOk ?_
                        refine evs (ev_mv (c := .int .i64 v60) rfl rfl rfl (evs (ev_mv (c := .int .i64 v54.2) rfl rfl rfl (evs (ev_bin (c1 := .int .i64 v60) (c2 := .int .i64 v54.2) rfl rfl rfl (evn ?_))))))
                        refine ls_keep [(2, .box [.int .i64 a0.1, .arg a0.2.1.length (a0.2.1.flatMap c171_a), .arg a0.2.2.length (a0.2.2.flatMap ci64)]), (3, .box [.str a1.1, .arg a1.2.1.length (a1.2.1.flatMap ci64), .int .i64 a1.2.2]), (6, .own 3 v13.1.length (v13.1.flatMap ci64)), (7, .own 3 v13.2.length (v13.2.flatMap ci64)), (10, .own 3 v52.1.length (v52.1.flatMap ci64)), (11, .own 3 v54.1.length (v54.1.flatMap ci64)), (13, .int .i64 v54.2), (103, .bool (v60 != v54.2))] ⟨kr, kr, kr, kr, kr, kr, kr, kr, trivial⟩ rfl ?_
                        rcases cond_some h with ⟨g65, h⟩ | ⟨g65, h⟩
                        · refine ls_cT rfl g65 ?_
                          refine ls_rs tbOk ?_
                          refine evs (ev_ac rfl nofun rfl (evn ?_))
                          refine ls_keep [(4, .bool false)] ⟨kr, trivial⟩ rfl ?_
                          refine ls_ret ?_
                          have hr := Option.some.inj h
                          rw [← hr]
                          exact ⟨.inl rfl, rfl⟩
                        · refine ls_cF rfl g65 ?_
                          refine ls_skip ?_
                          refine hK64 _ (ls_keep [(2, .box [.int .i64 a0.1, .arg a0.2.1.length (a0.2.1.flatMap c171_a), .arg a0.2.2.length (a0.2.2.flatMap ci64)]), (3, .box [.str a1.1, .arg a1.2.1.length (a1.2.1.flatMap ci64), .int .i64 a1.2.2]), (6, .own 3 v13.1.length (v13.1.flatMap ci64)), (7, .own 3 v13.2.length (v13.2.flatMap ci64)), (10, .own 3 v52.1.length (v52.1.flatMap ci64)), (11, .own 3 v54.1.length (v54.1.flatMap ci64)), (13, .int .i64 v54.2)] ⟨kr, kr, kr, kr, kr, kr, kr, trivial⟩ rfl ?_)
                          refine ls_rd tbOk mixed (by kernel_rfl) ?_
                          refine evd rfl rfl (ev_ldB (off := 0) (v := .agg [.int .i64 a0.1, .arg a0.2.1.length (a0.2.1.flatMap c171_a), .arg a0.2.2.length (a0.2.2.flatMap ci64)]) rfl rfl rfl rfl (Nat.le_of_ble_eq_true rfl) rfl (?_))
                          obtain ⟨v66, g67, h⟩ := ob_some h
                          refine evd rfl rfl (ev_call (era rfl (erg (erc rfl (erc (erG ec171_a _) (erc (erG eci64 _) rfl)))) eran) (laws_toQuery_s g67) (evd rfl rfl (ev_ldB (off := 0) (v := .agg [.str a1.1, .arg a1.2.1.length (a1.2.1.flatMap ci64), .int .i64 a1.2.2]) rfl rfl rfl rfl (Nat.le_of_ble_eq_true rfl) rfl (?_))))
                          obtain ⟨v68, g69, h⟩ := ob_some h
                          refine evd rfl rfl (ev_call (era rfl (erg (erc rfl (erc (erG eci64 _) (erc rfl rfl)))) eran) (laws_toFunctionalDependency_s g69) (?_))
                          obtain ⟨v70, g71, h⟩ := ob_some h
                          refine evd rfl rfl (ev_call (era rfl (erg (erc rfl (erc (erO ec150_o _) (erc (erO eci64 _) rfl)))) (era rfl (erg (erc rfl (erc (erO eci64 _) (erc rfl rfl)))) eran)) (impl_FDVariables_s g71) (evd rfl rfl (ev_mvt (c := .tup [.own 3 v70.1.length (v70.1.flatMap ci64), .own 3 v70.2.length (v70.2.flatMap ci64)]) rfl rfl rfl (evd rfl rfl (ev_ext rfl rfl rfl rfl (evd rfl rfl (ev_ext rfl rfl rfl rfl (evd rfl rfl (ev_as (c := .own 3 v70.1.length (v70.1.flatMap ci64)) rfl rfl rfl (evd rfl rfl (ev_as (c := .own 3 v70.2.length (v70.2.flatMap ci64)) rfl rfl rfl (evdn ?_))))))))))))
                          refine ls_keep [(6, .own 3 v13.1.length (v13.1.flatMap ci64)), (7, .own 3 v13.2.length (v13.2.flatMap ci64)), (10, .own 3 v52.1.length (v52.1.flatMap ci64)), (11, .own 3 v54.1.length (v54.1.flatMap ci64)), (13, .int .i64 v54.2), (15, .own 3 v70.1.length (v70.1.flatMap ci64)), (16, .own 3 v70.2.length (v70.2.flatMap ci64))] ⟨kr, kr, kr, kr, kr, kr, kr, trivial⟩ rfl ?_
                          refine ls_seq_k fun K72 hK72 => ?_
                          refine ls_rs tbOk ?_
                          refine evs (ev_mv (c := .own 3 v70.1.length (v70.1.flatMap ci64)) rfl rfl rfl (evs (ev_mv (c := .own 3 v13.1.length (v13.1.flatMap ci64)) rfl rfl rfl (?_))))
                          obtain ⟨v73, g74, h⟩ := ob_some h
                          refine evs (ev_call (era rfl (erD eci64 _) (era rfl (erD eci64 _) eran)) (laws_eqIntS_s g74) (evs (ev_un (c1 := .bool v73) rfl trivial (evs (ev_mv (c := .bool (!v73)) rfl rfl rfl (?_))))))
                          rcases cond_some h with ⟨g75, h⟩ | ⟨g75, h⟩
                          · refine evs (ev_gs rfl rfl (isb_T g75) (evs (ev_gs rfl rfl (isb_T g75) (evs (ev_gs rfl rfl (isb_T g75) (evs (ev_gs rfl rfl (isb_T g75) (evs (ev_pkT (c1 := .bool true) rfl g75 rfl rfl (evn ?_))))))))))
                            refine ls_keep [(10, .own 3 v52.1.length (v52.1.flatMap ci64)), (11, .own 3 v54.1.length (v54.1.flatMap ci64)), (13, .int .i64 v54.2), (121, .bool true)] ⟨kr, kr, kr, kr, trivial⟩ rfl ?_
                            refine ls_cT rfl rfl ?_
                            refine ls_rs tbOk ?_
                            refine evs (ev_ac rfl nofun rfl (evn ?_))
                            refine ls_keep [(4, .bool false)] ⟨kr, trivial⟩ rfl ?_
                            refine ls_ret ?_
                            have hr := Option.some.inj h
                            rw [← hr]
                            exact ⟨.inl rfl, rfl⟩
                          · refine evs (ev_gr rfl (congrArg V.bool g75) (ev_mv (c := .own 3 v70.2.length (v70.2.flatMap ci64)) rfl rfl rfl (evs (ev_gr rfl (congrArg V.bool g75) (ev_mv (c := .own 3 v13.2.length (v13.2.flatMap ci64)) rfl rfl rfl (?_))))))
                            obtain ⟨v76, g77, h⟩ := ob_some h
                            refine evs (ev_gr rfl (congrArg V.bool g75) (ev_call (era rfl (erD eci64 _) (era rfl (erD eci64 _) eran)) (laws_eqIntS_s g77) (evs (ev_gr rfl (congrArg V.bool g75) (ev_un (c1 := .bool v76) rfl trivial (evs (ev_pkF (c1 := .bool (!v76)) rfl g75 rfl rfl (evn ?_))))))))
                            refine ls_keep [(10, .own 3 v52.1.length (v52.1.flatMap ci64)), (11, .own 3 v54.1.length (v54.1.flatMap ci64)), (13, .int .i64 v54.2), (121, .bool (!v76))] ⟨kr, kr, kr, kr, trivial⟩ rfl ?_
                            rcases cond_some h with ⟨g78, h⟩ | ⟨g78, h⟩
                            · refine ls_cT rfl g78 ?_
                              refine ls_rs tbOk ?_
                              refine evs (ev_ac rfl nofun rfl (evn ?_))
                              refine ls_keep [(4, .bool false)] ⟨kr, trivial⟩ rfl ?_
                              refine ls_ret ?_
                              have hr := Option.some.inj h
                              rw [← hr]
                              exact ⟨.inl rfl, rfl⟩
                            · refine ls_cF rfl g78 ?_
                              refine ls_skip ?_
                              refine hK72 _ (ls_keep [(10, .own 3 v52.1.length (v52.1.flatMap ci64)), (11, .own 3 v54.1.length (v54.1.flatMap ci64)), (13, .int .i64 v54.2)] ⟨kr, kr, kr, trivial⟩ rfl ?_)
                              refine ls_rs tbOk ?_
                              refine evs (ev_ac rfl nofun rfl (evn ?_))
                              refine ls_keep [(10, .own 3 v52.1.length (v52.1.flatMap ci64)), (11, .own 3 v54.1.length (v54.1.flatMap ci64)), (13, .int .i64 v54.2), (14, .int .i64 1)] ⟨kr, kr, kr, kr, trivial⟩ rfl ?_
                              refine ls_rs tbOk ?_
                              refine evs (ev_mv (c := .own 3 v52.1.length (v52.1.flatMap ci64)) rfl rfl rfl (evs (ev_mv (c := .int .i64 1) rfl rfl rfl (?_))))
                              obtain ⟨v79, g80, h⟩ := ob_some h
                              refine evs (ev_call (era rfl (erD eci64 _) (era rfl rfl eran)) (laws_heldIntS_s g80) (evs (ev_as (c := .int .i64 v79) rfl rfl rfl (evn ?_))))
                              refine ls_keep [(11, .own 3 v54.1.length (v54.1.flatMap ci64)), (13, .int .i64 v54.2), (14, .int .i64 v79)] ⟨kr, kr, kr, trivial⟩ rfl ?_
                              refine ls_seq_k fun K81 hK81 => ?_
                              refine ls_rs tbOk ?_
                              refine evs (ev_mv (c := .int .i64 v79) rfl rfl rfl (evs (ev_bin (c1 := .int .i64 v79) (c2 := .int .i64 0) rfl rfl rfl (evn ?_))))
                              refine ls_keep [(11, .own 3 v54.1.length (v54.1.flatMap ci64)), (13, .int .i64 v54.2), (14, .int .i64 v79), (126, .bool (decide (v79 < 0)))] ⟨kr, kr, kr, kr, trivial⟩ rfl ?_
                              rcases cond_some h with ⟨g82, h⟩ | ⟨g82, h⟩
                              · refine ls_cT rfl g82 ?_
                                refine ls_rs tbOk ?_
                                refine evs (ev_ac rfl nofun rfl (evn ?_))
                                refine ls_keep [(4, .bool false)] ⟨kr, trivial⟩ rfl ?_
                                refine ls_ret ?_
                                have hr := Option.some.inj h
                                rw [← hr]
                                exact ⟨.inl rfl, rfl⟩
                              · refine ls_cF rfl g82 ?_
                                refine ls_skip ?_
                                refine hK81 _ (ls_keep [(11, .own 3 v54.1.length (v54.1.flatMap ci64)), (13, .int .i64 v54.2), (14, .int .i64 v79)] ⟨kr, kr, kr, trivial⟩ rfl ?_)
                                refine ls_rs tbOk ?_
                                refine evs (ev_mv (c := .own 3 v54.1.length (v54.1.flatMap ci64)) rfl rfl rfl (evs (ev_mv (c := .int .i64 v79) rfl rfl rfl (?_))))
                                obtain ⟨v83, g84, h⟩ := ob_some h
                                refine evs (ev_call (era rfl (erD eci64 _) (era rfl rfl eran)) (laws_heldIntS_s g84) (evs (ev_as (c := .int .i64 v83) rfl rfl rfl (evn ?_))))
                                refine ls_keep [(13, .int .i64 v54.2), (14, .int .i64 v83)] ⟨kr, kr, trivial⟩ rfl ?_
                                refine ls_seq_k fun K85 hK85 => ?_
                                refine ls_rs tbOk ?_
                                refine evs (ev_mv (c := .int .i64 v83) rfl rfl rfl (evs (ev_bin (c1 := .int .i64 v83) (c2 := .int .i64 0) rfl rfl rfl (evn ?_))))
                                refine ls_keep [(13, .int .i64 v54.2), (14, .int .i64 v83), (131, .bool (decide (v83 < 0)))] ⟨kr, kr, kr, trivial⟩ rfl ?_
                                rcases cond_some h with ⟨g86, h⟩ | ⟨g86, h⟩
                                · refine ls_cT rfl g86 ?_
                                  refine ls_rs tbOk ?_
                                  refine evs (ev_ac rfl nofun rfl (evn ?_))
                                  refine ls_keep [(4, .bool false)] ⟨kr, trivial⟩ rfl ?_
                                  refine ls_ret ?_
                                  have hr := Option.some.inj h
                                  rw [← hr]
                                  exact ⟨.inl rfl, rfl⟩
                                · refine ls_cF rfl g86 ?_
                                  refine ls_skip ?_
                                  refine hK85 _ (ls_keep [(13, .int .i64 v54.2), (14, .int .i64 v83)] ⟨kr, kr, trivial⟩ rfl ?_)
                                  refine ls_seq_k fun K87 hK87 => ?_
                                  refine ls_rs tbOk ?_
                                  refine evs (ev_mv (c := .int .i64 v83) rfl rfl rfl (evs (ev_mv (c := .int .i64 v54.2) rfl rfl rfl (evs (ev_bin (c1 := .int .i64 v83) (c2 := .int .i64 v54.2) rfl rfl rfl (evn ?_))))))
                                  refine ls_keep [(134, .bool (v83 != v54.2))] ⟨kr, trivial⟩ rfl ?_
                                  rcases cond_some h with ⟨g88, h⟩ | ⟨g88, h⟩
                                  · refine ls_cT rfl g88 ?_
                                    refine ls_rs tbOk ?_
                                    refine evs (ev_ac rfl nofun rfl (evn ?_))
                                    refine ls_keep [(4, .bool false)] ⟨kr, trivial⟩ rfl ?_
                                    refine ls_ret ?_
                                    have hr := Option.some.inj h
                                    rw [← hr]
                                    exact ⟨.inl rfl, rfl⟩
                                  · refine ls_cF rfl g88 ?_
                                    refine ls_skip ?_
                                    refine hK87 _ (ls_keep [] trivial rfl ?_)
                                    refine ls_rs tbOk ?_
                                    refine evs (ev_ac rfl nofun rfl (evn ?_))
                                    refine ls_keep [(4, .bool true)] ⟨kr, trivial⟩ rfl ?_
                                    refine ls_ret ?_
                                    have hr := Option.some.inj h
                                    rw [← hr]
                                    exact ⟨.inl rfl, rfl⟩
end Go.Proofs.Ytkmkbpphdalgoaa
