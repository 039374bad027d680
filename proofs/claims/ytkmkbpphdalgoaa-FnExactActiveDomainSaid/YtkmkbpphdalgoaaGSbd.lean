/-
  Functions of the program as typed functions, printed by gen.py, and that the program's functions do what they say. No conditions.
-/
import Derived.Test.YtkmkbpphdalgoaaGSd
namespace Go.Proofs.Ytkmkbpphdalgoaa
open Go.RowKit
set_option linter.unusedVariables false
set_option maxRecDepth 100000
set_option maxHeartbeats 1000000
def laws_FnExactActiveDomain (a0 : (List ((List UInt8) × (Int × (List (List Int)))))) : Option (Bool) := obind (laws_szDatabase a0 1048576) fun v1 => cond (decide (v1 < 0)) (some true) (obind (laws_toDatabase a0) fun v5 => obind (spec_ActiveDomain v5) fun v7 => obind (laws_toDatabase a0) fun v9 => obind (impl_ActiveDomain v9) fun v11 => obind (laws_eqIntS v11 v7) fun v14 => cond (!v14) (some false) (obind (laws_toDatabase a0) fun v18 => obind (laws_eqDatabase v9 v18) fun v20 => cond (!v20) (some false) (obind (laws_markDatabase v9 1) fun v23 => cond (decide (v23.2 < 0)) (some false) (obind (laws_eqIntS v11 v7) fun v27 => cond (!v27) (some false) (obind (laws_markIntS v11 1) fun v30 => obind (laws_heldIntS v30.1 1) fun v32 => cond (decide (v32 < 0)) (some false) (cond (v32 != v30.2) (some false) (obind (laws_toDatabase a0) fun v38 => obind (impl_ActiveDomain v38) fun v40 => obind (laws_eqIntS v40 v7) fun v43 => cond (!v43) (some false) (obind (laws_heldIntS v30.1 1) fun v46 => cond (decide (v46 < 0)) (some false) (cond (v46 != v30.2) (some false) (some true))))))))))
theorem laws_FnExactActiveDomain_s {a0 : (List ((List UInt8) × (Int × (List (List Int)))))} {r : Bool} (h : laws_FnExactActiveDomain a0 = some r) : SoundAt Try.prog 11 [.agg [.arg a0.length (a0.flatMap c187_aa)]] (.bool r) := by
  unfold laws_FnExactActiveDomain at h
  refine sound_lit tbOk lit11 (Nat.le_of_ble_eq_true rfl) rfl ?_
  unfold c11
  refine ls_keep [(0, .agg [.arg a0.length (a0.flatMap c187_aa)])] ⟨kr, trivial⟩ rfl ?_
  refine ls_rs tbOk ?_
  refine evs (ev_bx (c1 := .agg [.arg a0.length (a0.flatMap c187_aa)]) rfl rfl rfl (evs (ev_ac rfl nofun rfl (evn ?_))))
  refine ls_keep [(1, .box [.arg a0.length (a0.flatMap c187_aa)])] ⟨kr, trivial⟩ rfl ?_
  refine ls_rs tbOk ?_
  refine evs (ev_ac rfl nofun rfl (evn ?_))
  refine ls_keep [(1, .box [.arg a0.length (a0.flatMap c187_aa)]), (3, .int .i64 1048576)] ⟨kr, kr, trivial⟩ rfl ?_
  refine ls_rs tbOk ?_
  refine evs (ev_ldB (off := 0) (v := .agg [.arg a0.length (a0.flatMap c187_aa)]) rfl rfl rfl rfl (Nat.le_of_ble_eq_true rfl) rfl (evs (ev_mv (c := .int .i64 1048576) rfl rfl rfl (?_))))
  obtain ⟨v1, g2, h⟩ := ob_some h
  refine evs (ev_call (era rfl (erg (erc (erG ec187_aa _) rfl)) (era rfl rfl eran)) (laws_szDatabase_s g2) (evs (ev_as (c := .int .i64 v1) rfl rfl rfl (evn ?_))))
  refine ls_keep [(1, .box [.arg a0.length (a0.flatMap c187_aa)]), (3, .int .i64 v1)] ⟨kr, kr, trivial⟩ rfl ?_
  refine ls_seq_k fun K3 hK3 => ?_
  refine ls_rs tbOk ?_
  refine evs (ev_mv (c := .int .i64 v1) rfl rfl rfl (evs (ev_bin (c1 := .int .i64 v1) (c2 := .int .i64 0) rfl rfl rfl (evn ?_))))
  refine ls_keep [(1, .box [.arg a0.length (a0.flatMap c187_aa)]), (15, .bool (decide (v1 < 0)))] ⟨kr, kr, trivial⟩ rfl ?_
  rcases cond_some h with ⟨g4, h⟩ | ⟨g4, h⟩
  · refine ls_cT rfl g4 ?_
    refine ls_rs tbOk ?_
    refine evs (ev_ac rfl nofun rfl (evn ?_))
    refine ls_keep [(2, .bool true)] ⟨kr, trivial⟩ rfl ?_
    refine ls_ret ?_
    have hr := Option.some.inj h
    rw [← hr]
    exact ⟨.inl rfl, rfl⟩
  · refine ls_cF rfl g4 ?_
    refine ls_skip ?_
    refine hK3 _ (ls_keep [(1, .box [.arg a0.length (a0.flatMap c187_aa)])] ⟨kr, trivial⟩ rfl ?_)
    refine ls_rs tbOk ?_
    refine evs (ev_ldB (off := 0) (v := .agg [.arg a0.length (a0.flatMap c187_aa)]) rfl rfl rfl rfl (Nat.le_of_ble_eq_true rfl) rfl (?_))
    obtain ⟨v5, g6, h⟩ := ob_some h
    refine evs (ev_call (era rfl (erg (erc (erG ec187_aa _) rfl)) eran) (laws_toDatabase_s g6) (?_))
    obtain ⟨v7, g8, h⟩ := ob_some h
    refine evs (ev_call (era rfl (erg (erc (erO ec157_oo _) rfl)) eran) (spec_ActiveDomain_s g8) (evs (ev_as (c := .own 3 v7.length (v7.flatMap ci64)) rfl rfl rfl (evn ?_))))
    refine ls_keep [(1, .box [.arg a0.length (a0.flatMap c187_aa)]), (4, .own 3 v7.length (v7.flatMap ci64))] ⟨kr, kr, trivial⟩ rfl ?_
    refine ls_rs tbOk ?_
    refine evs (ev_ldB (off := 0) (v := .agg [.arg a0.length (a0.flatMap c187_aa)]) rfl rfl rfl rfl (Nat.le_of_ble_eq_true rfl) rfl (?_))
    obtain ⟨v9, g10, h⟩ := ob_some h
    refine evs (ev_call (era rfl (erg (erc (erG ec187_aa _) rfl)) eran) (laws_toDatabase_s g10) (evs (ev_al rfl rfl (evs (ev_st (off := 0) (c1 := .agg [.own 157 v9.length (v9.flatMap c157_oo)]) (cs' := [.own 157 v9.length (v9.flatMap c157_oo)]) rfl rfl rfl rfl rfl rfl (Nat.le_of_ble_eq_true rfl) rfl (evn ?_))))))
    refine ls_keep [(1, .box [.arg a0.length (a0.flatMap c187_aa)]), (4, .own 3 v7.length (v7.flatMap ci64)), (5, .box [.own 157 v9.length (v9.flatMap c157_oo)])] ⟨kr, kr, kr, trivial⟩ rfl ?_
    refine ls_rs tbOk ?_
    refine evs (ev_ldB (off := 0) (v := .agg [.dat v9.length (v9.flatMap c157_oo)]) rfl rfl rfl rfl (Nat.le_of_ble_eq_true rfl) rfl (?_))
    obtain ⟨v11, g12, h⟩ := ob_some h
    refine evs (ev_call (era rfl (erg (erc (erD ec157_oo _) rfl)) eran) (impl_ActiveDomain_s g12) (evs (ev_as (c := .own 3 v11.length (v11.flatMap ci64)) rfl rfl rfl (evn ?_))))
    refine ls_keep [(1, .box [.arg a0.length (a0.flatMap c187_aa)]), (4, .own 3 v7.length (v7.flatMap ci64)), (5, .box [.own 157 v9.length (v9.flatMap c157_oo)]), (6, .own 3 v11.length (v11.flatMap ci64))] ⟨kr, kr, kr, kr, trivial⟩ rfl ?_
    refine ls_seq_k fun K13 hK13 => ?_
    refine ls_rs tbOk ?_
    refine evs (ev_mv (c := .own 3 v11.length (v11.flatMap ci64)) rfl rfl rfl (evs (ev_mv (c := .own 3 v7.length (v7.flatMap ci64)) rfl rfl rfl (?_))))
    obtain ⟨v14, g15, h⟩ := ob_some h
    refine evs (ev_call (era rfl (erD eci64 _) (era rfl (erD eci64 _) eran)) (laws_eqIntS_s g15) (evs (ev_un (c1 := .bool v14) rfl trivial (evn ?_))))
    refine ls_keep [(1, .box [.arg a0.length (a0.flatMap c187_aa)]), (4, .own 3 v7.length (v7.flatMap ci64)), (5, .box [.own 157 v9.length (v9.flatMap c157_oo)]), (6, .own 3 v11.length (v11.flatMap ci64)), (26, .bool (!v14))] ⟨kr, kr, kr, kr, kr, trivial⟩ rfl ?_
    rcases cond_some h with ⟨g16, h⟩ | ⟨g16, h⟩
    · refine ls_cT rfl g16 ?_
      refine ls_rs tbOk ?_
      refine evs (ev_ac rfl nofun rfl (evn ?_))
      refine ls_keep [(2, .bool false)] ⟨kr, trivial⟩ rfl ?_
      refine ls_ret ?_
      have hr := Option.some.inj h
      rw [← hr]
      exact ⟨.inl rfl, rfl⟩
    · refine ls_cF rfl g16 ?_
      refine ls_skip ?_
      refine hK13 _ (ls_keep [(1, .box [.arg a0.length (a0.flatMap c187_aa)]), (4, .own 3 v7.length (v7.flatMap ci64)), (5, .box [.own 157 v9.length (v9.flatMap c157_oo)]), (6, .own 3 v11.length (v11.flatMap ci64))] ⟨kr, kr, kr, kr, trivial⟩ rfl ?_)
      refine ls_seq_k fun K17 hK17 => ?_
      refine ls_rd tbOk mixed (by kernel_rfl) ?_
      refine evd rfl rfl (ev_ldB (off := 0) (v := .agg [.dat v9.length (v9.flatMap c157_oo)]) rfl rfl rfl rfl (Nat.le_of_ble_eq_true rfl) rfl (evd rfl rfl (ev_ldB (off := 0) (v := .agg [.arg a0.length (a0.flatMap c187_aa)]) rfl rfl rfl rfl (Nat.le_of_ble_eq_true rfl) rfl (?_))))
      obtain ⟨v18, g19, h⟩ := ob_some h
      refine evd rfl rfl (ev_call (era rfl (erg (erc (erG ec187_aa _) rfl)) eran) (laws_toDatabase_s g19) (?_))
      obtain ⟨v20, g21, h⟩ := ob_some h
      refine evd rfl rfl (ev_call (era rfl (erg (erc (erD ec157_oo _) rfl)) (era rfl (erg (erc (erO ec157_oo _) rfl)) eran)) (laws_eqDatabase_s g21) (evd rfl rfl (ev_un (c1 := .bool v20) rfl trivial (evdn ?_))))
      refine ls_keep [(1, .box [.arg a0.length (a0.flatMap c187_aa)]), (4, .own 3 v7.length (v7.flatMap ci64)), (5, .box [.own 157 v9.length (v9.flatMap c157_oo)]), (6, .own 3 v11.length (v11.flatMap ci64)), (31, .bool (!v20))] ⟨kr, kr, kr, kr, kr, trivial⟩ rfl ?_
      rcases cond_some h with ⟨g22, h⟩ | ⟨g22, h⟩
      · refine ls_cT rfl g22 ?_
        refine ls_rs tbOk ?_
        refine evs (ev_ac rfl nofun rfl (evn ?_))
        refine ls_keep [(2, .bool false)] ⟨kr, trivial⟩ rfl ?_
        refine ls_ret ?_
        have hr := Option.some.inj h
        rw [← hr]
        exact ⟨.inl rfl, rfl⟩
      · refine ls_cF rfl g22 ?_
        refine ls_skip ?_
        refine hK17 _ (ls_keep [(1, .box [.arg a0.length (a0.flatMap c187_aa)]), (4, .own 3 v7.length (v7.flatMap ci64)), (5, .box [.own 157 v9.length (v9.flatMap c157_oo)]), (6, .own 3 v11.length (v11.flatMap ci64))] ⟨kr, kr, kr, kr, trivial⟩ rfl ?_)
        refine ls_rs tbOk ?_
        refine evs (ev_ac rfl nofun rfl (evn ?_))
        refine ls_keep [(1, .box [.arg a0.length (a0.flatMap c187_aa)]), (4, .own 3 v7.length (v7.flatMap ci64)), (5, .box [.own 157 v9.length (v9.flatMap c157_oo)]), (6, .own 3 v11.length (v11.flatMap ci64)), (7, .int .i64 1)] ⟨kr, kr, kr, kr, kr, trivial⟩ rfl ?_
        refine ls_keep [(1, .box [.arg a0.length (a0.flatMap c187_aa)]), (4, .own 3 v7.length (v7.flatMap ci64)), (5, .box [.own 157 v9.length (v9.flatMap c157_oo)]), (6, .own 3 v11.length (v11.flatMap ci64)), (7, .int .i64 1)] ⟨kr, kr, kr, kr, kr, trivial⟩ rfl ?_
        obtain ⟨v23, g24, h⟩ := ob_some h
        refine ls_mark (src_box tbOk rfl rfl rfl) rfl rfl (laws_markDatabase_m g24) (dp100 _) (sf_of (sfc (scc (sca ad187 _) scn) (sfc (deep_flat (fun _ => rfl) _) (sfs (sfc (deep_flat (fun _ => rfl) _) (sfc rfl sfn)))))) rfl rfl ⟨by decide, by decide⟩ rfl ?_
        refine ls_keep [(1, .box [.arg a0.length (a0.flatMap c187_aa)]), (4, .own 3 v7.length (v7.flatMap ci64)), (6, .own 3 v11.length (v11.flatMap ci64)), (7, .int .i64 v23.2)] ⟨kr, kr, kr, kr, trivial⟩ rfl ?_
        refine ls_seq_k fun K25 hK25 => ?_
        refine ls_rs tbOk ?_
        refine evs (ev_mv (c := .int .i64 v23.2) rfl rfl rfl (evs (ev_bin (c1 := .int .i64 v23.2) (c2 := .int .i64 0) rfl rfl rfl (evs (ev_mv (c := .bool (decide (v23.2 < 0))) rfl rfl rfl (?_))))))
        rcases cond_some h with ⟨g26, h⟩ | ⟨g26, h⟩
        · refine evs (ev_gs rfl rfl (isb_T g26) (evs (ev_gs rfl rfl (isb_T g26) (evs (ev_gs rfl rfl (isb_T g26) (evs (ev_gs rfl rfl (isb_T g26) (evs (ev_pkT (c1 := .bool true) rfl g26 rfl rfl (evn ?_))))))))))
          refine ls_keep [(1, .box [.arg a0.length (a0.flatMap c187_aa)]), (4, .own 3 v7.length (v7.flatMap ci64)), (6, .own 3 v11.length (v11.flatMap ci64)), (42, .bool true)] ⟨kr, kr, kr, kr, trivial⟩ rfl ?_
          refine ls_cT rfl rfl ?_
          refine ls_rs tbOk ?_
          refine evs (ev_ac rfl nofun rfl (evn ?_))
          refine ls_keep [(2, .bool false)] ⟨kr, trivial⟩ rfl ?_
          refine ls_ret ?_
          have hr := Option.some.inj h
          rw [← hr]
          exact ⟨.inl rfl, rfl⟩
        · refine evs (ev_gr rfl (congrArg V.bool g26) (ev_mv (c := .own 3 v11.length (v11.flatMap ci64)) rfl rfl rfl (evs (ev_gr rfl (congrArg V.bool g26) (ev_mv (c := .own 3 v7.length (v7.flatMap ci64)) rfl rfl rfl (?_))))))
          obtain ⟨v27, g28, h⟩ := ob_some h
          refine evs (ev_gr rfl (congrArg V.bool g26) (ev_call (era rfl (erD eci64 _) (era rfl (erD eci64 _) eran)) (laws_eqIntS_s g28) (evs (ev_gr rfl (congrArg V.bool g26) (ev_un (c1 := .bool v27) rfl trivial (evs (ev_pkF (c1 := .bool (!v27)) rfl g26 rfl rfl (evn ?_))))))))
          refine ls_keep [(1, .box [.arg a0.length (a0.flatMap c187_aa)]), (4, .own 3 v7.length (v7.flatMap ci64)), (6, .own 3 v11.length (v11.flatMap ci64)), (42, .bool (!v27))] ⟨kr, kr, kr, kr, trivial⟩ rfl ?_
          rcases cond_some h with ⟨g29, h⟩ | ⟨g29, h⟩
          · refine ls_cT rfl g29 ?_
            refine ls_rs tbOk ?_
            refine evs (ev_ac rfl nofun rfl (evn ?_))
            refine ls_keep [(2, .bool false)] ⟨kr, trivial⟩ rfl ?_
            refine ls_ret ?_
            have hr := Option.some.inj h
            rw [← hr]
            exact ⟨.inl rfl, rfl⟩
          · refine ls_cF rfl g29 ?_
            refine ls_skip ?_
            refine hK25 _ (ls_keep [(1, .box [.arg a0.length (a0.flatMap c187_aa)]), (4, .own 3 v7.length (v7.flatMap ci64)), (6, .own 3 v11.length (v11.flatMap ci64))] ⟨kr, kr, kr, trivial⟩ rfl ?_)
            refine ls_rs tbOk ?_
            refine evs (ev_ac rfl nofun rfl (evn ?_))
            refine ls_keep [(1, .box [.arg a0.length (a0.flatMap c187_aa)]), (4, .own 3 v7.length (v7.flatMap ci64)), (6, .own 3 v11.length (v11.flatMap ci64)), (8, .int .i64 1)] ⟨kr, kr, kr, kr, trivial⟩ rfl ?_
            refine ls_keep [(1, .box [.arg a0.length (a0.flatMap c187_aa)]), (4, .own 3 v7.length (v7.flatMap ci64)), (6, .own 3 v11.length (v11.flatMap ci64)), (8, .int .i64 1)] ⟨kr, kr, kr, kr, trivial⟩ rfl ?_
            obtain ⟨v30, g31, h⟩ := ob_some h
            refine ls_mark (src_own rfl) rfl rfl (laws_markIntS_m g31) (deep_flat (fun _ => rfl) _) (sf_of (sfc (scc (sca ad187 _) scn) (sfc (deep_flat (fun _ => rfl) _) (sfs (sfc rfl sfn))))) rfl rfl ⟨by decide, by decide⟩ rfl ?_
            refine ls_keep [(1, .box [.arg a0.length (a0.flatMap c187_aa)]), (4, .own 3 v7.length (v7.flatMap ci64)), (6, .own 3 v30.1.length (v30.1.flatMap ci64)), (8, .int .i64 v30.2)] ⟨kr, kr, kr, kr, trivial⟩ rfl ?_
            refine ls_rs tbOk ?_
            refine evs (ev_ac rfl nofun rfl (evn ?_))
            refine ls_keep [(1, .box [.arg a0.length (a0.flatMap c187_aa)]), (4, .own 3 v7.length (v7.flatMap ci64)), (6, .own 3 v30.1.length (v30.1.flatMap ci64)), (8, .int .i64 v30.2), (9, .int .i64 1)] ⟨kr, kr, kr, kr, kr, trivial⟩ rfl ?_
            refine ls_rs tbOk ?_
            refine evs (ev_mv (c := .own 3 v30.1.length (v30.1.flatMap ci64)) rfl rfl rfl (evs (ev_mv (c := .int .i64 1) rfl rfl rfl (?_))))
            obtain ⟨v32, g33, h⟩ := ob_some h
            refine evs (ev_call (era rfl (erD eci64 _) (era rfl rfl eran)) (laws_heldIntS_s g33) (evs (ev_as (c := .int .i64 v32) rfl rfl rfl (evn ?_))))
            refine ls_keep [(1, .box [.arg a0.length (a0.flatMap c187_aa)]), (4, .own 3 v7.length (v7.flatMap ci64)), (6, .own 3 v30.1.length (v30.1.flatMap ci64)), (8, .int .i64 v30.2), (9, .int .i64 v32)] ⟨kr, kr, kr, kr, kr, trivial⟩ rfl ?_
            refine ls_seq_k fun K34 hK34 => ?_
            refine ls_rs tbOk ?_
            refine evs (ev_mv (c := .int .i64 v32) rfl rfl rfl (evs (ev_bin (c1 := .int .i64 v32) (c2 := .int .i64 0) rfl rfl rfl (evn ?_))))
            refine ls_keep [(1, .box [.arg a0.length (a0.flatMap c187_aa)]), (4, .own 3 v7.length (v7.flatMap ci64)), (6, .own 3 v30.1.length (v30.1.flatMap ci64)), (8, .int .i64 v30.2), (9, .int .i64 v32), (50, .bool (decide (v32 < 0)))] ⟨kr, kr, kr, kr, kr, kr, trivial⟩ rfl ?_
            rcases cond_some h with ⟨g35, h⟩ | ⟨g35, h⟩
            · refine ls_cT rfl g35 ?_
              refine ls_rs tbOk ?_
              refine evs (ev_ac rfl nofun rfl (evn ?_))
              refine ls_keep [(2, .bool false)] ⟨kr, trivial⟩ rfl ?_
              refine ls_ret ?_
              have hr := Option.some.inj h
              rw [← hr]
              exact ⟨.inl rfl, rfl⟩
            · refine ls_cF rfl g35 ?_
              refine ls_skip ?_
              refine hK34 _ (ls_keep [(1, .box [.arg a0.length (a0.flatMap c187_aa)]), (4, .own 3 v7.length (v7.flatMap ci64)), (6, .own 3 v30.1.length (v30.1.flatMap ci64)), (8, .int .i64 v30.2), (9, .int .i64 v32)] ⟨kr, kr, kr, kr, kr, trivial⟩ rfl ?_)
              refine ls_seq_k fun K36 hK36 => ?_
              refine ls_rs tbOk ?_
              refine evs (ev_mv (c := .int .i64 v32) rfl rfl rfl (evs (ev_mv (c := .int .i64 v30.2) rfl rfl rfl (evs (ev_bin (c1 := .int .i64 v32) (c2 := .int .i64 v30.2) rfl rfl rfl (evn ?_))))))
              refine ls_keep [(1, .box [.arg a0.length (a0.flatMap c187_aa)]), (4, .own 3 v7.length (v7.flatMap ci64)), (6, .own 3 v30.1.length (v30.1.flatMap ci64)), (8, .int .i64 v30.2), (53, .bool (v32 != v30.2))] ⟨kr, kr, kr, kr, kr, trivial⟩ rfl ?_
              rcases cond_some h with ⟨g37, h⟩ | ⟨g37, h⟩
              · refine ls_cT rfl g37 ?_
                refine ls_rs tbOk ?_
                refine evs (ev_ac rfl nofun rfl (evn ?_))
                refine ls_keep [(2, .bool false)] ⟨kr, trivial⟩ rfl ?_
                refine ls_ret ?_
                have hr := Option.some.inj h
                rw [← hr]
                exact ⟨.inl rfl, rfl⟩
              · refine ls_cF rfl g37 ?_
                refine ls_skip ?_
                refine hK36 _ (ls_keep [(1, .box [.arg a0.length (a0.flatMap c187_aa)]), (4, .own 3 v7.length (v7.flatMap ci64)), (6, .own 3 v30.1.length (v30.1.flatMap ci64)), (8, .int .i64 v30.2)] ⟨kr, kr, kr, kr, trivial⟩ rfl ?_)
                refine ls_rs tbOk ?_
                refine evs (ev_ldB (off := 0) (v := .agg [.arg a0.length (a0.flatMap c187_aa)]) rfl rfl rfl rfl (Nat.le_of_ble_eq_true rfl) rfl (?_))
                obtain ⟨v38, g39, h⟩ := ob_some h
                refine evs (ev_call (era rfl (erg (erc (erG ec187_aa _) rfl)) eran) (laws_toDatabase_s g39) (?_))
                obtain ⟨v40, g41, h⟩ := ob_some h
                refine evs (ev_call (era rfl (erg (erc (erO ec157_oo _) rfl)) eran) (impl_ActiveDomain_s g41) (evs (ev_as (c := .own 3 v40.length (v40.flatMap ci64)) rfl rfl rfl (evn ?_))))
                refine ls_keep [(4, .own 3 v7.length (v7.flatMap ci64)), (6, .own 3 v30.1.length (v30.1.flatMap ci64)), (8, .int .i64 v30.2), (10, .own 3 v40.length (v40.flatMap ci64))] ⟨kr, kr, kr, kr, trivial⟩ rfl ?_
                refine ls_seq_k fun K42 hK42 => ?_
                refine ls_rs tbOk ?_
                refine evs (ev_mv (c := .own 3 v40.length (v40.flatMap ci64)) rfl rfl rfl (evs (ev_mv (c := .own 3 v7.length (v7.flatMap ci64)) rfl rfl rfl (?_))))
                obtain ⟨v43, g44, h⟩ := ob_some h
                refine evs (ev_call (era rfl (erD eci64 _) (era rfl (erD eci64 _) eran)) (laws_eqIntS_s g44) (evs (ev_un (c1 := .bool v43) rfl trivial (evn ?_))))
                refine ls_keep [(6, .own 3 v30.1.length (v30.1.flatMap ci64)), (8, .int .i64 v30.2), (60, .bool (!v43))] ⟨kr, kr, kr, trivial⟩ rfl ?_
                rcases cond_some h with ⟨g45, h⟩ | ⟨g45, h⟩
                · refine ls_cT rfl g45 ?_
                  refine ls_rs tbOk ?_
                  refine evs (ev_ac rfl nofun rfl (evn ?_))
                  refine ls_keep [(2, .bool false)] ⟨kr, trivial⟩ rfl ?_
                  refine ls_ret ?_
                  have hr := Option.some.inj h
                  rw [← hr]
                  exact ⟨.inl rfl, rfl⟩
                · refine ls_cF rfl g45 ?_
                  refine ls_skip ?_
                  refine hK42 _ (ls_keep [(6, .own 3 v30.1.length (v30.1.flatMap ci64)), (8, .int .i64 v30.2)] ⟨kr, kr, trivial⟩ rfl ?_)
                  refine ls_rs tbOk ?_
                  refine evs (ev_ac rfl nofun rfl (evn ?_))
                  refine ls_keep [(6, .own 3 v30.1.length (v30.1.flatMap ci64)), (8, .int .i64 v30.2), (9, .int .i64 1)] ⟨kr, kr, kr, trivial⟩ rfl ?_
                  refine ls_rs tbOk ?_
                  refine evs (ev_mv (c := .own 3 v30.1.length (v30.1.flatMap ci64)) rfl rfl rfl (evs (ev_mv (c := .int .i64 1) rfl rfl rfl (?_))))
                  obtain ⟨v46, g47, h⟩ := ob_some h
                  refine evs (ev_call (era rfl (erD eci64 _) (era rfl rfl eran)) (laws_heldIntS_s g47) (evs (ev_as (c := .int .i64 v46) rfl rfl rfl (evn ?_))))
                  refine ls_keep [(8, .int .i64 v30.2), (9, .int .i64 v46)] ⟨kr, kr, trivial⟩ rfl ?_
                  refine ls_seq_k fun K48 hK48 => ?_
                  refine ls_rs tbOk ?_
                  refine evs (ev_mv (c := .int .i64 v46) rfl rfl rfl (evs (ev_bin (c1 := .int .i64 v46) (c2 := .int .i64 0) rfl rfl rfl (evn ?_))))
                  refine ls_keep [(8, .int .i64 v30.2), (9, .int .i64 v46), (65, .bool (decide (v46 < 0)))] ⟨kr, kr, kr, trivial⟩ rfl ?_
                  rcases cond_some h with ⟨g49, h⟩ | ⟨g49, h⟩
                  · refine ls_cT rfl g49 ?_
                    refine ls_rs tbOk ?_
                    refine evs (ev_ac rfl nofun rfl (evn ?_))
                    refine ls_keep [(2, .bool false)] ⟨kr, trivial⟩ rfl ?_
                    refine ls_ret ?_
                    have hr := Option.some.inj h
                    rw [← hr]
                    exact ⟨.inl rfl, rfl⟩
                  · refine ls_cF rfl g49 ?_
                    refine ls_skip ?_
                    refine hK48 _ (ls_keep [(8, .int .i64 v30.2), (9, .int .i64 v46)] ⟨kr, kr, trivial⟩ rfl ?_)
                    refine ls_seq_k fun K50 hK50 => ?_
                    refine ls_rs tbOk ?_
                    refine evs (ev_mv (c := .int .i64 v46) rfl rfl rfl (evs (ev_mv (c := .int .i64 v30.2) rfl rfl rfl (evs (ev_bin (c1 := .int .i64 v46) (c2 := .int .i64 v30.2) rfl rfl rfl (evn ?_))))))
                    refine ls_keep [(68, .bool (v46 != v30.2))] ⟨kr, trivial⟩ rfl ?_
                    rcases cond_some h with ⟨g51, h⟩ | ⟨g51, h⟩
                    · refine ls_cT rfl g51 ?_
                      refine ls_rs tbOk ?_
                      refine evs (ev_ac rfl nofun rfl (evn ?_))
                      refine ls_keep [(2, .bool false)] ⟨kr, trivial⟩ rfl ?_
                      refine ls_ret ?_
                      have hr := Option.some.inj h
                      rw [← hr]
                      exact ⟨.inl rfl, rfl⟩
                    · refine ls_cF rfl g51 ?_
                      refine ls_skip ?_
                      refine hK50 _ (ls_keep [] trivial rfl ?_)
                      refine ls_rs tbOk ?_
                      refine evs (ev_ac rfl nofun rfl (evn ?_))
                      refine ls_keep [(2, .bool true)] ⟨kr, trivial⟩ rfl ?_
                      refine ls_ret ?_
                      have hr := Option.some.inj h
                      rw [← hr]
                      exact ⟨.inl rfl, rfl⟩
end Go.Proofs.Ytkmkbpphdalgoaa
