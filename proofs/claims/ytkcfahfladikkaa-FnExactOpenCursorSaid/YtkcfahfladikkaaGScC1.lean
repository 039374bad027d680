/-
  Functions of the program as typed functions, printed by gen.py, and that the program's functions do what they say. No conditions.
-/
import Derived.Test.YtkcfahfladikkaaGSbC1
namespace Go.Proofs.Ytkcfahfladikkaa
open Go.RowKit
set_option linter.unusedVariables false
set_option maxRecDepth 100000
set_option maxHeartbeats 1000000
def c52_dooo (x : Y51) : List V := [nI x.1, dL c33_ooo x.2]
theorem zc52_dooo (x : Y51) : (c52_dooo x).length = 2 := rfl
theorem ec52_dooo (x : Y51) : erL (c52_dooo x) = c52_dddd x := (erc rfl (erc (erD ec33_ooo _) rfl))
def c92_dod (x : Y91) : List V := [nI x.1, dL c195_o x.2.1, dL ci64 x.2.2]
theorem zc92_dod (x : Y91) : (c92_dod x).length = 3 := rfl
theorem ec92_dod (x : Y91) : erL (c92_dod x) = c92_ddd x := (erc rfl (erc (erD ec195_o _) (erc (erD eci64 _) rfl)))
def c108_dddod (x : Y107) : List V := [nI x.1, dL ci64 x.2.1, dL ci64 x.2.2.1, nI x.2.2.2.1, dL c195_o x.2.2.2.2.1, dL ci64 x.2.2.2.2.2]
theorem zc108_dddod (x : Y107) : (c108_dddod x).length = 6 := rfl
theorem ec108_dddod (x : Y107) : erL (c108_dddod x) = c108_ddddd x := (erc rfl (erc (erD eci64 _) (erc (erD eci64 _) (erc rfl (erc (erD ec195_o _) (erc (erD eci64 _) rfl))))))
def laws_FnExactOpenCursor (a0 : Y45) (a1 : Y78) (a2 : List Int) : Option (Bool) := cond (decide (1048576 < (List.length a2 : Int))) (some true) (obind (laws_szHistory a0 1048576) fun v3 => cond (decide (v3 < 0)) (some true) (obind (laws_szQuery a1 v3) fun v7 => cond (decide (v7 < 0)) (some true) (obind (laws_toHistory a0) fun v11 => obind (laws_toQuery a1) fun v13 => obind (laws_toIntS a2) fun v15 => obind (spec_OpenCursor v11 v13 v15) fun v17 => obind (laws_toHistory a0) fun v19 => obind (laws_toQuery a1) fun v21 => obind (laws_toIntS a2) fun v23 => obind (impl_OpenCursor v19 v21 v23) fun v25 => obind (laws_eqCursor v25.1 v17.1) fun v28 => cond (!v28) (some false) (cond (!(v25.2 == v17.2)) (some false) (obind (laws_toHistory a0) fun v33 => obind (laws_eqHistory v19 v33) fun v35 => cond (!v35) (some false) (obind (laws_toQuery a1) fun v39 => obind (laws_eqQuery v21 v39) fun v41 => cond (!v41) (some false) (obind (laws_toIntS a2) fun v45 => obind (laws_eqIntS v23 v45) fun v47 => cond (!v47) (some false) (obind (laws_markHistory v19 1) fun v50 => obind (laws_markQuery v21 v50.2) fun v52 => obind (laws_markIntS v23 v52.2) fun v54 => cond (decide (v54.2 < 0)) (some false) (obind (laws_eqCursor v25.1 v17.1) fun v58 => cond (!v58) (some false) (cond (!(v25.2 == v17.2)) (some false) (obind (laws_markCursor v25.1 1) fun v62 => obind (laws_heldCursor v62.1 1) fun v64 => cond (decide (v64 < 0)) (some false) (cond (v64 != v62.2) (some false) (obind (laws_toHistory a0) fun v70 => obind (laws_toQuery a1) fun v72 => obind (laws_toIntS a2) fun v74 => obind (impl_OpenCursor v70 v72 v74) fun v76 => obind (laws_eqCursor v76.1 v17.1) fun v79 => cond (!v79) (some false) (cond (!(v76.2 == v17.2)) (some false) (obind (laws_heldCursor v62.1 1) fun v83 => cond (decide (v83 < 0)) (some false) (cond (v83 != v62.2) (some false) (some true)))))))))))))))))
theorem laws_FnExactOpenCursor_s {a0 : Y45} {a1 : Y78} {a2 : List Int} {r : Bool} (h : laws_FnExactOpenCursor a0 a1 a2 = some r) : SoundAt Try.prog 10 [.agg (c46_aaaa a0), .agg (c79_aaa a1), aL ci64 a2] (.bool r) := by
  unfold laws_FnExactOpenCursor at h
  refine sound_lit tbOk lit10 (nb rfl) rfl ?_
  unfold c10
  refine ls_keep [(0, .agg (c46_aaaa a0)), (1, .agg (c79_aaa a1)), (2, aL ci64 a2)] ⟨kr, kr, kr, trivial⟩ rfl ?_
  refine ls_rs tbOk ?_
  refine evs (ev_bx (c1 := .agg (c46_aaaa a0)) rfl rfl rfl (evs (ev_bx (c1 := .agg (c79_aaa a1)) rfl rfl rfl (evs (ev_ac rfl nofun rfl (evn ?_))))))
  refine ls_keep [(2, aL ci64 a2), (3, .box [nI a0.1, aL c24_aaa a0.2]), (4, .box [nI a1.1, aL c231_a a1.2.1, aL ci64 a1.2.2])] ⟨kr, kr, kr, trivial⟩ rfl ?_
  refine ls_seq_k fun K1 hK1 => ?_
  refine ls_rs tbOk ?_
  refine evs (ev_mv (c := aL ci64 a2) rfl rfl rfl (evs (ev_len (c1 := aL ci64 a2) rfl rfl rfl (evs (ev_bin (c1 := nI (List.length a2 : Int)) (c2 := nI 1048576) rfl rfl rfl (evn ?_))))))
  refine ls_keep [(2, aL ci64 a2), (3, .box [nI a0.1, aL c24_aaa a0.2]), (4, .box [nI a1.1, aL c231_a a1.2.1, aL ci64 a1.2.2]), (22, .bool (decide (1048576 < (List.length a2 : Int))))] ⟨kr, kr, kr, kr, trivial⟩ rfl ?_
  rcases cond_some h with ⟨g2, h⟩ | ⟨g2, h⟩
  · refine ls_cT rfl g2 ?_
    refine ls_rs tbOk ?_
    refine evs (ev_ac rfl nofun rfl (evn ?_))
    refine ls_keep [(6, .bool true)] ⟨kr, trivial⟩ rfl ?_
    refine ls_ret ?_
    have hr := Option.some.inj h
    rw [← hr]
    exact ⟨.inl rfl, rfl⟩
  · refine ls_cF rfl g2 ?_
    refine ls_skip ?_
    refine hK1 _ (ls_keep [(2, aL ci64 a2), (3, .box [nI a0.1, aL c24_aaa a0.2]), (4, .box [nI a1.1, aL c231_a a1.2.1, aL ci64 a1.2.2])] ⟨kr, kr, kr, trivial⟩ rfl ?_)
    refine ls_rs tbOk ?_
    refine evs (ev_ac rfl nofun rfl (evn ?_))
    refine ls_keep [(2, aL ci64 a2), (3, .box [nI a0.1, aL c24_aaa a0.2]), (4, .box [nI a1.1, aL c231_a a1.2.1, aL ci64 a1.2.2]), (7, nI 1048576)] ⟨kr, kr, kr, kr, trivial⟩ rfl ?_
    refine ls_rs tbOk ?_
    refine evs (ev_ldB (off := 0) (v := .agg (c46_aaaa a0)) rfl rfl rfl rfl (nb rfl) rfl (evs (ev_mv (c := nI 1048576) rfl rfl rfl (?_))))
    obtain ⟨v3, g4, h⟩ := ob_some h
    refine evs (ev_call (era rfl (erg (erc rfl (erc (erG ec24_aaa _) rfl))) (era rfl rfl eran)) (laws_szHistory_s g4) (evs (ev_as (c := nI v3) rfl rfl rfl (evn ?_))))
    refine ls_keep [(2, aL ci64 a2), (3, .box [nI a0.1, aL c24_aaa a0.2]), (4, .box [nI a1.1, aL c231_a a1.2.1, aL ci64 a1.2.2]), (7, nI v3)] ⟨kr, kr, kr, kr, trivial⟩ rfl ?_
    refine ls_seq_k fun K5 hK5 => ?_
    refine ls_rs tbOk ?_
    refine evs (ev_mv (c := nI v3) rfl rfl rfl (evs (ev_bin (c1 := nI v3) (c2 := nI 0) rfl rfl rfl (evn ?_))))
    refine ls_keep [(2, aL ci64 a2), (3, .box [nI a0.1, aL c24_aaa a0.2]), (4, .box [nI a1.1, aL c231_a a1.2.1, aL ci64 a1.2.2]), (7, nI v3), (27, .bool (decide (v3 < 0)))] ⟨kr, kr, kr, kr, kr, trivial⟩ rfl ?_
    rcases cond_some h with ⟨g6, h⟩ | ⟨g6, h⟩
    · refine ls_cT rfl g6 ?_
      refine ls_rs tbOk ?_
      refine evs (ev_ac rfl nofun rfl (evn ?_))
      refine ls_keep [(6, .bool true)] ⟨kr, trivial⟩ rfl ?_
      refine ls_ret ?_
      have hr := Option.some.inj h
      rw [← hr]
      exact ⟨.inl rfl, rfl⟩
    · refine ls_cF rfl g6 ?_
      refine ls_skip ?_
      refine hK5 _ (ls_keep [(2, aL ci64 a2), (3, .box [nI a0.1, aL c24_aaa a0.2]), (4, .box [nI a1.1, aL c231_a a1.2.1, aL ci64 a1.2.2]), (7, nI v3)] ⟨kr, kr, kr, kr, trivial⟩ rfl ?_)
      refine ls_rs tbOk ?_
      refine evs (ev_ldB (off := 0) (v := .agg (c79_aaa a1)) rfl rfl rfl rfl (nb rfl) rfl (evs (ev_mv (c := nI v3) rfl rfl rfl (?_))))
      obtain ⟨v7, g8, h⟩ := ob_some h
      refine evs (ev_call (era rfl (erg (erc rfl (erc (erG ec231_a _) (erc (erG eci64 _) rfl)))) (era rfl rfl eran)) (laws_szQuery_s g8) (evs (ev_as (c := nI v7) rfl rfl rfl (evn ?_))))
      refine ls_keep [(2, aL ci64 a2), (3, .box [nI a0.1, aL c24_aaa a0.2]), (4, .box [nI a1.1, aL c231_a a1.2.1, aL ci64 a1.2.2]), (7, nI v7)] ⟨kr, kr, kr, kr, trivial⟩ rfl ?_
      refine ls_seq_k fun K9 hK9 => ?_
      refine ls_rs tbOk ?_
      refine evs (ev_mv (c := nI v7) rfl rfl rfl (evs (ev_bin (c1 := nI v7) (c2 := nI 0) rfl rfl rfl (evn ?_))))
      refine ls_keep [(2, aL ci64 a2), (3, .box [nI a0.1, aL c24_aaa a0.2]), (4, .box [nI a1.1, aL c231_a a1.2.1, aL ci64 a1.2.2]), (32, .bool (decide (v7 < 0)))] ⟨kr, kr, kr, kr, trivial⟩ rfl ?_
      rcases cond_some h with ⟨g10, h⟩ | ⟨g10, h⟩
      · refine ls_cT rfl g10 ?_
        refine ls_rs tbOk ?_
        refine evs (ev_ac rfl nofun rfl (evn ?_))
        refine ls_keep [(6, .bool true)] ⟨kr, trivial⟩ rfl ?_
        refine ls_ret ?_
        have hr := Option.some.inj h
        rw [← hr]
        exact ⟨.inl rfl, rfl⟩
      · refine ls_cF rfl g10 ?_
        refine ls_skip ?_
        refine hK9 _ (ls_keep [(2, aL ci64 a2), (3, .box [nI a0.1, aL c24_aaa a0.2]), (4, .box [nI a1.1, aL c231_a a1.2.1, aL ci64 a1.2.2])] ⟨kr, kr, kr, trivial⟩ rfl ?_)
        refine ls_rd tbOk mixed (by kernel_rfl) ?_
        refine evd rfl rfl (ev_ldB (off := 0) (v := .agg (c46_aaaa a0)) rfl rfl rfl rfl (nb rfl) rfl (?_))
        obtain ⟨v11, g12, h⟩ := ob_some h
        refine evd rfl rfl (ev_call (era rfl (erg (erc rfl (erc (erG ec24_aaa _) rfl))) eran) (laws_toHistory_s g12) (evd rfl rfl (ev_ldB (off := 0) (v := .agg (c79_aaa a1)) rfl rfl rfl rfl (nb rfl) rfl (?_))))
        obtain ⟨v13, g14, h⟩ := ob_some h
        refine evd rfl rfl (ev_call (era rfl (erg (erc rfl (erc (erG ec231_a _) (erc (erG eci64 _) rfl)))) eran) (laws_toQuery_s g14) (evd rfl rfl (ev_mv (c := aL ci64 a2) rfl rfl rfl (?_))))
        obtain ⟨v15, g16, h⟩ := ob_some h
        refine evd rfl rfl (ev_call (era rfl (erG eci64 _) eran) (laws_toIntS_s g16) (?_))
        obtain ⟨v17, g18, h⟩ := ob_some h
        refine evd rfl rfl (ev_call (era rfl (erg (erc rfl (erc (erO ec33_ooo _) rfl))) (era rfl (erg (erc rfl (erc (erO ec195_o _) (erc (erO eci64 _) rfl)))) (era rfl (erO eci64 _) eran))) (spec_OpenCursor_s g18) (evd rfl rfl (ev_mvt (c := .tup [.agg (c108_ooooo v17.1), .bool v17.2]) rfl rfl rfl (evd rfl rfl (ev_ext rfl rfl rfl rfl (evd rfl rfl (ev_ext rfl rfl rfl rfl (evd rfl rfl (ev_al rfl rfl (evd rfl rfl (ev_st (off := 0) (c1 := .agg (c108_ooooo v17.1)) (cs' := [nI v17.1.1, oL 3 ci64 v17.1.2.1, oL 3 ci64 v17.1.2.2.1, nI v17.1.2.2.2.1, oL 195 c195_o v17.1.2.2.2.2.1, oL 3 ci64 v17.1.2.2.2.2.2]) rfl rfl rfl rfl rfl rfl (nb rfl) rfl (evd rfl rfl (ev_as (c := .bool v17.2) rfl rfl rfl (evdn ?_))))))))))))))
        refine ls_keep [(2, aL ci64 a2), (3, .box [nI a0.1, aL c24_aaa a0.2]), (4, .box [nI a1.1, aL c231_a a1.2.1, aL ci64 a1.2.2]), (8, .box [nI v17.1.1, oL 3 ci64 v17.1.2.1, oL 3 ci64 v17.1.2.2.1, nI v17.1.2.2.2.1, oL 195 c195_o v17.1.2.2.2.2.1, oL 3 ci64 v17.1.2.2.2.2.2]), (9, .bool v17.2)] ⟨kr, kr, kr, kr, kr, trivial⟩ rfl ?_
        refine ls_rs tbOk ?_
        refine evs (ev_ldB (off := 0) (v := .agg (c46_aaaa a0)) rfl rfl rfl rfl (nb rfl) rfl (?_))
        obtain ⟨v19, g20, h⟩ := ob_some h
        refine evs (ev_call (era rfl (erg (erc rfl (erc (erG ec24_aaa _) rfl))) eran) (laws_toHistory_s g20) (evs (ev_al rfl rfl (evs (ev_st (off := 0) (c1 := .agg (c52_oooo v19)) (cs' := [nI v19.1, oL 33 c33_ooo v19.2]) rfl rfl rfl rfl rfl rfl (nb rfl) rfl (evn ?_))))))
        refine ls_keep [(2, aL ci64 a2), (3, .box [nI a0.1, aL c24_aaa a0.2]), (4, .box [nI a1.1, aL c231_a a1.2.1, aL ci64 a1.2.2]), (8, .box [nI v17.1.1, oL 3 ci64 v17.1.2.1, oL 3 ci64 v17.1.2.2.1, nI v17.1.2.2.2.1, oL 195 c195_o v17.1.2.2.2.2.1, oL 3 ci64 v17.1.2.2.2.2.2]), (9, .bool v17.2), (10, .box [nI v19.1, oL 33 c33_ooo v19.2])] ⟨kr, kr, kr, kr, kr, kr, trivial⟩ rfl ?_
        refine ls_rs tbOk ?_
        refine evs (ev_ldB (off := 0) (v := .agg (c79_aaa a1)) rfl rfl rfl rfl (nb rfl) rfl (?_))
        obtain ⟨v21, g22, h⟩ := ob_some h
        refine evs (ev_call (era rfl (erg (erc rfl (erc (erG ec231_a _) (erc (erG eci64 _) rfl)))) eran) (laws_toQuery_s g22) (evs (ev_al rfl rfl (evs (ev_st (off := 0) (c1 := .agg (c92_ooo v21)) (cs' := [nI v21.1, oL 195 c195_o v21.2.1, oL 3 ci64 v21.2.2]) rfl rfl rfl rfl rfl rfl (nb rfl) rfl (evn ?_))))))
        refine ls_keep [(2, aL ci64 a2), (3, .box [nI a0.1, aL c24_aaa a0.2]), (4, .box [nI a1.1, aL c231_a a1.2.1, aL ci64 a1.2.2]), (8, .box [nI v17.1.1, oL 3 ci64 v17.1.2.1, oL 3 ci64 v17.1.2.2.1, nI v17.1.2.2.2.1, oL 195 c195_o v17.1.2.2.2.2.1, oL 3 ci64 v17.1.2.2.2.2.2]), (9, .bool v17.2), (10, .box [nI v19.1, oL 33 c33_ooo v19.2]), (11, .box [nI v21.1, oL 195 c195_o v21.2.1, oL 3 ci64 v21.2.2])] ⟨kr, kr, kr, kr, kr, kr, kr, trivial⟩ rfl ?_
        refine ls_rs tbOk ?_
        refine evs (ev_mv (c := aL ci64 a2) rfl rfl rfl (?_))
        obtain ⟨v23, g24, h⟩ := ob_some h
        refine evs (ev_call (era rfl (erG eci64 _) eran) (laws_toIntS_s g24) (evs (ev_as (c := oL 3 ci64 v23) rfl rfl rfl (evn ?_))))
        refine ls_keep [(2, aL ci64 a2), (3, .box [nI a0.1, aL c24_aaa a0.2]), (4, .box [nI a1.1, aL c231_a a1.2.1, aL ci64 a1.2.2]), (8, .box [nI v17.1.1, oL 3 ci64 v17.1.2.1, oL 3 ci64 v17.1.2.2.1, nI v17.1.2.2.2.1, oL 195 c195_o v17.1.2.2.2.2.1, oL 3 ci64 v17.1.2.2.2.2.2]), (9, .bool v17.2), (10, .box [nI v19.1, oL 33 c33_ooo v19.2]), (11, .box [nI v21.1, oL 195 c195_o v21.2.1, oL 3 ci64 v21.2.2]), (12, oL 3 ci64 v23)] ⟨kr, kr, kr, kr, kr, kr, kr, kr, trivial⟩ rfl ?_
        refine ls_rs tbOk ?_
        refine evs (ev_ldB (off := 0) (v := .agg (c52_dooo v19)) rfl rfl rfl rfl (nb rfl) rfl (evs (ev_ldB (off := 0) (v := .agg (c92_dod v21)) rfl rfl rfl rfl (nb rfl) rfl (evs (ev_mv (c := oL 3 ci64 v23) rfl rfl rfl (?_))))))
        obtain ⟨v25, g26, h⟩ := ob_some h
        refine evs (ev_call (era rfl (erg (erc rfl (erc (erD ec33_ooo _) rfl))) (era rfl (erg (erc rfl (erc (erD ec195_o _) (erc (erD eci64 _) rfl)))) (era rfl (erD eci64 _) eran))) (impl_OpenCursor_s g26) (evs (ev_mvt (c := .tup [.agg (c108_ooooo v25.1), .bool v25.2]) rfl rfl rfl (evs (ev_ext rfl rfl rfl rfl (evs (ev_ext rfl rfl rfl rfl (evs (ev_al rfl rfl (evs (ev_st (off := 0) (c1 := .agg (c108_ooooo v25.1)) (cs' := [nI v25.1.1, oL 3 ci64 v25.1.2.1, oL 3 ci64 v25.1.2.2.1, nI v25.1.2.2.2.1, oL 195 c195_o v25.1.2.2.2.2.1, oL 3 ci64 v25.1.2.2.2.2.2]) rfl rfl rfl rfl rfl rfl (nb rfl) rfl (evs (ev_as (c := .bool v25.2) rfl rfl rfl (evn ?_))))))))))))))
        refine ls_keep [(2, aL ci64 a2), (3, .box [nI a0.1, aL c24_aaa a0.2]), (4, .box [nI a1.1, aL c231_a a1.2.1, aL ci64 a1.2.2]), (8, .box [nI v17.1.1, oL 3 ci64 v17.1.2.1, oL 3 ci64 v17.1.2.2.1, nI v17.1.2.2.2.1, oL 195 c195_o v17.1.2.2.2.2.1, oL 3 ci64 v17.1.2.2.2.2.2]), (9, .bool v17.2), (10, .box [nI v19.1, oL 33 c33_ooo v19.2]), (11, .box [nI v21.1, oL 195 c195_o v21.2.1, oL 3 ci64 v21.2.2]), (12, oL 3 ci64 v23), (13, .box [nI v25.1.1, oL 3 ci64 v25.1.2.1, oL 3 ci64 v25.1.2.2.1, nI v25.1.2.2.2.1, oL 195 c195_o v25.1.2.2.2.2.1, oL 3 ci64 v25.1.2.2.2.2.2]), (14, .bool v25.2)] ⟨kr, kr, kr, kr, kr, kr, kr, kr, kr, kr, trivial⟩ rfl ?_
        refine ls_seq_k fun K27 hK27 => ?_
        refine ls_rs tbOk ?_
        refine evs (ev_ldB (off := 0) (v := .agg (c108_dddod v25.1)) rfl rfl rfl rfl (nb rfl) rfl (evs (ev_ldB (off := 0) (v := .agg (c108_dddod v17.1)) rfl rfl rfl rfl (nb rfl) rfl (?_))))
        obtain ⟨v28, g29, h⟩ := ob_some h
        refine evs (ev_call (era rfl (erg (erc rfl (erc (erD eci64 _) (erc (erD eci64 _) (erc rfl (erc (erD ec195_o _) (erc (erD eci64 _) rfl))))))) (era rfl (erg (erc rfl (erc (erD eci64 _) (erc (erD eci64 _) (erc rfl (erc (erD ec195_o _) (erc (erD eci64 _) rfl))))))) eran)) (laws_eqCursor_s g29) (evs (ev_un (c1 := .bool v28) rfl trivial (evs (ev_mv (c := .bool (!v28)) rfl rfl rfl (?_))))))
        rcases cond_some h with ⟨g30, h⟩ | ⟨g30, h⟩
        · refine evs (ev_gs rfl rfl (isb_T g30) (evs (ev_gs rfl rfl (isb_T g30) (evs (ev_gs rfl rfl (isb_T g30) (evs (ev_pkT (c1 := .bool true) rfl g30 rfl rfl (evn ?_))))))))
          refine ls_keep [(2, aL ci64 a2), (3, .box [nI a0.1, aL c24_aaa a0.2]), (4, .box [nI a1.1, aL c231_a a1.2.1, aL ci64 a1.2.2]), (8, .box [nI v17.1.1, oL 3 ci64 v17.1.2.1, oL 3 ci64 v17.1.2.2.1, nI v17.1.2.2.2.1, oL 195 c195_o v17.1.2.2.2.2.1, oL 3 ci64 v17.1.2.2.2.2.2]), (9, .bool v17.2), (10, .box [nI v19.1, oL 33 c33_ooo v19.2]), (11, .box [nI v21.1, oL 195 c195_o v21.2.1, oL 3 ci64 v21.2.2]), (12, oL 3 ci64 v23), (13, .box [nI v25.1.1, oL 3 ci64 v25.1.2.1, oL 3 ci64 v25.1.2.2.1, nI v25.1.2.2.2.1, oL 195 c195_o v25.1.2.2.2.2.1, oL 3 ci64 v25.1.2.2.2.2.2]), (14, .bool v25.2), (64, .bool true)] ⟨kr, kr, kr, kr, kr, kr, kr, kr, kr, kr, kr, trivial⟩ rfl ?_
          refine ls_cT rfl rfl ?_
          refine ls_rs tbOk ?_
          refine evs (ev_ac rfl nofun rfl (evn ?_))
          refine ls_keep [(6, .bool false)] ⟨kr, trivial⟩ rfl ?_
          refine ls_ret ?_
          have hr := Option.some.inj h
          rw [← hr]
          exact ⟨.inl rfl, rfl⟩
        · refine evs (ev_gr rfl (congrArg V.bool g30) (ev_mv (c := .bool v25.2) rfl rfl rfl (evs (ev_gr rfl (congrArg V.bool g30) (ev_mv (c := .bool v17.2) rfl rfl rfl (evs (ev_gr rfl (congrArg V.bool g30) (ev_bin (c1 := .bool v25.2) (c2 := .bool v17.2) rfl rfl rfl (evs (ev_pkF (c1 := .bool (!(v25.2 == v17.2))) rfl g30 rfl rfl (evn ?_)))))))))))
          refine ls_keep [(2, aL ci64 a2), (3, .box [nI a0.1, aL c24_aaa a0.2]), (4, .box [nI a1.1, aL c231_a a1.2.1, aL ci64 a1.2.2]), (8, .box [nI v17.1.1, oL 3 ci64 v17.1.2.1, oL 3 ci64 v17.1.2.2.1, nI v17.1.2.2.2.1, oL 195 c195_o v17.1.2.2.2.2.1, oL 3 ci64 v17.1.2.2.2.2.2]), (9, .bool v17.2), (10, .box [nI v19.1, oL 33 c33_ooo v19.2]), (11, .box [nI v21.1, oL 195 c195_o v21.2.1, oL 3 ci64 v21.2.2]), (12, oL 3 ci64 v23), (13, .box [nI v25.1.1, oL 3 ci64 v25.1.2.1, oL 3 ci64 v25.1.2.2.1, nI v25.1.2.2.2.1, oL 195 c195_o v25.1.2.2.2.2.1, oL 3 ci64 v25.1.2.2.2.2.2]), (14, .bool v25.2), (64, .bool (!(v25.2 == v17.2)))] ⟨kr, kr, kr, kr, kr, kr, kr, kr, kr, kr, kr, trivial⟩ rfl ?_
          rcases cond_some h with ⟨g31, h⟩ | ⟨g31, h⟩
          · refine ls_cT rfl g31 ?_
            refine ls_rs tbOk ?_
            refine evs (ev_ac rfl nofun rfl (evn ?_))
            refine ls_keep [(6, .bool false)] ⟨kr, trivial⟩ rfl ?_
            refine ls_ret ?_
            have hr := Option.some.inj h
            rw [← hr]
            exact ⟨.inl rfl, rfl⟩
          · refine ls_cF rfl g31 ?_
            refine ls_skip ?_
            refine hK27 _ (ls_keep [(2, aL ci64 a2), (3, .box [nI a0.1, aL c24_aaa a0.2]), (4, .box [nI a1.1, aL c231_a a1.2.1, aL ci64 a1.2.2]), (8, .box [nI v17.1.1, oL 3 ci64 v17.1.2.1, oL 3 ci64 v17.1.2.2.1, nI v17.1.2.2.2.1, oL 195 c195_o v17.1.2.2.2.2.1, oL 3 ci64 v17.1.2.2.2.2.2]), (9, .bool v17.2), (10, .box [nI v19.1, oL 33 c33_ooo v19.2]), (11, .box [nI v21.1, oL 195 c195_o v21.2.1, oL 3 ci64 v21.2.2]), (12, oL 3 ci64 v23), (13, .box [nI v25.1.1, oL 3 ci64 v25.1.2.1, oL 3 ci64 v25.1.2.2.1, nI v25.1.2.2.2.1, oL 195 c195_o v25.1.2.2.2.2.1, oL 3 ci64 v25.1.2.2.2.2.2]), (14, .bool v25.2)] ⟨kr, kr, kr, kr, kr, kr, kr, kr, kr, kr, trivial⟩ rfl ?_)
            refine ls_seq_k fun K32 hK32 => ?_
            refine ls_rd tbOk mixed (by kernel_rfl) ?_
            refine evd rfl rfl (ev_ldB (off := 0) (v := .agg (c52_dooo v19)) rfl rfl rfl rfl (nb rfl) rfl (evd rfl rfl (ev_ldB (off := 0) (v := .agg (c46_aaaa a0)) rfl rfl rfl rfl (nb rfl) rfl (?_))))
            obtain ⟨v33, g34, h⟩ := ob_some h
            refine evd rfl rfl (ev_call (era rfl (erg (erc rfl (erc (erG ec24_aaa _) rfl))) eran) (laws_toHistory_s g34) (?_))
            obtain ⟨v35, g36, h⟩ := ob_some h
            refine evd rfl rfl (ev_call (era rfl (erg (erc rfl (erc (erD ec33_ooo _) rfl))) (era rfl (erg (erc rfl (erc (erO ec33_ooo _) rfl))) eran)) (laws_eqHistory_s g36) (evd rfl rfl (ev_un (c1 := .bool v35) rfl trivial (evdn ?_))))
            refine ls_keep [(2, aL ci64 a2), (3, .box [nI a0.1, aL c24_aaa a0.2]), (4, .box [nI a1.1, aL c231_a a1.2.1, aL ci64 a1.2.2]), (8, .box [nI v17.1.1, oL 3 ci64 v17.1.2.1, oL 3 ci64 v17.1.2.2.1, nI v17.1.2.2.2.1, oL 195 c195_o v17.1.2.2.2.2.1, oL 3 ci64 v17.1.2.2.2.2.2]), (9, .bool v17.2), (10, .box [nI v19.1, oL 33 c33_ooo v19.2]), (11, .box [nI v21.1, oL 195 c195_o v21.2.1, oL 3 ci64 v21.2.2]), (12, oL 3 ci64 v23), (13, .box [nI v25.1.1, oL 3 ci64 v25.1.2.1, oL 3 ci64 v25.1.2.2.1, nI v25.1.2.2.2.1, oL 195 c195_o v25.1.2.2.2.2.1, oL 3 ci64 v25.1.2.2.2.2.2]), (14, .bool v25.2), (69, .bool (!v35))] ⟨kr, kr, kr, kr, kr, kr, kr, kr, kr, kr, kr, trivial⟩ rfl ?_
            rcases cond_some h with ⟨g37, h⟩ | ⟨g37, h⟩
            · refine ls_cT rfl g37 ?_
              refine ls_rs tbOk ?_
              refine evs (ev_ac rfl nofun rfl (evn ?_))
              refine ls_keep [(6, .bool false)] ⟨kr, trivial⟩ rfl ?_
              refine ls_ret ?_
              have hr := Option.some.inj h
              rw [← hr]
              exact ⟨.inl rfl, rfl⟩
            · refine ls_cF rfl g37 ?_
              refine ls_skip ?_
              refine hK32 _ (ls_keep [(2, aL ci64 a2), (3, .box [nI a0.1, aL c24_aaa a0.2]), (4, .box [nI a1.1, aL c231_a a1.2.1, aL ci64 a1.2.2]), (8, .box [nI v17.1.1, oL 3 ci64 v17.1.2.1, oL 3 ci64 v17.1.2.2.1, nI v17.1.2.2.2.1, oL 195 c195_o v17.1.2.2.2.2.1, oL 3 ci64 v17.1.2.2.2.2.2]), (9, .bool v17.2), (10, .box [nI v19.1, oL 33 c33_ooo v19.2]), (11, .box [nI v21.1, oL 195 c195_o v21.2.1, oL 3 ci64 v21.2.2]), (12, oL 3 ci64 v23), (13, .box [nI v25.1.1, oL 3 ci64 v25.1.2.1, oL 3 ci64 v25.1.2.2.1, nI v25.1.2.2.2.1, oL 195 c195_o v25.1.2.2.2.2.1, oL 3 ci64 v25.1.2.2.2.2.2]), (14, .bool v25.2)] ⟨kr, kr, kr, kr, kr, kr, kr, kr, kr, kr, trivial⟩ rfl ?_)
              refine ls_seq_k fun K38 hK38 => ?_
              refine ls_rd tbOk mixed (by kernel_rfl) ?_
              refine evd rfl rfl (ev_ldB (off := 0) (v := .agg (c92_dod v21)) rfl rfl rfl rfl (nb rfl) rfl (evd rfl rfl (ev_ldB (off := 0) (v := .agg (c79_aaa a1)) rfl rfl rfl rfl (nb rfl) rfl (?_))))
              obtain ⟨v39, g40, h⟩ := ob_some h
              refine evd rfl rfl (ev_call (era rfl (erg (erc rfl (erc (erG ec231_a _) (erc (erG eci64 _) rfl)))) eran) (laws_toQuery_s g40) (?_))
              obtain ⟨v41, g42, h⟩ := ob_some h
              refine evd rfl rfl (ev_call (era rfl (erg (erc rfl (erc (erD ec195_o _) (erc (erD eci64 _) rfl)))) (era rfl (erg (erc rfl (erc (erO ec195_o _) (erc (erO eci64 _) rfl)))) eran)) (laws_eqQuery_s g42) (evd rfl rfl (ev_un (c1 := .bool v41) rfl trivial (evdn ?_))))
              refine ls_keep [(2, aL ci64 a2), (3, .box [nI a0.1, aL c24_aaa a0.2]), (4, .box [nI a1.1, aL c231_a a1.2.1, aL ci64 a1.2.2]), (8, .box [nI v17.1.1, oL 3 ci64 v17.1.2.1, oL 3 ci64 v17.1.2.2.1, nI v17.1.2.2.2.1, oL 195 c195_o v17.1.2.2.2.2.1, oL 3 ci64 v17.1.2.2.2.2.2]), (9, .bool v17.2), (10, .box [nI v19.1, oL 33 c33_ooo v19.2]), (11, .box [nI v21.1, oL 195 c195_o v21.2.1, oL 3 ci64 v21.2.2]), (12, oL 3 ci64 v23), (13, .box [nI v25.1.1, oL 3 ci64 v25.1.2.1, oL 3 ci64 v25.1.2.2.1, nI v25.1.2.2.2.1, oL 195 c195_o v25.1.2.2.2.2.1, oL 3 ci64 v25.1.2.2.2.2.2]), (14, .bool v25.2), (74, .bool (!v41))] ⟨kr, kr, kr, kr, kr, kr, kr, kr, kr, kr, kr, trivial⟩ rfl ?_
              rcases cond_some h with ⟨g43, h⟩ | ⟨g43, h⟩
              · refine ls_cT rfl g43 ?_
                refine ls_rs tbOk ?_
                refine evs (ev_ac rfl nofun rfl (evn ?_))
                refine ls_keep [(6, .bool false)] ⟨kr, trivial⟩ rfl ?_
                refine ls_ret ?_
                have hr := Option.some.inj h
                rw [← hr]
                exact ⟨.inl rfl, rfl⟩
              · refine ls_cF rfl g43 ?_
                refine ls_skip ?_
                refine hK38 _ (ls_keep [(2, aL ci64 a2), (3, .box [nI a0.1, aL c24_aaa a0.2]), (4, .box [nI a1.1, aL c231_a a1.2.1, aL ci64 a1.2.2]), (8, .box [nI v17.1.1, oL 3 ci64 v17.1.2.1, oL 3 ci64 v17.1.2.2.1, nI v17.1.2.2.2.1, oL 195 c195_o v17.1.2.2.2.2.1, oL 3 ci64 v17.1.2.2.2.2.2]), (9, .bool v17.2), (10, .box [nI v19.1, oL 33 c33_ooo v19.2]), (11, .box [nI v21.1, oL 195 c195_o v21.2.1, oL 3 ci64 v21.2.2]), (12, oL 3 ci64 v23), (13, .box [nI v25.1.1, oL 3 ci64 v25.1.2.1, oL 3 ci64 v25.1.2.2.1, nI v25.1.2.2.2.1, oL 195 c195_o v25.1.2.2.2.2.1, oL 3 ci64 v25.1.2.2.2.2.2]), (14, .bool v25.2)] ⟨kr, kr, kr, kr, kr, kr, kr, kr, kr, kr, trivial⟩ rfl ?_)
                refine ls_seq_k fun K44 hK44 => ?_
                refine ls_rs tbOk ?_
                refine evs (ev_mv (c := oL 3 ci64 v23) rfl rfl rfl (evs (ev_mv (c := aL ci64 a2) rfl rfl rfl (?_))))
                obtain ⟨v45, g46, h⟩ := ob_some h
                refine evs (ev_call (era rfl (erG eci64 _) eran) (laws_toIntS_s g46) (?_))
                obtain ⟨v47, g48, h⟩ := ob_some h
                refine evs (ev_call (era rfl (erD eci64 _) (era rfl (erO eci64 _) eran)) (laws_eqIntS_s g48) (evs (ev_un (c1 := .bool v47) rfl trivial (evn ?_))))
                refine ls_keep [(2, aL ci64 a2), (3, .box [nI a0.1, aL c24_aaa a0.2]), (4, .box [nI a1.1, aL c231_a a1.2.1, aL ci64 a1.2.2]), (8, .box [nI v17.1.1, oL 3 ci64 v17.1.2.1, oL 3 ci64 v17.1.2.2.1, nI v17.1.2.2.2.1, oL 195 c195_o v17.1.2.2.2.2.1, oL 3 ci64 v17.1.2.2.2.2.2]), (9, .bool v17.2), (10, .box [nI v19.1, oL 33 c33_ooo v19.2]), (11, .box [nI v21.1, oL 195 c195_o v21.2.1, oL 3 ci64 v21.2.2]), (12, oL 3 ci64 v23), (13, .box [nI v25.1.1, oL 3 ci64 v25.1.2.1, oL 3 ci64 v25.1.2.2.1, nI v25.1.2.2.2.1, oL 195 c195_o v25.1.2.2.2.2.1, oL 3 ci64 v25.1.2.2.2.2.2]), (14, .bool v25.2), (79, .bool (!v47))] ⟨kr, kr, kr, kr, kr, kr, kr, kr, kr, kr, kr, trivial⟩ rfl ?_
                rcases cond_some h with ⟨g49, h⟩ | ⟨g49, h⟩
                · refine ls_cT rfl g49 ?_
                  refine ls_rs tbOk ?_
                  refine evs (ev_ac rfl nofun rfl (evn ?_))
                  refine ls_keep [(6, .bool false)] ⟨kr, trivial⟩ rfl ?_
                  refine ls_ret ?_
                  have hr := Option.some.inj h
                  rw [← hr]
                  exact ⟨.inl rfl, rfl⟩
                · refine ls_cF rfl g49 ?_
                  refine ls_skip ?_
                  refine hK44 _ (ls_keep [(2, aL ci64 a2), (3, .box [nI a0.1, aL c24_aaa a0.2]), (4, .box [nI a1.1, aL c231_a a1.2.1, aL ci64 a1.2.2]), (8, .box [nI v17.1.1, oL 3 ci64 v17.1.2.1, oL 3 ci64 v17.1.2.2.1, nI v17.1.2.2.2.1, oL 195 c195_o v17.1.2.2.2.2.1, oL 3 ci64 v17.1.2.2.2.2.2]), (9, .bool v17.2), (10, .box [nI v19.1, oL 33 c33_ooo v19.2]), (11, .box [nI v21.1, oL 195 c195_o v21.2.1, oL 3 ci64 v21.2.2]), (12, oL 3 ci64 v23), (13, .box [nI v25.1.1, oL 3 ci64 v25.1.2.1, oL 3 ci64 v25.1.2.2.1, nI v25.1.2.2.2.1, oL 195 c195_o v25.1.2.2.2.2.1, oL 3 ci64 v25.1.2.2.2.2.2]), (14, .bool v25.2)] ⟨kr, kr, kr, kr, kr, kr, kr, kr, kr, kr, trivial⟩ rfl ?_)
                  refine ls_rs tbOk ?_
                  refine evs (ev_ac rfl nofun rfl (evn ?_))
                  refine ls_keep [(2, aL ci64 a2), (3, .box [nI a0.1, aL c24_aaa a0.2]), (4, .box [nI a1.1, aL c231_a a1.2.1, aL ci64 a1.2.2]), (8, .box [nI v17.1.1, oL 3 ci64 v17.1.2.1, oL 3 ci64 v17.1.2.2.1, nI v17.1.2.2.2.1, oL 195 c195_o v17.1.2.2.2.2.1, oL 3 ci64 v17.1.2.2.2.2.2]), (9, .bool v17.2), (10, .box [nI v19.1, oL 33 c33_ooo v19.2]), (11, .box [nI v21.1, oL 195 c195_o v21.2.1, oL 3 ci64 v21.2.2]), (12, oL 3 ci64 v23), (13, .box [nI v25.1.1, oL 3 ci64 v25.1.2.1, oL 3 ci64 v25.1.2.2.1, nI v25.1.2.2.2.1, oL 195 c195_o v25.1.2.2.2.2.1, oL 3 ci64 v25.1.2.2.2.2.2]), (14, .bool v25.2), (15, nI 1)] ⟨kr, kr, kr, kr, kr, kr, kr, kr, kr, kr, kr, trivial⟩ rfl ?_
                  refine ls_keep [(2, aL ci64 a2), (3, .box [nI a0.1, aL c24_aaa a0.2]), (4, .box [nI a1.1, aL c231_a a1.2.1, aL ci64 a1.2.2]), (8, .box [nI v17.1.1, oL 3 ci64 v17.1.2.1, oL 3 ci64 v17.1.2.2.1, nI v17.1.2.2.2.1, oL 195 c195_o v17.1.2.2.2.2.1, oL 3 ci64 v17.1.2.2.2.2.2]), (9, .bool v17.2), (10, .box [nI v19.1, oL 33 c33_ooo v19.2]), (11, .box [nI v21.1, oL 195 c195_o v21.2.1, oL 3 ci64 v21.2.2]), (12, oL 3 ci64 v23), (13, .box [nI v25.1.1, oL 3 ci64 v25.1.2.1, oL 3 ci64 v25.1.2.2.1, nI v25.1.2.2.2.1, oL 195 c195_o v25.1.2.2.2.2.1, oL 3 ci64 v25.1.2.2.2.2.2]), (14, .bool v25.2), (15, nI 1)] ⟨kr, kr, kr, kr, kr, kr, kr, kr, kr, kr, kr, trivial⟩ rfl ?_
                  obtain ⟨v50, g51, h⟩ := ob_some h
                  refine ls_mark (src_box tbOk rfl rfl rfl) rfl rfl (laws_markHistory_m g51) (dp52 _) (sf_of (sfc (argd_flat (fun _ => rfl) _) (sfc (scc rfl (scc (sca ad24 _) scn)) (sfc (scc rfl (scc (sca ad231 _) (scc (sca (fun _ => rfl) _) scn))) (sfc (scc rfl (scc (sco (fun _ => rfl) _) (scc (sco (fun _ => rfl) _) (scc rfl (scc (sco dp195 _) (scc (sco (fun _ => rfl) _) scn)))))) (sfc rfl (sfs (sfc (scc rfl (scc (sco dp195 _) (scc (sco (fun _ => rfl) _) scn))) (sfc (deep_flat (fun _ => rfl) _) (sfc (scc rfl (scc (sco (fun _ => rfl) _) (scc (sco (fun _ => rfl) _) (scc rfl (scc (sco dp195 _) (scc (sco (fun _ => rfl) _) scn)))))) (sfc rfl (sfc rfl sfn)))))))))))) rfl rfl ⟨by decide, by decide⟩ rfl ?_
                  refine ls_keep [(2, aL ci64 a2), (3, .box [nI a0.1, aL c24_aaa a0.2]), (4, .box [nI a1.1, aL c231_a a1.2.1, aL ci64 a1.2.2]), (8, .box [nI v17.1.1, oL 3 ci64 v17.1.2.1, oL 3 ci64 v17.1.2.2.1, nI v17.1.2.2.2.1, oL 195 c195_o v17.1.2.2.2.2.1, oL 3 ci64 v17.1.2.2.2.2.2]), (9, .bool v17.2), (11, .box [nI v21.1, oL 195 c195_o v21.2.1, oL 3 ci64 v21.2.2]), (12, oL 3 ci64 v23), (13, .box [nI v25.1.1, oL 3 ci64 v25.1.2.1, oL 3 ci64 v25.1.2.2.1, nI v25.1.2.2.2.1, oL 195 c195_o v25.1.2.2.2.2.1, oL 3 ci64 v25.1.2.2.2.2.2]), (14, .bool v25.2), (15, nI v50.2)] ⟨kr, kr, kr, kr, kr, kr, kr, kr, kr, kr, trivial⟩ rfl ?_
                  refine ls_keep [(2, aL ci64 a2), (3, .box [nI a0.1, aL c24_aaa a0.2]), (4, .box [nI a1.1, aL c231_a a1.2.1, aL ci64 a1.2.2]), (8, .box [nI v17.1.1, oL 3 ci64 v17.1.2.1, oL 3 ci64 v17.1.2.2.1, nI v17.1.2.2.2.1, oL 195 c195_o v17.1.2.2.2.2.1, oL 3 ci64 v17.1.2.2.2.2.2]), (9, .bool v17.2), (11, .box [nI v21.1, oL 195 c195_o v21.2.1, oL 3 ci64 v21.2.2]), (12, oL 3 ci64 v23), (13, .box [nI v25.1.1, oL 3 ci64 v25.1.2.1, oL 3 ci64 v25.1.2.2.1, nI v25.1.2.2.2.1, oL 195 c195_o v25.1.2.2.2.2.1, oL 3 ci64 v25.1.2.2.2.2.2]), (14, .bool v25.2), (15, nI v50.2)] ⟨kr, kr, kr, kr, kr, kr, kr, kr, kr, kr, trivial⟩ rfl ?_
                  obtain ⟨v52, g53, h⟩ := ob_some h
                  refine ls_mark (src_box tbOk rfl rfl rfl) rfl rfl (laws_markQuery_m g53) (dp92 _) (sf_of (sfc (argd_flat (fun _ => rfl) _) (sfc (scc rfl (scc (sca ad24 _) scn)) (sfc (scc rfl (scc (sca ad231 _) (scc (sca (fun _ => rfl) _) scn))) (sfc (scc rfl (scc (sco (fun _ => rfl) _) (scc (sco (fun _ => rfl) _) (scc rfl (scc (sco dp195 _) (scc (sco (fun _ => rfl) _) scn)))))) (sfc rfl (sfs (sfc (deep_flat (fun _ => rfl) _) (sfc (scc rfl (scc (sco (fun _ => rfl) _) (scc (sco (fun _ => rfl) _) (scc rfl (scc (sco dp195 _) (scc (sco (fun _ => rfl) _) scn)))))) (sfc rfl (sfc rfl sfn))))))))))) rfl rfl ⟨by decide, by decide⟩ rfl ?_
                  refine ls_keep [(2, aL ci64 a2), (3, .box [nI a0.1, aL c24_aaa a0.2]), (4, .box [nI a1.1, aL c231_a a1.2.1, aL ci64 a1.2.2]), (8, .box [nI v17.1.1, oL 3 ci64 v17.1.2.1, oL 3 ci64 v17.1.2.2.1, nI v17.1.2.2.2.1, oL 195 c195_o v17.1.2.2.2.2.1, oL 3 ci64 v17.1.2.2.2.2.2]), (9, .bool v17.2), (12, oL 3 ci64 v23), (13, .box [nI v25.1.1, oL 3 ci64 v25.1.2.1, oL 3 ci64 v25.1.2.2.1, nI v25.1.2.2.2.1, oL 195 c195_o v25.1.2.2.2.2.1, oL 3 ci64 v25.1.2.2.2.2.2]), (14, .bool v25.2), (15, nI v52.2)] ⟨kr, kr, kr, kr, kr, kr, kr, kr, kr, trivial⟩ rfl ?_
                  refine ls_keep [(2, aL ci64 a2), (3, .box [nI a0.1, aL c24_aaa a0.2]), (4, .box [nI a1.1, aL c231_a a1.2.1, aL ci64 a1.2.2]), (8, .box [nI v17.1.1, oL 3 ci64 v17.1.2.1, oL 3 ci64 v17.1.2.2.1, nI v17.1.2.2.2.1, oL 195 c195_o v17.1.2.2.2.2.1, oL 3 ci64 v17.1.2.2.2.2.2]), (9, .bool v17.2), (12, oL 3 ci64 v23), (13, .box [nI v25.1.1, oL 3 ci64 v25.1.2.1, oL 3 ci64 v25.1.2.2.1, nI v25.1.2.2.2.1, oL 195 c195_o v25.1.2.2.2.2.1, oL 3 ci64 v25.1.2.2.2.2.2]), (14, .bool v25.2), (15, nI v52.2)] ⟨kr, kr, kr, kr, kr, kr, kr, kr, kr, trivial⟩ rfl ?_
                  obtain ⟨v54, g55, h⟩ := ob_some h
                  refine ls_mark (src_own rfl) rfl rfl (laws_markIntS_m g55) (deep_flat (fun _ => rfl) _) (sf_of (sfc (argd_flat (fun _ => rfl) _) (sfc (scc rfl (scc (sca ad24 _) scn)) (sfc (scc rfl (scc (sca ad231 _) (scc (sca (fun _ => rfl) _) scn))) (sfc (scc rfl (scc (sco (fun _ => rfl) _) (scc (sco (fun _ => rfl) _) (scc rfl (scc (sco dp195 _) (scc (sco (fun _ => rfl) _) scn)))))) (sfc rfl (sfs (sfc (scc rfl (scc (sco (fun _ => rfl) _) (scc (sco (fun _ => rfl) _) (scc rfl (scc (sco dp195 _) (scc (sco (fun _ => rfl) _) scn)))))) (sfc rfl (sfc rfl sfn)))))))))) rfl rfl ⟨by decide, by decide⟩ rfl ?_
                  refine ls_keep [(2, aL ci64 a2), (3, .box [nI a0.1, aL c24_aaa a0.2]), (4, .box [nI a1.1, aL c231_a a1.2.1, aL ci64 a1.2.2]), (8, .box [nI v17.1.1, oL 3 ci64 v17.1.2.1, oL 3 ci64 v17.1.2.2.1, nI v17.1.2.2.2.1, oL 195 c195_o v17.1.2.2.2.2.1, oL 3 ci64 v17.1.2.2.2.2.2]), (9, .bool v17.2), (13, .box [nI v25.1.1, oL 3 ci64 v25.1.2.1, oL 3 ci64 v25.1.2.2.1, nI v25.1.2.2.2.1, oL 195 c195_o v25.1.2.2.2.2.1, oL 3 ci64 v25.1.2.2.2.2.2]), (14, .bool v25.2), (15, nI v54.2)] ⟨kr, kr, kr, kr, kr, kr, kr, kr, trivial⟩ rfl ?_
                  refine ls_seq_k fun K56 hK56 => ?_
                  refine ls_rs tbOk ?_
                  refine evs (ev_mv (c := nI v54.2) rfl rfl rfl (evs (ev_bin (c1 := nI v54.2) (c2 := nI 0) rfl rfl rfl (evs (ev_mv (c := .bool (decide (v54.2 < 0))) rfl rfl rfl (?_))))))
                  rcases cond_some h with ⟨g57, h⟩ | ⟨g57, h⟩
                  · refine evs (ev_gs rfl rfl (isb_T g57) (evs (ev_gs rfl rfl (isb_T g57) (evs (ev_gs rfl rfl (isb_T g57) (evs (ev_gs rfl rfl (isb_T g57) (evs (ev_pkT (c1 := .bool true) rfl g57 rfl rfl (evs (ev_mv (c := .bool true) rfl rfl rfl (evs (ev_gs rfl rfl rfl (evs (ev_gs rfl rfl rfl (evs (ev_gs rfl rfl rfl (evs (ev_pkT (c1 := .bool true) rfl rfl rfl rfl (evn ?_))))))))))))))))))))
                    refine ls_keep [(2, aL ci64 a2), (3, .box [nI a0.1, aL c24_aaa a0.2]), (4, .box [nI a1.1, aL c231_a a1.2.1, aL ci64 a1.2.2]), (8, .box [nI v17.1.1, oL 3 ci64 v17.1.2.1, oL 3 ci64 v17.1.2.2.1, nI v17.1.2.2.2.1, oL 195 c195_o v17.1.2.2.2.2.1, oL 3 ci64 v17.1.2.2.2.2.2]), (9, .bool v17.2), (13, .box [nI v25.1.1, oL 3 ci64 v25.1.2.1, oL 3 ci64 v25.1.2.2.1, nI v25.1.2.2.2.1, oL 195 c195_o v25.1.2.2.2.2.1, oL 3 ci64 v25.1.2.2.2.2.2]), (101, .bool true)] ⟨kr, kr, kr, kr, kr, kr, kr, trivial⟩ rfl ?_
                    refine ls_cT rfl rfl ?_
                    refine ls_rs tbOk ?_
                    refine evs (ev_ac rfl nofun rfl (evn ?_))
                    refine ls_keep [(6, .bool false)] ⟨kr, trivial⟩ rfl ?_
                    refine ls_ret ?_
                    have hr := Option.some.inj h
                    rw [← hr]
                    exact ⟨.inl rfl, rfl⟩
                  · refine evs (ev_gr rfl (congrArg V.bool g57) (ev_ldB (off := 0) (v := .agg (c108_dddod v25.1)) rfl rfl rfl rfl (nb rfl) rfl (evs (ev_gr rfl (congrArg V.bool g57) (ev_ldB (off := 0) (v := .agg (c108_dddod v17.1)) rfl rfl rfl rfl (nb rfl) rfl (?_))))))
                    obtain ⟨v58, g59, h⟩ := ob_some h
                    refine evs (ev_gr rfl (congrArg V.bool g57) (ev_call (era rfl (erg (erc rfl (erc (erD eci64 _) (erc (erD eci64 _) (erc rfl (erc (erD ec195_o _) (erc (erD eci64 _) rfl))))))) (era rfl (erg (erc rfl (erc (erD eci64 _) (erc (erD eci64 _) (erc rfl (erc (erD ec195_o _) (erc (erD eci64 _) rfl))))))) eran)) (laws_eqCursor_s g59) (evs (ev_gr rfl (congrArg V.bool g57) (ev_un (c1 := .bool v58) rfl trivial (evs (ev_pkF (c1 := .bool (!v58)) rfl g57 rfl rfl (evs (ev_mv (c := .bool (!v58)) rfl rfl rfl (?_))))))))))
                    rcases cond_some h with ⟨g60, h⟩ | ⟨g60, h⟩
                    · refine evs (ev_gs rfl rfl (isb_T g60) (evs (ev_gs rfl rfl (isb_T g60) (evs (ev_gs rfl rfl (isb_T g60) (evs (ev_pkT (c1 := .bool true) rfl g60 rfl rfl (evn ?_))))))))
                      refine ls_keep [(2, aL ci64 a2), (3, .box [nI a0.1, aL c24_aaa a0.2]), (4, .box [nI a1.1, aL c231_a a1.2.1, aL ci64 a1.2.2]), (8, .box [nI v17.1.1, oL 3 ci64 v17.1.2.1, oL 3 ci64 v17.1.2.2.1, nI v17.1.2.2.2.1, oL 195 c195_o v17.1.2.2.2.2.1, oL 3 ci64 v17.1.2.2.2.2.2]), (9, .bool v17.2), (13, .box [nI v25.1.1, oL 3 ci64 v25.1.2.1, oL 3 ci64 v25.1.2.2.1, nI v25.1.2.2.2.1, oL 195 c195_o v25.1.2.2.2.2.1, oL 3 ci64 v25.1.2.2.2.2.2]), (101, .bool true)] ⟨kr, kr, kr, kr, kr, kr, kr, trivial⟩ rfl ?_
                      refine ls_cT rfl rfl ?_
                      refine ls_rs tbOk ?_
                      refine evs (ev_ac rfl nofun rfl (evn ?_))
                      refine ls_keep [(6, .bool false)] ⟨kr, trivial⟩ rfl ?_
                      refine ls_ret ?_
                      have hr := Option.some.inj h
                      rw [← hr]
                      exact ⟨.inl rfl, rfl⟩
                    · refine evs (ev_gr rfl (congrArg V.bool g60) (ev_mv (c := .bool v25.2) rfl rfl rfl (evs (ev_gr rfl (congrArg V.bool g60) (ev_mv (c := .bool v17.2) rfl rfl rfl (evs (ev_gr rfl (congrArg V.bool g60) (ev_bin (c1 := .bool v25.2) (c2 := .bool v17.2) rfl rfl rfl (evs (ev_pkF (c1 := .bool (!(v25.2 == v17.2))) rfl g60 rfl rfl (evn ?_)))))))))))
                      refine ls_keep [(2, aL ci64 a2), (3, .box [nI a0.1, aL c24_aaa a0.2]), (4, .box [nI a1.1, aL c231_a a1.2.1, aL ci64 a1.2.2]), (8, .box [nI v17.1.1, oL 3 ci64 v17.1.2.1, oL 3 ci64 v17.1.2.2.1, nI v17.1.2.2.2.1, oL 195 c195_o v17.1.2.2.2.2.1, oL 3 ci64 v17.1.2.2.2.2.2]), (9, .bool v17.2), (13, .box [nI v25.1.1, oL 3 ci64 v25.1.2.1, oL 3 ci64 v25.1.2.2.1, nI v25.1.2.2.2.1, oL 195 c195_o v25.1.2.2.2.2.1, oL 3 ci64 v25.1.2.2.2.2.2]), (101, .bool (!(v25.2 == v17.2)))] ⟨kr, kr, kr, kr, kr, kr, kr, trivial⟩ rfl ?_
                      rcases cond_some h with ⟨g61, h⟩ | ⟨g61, h⟩
                      · refine ls_cT rfl g61 ?_
                        refine ls_rs tbOk ?_
                        refine evs (ev_ac rfl nofun rfl (evn ?_))
                        refine ls_keep [(6, .bool false)] ⟨kr, trivial⟩ rfl ?_
                        refine ls_ret ?_
                        have hr := Option.some.inj h
                        rw [← hr]
                        exact ⟨.inl rfl, rfl⟩
                      · refine ls_cF rfl g61 ?_
                        refine ls_skip ?_
                        refine hK56 _ (ls_keep [(2, aL ci64 a2), (3, .box [nI a0.1, aL c24_aaa a0.2]), (4, .box [nI a1.1, aL c231_a a1.2.1, aL ci64 a1.2.2]), (8, .box [nI v17.1.1, oL 3 ci64 v17.1.2.1, oL 3 ci64 v17.1.2.2.1, nI v17.1.2.2.2.1, oL 195 c195_o v17.1.2.2.2.2.1, oL 3 ci64 v17.1.2.2.2.2.2]), (9, .bool v17.2), (13, .box [nI v25.1.1, oL 3 ci64 v25.1.2.1, oL 3 ci64 v25.1.2.2.1, nI v25.1.2.2.2.1, oL 195 c195_o v25.1.2.2.2.2.1, oL 3 ci64 v25.1.2.2.2.2.2])] ⟨kr, kr, kr, kr, kr, kr, trivial⟩ rfl ?_)
                        refine ls_rs tbOk ?_
                        refine evs (ev_ac rfl nofun rfl (evn ?_))
                        refine ls_keep [(2, aL ci64 a2), (3, .box [nI a0.1, aL c24_aaa a0.2]), (4, .box [nI a1.1, aL c231_a a1.2.1, aL ci64 a1.2.2]), (8, .box [nI v17.1.1, oL 3 ci64 v17.1.2.1, oL 3 ci64 v17.1.2.2.1, nI v17.1.2.2.2.1, oL 195 c195_o v17.1.2.2.2.2.1, oL 3 ci64 v17.1.2.2.2.2.2]), (9, .bool v17.2), (13, .box [nI v25.1.1, oL 3 ci64 v25.1.2.1, oL 3 ci64 v25.1.2.2.1, nI v25.1.2.2.2.1, oL 195 c195_o v25.1.2.2.2.2.1, oL 3 ci64 v25.1.2.2.2.2.2]), (16, nI 1)] ⟨kr, kr, kr, kr, kr, kr, kr, trivial⟩ rfl ?_
                        refine ls_keep [(2, aL ci64 a2), (3, .box [nI a0.1, aL c24_aaa a0.2]), (4, .box [nI a1.1, aL c231_a a1.2.1, aL ci64 a1.2.2]), (8, .box [nI v17.1.1, oL 3 ci64 v17.1.2.1, oL 3 ci64 v17.1.2.2.1, nI v17.1.2.2.2.1, oL 195 c195_o v17.1.2.2.2.2.1, oL 3 ci64 v17.1.2.2.2.2.2]), (9, .bool v17.2), (13, .box [nI v25.1.1, oL 3 ci64 v25.1.2.1, oL 3 ci64 v25.1.2.2.1, nI v25.1.2.2.2.1, oL 195 c195_o v25.1.2.2.2.2.1, oL 3 ci64 v25.1.2.2.2.2.2]), (16, nI 1)] ⟨kr, kr, kr, kr, kr, kr, kr, trivial⟩ rfl ?_
                        obtain ⟨v62, g63, h⟩ := ob_some h
                        refine ls_mark (src_box tbOk rfl rfl rfl) rfl rfl (laws_markCursor_m g63) (dp108 _) (sf_of (sfc (argd_flat (fun _ => rfl) _) (sfc (scc rfl (scc (sca ad24 _) scn)) (sfc (scc rfl (scc (sca ad231 _) (scc (sca (fun _ => rfl) _) scn))) (sfc (scc rfl (scc (sco (fun _ => rfl) _) (scc (sco (fun _ => rfl) _) (scc rfl (scc (sco dp195 _) (scc (sco (fun _ => rfl) _) scn)))))) (sfc rfl (sfs (sfc rfl sfn)))))))) rfl rfl ⟨by decide, by decide⟩ rfl ?_
                        refine ls_keep [(2, aL ci64 a2), (3, .box [nI a0.1, aL c24_aaa a0.2]), (4, .box [nI a1.1, aL c231_a a1.2.1, aL ci64 a1.2.2]), (8, .box [nI v17.1.1, oL 3 ci64 v17.1.2.1, oL 3 ci64 v17.1.2.2.1, nI v17.1.2.2.2.1, oL 195 c195_o v17.1.2.2.2.2.1, oL 3 ci64 v17.1.2.2.2.2.2]), (9, .bool v17.2), (13, .box [nI v62.1.1, oL 3 ci64 v62.1.2.1, oL 3 ci64 v62.1.2.2.1, nI v62.1.2.2.2.1, oL 195 c195_o v62.1.2.2.2.2.1, oL 3 ci64 v62.1.2.2.2.2.2]), (16, nI v62.2)] ⟨kr, kr, kr, kr, kr, kr, kr, trivial⟩ rfl ?_
                        refine ls_rs tbOk ?_
                        refine evs (ev_ac rfl nofun rfl (evn ?_))
                        refine ls_keep [(2, aL ci64 a2), (3, .box [nI a0.1, aL c24_aaa a0.2]), (4, .box [nI a1.1, aL c231_a a1.2.1, aL ci64 a1.2.2]), (8, .box [nI v17.1.1, oL 3 ci64 v17.1.2.1, oL 3 ci64 v17.1.2.2.1, nI v17.1.2.2.2.1, oL 195 c195_o v17.1.2.2.2.2.1, oL 3 ci64 v17.1.2.2.2.2.2]), (9, .bool v17.2), (13, .box [nI v62.1.1, oL 3 ci64 v62.1.2.1, oL 3 ci64 v62.1.2.2.1, nI v62.1.2.2.2.1, oL 195 c195_o v62.1.2.2.2.2.1, oL 3 ci64 v62.1.2.2.2.2.2]), (16, nI v62.2), (17, nI 1)] ⟨kr, kr, kr, kr, kr, kr, kr, kr, trivial⟩ rfl ?_
                        refine ls_rs tbOk ?_
                        refine evs (ev_ldB (off := 0) (v := .agg (c108_dddod v62.1)) rfl rfl rfl rfl (nb rfl) rfl (evs (ev_mv (c := nI 1) rfl rfl rfl (?_))))
                        obtain ⟨v64, g65, h⟩ := ob_some h
                        refine evs (ev_call (era rfl (erg (erc rfl (erc (erD eci64 _) (erc (erD eci64 _) (erc rfl (erc (erD ec195_o _) (erc (erD eci64 _) rfl))))))) (era rfl rfl eran)) (laws_heldCursor_s g65) (evs (ev_as (c := nI v64) rfl rfl rfl (evn ?_))))
                        refine ls_keep [(2, aL ci64 a2), (3, .box [nI a0.1, aL c24_aaa a0.2]), (4, .box [nI a1.1, aL c231_a a1.2.1, aL ci64 a1.2.2]), (8, .box [nI v17.1.1, oL 3 ci64 v17.1.2.1, oL 3 ci64 v17.1.2.2.1, nI v17.1.2.2.2.1, oL 195 c195_o v17.1.2.2.2.2.1, oL 3 ci64 v17.1.2.2.2.2.2]), (9, .bool v17.2), (13, .box [nI v62.1.1, oL 3 ci64 v62.1.2.1, oL 3 ci64 v62.1.2.2.1, nI v62.1.2.2.2.1, oL 195 c195_o v62.1.2.2.2.2.1, oL 3 ci64 v62.1.2.2.2.2.2]), (16, nI v62.2), (17, nI v64)] ⟨kr, kr, kr, kr, kr, kr, kr, kr, trivial⟩ rfl ?_
                        refine ls_seq_k fun K66 hK66 => ?_
                        refine ls_rs tbOk ?_
                        refine evs (ev_mv (c := nI v64) rfl rfl rfl (evs (ev_bin (c1 := nI v64) (c2 := nI 0) rfl rfl rfl (evn ?_))))
                        refine ls_keep [(2, aL ci64 a2), (3, .box [nI a0.1, aL c24_aaa a0.2]), (4, .box [nI a1.1, aL c231_a a1.2.1, aL ci64 a1.2.2]), (8, .box [nI v17.1.1, oL 3 ci64 v17.1.2.1, oL 3 ci64 v17.1.2.2.1, nI v17.1.2.2.2.1, oL 195 c195_o v17.1.2.2.2.2.1, oL 3 ci64 v17.1.2.2.2.2.2]), (9, .bool v17.2), (13, .box [nI v62.1.1, oL 3 ci64 v62.1.2.1, oL 3 ci64 v62.1.2.2.1, nI v62.1.2.2.2.1, oL 195 c195_o v62.1.2.2.2.2.1, oL 3 ci64 v62.1.2.2.2.2.2]), (16, nI v62.2), (17, nI v64), (109, .bool (decide (v64 < 0)))] ⟨kr, kr, kr, kr, kr, kr, kr, kr, kr, trivial⟩ rfl ?_
                        rcases cond_some h with ⟨g67, h⟩ | ⟨g67, h⟩
                        · refine ls_cT rfl g67 ?_
                          refine ls_rs tbOk ?_
                          refine evs (ev_ac rfl nofun rfl (evn ?_))
                          refine ls_keep [(6, .bool false)] ⟨kr, trivial⟩ rfl ?_
                          refine ls_ret ?_
                          have hr := Option.some.inj h
                          rw [← hr]
                          exact ⟨.inl rfl, rfl⟩
                        · refine ls_cF rfl g67 ?_
                          refine ls_skip ?_
                          refine hK66 _ (ls_keep [(2, aL ci64 a2), (3, .box [nI a0.1, aL c24_aaa a0.2]), (4, .box [nI a1.1, aL c231_a a1.2.1, aL ci64 a1.2.2]), (8, .box [nI v17.1.1, oL 3 ci64 v17.1.2.1, oL 3 ci64 v17.1.2.2.1, nI v17.1.2.2.2.1, oL 195 c195_o v17.1.2.2.2.2.1, oL 3 ci64 v17.1.2.2.2.2.2]), (9, .bool v17.2), (13, .box [nI v62.1.1, oL 3 ci64 v62.1.2.1, oL 3 ci64 v62.1.2.2.1, nI v62.1.2.2.2.1, oL 195 c195_o v62.1.2.2.2.2.1, oL 3 ci64 v62.1.2.2.2.2.2]), (16, nI v62.2), (17, nI v64)] ⟨kr, kr, kr, kr, kr, kr, kr, kr, trivial⟩ rfl ?_)
                          refine ls_seq_k fun K68 hK68 => ?_
                          refine ls_rs tbOk ?_
                          refine evs (ev_mv (c := nI v64) rfl rfl rfl (evs (ev_mv (c := nI v62.2) rfl rfl rfl (evs (ev_bin (c1 := nI v64) (c2 := nI v62.2) rfl rfl rfl (evn ?_))))))
                          refine ls_keep [(2, aL ci64 a2), (3, .box [nI a0.1, aL c24_aaa a0.2]), (4, .box [nI a1.1, aL c231_a a1.2.1, aL ci64 a1.2.2]), (8, .box [nI v17.1.1, oL 3 ci64 v17.1.2.1, oL 3 ci64 v17.1.2.2.1, nI v17.1.2.2.2.1, oL 195 c195_o v17.1.2.2.2.2.1, oL 3 ci64 v17.1.2.2.2.2.2]), (9, .bool v17.2), (13, .box [nI v62.1.1, oL 3 ci64 v62.1.2.1, oL 3 ci64 v62.1.2.2.1, nI v62.1.2.2.2.1, oL 195 c195_o v62.1.2.2.2.2.1, oL 3 ci64 v62.1.2.2.2.2.2]), (16, nI v62.2), (112, .bool (v64 != v62.2))] ⟨kr, kr, kr, kr, kr, kr, kr, kr, trivial⟩ rfl ?_
                          rcases cond_some h with ⟨g69, h⟩ | ⟨g69, h⟩
                          · refine ls_cT rfl g69 ?_
                            refine ls_rs tbOk ?_
                            refine evs (ev_ac rfl nofun rfl (evn ?_))
                            refine ls_keep [(6, .bool false)] ⟨kr, trivial⟩ rfl ?_
                            refine ls_ret ?_
                            have hr := Option.some.inj h
                            rw [← hr]
                            exact ⟨.inl rfl, rfl⟩
                          · refine ls_cF rfl g69 ?_
                            refine ls_skip ?_
                            refine hK68 _ (ls_keep [(2, aL ci64 a2), (3, .box [nI a0.1, aL c24_aaa a0.2]), (4, .box [nI a1.1, aL c231_a a1.2.1, aL ci64 a1.2.2]), (8, .box [nI v17.1.1, oL 3 ci64 v17.1.2.1, oL 3 ci64 v17.1.2.2.1, nI v17.1.2.2.2.1, oL 195 c195_o v17.1.2.2.2.2.1, oL 3 ci64 v17.1.2.2.2.2.2]), (9, .bool v17.2), (13, .box [nI v62.1.1, oL 3 ci64 v62.1.2.1, oL 3 ci64 v62.1.2.2.1, nI v62.1.2.2.2.1, oL 195 c195_o v62.1.2.2.2.2.1, oL 3 ci64 v62.1.2.2.2.2.2]), (16, nI v62.2)] ⟨kr, kr, kr, kr, kr, kr, kr, trivial⟩ rfl ?_)
                            refine ls_rd tbOk mixed (by kernel_rfl) ?_
                            refine evd rfl rfl (ev_ldB (off := 0) (v := .agg (c46_aaaa a0)) rfl rfl rfl rfl (nb rfl) rfl (?_))
                            obtain ⟨v70, g71, h⟩ := ob_some h
                            refine evd rfl rfl (ev_call (era rfl (erg (erc rfl (erc (erG ec24_aaa _) rfl))) eran) (laws_toHistory_s g71) (evd rfl rfl (ev_ldB (off := 0) (v := .agg (c79_aaa a1)) rfl rfl rfl rfl (nb rfl) rfl (?_))))
                            obtain ⟨v72, g73, h⟩ := ob_some h
                            refine evd rfl rfl (ev_call (era rfl (erg (erc rfl (erc (erG ec231_a _) (erc (erG eci64 _) rfl)))) eran) (laws_toQuery_s g73) (evd rfl rfl (ev_mv (c := aL ci64 a2) rfl rfl rfl (?_))))
                            obtain ⟨v74, g75, h⟩ := ob_some h
                            refine evd rfl rfl (ev_call (era rfl (erG eci64 _) eran) (laws_toIntS_s g75) (?_))
                            obtain ⟨v76, g77, h⟩ := ob_some h
                            refine evd rfl rfl (ev_call (era rfl (erg (erc rfl (erc (erO ec33_ooo _) rfl))) (era rfl (erg (erc rfl (erc (erO ec195_o _) (erc (erO eci64 _) rfl)))) (era rfl (erO eci64 _) eran))) (impl_OpenCursor_s g77) (evd rfl rfl (ev_mvt (c := .tup [.agg (c108_ooooo v76.1), .bool v76.2]) rfl rfl rfl (evd rfl rfl (ev_ext rfl rfl rfl rfl (evd rfl rfl (ev_ext rfl rfl rfl rfl (evd rfl rfl (ev_al rfl rfl (evd rfl rfl (ev_st (off := 0) (c1 := .agg (c108_ooooo v76.1)) (cs' := [nI v76.1.1, oL 3 ci64 v76.1.2.1, oL 3 ci64 v76.1.2.2.1, nI v76.1.2.2.2.1, oL 195 c195_o v76.1.2.2.2.2.1, oL 3 ci64 v76.1.2.2.2.2.2]) rfl rfl rfl rfl rfl rfl (nb rfl) rfl (evd rfl rfl (ev_as (c := .bool v76.2) rfl rfl rfl (evdn ?_))))))))))))))
                            refine ls_keep [(8, .box [nI v17.1.1, oL 3 ci64 v17.1.2.1, oL 3 ci64 v17.1.2.2.1, nI v17.1.2.2.2.1, oL 195 c195_o v17.1.2.2.2.2.1, oL 3 ci64 v17.1.2.2.2.2.2]), (9, .bool v17.2), (13, .box [nI v62.1.1, oL 3 ci64 v62.1.2.1, oL 3 ci64 v62.1.2.2.1, nI v62.1.2.2.2.1, oL 195 c195_o v62.1.2.2.2.2.1, oL 3 ci64 v62.1.2.2.2.2.2]), (16, nI v62.2), (18, .box [nI v76.1.1, oL 3 ci64 v76.1.2.1, oL 3 ci64 v76.1.2.2.1, nI v76.1.2.2.2.1, oL 195 c195_o v76.1.2.2.2.2.1, oL 3 ci64 v76.1.2.2.2.2.2]), (19, .bool v76.2)] ⟨kr, kr, kr, kr, kr, kr, trivial⟩ rfl ?_
                            refine ls_seq_k fun K78 hK78 => ?_
                            refine ls_rs tbOk ?_
                            refine evs (ev_ldB (off := 0) (v := .agg (c108_dddod v76.1)) rfl rfl rfl rfl (nb rfl) rfl (evs (ev_ldB (off := 0) (v := .agg (c108_dddod v17.1)) rfl rfl rfl rfl (nb rfl) rfl (?_))))
                            obtain ⟨v79, g80, h⟩ := ob_some h
                            refine evs (ev_call (era rfl (erg (erc rfl (erc (erD eci64 _) (erc (erD eci64 _) (erc rfl (erc (erD ec195_o _) (erc (erD eci64 _) rfl))))))) (era rfl (erg (erc rfl (erc (erD eci64 _) (erc (erD eci64 _) (erc rfl (erc (erD ec195_o _) (erc (erD eci64 _) rfl))))))) eran)) (laws_eqCursor_s g80) (evs (ev_un (c1 := .bool v79) rfl trivial (evs (ev_mv (c := .bool (!v79)) rfl rfl rfl (?_))))))
                            rcases cond_some h with ⟨g81, h⟩ | ⟨g81, h⟩
                            · refine evs (ev_gs rfl rfl (isb_T g81) (evs (ev_gs rfl rfl (isb_T g81) (evs (ev_gs rfl rfl (isb_T g81) (evs (ev_pkT (c1 := .bool true) rfl g81 rfl rfl (evn ?_))))))))
                              refine ls_keep [(13, .box [nI v62.1.1, oL 3 ci64 v62.1.2.1, oL 3 ci64 v62.1.2.2.1, nI v62.1.2.2.2.1, oL 195 c195_o v62.1.2.2.2.2.1, oL 3 ci64 v62.1.2.2.2.2.2]), (16, nI v62.2), (131, .bool true)] ⟨kr, kr, kr, trivial⟩ rfl ?_
                              refine ls_cT rfl rfl ?_
                              refine ls_rs tbOk ?_
                              refine evs (ev_ac rfl nofun rfl (evn ?_))
                              refine ls_keep [(6, .bool false)] ⟨kr, trivial⟩ rfl ?_
                              refine ls_ret ?_
                              have hr := Option.some.inj h
                              rw [← hr]
                              exact ⟨.inl rfl, rfl⟩
                            · refine evs (ev_gr rfl (congrArg V.bool g81) (ev_mv (c := .bool v76.2) rfl rfl rfl (evs (ev_gr rfl (congrArg V.bool g81) (ev_mv (c := .bool v17.2) rfl rfl rfl (evs (ev_gr rfl (congrArg V.bool g81) (ev_bin (c1 := .bool v76.2) (c2 := .bool v17.2) rfl rfl rfl (evs (ev_pkF (c1 := .bool (!(v76.2 == v17.2))) rfl g81 rfl rfl (evn ?_)))))))))))
                              refine ls_keep [(13, .box [nI v62.1.1, oL 3 ci64 v62.1.2.1, oL 3 ci64 v62.1.2.2.1, nI v62.1.2.2.2.1, oL 195 c195_o v62.1.2.2.2.2.1, oL 3 ci64 v62.1.2.2.2.2.2]), (16, nI v62.2), (131, .bool (!(v76.2 == v17.2)))] ⟨kr, kr, kr, trivial⟩ rfl ?_
                              rcases cond_some h with ⟨g82, h⟩ | ⟨g82, h⟩
                              · refine ls_cT rfl g82 ?_
                                refine ls_rs tbOk ?_
                                refine evs (ev_ac rfl nofun rfl (evn ?_))
                                refine ls_keep [(6, .bool false)] ⟨kr, trivial⟩ rfl ?_
                                refine ls_ret ?_
                                have hr := Option.some.inj h
                                rw [← hr]
                                exact ⟨.inl rfl, rfl⟩
                              · refine ls_cF rfl g82 ?_
                                refine ls_skip ?_
                                refine hK78 _ (ls_keep [(13, .box [nI v62.1.1, oL 3 ci64 v62.1.2.1, oL 3 ci64 v62.1.2.2.1, nI v62.1.2.2.2.1, oL 195 c195_o v62.1.2.2.2.2.1, oL 3 ci64 v62.1.2.2.2.2.2]), (16, nI v62.2)] ⟨kr, kr, trivial⟩ rfl ?_)
                                refine ls_rs tbOk ?_
                                refine evs (ev_ac rfl nofun rfl (evn ?_))
                                refine ls_keep [(13, .box [nI v62.1.1, oL 3 ci64 v62.1.2.1, oL 3 ci64 v62.1.2.2.1, nI v62.1.2.2.2.1, oL 195 c195_o v62.1.2.2.2.2.1, oL 3 ci64 v62.1.2.2.2.2.2]), (16, nI v62.2), (17, nI 1)] ⟨kr, kr, kr, trivial⟩ rfl ?_
                                refine ls_rs tbOk ?_
                                refine evs (ev_ldB (off := 0) (v := .agg (c108_dddod v62.1)) rfl rfl rfl rfl (nb rfl) rfl (evs (ev_mv (c := nI 1) rfl rfl rfl (?_))))
                                obtain ⟨v83, g84, h⟩ := ob_some h
                                refine evs (ev_call (era rfl (erg (erc rfl (erc (erD eci64 _) (erc (erD eci64 _) (erc rfl (erc (erD ec195_o _) (erc (erD eci64 _) rfl))))))) (era rfl rfl eran)) (laws_heldCursor_s g84) (evs (ev_as (c := nI v83) rfl rfl rfl (evn ?_))))
                                refine ls_keep [(16, nI v62.2), (17, nI v83)] ⟨kr, kr, trivial⟩ rfl ?_
                                refine ls_seq_k fun K85 hK85 => ?_
                                refine ls_rs tbOk ?_
                                refine evs (ev_mv (c := nI v83) rfl rfl rfl (evs (ev_bin (c1 := nI v83) (c2 := nI 0) rfl rfl rfl (evn ?_))))
                                refine ls_keep [(16, nI v62.2), (17, nI v83), (136, .bool (decide (v83 < 0)))] ⟨kr, kr, kr, trivial⟩ rfl ?_
                                rcases cond_some h with ⟨g86, h⟩ | ⟨g86, h⟩
                                · refine ls_cT rfl g86 ?_
                                  refine ls_rs tbOk ?_
                                  refine evs (ev_ac rfl nofun rfl (evn ?_))
                                  refine ls_keep [(6, .bool false)] ⟨kr, trivial⟩ rfl ?_
                                  refine ls_ret ?_
                                  have hr := Option.some.inj h
                                  rw [← hr]
                                  exact ⟨.inl rfl, rfl⟩
                                · refine ls_cF rfl g86 ?_
                                  refine ls_skip ?_
                                  refine hK85 _ (ls_keep [(16, nI v62.2), (17, nI v83)] ⟨kr, kr, trivial⟩ rfl ?_)
                                  refine ls_seq_k fun K87 hK87 => ?_
                                  refine ls_rs tbOk ?_
                                  refine evs (ev_mv (c := nI v83) rfl rfl rfl (evs (ev_mv (c := nI v62.2) rfl rfl rfl (evs (ev_bin (c1 := nI v83) (c2 := nI v62.2) rfl rfl rfl (evn ?_))))))
                                  refine ls_keep [(139, .bool (v83 != v62.2))] ⟨kr, trivial⟩ rfl ?_
                                  rcases cond_some h with ⟨g88, h⟩ | ⟨g88, h⟩
                                  · refine ls_cT rfl g88 ?_
                                    refine ls_rs tbOk ?_
                                    refine evs (ev_ac rfl nofun rfl (evn ?_))
                                    refine ls_keep [(6, .bool false)] ⟨kr, trivial⟩ rfl ?_
                                    refine ls_ret ?_
                                    have hr := Option.some.inj h
                                    rw [← hr]
                                    exact ⟨.inl rfl, rfl⟩
                                  · refine ls_cF rfl g88 ?_
                                    refine ls_skip ?_
                                    refine hK87 _ (ls_keep [] trivial rfl ?_)
                                    refine ls_rs tbOk ?_
                                    refine evs (ev_ac rfl nofun rfl (evn ?_))
                                    refine ls_keep [(6, .bool true)] ⟨kr, trivial⟩ rfl ?_
                                    refine ls_ret ?_
                                    have hr := Option.some.inj h
                                    rw [← hr]
                                    exact ⟨.inl rfl, rfl⟩
end Go.Proofs.Ytkcfahfladikkaa
