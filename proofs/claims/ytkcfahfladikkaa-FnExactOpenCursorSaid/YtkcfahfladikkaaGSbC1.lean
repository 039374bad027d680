/-
  Functions of the program as typed functions, printed by gen.py, and that the program's functions do what they say. No conditions.
-/
import Derived.Test.YtkcfahfladikkaaGSC1
namespace Go.Proofs.Ytkcfahfladikkaa
open Go.RowKit
set_option linter.unusedVariables false
set_option maxRecDepth 100000
set_option maxHeartbeats 1000000
def spec_IsQueryFor_B1 (a0 : List Y207) (a1 : Y91) (rec : Int → Option (Sum (Unit) (Bool))) (y1 : Int) : Option (Sum (Unit) (Bool)) := cond (decide (y1 < (List.length a1.2.1 : Int))) (obind (geti a1.2.1 y1) fun e5 => obind (spec_LookupRelation a0 e5.1) fun v7 => cond (!v7.2) (some (.inr false)) (obind (geti a1.2.1 y1) fun e10 => cond (v7.1.1 != (List.length e10.2 : Int)) (some (.inr false)) (rec (IntKind.i64.wrap (y1 + 1))))) (some (.inl ()))
def spec_IsQueryFor_J2 (x14 : Bool) : Option (Bool) := some x14
def spec_IsQueryFor (a0 : List Y207) (a1 : Y91) : Option (Bool) := obind (loopF (spec_IsQueryFor_B1 a0 a1) fz 0) fun o1 => (match o1 with
  | .inl _ => (obind (spec_IsValidQuery a1) fun v15 => cond v15 (obind (spec_IsValidDatabase a0) fun v18 => spec_IsQueryFor_J2 v18) (spec_IsQueryFor_J2 false))
  | .inr r => some r)
theorem spec_IsQueryFor_s {a0 : List Y207} {a1 : Y91} {r : Bool} (h : spec_IsQueryFor a0 a1 = some r) : SoundAt Try.prog 148 [.agg [dL c208_dd a0], .agg (c92_ddd a1)] (.bool r) := by
  unfold spec_IsQueryFor at h
  refine sound_lit tbOk lit148 (nb rfl) rfl ?_
  unfold c148
  refine ls_keep [(0, .agg [dL c208_dd a0]), (1, .agg (c92_ddd a1))] ⟨kr, kr, trivial⟩ rfl ?_
  refine ls_rs tbOk ?_
  refine evs (ev_bx (c1 := .agg [dL c208_dd a0]) rfl rfl rfl (evs (ev_bx (c1 := .agg (c92_ddd a1)) rfl rfl rfl (evs (ev_ac rfl nofun rfl (evn ?_))))))
  refine ls_keep [(2, .box [dL c208_dd a0]), (3, .box [nI a1.1, dL c195_d a1.2.1, dL ci64 a1.2.2])] ⟨kr, kr, trivial⟩ rfl ?_
  refine ls_seq_k fun K1 hK1 => ?_
  refine ls_rs tbOk ?_
  refine evs (ev_ac rfl nofun rfl (evn ?_))
  refine ls_keep [(2, .box [dL c208_dd a0]), (3, .box [nI a1.1, dL c195_d a1.2.1, dL ci64 a1.2.2]), (5, nI 0)] ⟨kr, kr, kr, trivial⟩ rfl ?_
  obtain ⟨o1, hl, hr1⟩ := ob_some h
  clear h
  have kXspec_IsQueryFor_B1 : ∀ (_ : Unit), (obind (spec_IsValidQuery a1) fun v15 => cond v15 (obind (spec_IsValidDatabase a0) fun v18 => spec_IsQueryFor_J2 v18) (spec_IsQueryFor_J2 false)) = some r → ∀ σ' : PS, okK σ' [(2, .box [dL c208_dd a0]), (3, .box [nI a1.1, dL c195_d a1.2.1, dL ci64 a1.2.2])] → K1 σ' := by
    intro _ h σ' hk
    refine hK1 _ (ls_keep [(2, .box [dL c208_dd a0]), (3, .box [nI a1.1, dL c195_d a1.2.1, dL ci64 a1.2.2])] hk rfl ?_)
    refine ls_rs_k tbOk fun K13 hK13 => ?_
    have kspec_IsQueryFor_J2 : ∀ (x14 : Bool), spec_IsQueryFor_J2 x14 = some r → ∀ σ' : PS, okK σ' [(4, .bool x14)] → K13 σ' := by
      intro x14 h σ' hk
      unfold spec_IsQueryFor_J2 at h
      refine hK13 _ (ls_keep [(4, .bool x14)] hk rfl ?_)
      refine ls_ret ?_
      have hr := Option.some.inj h
      rw [← hr]
      exact ⟨.inl rfl, rfl⟩
    refine evs (ev_ldB (off := 0) (v := .agg (c92_ddd a1)) rfl rfl rfl rfl (nb rfl) rfl (?_))
    obtain ⟨v15, g16, h⟩ := ob_some h
    refine evs (ev_call (era rfl (erg (erc rfl (erc (erD ec195_d _) (erc (erD eci64 _) rfl)))) eran) (spec_IsValidQuery_s g16) (evs (ev_mv (c := .bool v15) rfl rfl rfl (?_))))
    rcases cond_some h with ⟨g17, h⟩ | ⟨g17, h⟩
    · refine evs (ev_gr rfl (congrArg V.bool g17) (ev_ldB (off := 0) (v := .agg [dL c208_dd a0]) rfl rfl rfl rfl (nb rfl) rfl (?_)))
      obtain ⟨v18, g19, h⟩ := ob_some h
      refine evs (ev_gr rfl (congrArg V.bool g17) (ev_call (era rfl (erg (erc (erD ec208_dd _) rfl)) eran) (spec_IsValidDatabase_s g19) (evs (ev_pkT (c1 := .bool v18) rfl g17 rfl rfl (evs (ev_as (c := .bool v18) rfl rfl rfl (evn ?_)))))))
      exact kspec_IsQueryFor_J2 v18 h _ ⟨kr, trivial⟩
    · refine evs (ev_gs rfl rfl (isb_F g17) (evs (ev_gs rfl rfl (isb_F g17) (evs (ev_pkF (c1 := .bool false) rfl g17 rfl rfl (evs (ev_as (c := .bool false) rfl rfl rfl (evn ?_))))))))
      exact kspec_IsQueryFor_J2 false h _ ⟨kr, trivial⟩
  refine ls_rec (fun (y1 : Int) => [(2, .box [dL c208_dd a0]), (3, .box [nI a1.1, dL c195_d a1.2.1, dL ci64 a1.2.2]), (5, nI y1)]) (spec_IsQueryFor_B1 a0 a1) fz 0 o1 hl ⟨kr, kr, kr, trivial⟩ (fun _ => rfl) ?_
  rintro m y1 N h hN
  unfold spec_IsQueryFor_B1 at h
  refine ls_seq_k fun K2 hK2 => ?_
  refine ls_rs tbOk ?_
  refine evs (ev_mv (c := nI y1) rfl rfl rfl (evs (ev_fa (c1 := .cref 3 0) (v := .cref 3 1) rfl rfl rfl ⟨_, rfl⟩ rfl (evs (ev_ldB (off := 1) (v := dL c195_d a1.2.1) rfl rfl rfl rfl (nb rfl) rfl (evs (ev_len (c1 := dL c195_d a1.2.1) rfl rfl rfl (evs (ev_bin (c1 := nI y1) (c2 := nI (List.length a1.2.1 : Int)) rfl rfl rfl (evn ?_))))))))))
  refine ls_keep [(2, .box [dL c208_dd a0]), (3, .box [nI a1.1, dL c195_d a1.2.1, dL ci64 a1.2.2]), (5, nI y1), (12, .bool (decide (y1 < (List.length a1.2.1 : Int))))] ⟨kr, kr, kr, kr, trivial⟩ rfl ?_
  rcases cond_some h with ⟨g3, h⟩ | ⟨g3, h⟩
  · refine ls_cT rfl g3 ?_
    refine ls_skip ?_
    refine hK2 _ (ls_keep [(2, .box [dL c208_dd a0]), (3, .box [nI a1.1, dL c195_d a1.2.1, dL ci64 a1.2.2]), (5, nI y1)] ⟨kr, kr, kr, trivial⟩ rfl ?_)
    refine ls_seq_k fun K4 hK4 => ?_
    refine ls_blk ?_
    refine ls_rd tbOk mixed (by kernel_rfl) ?_
    refine evd rfl rfl (ev_ldB (off := 0) (v := .agg [dL c208_dd a0]) rfl rfl rfl rfl (nb rfl) rfl (evd rfl rfl (ev_fa (c1 := .cref 3 0) (v := .cref 3 1) rfl rfl rfl ⟨_, rfl⟩ rfl (evd rfl rfl (ev_ldB (off := 1) (v := dL c195_d a1.2.1) rfl rfl rfl rfl (nb rfl) rfl (evd rfl rfl (ev_mv (c := nI y1) rfl rfl rfl (?_))))))))
    obtain ⟨e5, g6, h⟩ := ob_some h
    refine evd rfl rfl (ev_ia rfl rfl rfl ⟨(geti_some g6).1, (geti_some g6).2.1⟩ (evd rfl rfl (ev_fa (c1 := .adr (a1.2.1.flatMap c195_d) (Int.toNat y1 * 2)) (v := .adr (a1.2.1.flatMap c195_d) (Int.toNat y1 * 2)) rfl rfl rfl trivial rfl (evd rfl rfl (ev_ldE (i := y1) (n := 2) (off := 0) (v := .str e5.1) rfl rfl zc195_d g6 rfl (nb rfl) rfl (?_))))))
    obtain ⟨v7, g8, h⟩ := ob_some h
    refine evd rfl rfl (ev_call (era rfl (erg (erc (erD ec208_dd _) rfl)) (era rfl rfl eran)) (spec_LookupRelation_s g8) (evd rfl rfl (ev_mvt (c := .tup [.agg (c128_oo v7.1), .bool v7.2]) rfl rfl rfl (evd rfl rfl (ev_ext rfl rfl rfl rfl (evd rfl rfl (ev_ext rfl rfl rfl rfl (evd rfl rfl (ev_al rfl rfl (evd rfl rfl (ev_st (off := 0) (c1 := .agg (c128_oo v7.1)) (cs' := [nI v7.1.1, oL 25 c25_o v7.1.2]) rfl rfl rfl rfl rfl rfl (nb rfl) rfl (evd rfl rfl (ev_as (c := .bool v7.2) rfl rfl rfl (evdn ?_))))))))))))))
    refine ls_keep [(2, .box [dL c208_dd a0]), (3, .box [nI a1.1, dL c195_d a1.2.1, dL ci64 a1.2.2]), (5, nI y1), (6, .box [nI v7.1.1, oL 25 c25_o v7.1.2]), (7, .bool v7.2)] ⟨kr, kr, kr, kr, kr, trivial⟩ rfl ?_
    refine ls_rd tbOk mixed (by kernel_rfl) ?_
    refine evd rfl rfl (ev_mv (c := .bool v7.2) rfl rfl rfl (evd rfl rfl (ev_un (c1 := .bool v7.2) rfl trivial (evd rfl rfl (ev_mv (c := .bool (!v7.2)) rfl rfl rfl (?_))))))
    rcases cond_some h with ⟨g9, h⟩ | ⟨g9, h⟩
    · refine evd rfl rfl (ev_gs rfl rfl (isb_T g9) (evd rfl rfl (ev_gs rfl rfl (isb_T g9) (evd rfl rfl (ev_gs rfl rfl (isb_T g9) (evd rfl rfl (ev_gs rfl rfl (isb_T g9) (evd rfl rfl (ev_gs rfl rfl (isb_T g9) (evd rfl rfl (ev_gs rfl rfl (isb_T g9) (evd rfl rfl (ev_gs rfl rfl (isb_T g9) (evd rfl rfl (ev_gs rfl rfl (isb_T g9) (evd rfl rfl (ev_gs rfl rfl (isb_T g9) (evd rfl rfl (ev_gs rfl rfl (isb_T g9) (evd rfl rfl (ev_pkT (c1 := .bool true) rfl g9 rfl rfl (evdn ?_))))))))))))))))))))))
      refine ls_keep [(2, .box [dL c208_dd a0]), (3, .box [nI a1.1, dL c195_d a1.2.1, dL ci64 a1.2.2]), (5, nI y1), (39, .bool true)] ⟨kr, kr, kr, kr, trivial⟩ rfl ?_
      refine ls_cT rfl rfl ?_
      refine ls_rs tbOk ?_
      refine evs (ev_ac rfl nofun rfl (evn ?_))
      refine ls_keep [(4, .bool false)] ⟨kr, trivial⟩ rfl ?_
      refine ls_ret ?_
      have q0 := (Option.some.inj h).symm
      have r0 := hr1
      rw [q0] at r0
      have hr := Option.some.inj r0
      rw [← hr]
      exact ⟨.inl rfl, rfl⟩
    · refine evd rfl rfl (ev_gr rfl (congrArg V.bool g9) (ev_fa (c1 := .cref 6 0) (v := .cref 6 0) rfl rfl rfl ⟨_, rfl⟩ rfl (evd rfl rfl (ev_gr rfl (congrArg V.bool g9) (ev_ldB (off := 0) (v := nI v7.1.1) rfl rfl rfl rfl (nb rfl) rfl (evd rfl rfl (ev_gr rfl (congrArg V.bool g9) (ev_fa (c1 := .cref 3 0) (v := .cref 3 1) rfl rfl rfl ⟨_, rfl⟩ rfl (evd rfl rfl (ev_gr rfl (congrArg V.bool g9) (ev_ldB (off := 1) (v := dL c195_d a1.2.1) rfl rfl rfl rfl (nb rfl) rfl (evd rfl rfl (ev_gr rfl (congrArg V.bool g9) (ev_mv (c := nI y1) rfl rfl rfl (?_)))))))))))))))
      obtain ⟨e10, g11, h⟩ := ob_some h
      refine evd rfl rfl (ev_gr rfl (congrArg V.bool g9) (ev_ia rfl rfl rfl ⟨(geti_some g11).1, (geti_some g11).2.1⟩ (evd rfl rfl (ev_gr rfl (congrArg V.bool g9) (ev_fa (c1 := .adr (a1.2.1.flatMap c195_d) (Int.toNat y1 * 2)) (v := .adr (a1.2.1.flatMap c195_d) (Int.toNat y1 * 2 + 1)) rfl rfl rfl trivial rfl (evd rfl rfl (ev_gr rfl (congrArg V.bool g9) (ev_ldE (i := y1) (n := 2) (off := 1) (v := dL ci64 e10.2) rfl rfl zc195_d g11 rfl (nb rfl) rfl (evd rfl rfl (ev_gr rfl (congrArg V.bool g9) (ev_len (c1 := dL ci64 e10.2) rfl rfl rfl (evd rfl rfl (ev_gr rfl (congrArg V.bool g9) (ev_bin (c1 := nI v7.1.1) (c2 := nI (List.length e10.2 : Int)) rfl rfl rfl (evd rfl rfl (ev_pkF (c1 := .bool (v7.1.1 != (List.length e10.2 : Int))) rfl g9 rfl rfl (evdn ?_)))))))))))))))))
      refine ls_keep [(2, .box [dL c208_dd a0]), (3, .box [nI a1.1, dL c195_d a1.2.1, dL ci64 a1.2.2]), (5, nI y1), (39, .bool (v7.1.1 != (List.length e10.2 : Int)))] ⟨kr, kr, kr, kr, trivial⟩ rfl ?_
      rcases cond_some h with ⟨g12, h⟩ | ⟨g12, h⟩
      · refine ls_cT rfl g12 ?_
        refine ls_rs tbOk ?_
        refine evs (ev_ac rfl nofun rfl (evn ?_))
        refine ls_keep [(4, .bool false)] ⟨kr, trivial⟩ rfl ?_
        refine ls_ret ?_
        have q0 := (Option.some.inj h).symm
        have r0 := hr1
        rw [q0] at r0
        have hr := Option.some.inj r0
        rw [← hr]
        exact ⟨.inl rfl, rfl⟩
      · refine ls_cF rfl g12 ?_
        refine ls_skip ?_
        refine hK4 _ (ls_keep [(2, .box [dL c208_dd a0]), (3, .box [nI a1.1, dL c195_d a1.2.1, dL ci64 a1.2.2]), (5, nI y1)] ⟨kr, kr, kr, trivial⟩ rfl ?_)
        refine ls_rgn tbOk ?_
        refine evs (ev_mv (c := nI y1) rfl rfl rfl (evs (ev_bin (c1 := nI y1) (c2 := nI 1) rfl rfl rfl (evs (ev_as (c := nI (IntKind.i64.wrap (y1 + 1))) rfl rfl rfl (evn ?_))))))
        exact hN _ (IntKind.i64.wrap (y1 + 1)) h ⟨kr, kr, kr, trivial⟩
  · refine ls_cF rfl g3 ?_
    refine ls_exit ?_
    have q0 := (Option.some.inj h).symm
    have r0 := hr1
    rw [q0] at r0
    exact kXspec_IsQueryFor_B1 () r0 _ ⟨kr, kr, trivial⟩
def spec_l7Copy_B1 (a0 : Y91) (rec : ((List Y194) × Int) → Option ((List Y194))) (s : (List Y194) × Int) : Option ((List Y194)) := match s with
  | (y1, y2) => cond (decide (y2 < (List.length a0.2.1 : Int))) (obind (geti a0.2.1 y2) fun e7 => obind (geti a0.2.1 y2) fun e9 => chk (List.length ([] : List Int) + List.length e9.2 ≤ lim) (chk (List.length y1 + List.length ([(e7.1, ([] : List Int) ++ e9.2)]) ≤ lim) (rec ((y1 ++ ([(e7.1, ([] : List Int) ++ e9.2)])), (IntKind.i64.wrap (y2 + 1)))))) (some y1)
def spec_l7Copy (a0 : Y91) : Option (Y91) := chk (List.length ([] : List Int) + List.length a0.2.2 ≤ lim) (obind (loopF (spec_l7Copy_B1 a0) fz (([] : List Y194), 0)) fun z3 => some (a0.1, z3, ([] : List Int) ++ a0.2.2))
theorem spec_l7Copy_s {a0 : Y91} {r : Y91} (h : spec_l7Copy a0 = some r) : SoundAt Try.prog 149 [.agg (c92_ddd a0)] (.agg (c92_ooo r)) := by
  unfold spec_l7Copy at h
  refine sound_lit tbOk lit149 (nb rfl) rfl ?_
  unfold c149
  refine ls_keep [(0, .agg (c92_ddd a0))] ⟨kr, trivial⟩ rfl ?_
  refine ls_rs tbOk ?_
  refine evs (ev_bx (c1 := .agg (c92_ddd a0)) rfl rfl rfl (evs (ev_al rfl rfl (evn ?_))))
  refine ls_keep [(1, .box [nI a0.1, dL c195_d a0.2.1, dL ci64 a0.2.2]), (2, .box [nI 0, oL 195 c195_o [], oL 3 ci64 []])] ⟨kr, kr, trivial⟩ rfl ?_
  refine ls_rd tbOk mixed (by kernel_rfl) ?_
  refine evd rfl rfl (ev_fa (c1 := .cref 1 0) (v := .cref 1 0) rfl rfl rfl ⟨_, rfl⟩ rfl (evd rfl rfl (ev_ldB (off := 0) (v := nI a0.1) rfl rfl rfl rfl (nb rfl) rfl (evd rfl rfl (ev_bs [] (cs := []) rfl trivial rfl (nb rfl) rfl (evd rfl rfl (ev_fa (c1 := .cref 1 0) (v := .cref 1 2) rfl rfl rfl ⟨_, rfl⟩ rfl (evd rfl rfl (ev_ldB (off := 2) (v := dL ci64 a0.2.2) rfl rfl rfl rfl (nb rfl) rfl (?_))))))))))
  obtain ⟨g1, h⟩ := chk_some h
  refine evd rfl rfl (ev_app (f := ci64) (l := ([] : List Int)) (m := a0.2.2) (c2 := dL ci64 a0.2.2) rfl rfl rfl (flat_len zci64 a0.2.2) rfl (map_dg (fun _ => rfl) _) g1 rfl (evd rfl rfl (ev_bd [nI a0.1, oL 3 ci64 (([] : List Int) ++ a0.2.2)] (cs := [nI a0.1, oL 195 c195_o [], oL 3 ci64 (([] : List Int) ++ a0.2.2)]) rfl ⟨rfl, rfl, trivial⟩ rfl (evd rfl rfl (ev_al rfl rfl (evd rfl rfl (ev_st (off := 0) (c1 := .agg [nI a0.1, oL 195 c195_o [], oL 3 ci64 (([] : List Int) ++ a0.2.2)]) (cs' := [nI a0.1, oL 195 c195_o [], oL 3 ci64 (([] : List Int) ++ a0.2.2)]) rfl rfl rfl rfl rfl rfl (nb rfl) rfl (evdn ?_))))))))
  refine ls_keep [(1, .box [nI a0.1, dL c195_d a0.2.1, dL ci64 a0.2.2]), (2, .box [nI 0, oL 195 c195_o [], oL 3 ci64 []]), (3, .box [nI a0.1, oL 195 c195_o [], oL 3 ci64 (([] : List Int) ++ a0.2.2)])] ⟨kr, kr, kr, trivial⟩ rfl ?_
  refine ls_seq_k fun K2 hK2 => ?_
  refine ls_rs tbOk ?_
  refine evs (ev_ac rfl nofun rfl (evn ?_))
  refine ls_keep [(1, .box [nI a0.1, dL c195_d a0.2.1, dL ci64 a0.2.2]), (2, .box [nI 0, oL 195 c195_o [], oL 3 ci64 []]), (3, .box [nI a0.1, oL 195 c195_o [], oL 3 ci64 (([] : List Int) ++ a0.2.2)]), (4, nI 0)] ⟨kr, kr, kr, kr, trivial⟩ rfl ?_
  obtain ⟨o1, hl, hr1⟩ := ob_some h
  clear h
  have kXspec_l7Copy_B1 : ∀ (z3 : List Y194), (some (a0.1, z3, ([] : List Int) ++ a0.2.2)) = some r → ∀ σ' : PS, okK σ' [(2, .box [nI 0, oL 195 c195_o [], oL 3 ci64 []]), (3, .box [nI a0.1, oL 195 c195_o z3, oL 3 ci64 (([] : List Int) ++ a0.2.2)])] → K2 σ' := by
    intro z3 h σ' hk
    refine hK2 _ (ls_keep [(2, .box [nI 0, oL 195 c195_o [], oL 3 ci64 []]), (3, .box [nI a0.1, oL 195 c195_o z3, oL 3 ci64 (([] : List Int) ++ a0.2.2)])] hk rfl ?_)
    refine ls_rs tbOk ?_
    refine evs (ev_ldBt (off := 0) (v := .agg [nI a0.1, oL 195 c195_o z3, oL 3 ci64 (([] : List Int) ++ a0.2.2)]) (c' := .box [nI a0.1, dL c195_o z3, dL ci64 (([] : List Int) ++ a0.2.2)]) rfl rfl rfl rfl (nb rfl) rfl rfl (evs (ev_st (off := 0) (c1 := .agg [nI a0.1, oL 195 c195_o z3, oL 3 ci64 (([] : List Int) ++ a0.2.2)]) (cs' := [nI a0.1, oL 195 c195_o z3, oL 3 ci64 (([] : List Int) ++ a0.2.2)]) rfl rfl rfl rfl rfl rfl (nb rfl) rfl (evn ?_))))
    refine ls_keep [(2, .box [nI a0.1, oL 195 c195_o z3, oL 3 ci64 (([] : List Int) ++ a0.2.2)])] ⟨kr, trivial⟩ rfl ?_
    refine ls_ret ?_
    have hr := Option.some.inj h
    rw [← hr]
    exact ⟨.inl rfl, rfl⟩
  refine ls_rec (fun (s : (List Y194) × Int) => match s with | (y1, y2) => [(1, .box [nI a0.1, dL c195_d a0.2.1, dL ci64 a0.2.2]), (2, .box [nI 0, oL 195 c195_o [], oL 3 ci64 []]), (3, .box [nI a0.1, oL 195 c195_o y1, oL 3 ci64 (([] : List Int) ++ a0.2.2)]), (4, nI y2)]) (spec_l7Copy_B1 a0) fz (([] : List Y194), 0) o1 hl ⟨kr, kr, kr, kr, trivial⟩ (fun _ => rfl) ?_
  rintro m ⟨y1, y2⟩ N h hN
  unfold spec_l7Copy_B1 at h
  dsimp only at h
  refine ls_seq_k fun K4 hK4 => ?_
  refine ls_rs tbOk ?_
  refine evs (ev_mv (c := nI y2) rfl rfl rfl (evs (ev_fa (c1 := .cref 1 0) (v := .cref 1 1) rfl rfl rfl ⟨_, rfl⟩ rfl (evs (ev_ldB (off := 1) (v := dL c195_d a0.2.1) rfl rfl rfl rfl (nb rfl) rfl (evs (ev_len (c1 := dL c195_d a0.2.1) rfl rfl rfl (evs (ev_bin (c1 := nI y2) (c2 := nI (List.length a0.2.1 : Int)) rfl rfl rfl (evn ?_))))))))))
  refine ls_keep [(1, .box [nI a0.1, dL c195_d a0.2.1, dL ci64 a0.2.2]), (2, .box [nI 0, oL 195 c195_o [], oL 3 ci64 []]), (3, .box [nI a0.1, oL 195 c195_o y1, oL 3 ci64 (([] : List Int) ++ a0.2.2)]), (4, nI y2), (16, .bool (decide (y2 < (List.length a0.2.1 : Int))))] ⟨kr, kr, kr, kr, kr, trivial⟩ rfl ?_
  rcases cond_some h with ⟨g5, h⟩ | ⟨g5, h⟩
  · refine ls_cT rfl g5 ?_
    refine ls_skip ?_
    refine hK4 _ (ls_keep [(1, .box [nI a0.1, dL c195_d a0.2.1, dL ci64 a0.2.2]), (2, .box [nI 0, oL 195 c195_o [], oL 3 ci64 []]), (3, .box [nI a0.1, oL 195 c195_o y1, oL 3 ci64 (([] : List Int) ++ a0.2.2)]), (4, nI y2)] ⟨kr, kr, kr, kr, trivial⟩ rfl ?_)
    refine ls_seq_k fun K6 hK6 => ?_
    refine ls_blk ?_
    refine ls_drw tbOk mixed (by kernel_rfl) ?_
    refine evd rfl rfl (ev_fa (c1 := .cref 3 0) (v := .cref 3 1) rfl rfl rfl ⟨_, rfl⟩ rfl (evd rfl rfl (ev_ldBt (off := 1) (v := oL 195 c195_o y1) (c' := .box [nI a0.1, dL c195_o y1, oL 3 ci64 (([] : List Int) ++ a0.2.2)]) rfl rfl rfl rfl (nb rfl) rfl rfl (evd rfl rfl (ev_fa (c1 := .cref 1 0) (v := .cref 1 1) rfl rfl rfl ⟨_, rfl⟩ rfl (evd rfl rfl (ev_ldB (off := 1) (v := dL c195_d a0.2.1) rfl rfl rfl rfl (nb rfl) rfl (evd rfl rfl (ev_mv (c := nI y2) rfl rfl rfl (?_))))))))))
    obtain ⟨e7, g8, h⟩ := ob_some h
    refine evd rfl rfl (ev_ia rfl rfl rfl ⟨(geti_some g8).1, (geti_some g8).2.1⟩ (evd rfl rfl (ev_fa (c1 := .adr (a0.2.1.flatMap c195_d) (Int.toNat y2 * 2)) (v := .adr (a0.2.1.flatMap c195_d) (Int.toNat y2 * 2)) rfl rfl rfl trivial rfl (evd rfl rfl (ev_ldE (i := y2) (n := 2) (off := 0) (v := .str e7.1) rfl rfl zc195_d g8 rfl (nb rfl) rfl (evd rfl rfl (ev_bs [] (cs := []) rfl trivial rfl (nb rfl) rfl (evd rfl rfl (ev_fa (c1 := .cref 1 0) (v := .cref 1 1) rfl rfl rfl ⟨_, rfl⟩ rfl (evd rfl rfl (ev_ldB (off := 1) (v := dL c195_d a0.2.1) rfl rfl rfl rfl (nb rfl) rfl (evd rfl rfl (ev_mv (c := nI y2) rfl rfl rfl (?_))))))))))))))
    obtain ⟨e9, g10, h⟩ := ob_some h
    refine evd rfl rfl (ev_ia rfl rfl rfl ⟨(geti_some g10).1, (geti_some g10).2.1⟩ (evd rfl rfl (ev_fa (c1 := .adr (a0.2.1.flatMap c195_d) (Int.toNat y2 * 2)) (v := .adr (a0.2.1.flatMap c195_d) (Int.toNat y2 * 2 + 1)) rfl rfl rfl trivial rfl (evd rfl rfl (ev_ldEt (i := y2) (n := 2) (off := 1) (v := dL ci64 e9.2) rfl rfl zc195_d g10 rfl (nb rfl) rfl (?_))))))
    obtain ⟨g11, h⟩ := chk_some h
    refine evd rfl rfl (ev_app (f := ci64) (l := ([] : List Int)) (m := e9.2) (c2 := dL ci64 e9.2) rfl rfl rfl (flat_len zci64 e9.2) rfl (map_dg (fun _ => rfl) _) g11 rfl (evd rfl rfl (ev_bd [.str e7.1, oL 3 ci64 (([] : List Int) ++ e9.2)] (cs := [.str e7.1, oL 3 ci64 (([] : List Int) ++ e9.2)]) rfl ⟨rfl, rfl, trivial⟩ rfl (evd rfl rfl (ev_bs [.agg [.str e7.1, oL 3 ci64 (([] : List Int) ++ e9.2)]] (cs := [.str e7.1, oL 3 ci64 (([] : List Int) ++ e9.2)]) rfl ⟨rfl, trivial⟩ rfl (nb rfl) rfl (?_))))))
    obtain ⟨g12, h⟩ := chk_some h
    refine evd rfl rfl (ev_app (f := c195_o) (l := y1) (m := ([(e7.1, ([] : List Int) ++ e9.2)])) (c2 := oL 195 c195_o ([(e7.1, ([] : List Int) ++ e9.2)])) rfl rfl rfl (flat_len zc195_o ([(e7.1, ([] : List Int) ++ e9.2)])) rfl rfl g12 rfl (evd rfl rfl (ev_fa (c1 := .cref 3 0) (v := .cref 3 1) rfl rfl rfl ⟨_, rfl⟩ rfl (evd rfl rfl (ev_st (off := 1) (c1 := oL 195 c195_o (y1 ++ ([(e7.1, ([] : List Int) ++ e9.2)]))) (cs' := [nI a0.1, oL 195 c195_o (y1 ++ ([(e7.1, ([] : List Int) ++ e9.2)])), oL 3 ci64 (([] : List Int) ++ a0.2.2)]) rfl rfl rfl rfl rfl rfl (nb rfl) rfl (evdn ?_))))))
    refine hK6 _ (ls_keep [(1, .box [nI a0.1, dL c195_d a0.2.1, dL ci64 a0.2.2]), (2, .box [nI 0, oL 195 c195_o [], oL 3 ci64 []]), (3, .box [nI a0.1, oL 195 c195_o (y1 ++ ([(e7.1, ([] : List Int) ++ e9.2)])), oL 3 ci64 (([] : List Int) ++ a0.2.2)]), (4, nI y2)] ⟨kr, kr, kr, kr, trivial⟩ rfl ?_)
    refine ls_rgn tbOk ?_
    refine evs (ev_mv (c := nI y2) rfl rfl rfl (evs (ev_bin (c1 := nI y2) (c2 := nI 1) rfl rfl rfl (evs (ev_as (c := nI (IntKind.i64.wrap (y2 + 1))) rfl rfl rfl (evn ?_))))))
    exact hN _ ((y1 ++ ([(e7.1, ([] : List Int) ++ e9.2)])), (IntKind.i64.wrap (y2 + 1))) h ⟨kr, kr, kr, kr, trivial⟩
  · refine ls_cF rfl g5 ?_
    refine ls_exit ?_
    have q0 := (Option.some.inj h).symm
    have r0 := hr1
    rw [q0] at r0
    exact kXspec_l7Copy_B1 y1 r0 _ ⟨kr, kr, trivial⟩
def spec_OpenCursor (a0 : Y51) (a1 : Y91) (a2 : List Int) : Option (Y107 × Bool) := obind (spec_IsValidHistory a0) fun v2 => cond (!v2) (some ((0, [], [], (0, [], [])), false)) (obind (geti a0.2 (IntKind.i64.wrap ((List.length a0.2 : Int) - 1))) fun e5 => obind (spec_IsQueryFor e5 a1) fun v7 => cond (!v7) (some ((0, [], [], (0, [], [])), false)) (obind (spec_IsValidOrder a1 a2) fun v10 => cond (!v10) (some ((0, [], [], (0, [], [])), false)) (chk (List.length ([] : List Int) + List.length a2 ≤ lim) (obind (spec_l7Copy a1) fun v14 => some ((IntKind.i64.wrap ((IntKind.i64.wrap (a0.1 + (List.length a0.2 : Int))) - 1), ([] : List Int) ++ a2, [], v14), true)))))
theorem spec_OpenCursor_s {a0 : Y51} {a1 : Y91} {a2 : List Int} {r : Y107 × Bool} (h : spec_OpenCursor a0 a1 a2 = some r) : SoundAt Try.prog 57 [.agg (c52_dddd a0), .agg (c92_ddd a1), dL ci64 a2] (.tup [.agg (c108_ooooo r.1), .bool r.2]) := by
  unfold spec_OpenCursor at h
  refine sound_lit tbOk lit57 (nb rfl) rfl ?_
  unfold c57
  refine ls_keep [(0, .agg (c52_dddd a0)), (1, .agg (c92_ddd a1)), (2, dL ci64 a2)] ⟨kr, kr, kr, trivial⟩ rfl ?_
  refine ls_rs tbOk ?_
  refine evs (ev_bx (c1 := .agg (c52_dddd a0)) rfl rfl rfl (evs (ev_bx (c1 := .agg (c92_ddd a1)) rfl rfl rfl (evs (ev_al rfl rfl (evs (ev_ac rfl nofun rfl (evn ?_))))))))
  refine ls_keep [(2, dL ci64 a2), (3, .box [nI a0.1, dL c33_ddd a0.2]), (4, .box [nI a1.1, dL c195_d a1.2.1, dL ci64 a1.2.2]), (6, .box [nI 0, oL 3 ci64 [], oL 3 ci64 [], nI 0, oL 195 c195_o [], oL 3 ci64 []])] ⟨kr, kr, kr, kr, trivial⟩ rfl ?_
  refine ls_seq_k fun K1 hK1 => ?_
  refine ls_rd tbOk mixed (by kernel_rfl) ?_
  refine evd rfl rfl (ev_ldB (off := 0) (v := .agg (c52_dddd a0)) rfl rfl rfl rfl (nb rfl) rfl (?_))
  obtain ⟨v2, g3, h⟩ := ob_some h
  refine evd rfl rfl (ev_call (era rfl (erg (erc rfl (erc (erD ec33_ddd _) rfl))) eran) (spec_IsValidHistory_s g3) (evd rfl rfl (ev_un (c1 := .bool v2) rfl trivial (evd rfl rfl (ev_mv (c := .bool (!v2)) rfl rfl rfl (?_))))))
  rcases cond_some h with ⟨g4, h⟩ | ⟨g4, h⟩
  · refine evd rfl rfl (ev_gs rfl rfl (isb_T g4) (evd rfl rfl (ev_gs rfl rfl (isb_T g4) (evd rfl rfl (ev_gs rfl rfl (isb_T g4) (evd rfl rfl (ev_gs rfl rfl (isb_T g4) (evd rfl rfl (ev_gs rfl rfl (isb_T g4) (evd rfl rfl (ev_gs rfl rfl (isb_T g4) (evd rfl rfl (ev_gs rfl rfl (isb_T g4) (evd rfl rfl (ev_gs rfl rfl (isb_T g4) (evd rfl rfl (ev_gs rfl rfl (isb_T g4) (evd rfl rfl (ev_gs rfl rfl (isb_T g4) (evd rfl rfl (ev_gs rfl rfl (isb_T g4) (evd rfl rfl (ev_pkT (c1 := .bool true) rfl g4 rfl rfl (evd rfl rfl (ev_mv (c := .bool true) rfl rfl rfl (evd rfl rfl (ev_gs rfl rfl rfl (evd rfl rfl (ev_gs rfl rfl rfl (evd rfl rfl (ev_gs rfl rfl rfl (evd rfl rfl (ev_gs rfl rfl rfl (evd rfl rfl (ev_pkT (c1 := .bool true) rfl rfl rfl rfl (evdn ?_))))))))))))))))))))))))))))))))))))
    refine ls_keep [(2, dL ci64 a2), (3, .box [nI a0.1, dL c33_ddd a0.2]), (4, .box [nI a1.1, dL c195_d a1.2.1, dL ci64 a1.2.2]), (6, .box [nI 0, oL 3 ci64 [], oL 3 ci64 [], nI 0, oL 195 c195_o [], oL 3 ci64 []]), (29, .bool true)] ⟨kr, kr, kr, kr, kr, trivial⟩ rfl ?_
    refine ls_cT rfl rfl ?_
    refine ls_rs tbOk ?_
    refine evs (ev_bd [] (cs := [nI 0, oL 3 ci64 [], oL 3 ci64 [], nI 0, oL 195 c195_o [], oL 3 ci64 []]) rfl trivial rfl (evs (ev_st (off := 0) (c1 := .agg [nI 0, oL 3 ci64 [], oL 3 ci64 [], nI 0, oL 195 c195_o [], oL 3 ci64 []]) (cs' := [nI 0, oL 3 ci64 [], oL 3 ci64 [], nI 0, oL 195 c195_o [], oL 3 ci64 []]) rfl rfl rfl rfl rfl rfl (nb rfl) rfl (evs (ev_ac rfl nofun rfl (evn ?_))))))
    refine ls_keep [(6, .box [nI 0, oL 3 ci64 [], oL 3 ci64 [], nI 0, oL 195 c195_o [], oL 3 ci64 []]), (7, .bool false)] ⟨kr, kr, trivial⟩ rfl ?_
    refine ls_ret ?_
    have hr := Option.some.inj h
    rw [← hr]
    exact ⟨.inl rfl, rfl⟩
  · refine evd rfl rfl (ev_gr rfl (congrArg V.bool g4) (ev_fa (c1 := .cref 3 0) (v := .cref 3 1) rfl rfl rfl ⟨_, rfl⟩ rfl (evd rfl rfl (ev_gr rfl (congrArg V.bool g4) (ev_ldB (off := 1) (v := dL c33_ddd a0.2) rfl rfl rfl rfl (nb rfl) rfl (evd rfl rfl (ev_gr rfl (congrArg V.bool g4) (ev_fa (c1 := .cref 3 0) (v := .cref 3 1) rfl rfl rfl ⟨_, rfl⟩ rfl (evd rfl rfl (ev_gr rfl (congrArg V.bool g4) (ev_ldB (off := 1) (v := dL c33_ddd a0.2) rfl rfl rfl rfl (nb rfl) rfl (evd rfl rfl (ev_gr rfl (congrArg V.bool g4) (ev_len (c1 := dL c33_ddd a0.2) rfl rfl rfl (evd rfl rfl (ev_gr rfl (congrArg V.bool g4) (ev_bin (c1 := nI (List.length a0.2 : Int)) (c2 := nI 1) rfl rfl rfl (?_))))))))))))))))))
    obtain ⟨e5, g6, h⟩ := ob_some h
    refine evd rfl rfl (ev_gr rfl (congrArg V.bool g4) (ev_ia rfl rfl rfl ⟨(geti_some g6).1, (geti_some g6).2.1⟩ (evd rfl rfl (ev_gr rfl (congrArg V.bool g4) (ev_ldE (i := (IntKind.i64.wrap ((List.length a0.2 : Int) - 1))) (n := 1) (off := 0) (v := .agg [dL c208_dd e5]) rfl rfl zc33_ddd g6 rfl (nb rfl) rfl (evd rfl rfl (ev_gr rfl (congrArg V.bool g4) (ev_ldB (off := 0) (v := .agg (c92_ddd a1)) rfl rfl rfl rfl (nb rfl) rfl (?_)))))))))
    obtain ⟨v7, g8, h⟩ := ob_some h
    refine evd rfl rfl (ev_gr rfl (congrArg V.bool g4) (ev_call (era rfl (erg (erc (erD ec208_dd _) rfl)) (era rfl (erg (erc rfl (erc (erD ec195_d _) (erc (erD eci64 _) rfl)))) eran)) (spec_IsQueryFor_s g8) (evd rfl rfl (ev_gr rfl (congrArg V.bool g4) (ev_un (c1 := .bool v7) rfl trivial (evd rfl rfl (ev_pkF (c1 := .bool (!v7)) rfl g4 rfl rfl (evd rfl rfl (ev_mv (c := .bool (!v7)) rfl rfl rfl (?_))))))))))
    rcases cond_some h with ⟨g9, h⟩ | ⟨g9, h⟩
    · refine evd rfl rfl (ev_gs rfl rfl (isb_T g9) (evd rfl rfl (ev_gs rfl rfl (isb_T g9) (evd rfl rfl (ev_gs rfl rfl (isb_T g9) (evd rfl rfl (ev_gs rfl rfl (isb_T g9) (evd rfl rfl (ev_pkT (c1 := .bool true) rfl g9 rfl rfl (evdn ?_))))))))))
      refine ls_keep [(2, dL ci64 a2), (3, .box [nI a0.1, dL c33_ddd a0.2]), (4, .box [nI a1.1, dL c195_d a1.2.1, dL ci64 a1.2.2]), (6, .box [nI 0, oL 3 ci64 [], oL 3 ci64 [], nI 0, oL 195 c195_o [], oL 3 ci64 []]), (29, .bool true)] ⟨kr, kr, kr, kr, kr, trivial⟩ rfl ?_
      refine ls_cT rfl rfl ?_
      refine ls_rs tbOk ?_
      refine evs (ev_bd [] (cs := [nI 0, oL 3 ci64 [], oL 3 ci64 [], nI 0, oL 195 c195_o [], oL 3 ci64 []]) rfl trivial rfl (evs (ev_st (off := 0) (c1 := .agg [nI 0, oL 3 ci64 [], oL 3 ci64 [], nI 0, oL 195 c195_o [], oL 3 ci64 []]) (cs' := [nI 0, oL 3 ci64 [], oL 3 ci64 [], nI 0, oL 195 c195_o [], oL 3 ci64 []]) rfl rfl rfl rfl rfl rfl (nb rfl) rfl (evs (ev_ac rfl nofun rfl (evn ?_))))))
      refine ls_keep [(6, .box [nI 0, oL 3 ci64 [], oL 3 ci64 [], nI 0, oL 195 c195_o [], oL 3 ci64 []]), (7, .bool false)] ⟨kr, kr, trivial⟩ rfl ?_
      refine ls_ret ?_
      have hr := Option.some.inj h
      rw [← hr]
      exact ⟨.inl rfl, rfl⟩
    · refine evd rfl rfl (ev_gr rfl (congrArg V.bool g9) (ev_ldB (off := 0) (v := .agg (c92_ddd a1)) rfl rfl rfl rfl (nb rfl) rfl (evd rfl rfl (ev_gr rfl (congrArg V.bool g9) (ev_mv (c := dL ci64 a2) rfl rfl rfl (?_))))))
      obtain ⟨v10, g11, h⟩ := ob_some h
      refine evd rfl rfl (ev_gr rfl (congrArg V.bool g9) (ev_call (era rfl (erg (erc rfl (erc (erD ec195_d _) (erc (erD eci64 _) rfl)))) (era rfl (erD eci64 _) eran)) (spec_IsValidOrder_s g11) (evd rfl rfl (ev_gr rfl (congrArg V.bool g9) (ev_un (c1 := .bool v10) rfl trivial (evd rfl rfl (ev_pkF (c1 := .bool (!v10)) rfl g9 rfl rfl (evdn ?_))))))))
      refine ls_keep [(2, dL ci64 a2), (3, .box [nI a0.1, dL c33_ddd a0.2]), (4, .box [nI a1.1, dL c195_d a1.2.1, dL ci64 a1.2.2]), (6, .box [nI 0, oL 3 ci64 [], oL 3 ci64 [], nI 0, oL 195 c195_o [], oL 3 ci64 []]), (29, .bool (!v10))] ⟨kr, kr, kr, kr, kr, trivial⟩ rfl ?_
      rcases cond_some h with ⟨g12, h⟩ | ⟨g12, h⟩
      · refine ls_cT rfl g12 ?_
        refine ls_rs tbOk ?_
        refine evs (ev_bd [] (cs := [nI 0, oL 3 ci64 [], oL 3 ci64 [], nI 0, oL 195 c195_o [], oL 3 ci64 []]) rfl trivial rfl (evs (ev_st (off := 0) (c1 := .agg [nI 0, oL 3 ci64 [], oL 3 ci64 [], nI 0, oL 195 c195_o [], oL 3 ci64 []]) (cs' := [nI 0, oL 3 ci64 [], oL 3 ci64 [], nI 0, oL 195 c195_o [], oL 3 ci64 []]) rfl rfl rfl rfl rfl rfl (nb rfl) rfl (evs (ev_ac rfl nofun rfl (evn ?_))))))
        refine ls_keep [(6, .box [nI 0, oL 3 ci64 [], oL 3 ci64 [], nI 0, oL 195 c195_o [], oL 3 ci64 []]), (7, .bool false)] ⟨kr, kr, trivial⟩ rfl ?_
        refine ls_ret ?_
        have hr := Option.some.inj h
        rw [← hr]
        exact ⟨.inl rfl, rfl⟩
      · refine ls_cF rfl g12 ?_
        refine ls_skip ?_
        refine hK1 _ (ls_keep [(2, dL ci64 a2), (3, .box [nI a0.1, dL c33_ddd a0.2]), (4, .box [nI a1.1, dL c195_d a1.2.1, dL ci64 a1.2.2]), (6, .box [nI 0, oL 3 ci64 [], oL 3 ci64 [], nI 0, oL 195 c195_o [], oL 3 ci64 []])] ⟨kr, kr, kr, kr, trivial⟩ rfl ?_)
        refine ls_rd tbOk mixed (by kernel_rfl) ?_
        refine evd rfl rfl (ev_fa (c1 := .cref 3 0) (v := .cref 3 0) rfl rfl rfl ⟨_, rfl⟩ rfl (evd rfl rfl (ev_ldB (off := 0) (v := nI a0.1) rfl rfl rfl rfl (nb rfl) rfl (evd rfl rfl (ev_fa (c1 := .cref 3 0) (v := .cref 3 1) rfl rfl rfl ⟨_, rfl⟩ rfl (evd rfl rfl (ev_ldB (off := 1) (v := dL c33_ddd a0.2) rfl rfl rfl rfl (nb rfl) rfl (evd rfl rfl (ev_len (c1 := dL c33_ddd a0.2) rfl rfl rfl (evd rfl rfl (ev_bin (c1 := nI a0.1) (c2 := nI (List.length a0.2 : Int)) rfl rfl rfl (evd rfl rfl (ev_bin (c1 := nI (IntKind.i64.wrap (a0.1 + (List.length a0.2 : Int)))) (c2 := nI 1) rfl rfl rfl (evd rfl rfl (ev_bs [] (cs := []) rfl trivial rfl (nb rfl) rfl (evd rfl rfl (ev_mvt (c := dL ci64 a2) rfl rfl rfl (?_))))))))))))))))))
        obtain ⟨g13, h⟩ := chk_some h
        refine evd rfl rfl (ev_app (f := ci64) (l := ([] : List Int)) (m := a2) (c2 := dL ci64 a2) rfl rfl rfl (flat_len zci64 a2) rfl (map_dg (fun _ => rfl) _) g13 rfl (evd rfl rfl (ev_ldB (off := 0) (v := .agg (c92_ddd a1)) rfl rfl rfl rfl (nb rfl) rfl (?_))))
        obtain ⟨v14, g15, h⟩ := ob_some h
        refine evd rfl rfl (ev_call (era rfl (erg (erc rfl (erc (erD ec195_d _) (erc (erD eci64 _) rfl)))) eran) (spec_l7Copy_s g15) (evd rfl rfl (ev_bd [nI (IntKind.i64.wrap ((IntKind.i64.wrap (a0.1 + (List.length a0.2 : Int))) - 1)), oL 3 ci64 (([] : List Int) ++ a2), .agg (c92_ooo v14)] (cs := [nI (IntKind.i64.wrap ((IntKind.i64.wrap (a0.1 + (List.length a0.2 : Int))) - 1)), oL 3 ci64 (([] : List Int) ++ a2), oL 3 ci64 [], nI v14.1, oL 195 c195_o v14.2.1, oL 3 ci64 v14.2.2]) rfl ⟨rfl, rfl, rfl, trivial⟩ rfl (evd rfl rfl (ev_st (off := 0) (c1 := .agg [nI (IntKind.i64.wrap ((IntKind.i64.wrap (a0.1 + (List.length a0.2 : Int))) - 1)), oL 3 ci64 (([] : List Int) ++ a2), oL 3 ci64 [], nI v14.1, oL 195 c195_o v14.2.1, oL 3 ci64 v14.2.2]) (cs' := [nI (IntKind.i64.wrap ((IntKind.i64.wrap (a0.1 + (List.length a0.2 : Int))) - 1)), oL 3 ci64 (([] : List Int) ++ a2), oL 3 ci64 [], nI v14.1, oL 195 c195_o v14.2.1, oL 3 ci64 v14.2.2]) rfl rfl rfl rfl rfl rfl (nb rfl) rfl (evd rfl rfl (ev_ac rfl nofun rfl (evdn ?_))))))))
        refine ls_keep [(6, .box [nI (IntKind.i64.wrap ((IntKind.i64.wrap (a0.1 + (List.length a0.2 : Int))) - 1)), oL 3 ci64 (([] : List Int) ++ a2), oL 3 ci64 [], nI v14.1, oL 195 c195_o v14.2.1, oL 3 ci64 v14.2.2]), (7, .bool true)] ⟨kr, kr, trivial⟩ rfl ?_
        refine ls_ret ?_
        have hr := Option.some.inj h
        rw [← hr]
        exact ⟨.inl rfl, rfl⟩
def impl_within_J1 (x2 : Bool) : Option (Bool) := some x2
def impl_within (a0 : Int) (a1 : Int) (a2 : Int) : Option (Bool) := cond (decide (a1 ≤ a0)) (impl_within_J1 (decide (a0 ≤ a2))) (impl_within_J1 false)
theorem impl_within_s {a0 : Int} {a1 : Int} {a2 : Int} {r : Bool} (h : impl_within a0 a1 a2 = some r) : SoundAt Try.prog 90 [nI a0, nI a1, nI a2] (.bool r) := by
  unfold impl_within at h
  refine sound_lit tbOk lit90 (nb rfl) rfl ?_
  unfold c90
  refine ls_keep [(0, nI a0), (1, nI a1), (2, nI a2)] ⟨kr, kr, kr, trivial⟩ rfl ?_
  refine ls_rs tbOk ?_
  refine evs (ev_ac rfl nofun rfl (evn ?_))
  refine ls_keep [(0, nI a0), (1, nI a1), (2, nI a2)] ⟨kr, kr, kr, trivial⟩ rfl ?_
  refine ls_rs_k tbOk fun K1 hK1 => ?_
  have kimpl_within_J1 : ∀ (x2 : Bool), impl_within_J1 x2 = some r → ∀ σ' : PS, okK σ' [(6, .bool x2)] → K1 σ' := by
    intro x2 h σ' hk
    unfold impl_within_J1 at h
    refine hK1 _ (ls_keep [(6, .bool x2)] hk rfl ?_)
    refine ls_ret ?_
    have hr := Option.some.inj h
    rw [← hr]
    exact ⟨.inl rfl, rfl⟩
  refine evs (ev_mv (c := nI a0) rfl rfl rfl (evs (ev_mv (c := nI a1) rfl rfl rfl (evs (ev_bin (c1 := nI a0) (c2 := nI a1) rfl rfl rfl (evs (ev_mv (c := .bool (decide (a1 ≤ a0))) rfl rfl rfl (?_))))))))
  rcases cond_some h with ⟨g3, h⟩ | ⟨g3, h⟩
  · refine evs (ev_gr rfl (congrArg V.bool g3) (ev_mv (c := nI a0) rfl rfl rfl (evs (ev_gr rfl (congrArg V.bool g3) (ev_mv (c := nI a2) rfl rfl rfl (evs (ev_gr rfl (congrArg V.bool g3) (ev_bin (c1 := nI a0) (c2 := nI a2) rfl rfl rfl (evs (ev_pkT (c1 := .bool (decide (a0 ≤ a2))) rfl g3 rfl rfl (evs (ev_as (c := .bool (decide (a0 ≤ a2))) rfl rfl rfl (evn ?_)))))))))))))
    exact kimpl_within_J1 (decide (a0 ≤ a2)) h _ ⟨kr, trivial⟩
  · refine evs (ev_gs rfl rfl (isb_F g3) (evs (ev_gs rfl rfl (isb_F g3) (evs (ev_gs rfl rfl (isb_F g3) (evs (ev_pkF (c1 := .bool false) rfl g3 rfl rfl (evs (ev_as (c := .bool false) rfl rfl rfl (evn ?_))))))))))
    exact kimpl_within_J1 false h _ ⟨kr, trivial⟩
def impl_isLetters_B1 (a0 : List UInt8) (rec : Int → Option (Sum (Unit) (Bool))) (y1 : Int) : Option (Sum (Unit) (Bool)) := cond (decide (y1 < (List.length a0 : Int))) (obind (geti a0 y1) fun b8 => cond (decide ((UInt8.toNat b8 : Int) < 97)) (some (.inr false)) (obind (geti a0 y1) fun b11 => cond (decide (122 < (UInt8.toNat b11 : Int))) (some (.inr false)) (rec (IntKind.i64.wrap (y1 + 1))))) (some (.inl ()))
def impl_isLetters (a0 : List UInt8) (a1 : Int) : Option (Bool) := cond (decide ((List.length a0 : Int) < 1)) (some false) (cond (decide (a1 < (List.length a0 : Int))) (some false) (obind (loopF (impl_isLetters_B1 a0) fz 0) fun o1 => (match o1 with
  | .inl _ => (some true)
  | .inr r => some r)))
theorem impl_isLetters_s {a0 : List UInt8} {a1 : Int} {r : Bool} (h : impl_isLetters a0 a1 = some r) : SoundAt Try.prog 243 [.str a0, nI a1] (.bool r) := by
  unfold impl_isLetters at h
  refine sound_lit tbOk lit243 (nb rfl) rfl ?_
  unfold c243
  refine ls_keep [(0, .str a0), (1, nI a1)] ⟨kr, kr, trivial⟩ rfl ?_
  refine ls_rs tbOk ?_
  refine evs (ev_ac rfl nofun rfl (evn ?_))
  refine ls_keep [(0, .str a0), (1, nI a1)] ⟨kr, kr, trivial⟩ rfl ?_
  refine ls_seq_k fun K1 hK1 => ?_
  refine ls_rs tbOk ?_
  refine evs (ev_mv (c := .str a0) rfl rfl rfl (evs (ev_lens (z := []) rfl rfl (evs (ev_bin (c1 := nI (List.length a0 : Int)) (c2 := nI 1) rfl rfl rfl (evs (ev_mv (c := .bool (decide ((List.length a0 : Int) < 1))) rfl rfl rfl (?_))))))))
  rcases cond_some h with ⟨g2, h⟩ | ⟨g2, h⟩
  · refine evs (ev_gs rfl rfl (isb_T g2) (evs (ev_gs rfl rfl (isb_T g2) (evs (ev_gs rfl rfl (isb_T g2) (evs (ev_gs rfl rfl (isb_T g2) (evs (ev_pkT (c1 := .bool true) rfl g2 rfl rfl (evn ?_))))))))))
    refine ls_keep [(0, .str a0), (14, .bool true)] ⟨kr, kr, trivial⟩ rfl ?_
    refine ls_cT rfl rfl ?_
    refine ls_rs tbOk ?_
    refine evs (ev_ac rfl nofun rfl (evn ?_))
    refine ls_keep [(4, .bool false)] ⟨kr, trivial⟩ rfl ?_
    refine ls_ret ?_
    have hr := Option.some.inj h
    rw [← hr]
    exact ⟨.inl rfl, rfl⟩
  · refine evs (ev_gr rfl (congrArg V.bool g2) (ev_mv (c := .str a0) rfl rfl rfl (evs (ev_gr rfl (congrArg V.bool g2) (ev_lens (z := []) rfl rfl (evs (ev_gr rfl (congrArg V.bool g2) (ev_mv (c := nI a1) rfl rfl rfl (evs (ev_gr rfl (congrArg V.bool g2) (ev_bin (c1 := nI (List.length a0 : Int)) (c2 := nI a1) rfl rfl rfl (evs (ev_pkF (c1 := .bool (decide (a1 < (List.length a0 : Int)))) rfl g2 rfl rfl (evn ?_))))))))))))))
    refine ls_keep [(0, .str a0), (14, .bool (decide (a1 < (List.length a0 : Int))))] ⟨kr, kr, trivial⟩ rfl ?_
    rcases cond_some h with ⟨g3, h⟩ | ⟨g3, h⟩
    · refine ls_cT rfl g3 ?_
      refine ls_rs tbOk ?_
      refine evs (ev_ac rfl nofun rfl (evn ?_))
      refine ls_keep [(4, .bool false)] ⟨kr, trivial⟩ rfl ?_
      refine ls_ret ?_
      have hr := Option.some.inj h
      rw [← hr]
      exact ⟨.inl rfl, rfl⟩
    · refine ls_cF rfl g3 ?_
      refine ls_skip ?_
      refine hK1 _ (ls_keep [(0, .str a0)] ⟨kr, trivial⟩ rfl ?_)
      refine ls_seq_k fun K4 hK4 => ?_
      refine ls_rs tbOk ?_
      refine evs (ev_ac rfl nofun rfl (evn ?_))
      refine ls_keep [(0, .str a0), (5, nI 0)] ⟨kr, kr, trivial⟩ rfl ?_
      obtain ⟨o1, hl, hr1⟩ := ob_some h
      clear h
      have kXimpl_isLetters_B1 : ∀ (_ : Unit), (some true) = some r → ∀ σ' : PS, okK σ' [] → K4 σ' := by
        intro _ h σ' hk
        refine hK4 _ (ls_keep [] hk rfl ?_)
        refine ls_rs tbOk ?_
        refine evs (ev_ac rfl nofun rfl (evn ?_))
        refine ls_keep [(4, .bool true)] ⟨kr, trivial⟩ rfl ?_
        refine ls_ret ?_
        have hr := Option.some.inj h
        rw [← hr]
        exact ⟨.inl rfl, rfl⟩
      refine ls_rec (fun (y1 : Int) => [(0, .str a0), (5, nI y1)]) (impl_isLetters_B1 a0) fz 0 o1 hl ⟨kr, kr, trivial⟩ (fun _ => rfl) ?_
      rintro m y1 N h hN
      unfold impl_isLetters_B1 at h
      refine ls_seq_k fun K5 hK5 => ?_
      refine ls_rs tbOk ?_
      refine evs (ev_mv (c := nI y1) rfl rfl rfl (evs (ev_mv (c := .str a0) rfl rfl rfl (evs (ev_lens (z := []) rfl rfl (evs (ev_bin (c1 := nI y1) (c2 := nI (List.length a0 : Int)) rfl rfl rfl (evn ?_))))))))
      refine ls_keep [(0, .str a0), (5, nI y1), (18, .bool (decide (y1 < (List.length a0 : Int))))] ⟨kr, kr, kr, trivial⟩ rfl ?_
      rcases cond_some h with ⟨g6, h⟩ | ⟨g6, h⟩
      · refine ls_cT rfl g6 ?_
        refine ls_skip ?_
        refine hK5 _ (ls_keep [(0, .str a0), (5, nI y1)] ⟨kr, kr, trivial⟩ rfl ?_)
        refine ls_seq_k fun K7 hK7 => ?_
        refine ls_blk ?_
        refine ls_rs tbOk ?_
        refine evs (ev_mv (c := .str a0) rfl rfl rfl (evs (ev_mv (c := nI y1) rfl rfl rfl (?_))))
        obtain ⟨b8, g9, h⟩ := ob_some h
        refine evs (ev_six rfl rfl rfl g9 (evs (ev_bin (c1 := .int .u8 (UInt8.toNat b8 : Int)) (c2 := .int .u8 97) rfl rfl rfl (evs (ev_mv (c := .bool (decide ((UInt8.toNat b8 : Int) < 97))) rfl rfl rfl (?_))))))
        rcases cond_some h with ⟨g10, h⟩ | ⟨g10, h⟩
        · refine evs (ev_gs rfl rfl (isb_T g10) (evs (ev_gs rfl rfl (isb_T g10) (evs (ev_gs rfl rfl (isb_T g10) (evs (ev_gs rfl rfl (isb_T g10) (evs (ev_pkT (c1 := .bool true) rfl g10 rfl rfl (evn ?_))))))))))
          refine ls_keep [(0, .str a0), (5, nI y1), (30, .bool true)] ⟨kr, kr, kr, trivial⟩ rfl ?_
          refine ls_cT rfl rfl ?_
          refine ls_rs tbOk ?_
          refine evs (ev_ac rfl nofun rfl (evn ?_))
          refine ls_keep [(4, .bool false)] ⟨kr, trivial⟩ rfl ?_
          refine ls_ret ?_
          have q0 := (Option.some.inj h).symm
          have r0 := hr1
          rw [q0] at r0
          have hr := Option.some.inj r0
          rw [← hr]
          exact ⟨.inl rfl, rfl⟩
        · refine evs (ev_gr rfl (congrArg V.bool g10) (ev_mv (c := .str a0) rfl rfl rfl (evs (ev_gr rfl (congrArg V.bool g10) (ev_mv (c := nI y1) rfl rfl rfl (?_))))))
          obtain ⟨b11, g12, h⟩ := ob_some h
          refine evs (ev_gr rfl (congrArg V.bool g10) (ev_six rfl rfl rfl g12 (evs (ev_gr rfl (congrArg V.bool g10) (ev_bin (c1 := .int .u8 (UInt8.toNat b11 : Int)) (c2 := .int .u8 122) rfl rfl rfl (evs (ev_pkF (c1 := .bool (decide (122 < (UInt8.toNat b11 : Int)))) rfl g10 rfl rfl (evn ?_))))))))
          refine ls_keep [(0, .str a0), (5, nI y1), (30, .bool (decide (122 < (UInt8.toNat b11 : Int))))] ⟨kr, kr, kr, trivial⟩ rfl ?_
          rcases cond_some h with ⟨g13, h⟩ | ⟨g13, h⟩
          · refine ls_cT rfl g13 ?_
            refine ls_rs tbOk ?_
            refine evs (ev_ac rfl nofun rfl (evn ?_))
            refine ls_keep [(4, .bool false)] ⟨kr, trivial⟩ rfl ?_
            refine ls_ret ?_
            have q0 := (Option.some.inj h).symm
            have r0 := hr1
            rw [q0] at r0
            have hr := Option.some.inj r0
            rw [← hr]
            exact ⟨.inl rfl, rfl⟩
          · refine ls_cF rfl g13 ?_
            refine ls_skip ?_
            refine hK7 _ (ls_keep [(0, .str a0), (5, nI y1)] ⟨kr, kr, trivial⟩ rfl ?_)
            refine ls_rgn tbOk ?_
            refine evs (ev_mv (c := nI y1) rfl rfl rfl (evs (ev_bin (c1 := nI y1) (c2 := nI 1) rfl rfl rfl (evs (ev_as (c := nI (IntKind.i64.wrap (y1 + 1))) rfl rfl rfl (evn ?_))))))
            exact hN _ (IntKind.i64.wrap (y1 + 1)) h ⟨kr, kr, trivial⟩
      · refine ls_cF rfl g6 ?_
        refine ls_exit ?_
        have q0 := (Option.some.inj h).symm
        have r0 := hr1
        rw [q0] at r0
        exact kXimpl_isLetters_B1 () r0 _ trivial
def impl_IsValidName (a0 : List UInt8) : Option (Bool) := obind (impl_isLetters a0 4) fun v1 => some v1
theorem impl_IsValidName_s {a0 : List UInt8} {r : Bool} (h : impl_IsValidName a0 = some r) : SoundAt Try.prog 218 [.str a0] (.bool r) := by
  unfold impl_IsValidName at h
  refine sound_lit tbOk lit218 (nb rfl) rfl ?_
  unfold c218
  refine ls_keep [(0, .str a0)] ⟨kr, trivial⟩ rfl ?_
  refine ls_rs tbOk ?_
  refine evs (ev_ac rfl nofun rfl (evn ?_))
  refine ls_keep [(0, .str a0)] ⟨kr, trivial⟩ rfl ?_
  refine ls_rs tbOk ?_
  refine evs (ev_mv (c := .str a0) rfl rfl rfl (?_))
  obtain ⟨v1, g2, h⟩ := ob_some h
  refine evs (ev_call (era rfl rfl (era rfl rfl eran)) (impl_isLetters_s g2) (evs (ev_as (c := .bool v1) rfl rfl rfl (evn ?_))))
  refine ls_keep [(2, .bool v1)] ⟨kr, trivial⟩ rfl ?_
  refine ls_ret ?_
  have hr := Option.some.inj h
  rw [← hr]
  exact ⟨.inl rfl, rfl⟩
def impl_compareInts (a0 : Int) (a1 : Int) : Option (Int) := cond (decide (a0 < a1)) (some (-1)) (cond (decide (a1 < a0)) (some 1) (some 0))
theorem impl_compareInts_s {a0 : Int} {a1 : Int} {r : Int} (h : impl_compareInts a0 a1 = some r) : SoundAt Try.prog 262 [nI a0, nI a1] (nI r) := by
  unfold impl_compareInts at h
  refine sound_lit tbOk lit262 (nb rfl) rfl ?_
  unfold c262
  refine ls_keep [(0, nI a0), (1, nI a1)] ⟨kr, kr, trivial⟩ rfl ?_
  refine ls_rs tbOk ?_
  refine evs (ev_ac rfl nofun rfl (evn ?_))
  refine ls_keep [(0, nI a0), (1, nI a1)] ⟨kr, kr, trivial⟩ rfl ?_
  refine ls_seq_k fun K1 hK1 => ?_
  refine ls_blk ?_
  refine ls_rs tbOk ?_
  refine evs (ev_mv (c := nI a0) rfl rfl rfl (evs (ev_mv (c := nI a1) rfl rfl rfl (evs (ev_bin (c1 := nI a0) (c2 := nI a1) rfl rfl rfl (evs (ev_as (c := .bool (decide (a0 < a1))) rfl rfl rfl (evn ?_))))))))
  refine ls_keep [(0, nI a0), (1, nI a1), (5, .bool (decide (a0 < a1)))] ⟨kr, kr, kr, trivial⟩ rfl ?_
  rcases cond_some h with ⟨g2, h⟩ | ⟨g2, h⟩
  · refine ls_cT rfl g2 ?_
    refine ls_rs tbOk ?_
    refine evs (ev_ac rfl nofun rfl (evn ?_))
    refine ls_keep [(4, nI (-1))] ⟨kr, trivial⟩ rfl ?_
    refine ls_ret ?_
    have hr := Option.some.inj h
    rw [← hr]
    exact ⟨.inl rfl, rfl⟩
  · refine ls_cF rfl g2 ?_
    refine ls_rs tbOk ?_
    refine evs (ev_mv (c := nI a0) rfl rfl rfl (evs (ev_mv (c := nI a1) rfl rfl rfl (evs (ev_bin (c1 := nI a0) (c2 := nI a1) rfl rfl rfl (evs (ev_as (c := .bool (decide (a1 < a0))) rfl rfl rfl (evn ?_))))))))
    refine ls_keep [(9, .bool (decide (a1 < a0)))] ⟨kr, trivial⟩ rfl ?_
    rcases cond_some h with ⟨g3, h⟩ | ⟨g3, h⟩
    · refine ls_cT rfl g3 ?_
      refine ls_rs tbOk ?_
      refine evs (ev_ac rfl nofun rfl (evn ?_))
      refine ls_keep [(4, nI 1)] ⟨kr, trivial⟩ rfl ?_
      refine ls_ret ?_
      have hr := Option.some.inj h
      rw [← hr]
      exact ⟨.inl rfl, rfl⟩
    · refine ls_cF rfl g3 ?_
      refine ls_skip ?_
      refine hK1 _ (ls_keep [] trivial rfl ?_)
      refine ls_rs tbOk ?_
      refine evs (ev_ac rfl nofun rfl (evn ?_))
      refine ls_keep [(4, nI 0)] ⟨kr, trivial⟩ rfl ?_
      refine ls_ret ?_
      have hr := Option.some.inj h
      rw [← hr]
      exact ⟨.inl rfl, rfl⟩
def impl_CompareRows_B1 (a0 : List Int) (a1 : List Int) (rec : Int → Option (Sum (Unit) (Int))) (y1 : Int) : Option (Sum (Unit) (Int)) := cond (decide (y1 < (List.length a0 : Int))) (cond (decide (y1 < (List.length a1 : Int))) (obind (geti a0 y1) fun e6 => obind (geti a1 y1) fun e8 => cond (e6 != e8) (obind (geti a0 y1) fun e11 => obind (geti a1 y1) fun e13 => obind (impl_compareInts e11 e13) fun v15 => some (.inr v15)) (rec (IntKind.i64.wrap (y1 + 1)))) (some (.inl ()))) (some (.inl ()))
def impl_CompareRows (a0 : List Int) (a1 : List Int) : Option (Int) := obind (loopF (impl_CompareRows_B1 a0 a1) fz 0) fun o1 => (match o1 with
  | .inl _ => (obind (impl_compareInts (List.length a0 : Int) (List.length a1 : Int)) fun v17 => some v17)
  | .inr r => some r)
theorem impl_CompareRows_s {a0 : List Int} {a1 : List Int} {r : Int} (h : impl_CompareRows a0 a1 = some r) : SoundAt Try.prog 255 [dL ci64 a0, dL ci64 a1] (nI r) := by
  unfold impl_CompareRows at h
  refine sound_lit tbOk lit255 (nb rfl) rfl ?_
  unfold c255
  refine ls_keep [(0, dL ci64 a0), (1, dL ci64 a1)] ⟨kr, kr, trivial⟩ rfl ?_
  refine ls_rs tbOk ?_
  refine evs (ev_ac rfl nofun rfl (evn ?_))
  refine ls_keep [(0, dL ci64 a0), (1, dL ci64 a1)] ⟨kr, kr, trivial⟩ rfl ?_
  refine ls_seq_k fun K1 hK1 => ?_
  refine ls_rs tbOk ?_
  refine evs (ev_ac rfl nofun rfl (evn ?_))
  refine ls_keep [(0, dL ci64 a0), (1, dL ci64 a1), (5, nI 0)] ⟨kr, kr, kr, trivial⟩ rfl ?_
  obtain ⟨o1, hl, hr1⟩ := ob_some h
  clear h
  have kXimpl_CompareRows_B1 : ∀ (_ : Unit), (obind (impl_compareInts (List.length a0 : Int) (List.length a1 : Int)) fun v17 => some v17) = some r → ∀ σ' : PS, okK σ' [(0, dL ci64 a0), (1, dL ci64 a1)] → K1 σ' := by
    intro _ h σ' hk
    refine hK1 _ (ls_keep [(0, dL ci64 a0), (1, dL ci64 a1)] hk rfl ?_)
    refine ls_rs tbOk ?_
    refine evs (ev_mv (c := dL ci64 a0) rfl rfl rfl (evs (ev_len (c1 := dL ci64 a0) rfl rfl rfl (evs (ev_mv (c := dL ci64 a1) rfl rfl rfl (evs (ev_len (c1 := dL ci64 a1) rfl rfl rfl (?_))))))))
    obtain ⟨v17, g18, h⟩ := ob_some h
    refine evs (ev_call (era rfl rfl (era rfl rfl eran)) (impl_compareInts_s g18) (evs (ev_as (c := nI v17) rfl rfl rfl (evn ?_))))
    refine ls_keep [(4, nI v17)] ⟨kr, trivial⟩ rfl ?_
    refine ls_ret ?_
    have hr := Option.some.inj h
    rw [← hr]
    exact ⟨.inl rfl, rfl⟩
  refine ls_rec (fun (y1 : Int) => [(0, dL ci64 a0), (1, dL ci64 a1), (5, nI y1)]) (impl_CompareRows_B1 a0 a1) fz 0 o1 hl ⟨kr, kr, kr, trivial⟩ (fun _ => rfl) ?_
  rintro m y1 N h hN
  unfold impl_CompareRows_B1 at h
  refine ls_seq_k fun K2 hK2 => ?_
  refine ls_rs tbOk ?_
  refine evs (ev_mv (c := nI y1) rfl rfl rfl (evs (ev_mv (c := dL ci64 a0) rfl rfl rfl (evs (ev_len (c1 := dL ci64 a0) rfl rfl rfl (evs (ev_bin (c1 := nI y1) (c2 := nI (List.length a0 : Int)) rfl rfl rfl (evs (ev_mv (c := .bool (decide (y1 < (List.length a0 : Int)))) rfl rfl rfl (?_))))))))))
  rcases cond_some h with ⟨g3, h⟩ | ⟨g3, h⟩
  · refine evs (ev_gr rfl (congrArg V.bool g3) (ev_mv (c := nI y1) rfl rfl rfl (evs (ev_gr rfl (congrArg V.bool g3) (ev_mv (c := dL ci64 a1) rfl rfl rfl (evs (ev_gr rfl (congrArg V.bool g3) (ev_len (c1 := dL ci64 a1) rfl rfl rfl (evs (ev_gr rfl (congrArg V.bool g3) (ev_bin (c1 := nI y1) (c2 := nI (List.length a1 : Int)) rfl rfl rfl (evs (ev_pkT (c1 := .bool (decide (y1 < (List.length a1 : Int)))) rfl g3 rfl rfl (evn ?_))))))))))))))
    refine ls_keep [(0, dL ci64 a0), (1, dL ci64 a1), (5, nI y1), (15, .bool (decide (y1 < (List.length a1 : Int))))] ⟨kr, kr, kr, kr, trivial⟩ rfl ?_
    rcases cond_some h with ⟨g4, h⟩ | ⟨g4, h⟩
    · refine ls_cT rfl g4 ?_
      refine ls_skip ?_
      refine hK2 _ (ls_keep [(0, dL ci64 a0), (1, dL ci64 a1), (5, nI y1)] ⟨kr, kr, kr, trivial⟩ rfl ?_)
      refine ls_seq_k fun K5 hK5 => ?_
      refine ls_blk ?_
      refine ls_rd tbOk mixed (by kernel_rfl) ?_
      refine evd rfl rfl (ev_mv (c := dL ci64 a0) rfl rfl rfl (evd rfl rfl (ev_mv (c := nI y1) rfl rfl rfl (?_))))
      obtain ⟨e6, g7, h⟩ := ob_some h
      refine evd rfl rfl (ev_ia rfl rfl rfl ⟨(geti_some g7).1, (geti_some g7).2.1⟩ (evd rfl rfl (ev_ldE (i := y1) (n := 1) (off := 0) (v := nI e6) rfl rfl zci64 g7 rfl (nb rfl) rfl (evd rfl rfl (ev_mv (c := dL ci64 a1) rfl rfl rfl (evd rfl rfl (ev_mv (c := nI y1) rfl rfl rfl (?_))))))))
      obtain ⟨e8, g9, h⟩ := ob_some h
      refine evd rfl rfl (ev_ia rfl rfl rfl ⟨(geti_some g9).1, (geti_some g9).2.1⟩ (evd rfl rfl (ev_ldE (i := y1) (n := 1) (off := 0) (v := nI e8) rfl rfl zci64 g9 rfl (nb rfl) rfl (evd rfl rfl (ev_bin (c1 := nI e6) (c2 := nI e8) rfl rfl rfl (evdn ?_))))))
      refine ls_keep [(0, dL ci64 a0), (1, dL ci64 a1), (5, nI y1), (26, .bool (e6 != e8))] ⟨kr, kr, kr, kr, trivial⟩ rfl ?_
      rcases cond_some h with ⟨g10, h⟩ | ⟨g10, h⟩
      · refine ls_cT rfl g10 ?_
        refine ls_rd tbOk mixed (by kernel_rfl) ?_
        refine evd rfl rfl (ev_mv (c := dL ci64 a0) rfl rfl rfl (evd rfl rfl (ev_mv (c := nI y1) rfl rfl rfl (?_))))
        obtain ⟨e11, g12, h⟩ := ob_some h
        refine evd rfl rfl (ev_ia rfl rfl rfl ⟨(geti_some g12).1, (geti_some g12).2.1⟩ (evd rfl rfl (ev_ldE (i := y1) (n := 1) (off := 0) (v := nI e11) rfl rfl zci64 g12 rfl (nb rfl) rfl (evd rfl rfl (ev_mv (c := dL ci64 a1) rfl rfl rfl (evd rfl rfl (ev_mv (c := nI y1) rfl rfl rfl (?_))))))))
        obtain ⟨e13, g14, h⟩ := ob_some h
        refine evd rfl rfl (ev_ia rfl rfl rfl ⟨(geti_some g14).1, (geti_some g14).2.1⟩ (evd rfl rfl (ev_ldE (i := y1) (n := 1) (off := 0) (v := nI e13) rfl rfl zci64 g14 rfl (nb rfl) rfl (?_))))
        obtain ⟨v15, g16, h⟩ := ob_some h
        refine evd rfl rfl (ev_call (era rfl rfl (era rfl rfl eran)) (impl_compareInts_s g16) (evd rfl rfl (ev_as (c := nI v15) rfl rfl rfl (evdn ?_))))
        refine ls_keep [(4, nI v15)] ⟨kr, trivial⟩ rfl ?_
        refine ls_ret ?_
        have q0 := (Option.some.inj h).symm
        have r0 := hr1
        rw [q0] at r0
        have hr := Option.some.inj r0
        rw [← hr]
        exact ⟨.inl rfl, rfl⟩
      · refine ls_cF rfl g10 ?_
        refine ls_skip ?_
        refine hK5 _ (ls_keep [(0, dL ci64 a0), (1, dL ci64 a1), (5, nI y1)] ⟨kr, kr, kr, trivial⟩ rfl ?_)
        refine ls_rgn tbOk ?_
        refine evs (ev_mv (c := nI y1) rfl rfl rfl (evs (ev_bin (c1 := nI y1) (c2 := nI 1) rfl rfl rfl (evs (ev_as (c := nI (IntKind.i64.wrap (y1 + 1))) rfl rfl rfl (evn ?_))))))
        exact hN _ (IntKind.i64.wrap (y1 + 1)) h ⟨kr, kr, kr, trivial⟩
    · refine ls_cF rfl g4 ?_
      refine ls_exit ?_
      have q0 := (Option.some.inj h).symm
      have r0 := hr1
      rw [q0] at r0
      exact kXimpl_CompareRows_B1 () r0 _ ⟨kr, kr, trivial⟩
  · refine evs (ev_gs rfl rfl (isb_F g3) (evs (ev_gs rfl rfl (isb_F g3) (evs (ev_gs rfl rfl (isb_F g3) (evs (ev_gs rfl rfl (isb_F g3) (evs (ev_pkF (c1 := .bool false) rfl g3 rfl rfl (evn ?_))))))))))
    refine ls_keep [(0, dL ci64 a0), (1, dL ci64 a1), (5, nI y1), (15, .bool false)] ⟨kr, kr, kr, kr, trivial⟩ rfl ?_
    refine ls_cF rfl rfl ?_
    refine ls_exit ?_
    have q0 := (Option.some.inj h).symm
    have r0 := hr1
    rw [q0] at r0
    exact kXimpl_CompareRows_B1 () r0 _ ⟨kr, kr, trivial⟩
def impl_AreValidValues_B1 (a0 : List Int) (rec : Int → Option (Sum (Unit) (Bool))) (y1 : Int) : Option (Sum (Unit) (Bool)) := cond (decide (y1 < (List.length a0 : Int))) (obind (geti a0 y1) fun e5 => obind (impl_within e5 0 99) fun v7 => cond (!v7) (some (.inr false)) (rec (IntKind.i64.wrap (y1 + 1)))) (some (.inl ()))
def impl_AreValidValues (a0 : List Int) : Option (Bool) := obind (loopF (impl_AreValidValues_B1 a0) fz 0) fun o1 => (match o1 with
  | .inl _ => (some true)
  | .inr r => some r)
theorem impl_AreValidValues_s {a0 : List Int} {r : Bool} (h : impl_AreValidValues a0 = some r) : SoundAt Try.prog 258 [dL ci64 a0] (.bool r) := by
  unfold impl_AreValidValues at h
  refine sound_lit tbOk lit258 (nb rfl) rfl ?_
  unfold c258
  refine ls_keep [(0, dL ci64 a0)] ⟨kr, trivial⟩ rfl ?_
  refine ls_rs tbOk ?_
  refine evs (ev_ac rfl nofun rfl (evn ?_))
  refine ls_keep [(0, dL ci64 a0)] ⟨kr, trivial⟩ rfl ?_
  refine ls_seq_k fun K1 hK1 => ?_
  refine ls_rs tbOk ?_
  refine evs (ev_mv (c := dL ci64 a0) rfl rfl rfl (evs (ev_len (c1 := dL ci64 a0) rfl rfl rfl (evs (ev_mc rfl rfl (evn ?_))))))
  refine ls_keep [(5, dL ci64 a0), (6, nI (List.length a0 : Int)), (7, nI 0)] ⟨kr, kr, kr, trivial⟩ rfl ?_
  obtain ⟨o1, hl, hr1⟩ := ob_some h
  clear h
  have kXimpl_AreValidValues_B1 : ∀ (_ : Unit), (some true) = some r → ∀ σ' : PS, okK σ' [] → K1 σ' := by
    intro _ h σ' hk
    refine hK1 _ (ls_keep [] hk rfl ?_)
    refine ls_rs tbOk ?_
    refine evs (ev_ac rfl nofun rfl (evn ?_))
    refine ls_keep [(2, .bool true)] ⟨kr, trivial⟩ rfl ?_
    refine ls_ret ?_
    have hr := Option.some.inj h
    rw [← hr]
    exact ⟨.inl rfl, rfl⟩
  refine ls_rec (fun (y1 : Int) => [(5, dL ci64 a0), (6, nI (List.length a0 : Int)), (7, nI y1)]) (impl_AreValidValues_B1 a0) fz 0 o1 hl ⟨kr, kr, kr, trivial⟩ (fun _ => rfl) ?_
  rintro m y1 N h hN
  unfold impl_AreValidValues_B1 at h
  refine ls_rs tbOk ?_
  refine evs (ev_bin (c1 := nI y1) (c2 := nI (List.length a0 : Int)) rfl rfl rfl (evn ?_))
  refine ls_keep [(5, dL ci64 a0), (6, nI (List.length a0 : Int)), (7, nI y1), (8, .bool (decide (y1 < (List.length a0 : Int))))] ⟨kr, kr, kr, kr, trivial⟩ rfl ?_
  refine ls_seq_k fun K2 hK2 => ?_
  rcases cond_some h with ⟨g3, h⟩ | ⟨g3, h⟩
  · refine ls_cT rfl g3 ?_
    refine ls_skip ?_
    refine hK2 _ (ls_keep [(5, dL ci64 a0), (6, nI (List.length a0 : Int)), (7, nI y1)] ⟨kr, kr, kr, trivial⟩ rfl ?_)
    refine ls_seq_k fun K4 hK4 => ?_
    refine ls_blk ?_
    refine ls_rs tbOk ?_
    obtain ⟨e5, g6, h⟩ := ob_some h
    refine evs (ev_ia rfl rfl rfl ⟨(geti_some g6).1, (geti_some g6).2.1⟩ (evs (ev_ldE (i := y1) (n := 1) (off := 0) (v := nI e5) rfl rfl zci64 g6 rfl (nb rfl) rfl (evs (ev_as (c := nI e5) rfl rfl rfl (evn ?_))))))
    refine ls_keep [(4, nI e5), (5, dL ci64 a0), (6, nI (List.length a0 : Int)), (7, nI y1)] ⟨kr, kr, kr, kr, trivial⟩ rfl ?_
    refine ls_rs tbOk ?_
    refine evs (ev_mv (c := nI e5) rfl rfl rfl (?_))
    obtain ⟨v7, g8, h⟩ := ob_some h
    refine evs (ev_call (era rfl rfl (era rfl rfl (era rfl rfl eran))) (impl_within_s g8) (evs (ev_un (c1 := .bool v7) rfl trivial (evn ?_))))
    refine ls_keep [(5, dL ci64 a0), (6, nI (List.length a0 : Int)), (7, nI y1), (13, .bool (!v7))] ⟨kr, kr, kr, kr, trivial⟩ rfl ?_
    rcases cond_some h with ⟨g9, h⟩ | ⟨g9, h⟩
    · refine ls_cT rfl g9 ?_
      refine ls_rs tbOk ?_
      refine evs (ev_ac rfl nofun rfl (evn ?_))
      refine ls_keep [(2, .bool false)] ⟨kr, trivial⟩ rfl ?_
      refine ls_ret ?_
      have q0 := (Option.some.inj h).symm
      have r0 := hr1
      rw [q0] at r0
      have hr := Option.some.inj r0
      rw [← hr]
      exact ⟨.inl rfl, rfl⟩
    · refine ls_cF rfl g9 ?_
      refine ls_skip ?_
      refine hK4 _ (ls_keep [(5, dL ci64 a0), (6, nI (List.length a0 : Int)), (7, nI y1)] ⟨kr, kr, kr, trivial⟩ rfl ?_)
      refine ls_rgn tbOk ?_
      refine evs (ev_bin (c1 := nI y1) (c2 := nI 1) rfl rfl rfl (evs (ev_mv (c := nI (IntKind.i64.wrap (y1 + 1))) rfl rfl rfl (evn ?_))))
      exact hN _ (IntKind.i64.wrap (y1 + 1)) h ⟨kr, kr, kr, trivial⟩
  · refine ls_cF rfl g3 ?_
    refine ls_exit ?_
    have q0 := (Option.some.inj h).symm
    have r0 := hr1
    rw [q0] at r0
    exact kXimpl_AreValidValues_B1 () r0 _ trivial
def impl_rowsValid_J2 (rec : Int → Option (Sum (Unit) (Bool))) (y1 : Int) (x13 : Bool) : Option (Sum (Unit) (Bool)) := cond x13 (some (.inr false)) (rec (IntKind.i64.wrap (y1 + 1)))
def impl_rowsValid_B1 (a0 : Int) (a1 : List (List Int)) (rec : Int → Option (Sum (Unit) (Bool))) (y1 : Int) : Option (Sum (Unit) (Bool)) := cond (decide (y1 < (List.length a1 : Int))) (obind (geti a1 y1) fun e10 => cond ((List.length e10 : Int) != a0) (impl_rowsValid_J2 rec y1 true) (obind (impl_AreValidValues e10) fun v16 => cond (!v16) (impl_rowsValid_J2 rec y1 true) (cond (decide (0 < y1)) (obind (geti a1 (IntKind.i64.wrap (y1 - 1))) fun e20 => obind (impl_CompareRows e20 e10) fun v22 => impl_rowsValid_J2 rec y1 (decide (0 ≤ v22))) (impl_rowsValid_J2 rec y1 false)))) (some (.inl ()))
def impl_rowsValid (a0 : Int) (a1 : List (List Int)) : Option (Bool) := obind (impl_within a0 0 5) fun v2 => cond (!v2) (some false) (cond (decide (4000 < (List.length a1 : Int))) (some false) (obind (loopF (impl_rowsValid_B1 a0 a1) fz 0) fun o1 => (match o1 with
  | .inl _ => (some true)
  | .inr r => some r)))
theorem impl_rowsValid_s {a0 : Int} {a1 : List (List Int)} {r : Bool} (h : impl_rowsValid a0 a1 = some r) : SoundAt Try.prog 244 [nI a0, dL c25_d a1] (.bool r) := by
  unfold impl_rowsValid at h
  refine sound_lit tbOk lit244 (nb rfl) rfl ?_
  unfold c244
  refine ls_keep [(0, nI a0), (1, dL c25_d a1)] ⟨kr, kr, trivial⟩ rfl ?_
  refine ls_rs tbOk ?_
  refine evs (ev_ac rfl nofun rfl (evn ?_))
  refine ls_keep [(0, nI a0), (1, dL c25_d a1)] ⟨kr, kr, trivial⟩ rfl ?_
  refine ls_seq_k fun K1 hK1 => ?_
  refine ls_rs tbOk ?_
  refine evs (ev_mv (c := nI a0) rfl rfl rfl (?_))
  obtain ⟨v2, g3, h⟩ := ob_some h
  refine evs (ev_call (era rfl rfl (era rfl rfl (era rfl rfl eran))) (impl_within_s g3) (evs (ev_un (c1 := .bool v2) rfl trivial (evs (ev_mv (c := .bool (!v2)) rfl rfl rfl (?_))))))
  rcases cond_some h with ⟨g4, h⟩ | ⟨g4, h⟩
  · refine evs (ev_gs rfl rfl (isb_T g4) (evs (ev_gs rfl rfl (isb_T g4) (evs (ev_gs rfl rfl (isb_T g4) (evs (ev_pkT (c1 := .bool true) rfl g4 rfl rfl (evn ?_))))))))
    refine ls_keep [(0, nI a0), (1, dL c25_d a1), (14, .bool true)] ⟨kr, kr, kr, trivial⟩ rfl ?_
    refine ls_cT rfl rfl ?_
    refine ls_rs tbOk ?_
    refine evs (ev_ac rfl nofun rfl (evn ?_))
    refine ls_keep [(4, .bool false)] ⟨kr, trivial⟩ rfl ?_
    refine ls_ret ?_
    have hr := Option.some.inj h
    rw [← hr]
    exact ⟨.inl rfl, rfl⟩
  · refine evs (ev_gr rfl (congrArg V.bool g4) (ev_mv (c := dL c25_d a1) rfl rfl rfl (evs (ev_gr rfl (congrArg V.bool g4) (ev_len (c1 := dL c25_d a1) rfl rfl rfl (evs (ev_gr rfl (congrArg V.bool g4) (ev_bin (c1 := nI (List.length a1 : Int)) (c2 := nI 4000) rfl rfl rfl (evs (ev_pkF (c1 := .bool (decide (4000 < (List.length a1 : Int)))) rfl g4 rfl rfl (evn ?_)))))))))))
    refine ls_keep [(0, nI a0), (1, dL c25_d a1), (14, .bool (decide (4000 < (List.length a1 : Int))))] ⟨kr, kr, kr, trivial⟩ rfl ?_
    rcases cond_some h with ⟨g5, h⟩ | ⟨g5, h⟩
    · refine ls_cT rfl g5 ?_
      refine ls_rs tbOk ?_
      refine evs (ev_ac rfl nofun rfl (evn ?_))
      refine ls_keep [(4, .bool false)] ⟨kr, trivial⟩ rfl ?_
      refine ls_ret ?_
      have hr := Option.some.inj h
      rw [← hr]
      exact ⟨.inl rfl, rfl⟩
    · refine ls_cF rfl g5 ?_
      refine ls_skip ?_
      refine hK1 _ (ls_keep [(0, nI a0), (1, dL c25_d a1)] ⟨kr, kr, trivial⟩ rfl ?_)
      refine ls_seq_k fun K6 hK6 => ?_
      refine ls_rs tbOk ?_
      refine evs (ev_mv (c := dL c25_d a1) rfl rfl rfl (evs (ev_len (c1 := dL c25_d a1) rfl rfl rfl (evs (ev_mc rfl rfl (evn ?_))))))
      refine ls_keep [(0, nI a0), (1, dL c25_d a1), (15, dL c25_d a1), (16, nI (List.length a1 : Int)), (17, nI 0)] ⟨kr, kr, kr, kr, kr, trivial⟩ rfl ?_
      obtain ⟨o1, hl, hr1⟩ := ob_some h
      clear h
      have kXimpl_rowsValid_B1 : ∀ (_ : Unit), (some true) = some r → ∀ σ' : PS, okK σ' [] → K6 σ' := by
        intro _ h σ' hk
        refine hK6 _ (ls_keep [] hk rfl ?_)
        refine ls_rs tbOk ?_
        refine evs (ev_ac rfl nofun rfl (evn ?_))
        refine ls_keep [(4, .bool true)] ⟨kr, trivial⟩ rfl ?_
        refine ls_ret ?_
        have hr := Option.some.inj h
        rw [← hr]
        exact ⟨.inl rfl, rfl⟩
      refine ls_rec (fun (y1 : Int) => [(0, nI a0), (1, dL c25_d a1), (15, dL c25_d a1), (16, nI (List.length a1 : Int)), (17, nI y1)]) (impl_rowsValid_B1 a0 a1) fz 0 o1 hl ⟨kr, kr, kr, kr, kr, trivial⟩ (fun _ => rfl) ?_
      rintro m y1 N h hN
      unfold impl_rowsValid_B1 at h
      refine ls_rs tbOk ?_
      refine evs (ev_bin (c1 := nI y1) (c2 := nI (List.length a1 : Int)) rfl rfl rfl (evn ?_))
      refine ls_keep [(0, nI a0), (1, dL c25_d a1), (15, dL c25_d a1), (16, nI (List.length a1 : Int)), (17, nI y1), (18, .bool (decide (y1 < (List.length a1 : Int))))] ⟨kr, kr, kr, kr, kr, kr, trivial⟩ rfl ?_
      refine ls_seq_k fun K7 hK7 => ?_
      rcases cond_some h with ⟨g8, h⟩ | ⟨g8, h⟩
      · refine ls_cT rfl g8 ?_
        refine ls_skip ?_
        refine hK7 _ (ls_keep [(0, nI a0), (1, dL c25_d a1), (15, dL c25_d a1), (16, nI (List.length a1 : Int)), (17, nI y1)] ⟨kr, kr, kr, kr, kr, trivial⟩ rfl ?_)
        refine ls_seq_k fun K9 hK9 => ?_
        refine ls_blk ?_
        refine ls_rs tbOk ?_
        refine evs (ev_mv (c := nI y1) rfl rfl rfl (?_))
        obtain ⟨e10, g11, h⟩ := ob_some h
        refine evs (ev_ia rfl rfl rfl ⟨(geti_some g11).1, (geti_some g11).2.1⟩ (evs (ev_ldEt (i := y1) (n := 1) (off := 0) (v := dL ci64 e10) rfl rfl zc25_d g11 rfl (nb rfl) rfl (evs (ev_as (c := nI y1) rfl rfl rfl (evs (ev_as (c := dL ci64 e10) rfl rfl rfl (evn ?_))))))))
        refine ls_keep [(0, nI a0), (1, dL c25_d a1), (5, nI y1), (6, dL ci64 e10), (15, dL c25_d a1), (16, nI (List.length a1 : Int)), (17, nI y1)] ⟨kr, kr, kr, kr, kr, kr, kr, trivial⟩ rfl ?_
        refine ls_rs_k tbOk fun K12 hK12 => ?_
        have kimpl_rowsValid_J2 : ∀ (x13 : Bool), impl_rowsValid_J2 (loopF (impl_rowsValid_B1 a0 a1) m) y1 x13 = some o1 → ∀ σ' : PS, okK σ' [(0, nI a0), (1, dL c25_d a1), (15, dL c25_d a1), (16, nI (List.length a1 : Int)), (17, nI y1), (44, .bool x13)] → K12 σ' := by
          intro x13 h σ' hk
          unfold impl_rowsValid_J2 at h
          refine hK12 _ (ls_keep [(0, nI a0), (1, dL c25_d a1), (15, dL c25_d a1), (16, nI (List.length a1 : Int)), (17, nI y1), (44, .bool x13)] hk rfl ?_)
          rcases cond_some h with ⟨g14, h⟩ | ⟨g14, h⟩
          · refine ls_cT rfl g14 ?_
            refine ls_rs tbOk ?_
            refine evs (ev_ac rfl nofun rfl (evn ?_))
            refine ls_keep [(4, .bool false)] ⟨kr, trivial⟩ rfl ?_
            refine ls_ret ?_
            have q0 := (Option.some.inj h).symm
            have r0 := hr1
            rw [q0] at r0
            have hr := Option.some.inj r0
            rw [← hr]
            exact ⟨.inl rfl, rfl⟩
          · refine ls_cF rfl g14 ?_
            refine ls_skip ?_
            refine hK9 _ (ls_keep [(0, nI a0), (1, dL c25_d a1), (15, dL c25_d a1), (16, nI (List.length a1 : Int)), (17, nI y1)] ⟨kr, kr, kr, kr, kr, trivial⟩ rfl ?_)
            refine ls_rgn tbOk ?_
            refine evs (ev_bin (c1 := nI y1) (c2 := nI 1) rfl rfl rfl (evs (ev_mv (c := nI (IntKind.i64.wrap (y1 + 1))) rfl rfl rfl (evn ?_))))
            exact hN _ (IntKind.i64.wrap (y1 + 1)) h ⟨kr, kr, kr, kr, kr, trivial⟩
        refine evs (ev_mv (c := dL ci64 e10) rfl rfl rfl (evs (ev_len (c1 := dL ci64 e10) rfl rfl rfl (evs (ev_mv (c := nI a0) rfl rfl rfl (evs (ev_bin (c1 := nI (List.length e10 : Int)) (c2 := nI a0) rfl rfl rfl (evs (ev_mv (c := .bool ((List.length e10 : Int) != a0)) rfl rfl rfl (?_))))))))))
        rcases cond_some h with ⟨g15, h⟩ | ⟨g15, h⟩
        · refine evs (ev_gs rfl rfl (isb_T g15) (evs (ev_gs rfl rfl (isb_T g15) (evs (ev_gs rfl rfl (isb_T g15) (evs (ev_pkT (c1 := .bool true) rfl g15 rfl rfl (evs (ev_mv (c := .bool true) rfl rfl rfl (evs (ev_gs rfl rfl rfl (evs (ev_gs rfl rfl rfl (evs (ev_gs rfl rfl rfl (evs (ev_gs rfl rfl rfl (evs (ev_gs rfl rfl rfl (evs (ev_gs rfl rfl rfl (evs (ev_gs rfl rfl rfl (evs (ev_gs rfl rfl rfl (evs (ev_gs rfl rfl rfl (evs (ev_gs rfl rfl rfl (evs (ev_gs rfl rfl rfl (evs (ev_gs rfl rfl rfl (evs (ev_pkT (c1 := .bool true) rfl rfl rfl rfl (evn ?_))))))))))))))))))))))))))))))))))))
          exact kimpl_rowsValid_J2 true h _ ⟨kr, kr, kr, kr, kr, kr, trivial⟩
        · refine evs (ev_gr rfl (congrArg V.bool g15) (ev_mv (c := dL ci64 e10) rfl rfl rfl (?_)))
          obtain ⟨v16, g17, h⟩ := ob_some h
          refine evs (ev_gr rfl (congrArg V.bool g15) (ev_call (era rfl (erD eci64 _) eran) (impl_AreValidValues_s g17) (evs (ev_gr rfl (congrArg V.bool g15) (ev_un (c1 := .bool v16) rfl trivial (evs (ev_pkF (c1 := .bool (!v16)) rfl g15 rfl rfl (evs (ev_mv (c := .bool (!v16)) rfl rfl rfl (?_))))))))))
          rcases cond_some h with ⟨g18, h⟩ | ⟨g18, h⟩
          · refine evs (ev_gs rfl rfl (isb_T g18) (evs (ev_gs rfl rfl (isb_T g18) (evs (ev_gs rfl rfl (isb_T g18) (evs (ev_gs rfl rfl rfl (evs (ev_gs rfl rfl rfl (evs (ev_gs rfl rfl rfl (evs (ev_gs rfl rfl rfl (evs (ev_gs rfl rfl rfl (evs (ev_gs rfl rfl rfl (evs (ev_gs rfl rfl rfl (evs (ev_gs rfl rfl rfl (evs (ev_gs rfl rfl (isb_T g18) (evs (ev_pkT (c1 := .bool true) rfl g18 rfl rfl (evn ?_))))))))))))))))))))))))))
            exact kimpl_rowsValid_J2 true h _ ⟨kr, kr, kr, kr, kr, kr, trivial⟩
          · refine evs (ev_gr rfl (congrArg V.bool g18) (ev_mv (c := nI y1) rfl rfl rfl (evs (ev_gr rfl (congrArg V.bool g18) (ev_bin (c1 := nI y1) (c2 := nI 0) rfl rfl rfl (evs (ev_gr rfl (congrArg V.bool g18) (ev_mv (c := .bool (decide (0 < y1))) rfl rfl rfl (?_)))))))))
            rcases cond_some h with ⟨g19, h⟩ | ⟨g19, h⟩
            · refine evs (ev_gr rfl (congrArg V.bool g19) (ev_mv (c := dL c25_d a1) rfl rfl rfl (evs (ev_gr rfl (congrArg V.bool g19) (ev_mv (c := nI y1) rfl rfl rfl (evs (ev_gr rfl (congrArg V.bool g19) (ev_bin (c1 := nI y1) (c2 := nI 1) rfl rfl rfl (?_)))))))))
              obtain ⟨e20, g21, h⟩ := ob_some h
              refine evs (ev_gr rfl (congrArg V.bool g19) (ev_ia rfl rfl rfl ⟨(geti_some g21).1, (geti_some g21).2.1⟩ (evs (ev_gr rfl (congrArg V.bool g19) (ev_ldE (i := (IntKind.i64.wrap (y1 - 1))) (n := 1) (off := 0) (v := dL ci64 e20) rfl rfl zc25_d g21 rfl (nb rfl) rfl (evs (ev_gr rfl (congrArg V.bool g19) (ev_mv (c := dL ci64 e10) rfl rfl rfl (?_)))))))))
              obtain ⟨v22, g23, h⟩ := ob_some h
              refine evs (ev_gr rfl (congrArg V.bool g19) (ev_call (era rfl (erD eci64 _) (era rfl (erD eci64 _) eran)) (impl_CompareRows_s g23) (evs (ev_gr rfl (congrArg V.bool g19) (ev_bin (c1 := nI v22) (c2 := nI 0) rfl rfl rfl (evs (ev_gr rfl (congrArg V.bool g18) (ev_pkT (c1 := .bool (decide (0 ≤ v22))) rfl g19 rfl rfl (evs (ev_pkF (c1 := .bool (decide (0 ≤ v22))) rfl g18 rfl rfl (evn ?_)))))))))))
              exact kimpl_rowsValid_J2 (decide (0 ≤ v22)) h _ ⟨kr, kr, kr, kr, kr, kr, trivial⟩
            · refine evs (ev_gs rfl rfl (isb_F g19) (evs (ev_gs rfl rfl (isb_F g19) (evs (ev_gs rfl rfl (isb_F g19) (evs (ev_gs rfl rfl (isb_F g19) (evs (ev_gs rfl rfl (isb_F g19) (evs (ev_gs rfl rfl (isb_F g19) (evs (ev_gs rfl rfl (isb_F g19) (evs (ev_gs rfl rfl (isb_F g19) (evs (ev_gr rfl (congrArg V.bool g18) (ev_pkF (c1 := .bool false) rfl g19 rfl rfl (evs (ev_pkF (c1 := .bool false) rfl g18 rfl rfl (evn ?_)))))))))))))))))))))
              exact kimpl_rowsValid_J2 false h _ ⟨kr, kr, kr, kr, kr, kr, trivial⟩
      · refine ls_cF rfl g8 ?_
        refine ls_exit ?_
        have q0 := (Option.some.inj h).symm
        have r0 := hr1
        rw [q0] at r0
        exact kXimpl_rowsValid_B1 () r0 _ trivial
def impl_IsValidRelation (a0 : Y127) : Option (Bool) := obind (impl_rowsValid a0.1 a0.2) fun v1 => some v1
theorem impl_IsValidRelation_s {a0 : Y127} {r : Bool} (h : impl_IsValidRelation a0 = some r) : SoundAt Try.prog 219 [.agg (c128_dd a0)] (.bool r) := by
  unfold impl_IsValidRelation at h
  refine sound_lit tbOk lit219 (nb rfl) rfl ?_
  unfold c219
  refine ls_keep [(0, .agg (c128_dd a0))] ⟨kr, trivial⟩ rfl ?_
  refine ls_rs tbOk ?_
  refine evs (ev_bx (c1 := .agg (c128_dd a0)) rfl rfl rfl (evs (ev_ac rfl nofun rfl (evn ?_))))
  refine ls_keep [(1, .box [nI a0.1, dL c25_d a0.2])] ⟨kr, trivial⟩ rfl ?_
  refine ls_rs tbOk ?_
  refine evs (ev_fa (c1 := .cref 1 0) (v := .cref 1 0) rfl rfl rfl ⟨_, rfl⟩ rfl (evs (ev_ldB (off := 0) (v := nI a0.1) rfl rfl rfl rfl (nb rfl) rfl (evs (ev_fa (c1 := .cref 1 0) (v := .cref 1 1) rfl rfl rfl ⟨_, rfl⟩ rfl (evs (ev_ldB (off := 1) (v := dL c25_d a0.2) rfl rfl rfl rfl (nb rfl) rfl (?_))))))))
  obtain ⟨v1, g2, h⟩ := ob_some h
  refine evs (ev_call (era rfl rfl (era rfl (erD ec25_d _) eran)) (impl_rowsValid_s g2) (evs (ev_as (c := .bool v1) rfl rfl rfl (evn ?_))))
  refine ls_keep [(2, .bool v1)] ⟨kr, trivial⟩ rfl ?_
  refine ls_ret ?_
  have hr := Option.some.inj h
  rw [← hr]
  exact ⟨.inl rfl, rfl⟩
def impl_IsValidDatabase_J2 (rec : Int → Option (Sum (Unit) (Bool))) (y1 : Int) (x10 : Bool) : Option (Sum (Unit) (Bool)) := cond x10 (some (.inr false)) (rec (IntKind.i64.wrap (y1 + 1)))
def impl_IsValidDatabase_B1 (a0 : List Y207) (rec : Int → Option (Sum (Unit) (Bool))) (y1 : Int) : Option (Sum (Unit) (Bool)) := cond (decide (y1 < (List.length a0 : Int))) (obind (geti a0 y1) fun e7 => obind (impl_IsValidName e7.1) fun v12 => cond (!v12) (impl_IsValidDatabase_J2 rec y1 true) (cond (decide (0 < y1)) (obind (geti a0 (IntKind.i64.wrap (y1 - 1))) fun e16 => cond (!Op.bytesLess e16.1 e7.1) (impl_IsValidDatabase_J2 rec y1 true) (obind (impl_IsValidRelation e7.2) fun v19 => cond (!v19) (impl_IsValidDatabase_J2 rec y1 true) (cond (decide (e7.2.1 < 1)) (impl_IsValidDatabase_J2 rec y1 true) (impl_IsValidDatabase_J2 rec y1 (decide (16 < (List.length e7.2.2 : Int))))))) (obind (impl_IsValidRelation e7.2) fun v23 => cond (!v23) (impl_IsValidDatabase_J2 rec y1 true) (cond (decide (e7.2.1 < 1)) (impl_IsValidDatabase_J2 rec y1 true) (impl_IsValidDatabase_J2 rec y1 (decide (16 < (List.length e7.2.2 : Int)))))))) (some (.inl ()))
def impl_IsValidDatabase (a0 : List Y207) : Option (Bool) := cond (decide (6 < (List.length a0 : Int))) (some false) (obind (loopF (impl_IsValidDatabase_B1 a0) fz 0) fun o1 => (match o1 with
  | .inl _ => (some true)
  | .inr r => some r))
theorem impl_IsValidDatabase_s {a0 : List Y207} {r : Bool} (h : impl_IsValidDatabase a0 = some r) : SoundAt Try.prog 136 [.agg [dL c208_dd a0]] (.bool r) := by
  unfold impl_IsValidDatabase at h
  refine sound_lit tbOk lit136 (nb rfl) rfl ?_
  unfold c136
  refine ls_keep [(0, .agg [dL c208_dd a0])] ⟨kr, trivial⟩ rfl ?_
  refine ls_rs tbOk ?_
  refine evs (ev_bx (c1 := .agg [dL c208_dd a0]) rfl rfl rfl (evs (ev_ac rfl nofun rfl (evn ?_))))
  refine ls_keep [(1, .box [dL c208_dd a0])] ⟨kr, trivial⟩ rfl ?_
  refine ls_seq_k fun K1 hK1 => ?_
  refine ls_rs tbOk ?_
  refine evs (ev_fa (c1 := .cref 1 0) (v := .cref 1 0) rfl rfl rfl ⟨_, rfl⟩ rfl (evs (ev_ldB (off := 0) (v := dL c208_dd a0) rfl rfl rfl rfl (nb rfl) rfl (evs (ev_len (c1 := dL c208_dd a0) rfl rfl rfl (evs (ev_bin (c1 := nI (List.length a0 : Int)) (c2 := nI 6) rfl rfl rfl (evn ?_))))))))
  refine ls_keep [(1, .box [dL c208_dd a0]), (8, .bool (decide (6 < (List.length a0 : Int))))] ⟨kr, kr, trivial⟩ rfl ?_
  rcases cond_some h with ⟨g2, h⟩ | ⟨g2, h⟩
  · refine ls_cT rfl g2 ?_
    refine ls_rs tbOk ?_
    refine evs (ev_ac rfl nofun rfl (evn ?_))
    refine ls_keep [(2, .bool false)] ⟨kr, trivial⟩ rfl ?_
    refine ls_ret ?_
    have hr := Option.some.inj h
    rw [← hr]
    exact ⟨.inl rfl, rfl⟩
  · refine ls_cF rfl g2 ?_
    refine ls_skip ?_
    refine hK1 _ (ls_keep [(1, .box [dL c208_dd a0])] ⟨kr, trivial⟩ rfl ?_)
    refine ls_seq_k fun K3 hK3 => ?_
    refine ls_rs tbOk ?_
    refine evs (ev_fa (c1 := .cref 1 0) (v := .cref 1 0) rfl rfl rfl ⟨_, rfl⟩ rfl (evs (ev_ldB (off := 0) (v := dL c208_dd a0) rfl rfl rfl rfl (nb rfl) rfl (evs (ev_len (c1 := dL c208_dd a0) rfl rfl rfl (evs (ev_mc rfl rfl (evn ?_))))))))
    refine ls_keep [(1, .box [dL c208_dd a0]), (10, dL c208_dd a0), (11, nI (List.length a0 : Int)), (12, nI 0)] ⟨kr, kr, kr, kr, trivial⟩ rfl ?_
    obtain ⟨o1, hl, hr1⟩ := ob_some h
    clear h
    have kXimpl_IsValidDatabase_B1 : ∀ (_ : Unit), (some true) = some r → ∀ σ' : PS, okK σ' [] → K3 σ' := by
      intro _ h σ' hk
      refine hK3 _ (ls_keep [] hk rfl ?_)
      refine ls_rs tbOk ?_
      refine evs (ev_ac rfl nofun rfl (evn ?_))
      refine ls_keep [(2, .bool true)] ⟨kr, trivial⟩ rfl ?_
      refine ls_ret ?_
      have hr := Option.some.inj h
      rw [← hr]
      exact ⟨.inl rfl, rfl⟩
    refine ls_rec (fun (y1 : Int) => [(1, .box [dL c208_dd a0]), (10, dL c208_dd a0), (11, nI (List.length a0 : Int)), (12, nI y1)]) (impl_IsValidDatabase_B1 a0) fz 0 o1 hl ⟨kr, kr, kr, kr, trivial⟩ (fun _ => rfl) ?_
    rintro m y1 N h hN
    unfold impl_IsValidDatabase_B1 at h
    refine ls_rs tbOk ?_
    refine evs (ev_bin (c1 := nI y1) (c2 := nI (List.length a0 : Int)) rfl rfl rfl (evn ?_))
    refine ls_keep [(1, .box [dL c208_dd a0]), (10, dL c208_dd a0), (11, nI (List.length a0 : Int)), (12, nI y1), (13, .bool (decide (y1 < (List.length a0 : Int))))] ⟨kr, kr, kr, kr, kr, trivial⟩ rfl ?_
    refine ls_seq_k fun K4 hK4 => ?_
    rcases cond_some h with ⟨g5, h⟩ | ⟨g5, h⟩
    · refine ls_cT rfl g5 ?_
      refine ls_skip ?_
      refine hK4 _ (ls_keep [(1, .box [dL c208_dd a0]), (10, dL c208_dd a0), (11, nI (List.length a0 : Int)), (12, nI y1)] ⟨kr, kr, kr, kr, trivial⟩ rfl ?_)
      refine ls_seq_k fun K6 hK6 => ?_
      refine ls_blk ?_
      refine ls_rs tbOk ?_
      refine evs (ev_mv (c := nI y1) rfl rfl rfl (?_))
      obtain ⟨e7, g8, h⟩ := ob_some h
      refine evs (ev_ia rfl rfl rfl ⟨(geti_some g8).1, (geti_some g8).2.1⟩ (evs (ev_ldEt (i := y1) (n := 3) (off := 0) (v := .agg (c208_dd e7)) rfl rfl zc208_dd g8 rfl (nb rfl) rfl (evs (ev_al rfl rfl (evs (ev_as (c := nI y1) rfl rfl rfl (evs (ev_st (off := 0) (c1 := .agg (c208_dd e7)) (cs' := [.str e7.1, nI e7.2.1, dL c25_d e7.2.2]) rfl rfl rfl rfl rfl rfl (nb rfl) rfl (evn ?_))))))))))
      refine ls_keep [(1, .box [dL c208_dd a0]), (3, nI y1), (4, .box [.str e7.1, nI e7.2.1, dL c25_d e7.2.2]), (10, dL c208_dd a0), (11, nI (List.length a0 : Int)), (12, nI y1)] ⟨kr, kr, kr, kr, kr, kr, trivial⟩ rfl ?_
      refine ls_rd_k tbOk mixed (by kernel_rfl) fun K9 hK9 => ?_
      have kimpl_IsValidDatabase_J2 : ∀ (x10 : Bool), impl_IsValidDatabase_J2 (loopF (impl_IsValidDatabase_B1 a0) m) y1 x10 = some o1 → ∀ σ' : PS, okK σ' [(1, .box [dL c208_dd a0]), (10, dL c208_dd a0), (11, nI (List.length a0 : Int)), (12, nI y1), (55, .bool x10)] → K9 σ' := by
        intro x10 h σ' hk
        unfold impl_IsValidDatabase_J2 at h
        refine hK9 _ (ls_keep [(1, .box [dL c208_dd a0]), (10, dL c208_dd a0), (11, nI (List.length a0 : Int)), (12, nI y1), (55, .bool x10)] hk rfl ?_)
        rcases cond_some h with ⟨g11, h⟩ | ⟨g11, h⟩
        · refine ls_cT rfl g11 ?_
          refine ls_rs tbOk ?_
          refine evs (ev_ac rfl nofun rfl (evn ?_))
          refine ls_keep [(2, .bool false)] ⟨kr, trivial⟩ rfl ?_
          refine ls_ret ?_
          have q0 := (Option.some.inj h).symm
          have r0 := hr1
          rw [q0] at r0
          have hr := Option.some.inj r0
          rw [← hr]
          exact ⟨.inl rfl, rfl⟩
        · refine ls_cF rfl g11 ?_
          refine ls_skip ?_
          refine hK6 _ (ls_keep [(1, .box [dL c208_dd a0]), (10, dL c208_dd a0), (11, nI (List.length a0 : Int)), (12, nI y1)] ⟨kr, kr, kr, kr, trivial⟩ rfl ?_)
          refine ls_rgn tbOk ?_
          refine evs (ev_bin (c1 := nI y1) (c2 := nI 1) rfl rfl rfl (evs (ev_mv (c := nI (IntKind.i64.wrap (y1 + 1))) rfl rfl rfl (evn ?_))))
          exact hN _ (IntKind.i64.wrap (y1 + 1)) h ⟨kr, kr, kr, kr, trivial⟩
      refine evd rfl rfl (ev_fa (c1 := .cref 4 0) (v := .cref 4 0) rfl rfl rfl ⟨_, rfl⟩ rfl (evd rfl rfl (ev_ldB (off := 0) (v := .str e7.1) rfl rfl rfl rfl (nb rfl) rfl (?_))))
      obtain ⟨v12, g13, h⟩ := ob_some h
      refine evd rfl rfl (ev_call (era rfl rfl eran) (impl_IsValidName_s g13) (evd rfl rfl (ev_un (c1 := .bool v12) rfl trivial (evd rfl rfl (ev_mv (c := .bool (!v12)) rfl rfl rfl (?_))))))
      rcases cond_some h with ⟨g14, h⟩ | ⟨g14, h⟩
      · refine evd rfl rfl (ev_gs rfl rfl (isb_T g14) (evd rfl rfl (ev_gs rfl rfl (isb_T g14) (evd rfl rfl (ev_gs rfl rfl (isb_T g14) (evd rfl rfl (ev_gs rfl rfl rfl (evd rfl rfl (ev_gs rfl rfl rfl (evd rfl rfl (ev_gs rfl rfl rfl (evd rfl rfl (ev_gs rfl rfl rfl (evd rfl rfl (ev_gs rfl rfl rfl (evd rfl rfl (ev_gs rfl rfl rfl (evd rfl rfl (ev_gs rfl rfl rfl (evd rfl rfl (ev_gs rfl rfl rfl (evd rfl rfl (ev_gs rfl rfl rfl (evd rfl rfl (ev_gs rfl rfl rfl (evd rfl rfl (ev_gs rfl rfl (isb_T g14) (evd rfl rfl (ev_pkT (c1 := .bool true) rfl g14 rfl rfl (evd rfl rfl (ev_mv (c := .bool true) rfl rfl rfl (evd rfl rfl (ev_gs rfl rfl rfl (evd rfl rfl (ev_gs rfl rfl rfl (evd rfl rfl (ev_gs rfl rfl rfl (evd rfl rfl (ev_gs rfl rfl rfl (evd rfl rfl (ev_pkT (c1 := .bool true) rfl rfl rfl rfl (evd rfl rfl (ev_mv (c := .bool true) rfl rfl rfl (evd rfl rfl (ev_gs rfl rfl rfl (evd rfl rfl (ev_gs rfl rfl rfl (evd rfl rfl (ev_gs rfl rfl rfl (evd rfl rfl (ev_gs rfl rfl rfl (evd rfl rfl (ev_pkT (c1 := .bool true) rfl rfl rfl rfl (evd rfl rfl (ev_mv (c := .bool true) rfl rfl rfl (evd rfl rfl (ev_gs rfl rfl rfl (evd rfl rfl (ev_gs rfl rfl rfl (evd rfl rfl (ev_gs rfl rfl rfl (evd rfl rfl (ev_gs rfl rfl rfl (evd rfl rfl (ev_gs rfl rfl rfl (evd rfl rfl (ev_pkT (c1 := .bool true) rfl rfl rfl rfl (evdn ?_))))))))))))))))))))))))))))))))))))))))))))))))))))))))))))))))))))
        exact kimpl_IsValidDatabase_J2 true h _ ⟨kr, kr, kr, kr, kr, trivial⟩
      · refine evd rfl rfl (ev_gr rfl (congrArg V.bool g14) (ev_mv (c := nI y1) rfl rfl rfl (evd rfl rfl (ev_gr rfl (congrArg V.bool g14) (ev_bin (c1 := nI y1) (c2 := nI 0) rfl rfl rfl (evd rfl rfl (ev_gr rfl (congrArg V.bool g14) (ev_mv (c := .bool (decide (0 < y1))) rfl rfl rfl (?_)))))))))
        rcases cond_some h with ⟨g15, h⟩ | ⟨g15, h⟩
        · refine evd rfl rfl (ev_gr rfl (congrArg V.bool g15) (ev_fa (c1 := .cref 1 0) (v := .cref 1 0) rfl rfl rfl ⟨_, rfl⟩ rfl (evd rfl rfl (ev_gr rfl (congrArg V.bool g15) (ev_ldB (off := 0) (v := dL c208_dd a0) rfl rfl rfl rfl (nb rfl) rfl (evd rfl rfl (ev_gr rfl (congrArg V.bool g15) (ev_mv (c := nI y1) rfl rfl rfl (evd rfl rfl (ev_gr rfl (congrArg V.bool g15) (ev_bin (c1 := nI y1) (c2 := nI 1) rfl rfl rfl (?_))))))))))))
          obtain ⟨e16, g17, h⟩ := ob_some h
          refine evd rfl rfl (ev_gr rfl (congrArg V.bool g15) (ev_ia rfl rfl rfl ⟨(geti_some g17).1, (geti_some g17).2.1⟩ (evd rfl rfl (ev_gr rfl (congrArg V.bool g15) (ev_fa (c1 := .adr (a0.flatMap c208_dd) (Int.toNat (IntKind.i64.wrap (y1 - 1)) * 3)) (v := .adr (a0.flatMap c208_dd) (Int.toNat (IntKind.i64.wrap (y1 - 1)) * 3)) rfl rfl rfl trivial rfl (evd rfl rfl (ev_gr rfl (congrArg V.bool g15) (ev_ldE (i := (IntKind.i64.wrap (y1 - 1))) (n := 3) (off := 0) (v := .str e16.1) rfl rfl zc208_dd g17 rfl (nb rfl) rfl (evd rfl rfl (ev_gr rfl (congrArg V.bool g15) (ev_fa (c1 := .cref 4 0) (v := .cref 4 0) rfl rfl rfl ⟨_, rfl⟩ rfl (evd rfl rfl (ev_gr rfl (congrArg V.bool g15) (ev_ldB (off := 0) (v := .str e7.1) rfl rfl rfl rfl (nb rfl) rfl (evd rfl rfl (ev_gr rfl (congrArg V.bool g15) (ev_bin (c1 := .str e16.1) (c2 := .str e7.1) rfl rfl trivial (evd rfl rfl (ev_gr rfl (congrArg V.bool g14) (ev_pkT (c1 := .bool (!Op.bytesLess e16.1 e7.1)) rfl g15 rfl rfl (evd rfl rfl (ev_pkF (c1 := .bool (!Op.bytesLess e16.1 e7.1)) rfl g14 rfl rfl (evd rfl rfl (ev_mv (c := .bool (!Op.bytesLess e16.1 e7.1)) rfl rfl rfl (?_)))))))))))))))))))))))))
          rcases cond_some h with ⟨g18, h⟩ | ⟨g18, h⟩
          · refine evd rfl rfl (ev_gs rfl rfl (isb_T g18) (evd rfl rfl (ev_gs rfl rfl (isb_T g18) (evd rfl rfl (ev_gs rfl rfl (isb_T g18) (evd rfl rfl (ev_gs rfl rfl (isb_T g18) (evd rfl rfl (ev_pkT (c1 := .bool true) rfl g18 rfl rfl (evd rfl rfl (ev_mv (c := .bool true) rfl rfl rfl (evd rfl rfl (ev_gs rfl rfl rfl (evd rfl rfl (ev_gs rfl rfl rfl (evd rfl rfl (ev_gs rfl rfl rfl (evd rfl rfl (ev_gs rfl rfl rfl (evd rfl rfl (ev_pkT (c1 := .bool true) rfl rfl rfl rfl (evd rfl rfl (ev_mv (c := .bool true) rfl rfl rfl (evd rfl rfl (ev_gs rfl rfl rfl (evd rfl rfl (ev_gs rfl rfl rfl (evd rfl rfl (ev_gs rfl rfl rfl (evd rfl rfl (ev_gs rfl rfl rfl (evd rfl rfl (ev_gs rfl rfl rfl (evd rfl rfl (ev_pkT (c1 := .bool true) rfl rfl rfl rfl (evdn ?_))))))))))))))))))))))))))))))))))))
            exact kimpl_IsValidDatabase_J2 true h _ ⟨kr, kr, kr, kr, kr, trivial⟩
          · refine evd rfl rfl (ev_gr rfl (congrArg V.bool g18) (ev_fa (c1 := .cref 4 0) (v := .cref 4 1) rfl rfl rfl ⟨_, rfl⟩ rfl (evd rfl rfl (ev_gr rfl (congrArg V.bool g18) (ev_ldB (off := 1) (v := .agg (c128_dd e7.2)) rfl rfl rfl rfl (nb rfl) rfl (?_))))))
            obtain ⟨v19, g20, h⟩ := ob_some h
            refine evd rfl rfl (ev_gr rfl (congrArg V.bool g18) (ev_call (era rfl (erg (erc rfl (erc (erD ec25_d _) rfl))) eran) (impl_IsValidRelation_s g20) (evd rfl rfl (ev_gr rfl (congrArg V.bool g18) (ev_un (c1 := .bool v19) rfl trivial (evd rfl rfl (ev_pkF (c1 := .bool (!v19)) rfl g18 rfl rfl (evd rfl rfl (ev_mv (c := .bool (!v19)) rfl rfl rfl (?_))))))))))
            rcases cond_some h with ⟨g21, h⟩ | ⟨g21, h⟩
            · refine evd rfl rfl (ev_gs rfl rfl (isb_T g21) (evd rfl rfl (ev_gs rfl rfl (isb_T g21) (evd rfl rfl (ev_gs rfl rfl (isb_T g21) (evd rfl rfl (ev_gs rfl rfl (isb_T g21) (evd rfl rfl (ev_pkT (c1 := .bool true) rfl g21 rfl rfl (evd rfl rfl (ev_mv (c := .bool true) rfl rfl rfl (evd rfl rfl (ev_gs rfl rfl rfl (evd rfl rfl (ev_gs rfl rfl rfl (evd rfl rfl (ev_gs rfl rfl rfl (evd rfl rfl (ev_gs rfl rfl rfl (evd rfl rfl (ev_gs rfl rfl rfl (evd rfl rfl (ev_pkT (c1 := .bool true) rfl rfl rfl rfl (evdn ?_))))))))))))))))))))))))
              exact kimpl_IsValidDatabase_J2 true h _ ⟨kr, kr, kr, kr, kr, trivial⟩
            · refine evd rfl rfl (ev_gr rfl (congrArg V.bool g21) (ev_fa (c1 := .cref 4 0) (v := .cref 4 1) rfl rfl rfl ⟨_, rfl⟩ rfl (evd rfl rfl (ev_gr rfl (congrArg V.bool g21) (ev_fa (c1 := .cref 4 1) (v := .cref 4 1) rfl rfl rfl ⟨_, rfl⟩ rfl (evd rfl rfl (ev_gr rfl (congrArg V.bool g21) (ev_ldB (off := 1) (v := nI e7.2.1) rfl rfl rfl rfl (nb rfl) rfl (evd rfl rfl (ev_gr rfl (congrArg V.bool g21) (ev_bin (c1 := nI e7.2.1) (c2 := nI 1) rfl rfl rfl (evd rfl rfl (ev_pkF (c1 := .bool (decide (e7.2.1 < 1))) rfl g21 rfl rfl (evd rfl rfl (ev_mv (c := .bool (decide (e7.2.1 < 1))) rfl rfl rfl (?_))))))))))))))))
              rcases cond_some h with ⟨g22, h⟩ | ⟨g22, h⟩
              · refine evd rfl rfl (ev_gs rfl rfl (isb_T g22) (evd rfl rfl (ev_gs rfl rfl (isb_T g22) (evd rfl rfl (ev_gs rfl rfl (isb_T g22) (evd rfl rfl (ev_gs rfl rfl (isb_T g22) (evd rfl rfl (ev_gs rfl rfl (isb_T g22) (evd rfl rfl (ev_pkT (c1 := .bool true) rfl g22 rfl rfl (evdn ?_))))))))))))
                exact kimpl_IsValidDatabase_J2 true h _ ⟨kr, kr, kr, kr, kr, trivial⟩
              · refine evd rfl rfl (ev_gr rfl (congrArg V.bool g22) (ev_fa (c1 := .cref 4 0) (v := .cref 4 1) rfl rfl rfl ⟨_, rfl⟩ rfl (evd rfl rfl (ev_gr rfl (congrArg V.bool g22) (ev_fa (c1 := .cref 4 1) (v := .cref 4 2) rfl rfl rfl ⟨_, rfl⟩ rfl (evd rfl rfl (ev_gr rfl (congrArg V.bool g22) (ev_ldB (off := 2) (v := dL c25_d e7.2.2) rfl rfl rfl rfl (nb rfl) rfl (evd rfl rfl (ev_gr rfl (congrArg V.bool g22) (ev_len (c1 := dL c25_d e7.2.2) rfl rfl rfl (evd rfl rfl (ev_gr rfl (congrArg V.bool g22) (ev_bin (c1 := nI (List.length e7.2.2 : Int)) (c2 := nI 16) rfl rfl rfl (evd rfl rfl (ev_pkF (c1 := .bool (decide (16 < (List.length e7.2.2 : Int)))) rfl g22 rfl rfl (evdn ?_)))))))))))))))))
                exact kimpl_IsValidDatabase_J2 (decide (16 < (List.length e7.2.2 : Int))) h _ ⟨kr, kr, kr, kr, kr, trivial⟩
        · refine evd rfl rfl (ev_gs rfl rfl (isb_F g15) (evd rfl rfl (ev_gs rfl rfl (isb_F g15) (evd rfl rfl (ev_gs rfl rfl (isb_F g15) (evd rfl rfl (ev_gs rfl rfl (isb_F g15) (evd rfl rfl (ev_gs rfl rfl (isb_F g15) (evd rfl rfl (ev_gs rfl rfl (isb_F g15) (evd rfl rfl (ev_gs rfl rfl (isb_F g15) (evd rfl rfl (ev_gs rfl rfl (isb_F g15) (evd rfl rfl (ev_gs rfl rfl (isb_F g15) (evd rfl rfl (ev_gs rfl rfl (isb_F g15) (evd rfl rfl (ev_gr rfl (congrArg V.bool g14) (ev_pkF (c1 := .bool false) rfl g15 rfl rfl (evd rfl rfl (ev_pkF (c1 := .bool false) rfl g14 rfl rfl (evd rfl rfl (ev_mv (c := .bool false) rfl rfl rfl (evd rfl rfl (ev_gr rfl rfl (ev_fa (c1 := .cref 4 0) (v := .cref 4 1) rfl rfl rfl ⟨_, rfl⟩ rfl (evd rfl rfl (ev_gr rfl rfl (ev_ldB (off := 1) (v := .agg (c128_dd e7.2)) rfl rfl rfl rfl (nb rfl) rfl (?_)))))))))))))))))))))))))))))))))
          obtain ⟨v23, g24, h⟩ := ob_some h
          refine evd rfl rfl (ev_gr rfl rfl (ev_call (era rfl (erg (erc rfl (erc (erD ec25_d _) rfl))) eran) (impl_IsValidRelation_s g24) (evd rfl rfl (ev_gr rfl rfl (ev_un (c1 := .bool v23) rfl trivial (evd rfl rfl (ev_pkF (c1 := .bool (!v23)) rfl rfl rfl rfl (evd rfl rfl (ev_mv (c := .bool (!v23)) rfl rfl rfl (?_))))))))))
          rcases cond_some h with ⟨g25, h⟩ | ⟨g25, h⟩
          · refine evd rfl rfl (ev_gs rfl rfl (isb_T g25) (evd rfl rfl (ev_gs rfl rfl (isb_T g25) (evd rfl rfl (ev_gs rfl rfl (isb_T g25) (evd rfl rfl (ev_gs rfl rfl (isb_T g25) (evd rfl rfl (ev_pkT (c1 := .bool true) rfl g25 rfl rfl (evd rfl rfl (ev_mv (c := .bool true) rfl rfl rfl (evd rfl rfl (ev_gs rfl rfl rfl (evd rfl rfl (ev_gs rfl rfl rfl (evd rfl rfl (ev_gs rfl rfl rfl (evd rfl rfl (ev_gs rfl rfl rfl (evd rfl rfl (ev_gs rfl rfl rfl (evd rfl rfl (ev_pkT (c1 := .bool true) rfl rfl rfl rfl (evdn ?_))))))))))))))))))))))))
            exact kimpl_IsValidDatabase_J2 true h _ ⟨kr, kr, kr, kr, kr, trivial⟩
          · refine evd rfl rfl (ev_gr rfl (congrArg V.bool g25) (ev_fa (c1 := .cref 4 0) (v := .cref 4 1) rfl rfl rfl ⟨_, rfl⟩ rfl (evd rfl rfl (ev_gr rfl (congrArg V.bool g25) (ev_fa (c1 := .cref 4 1) (v := .cref 4 1) rfl rfl rfl ⟨_, rfl⟩ rfl (evd rfl rfl (ev_gr rfl (congrArg V.bool g25) (ev_ldB (off := 1) (v := nI e7.2.1) rfl rfl rfl rfl (nb rfl) rfl (evd rfl rfl (ev_gr rfl (congrArg V.bool g25) (ev_bin (c1 := nI e7.2.1) (c2 := nI 1) rfl rfl rfl (evd rfl rfl (ev_pkF (c1 := .bool (decide (e7.2.1 < 1))) rfl g25 rfl rfl (evd rfl rfl (ev_mv (c := .bool (decide (e7.2.1 < 1))) rfl rfl rfl (?_))))))))))))))))
            rcases cond_some h with ⟨g26, h⟩ | ⟨g26, h⟩
            · refine evd rfl rfl (ev_gs rfl rfl (isb_T g26) (evd rfl rfl (ev_gs rfl rfl (isb_T g26) (evd rfl rfl (ev_gs rfl rfl (isb_T g26) (evd rfl rfl (ev_gs rfl rfl (isb_T g26) (evd rfl rfl (ev_gs rfl rfl (isb_T g26) (evd rfl rfl (ev_pkT (c1 := .bool true) rfl g26 rfl rfl (evdn ?_))))))))))))
              exact kimpl_IsValidDatabase_J2 true h _ ⟨kr, kr, kr, kr, kr, trivial⟩
            · refine evd rfl rfl (ev_gr rfl (congrArg V.bool g26) (ev_fa (c1 := .cref 4 0) (v := .cref 4 1) rfl rfl rfl ⟨_, rfl⟩ rfl (evd rfl rfl (ev_gr rfl (congrArg V.bool g26) (ev_fa (c1 := .cref 4 1) (v := .cref 4 2) rfl rfl rfl ⟨_, rfl⟩ rfl (evd rfl rfl (ev_gr rfl (congrArg V.bool g26) (ev_ldB (off := 2) (v := dL c25_d e7.2.2) rfl rfl rfl rfl (nb rfl) rfl (evd rfl rfl (ev_gr rfl (congrArg V.bool g26) (ev_len (c1 := dL c25_d e7.2.2) rfl rfl rfl (evd rfl rfl (ev_gr rfl (congrArg V.bool g26) (ev_bin (c1 := nI (List.length e7.2.2 : Int)) (c2 := nI 16) rfl rfl rfl (evd rfl rfl (ev_pkF (c1 := .bool (decide (16 < (List.length e7.2.2 : Int)))) rfl g26 rfl rfl (evdn ?_)))))))))))))))))
              exact kimpl_IsValidDatabase_J2 (decide (16 < (List.length e7.2.2 : Int))) h _ ⟨kr, kr, kr, kr, kr, trivial⟩
    · refine ls_cF rfl g5 ?_
      refine ls_exit ?_
      have q0 := (Option.some.inj h).symm
      have r0 := hr1
      rw [q0] at r0
      exact kXimpl_IsValidDatabase_B1 () r0 _ trivial
def impl_IsValidHistory_B1 (a0 : Y51) (rec : Int → Option (Sum (Unit) (Bool))) (y1 : Int) : Option (Sum (Unit) (Bool)) := cond (decide (y1 < (List.length a0.2 : Int))) (obind (geti a0.2 y1) fun e12 => obind (impl_IsValidDatabase e12) fun v14 => cond (!v14) (some (.inr false)) (rec (IntKind.i64.wrap (y1 + 1)))) (some (.inl ()))
def impl_IsValidHistory (a0 : Y51) : Option (Bool) := obind (impl_within (List.length a0.2 : Int) 1 6) fun v2 => cond (!v2) (some false) (obind (impl_within a0.1 1 (IntKind.i64.wrap ((IntKind.i64.wrap (99 - (List.length a0.2 : Int))) + 1))) fun v5 => cond (!v5) (some false) (obind (loopF (impl_IsValidHistory_B1 a0) fz 0) fun o1 => (match o1 with
  | .inl _ => (some true)
  | .inr r => some r)))
theorem impl_IsValidHistory_s {a0 : Y51} {r : Bool} (h : impl_IsValidHistory a0 = some r) : SoundAt Try.prog 89 [.agg (c52_dddd a0)] (.bool r) := by
  unfold impl_IsValidHistory at h
  refine sound_lit tbOk lit89 (nb rfl) rfl ?_
  unfold c89
  refine ls_keep [(0, .agg (c52_dddd a0))] ⟨kr, trivial⟩ rfl ?_
  refine ls_rs tbOk ?_
  refine evs (ev_bx (c1 := .agg (c52_dddd a0)) rfl rfl rfl (evs (ev_ac rfl nofun rfl (evn ?_))))
  refine ls_keep [(1, .box [nI a0.1, dL c33_ddd a0.2])] ⟨kr, trivial⟩ rfl ?_
  refine ls_rs tbOk ?_
  refine evs (ev_fa (c1 := .cref 1 0) (v := .cref 1 1) rfl rfl rfl ⟨_, rfl⟩ rfl (evs (ev_ldB (off := 1) (v := dL c33_ddd a0.2) rfl rfl rfl rfl (nb rfl) rfl (evs (ev_len (c1 := dL c33_ddd a0.2) rfl rfl rfl (evs (ev_as (c := nI (List.length a0.2 : Int)) rfl rfl rfl (evn ?_))))))))
  refine ls_keep [(1, .box [nI a0.1, dL c33_ddd a0.2]), (3, nI (List.length a0.2 : Int))] ⟨kr, kr, trivial⟩ rfl ?_
  refine ls_seq_k fun K1 hK1 => ?_
  refine ls_rs tbOk ?_
  refine evs (ev_mv (c := nI (List.length a0.2 : Int)) rfl rfl rfl (?_))
  obtain ⟨v2, g3, h⟩ := ob_some h
  refine evs (ev_call (era rfl rfl (era rfl rfl (era rfl rfl eran))) (impl_within_s g3) (evs (ev_un (c1 := .bool v2) rfl trivial (evs (ev_mv (c := .bool (!v2)) rfl rfl rfl (?_))))))
  rcases cond_some h with ⟨g4, h⟩ | ⟨g4, h⟩
  · refine evs (ev_gs rfl rfl (isb_T g4) (evs (ev_gs rfl rfl (isb_T g4) (evs (ev_gs rfl rfl (isb_T g4) (evs (ev_gs rfl rfl (isb_T g4) (evs (ev_gs rfl rfl (isb_T g4) (evs (ev_gs rfl rfl (isb_T g4) (evs (ev_gs rfl rfl (isb_T g4) (evs (ev_pkT (c1 := .bool true) rfl g4 rfl rfl (evn ?_))))))))))))))))
    refine ls_keep [(1, .box [nI a0.1, dL c33_ddd a0.2]), (20, .bool true)] ⟨kr, kr, trivial⟩ rfl ?_
    refine ls_cT rfl rfl ?_
    refine ls_rs tbOk ?_
    refine evs (ev_ac rfl nofun rfl (evn ?_))
    refine ls_keep [(2, .bool false)] ⟨kr, trivial⟩ rfl ?_
    refine ls_ret ?_
    have hr := Option.some.inj h
    rw [← hr]
    exact ⟨.inl rfl, rfl⟩
  · refine evs (ev_gr rfl (congrArg V.bool g4) (ev_fa (c1 := .cref 1 0) (v := .cref 1 0) rfl rfl rfl ⟨_, rfl⟩ rfl (evs (ev_gr rfl (congrArg V.bool g4) (ev_ldB (off := 0) (v := nI a0.1) rfl rfl rfl rfl (nb rfl) rfl (evs (ev_gr rfl (congrArg V.bool g4) (ev_mv (c := nI (List.length a0.2 : Int)) rfl rfl rfl (evs (ev_gr rfl (congrArg V.bool g4) (ev_bin (c1 := nI 99) (c2 := nI (List.length a0.2 : Int)) rfl rfl rfl (evs (ev_gr rfl (congrArg V.bool g4) (ev_bin (c1 := nI (IntKind.i64.wrap (99 - (List.length a0.2 : Int)))) (c2 := nI 1) rfl rfl rfl (?_)))))))))))))))
    obtain ⟨v5, g6, h⟩ := ob_some h
    refine evs (ev_gr rfl (congrArg V.bool g4) (ev_call (era rfl rfl (era rfl rfl (era rfl rfl eran))) (impl_within_s g6) (evs (ev_gr rfl (congrArg V.bool g4) (ev_un (c1 := .bool v5) rfl trivial (evs (ev_pkF (c1 := .bool (!v5)) rfl g4 rfl rfl (evn ?_))))))))
    refine ls_keep [(1, .box [nI a0.1, dL c33_ddd a0.2]), (20, .bool (!v5))] ⟨kr, kr, trivial⟩ rfl ?_
    rcases cond_some h with ⟨g7, h⟩ | ⟨g7, h⟩
    · refine ls_cT rfl g7 ?_
      refine ls_rs tbOk ?_
      refine evs (ev_ac rfl nofun rfl (evn ?_))
      refine ls_keep [(2, .bool false)] ⟨kr, trivial⟩ rfl ?_
      refine ls_ret ?_
      have hr := Option.some.inj h
      rw [← hr]
      exact ⟨.inl rfl, rfl⟩
    · refine ls_cF rfl g7 ?_
      refine ls_skip ?_
      refine hK1 _ (ls_keep [(1, .box [nI a0.1, dL c33_ddd a0.2])] ⟨kr, trivial⟩ rfl ?_)
      refine ls_seq_k fun K8 hK8 => ?_
      refine ls_rs tbOk ?_
      refine evs (ev_fa (c1 := .cref 1 0) (v := .cref 1 1) rfl rfl rfl ⟨_, rfl⟩ rfl (evs (ev_ldB (off := 1) (v := dL c33_ddd a0.2) rfl rfl rfl rfl (nb rfl) rfl (evs (ev_len (c1 := dL c33_ddd a0.2) rfl rfl rfl (evs (ev_mc rfl rfl (evn ?_))))))))
      refine ls_keep [(22, dL c33_ddd a0.2), (23, nI (List.length a0.2 : Int)), (24, nI 0)] ⟨kr, kr, kr, trivial⟩ rfl ?_
      obtain ⟨o1, hl, hr1⟩ := ob_some h
      clear h
      have kXimpl_IsValidHistory_B1 : ∀ (_ : Unit), (some true) = some r → ∀ σ' : PS, okK σ' [] → K8 σ' := by
        intro _ h σ' hk
        refine hK8 _ (ls_keep [] hk rfl ?_)
        refine ls_rs tbOk ?_
        refine evs (ev_ac rfl nofun rfl (evn ?_))
        refine ls_keep [(2, .bool true)] ⟨kr, trivial⟩ rfl ?_
        refine ls_ret ?_
        have hr := Option.some.inj h
        rw [← hr]
        exact ⟨.inl rfl, rfl⟩
      refine ls_rec (fun (y1 : Int) => [(22, dL c33_ddd a0.2), (23, nI (List.length a0.2 : Int)), (24, nI y1)]) (impl_IsValidHistory_B1 a0) fz 0 o1 hl ⟨kr, kr, kr, trivial⟩ (fun _ => rfl) ?_
      rintro m y1 N h hN
      unfold impl_IsValidHistory_B1 at h
      refine ls_rs tbOk ?_
      refine evs (ev_bin (c1 := nI y1) (c2 := nI (List.length a0.2 : Int)) rfl rfl rfl (evn ?_))
      refine ls_keep [(22, dL c33_ddd a0.2), (23, nI (List.length a0.2 : Int)), (24, nI y1), (25, .bool (decide (y1 < (List.length a0.2 : Int))))] ⟨kr, kr, kr, kr, trivial⟩ rfl ?_
      refine ls_seq_k fun K9 hK9 => ?_
      rcases cond_some h with ⟨g10, h⟩ | ⟨g10, h⟩
      · refine ls_cT rfl g10 ?_
        refine ls_skip ?_
        refine hK9 _ (ls_keep [(22, dL c33_ddd a0.2), (23, nI (List.length a0.2 : Int)), (24, nI y1)] ⟨kr, kr, kr, trivial⟩ rfl ?_)
        refine ls_seq_k fun K11 hK11 => ?_
        refine ls_blk ?_
        refine ls_rs tbOk ?_
        obtain ⟨e12, g13, h⟩ := ob_some h
        refine evs (ev_ia rfl rfl rfl ⟨(geti_some g13).1, (geti_some g13).2.1⟩ (evs (ev_ldEt (i := y1) (n := 1) (off := 0) (v := .agg [dL c208_dd e12]) rfl rfl zc33_ddd g13 rfl (nb rfl) rfl (evs (ev_al rfl rfl (evs (ev_st (off := 0) (c1 := .agg [dL c208_dd e12]) (cs' := [dL c208_dd e12]) rfl rfl rfl rfl rfl rfl (nb rfl) rfl (evn ?_))))))))
        refine ls_keep [(5, .box [dL c208_dd e12]), (22, dL c33_ddd a0.2), (23, nI (List.length a0.2 : Int)), (24, nI y1)] ⟨kr, kr, kr, kr, trivial⟩ rfl ?_
        refine ls_rs tbOk ?_
        refine evs (ev_ldB (off := 0) (v := .agg [dL c208_dd e12]) rfl rfl rfl rfl (nb rfl) rfl (?_))
        obtain ⟨v14, g15, h⟩ := ob_some h
        refine evs (ev_call (era rfl (erg (erc (erD ec208_dd _) rfl)) eran) (impl_IsValidDatabase_s g15) (evs (ev_un (c1 := .bool v14) rfl trivial (evn ?_))))
        refine ls_keep [(22, dL c33_ddd a0.2), (23, nI (List.length a0.2 : Int)), (24, nI y1), (30, .bool (!v14))] ⟨kr, kr, kr, kr, trivial⟩ rfl ?_
        rcases cond_some h with ⟨g16, h⟩ | ⟨g16, h⟩
        · refine ls_cT rfl g16 ?_
          refine ls_rs tbOk ?_
          refine evs (ev_ac rfl nofun rfl (evn ?_))
          refine ls_keep [(2, .bool false)] ⟨kr, trivial⟩ rfl ?_
          refine ls_ret ?_
          have q0 := (Option.some.inj h).symm
          have r0 := hr1
          rw [q0] at r0
          have hr := Option.some.inj r0
          rw [← hr]
          exact ⟨.inl rfl, rfl⟩
        · refine ls_cF rfl g16 ?_
          refine ls_skip ?_
          refine hK11 _ (ls_keep [(22, dL c33_ddd a0.2), (23, nI (List.length a0.2 : Int)), (24, nI y1)] ⟨kr, kr, kr, trivial⟩ rfl ?_)
          refine ls_rgn tbOk ?_
          refine evs (ev_bin (c1 := nI y1) (c2 := nI 1) rfl rfl rfl (evs (ev_mv (c := nI (IntKind.i64.wrap (y1 + 1))) rfl rfl rfl (evn ?_))))
          exact hN _ (IntKind.i64.wrap (y1 + 1)) h ⟨kr, kr, kr, trivial⟩
      · refine ls_cF rfl g10 ?_
        refine ls_exit ?_
        have q0 := (Option.some.inj h).symm
        have r0 := hr1
        rw [q0] at r0
        exact kXimpl_IsValidHistory_B1 () r0 _ trivial
def impl_copyInts (a0 : List Int) : Option ((List Int)) := chk (List.length ([] : List Int) + List.length a0 ≤ lim) (some (([] : List Int) ++ a0))
theorem impl_copyInts_s {a0 : List Int} {r : (List Int)} (h : impl_copyInts a0 = some r) : SoundAt Try.prog 151 [dL ci64 a0] (oL 3 ci64 r) := by
  unfold impl_copyInts at h
  refine sound_lit tbOk lit151 (nb rfl) rfl ?_
  unfold c151
  refine ls_keep [(0, dL ci64 a0)] ⟨kr, trivial⟩ rfl ?_
  refine ls_rs tbOk ?_
  refine evs (ev_an rfl rfl (evn ?_))
  refine ls_keep [(0, dL ci64 a0)] ⟨kr, trivial⟩ rfl ?_
  refine ls_rs tbOk ?_
  refine evs (ev_bs [] (cs := []) rfl trivial rfl (nb rfl) rfl (evs (ev_mvt (c := dL ci64 a0) rfl rfl rfl (?_))))
  obtain ⟨g1, h⟩ := chk_some h
  refine evs (ev_app (f := ci64) (l := ([] : List Int)) (m := a0) (c2 := dL ci64 a0) rfl rfl rfl (flat_len zci64 a0) rfl (map_dg (fun _ => rfl) _) g1 rfl (evs (ev_as (c := oL 3 ci64 (([] : List Int) ++ a0)) rfl rfl rfl (evn ?_))))
  refine ls_keep [(2, oL 3 ci64 (([] : List Int) ++ a0))] ⟨kr, trivial⟩ rfl ?_
  refine ls_ret ?_
  have hr := Option.some.inj h
  rw [← hr]
  exact ⟨.inl rfl, rfl⟩
def impl_copyRows_B1 (a0 : List (List Int)) (rec : ((List (List Int)) × Int) → Option ((List (List Int)))) (s : (List (List Int)) × Int) : Option ((List (List Int))) := match s with
  | (y1, y2) => cond (decide (y2 < (List.length a0 : Int))) (obind (geti a0 y2) fun e6 => obind (impl_copyInts e6) fun v8 => chk (List.length y1 + List.length [v8] ≤ lim) (rec ((y1 ++ [v8]), (IntKind.i64.wrap (y2 + 1))))) (some y1)
def impl_copyRows (a0 : List (List Int)) : Option ((List (List Int))) := obind (loopF (impl_copyRows_B1 a0) fz (([] : List (List Int)), 0)) fun z2 => some z2
theorem impl_copyRows_s {a0 : List (List Int)} {r : (List (List Int))} (h : impl_copyRows a0 = some r) : SoundAt Try.prog 237 [dL c25_d a0] (oL 25 c25_o r) := by
  unfold impl_copyRows at h
  refine sound_lit tbOk lit237 (nb rfl) rfl ?_
  unfold c237
  refine ls_keep [(0, dL c25_d a0)] ⟨kr, trivial⟩ rfl ?_
  refine ls_rs tbOk ?_
  refine evs (ev_an rfl rfl (evn ?_))
  refine ls_keep [(0, dL c25_d a0)] ⟨kr, trivial⟩ rfl ?_
  refine ls_rs tbOk ?_
  refine evs (ev_an rfl rfl (evn ?_))
  refine ls_keep [(0, dL c25_d a0), (3, oL 25 c25_o [])] ⟨kr, kr, trivial⟩ rfl ?_
  refine ls_seq_k fun K1 hK1 => ?_
  refine ls_rs tbOk ?_
  refine evs (ev_mv (c := dL c25_d a0) rfl rfl rfl (evs (ev_len (c1 := dL c25_d a0) rfl rfl rfl (evs (ev_mc rfl rfl (evn ?_))))))
  refine ls_keep [(3, oL 25 c25_o []), (6, dL c25_d a0), (7, nI (List.length a0 : Int)), (8, nI 0)] ⟨kr, kr, kr, kr, trivial⟩ rfl ?_
  obtain ⟨o1, hl, hr1⟩ := ob_some h
  clear h
  have kXimpl_copyRows_B1 : ∀ (z2 : List (List Int)), (some z2) = some r → ∀ σ' : PS, okK σ' [(3, oL 25 c25_o z2)] → K1 σ' := by
    intro z2 h σ' hk
    refine hK1 _ (ls_keep [(3, oL 25 c25_o z2)] hk rfl ?_)
    refine ls_rs tbOk ?_
    refine evs (ev_mvt (c := oL 25 c25_o z2) rfl rfl rfl (evs (ev_as (c := oL 25 c25_o z2) rfl rfl rfl (evn ?_))))
    refine ls_keep [(2, oL 25 c25_o z2)] ⟨kr, trivial⟩ rfl ?_
    refine ls_ret ?_
    have hr := Option.some.inj h
    rw [← hr]
    exact ⟨.inl rfl, rfl⟩
  refine ls_rec (fun (s : (List (List Int)) × Int) => match s with | (y1, y2) => [(3, oL 25 c25_o y1), (6, dL c25_d a0), (7, nI (List.length a0 : Int)), (8, nI y2)]) (impl_copyRows_B1 a0) fz (([] : List (List Int)), 0) o1 hl ⟨kr, kr, kr, kr, trivial⟩ (fun _ => rfl) ?_
  rintro m ⟨y1, y2⟩ N h hN
  unfold impl_copyRows_B1 at h
  dsimp only at h
  refine ls_rs tbOk ?_
  refine evs (ev_bin (c1 := nI y2) (c2 := nI (List.length a0 : Int)) rfl rfl rfl (evn ?_))
  refine ls_keep [(3, oL 25 c25_o y1), (6, dL c25_d a0), (7, nI (List.length a0 : Int)), (8, nI y2), (9, .bool (decide (y2 < (List.length a0 : Int))))] ⟨kr, kr, kr, kr, kr, trivial⟩ rfl ?_
  refine ls_seq_k fun K3 hK3 => ?_
  rcases cond_some h with ⟨g4, h⟩ | ⟨g4, h⟩
  · refine ls_cT rfl g4 ?_
    refine ls_skip ?_
    refine hK3 _ (ls_keep [(3, oL 25 c25_o y1), (6, dL c25_d a0), (7, nI (List.length a0 : Int)), (8, nI y2)] ⟨kr, kr, kr, kr, trivial⟩ rfl ?_)
    refine ls_seq_k fun K5 hK5 => ?_
    refine ls_blk ?_
    refine ls_rs tbOk ?_
    obtain ⟨e6, g7, h⟩ := ob_some h
    refine evs (ev_ia rfl rfl rfl ⟨(geti_some g7).1, (geti_some g7).2.1⟩ (evs (ev_ldEt (i := y2) (n := 1) (off := 0) (v := dL ci64 e6) rfl rfl zc25_d g7 rfl (nb rfl) rfl (evs (ev_as (c := dL ci64 e6) rfl rfl rfl (evn ?_))))))
    refine ls_keep [(3, oL 25 c25_o y1), (5, dL ci64 e6), (6, dL c25_d a0), (7, nI (List.length a0 : Int)), (8, nI y2)] ⟨kr, kr, kr, kr, kr, trivial⟩ rfl ?_
    refine ls_rgn tbOk ?_
    refine evs (ev_mvt (c := oL 25 c25_o y1) rfl rfl rfl (evs (ev_mv (c := dL ci64 e6) rfl rfl rfl (?_))))
    obtain ⟨v8, g9, h⟩ := ob_some h
    refine evs (ev_call (era rfl (erD eci64 _) eran) (impl_copyInts_s g9) (evs (ev_bs [oL 3 ci64 v8] (cs := [oL 3 ci64 v8]) rfl ⟨rfl, trivial⟩ rfl (nb rfl) rfl (?_))))
    obtain ⟨g10, h⟩ := chk_some h
    refine evs (ev_app (f := c25_o) (l := y1) (m := [v8]) (c2 := oL 25 c25_o [v8]) rfl rfl rfl (flat_len zc25_o [v8]) rfl rfl g10 rfl (evs (ev_as (c := oL 25 c25_o (y1 ++ [v8])) rfl rfl rfl (evn ?_))))
    refine hK5 _ (ls_keep [(3, oL 25 c25_o (y1 ++ [v8])), (6, dL c25_d a0), (7, nI (List.length a0 : Int)), (8, nI y2)] ⟨kr, kr, kr, kr, trivial⟩ rfl ?_)
    refine ls_rgn tbOk ?_
    refine evs (ev_bin (c1 := nI y2) (c2 := nI 1) rfl rfl rfl (evs (ev_mv (c := nI (IntKind.i64.wrap (y2 + 1))) rfl rfl rfl (evn ?_))))
    exact hN _ ((y1 ++ [v8]), (IntKind.i64.wrap (y2 + 1))) h ⟨kr, kr, kr, kr, trivial⟩
  · refine ls_cF rfl g4 ?_
    refine ls_exit ?_
    have q0 := (Option.some.inj h).symm
    have r0 := hr1
    rw [q0] at r0
    exact kXimpl_copyRows_B1 y1 r0 _ ⟨kr, trivial⟩
def impl_copyRelation (a0 : Y127) : Option (Y127) := obind (impl_copyRows a0.2) fun v1 => some (a0.1, v1)
theorem impl_copyRelation_s {a0 : Y127} {r : Y127} (h : impl_copyRelation a0 = some r) : SoundAt Try.prog 175 [.agg (c128_dd a0)] (.agg (c128_oo r)) := by
  unfold impl_copyRelation at h
  refine sound_lit tbOk lit175 (nb rfl) rfl ?_
  unfold c175
  refine ls_keep [(0, .agg (c128_dd a0))] ⟨kr, trivial⟩ rfl ?_
  refine ls_rs tbOk ?_
  refine evs (ev_bx (c1 := .agg (c128_dd a0)) rfl rfl rfl (evs (ev_al rfl rfl (evn ?_))))
  refine ls_keep [(1, .box [nI a0.1, dL c25_d a0.2]), (2, .box [nI 0, oL 25 c25_o []])] ⟨kr, kr, trivial⟩ rfl ?_
  refine ls_rd tbOk mixed (by kernel_rfl) ?_
  refine evd rfl rfl (ev_fa (c1 := .cref 1 0) (v := .cref 1 0) rfl rfl rfl ⟨_, rfl⟩ rfl (evd rfl rfl (ev_ldB (off := 0) (v := nI a0.1) rfl rfl rfl rfl (nb rfl) rfl (evd rfl rfl (ev_fa (c1 := .cref 1 0) (v := .cref 1 1) rfl rfl rfl ⟨_, rfl⟩ rfl (evd rfl rfl (ev_ldB (off := 1) (v := dL c25_d a0.2) rfl rfl rfl rfl (nb rfl) rfl (?_))))))))
  obtain ⟨v1, g2, h⟩ := ob_some h
  refine evd rfl rfl (ev_call (era rfl (erD ec25_d _) eran) (impl_copyRows_s g2) (evd rfl rfl (ev_bd [nI a0.1, oL 25 c25_o v1] (cs := [nI a0.1, oL 25 c25_o v1]) rfl ⟨rfl, rfl, trivial⟩ rfl (evd rfl rfl (ev_st (off := 0) (c1 := .agg [nI a0.1, oL 25 c25_o v1]) (cs' := [nI a0.1, oL 25 c25_o v1]) rfl rfl rfl rfl rfl rfl (nb rfl) rfl (evdn ?_))))))
  refine ls_keep [(2, .box [nI a0.1, oL 25 c25_o v1])] ⟨kr, trivial⟩ rfl ?_
  refine ls_ret ?_
  have hr := Option.some.inj h
  rw [← hr]
  exact ⟨.inl rfl, rfl⟩
def impl_copyDatabase_B1 (a0 : List Y207) (rec : ((List Y207) × Int) → Option ((List Y207))) (s : (List Y207) × Int) : Option ((List Y207)) := match s with
  | (y1, y2) => cond (decide (y2 < (List.length a0 : Int))) (obind (geti a0 y2) fun e6 => obind (impl_copyRelation e6.2) fun v8 => chk (List.length y1 + List.length [(e6.1, v8)] ≤ lim) (rec ((y1 ++ [(e6.1, v8)]), (IntKind.i64.wrap (y2 + 1))))) (some y1)
def impl_copyDatabase (a0 : List Y207) : Option ((List Y207)) := obind (loopF (impl_copyDatabase_B1 a0) fz (([] : List Y207), 0)) fun z2 => some z2
theorem impl_copyDatabase_s {a0 : List Y207} {r : (List Y207)} (h : impl_copyDatabase a0 = some r) : SoundAt Try.prog 91 [.agg [dL c208_dd a0]] (.agg [oL 208 c208_oo r]) := by
  unfold impl_copyDatabase at h
  refine sound_lit tbOk lit91 (nb rfl) rfl ?_
  unfold c91
  refine ls_keep [(0, .agg [dL c208_dd a0])] ⟨kr, trivial⟩ rfl ?_
  refine ls_rs tbOk ?_
  refine evs (ev_bx (c1 := .agg [dL c208_dd a0]) rfl rfl rfl (evs (ev_al rfl rfl (evn ?_))))
  refine ls_keep [(1, .box [dL c208_dd a0]), (2, .box [oL 208 c208_oo []])] ⟨kr, kr, trivial⟩ rfl ?_
  refine ls_rs tbOk ?_
  refine evs (ev_al rfl rfl (evn ?_))
  refine ls_keep [(1, .box [dL c208_dd a0]), (2, .box [oL 208 c208_oo []]), (3, .box [oL 208 c208_oo []])] ⟨kr, kr, kr, trivial⟩ rfl ?_
  refine ls_seq_k fun K1 hK1 => ?_
  refine ls_rs tbOk ?_
  refine evs (ev_fa (c1 := .cref 1 0) (v := .cref 1 0) rfl rfl rfl ⟨_, rfl⟩ rfl (evs (ev_ldB (off := 0) (v := dL c208_dd a0) rfl rfl rfl rfl (nb rfl) rfl (evs (ev_len (c1 := dL c208_dd a0) rfl rfl rfl (evs (ev_mc rfl rfl (evn ?_))))))))
  refine ls_keep [(2, .box [oL 208 c208_oo []]), (3, .box [oL 208 c208_oo []]), (7, dL c208_dd a0), (8, nI (List.length a0 : Int)), (9, nI 0)] ⟨kr, kr, kr, kr, kr, trivial⟩ rfl ?_
  obtain ⟨o1, hl, hr1⟩ := ob_some h
  clear h
  have kXimpl_copyDatabase_B1 : ∀ (z2 : List Y207), (some z2) = some r → ∀ σ' : PS, okK σ' [(2, .box [oL 208 c208_oo []]), (3, .box [oL 208 c208_oo z2])] → K1 σ' := by
    intro z2 h σ' hk
    refine hK1 _ (ls_keep [(2, .box [oL 208 c208_oo []]), (3, .box [oL 208 c208_oo z2])] hk rfl ?_)
    refine ls_rs tbOk ?_
    refine evs (ev_ldBt (off := 0) (v := .agg [oL 208 c208_oo z2]) (c' := .box [dL c208_oo z2]) rfl rfl rfl rfl (nb rfl) rfl rfl (evs (ev_st (off := 0) (c1 := .agg [oL 208 c208_oo z2]) (cs' := [oL 208 c208_oo z2]) rfl rfl rfl rfl rfl rfl (nb rfl) rfl (evn ?_))))
    refine ls_keep [(2, .box [oL 208 c208_oo z2])] ⟨kr, trivial⟩ rfl ?_
    refine ls_ret ?_
    have hr := Option.some.inj h
    rw [← hr]
    exact ⟨.inl rfl, rfl⟩
  refine ls_rec (fun (s : (List Y207) × Int) => match s with | (y1, y2) => [(2, .box [oL 208 c208_oo []]), (3, .box [oL 208 c208_oo y1]), (7, dL c208_dd a0), (8, nI (List.length a0 : Int)), (9, nI y2)]) (impl_copyDatabase_B1 a0) fz (([] : List Y207), 0) o1 hl ⟨kr, kr, kr, kr, kr, trivial⟩ (fun _ => rfl) ?_
  rintro m ⟨y1, y2⟩ N h hN
  unfold impl_copyDatabase_B1 at h
  dsimp only at h
  refine ls_rs tbOk ?_
  refine evs (ev_bin (c1 := nI y2) (c2 := nI (List.length a0 : Int)) rfl rfl rfl (evn ?_))
  refine ls_keep [(2, .box [oL 208 c208_oo []]), (3, .box [oL 208 c208_oo y1]), (7, dL c208_dd a0), (8, nI (List.length a0 : Int)), (9, nI y2), (10, .bool (decide (y2 < (List.length a0 : Int))))] ⟨kr, kr, kr, kr, kr, kr, trivial⟩ rfl ?_
  refine ls_seq_k fun K3 hK3 => ?_
  rcases cond_some h with ⟨g4, h⟩ | ⟨g4, h⟩
  · refine ls_cT rfl g4 ?_
    refine ls_skip ?_
    refine hK3 _ (ls_keep [(2, .box [oL 208 c208_oo []]), (3, .box [oL 208 c208_oo y1]), (7, dL c208_dd a0), (8, nI (List.length a0 : Int)), (9, nI y2)] ⟨kr, kr, kr, kr, kr, trivial⟩ rfl ?_)
    refine ls_seq_k fun K5 hK5 => ?_
    refine ls_blk ?_
    refine ls_rs tbOk ?_
    obtain ⟨e6, g7, h⟩ := ob_some h
    refine evs (ev_ia rfl rfl rfl ⟨(geti_some g7).1, (geti_some g7).2.1⟩ (evs (ev_ldEt (i := y2) (n := 3) (off := 0) (v := .agg (c208_dd e6)) rfl rfl zc208_dd g7 rfl (nb rfl) rfl (evs (ev_al rfl rfl (evs (ev_st (off := 0) (c1 := .agg (c208_dd e6)) (cs' := [.str e6.1, nI e6.2.1, dL c25_d e6.2.2]) rfl rfl rfl rfl rfl rfl (nb rfl) rfl (evn ?_))))))))
    refine ls_keep [(2, .box [oL 208 c208_oo []]), (3, .box [oL 208 c208_oo y1]), (5, .box [.str e6.1, nI e6.2.1, dL c25_d e6.2.2]), (7, dL c208_dd a0), (8, nI (List.length a0 : Int)), (9, nI y2)] ⟨kr, kr, kr, kr, kr, kr, trivial⟩ rfl ?_
    refine ls_drw tbOk mixed (by kernel_rfl) ?_
    refine evd rfl rfl (ev_fa (c1 := .cref 3 0) (v := .cref 3 0) rfl rfl rfl ⟨_, rfl⟩ rfl (evd rfl rfl (ev_ldBt (off := 0) (v := oL 208 c208_oo y1) (c' := .box [dL c208_oo y1]) rfl rfl rfl rfl (nb rfl) rfl rfl (evd rfl rfl (ev_fa (c1 := .cref 5 0) (v := .cref 5 0) rfl rfl rfl ⟨_, rfl⟩ rfl (evd rfl rfl (ev_ldB (off := 0) (v := .str e6.1) rfl rfl rfl rfl (nb rfl) rfl (evd rfl rfl (ev_fa (c1 := .cref 5 0) (v := .cref 5 1) rfl rfl rfl ⟨_, rfl⟩ rfl (evd rfl rfl (ev_ldB (off := 1) (v := .agg (c128_dd e6.2)) rfl rfl rfl rfl (nb rfl) rfl (?_))))))))))))
    obtain ⟨v8, g9, h⟩ := ob_some h
    refine evd rfl rfl (ev_call (era rfl (erg (erc rfl (erc (erD ec25_d _) rfl))) eran) (impl_copyRelation_s g9) (evd rfl rfl (ev_bd [.str e6.1, .agg (c128_oo v8)] (cs := [.str e6.1, nI v8.1, oL 25 c25_o v8.2]) rfl ⟨rfl, rfl, trivial⟩ rfl (evd rfl rfl (ev_bs [.agg [.str e6.1, nI v8.1, oL 25 c25_o v8.2]] (cs := [.str e6.1, nI v8.1, oL 25 c25_o v8.2]) rfl ⟨rfl, trivial⟩ rfl (nb rfl) rfl (?_))))))
    obtain ⟨g10, h⟩ := chk_some h
    refine evd rfl rfl (ev_app (f := c208_oo) (l := y1) (m := [(e6.1, v8)]) (c2 := oL 208 c208_oo [(e6.1, v8)]) rfl rfl rfl (flat_len zc208_oo [(e6.1, v8)]) rfl rfl g10 rfl (evd rfl rfl (ev_fa (c1 := .cref 3 0) (v := .cref 3 0) rfl rfl rfl ⟨_, rfl⟩ rfl (evd rfl rfl (ev_st (off := 0) (c1 := oL 208 c208_oo (y1 ++ [(e6.1, v8)])) (cs' := [oL 208 c208_oo (y1 ++ [(e6.1, v8)])]) rfl rfl rfl rfl rfl rfl (nb rfl) rfl (evdn ?_))))))
    refine hK5 _ (ls_keep [(2, .box [oL 208 c208_oo []]), (3, .box [oL 208 c208_oo (y1 ++ [(e6.1, v8)])]), (7, dL c208_dd a0), (8, nI (List.length a0 : Int)), (9, nI y2)] ⟨kr, kr, kr, kr, kr, trivial⟩ rfl ?_)
    refine ls_rgn tbOk ?_
    refine evs (ev_bin (c1 := nI y2) (c2 := nI 1) rfl rfl rfl (evs (ev_mv (c := nI (IntKind.i64.wrap (y2 + 1))) rfl rfl rfl (evn ?_))))
    exact hN _ ((y1 ++ [(e6.1, v8)]), (IntKind.i64.wrap (y2 + 1))) h ⟨kr, kr, kr, kr, kr, trivial⟩
  · refine ls_cF rfl g4 ?_
    refine ls_exit ?_
    have q0 := (Option.some.inj h).symm
    have r0 := hr1
    rw [q0] at r0
    exact kXimpl_copyDatabase_B1 y1 r0 _ ⟨kr, kr, trivial⟩
def impl_SnapshotAt (a0 : Y51) (a1 : Int) : Option ((List Y207) × Bool) := obind (impl_IsValidHistory a0) fun v2 => cond (!v2) (some ([], false)) (obind (impl_within a1 a0.1 (IntKind.i64.wrap ((IntKind.i64.wrap (a0.1 + (List.length a0.2 : Int))) - 1))) fun v5 => cond (!v5) (some ([], false)) (obind (geti a0.2 (IntKind.i64.wrap (a1 - a0.1))) fun e8 => obind (impl_copyDatabase e8) fun v10 => some (v10, true)))
theorem impl_SnapshotAt_s {a0 : Y51} {a1 : Int} {r : (List Y207) × Bool} (h : impl_SnapshotAt a0 a1 = some r) : SoundAt Try.prog 29 [.agg (c52_dddd a0), nI a1] (.tup [.agg [oL 208 c208_oo r.1], .bool r.2]) := by
  unfold impl_SnapshotAt at h
  refine sound_lit tbOk lit29 (nb rfl) rfl ?_
  unfold c29
  refine ls_keep [(0, .agg (c52_dddd a0)), (1, nI a1)] ⟨kr, kr, trivial⟩ rfl ?_
  refine ls_rs tbOk ?_
  refine evs (ev_bx (c1 := .agg (c52_dddd a0)) rfl rfl rfl (evs (ev_al rfl rfl (evs (ev_ac rfl nofun rfl (evn ?_))))))
  refine ls_keep [(1, nI a1), (2, .box [nI a0.1, dL c33_ddd a0.2]), (4, .box [oL 208 c208_oo []])] ⟨kr, kr, kr, trivial⟩ rfl ?_
  refine ls_seq_k fun K1 hK1 => ?_
  refine ls_rs tbOk ?_
  refine evs (ev_ldB (off := 0) (v := .agg (c52_dddd a0)) rfl rfl rfl rfl (nb rfl) rfl (?_))
  obtain ⟨v2, g3, h⟩ := ob_some h
  refine evs (ev_call (era rfl (erg (erc rfl (erc (erD ec33_ddd _) rfl))) eran) (impl_IsValidHistory_s g3) (evs (ev_un (c1 := .bool v2) rfl trivial (evs (ev_mv (c := .bool (!v2)) rfl rfl rfl (?_))))))
  rcases cond_some h with ⟨g4, h⟩ | ⟨g4, h⟩
  · refine evs (ev_gs rfl rfl (isb_T g4) (evs (ev_gs rfl rfl (isb_T g4) (evs (ev_gs rfl rfl (isb_T g4) (evs (ev_gs rfl rfl (isb_T g4) (evs (ev_gs rfl rfl (isb_T g4) (evs (ev_gs rfl rfl (isb_T g4) (evs (ev_gs rfl rfl (isb_T g4) (evs (ev_gs rfl rfl (isb_T g4) (evs (ev_gs rfl rfl (isb_T g4) (evs (ev_gs rfl rfl (isb_T g4) (evs (ev_gs rfl rfl (isb_T g4) (evs (ev_gs rfl rfl (isb_T g4) (evs (ev_pkT (c1 := .bool true) rfl g4 rfl rfl (evn ?_))))))))))))))))))))))))))
    refine ls_keep [(1, nI a1), (2, .box [nI a0.1, dL c33_ddd a0.2]), (4, .box [oL 208 c208_oo []]), (22, .bool true)] ⟨kr, kr, kr, kr, trivial⟩ rfl ?_
    refine ls_cT rfl rfl ?_
    refine ls_rs tbOk ?_
    refine evs (ev_bd [] (cs := [oL 208 c208_oo []]) rfl trivial rfl (evs (ev_st (off := 0) (c1 := .agg [oL 208 c208_oo []]) (cs' := [oL 208 c208_oo []]) rfl rfl rfl rfl rfl rfl (nb rfl) rfl (evs (ev_ac rfl nofun rfl (evn ?_))))))
    refine ls_keep [(4, .box [oL 208 c208_oo []]), (5, .bool false)] ⟨kr, kr, trivial⟩ rfl ?_
    refine ls_ret ?_
    have hr := Option.some.inj h
    rw [← hr]
    exact ⟨.inl rfl, rfl⟩
  · refine evs (ev_gr rfl (congrArg V.bool g4) (ev_mv (c := nI a1) rfl rfl rfl (evs (ev_gr rfl (congrArg V.bool g4) (ev_fa (c1 := .cref 2 0) (v := .cref 2 0) rfl rfl rfl ⟨_, rfl⟩ rfl (evs (ev_gr rfl (congrArg V.bool g4) (ev_ldB (off := 0) (v := nI a0.1) rfl rfl rfl rfl (nb rfl) rfl (evs (ev_gr rfl (congrArg V.bool g4) (ev_fa (c1 := .cref 2 0) (v := .cref 2 0) rfl rfl rfl ⟨_, rfl⟩ rfl (evs (ev_gr rfl (congrArg V.bool g4) (ev_ldB (off := 0) (v := nI a0.1) rfl rfl rfl rfl (nb rfl) rfl (evs (ev_gr rfl (congrArg V.bool g4) (ev_fa (c1 := .cref 2 0) (v := .cref 2 1) rfl rfl rfl ⟨_, rfl⟩ rfl (evs (ev_gr rfl (congrArg V.bool g4) (ev_ldB (off := 1) (v := dL c33_ddd a0.2) rfl rfl rfl rfl (nb rfl) rfl (evs (ev_gr rfl (congrArg V.bool g4) (ev_len (c1 := dL c33_ddd a0.2) rfl rfl rfl (evs (ev_gr rfl (congrArg V.bool g4) (ev_bin (c1 := nI a0.1) (c2 := nI (List.length a0.2 : Int)) rfl rfl rfl (evs (ev_gr rfl (congrArg V.bool g4) (ev_bin (c1 := nI (IntKind.i64.wrap (a0.1 + (List.length a0.2 : Int)))) (c2 := nI 1) rfl rfl rfl (?_))))))))))))))))))))))))))))))
    obtain ⟨v5, g6, h⟩ := ob_some h
    refine evs (ev_gr rfl (congrArg V.bool g4) (ev_call (era rfl rfl (era rfl rfl (era rfl rfl eran))) (impl_within_s g6) (evs (ev_gr rfl (congrArg V.bool g4) (ev_un (c1 := .bool v5) rfl trivial (evs (ev_pkF (c1 := .bool (!v5)) rfl g4 rfl rfl (evn ?_))))))))
    refine ls_keep [(1, nI a1), (2, .box [nI a0.1, dL c33_ddd a0.2]), (4, .box [oL 208 c208_oo []]), (22, .bool (!v5))] ⟨kr, kr, kr, kr, trivial⟩ rfl ?_
    rcases cond_some h with ⟨g7, h⟩ | ⟨g7, h⟩
    · refine ls_cT rfl g7 ?_
      refine ls_rs tbOk ?_
      refine evs (ev_bd [] (cs := [oL 208 c208_oo []]) rfl trivial rfl (evs (ev_st (off := 0) (c1 := .agg [oL 208 c208_oo []]) (cs' := [oL 208 c208_oo []]) rfl rfl rfl rfl rfl rfl (nb rfl) rfl (evs (ev_ac rfl nofun rfl (evn ?_))))))
      refine ls_keep [(4, .box [oL 208 c208_oo []]), (5, .bool false)] ⟨kr, kr, trivial⟩ rfl ?_
      refine ls_ret ?_
      have hr := Option.some.inj h
      rw [← hr]
      exact ⟨.inl rfl, rfl⟩
    · refine ls_cF rfl g7 ?_
      refine ls_skip ?_
      refine hK1 _ (ls_keep [(1, nI a1), (2, .box [nI a0.1, dL c33_ddd a0.2]), (4, .box [oL 208 c208_oo []])] ⟨kr, kr, kr, trivial⟩ rfl ?_)
      refine ls_rs tbOk ?_
      refine evs (ev_fa (c1 := .cref 2 0) (v := .cref 2 1) rfl rfl rfl ⟨_, rfl⟩ rfl (evs (ev_ldB (off := 1) (v := dL c33_ddd a0.2) rfl rfl rfl rfl (nb rfl) rfl (evs (ev_mv (c := nI a1) rfl rfl rfl (evs (ev_fa (c1 := .cref 2 0) (v := .cref 2 0) rfl rfl rfl ⟨_, rfl⟩ rfl (evs (ev_ldB (off := 0) (v := nI a0.1) rfl rfl rfl rfl (nb rfl) rfl (evs (ev_bin (c1 := nI a1) (c2 := nI a0.1) rfl rfl rfl (?_))))))))))))
      obtain ⟨e8, g9, h⟩ := ob_some h
      refine evs (ev_ia rfl rfl rfl ⟨(geti_some g9).1, (geti_some g9).2.1⟩ (evs (ev_ldE (i := (IntKind.i64.wrap (a1 - a0.1))) (n := 1) (off := 0) (v := .agg [dL c208_dd e8]) rfl rfl zc33_ddd g9 rfl (nb rfl) rfl (?_))))
      obtain ⟨v10, g11, h⟩ := ob_some h
      refine evs (ev_call (era rfl (erg (erc (erD ec208_dd _) rfl)) eran) (impl_copyDatabase_s g11) (evs (ev_st (off := 0) (c1 := .agg [oL 208 c208_oo v10]) (cs' := [oL 208 c208_oo v10]) rfl rfl rfl rfl rfl rfl (nb rfl) rfl (evs (ev_ac rfl nofun rfl (evn ?_))))))
      refine ls_keep [(4, .box [oL 208 c208_oo v10]), (5, .bool true)] ⟨kr, kr, trivial⟩ rfl ?_
      refine ls_ret ?_
      have hr := Option.some.inj h
      rw [← hr]
      exact ⟨.inl rfl, rfl⟩
def impl_indexOf_B1 (a0 : List Int) (a1 : Int) (rec : Int → Option (Sum (Unit) (Int))) (y1 : Int) : Option (Sum (Unit) (Int)) := cond (decide (y1 < (List.length a0 : Int))) (obind (geti a0 y1) fun e5 => cond (e5 == a1) (some (.inr y1)) (rec (IntKind.i64.wrap (y1 + 1)))) (some (.inl ()))
def impl_indexOf (a0 : List Int) (a1 : Int) : Option (Int) := obind (loopF (impl_indexOf_B1 a0 a1) fz 0) fun o1 => (match o1 with
  | .inl _ => (some (-1))
  | .inr r => some r)
theorem impl_indexOf_s {a0 : List Int} {a1 : Int} {r : Int} (h : impl_indexOf a0 a1 = some r) : SoundAt Try.prog 252 [dL ci64 a0, nI a1] (nI r) := by
  unfold impl_indexOf at h
  refine sound_lit tbOk lit252 (nb rfl) rfl ?_
  unfold c252
  refine ls_keep [(0, dL ci64 a0), (1, nI a1)] ⟨kr, kr, trivial⟩ rfl ?_
  refine ls_rs tbOk ?_
  refine evs (ev_ac rfl nofun rfl (evn ?_))
  refine ls_keep [(0, dL ci64 a0), (1, nI a1)] ⟨kr, kr, trivial⟩ rfl ?_
  refine ls_seq_k fun K1 hK1 => ?_
  refine ls_rs tbOk ?_
  refine evs (ev_mv (c := dL ci64 a0) rfl rfl rfl (evs (ev_len (c1 := dL ci64 a0) rfl rfl rfl (evs (ev_mc rfl rfl (evn ?_))))))
  refine ls_keep [(1, nI a1), (7, dL ci64 a0), (8, nI (List.length a0 : Int)), (9, nI 0)] ⟨kr, kr, kr, kr, trivial⟩ rfl ?_
  obtain ⟨o1, hl, hr1⟩ := ob_some h
  clear h
  have kXimpl_indexOf_B1 : ∀ (_ : Unit), (some (-1)) = some r → ∀ σ' : PS, okK σ' [] → K1 σ' := by
    intro _ h σ' hk
    refine hK1 _ (ls_keep [] hk rfl ?_)
    refine ls_rs tbOk ?_
    refine evs (ev_ac rfl nofun rfl (evn ?_))
    refine ls_keep [(4, nI (-1))] ⟨kr, trivial⟩ rfl ?_
    refine ls_ret ?_
    have hr := Option.some.inj h
    rw [← hr]
    exact ⟨.inl rfl, rfl⟩
  refine ls_rec (fun (y1 : Int) => [(1, nI a1), (7, dL ci64 a0), (8, nI (List.length a0 : Int)), (9, nI y1)]) (impl_indexOf_B1 a0 a1) fz 0 o1 hl ⟨kr, kr, kr, kr, trivial⟩ (fun _ => rfl) ?_
  rintro m y1 N h hN
  unfold impl_indexOf_B1 at h
  refine ls_rs tbOk ?_
  refine evs (ev_bin (c1 := nI y1) (c2 := nI (List.length a0 : Int)) rfl rfl rfl (evn ?_))
  refine ls_keep [(1, nI a1), (7, dL ci64 a0), (8, nI (List.length a0 : Int)), (9, nI y1), (10, .bool (decide (y1 < (List.length a0 : Int))))] ⟨kr, kr, kr, kr, kr, trivial⟩ rfl ?_
  refine ls_seq_k fun K2 hK2 => ?_
  rcases cond_some h with ⟨g3, h⟩ | ⟨g3, h⟩
  · refine ls_cT rfl g3 ?_
    refine ls_skip ?_
    refine hK2 _ (ls_keep [(1, nI a1), (7, dL ci64 a0), (8, nI (List.length a0 : Int)), (9, nI y1)] ⟨kr, kr, kr, kr, trivial⟩ rfl ?_)
    refine ls_seq_k fun K4 hK4 => ?_
    refine ls_blk ?_
    refine ls_rs tbOk ?_
    refine evs (ev_mv (c := nI y1) rfl rfl rfl (?_))
    obtain ⟨e5, g6, h⟩ := ob_some h
    refine evs (ev_ia rfl rfl rfl ⟨(geti_some g6).1, (geti_some g6).2.1⟩ (evs (ev_ldE (i := y1) (n := 1) (off := 0) (v := nI e5) rfl rfl zci64 g6 rfl (nb rfl) rfl (evs (ev_as (c := nI y1) rfl rfl rfl (evs (ev_as (c := nI e5) rfl rfl rfl (evn ?_))))))))
    refine ls_keep [(1, nI a1), (5, nI y1), (6, nI e5), (7, dL ci64 a0), (8, nI (List.length a0 : Int)), (9, nI y1)] ⟨kr, kr, kr, kr, kr, kr, trivial⟩ rfl ?_
    refine ls_rs tbOk ?_
    refine evs (ev_mv (c := nI e5) rfl rfl rfl (evs (ev_mv (c := nI a1) rfl rfl rfl (evs (ev_bin (c1 := nI e5) (c2 := nI a1) rfl rfl rfl (evn ?_))))))
    refine ls_keep [(1, nI a1), (5, nI y1), (7, dL ci64 a0), (8, nI (List.length a0 : Int)), (9, nI y1), (16, .bool (e5 == a1))] ⟨kr, kr, kr, kr, kr, kr, trivial⟩ rfl ?_
    rcases cond_some h with ⟨g7, h⟩ | ⟨g7, h⟩
    · refine ls_cT rfl g7 ?_
      refine ls_rs tbOk ?_
      refine evs (ev_mv (c := nI y1) rfl rfl rfl (evs (ev_as (c := nI y1) rfl rfl rfl (evn ?_))))
      refine ls_keep [(4, nI y1)] ⟨kr, trivial⟩ rfl ?_
      refine ls_ret ?_
      have q0 := (Option.some.inj h).symm
      have r0 := hr1
      rw [q0] at r0
      have hr := Option.some.inj r0
      rw [← hr]
      exact ⟨.inl rfl, rfl⟩
    · refine ls_cF rfl g7 ?_
      refine ls_skip ?_
      refine hK4 _ (ls_keep [(1, nI a1), (7, dL ci64 a0), (8, nI (List.length a0 : Int)), (9, nI y1)] ⟨kr, kr, kr, kr, trivial⟩ rfl ?_)
      refine ls_rgn tbOk ?_
      refine evs (ev_bin (c1 := nI y1) (c2 := nI 1) rfl rfl rfl (evs (ev_mv (c := nI (IntKind.i64.wrap (y1 + 1))) rfl rfl rfl (evn ?_))))
      exact hN _ (IntKind.i64.wrap (y1 + 1)) h ⟨kr, kr, kr, kr, trivial⟩
  · refine ls_cF rfl g3 ?_
    refine ls_exit ?_
    have q0 := (Option.some.inj h).symm
    have r0 := hr1
    rw [q0] at r0
    exact kXimpl_indexOf_B1 () r0 _ trivial
def impl_hasInt (a0 : List Int) (a1 : Int) : Option (Bool) := obind (impl_indexOf a0 a1) fun v1 => some (decide (0 ≤ v1))
theorem impl_hasInt_s {a0 : List Int} {a1 : Int} {r : Bool} (h : impl_hasInt a0 a1 = some r) : SoundAt Try.prog 230 [dL ci64 a0, nI a1] (.bool r) := by
  unfold impl_hasInt at h
  refine sound_lit tbOk lit230 (nb rfl) rfl ?_
  unfold c230
  refine ls_keep [(0, dL ci64 a0), (1, nI a1)] ⟨kr, kr, trivial⟩ rfl ?_
  refine ls_rs tbOk ?_
  refine evs (ev_ac rfl nofun rfl (evn ?_))
  refine ls_keep [(0, dL ci64 a0), (1, nI a1)] ⟨kr, kr, trivial⟩ rfl ?_
  refine ls_rs tbOk ?_
  refine evs (ev_mv (c := dL ci64 a0) rfl rfl rfl (evs (ev_mv (c := nI a1) rfl rfl rfl (?_))))
  obtain ⟨v1, g2, h⟩ := ob_some h
  refine evs (ev_call (era rfl (erD eci64 _) (era rfl rfl eran)) (impl_indexOf_s g2) (evs (ev_bin (c1 := nI v1) (c2 := nI 0) rfl rfl rfl (evs (ev_as (c := .bool (decide (0 ≤ v1))) rfl rfl rfl (evn ?_))))))
  refine ls_keep [(4, .bool (decide (0 ≤ v1)))] ⟨kr, trivial⟩ rfl ?_
  refine ls_ret ?_
  have hr := Option.some.inj h
  rw [← hr]
  exact ⟨.inl rfl, rfl⟩
def impl_isSetOf_B1 (a0 : List Int) (a1 : Int) (rec : Int → Option (Sum (Unit) (Bool))) (y1 : Int) : Option (Sum (Unit) (Bool)) := cond (decide (y1 < (List.length a0 : Int))) (obind (geti a0 y1) fun e5 => obind (impl_within e5 0 (IntKind.i64.wrap (a1 - 1))) fun v7 => cond (!v7) (some (.inr false)) (chk ((0 : Int) ≤ 0 ∧ 0 ≤ y1 ∧ y1 ≤ (List.length a0 : Int)) (obind (impl_hasInt (subl a0 0 y1) e5) fun v11 => cond v11 (some (.inr false)) (rec (IntKind.i64.wrap (y1 + 1)))))) (some (.inl ()))
def impl_isSetOf (a0 : List Int) (a1 : Int) : Option (Bool) := obind (loopF (impl_isSetOf_B1 a0 a1) fz 0) fun o1 => (match o1 with
  | .inl _ => (some true)
  | .inr r => some r)
theorem impl_isSetOf_s {a0 : List Int} {a1 : Int} {r : Bool} (h : impl_isSetOf a0 a1 = some r) : SoundAt Try.prog 213 [dL ci64 a0, nI a1] (.bool r) := by
  unfold impl_isSetOf at h
  refine sound_lit tbOk lit213 (nb rfl) rfl ?_
  unfold c213
  refine ls_keep [(0, dL ci64 a0), (1, nI a1)] ⟨kr, kr, trivial⟩ rfl ?_
  refine ls_rs tbOk ?_
  refine evs (ev_ac rfl nofun rfl (evn ?_))
  refine ls_keep [(0, dL ci64 a0), (1, nI a1)] ⟨kr, kr, trivial⟩ rfl ?_
  refine ls_seq_k fun K1 hK1 => ?_
  refine ls_rs tbOk ?_
  refine evs (ev_mv (c := dL ci64 a0) rfl rfl rfl (evs (ev_len (c1 := dL ci64 a0) rfl rfl rfl (evs (ev_mc rfl rfl (evn ?_))))))
  refine ls_keep [(0, dL ci64 a0), (1, nI a1), (7, dL ci64 a0), (8, nI (List.length a0 : Int)), (9, nI 0)] ⟨kr, kr, kr, kr, kr, trivial⟩ rfl ?_
  obtain ⟨o1, hl, hr1⟩ := ob_some h
  clear h
  have kXimpl_isSetOf_B1 : ∀ (_ : Unit), (some true) = some r → ∀ σ' : PS, okK σ' [] → K1 σ' := by
    intro _ h σ' hk
    refine hK1 _ (ls_keep [] hk rfl ?_)
    refine ls_rs tbOk ?_
    refine evs (ev_ac rfl nofun rfl (evn ?_))
    refine ls_keep [(4, .bool true)] ⟨kr, trivial⟩ rfl ?_
    refine ls_ret ?_
    have hr := Option.some.inj h
    rw [← hr]
    exact ⟨.inl rfl, rfl⟩
  refine ls_rec (fun (y1 : Int) => [(0, dL ci64 a0), (1, nI a1), (7, dL ci64 a0), (8, nI (List.length a0 : Int)), (9, nI y1)]) (impl_isSetOf_B1 a0 a1) fz 0 o1 hl ⟨kr, kr, kr, kr, kr, trivial⟩ (fun _ => rfl) ?_
  rintro m y1 N h hN
  unfold impl_isSetOf_B1 at h
  refine ls_rs tbOk ?_
  refine evs (ev_bin (c1 := nI y1) (c2 := nI (List.length a0 : Int)) rfl rfl rfl (evn ?_))
  refine ls_keep [(0, dL ci64 a0), (1, nI a1), (7, dL ci64 a0), (8, nI (List.length a0 : Int)), (9, nI y1), (10, .bool (decide (y1 < (List.length a0 : Int))))] ⟨kr, kr, kr, kr, kr, kr, trivial⟩ rfl ?_
  refine ls_seq_k fun K2 hK2 => ?_
  rcases cond_some h with ⟨g3, h⟩ | ⟨g3, h⟩
  · refine ls_cT rfl g3 ?_
    refine ls_skip ?_
    refine hK2 _ (ls_keep [(0, dL ci64 a0), (1, nI a1), (7, dL ci64 a0), (8, nI (List.length a0 : Int)), (9, nI y1)] ⟨kr, kr, kr, kr, kr, trivial⟩ rfl ?_)
    refine ls_seq_k fun K4 hK4 => ?_
    refine ls_blk ?_
    refine ls_rs tbOk ?_
    refine evs (ev_mv (c := nI y1) rfl rfl rfl (?_))
    obtain ⟨e5, g6, h⟩ := ob_some h
    refine evs (ev_ia rfl rfl rfl ⟨(geti_some g6).1, (geti_some g6).2.1⟩ (evs (ev_ldE (i := y1) (n := 1) (off := 0) (v := nI e5) rfl rfl zci64 g6 rfl (nb rfl) rfl (evs (ev_as (c := nI y1) rfl rfl rfl (evs (ev_as (c := nI e5) rfl rfl rfl (evn ?_))))))))
    refine ls_keep [(0, dL ci64 a0), (1, nI a1), (5, nI y1), (6, nI e5), (7, dL ci64 a0), (8, nI (List.length a0 : Int)), (9, nI y1)] ⟨kr, kr, kr, kr, kr, kr, kr, trivial⟩ rfl ?_
    refine ls_rs tbOk ?_
    refine evs (ev_mv (c := nI e5) rfl rfl rfl (evs (ev_mv (c := nI a1) rfl rfl rfl (evs (ev_bin (c1 := nI a1) (c2 := nI 1) rfl rfl rfl (?_))))))
    obtain ⟨v7, g8, h⟩ := ob_some h
    refine evs (ev_call (era rfl rfl (era rfl rfl (era rfl rfl eran))) (impl_within_s g8) (evs (ev_un (c1 := .bool v7) rfl trivial (evs (ev_mv (c := .bool (!v7)) rfl rfl rfl (?_))))))
    rcases cond_some h with ⟨g9, h⟩ | ⟨g9, h⟩
    · refine evs (ev_gs rfl rfl (isb_T g9) (evs (ev_gs rfl rfl (isb_T g9) (evs (ev_gs rfl rfl (isb_T g9) (evs (ev_gs rfl rfl (isb_T g9) (evs (ev_gs rfl rfl (isb_T g9) (evs (ev_pkT (c1 := .bool true) rfl g9 rfl rfl (evn ?_))))))))))))
      refine ls_keep [(0, dL ci64 a0), (1, nI a1), (7, dL ci64 a0), (8, nI (List.length a0 : Int)), (9, nI y1), (25, .bool true)] ⟨kr, kr, kr, kr, kr, kr, trivial⟩ rfl ?_
      refine ls_cT rfl rfl ?_
      refine ls_rs tbOk ?_
      refine evs (ev_ac rfl nofun rfl (evn ?_))
      refine ls_keep [(4, .bool false)] ⟨kr, trivial⟩ rfl ?_
      refine ls_ret ?_
      have q0 := (Option.some.inj h).symm
      have r0 := hr1
      rw [q0] at r0
      have hr := Option.some.inj r0
      rw [← hr]
      exact ⟨.inl rfl, rfl⟩
    · refine evs (ev_gr rfl (congrArg V.bool g9) (ev_mv (c := dL ci64 a0) rfl rfl rfl (evs (ev_gr rfl (congrArg V.bool g9) (ev_mv (c := nI y1) rfl rfl rfl (?_))))))
      obtain ⟨g10, h⟩ := chk_some h
      refine evs (ev_gr rfl (congrArg V.bool g9) (ev_sle (lst := a0) rfl rfl zci64 rfl rfl g10 (evs (ev_gr rfl (congrArg V.bool g9) (ev_mv (c := nI e5) rfl rfl rfl (?_))))))
      obtain ⟨v11, g12, h⟩ := ob_some h
      refine evs (ev_gr rfl (congrArg V.bool g9) (ev_call (era rfl (erD eci64 _) (era rfl rfl eran)) (impl_hasInt_s g12) (evs (ev_pkF (c1 := .bool v11) rfl g9 rfl rfl (evn ?_)))))
      refine ls_keep [(0, dL ci64 a0), (1, nI a1), (7, dL ci64 a0), (8, nI (List.length a0 : Int)), (9, nI y1), (25, .bool v11)] ⟨kr, kr, kr, kr, kr, kr, trivial⟩ rfl ?_
      rcases cond_some h with ⟨g13, h⟩ | ⟨g13, h⟩
      · refine ls_cT rfl g13 ?_
        refine ls_rs tbOk ?_
        refine evs (ev_ac rfl nofun rfl (evn ?_))
        refine ls_keep [(4, .bool false)] ⟨kr, trivial⟩ rfl ?_
        refine ls_ret ?_
        have q0 := (Option.some.inj h).symm
        have r0 := hr1
        rw [q0] at r0
        have hr := Option.some.inj r0
        rw [← hr]
        exact ⟨.inl rfl, rfl⟩
      · refine ls_cF rfl g13 ?_
        refine ls_skip ?_
        refine hK4 _ (ls_keep [(0, dL ci64 a0), (1, nI a1), (7, dL ci64 a0), (8, nI (List.length a0 : Int)), (9, nI y1)] ⟨kr, kr, kr, kr, kr, trivial⟩ rfl ?_)
        refine ls_rgn tbOk ?_
        refine evs (ev_bin (c1 := nI y1) (c2 := nI 1) rfl rfl rfl (evs (ev_mv (c := nI (IntKind.i64.wrap (y1 + 1))) rfl rfl rfl (evn ?_))))
        exact hN _ (IntKind.i64.wrap (y1 + 1)) h ⟨kr, kr, kr, kr, kr, trivial⟩
  · refine ls_cF rfl g3 ?_
    refine ls_exit ?_
    have q0 := (Option.some.inj h).symm
    have r0 := hr1
    rw [q0] at r0
    exact kXimpl_isSetOf_B1 () r0 _ trivial
def impl_IsValidQuery_B2 (a0 : Y91) (e17 : Y194) (rec : ((List Bool) × Int) → Option (Sum ((List Bool)) (Bool))) (s : (List Bool) × Int) : Option (Sum ((List Bool)) (Bool)) := match s with
  | (y7, y8) => cond (decide (y8 < (List.length e17.2 : Int))) (obind (geti e17.2 y8) fun e30 => obind (impl_within e30 0 (IntKind.i64.wrap (a0.1 - 1))) fun v33 => cond (!v33) (some (.inr false)) (obind (geti y7 e30) fun e36 => rec ((seti y7 e30 true), (IntKind.i64.wrap (y8 + 1))))) (some (.inl y7))
def impl_IsValidQuery_B1 (a0 : Y91) (rec : ((List Bool) × Int) → Option (Sum ((List Bool)) (Bool))) (s : (List Bool) × Int) : Option (Sum ((List Bool)) (Bool)) := match s with
  | (y3, y4) => cond (decide (y4 < (List.length a0.2.1 : Int))) (obind (geti a0.2.1 y4) fun e17 => obind (impl_IsValidName e17.1) fun v20 => cond (!v20) (some (.inr false)) (obind (impl_within (List.length e17.2 : Int) 1 5) fun v23 => cond (!v23) (some (.inr false)) (obind (loopF (impl_IsValidQuery_B2 a0 e17) fz (y3, 0)) fun o2 => (match o2 with
  | .inl z26 => (rec (z26, (IntKind.i64.wrap (y4 + 1))))
  | .inr r => some (.inr r))))) (some (.inl y3))
def impl_IsValidQuery_B3 (z13 : List Bool) (rec : Int → Option (Sum (Unit) (Bool))) (y9 : Int) : Option (Sum (Unit) (Bool)) := cond (decide (y9 < (List.length z13 : Int))) (obind (geti z13 y9) fun e42 => cond (!e42) (some (.inr false)) (rec (IntKind.i64.wrap (y9 + 1)))) (some (.inl ()))
def impl_IsValidQuery (a0 : Y91) : Option (Bool) := obind (impl_within a0.1 1 5) fun v2 => cond (!v2) (some false) (obind (impl_within (List.length a0.2.1 : Int) 1 4) fun v5 => cond (!v5) (some false) (obind (impl_isSetOf a0.2.2 a0.1) fun v8 => cond (!v8) (some false) (chk ((0 : Int) ≤ a0.1 ∧ Int.toNat a0.1 ≤ lim) (obind (loopF (impl_IsValidQuery_B1 a0) fz ((List.replicate (Int.toNat a0.1) (false : Bool)), 0)) fun o1 => (match o1 with
  | .inl z13 => (obind (loopF (impl_IsValidQuery_B3 z13) fz 0) fun o3 => (match o3 with
  | .inl _ => (some true)
  | .inr r => some r))
  | .inr r => some r)))))
theorem impl_IsValidQuery_s {a0 : Y91} {r : Bool} (h : impl_IsValidQuery a0 = some r) : SoundAt Try.prog 209 [.agg (c92_ddd a0)] (.bool r) := by
  unfold impl_IsValidQuery at h
  refine sound_lit tbOk lit209 (nb rfl) rfl ?_
  unfold c209
  refine ls_keep [(0, .agg (c92_ddd a0))] ⟨kr, trivial⟩ rfl ?_
  refine ls_rs tbOk ?_
  refine evs (ev_bx (c1 := .agg (c92_ddd a0)) rfl rfl rfl (evs (ev_ac rfl nofun rfl (evn ?_))))
  refine ls_keep [(1, .box [nI a0.1, dL c195_d a0.2.1, dL ci64 a0.2.2])] ⟨kr, trivial⟩ rfl ?_
  refine ls_rs tbOk ?_
  refine evs (ev_fa (c1 := .cref 1 0) (v := .cref 1 0) rfl rfl rfl ⟨_, rfl⟩ rfl (evs (ev_ldB (off := 0) (v := nI a0.1) rfl rfl rfl rfl (nb rfl) rfl (evs (ev_as (c := nI a0.1) rfl rfl rfl (evn ?_))))))
  refine ls_keep [(1, .box [nI a0.1, dL c195_d a0.2.1, dL ci64 a0.2.2]), (3, nI a0.1)] ⟨kr, kr, trivial⟩ rfl ?_
  refine ls_seq_k fun K1 hK1 => ?_
  refine ls_rs tbOk ?_
  refine evs (ev_mv (c := nI a0.1) rfl rfl rfl (?_))
  obtain ⟨v2, g3, h⟩ := ob_some h
  refine evs (ev_call (era rfl rfl (era rfl rfl (era rfl rfl eran))) (impl_within_s g3) (evs (ev_un (c1 := .bool v2) rfl trivial (evs (ev_mv (c := .bool (!v2)) rfl rfl rfl (?_))))))
  rcases cond_some h with ⟨g4, h⟩ | ⟨g4, h⟩
  · refine evs (ev_gs rfl rfl (isb_T g4) (evs (ev_gs rfl rfl (isb_T g4) (evs (ev_gs rfl rfl (isb_T g4) (evs (ev_gs rfl rfl (isb_T g4) (evs (ev_gs rfl rfl (isb_T g4) (evs (ev_pkT (c1 := .bool true) rfl g4 rfl rfl (evs (ev_mv (c := .bool true) rfl rfl rfl (evs (ev_gs rfl rfl rfl (evs (ev_gs rfl rfl rfl (evs (ev_gs rfl rfl rfl (evs (ev_gs rfl rfl rfl (evs (ev_gs rfl rfl rfl (evs (ev_pkT (c1 := .bool true) rfl rfl rfl rfl (evn ?_))))))))))))))))))))))))))
    refine ls_keep [(1, .box [nI a0.1, dL c195_d a0.2.1, dL ci64 a0.2.2]), (3, nI a0.1), (29, .bool true)] ⟨kr, kr, kr, trivial⟩ rfl ?_
    refine ls_cT rfl rfl ?_
    refine ls_rs tbOk ?_
    refine evs (ev_ac rfl nofun rfl (evn ?_))
    refine ls_keep [(2, .bool false)] ⟨kr, trivial⟩ rfl ?_
    refine ls_ret ?_
    have hr := Option.some.inj h
    rw [← hr]
    exact ⟨.inl rfl, rfl⟩
  · refine evs (ev_gr rfl (congrArg V.bool g4) (ev_fa (c1 := .cref 1 0) (v := .cref 1 1) rfl rfl rfl ⟨_, rfl⟩ rfl (evs (ev_gr rfl (congrArg V.bool g4) (ev_ldB (off := 1) (v := dL c195_d a0.2.1) rfl rfl rfl rfl (nb rfl) rfl (evs (ev_gr rfl (congrArg V.bool g4) (ev_len (c1 := dL c195_d a0.2.1) rfl rfl rfl (?_)))))))))
    obtain ⟨v5, g6, h⟩ := ob_some h
    refine evs (ev_gr rfl (congrArg V.bool g4) (ev_call (era rfl rfl (era rfl rfl (era rfl rfl eran))) (impl_within_s g6) (evs (ev_gr rfl (congrArg V.bool g4) (ev_un (c1 := .bool v5) rfl trivial (evs (ev_pkF (c1 := .bool (!v5)) rfl g4 rfl rfl (evs (ev_mv (c := .bool (!v5)) rfl rfl rfl (?_))))))))))
    rcases cond_some h with ⟨g7, h⟩ | ⟨g7, h⟩
    · refine evs (ev_gs rfl rfl (isb_T g7) (evs (ev_gs rfl rfl (isb_T g7) (evs (ev_gs rfl rfl (isb_T g7) (evs (ev_gs rfl rfl (isb_T g7) (evs (ev_gs rfl rfl (isb_T g7) (evs (ev_pkT (c1 := .bool true) rfl g7 rfl rfl (evn ?_))))))))))))
      refine ls_keep [(1, .box [nI a0.1, dL c195_d a0.2.1, dL ci64 a0.2.2]), (3, nI a0.1), (29, .bool true)] ⟨kr, kr, kr, trivial⟩ rfl ?_
      refine ls_cT rfl rfl ?_
      refine ls_rs tbOk ?_
      refine evs (ev_ac rfl nofun rfl (evn ?_))
      refine ls_keep [(2, .bool false)] ⟨kr, trivial⟩ rfl ?_
      refine ls_ret ?_
      have hr := Option.some.inj h
      rw [← hr]
      exact ⟨.inl rfl, rfl⟩
    · refine evs (ev_gr rfl (congrArg V.bool g7) (ev_fa (c1 := .cref 1 0) (v := .cref 1 2) rfl rfl rfl ⟨_, rfl⟩ rfl (evs (ev_gr rfl (congrArg V.bool g7) (ev_ldB (off := 2) (v := dL ci64 a0.2.2) rfl rfl rfl rfl (nb rfl) rfl (evs (ev_gr rfl (congrArg V.bool g7) (ev_mv (c := nI a0.1) rfl rfl rfl (?_)))))))))
      obtain ⟨v8, g9, h⟩ := ob_some h
      refine evs (ev_gr rfl (congrArg V.bool g7) (ev_call (era rfl (erD eci64 _) (era rfl rfl eran)) (impl_isSetOf_s g9) (evs (ev_gr rfl (congrArg V.bool g7) (ev_un (c1 := .bool v8) rfl trivial (evs (ev_pkF (c1 := .bool (!v8)) rfl g7 rfl rfl (evn ?_))))))))
      refine ls_keep [(1, .box [nI a0.1, dL c195_d a0.2.1, dL ci64 a0.2.2]), (3, nI a0.1), (29, .bool (!v8))] ⟨kr, kr, kr, trivial⟩ rfl ?_
      rcases cond_some h with ⟨g10, h⟩ | ⟨g10, h⟩
      · refine ls_cT rfl g10 ?_
        refine ls_rs tbOk ?_
        refine evs (ev_ac rfl nofun rfl (evn ?_))
        refine ls_keep [(2, .bool false)] ⟨kr, trivial⟩ rfl ?_
        refine ls_ret ?_
        have hr := Option.some.inj h
        rw [← hr]
        exact ⟨.inl rfl, rfl⟩
      · refine ls_cF rfl g10 ?_
        refine ls_skip ?_
        refine hK1 _ (ls_keep [(1, .box [nI a0.1, dL c195_d a0.2.1, dL ci64 a0.2.2]), (3, nI a0.1)] ⟨kr, kr, trivial⟩ rfl ?_)
        refine ls_rs tbOk ?_
        refine evs (ev_mv (c := nI a0.1) rfl rfl rfl (?_))
        obtain ⟨g11, h⟩ := chk_some h
        refine evs (ev_mku (f := cbl) (z := (false : Bool)) rfl rfl rfl rfl rfl rfl g11 rfl (evs (ev_asu rfl rfl rfl (evn ?_))))
        refine ls_keep [(1, .box [nI a0.1, dL c195_d a0.2.1, dL ci64 a0.2.2]), (3, nI a0.1), (4, wL 4 cbl (List.replicate (Int.toNat a0.1) (false : Bool)))] ⟨kr, kr, kr, trivial⟩ rfl ?_
        refine ls_seq_k fun K12 hK12 => ?_
        refine ls_rs tbOk ?_
        refine evs (ev_fa (c1 := .cref 1 0) (v := .cref 1 1) rfl rfl rfl ⟨_, rfl⟩ rfl (evs (ev_ldB (off := 1) (v := dL c195_d a0.2.1) rfl rfl rfl rfl (nb rfl) rfl (evs (ev_len (c1 := dL c195_d a0.2.1) rfl rfl rfl (evs (ev_mc rfl rfl (evn ?_))))))))
        refine ls_keep [(3, nI a0.1), (4, wL 4 cbl (List.replicate (Int.toNat a0.1) (false : Bool))), (33, dL c195_d a0.2.1), (34, nI (List.length a0.2.1 : Int)), (35, nI 0)] ⟨kr, kr, kr, kr, kr, trivial⟩ rfl ?_
        obtain ⟨o1, hl, hr1⟩ := ob_some h
        clear h
        have kXimpl_IsValidQuery_B1 : ∀ (z13 : List Bool), (obind (loopF (impl_IsValidQuery_B3 z13) fz 0) fun o3 => (match o3 with
  | .inl _ => (some true)
  | .inr r => some r)) = some r → ∀ σ' : PS, okK σ' [(4, wL 4 cbl z13)] → K12 σ' := by
          intro z13 h σ' hk
          refine hK12 _ (ls_keep [(4, wL 4 cbl z13)] hk rfl ?_)
          refine ls_seq_k fun K38 hK38 => ?_
          refine ls_rs tbOk ?_
          refine evs (ev_mvu rfl rfl (evs (ev_lenu rfl rfl rfl (evs (ev_mc rfl rfl (evn ?_))))))
          refine ls_keep [(4, wL 4 cbl z13), (67, .same 4), (68, nI (List.length z13 : Int)), (69, nI 0)] ⟨kr, kr, kr, kr, trivial⟩ rfl ?_
          obtain ⟨o3, hl, hr3⟩ := ob_some h
          clear h
          have kXimpl_IsValidQuery_B3 : ∀ (_ : Unit), (some true) = some r → ∀ σ' : PS, okK σ' [] → K38 σ' := by
            intro _ h σ' hk
            refine hK38 _ (ls_keep [] hk rfl ?_)
            refine ls_rs tbOk ?_
            refine evs (ev_ac rfl nofun rfl (evn ?_))
            refine ls_keep [(2, .bool true)] ⟨kr, trivial⟩ rfl ?_
            refine ls_ret ?_
            have hr := Option.some.inj h
            rw [← hr]
            exact ⟨.inl rfl, rfl⟩
          refine ls_rec (fun (y9 : Int) => [(4, wL 4 cbl z13), (67, .same 4), (68, nI (List.length z13 : Int)), (69, nI y9)]) (impl_IsValidQuery_B3 z13) fz 0 o3 hl ⟨kr, kr, kr, kr, trivial⟩ (fun _ => rfl) ?_
          rintro m y9 N h hN
          unfold impl_IsValidQuery_B3 at h
          refine ls_rs tbOk ?_
          refine evs (ev_bin (c1 := nI y9) (c2 := nI (List.length z13 : Int)) rfl rfl rfl (evn ?_))
          refine ls_keep [(4, wL 4 cbl z13), (67, .same 4), (68, nI (List.length z13 : Int)), (69, nI y9), (70, .bool (decide (y9 < (List.length z13 : Int))))] ⟨kr, kr, kr, kr, kr, trivial⟩ rfl ?_
          refine ls_seq_k fun K39 hK39 => ?_
          rcases cond_some h with ⟨g40, h⟩ | ⟨g40, h⟩
          · refine ls_cT rfl g40 ?_
            refine ls_skip ?_
            refine hK39 _ (ls_keep [(4, wL 4 cbl z13), (67, .same 4), (68, nI (List.length z13 : Int)), (69, nI y9)] ⟨kr, kr, kr, kr, trivial⟩ rfl ?_)
            refine ls_seq_k fun K41 hK41 => ?_
            refine ls_blk ?_
            refine ls_rs tbOk ?_
            obtain ⟨e42, g43, h⟩ := ob_some h
            refine evs (ev_iau rfl rfl rfl rfl ⟨(geti_some g43).1, (geti_some g43).2.1⟩ (evs (ev_ldU (off := 0) (v := .bool e42) rfl rfl rfl zcbl g43 rfl (nb rfl) rfl (evs (ev_as (c := .bool e42) rfl rfl rfl (evn ?_))))))
            refine ls_keep [(4, wL 4 cbl z13), (10, .bool e42), (67, .same 4), (68, nI (List.length z13 : Int)), (69, nI y9)] ⟨kr, kr, kr, kr, kr, trivial⟩ rfl ?_
            refine ls_rs tbOk ?_
            refine evs (ev_mv (c := .bool e42) rfl rfl rfl (evs (ev_un (c1 := .bool e42) rfl trivial (evn ?_))))
            refine ls_keep [(4, wL 4 cbl z13), (67, .same 4), (68, nI (List.length z13 : Int)), (69, nI y9), (74, .bool (!e42))] ⟨kr, kr, kr, kr, kr, trivial⟩ rfl ?_
            rcases cond_some h with ⟨g44, h⟩ | ⟨g44, h⟩
            · refine ls_cT rfl g44 ?_
              refine ls_rs tbOk ?_
              refine evs (ev_ac rfl nofun rfl (evn ?_))
              refine ls_keep [(2, .bool false)] ⟨kr, trivial⟩ rfl ?_
              refine ls_ret ?_
              have q0 := (Option.some.inj h).symm
              have r0 := hr3
              rw [q0] at r0
              have hr := Option.some.inj r0
              rw [← hr]
              exact ⟨.inl rfl, rfl⟩
            · refine ls_cF rfl g44 ?_
              refine ls_skip ?_
              refine hK41 _ (ls_keep [(4, wL 4 cbl z13), (67, .same 4), (68, nI (List.length z13 : Int)), (69, nI y9)] ⟨kr, kr, kr, kr, trivial⟩ rfl ?_)
              refine ls_rgn tbOk ?_
              refine evs (ev_bin (c1 := nI y9) (c2 := nI 1) rfl rfl rfl (evs (ev_mv (c := nI (IntKind.i64.wrap (y9 + 1))) rfl rfl rfl (evn ?_))))
              exact hN _ (IntKind.i64.wrap (y9 + 1)) h ⟨kr, kr, kr, kr, trivial⟩
          · refine ls_cF rfl g40 ?_
            refine ls_exit ?_
            have q0 := (Option.some.inj h).symm
            have r0 := hr3
            rw [q0] at r0
            exact kXimpl_IsValidQuery_B3 () r0 _ trivial
        refine ls_rec (fun (s : (List Bool) × Int) => match s with | (y3, y4) => [(3, nI a0.1), (4, wL 4 cbl y3), (33, dL c195_d a0.2.1), (34, nI (List.length a0.2.1 : Int)), (35, nI y4)]) (impl_IsValidQuery_B1 a0) fz ((List.replicate (Int.toNat a0.1) (false : Bool)), 0) o1 hl ⟨kr, kr, kr, kr, kr, trivial⟩ (fun _ => rfl) ?_
        rintro m ⟨y3, y4⟩ N h hN
        unfold impl_IsValidQuery_B1 at h
        dsimp only at h
        refine ls_rs tbOk ?_
        refine evs (ev_bin (c1 := nI y4) (c2 := nI (List.length a0.2.1 : Int)) rfl rfl rfl (evn ?_))
        refine ls_keep [(3, nI a0.1), (4, wL 4 cbl y3), (33, dL c195_d a0.2.1), (34, nI (List.length a0.2.1 : Int)), (35, nI y4), (36, .bool (decide (y4 < (List.length a0.2.1 : Int))))] ⟨kr, kr, kr, kr, kr, kr, trivial⟩ rfl ?_
        refine ls_seq_k fun K14 hK14 => ?_
        rcases cond_some h with ⟨g15, h⟩ | ⟨g15, h⟩
        · refine ls_cT rfl g15 ?_
          refine ls_skip ?_
          refine hK14 _ (ls_keep [(3, nI a0.1), (4, wL 4 cbl y3), (33, dL c195_d a0.2.1), (34, nI (List.length a0.2.1 : Int)), (35, nI y4)] ⟨kr, kr, kr, kr, kr, trivial⟩ rfl ?_)
          refine ls_seq_k fun K16 hK16 => ?_
          refine ls_blk ?_
          refine ls_rs tbOk ?_
          obtain ⟨e17, g18, h⟩ := ob_some h
          refine evs (ev_ia rfl rfl rfl ⟨(geti_some g18).1, (geti_some g18).2.1⟩ (evs (ev_ldEt (i := y4) (n := 2) (off := 0) (v := .agg (c195_d e17)) rfl rfl zc195_d g18 rfl (nb rfl) rfl (evs (ev_al rfl rfl (evs (ev_st (off := 0) (c1 := .agg (c195_d e17)) (cs' := [.str e17.1, dL ci64 e17.2]) rfl rfl rfl rfl rfl rfl (nb rfl) rfl (evn ?_))))))))
          refine ls_keep [(3, nI a0.1), (4, wL 4 cbl y3), (6, .box [.str e17.1, dL ci64 e17.2]), (33, dL c195_d a0.2.1), (34, nI (List.length a0.2.1 : Int)), (35, nI y4)] ⟨kr, kr, kr, kr, kr, kr, trivial⟩ rfl ?_
          refine ls_seq_k fun K19 hK19 => ?_
          refine ls_rs tbOk ?_
          refine evs (ev_fa (c1 := .cref 6 0) (v := .cref 6 0) rfl rfl rfl ⟨_, rfl⟩ rfl (evs (ev_ldB (off := 0) (v := .str e17.1) rfl rfl rfl rfl (nb rfl) rfl (?_))))
          obtain ⟨v20, g21, h⟩ := ob_some h
          refine evs (ev_call (era rfl rfl eran) (impl_IsValidName_s g21) (evs (ev_un (c1 := .bool v20) rfl trivial (evs (ev_mv (c := .bool (!v20)) rfl rfl rfl (?_))))))
          rcases cond_some h with ⟨g22, h⟩ | ⟨g22, h⟩
          · refine evs (ev_gs rfl rfl (isb_T g22) (evs (ev_gs rfl rfl (isb_T g22) (evs (ev_gs rfl rfl (isb_T g22) (evs (ev_gs rfl rfl (isb_T g22) (evs (ev_gs rfl rfl (isb_T g22) (evs (ev_pkT (c1 := .bool true) rfl g22 rfl rfl (evn ?_))))))))))))
            refine ls_keep [(3, nI a0.1), (4, wL 4 cbl y3), (6, .box [.str e17.1, dL ci64 e17.2]), (33, dL c195_d a0.2.1), (34, nI (List.length a0.2.1 : Int)), (35, nI y4), (49, .bool true)] ⟨kr, kr, kr, kr, kr, kr, kr, trivial⟩ rfl ?_
            refine ls_cT rfl rfl ?_
            refine ls_rs tbOk ?_
            refine evs (ev_ac rfl nofun rfl (evn ?_))
            refine ls_keep [(2, .bool false)] ⟨kr, trivial⟩ rfl ?_
            refine ls_ret ?_
            have q0 := (Option.some.inj h).symm
            have r0 := hr1
            rw [q0] at r0
            have hr := Option.some.inj r0
            rw [← hr]
            exact ⟨.inl rfl, rfl⟩
          · refine evs (ev_gr rfl (congrArg V.bool g22) (ev_fa (c1 := .cref 6 0) (v := .cref 6 1) rfl rfl rfl ⟨_, rfl⟩ rfl (evs (ev_gr rfl (congrArg V.bool g22) (ev_ldB (off := 1) (v := dL ci64 e17.2) rfl rfl rfl rfl (nb rfl) rfl (evs (ev_gr rfl (congrArg V.bool g22) (ev_len (c1 := dL ci64 e17.2) rfl rfl rfl (?_)))))))))
            obtain ⟨v23, g24, h⟩ := ob_some h
            refine evs (ev_gr rfl (congrArg V.bool g22) (ev_call (era rfl rfl (era rfl rfl (era rfl rfl eran))) (impl_within_s g24) (evs (ev_gr rfl (congrArg V.bool g22) (ev_un (c1 := .bool v23) rfl trivial (evs (ev_pkF (c1 := .bool (!v23)) rfl g22 rfl rfl (evn ?_))))))))
            refine ls_keep [(3, nI a0.1), (4, wL 4 cbl y3), (6, .box [.str e17.1, dL ci64 e17.2]), (33, dL c195_d a0.2.1), (34, nI (List.length a0.2.1 : Int)), (35, nI y4), (49, .bool (!v23))] ⟨kr, kr, kr, kr, kr, kr, kr, trivial⟩ rfl ?_
            rcases cond_some h with ⟨g25, h⟩ | ⟨g25, h⟩
            · refine ls_cT rfl g25 ?_
              refine ls_rs tbOk ?_
              refine evs (ev_ac rfl nofun rfl (evn ?_))
              refine ls_keep [(2, .bool false)] ⟨kr, trivial⟩ rfl ?_
              refine ls_ret ?_
              have q0 := (Option.some.inj h).symm
              have r0 := hr1
              rw [q0] at r0
              have hr := Option.some.inj r0
              rw [← hr]
              exact ⟨.inl rfl, rfl⟩
            · refine ls_cF rfl g25 ?_
              refine ls_skip ?_
              refine hK19 _ (ls_keep [(3, nI a0.1), (4, wL 4 cbl y3), (6, .box [.str e17.1, dL ci64 e17.2]), (33, dL c195_d a0.2.1), (34, nI (List.length a0.2.1 : Int)), (35, nI y4)] ⟨kr, kr, kr, kr, kr, kr, trivial⟩ rfl ?_)
              refine ls_rs tbOk ?_
              refine evs (ev_fa (c1 := .cref 6 0) (v := .cref 6 1) rfl rfl rfl ⟨_, rfl⟩ rfl (evs (ev_ldB (off := 1) (v := dL ci64 e17.2) rfl rfl rfl rfl (nb rfl) rfl (evs (ev_len (c1 := dL ci64 e17.2) rfl rfl rfl (evs (ev_mc rfl rfl (evn ?_))))))))
              refine ls_keep [(3, nI a0.1), (4, wL 4 cbl y3), (33, dL c195_d a0.2.1), (34, nI (List.length a0.2.1 : Int)), (35, nI y4), (51, dL ci64 e17.2), (52, nI (List.length e17.2 : Int)), (53, nI 0)] ⟨kr, kr, kr, kr, kr, kr, kr, kr, trivial⟩ rfl ?_
              obtain ⟨o2, hl, hr2⟩ := ob_some h
              clear h
              have kXimpl_IsValidQuery_B2 : ∀ (z26 : List Bool), ((loopF (impl_IsValidQuery_B1 a0) m) (z26, (IntKind.i64.wrap (y4 + 1)))) = some o1 → ∀ σ' : PS, okK σ' [(3, nI a0.1), (4, wL 4 cbl z26), (33, dL c195_d a0.2.1), (34, nI (List.length a0.2.1 : Int)), (35, nI y4)] → K16 σ' := by
                intro z26 h σ' hk
                refine hK16 _ (ls_keep [(3, nI a0.1), (4, wL 4 cbl z26), (33, dL c195_d a0.2.1), (34, nI (List.length a0.2.1 : Int)), (35, nI y4)] hk rfl ?_)
                refine ls_rgn tbOk ?_
                refine evs (ev_bin (c1 := nI y4) (c2 := nI 1) rfl rfl rfl (evs (ev_mv (c := nI (IntKind.i64.wrap (y4 + 1))) rfl rfl rfl (evn ?_))))
                exact hN _ (z26, (IntKind.i64.wrap (y4 + 1))) h ⟨kr, kr, kr, kr, kr, trivial⟩
              refine ls_rec (fun (s : (List Bool) × Int) => match s with | (y7, y8) => [(3, nI a0.1), (4, wL 4 cbl y7), (33, dL c195_d a0.2.1), (34, nI (List.length a0.2.1 : Int)), (35, nI y4), (51, dL ci64 e17.2), (52, nI (List.length e17.2 : Int)), (53, nI y8)]) (impl_IsValidQuery_B2 a0 e17) fz (y3, 0) o2 hl ⟨kr, kr, kr, kr, kr, kr, kr, kr, trivial⟩ (fun _ => rfl) ?_
              rintro m ⟨y7, y8⟩ N h hN
              unfold impl_IsValidQuery_B2 at h
              dsimp only at h
              refine ls_rs tbOk ?_
              refine evs (ev_bin (c1 := nI y8) (c2 := nI (List.length e17.2 : Int)) rfl rfl rfl (evn ?_))
              refine ls_keep [(3, nI a0.1), (4, wL 4 cbl y7), (33, dL c195_d a0.2.1), (34, nI (List.length a0.2.1 : Int)), (35, nI y4), (51, dL ci64 e17.2), (52, nI (List.length e17.2 : Int)), (53, nI y8), (54, .bool (decide (y8 < (List.length e17.2 : Int))))] ⟨kr, kr, kr, kr, kr, kr, kr, kr, kr, trivial⟩ rfl ?_
              refine ls_seq_k fun K27 hK27 => ?_
              rcases cond_some h with ⟨g28, h⟩ | ⟨g28, h⟩
              · refine ls_cT rfl g28 ?_
                refine ls_skip ?_
                refine hK27 _ (ls_keep [(3, nI a0.1), (4, wL 4 cbl y7), (33, dL c195_d a0.2.1), (34, nI (List.length a0.2.1 : Int)), (35, nI y4), (51, dL ci64 e17.2), (52, nI (List.length e17.2 : Int)), (53, nI y8)] ⟨kr, kr, kr, kr, kr, kr, kr, kr, trivial⟩ rfl ?_)
                refine ls_seq_k fun K29 hK29 => ?_
                refine ls_blk ?_
                refine ls_rs tbOk ?_
                obtain ⟨e30, g31, h⟩ := ob_some h
                refine evs (ev_ia rfl rfl rfl ⟨(geti_some g31).1, (geti_some g31).2.1⟩ (evs (ev_ldE (i := y8) (n := 1) (off := 0) (v := nI e30) rfl rfl zci64 g31 rfl (nb rfl) rfl (evs (ev_as (c := nI e30) rfl rfl rfl (evn ?_))))))
                refine ls_keep [(3, nI a0.1), (4, wL 4 cbl y7), (8, nI e30), (33, dL c195_d a0.2.1), (34, nI (List.length a0.2.1 : Int)), (35, nI y4), (51, dL ci64 e17.2), (52, nI (List.length e17.2 : Int)), (53, nI y8)] ⟨kr, kr, kr, kr, kr, kr, kr, kr, kr, trivial⟩ rfl ?_
                refine ls_seq_k fun K32 hK32 => ?_
                refine ls_rs tbOk ?_
                refine evs (ev_mv (c := nI e30) rfl rfl rfl (evs (ev_mv (c := nI a0.1) rfl rfl rfl (evs (ev_bin (c1 := nI a0.1) (c2 := nI 1) rfl rfl rfl (?_))))))
                obtain ⟨v33, g34, h⟩ := ob_some h
                refine evs (ev_call (era rfl rfl (era rfl rfl (era rfl rfl eran))) (impl_within_s g34) (evs (ev_un (c1 := .bool v33) rfl trivial (evn ?_))))
                refine ls_keep [(3, nI a0.1), (4, wL 4 cbl y7), (8, nI e30), (33, dL c195_d a0.2.1), (34, nI (List.length a0.2.1 : Int)), (35, nI y4), (51, dL ci64 e17.2), (52, nI (List.length e17.2 : Int)), (53, nI y8), (61, .bool (!v33))] ⟨kr, kr, kr, kr, kr, kr, kr, kr, kr, kr, trivial⟩ rfl ?_
                rcases cond_some h with ⟨g35, h⟩ | ⟨g35, h⟩
                · refine ls_cT rfl g35 ?_
                  refine ls_rs tbOk ?_
                  refine evs (ev_ac rfl nofun rfl (evn ?_))
                  refine ls_keep [(2, .bool false)] ⟨kr, trivial⟩ rfl ?_
                  refine ls_ret ?_
                  have q0 := (Option.some.inj h).symm
                  have r0 := hr2
                  rw [q0] at r0
                  have q1 := (Option.some.inj r0).symm
                  have r1 := hr1
                  rw [q1] at r1
                  have hr := Option.some.inj r1
                  rw [← hr]
                  exact ⟨.inl rfl, rfl⟩
                · refine ls_cF rfl g35 ?_
                  refine ls_skip ?_
                  refine hK32 _ (ls_keep [(3, nI a0.1), (4, wL 4 cbl y7), (8, nI e30), (33, dL c195_d a0.2.1), (34, nI (List.length a0.2.1 : Int)), (35, nI y4), (51, dL ci64 e17.2), (52, nI (List.length e17.2 : Int)), (53, nI y8)] ⟨kr, kr, kr, kr, kr, kr, kr, kr, kr, trivial⟩ rfl ?_)
                  refine ls_rgn tbOk ?_
                  refine evs (ev_mvu rfl rfl (evs (ev_mv (c := nI e30) rfl rfl rfl (?_))))
                  obtain ⟨e36, g37, h⟩ := ob_some h
                  refine evs (ev_iau rfl rfl rfl rfl ⟨(geti_some g37).1, (geti_some g37).2.1⟩ (evs (ev_stu (e := true) (c1 := .bool true) rfl rfl zcbl ⟨(geti_some g37).1, (geti_some g37).2.1⟩ rfl rfl rfl rfl rfl (evn ?_))))
                  refine hK29 _ (ls_keep [(3, nI a0.1), (4, wL 4 cbl (seti y7 e30 true)), (33, dL c195_d a0.2.1), (34, nI (List.length a0.2.1 : Int)), (35, nI y4), (51, dL ci64 e17.2), (52, nI (List.length e17.2 : Int)), (53, nI y8)] ⟨kr, kr, kr, kr, kr, kr, kr, kr, trivial⟩ rfl ?_)
                  refine ls_rgn tbOk ?_
                  refine evs (ev_bin (c1 := nI y8) (c2 := nI 1) rfl rfl rfl (evs (ev_mv (c := nI (IntKind.i64.wrap (y8 + 1))) rfl rfl rfl (evn ?_))))
                  exact hN _ ((seti y7 e30 true), (IntKind.i64.wrap (y8 + 1))) h ⟨kr, kr, kr, kr, kr, kr, kr, kr, trivial⟩
              · refine ls_cF rfl g28 ?_
                refine ls_exit ?_
                have q0 := (Option.some.inj h).symm
                have r0 := hr2
                rw [q0] at r0
                exact kXimpl_IsValidQuery_B2 y7 r0 _ ⟨kr, kr, kr, kr, kr, trivial⟩
        · refine ls_cF rfl g15 ?_
          refine ls_exit ?_
          have q0 := (Option.some.inj h).symm
          have r0 := hr1
          rw [q0] at r0
          exact kXimpl_IsValidQuery_B1 y3 r0 _ ⟨kr, trivial⟩
def impl_IsValidOrder_J1 (x2 : Bool) : Option (Bool) := some x2
def impl_IsValidOrder (a0 : Y91) (a1 : List Int) : Option (Bool) := obind (impl_IsValidQuery a0) fun v3 => cond v3 (cond ((List.length a1 : Int) == a0.1) (obind (impl_isSetOf a1 a0.1) fun v7 => impl_IsValidOrder_J1 v7) (impl_IsValidOrder_J1 false)) (impl_IsValidOrder_J1 false)
theorem impl_IsValidOrder_s {a0 : Y91} {a1 : List Int} {r : Bool} (h : impl_IsValidOrder a0 a1 = some r) : SoundAt Try.prog 131 [.agg (c92_ddd a0), dL ci64 a1] (.bool r) := by
  unfold impl_IsValidOrder at h
  refine sound_lit tbOk lit131 (nb rfl) rfl ?_
  unfold c131
  refine ls_keep [(0, .agg (c92_ddd a0)), (1, dL ci64 a1)] ⟨kr, kr, trivial⟩ rfl ?_
  refine ls_rs tbOk ?_
  refine evs (ev_bx (c1 := .agg (c92_ddd a0)) rfl rfl rfl (evs (ev_ac rfl nofun rfl (evn ?_))))
  refine ls_keep [(1, dL ci64 a1), (2, .box [nI a0.1, dL c195_d a0.2.1, dL ci64 a0.2.2])] ⟨kr, kr, trivial⟩ rfl ?_
  refine ls_rs_k tbOk fun K1 hK1 => ?_
  have kimpl_IsValidOrder_J1 : ∀ (x2 : Bool), impl_IsValidOrder_J1 x2 = some r → ∀ σ' : PS, okK σ' [(4, .bool x2)] → K1 σ' := by
    intro x2 h σ' hk
    unfold impl_IsValidOrder_J1 at h
    refine hK1 _ (ls_keep [(4, .bool x2)] hk rfl ?_)
    refine ls_ret ?_
    have hr := Option.some.inj h
    rw [← hr]
    exact ⟨.inl rfl, rfl⟩
  refine evs (ev_ldB (off := 0) (v := .agg (c92_ddd a0)) rfl rfl rfl rfl (nb rfl) rfl (?_))
  obtain ⟨v3, g4, h⟩ := ob_some h
  refine evs (ev_call (era rfl (erg (erc rfl (erc (erD ec195_d _) (erc (erD eci64 _) rfl)))) eran) (impl_IsValidQuery_s g4) (evs (ev_mv (c := .bool v3) rfl rfl rfl (?_))))
  rcases cond_some h with ⟨g5, h⟩ | ⟨g5, h⟩
  · refine evs (ev_gr rfl (congrArg V.bool g5) (ev_mv (c := dL ci64 a1) rfl rfl rfl (evs (ev_gr rfl (congrArg V.bool g5) (ev_len (c1 := dL ci64 a1) rfl rfl rfl (evs (ev_gr rfl (congrArg V.bool g5) (ev_fa (c1 := .cref 2 0) (v := .cref 2 0) rfl rfl rfl ⟨_, rfl⟩ rfl (evs (ev_gr rfl (congrArg V.bool g5) (ev_ldB (off := 0) (v := nI a0.1) rfl rfl rfl rfl (nb rfl) rfl (evs (ev_gr rfl (congrArg V.bool g5) (ev_bin (c1 := nI (List.length a1 : Int)) (c2 := nI a0.1) rfl rfl rfl (evs (ev_pkT (c1 := .bool ((List.length a1 : Int) == a0.1)) rfl g5 rfl rfl (evs (ev_mv (c := .bool ((List.length a1 : Int) == a0.1)) rfl rfl rfl (?_)))))))))))))))))))
    rcases cond_some h with ⟨g6, h⟩ | ⟨g6, h⟩
    · refine evs (ev_gr rfl (congrArg V.bool g6) (ev_mv (c := dL ci64 a1) rfl rfl rfl (evs (ev_gr rfl (congrArg V.bool g6) (ev_fa (c1 := .cref 2 0) (v := .cref 2 0) rfl rfl rfl ⟨_, rfl⟩ rfl (evs (ev_gr rfl (congrArg V.bool g6) (ev_ldB (off := 0) (v := nI a0.1) rfl rfl rfl rfl (nb rfl) rfl (?_)))))))))
      obtain ⟨v7, g8, h⟩ := ob_some h
      refine evs (ev_gr rfl (congrArg V.bool g6) (ev_call (era rfl (erD eci64 _) (era rfl rfl eran)) (impl_isSetOf_s g8) (evs (ev_pkT (c1 := .bool v7) rfl g6 rfl rfl (evs (ev_as (c := .bool v7) rfl rfl rfl (evn ?_)))))))
      exact kimpl_IsValidOrder_J1 v7 h _ ⟨kr, trivial⟩
    · refine evs (ev_gs rfl rfl (isb_F g6) (evs (ev_gs rfl rfl (isb_F g6) (evs (ev_gs rfl rfl (isb_F g6) (evs (ev_gs rfl rfl (isb_F g6) (evs (ev_pkF (c1 := .bool false) rfl g6 rfl rfl (evs (ev_as (c := .bool false) rfl rfl rfl (evn ?_))))))))))))
      exact kimpl_IsValidOrder_J1 false h _ ⟨kr, trivial⟩
  · refine evs (ev_gs rfl rfl (isb_F g5) (evs (ev_gs rfl rfl (isb_F g5) (evs (ev_gs rfl rfl (isb_F g5) (evs (ev_gs rfl rfl (isb_F g5) (evs (ev_gs rfl rfl (isb_F g5) (evs (ev_pkF (c1 := .bool false) rfl g5 rfl rfl (evs (ev_mv (c := .bool false) rfl rfl rfl (evs (ev_gs rfl rfl rfl (evs (ev_gs rfl rfl rfl (evs (ev_gs rfl rfl rfl (evs (ev_gs rfl rfl rfl (evs (ev_pkF (c1 := .bool false) rfl rfl rfl rfl (evs (ev_as (c := .bool false) rfl rfl rfl (evn ?_))))))))))))))))))))))))))
    exact kimpl_IsValidOrder_J1 false h _ ⟨kr, trivial⟩
def impl_LookupRelation_J1  : Option (Y127 × Bool) := some ((0, []), false)
def impl_LookupRelation_B2 (a0 : List Y207) (a1 : List UInt8) (rec : Int → Option (Sum (Unit) (Y127 × Bool))) (y2 : Int) : Option (Sum (Unit) (Y127 × Bool)) := cond (decide (y2 < (List.length a0 : Int))) (obind (geti a0 y2) fun e8 => cond (e8.1 == a1) (obind (impl_copyRelation e8.2) fun v11 => some (.inr (v11, true))) (rec (IntKind.i64.wrap (y2 + 1)))) (some (.inl ()))
def impl_LookupRelation (a0 : List Y207) (a1 : List UInt8) : Option (Y127 × Bool) := obind (impl_IsValidDatabase a0) fun v2 => cond v2 (obind (loopF (impl_LookupRelation_B2 a0 a1) fz 0) fun o2 => (match o2 with
  | .inl _ => (impl_LookupRelation_J1 )
  | .inr r => some r)) (impl_LookupRelation_J1 )
theorem impl_LookupRelation_s {a0 : List Y207} {a1 : List UInt8} {r : Y127 × Bool} (h : impl_LookupRelation a0 a1 = some r) : SoundAt Try.prog 79 [.agg [dL c208_dd a0], .str a1] (.tup [.agg (c128_oo r.1), .bool r.2]) := by
  unfold impl_LookupRelation at h
  refine sound_lit tbOk lit79 (nb rfl) rfl ?_
  unfold c79
  refine ls_keep [(0, .agg [dL c208_dd a0]), (1, .str a1)] ⟨kr, kr, trivial⟩ rfl ?_
  refine ls_rs tbOk ?_
  refine evs (ev_bx (c1 := .agg [dL c208_dd a0]) rfl rfl rfl (evs (ev_al rfl rfl (evs (ev_ac rfl nofun rfl (evn ?_))))))
  refine ls_keep [(1, .str a1), (2, .box [dL c208_dd a0]), (4, .box [nI 0, oL 25 c25_o []])] ⟨kr, kr, kr, trivial⟩ rfl ?_
  refine ls_seq_k fun K1 hK1 => ?_
  refine ls_rs tbOk ?_
  refine evs (ev_ldB (off := 0) (v := .agg [dL c208_dd a0]) rfl rfl rfl rfl (nb rfl) rfl (?_))
  obtain ⟨v2, g3, h⟩ := ob_some h
  refine evs (ev_call (era rfl (erg (erc (erD ec208_dd _) rfl)) eran) (impl_IsValidDatabase_s g3) (evn ?_))
  refine ls_keep [(1, .str a1), (2, .box [dL c208_dd a0]), (4, .box [nI 0, oL 25 c25_o []]), (9, .bool v2)] ⟨kr, kr, kr, kr, trivial⟩ rfl ?_
  have kimpl_LookupRelation_J1 : ∀ (_ : Unit), impl_LookupRelation_J1 = some r → ∀ σ' : PS, okK σ' [(4, .box [nI 0, oL 25 c25_o []])] → K1 σ' := by
    intro _ h σ' hk
    unfold impl_LookupRelation_J1 at h
    refine hK1 _ (ls_keep [(4, .box [nI 0, oL 25 c25_o []])] hk rfl ?_)
    refine ls_rs tbOk ?_
    refine evs (ev_bd [] (cs := [nI 0, oL 25 c25_o []]) rfl trivial rfl (evs (ev_st (off := 0) (c1 := .agg [nI 0, oL 25 c25_o []]) (cs' := [nI 0, oL 25 c25_o []]) rfl rfl rfl rfl rfl rfl (nb rfl) rfl (evs (ev_ac rfl nofun rfl (evn ?_))))))
    refine ls_keep [(4, .box [nI 0, oL 25 c25_o []]), (5, .bool false)] ⟨kr, kr, trivial⟩ rfl ?_
    refine ls_ret ?_
    have hr := Option.some.inj h
    rw [← hr]
    exact ⟨.inl rfl, rfl⟩
  rcases cond_some h with ⟨g4, h⟩ | ⟨g4, h⟩
  · refine ls_cT rfl g4 ?_
    refine ls_rs tbOk ?_
    refine evs (ev_fa (c1 := .cref 2 0) (v := .cref 2 0) rfl rfl rfl ⟨_, rfl⟩ rfl (evs (ev_ldB (off := 0) (v := dL c208_dd a0) rfl rfl rfl rfl (nb rfl) rfl (evs (ev_len (c1 := dL c208_dd a0) rfl rfl rfl (evs (ev_mc rfl rfl (evn ?_))))))))
    refine ls_keep [(1, .str a1), (4, .box [nI 0, oL 25 c25_o []]), (11, dL c208_dd a0), (12, nI (List.length a0 : Int)), (13, nI 0)] ⟨kr, kr, kr, kr, kr, trivial⟩ rfl ?_
    obtain ⟨o2, hl, hr2⟩ := ob_some h
    clear h
    have kXimpl_LookupRelation_B2 : ∀ (_ : Unit), (impl_LookupRelation_J1 ) = some r → ∀ σ' : PS, okK σ' [(4, .box [nI 0, oL 25 c25_o []])] → K1 σ' := by
      intro _ h σ' hk
      exact kimpl_LookupRelation_J1 () h _ ⟨hk.1, trivial⟩
    refine ls_rec (fun (y2 : Int) => [(1, .str a1), (4, .box [nI 0, oL 25 c25_o []]), (11, dL c208_dd a0), (12, nI (List.length a0 : Int)), (13, nI y2)]) (impl_LookupRelation_B2 a0 a1) fz 0 o2 hl ⟨kr, kr, kr, kr, kr, trivial⟩ (fun _ => rfl) ?_
    rintro m y2 N h hN
    unfold impl_LookupRelation_B2 at h
    refine ls_rs tbOk ?_
    refine evs (ev_bin (c1 := nI y2) (c2 := nI (List.length a0 : Int)) rfl rfl rfl (evn ?_))
    refine ls_keep [(1, .str a1), (4, .box [nI 0, oL 25 c25_o []]), (11, dL c208_dd a0), (12, nI (List.length a0 : Int)), (13, nI y2), (14, .bool (decide (y2 < (List.length a0 : Int))))] ⟨kr, kr, kr, kr, kr, kr, trivial⟩ rfl ?_
    refine ls_seq_k fun K5 hK5 => ?_
    rcases cond_some h with ⟨g6, h⟩ | ⟨g6, h⟩
    · refine ls_cT rfl g6 ?_
      refine ls_skip ?_
      refine hK5 _ (ls_keep [(1, .str a1), (4, .box [nI 0, oL 25 c25_o []]), (11, dL c208_dd a0), (12, nI (List.length a0 : Int)), (13, nI y2)] ⟨kr, kr, kr, kr, kr, trivial⟩ rfl ?_)
      refine ls_seq_k fun K7 hK7 => ?_
      refine ls_blk ?_
      refine ls_rs tbOk ?_
      obtain ⟨e8, g9, h⟩ := ob_some h
      refine evs (ev_ia rfl rfl rfl ⟨(geti_some g9).1, (geti_some g9).2.1⟩ (evs (ev_ldEt (i := y2) (n := 3) (off := 0) (v := .agg (c208_dd e8)) rfl rfl zc208_dd g9 rfl (nb rfl) rfl (evs (ev_al rfl rfl (evs (ev_st (off := 0) (c1 := .agg (c208_dd e8)) (cs' := [.str e8.1, nI e8.2.1, dL c25_d e8.2.2]) rfl rfl rfl rfl rfl rfl (nb rfl) rfl (evn ?_))))))))
      refine ls_keep [(1, .str a1), (4, .box [nI 0, oL 25 c25_o []]), (7, .box [.str e8.1, nI e8.2.1, dL c25_d e8.2.2]), (11, dL c208_dd a0), (12, nI (List.length a0 : Int)), (13, nI y2)] ⟨kr, kr, kr, kr, kr, kr, trivial⟩ rfl ?_
      refine ls_rs tbOk ?_
      refine evs (ev_fa (c1 := .cref 7 0) (v := .cref 7 0) rfl rfl rfl ⟨_, rfl⟩ rfl (evs (ev_ldB (off := 0) (v := .str e8.1) rfl rfl rfl rfl (nb rfl) rfl (evs (ev_mv (c := .str a1) rfl rfl rfl (evs (ev_bin (c1 := .str e8.1) (c2 := .str a1) rfl rfl trivial (evn ?_))))))))
      refine ls_keep [(1, .str a1), (4, .box [nI 0, oL 25 c25_o []]), (7, .box [.str e8.1, nI e8.2.1, dL c25_d e8.2.2]), (11, dL c208_dd a0), (12, nI (List.length a0 : Int)), (13, nI y2), (20, .bool (e8.1 == a1))] ⟨kr, kr, kr, kr, kr, kr, kr, trivial⟩ rfl ?_
      rcases cond_some h with ⟨g10, h⟩ | ⟨g10, h⟩
      · refine ls_cT rfl g10 ?_
        refine ls_rs tbOk ?_
        refine evs (ev_fa (c1 := .cref 7 0) (v := .cref 7 1) rfl rfl rfl ⟨_, rfl⟩ rfl (evs (ev_ldB (off := 1) (v := .agg (c128_dd e8.2)) rfl rfl rfl rfl (nb rfl) rfl (?_))))
        obtain ⟨v11, g12, h⟩ := ob_some h
        refine evs (ev_call (era rfl (erg (erc rfl (erc (erD ec25_d _) rfl))) eran) (impl_copyRelation_s g12) (evs (ev_st (off := 0) (c1 := .agg (c128_oo v11)) (cs' := [nI v11.1, oL 25 c25_o v11.2]) rfl rfl rfl rfl rfl rfl (nb rfl) rfl (evs (ev_ac rfl nofun rfl (evn ?_))))))
        refine ls_keep [(4, .box [nI v11.1, oL 25 c25_o v11.2]), (5, .bool true)] ⟨kr, kr, trivial⟩ rfl ?_
        refine ls_ret ?_
        have q0 := (Option.some.inj h).symm
        have r0 := hr2
        rw [q0] at r0
        have hr := Option.some.inj r0
        rw [← hr]
        exact ⟨.inl rfl, rfl⟩
      · refine ls_cF rfl g10 ?_
        refine ls_skip ?_
        refine hK7 _ (ls_keep [(1, .str a1), (4, .box [nI 0, oL 25 c25_o []]), (11, dL c208_dd a0), (12, nI (List.length a0 : Int)), (13, nI y2)] ⟨kr, kr, kr, kr, kr, trivial⟩ rfl ?_)
        refine ls_rgn tbOk ?_
        refine evs (ev_bin (c1 := nI y2) (c2 := nI 1) rfl rfl rfl (evs (ev_mv (c := nI (IntKind.i64.wrap (y2 + 1))) rfl rfl rfl (evn ?_))))
        exact hN _ (IntKind.i64.wrap (y2 + 1)) h ⟨kr, kr, kr, kr, kr, trivial⟩
    · refine ls_cF rfl g6 ?_
      refine ls_exit ?_
      have q0 := (Option.some.inj h).symm
      have r0 := hr2
      rw [q0] at r0
      exact kXimpl_LookupRelation_B2 () r0 _ ⟨kr, trivial⟩
  · refine ls_cF rfl g4 ?_
    refine ls_skip ?_
    exact kimpl_LookupRelation_J1 () h _ ⟨kr, trivial⟩
def impl_IsQueryFor_B1 (a0 : List Y207) (a1 : Y91) (rec : Int → Option (Sum (Unit) (Bool))) (y1 : Int) : Option (Sum (Unit) (Bool)) := cond (decide (y1 < (List.length a1.2.1 : Int))) (obind (geti a1.2.1 y1) fun e12 => obind (impl_LookupRelation a0 e12.1) fun v14 => cond (!v14.2) (some (.inr false)) (cond (v14.1.1 != (List.length e12.2 : Int)) (some (.inr false)) (rec (IntKind.i64.wrap (y1 + 1))))) (some (.inl ()))
def impl_IsQueryFor (a0 : List Y207) (a1 : Y91) : Option (Bool) := obind (impl_IsValidQuery a1) fun v2 => cond (!v2) (some false) (obind (impl_IsValidDatabase a0) fun v5 => cond (!v5) (some false) (obind (loopF (impl_IsQueryFor_B1 a0 a1) fz 0) fun o1 => (match o1 with
  | .inl _ => (some true)
  | .inr r => some r)))
theorem impl_IsQueryFor_s {a0 : List Y207} {a1 : Y91} {r : Bool} (h : impl_IsQueryFor a0 a1 = some r) : SoundAt Try.prog 150 [.agg [dL c208_dd a0], .agg (c92_ddd a1)] (.bool r) := by
  unfold impl_IsQueryFor at h
  refine sound_lit tbOk lit150 (nb rfl) rfl ?_
  unfold c150
  refine ls_keep [(0, .agg [dL c208_dd a0]), (1, .agg (c92_ddd a1))] ⟨kr, kr, trivial⟩ rfl ?_
  refine ls_rs tbOk ?_
  refine evs (ev_bx (c1 := .agg [dL c208_dd a0]) rfl rfl rfl (evs (ev_bx (c1 := .agg (c92_ddd a1)) rfl rfl rfl (evs (ev_ac rfl nofun rfl (evn ?_))))))
  refine ls_keep [(2, .box [dL c208_dd a0]), (3, .box [nI a1.1, dL c195_d a1.2.1, dL ci64 a1.2.2])] ⟨kr, kr, trivial⟩ rfl ?_
  refine ls_seq_k fun K1 hK1 => ?_
  refine ls_rs tbOk ?_
  refine evs (ev_ldB (off := 0) (v := .agg (c92_ddd a1)) rfl rfl rfl rfl (nb rfl) rfl (?_))
  obtain ⟨v2, g3, h⟩ := ob_some h
  refine evs (ev_call (era rfl (erg (erc rfl (erc (erD ec195_d _) (erc (erD eci64 _) rfl)))) eran) (impl_IsValidQuery_s g3) (evs (ev_un (c1 := .bool v2) rfl trivial (evs (ev_mv (c := .bool (!v2)) rfl rfl rfl (?_))))))
  rcases cond_some h with ⟨g4, h⟩ | ⟨g4, h⟩
  · refine evs (ev_gs rfl rfl (isb_T g4) (evs (ev_gs rfl rfl (isb_T g4) (evs (ev_gs rfl rfl (isb_T g4) (evs (ev_pkT (c1 := .bool true) rfl g4 rfl rfl (evn ?_))))))))
    refine ls_keep [(2, .box [dL c208_dd a0]), (3, .box [nI a1.1, dL c195_d a1.2.1, dL ci64 a1.2.2]), (16, .bool true)] ⟨kr, kr, kr, trivial⟩ rfl ?_
    refine ls_cT rfl rfl ?_
    refine ls_rs tbOk ?_
    refine evs (ev_ac rfl nofun rfl (evn ?_))
    refine ls_keep [(4, .bool false)] ⟨kr, trivial⟩ rfl ?_
    refine ls_ret ?_
    have hr := Option.some.inj h
    rw [← hr]
    exact ⟨.inl rfl, rfl⟩
  · refine evs (ev_gr rfl (congrArg V.bool g4) (ev_ldB (off := 0) (v := .agg [dL c208_dd a0]) rfl rfl rfl rfl (nb rfl) rfl (?_)))
    obtain ⟨v5, g6, h⟩ := ob_some h
    refine evs (ev_gr rfl (congrArg V.bool g4) (ev_call (era rfl (erg (erc (erD ec208_dd _) rfl)) eran) (impl_IsValidDatabase_s g6) (evs (ev_gr rfl (congrArg V.bool g4) (ev_un (c1 := .bool v5) rfl trivial (evs (ev_pkF (c1 := .bool (!v5)) rfl g4 rfl rfl (evn ?_))))))))
    refine ls_keep [(2, .box [dL c208_dd a0]), (3, .box [nI a1.1, dL c195_d a1.2.1, dL ci64 a1.2.2]), (16, .bool (!v5))] ⟨kr, kr, kr, trivial⟩ rfl ?_
    rcases cond_some h with ⟨g7, h⟩ | ⟨g7, h⟩
    · refine ls_cT rfl g7 ?_
      refine ls_rs tbOk ?_
      refine evs (ev_ac rfl nofun rfl (evn ?_))
      refine ls_keep [(4, .bool false)] ⟨kr, trivial⟩ rfl ?_
      refine ls_ret ?_
      have hr := Option.some.inj h
      rw [← hr]
      exact ⟨.inl rfl, rfl⟩
    · refine ls_cF rfl g7 ?_
      refine ls_skip ?_
      refine hK1 _ (ls_keep [(2, .box [dL c208_dd a0]), (3, .box [nI a1.1, dL c195_d a1.2.1, dL ci64 a1.2.2])] ⟨kr, kr, trivial⟩ rfl ?_)
      refine ls_seq_k fun K8 hK8 => ?_
      refine ls_rs tbOk ?_
      refine evs (ev_fa (c1 := .cref 3 0) (v := .cref 3 1) rfl rfl rfl ⟨_, rfl⟩ rfl (evs (ev_ldB (off := 1) (v := dL c195_d a1.2.1) rfl rfl rfl rfl (nb rfl) rfl (evs (ev_len (c1 := dL c195_d a1.2.1) rfl rfl rfl (evs (ev_mc rfl rfl (evn ?_))))))))
      refine ls_keep [(2, .box [dL c208_dd a0]), (18, dL c195_d a1.2.1), (19, nI (List.length a1.2.1 : Int)), (20, nI 0)] ⟨kr, kr, kr, kr, trivial⟩ rfl ?_
      obtain ⟨o1, hl, hr1⟩ := ob_some h
      clear h
      have kXimpl_IsQueryFor_B1 : ∀ (_ : Unit), (some true) = some r → ∀ σ' : PS, okK σ' [] → K8 σ' := by
        intro _ h σ' hk
        refine hK8 _ (ls_keep [] hk rfl ?_)
        refine ls_rs tbOk ?_
        refine evs (ev_ac rfl nofun rfl (evn ?_))
        refine ls_keep [(4, .bool true)] ⟨kr, trivial⟩ rfl ?_
        refine ls_ret ?_
        have hr := Option.some.inj h
        rw [← hr]
        exact ⟨.inl rfl, rfl⟩
      refine ls_rec (fun (y1 : Int) => [(2, .box [dL c208_dd a0]), (18, dL c195_d a1.2.1), (19, nI (List.length a1.2.1 : Int)), (20, nI y1)]) (impl_IsQueryFor_B1 a0 a1) fz 0 o1 hl ⟨kr, kr, kr, kr, trivial⟩ (fun _ => rfl) ?_
      rintro m y1 N h hN
      unfold impl_IsQueryFor_B1 at h
      refine ls_rs tbOk ?_
      refine evs (ev_bin (c1 := nI y1) (c2 := nI (List.length a1.2.1 : Int)) rfl rfl rfl (evn ?_))
      refine ls_keep [(2, .box [dL c208_dd a0]), (18, dL c195_d a1.2.1), (19, nI (List.length a1.2.1 : Int)), (20, nI y1), (21, .bool (decide (y1 < (List.length a1.2.1 : Int))))] ⟨kr, kr, kr, kr, kr, trivial⟩ rfl ?_
      refine ls_seq_k fun K9 hK9 => ?_
      rcases cond_some h with ⟨g10, h⟩ | ⟨g10, h⟩
      · refine ls_cT rfl g10 ?_
        refine ls_skip ?_
        refine hK9 _ (ls_keep [(2, .box [dL c208_dd a0]), (18, dL c195_d a1.2.1), (19, nI (List.length a1.2.1 : Int)), (20, nI y1)] ⟨kr, kr, kr, kr, trivial⟩ rfl ?_)
        refine ls_seq_k fun K11 hK11 => ?_
        refine ls_blk ?_
        refine ls_rs tbOk ?_
        obtain ⟨e12, g13, h⟩ := ob_some h
        refine evs (ev_ia rfl rfl rfl ⟨(geti_some g13).1, (geti_some g13).2.1⟩ (evs (ev_ldEt (i := y1) (n := 2) (off := 0) (v := .agg (c195_d e12)) rfl rfl zc195_d g13 rfl (nb rfl) rfl (evs (ev_al rfl rfl (evs (ev_st (off := 0) (c1 := .agg (c195_d e12)) (cs' := [.str e12.1, dL ci64 e12.2]) rfl rfl rfl rfl rfl rfl (nb rfl) rfl (evn ?_))))))))
        refine ls_keep [(2, .box [dL c208_dd a0]), (6, .box [.str e12.1, dL ci64 e12.2]), (18, dL c195_d a1.2.1), (19, nI (List.length a1.2.1 : Int)), (20, nI y1)] ⟨kr, kr, kr, kr, kr, trivial⟩ rfl ?_
        refine ls_rs tbOk ?_
        refine evs (ev_ldB (off := 0) (v := .agg [dL c208_dd a0]) rfl rfl rfl rfl (nb rfl) rfl (evs (ev_fa (c1 := .cref 6 0) (v := .cref 6 0) rfl rfl rfl ⟨_, rfl⟩ rfl (evs (ev_ldB (off := 0) (v := .str e12.1) rfl rfl rfl rfl (nb rfl) rfl (?_))))))
        obtain ⟨v14, g15, h⟩ := ob_some h
        refine evs (ev_call (era rfl (erg (erc (erD ec208_dd _) rfl)) (era rfl rfl eran)) (impl_LookupRelation_s g15) (evs (ev_mvt (c := .tup [.agg (c128_oo v14.1), .bool v14.2]) rfl rfl rfl (evs (ev_ext rfl rfl rfl rfl (evs (ev_ext rfl rfl rfl rfl (evs (ev_al rfl rfl (evs (ev_st (off := 0) (c1 := .agg (c128_oo v14.1)) (cs' := [nI v14.1.1, oL 25 c25_o v14.1.2]) rfl rfl rfl rfl rfl rfl (nb rfl) rfl (evs (ev_as (c := .bool v14.2) rfl rfl rfl (evn ?_))))))))))))))
        refine ls_keep [(2, .box [dL c208_dd a0]), (6, .box [.str e12.1, dL ci64 e12.2]), (7, .box [nI v14.1.1, oL 25 c25_o v14.1.2]), (8, .bool v14.2), (18, dL c195_d a1.2.1), (19, nI (List.length a1.2.1 : Int)), (20, nI y1)] ⟨kr, kr, kr, kr, kr, kr, kr, trivial⟩ rfl ?_
        refine ls_rs tbOk ?_
        refine evs (ev_mv (c := .bool v14.2) rfl rfl rfl (evs (ev_un (c1 := .bool v14.2) rfl trivial (evs (ev_mv (c := .bool (!v14.2)) rfl rfl rfl (?_))))))
        rcases cond_some h with ⟨g16, h⟩ | ⟨g16, h⟩
        · refine evs (ev_gs rfl rfl (isb_T g16) (evs (ev_gs rfl rfl (isb_T g16) (evs (ev_gs rfl rfl (isb_T g16) (evs (ev_gs rfl rfl (isb_T g16) (evs (ev_gs rfl rfl (isb_T g16) (evs (ev_gs rfl rfl (isb_T g16) (evs (ev_pkT (c1 := .bool true) rfl g16 rfl rfl (evn ?_))))))))))))))
          refine ls_keep [(2, .box [dL c208_dd a0]), (18, dL c195_d a1.2.1), (19, nI (List.length a1.2.1 : Int)), (20, nI y1), (40, .bool true)] ⟨kr, kr, kr, kr, kr, trivial⟩ rfl ?_
          refine ls_cT rfl rfl ?_
          refine ls_rs tbOk ?_
          refine evs (ev_ac rfl nofun rfl (evn ?_))
          refine ls_keep [(4, .bool false)] ⟨kr, trivial⟩ rfl ?_
          refine ls_ret ?_
          have q0 := (Option.some.inj h).symm
          have r0 := hr1
          rw [q0] at r0
          have hr := Option.some.inj r0
          rw [← hr]
          exact ⟨.inl rfl, rfl⟩
        · refine evs (ev_gr rfl (congrArg V.bool g16) (ev_fa (c1 := .cref 7 0) (v := .cref 7 0) rfl rfl rfl ⟨_, rfl⟩ rfl (evs (ev_gr rfl (congrArg V.bool g16) (ev_ldB (off := 0) (v := nI v14.1.1) rfl rfl rfl rfl (nb rfl) rfl (evs (ev_gr rfl (congrArg V.bool g16) (ev_fa (c1 := .cref 6 0) (v := .cref 6 1) rfl rfl rfl ⟨_, rfl⟩ rfl (evs (ev_gr rfl (congrArg V.bool g16) (ev_ldB (off := 1) (v := dL ci64 e12.2) rfl rfl rfl rfl (nb rfl) rfl (evs (ev_gr rfl (congrArg V.bool g16) (ev_len (c1 := dL ci64 e12.2) rfl rfl rfl (evs (ev_gr rfl (congrArg V.bool g16) (ev_bin (c1 := nI v14.1.1) (c2 := nI (List.length e12.2 : Int)) rfl rfl rfl (evs (ev_pkF (c1 := .bool (v14.1.1 != (List.length e12.2 : Int))) rfl g16 rfl rfl (evn ?_))))))))))))))))))))
          refine ls_keep [(2, .box [dL c208_dd a0]), (18, dL c195_d a1.2.1), (19, nI (List.length a1.2.1 : Int)), (20, nI y1), (40, .bool (v14.1.1 != (List.length e12.2 : Int)))] ⟨kr, kr, kr, kr, kr, trivial⟩ rfl ?_
          rcases cond_some h with ⟨g17, h⟩ | ⟨g17, h⟩
          · refine ls_cT rfl g17 ?_
            refine ls_rs tbOk ?_
            refine evs (ev_ac rfl nofun rfl (evn ?_))
            refine ls_keep [(4, .bool false)] ⟨kr, trivial⟩ rfl ?_
            refine ls_ret ?_
            have q0 := (Option.some.inj h).symm
            have r0 := hr1
            rw [q0] at r0
            have hr := Option.some.inj r0
            rw [← hr]
            exact ⟨.inl rfl, rfl⟩
          · refine ls_cF rfl g17 ?_
            refine ls_skip ?_
            refine hK11 _ (ls_keep [(2, .box [dL c208_dd a0]), (18, dL c195_d a1.2.1), (19, nI (List.length a1.2.1 : Int)), (20, nI y1)] ⟨kr, kr, kr, kr, trivial⟩ rfl ?_)
            refine ls_rgn tbOk ?_
            refine evs (ev_bin (c1 := nI y1) (c2 := nI 1) rfl rfl rfl (evs (ev_mv (c := nI (IntKind.i64.wrap (y1 + 1))) rfl rfl rfl (evn ?_))))
            exact hN _ (IntKind.i64.wrap (y1 + 1)) h ⟨kr, kr, kr, kr, trivial⟩
      · refine ls_cF rfl g10 ?_
        refine ls_exit ?_
        have q0 := (Option.some.inj h).symm
        have r0 := hr1
        rw [q0] at r0
        exact kXimpl_IsQueryFor_B1 () r0 _ trivial
def impl_copyQuery_B1 (a0 : Y91) (rec : ((List Y194) × Int) → Option ((List Y194))) (s : (List Y194) × Int) : Option ((List Y194)) := match s with
  | (y1, y2) => cond (decide (y2 < (List.length a0.2.1 : Int))) (obind (geti a0.2.1 y2) fun e8 => obind (impl_copyInts e8.2) fun v10 => chk (List.length y1 + List.length [(e8.1, v10)] ≤ lim) (rec ((y1 ++ [(e8.1, v10)]), (IntKind.i64.wrap (y2 + 1))))) (some y1)
def impl_copyQuery (a0 : Y91) : Option (Y91) := obind (impl_copyInts a0.2.2) fun v1 => obind (loopF (impl_copyQuery_B1 a0) fz (([] : List Y194), 0)) fun z4 => some (a0.1, z4, v1)
theorem impl_copyQuery_s {a0 : Y91} {r : Y91} (h : impl_copyQuery a0 = some r) : SoundAt Try.prog 152 [.agg (c92_ddd a0)] (.agg (c92_ooo r)) := by
  unfold impl_copyQuery at h
  refine sound_lit tbOk lit152 (nb rfl) rfl ?_
  unfold c152
  refine ls_keep [(0, .agg (c92_ddd a0))] ⟨kr, trivial⟩ rfl ?_
  refine ls_rs tbOk ?_
  refine evs (ev_bx (c1 := .agg (c92_ddd a0)) rfl rfl rfl (evs (ev_al rfl rfl (evn ?_))))
  refine ls_keep [(1, .box [nI a0.1, dL c195_d a0.2.1, dL ci64 a0.2.2]), (2, .box [nI 0, oL 195 c195_o [], oL 3 ci64 []])] ⟨kr, kr, trivial⟩ rfl ?_
  refine ls_rd tbOk mixed (by kernel_rfl) ?_
  refine evd rfl rfl (ev_fa (c1 := .cref 1 0) (v := .cref 1 0) rfl rfl rfl ⟨_, rfl⟩ rfl (evd rfl rfl (ev_ldB (off := 0) (v := nI a0.1) rfl rfl rfl rfl (nb rfl) rfl (evd rfl rfl (ev_fa (c1 := .cref 1 0) (v := .cref 1 2) rfl rfl rfl ⟨_, rfl⟩ rfl (evd rfl rfl (ev_ldB (off := 2) (v := dL ci64 a0.2.2) rfl rfl rfl rfl (nb rfl) rfl (?_))))))))
  obtain ⟨v1, g2, h⟩ := ob_some h
  refine evd rfl rfl (ev_call (era rfl (erD eci64 _) eran) (impl_copyInts_s g2) (evd rfl rfl (ev_bd [nI a0.1, oL 3 ci64 v1] (cs := [nI a0.1, oL 195 c195_o [], oL 3 ci64 v1]) rfl ⟨rfl, rfl, trivial⟩ rfl (evd rfl rfl (ev_al rfl rfl (evd rfl rfl (ev_st (off := 0) (c1 := .agg [nI a0.1, oL 195 c195_o [], oL 3 ci64 v1]) (cs' := [nI a0.1, oL 195 c195_o [], oL 3 ci64 v1]) rfl rfl rfl rfl rfl rfl (nb rfl) rfl (evdn ?_))))))))
  refine ls_keep [(1, .box [nI a0.1, dL c195_d a0.2.1, dL ci64 a0.2.2]), (2, .box [nI 0, oL 195 c195_o [], oL 3 ci64 []]), (3, .box [nI a0.1, oL 195 c195_o [], oL 3 ci64 v1])] ⟨kr, kr, kr, trivial⟩ rfl ?_
  refine ls_seq_k fun K3 hK3 => ?_
  refine ls_rs tbOk ?_
  refine evs (ev_fa (c1 := .cref 1 0) (v := .cref 1 1) rfl rfl rfl ⟨_, rfl⟩ rfl (evs (ev_ldB (off := 1) (v := dL c195_d a0.2.1) rfl rfl rfl rfl (nb rfl) rfl (evs (ev_len (c1 := dL c195_d a0.2.1) rfl rfl rfl (evs (ev_mc rfl rfl (evn ?_))))))))
  refine ls_keep [(2, .box [nI 0, oL 195 c195_o [], oL 3 ci64 []]), (3, .box [nI a0.1, oL 195 c195_o [], oL 3 ci64 v1]), (13, dL c195_d a0.2.1), (14, nI (List.length a0.2.1 : Int)), (15, nI 0)] ⟨kr, kr, kr, kr, kr, trivial⟩ rfl ?_
  obtain ⟨o1, hl, hr1⟩ := ob_some h
  clear h
  have kXimpl_copyQuery_B1 : ∀ (z4 : List Y194), (some (a0.1, z4, v1)) = some r → ∀ σ' : PS, okK σ' [(2, .box [nI 0, oL 195 c195_o [], oL 3 ci64 []]), (3, .box [nI a0.1, oL 195 c195_o z4, oL 3 ci64 v1])] → K3 σ' := by
    intro z4 h σ' hk
    refine hK3 _ (ls_keep [(2, .box [nI 0, oL 195 c195_o [], oL 3 ci64 []]), (3, .box [nI a0.1, oL 195 c195_o z4, oL 3 ci64 v1])] hk rfl ?_)
    refine ls_rs tbOk ?_
    refine evs (ev_ldBt (off := 0) (v := .agg [nI a0.1, oL 195 c195_o z4, oL 3 ci64 v1]) (c' := .box [nI a0.1, dL c195_o z4, dL ci64 v1]) rfl rfl rfl rfl (nb rfl) rfl rfl (evs (ev_st (off := 0) (c1 := .agg [nI a0.1, oL 195 c195_o z4, oL 3 ci64 v1]) (cs' := [nI a0.1, oL 195 c195_o z4, oL 3 ci64 v1]) rfl rfl rfl rfl rfl rfl (nb rfl) rfl (evn ?_))))
    refine ls_keep [(2, .box [nI a0.1, oL 195 c195_o z4, oL 3 ci64 v1])] ⟨kr, trivial⟩ rfl ?_
    refine ls_ret ?_
    have hr := Option.some.inj h
    rw [← hr]
    exact ⟨.inl rfl, rfl⟩
  refine ls_rec (fun (s : (List Y194) × Int) => match s with | (y1, y2) => [(2, .box [nI 0, oL 195 c195_o [], oL 3 ci64 []]), (3, .box [nI a0.1, oL 195 c195_o y1, oL 3 ci64 v1]), (13, dL c195_d a0.2.1), (14, nI (List.length a0.2.1 : Int)), (15, nI y2)]) (impl_copyQuery_B1 a0) fz (([] : List Y194), 0) o1 hl ⟨kr, kr, kr, kr, kr, trivial⟩ (fun _ => rfl) ?_
  rintro m ⟨y1, y2⟩ N h hN
  unfold impl_copyQuery_B1 at h
  dsimp only at h
  refine ls_rs tbOk ?_
  refine evs (ev_bin (c1 := nI y2) (c2 := nI (List.length a0.2.1 : Int)) rfl rfl rfl (evn ?_))
  refine ls_keep [(2, .box [nI 0, oL 195 c195_o [], oL 3 ci64 []]), (3, .box [nI a0.1, oL 195 c195_o y1, oL 3 ci64 v1]), (13, dL c195_d a0.2.1), (14, nI (List.length a0.2.1 : Int)), (15, nI y2), (16, .bool (decide (y2 < (List.length a0.2.1 : Int))))] ⟨kr, kr, kr, kr, kr, kr, trivial⟩ rfl ?_
  refine ls_seq_k fun K5 hK5 => ?_
  rcases cond_some h with ⟨g6, h⟩ | ⟨g6, h⟩
  · refine ls_cT rfl g6 ?_
    refine ls_skip ?_
    refine hK5 _ (ls_keep [(2, .box [nI 0, oL 195 c195_o [], oL 3 ci64 []]), (3, .box [nI a0.1, oL 195 c195_o y1, oL 3 ci64 v1]), (13, dL c195_d a0.2.1), (14, nI (List.length a0.2.1 : Int)), (15, nI y2)] ⟨kr, kr, kr, kr, kr, trivial⟩ rfl ?_)
    refine ls_seq_k fun K7 hK7 => ?_
    refine ls_blk ?_
    refine ls_rs tbOk ?_
    obtain ⟨e8, g9, h⟩ := ob_some h
    refine evs (ev_ia rfl rfl rfl ⟨(geti_some g9).1, (geti_some g9).2.1⟩ (evs (ev_ldEt (i := y2) (n := 2) (off := 0) (v := .agg (c195_d e8)) rfl rfl zc195_d g9 rfl (nb rfl) rfl (evs (ev_al rfl rfl (evs (ev_st (off := 0) (c1 := .agg (c195_d e8)) (cs' := [.str e8.1, dL ci64 e8.2]) rfl rfl rfl rfl rfl rfl (nb rfl) rfl (evn ?_))))))))
    refine ls_keep [(2, .box [nI 0, oL 195 c195_o [], oL 3 ci64 []]), (3, .box [nI a0.1, oL 195 c195_o y1, oL 3 ci64 v1]), (5, .box [.str e8.1, dL ci64 e8.2]), (13, dL c195_d a0.2.1), (14, nI (List.length a0.2.1 : Int)), (15, nI y2)] ⟨kr, kr, kr, kr, kr, kr, trivial⟩ rfl ?_
    refine ls_drw tbOk mixed (by kernel_rfl) ?_
    refine evd rfl rfl (ev_fa (c1 := .cref 3 0) (v := .cref 3 1) rfl rfl rfl ⟨_, rfl⟩ rfl (evd rfl rfl (ev_ldBt (off := 1) (v := oL 195 c195_o y1) (c' := .box [nI a0.1, dL c195_o y1, oL 3 ci64 v1]) rfl rfl rfl rfl (nb rfl) rfl rfl (evd rfl rfl (ev_fa (c1 := .cref 5 0) (v := .cref 5 0) rfl rfl rfl ⟨_, rfl⟩ rfl (evd rfl rfl (ev_ldB (off := 0) (v := .str e8.1) rfl rfl rfl rfl (nb rfl) rfl (evd rfl rfl (ev_fa (c1 := .cref 5 0) (v := .cref 5 1) rfl rfl rfl ⟨_, rfl⟩ rfl (evd rfl rfl (ev_ldB (off := 1) (v := dL ci64 e8.2) rfl rfl rfl rfl (nb rfl) rfl (?_))))))))))))
    obtain ⟨v10, g11, h⟩ := ob_some h
    refine evd rfl rfl (ev_call (era rfl (erD eci64 _) eran) (impl_copyInts_s g11) (evd rfl rfl (ev_bd [.str e8.1, oL 3 ci64 v10] (cs := [.str e8.1, oL 3 ci64 v10]) rfl ⟨rfl, rfl, trivial⟩ rfl (evd rfl rfl (ev_bs [.agg [.str e8.1, oL 3 ci64 v10]] (cs := [.str e8.1, oL 3 ci64 v10]) rfl ⟨rfl, trivial⟩ rfl (nb rfl) rfl (?_))))))
    obtain ⟨g12, h⟩ := chk_some h
    refine evd rfl rfl (ev_app (f := c195_o) (l := y1) (m := [(e8.1, v10)]) (c2 := oL 195 c195_o [(e8.1, v10)]) rfl rfl rfl (flat_len zc195_o [(e8.1, v10)]) rfl rfl g12 rfl (evd rfl rfl (ev_fa (c1 := .cref 3 0) (v := .cref 3 1) rfl rfl rfl ⟨_, rfl⟩ rfl (evd rfl rfl (ev_st (off := 1) (c1 := oL 195 c195_o (y1 ++ [(e8.1, v10)])) (cs' := [nI a0.1, oL 195 c195_o (y1 ++ [(e8.1, v10)]), oL 3 ci64 v1]) rfl rfl rfl rfl rfl rfl (nb rfl) rfl (evdn ?_))))))
    refine hK7 _ (ls_keep [(2, .box [nI 0, oL 195 c195_o [], oL 3 ci64 []]), (3, .box [nI a0.1, oL 195 c195_o (y1 ++ [(e8.1, v10)]), oL 3 ci64 v1]), (13, dL c195_d a0.2.1), (14, nI (List.length a0.2.1 : Int)), (15, nI y2)] ⟨kr, kr, kr, kr, kr, trivial⟩ rfl ?_)
    refine ls_rgn tbOk ?_
    refine evs (ev_bin (c1 := nI y2) (c2 := nI 1) rfl rfl rfl (evs (ev_mv (c := nI (IntKind.i64.wrap (y2 + 1))) rfl rfl rfl (evn ?_))))
    exact hN _ ((y1 ++ [(e8.1, v10)]), (IntKind.i64.wrap (y2 + 1))) h ⟨kr, kr, kr, kr, kr, trivial⟩
  · refine ls_cF rfl g6 ?_
    refine ls_exit ?_
    have q0 := (Option.some.inj h).symm
    have r0 := hr1
    rw [q0] at r0
    exact kXimpl_copyQuery_B1 y1 r0 _ ⟨kr, kr, trivial⟩
def impl_OpenCursor (a0 : Y51) (a1 : Y91) (a2 : List Int) : Option (Y107 × Bool) := obind (impl_SnapshotAt a0 (IntKind.i64.wrap ((IntKind.i64.wrap (a0.1 + (List.length a0.2 : Int))) - 1))) fun v1 => cond (!v1.2) (some ((0, [], [], (0, [], [])), false)) (obind (impl_IsQueryFor v1.1 a1) fun v5 => cond (!v5) (some ((0, [], [], (0, [], [])), false)) (obind (impl_IsValidOrder a1 a2) fun v8 => cond (!v8) (some ((0, [], [], (0, [], [])), false)) (obind (impl_copyInts a2) fun v11 => obind (impl_copyQuery a1) fun v13 => some ((IntKind.i64.wrap ((IntKind.i64.wrap (a0.1 + (List.length a0.2 : Int))) - 1), v11, [], v13), true))))
theorem impl_OpenCursor_s {a0 : Y51} {a1 : Y91} {a2 : List Int} {r : Y107 × Bool} (h : impl_OpenCursor a0 a1 a2 = some r) : SoundAt Try.prog 59 [.agg (c52_dddd a0), .agg (c92_ddd a1), dL ci64 a2] (.tup [.agg (c108_ooooo r.1), .bool r.2]) := by
  unfold impl_OpenCursor at h
  refine sound_lit tbOk lit59 (nb rfl) rfl ?_
  unfold c59
  refine ls_keep [(0, .agg (c52_dddd a0)), (1, .agg (c92_ddd a1)), (2, dL ci64 a2)] ⟨kr, kr, kr, trivial⟩ rfl ?_
  refine ls_rs tbOk ?_
  refine evs (ev_bx (c1 := .agg (c52_dddd a0)) rfl rfl rfl (evs (ev_bx (c1 := .agg (c92_ddd a1)) rfl rfl rfl (evs (ev_al rfl rfl (evs (ev_ac rfl nofun rfl (evn ?_))))))))
  refine ls_keep [(2, dL ci64 a2), (3, .box [nI a0.1, dL c33_ddd a0.2]), (4, .box [nI a1.1, dL c195_d a1.2.1, dL ci64 a1.2.2]), (6, .box [nI 0, oL 3 ci64 [], oL 3 ci64 [], nI 0, oL 195 c195_o [], oL 3 ci64 []])] ⟨kr, kr, kr, kr, trivial⟩ rfl ?_
  refine ls_rs tbOk ?_
  refine evs (ev_fa (c1 := .cref 3 0) (v := .cref 3 0) rfl rfl rfl ⟨_, rfl⟩ rfl (evs (ev_ldB (off := 0) (v := nI a0.1) rfl rfl rfl rfl (nb rfl) rfl (evs (ev_fa (c1 := .cref 3 0) (v := .cref 3 1) rfl rfl rfl ⟨_, rfl⟩ rfl (evs (ev_ldB (off := 1) (v := dL c33_ddd a0.2) rfl rfl rfl rfl (nb rfl) rfl (evs (ev_len (c1 := dL c33_ddd a0.2) rfl rfl rfl (evs (ev_bin (c1 := nI a0.1) (c2 := nI (List.length a0.2 : Int)) rfl rfl rfl (evs (ev_bin (c1 := nI (IntKind.i64.wrap (a0.1 + (List.length a0.2 : Int)))) (c2 := nI 1) rfl rfl rfl (evs (ev_as (c := nI (IntKind.i64.wrap ((IntKind.i64.wrap (a0.1 + (List.length a0.2 : Int))) - 1))) rfl rfl rfl (evn ?_))))))))))))))))
  refine ls_keep [(2, dL ci64 a2), (3, .box [nI a0.1, dL c33_ddd a0.2]), (4, .box [nI a1.1, dL c195_d a1.2.1, dL ci64 a1.2.2]), (6, .box [nI 0, oL 3 ci64 [], oL 3 ci64 [], nI 0, oL 195 c195_o [], oL 3 ci64 []]), (8, nI (IntKind.i64.wrap ((IntKind.i64.wrap (a0.1 + (List.length a0.2 : Int))) - 1)))] ⟨kr, kr, kr, kr, kr, trivial⟩ rfl ?_
  refine ls_rs tbOk ?_
  refine evs (ev_ldB (off := 0) (v := .agg (c52_dddd a0)) rfl rfl rfl rfl (nb rfl) rfl (evs (ev_mv (c := nI (IntKind.i64.wrap ((IntKind.i64.wrap (a0.1 + (List.length a0.2 : Int))) - 1))) rfl rfl rfl (?_))))
  obtain ⟨v1, g2, h⟩ := ob_some h
  refine evs (ev_call (era rfl (erg (erc rfl (erc (erD ec33_ddd _) rfl))) (era rfl rfl eran)) (impl_SnapshotAt_s g2) (evs (ev_mvt (c := .tup [.agg [oL 208 c208_oo v1.1], .bool v1.2]) rfl rfl rfl (evs (ev_ext rfl rfl rfl rfl (evs (ev_ext rfl rfl rfl rfl (evs (ev_al rfl rfl (evs (ev_st (off := 0) (c1 := .agg [oL 208 c208_oo v1.1]) (cs' := [oL 208 c208_oo v1.1]) rfl rfl rfl rfl rfl rfl (nb rfl) rfl (evs (ev_as (c := .bool v1.2) rfl rfl rfl (evn ?_))))))))))))))
  refine ls_keep [(2, dL ci64 a2), (4, .box [nI a1.1, dL c195_d a1.2.1, dL ci64 a1.2.2]), (6, .box [nI 0, oL 3 ci64 [], oL 3 ci64 [], nI 0, oL 195 c195_o [], oL 3 ci64 []]), (8, nI (IntKind.i64.wrap ((IntKind.i64.wrap (a0.1 + (List.length a0.2 : Int))) - 1))), (9, .box [oL 208 c208_oo v1.1]), (10, .bool v1.2)] ⟨kr, kr, kr, kr, kr, kr, trivial⟩ rfl ?_
  refine ls_seq_k fun K3 hK3 => ?_
  refine ls_rs tbOk ?_
  refine evs (ev_mv (c := .bool v1.2) rfl rfl rfl (evs (ev_un (c1 := .bool v1.2) rfl trivial (evs (ev_mv (c := .bool (!v1.2)) rfl rfl rfl (?_))))))
  rcases cond_some h with ⟨g4, h⟩ | ⟨g4, h⟩
  · refine evs (ev_gs rfl rfl (isb_T g4) (evs (ev_gs rfl rfl (isb_T g4) (evs (ev_gs rfl rfl (isb_T g4) (evs (ev_gs rfl rfl (isb_T g4) (evs (ev_pkT (c1 := .bool true) rfl g4 rfl rfl (evs (ev_mv (c := .bool true) rfl rfl rfl (evs (ev_gs rfl rfl rfl (evs (ev_gs rfl rfl rfl (evs (ev_gs rfl rfl rfl (evs (ev_gs rfl rfl rfl (evs (ev_pkT (c1 := .bool true) rfl rfl rfl rfl (evn ?_))))))))))))))))))))))
    refine ls_keep [(2, dL ci64 a2), (4, .box [nI a1.1, dL c195_d a1.2.1, dL ci64 a1.2.2]), (6, .box [nI 0, oL 3 ci64 [], oL 3 ci64 [], nI 0, oL 195 c195_o [], oL 3 ci64 []]), (8, nI (IntKind.i64.wrap ((IntKind.i64.wrap (a0.1 + (List.length a0.2 : Int))) - 1))), (37, .bool true)] ⟨kr, kr, kr, kr, kr, trivial⟩ rfl ?_
    refine ls_cT rfl rfl ?_
    refine ls_rs tbOk ?_
    refine evs (ev_bd [] (cs := [nI 0, oL 3 ci64 [], oL 3 ci64 [], nI 0, oL 195 c195_o [], oL 3 ci64 []]) rfl trivial rfl (evs (ev_st (off := 0) (c1 := .agg [nI 0, oL 3 ci64 [], oL 3 ci64 [], nI 0, oL 195 c195_o [], oL 3 ci64 []]) (cs' := [nI 0, oL 3 ci64 [], oL 3 ci64 [], nI 0, oL 195 c195_o [], oL 3 ci64 []]) rfl rfl rfl rfl rfl rfl (nb rfl) rfl (evs (ev_ac rfl nofun rfl (evn ?_))))))
    refine ls_keep [(6, .box [nI 0, oL 3 ci64 [], oL 3 ci64 [], nI 0, oL 195 c195_o [], oL 3 ci64 []]), (7, .bool false)] ⟨kr, kr, trivial⟩ rfl ?_
    refine ls_ret ?_
    have hr := Option.some.inj h
    rw [← hr]
    exact ⟨.inl rfl, rfl⟩
  · refine evs (ev_gr rfl (congrArg V.bool g4) (ev_ldB (off := 0) (v := .agg [dL c208_oo v1.1]) rfl rfl rfl rfl (nb rfl) rfl (evs (ev_gr rfl (congrArg V.bool g4) (ev_ldB (off := 0) (v := .agg (c92_ddd a1)) rfl rfl rfl rfl (nb rfl) rfl (?_))))))
    obtain ⟨v5, g6, h⟩ := ob_some h
    refine evs (ev_gr rfl (congrArg V.bool g4) (ev_call (era rfl (erg (erc (erD ec208_oo _) rfl)) (era rfl (erg (erc rfl (erc (erD ec195_d _) (erc (erD eci64 _) rfl)))) eran)) (impl_IsQueryFor_s g6) (evs (ev_gr rfl (congrArg V.bool g4) (ev_un (c1 := .bool v5) rfl trivial (evs (ev_pkF (c1 := .bool (!v5)) rfl g4 rfl rfl (evs (ev_mv (c := .bool (!v5)) rfl rfl rfl (?_))))))))))
    rcases cond_some h with ⟨g7, h⟩ | ⟨g7, h⟩
    · refine evs (ev_gs rfl rfl (isb_T g7) (evs (ev_gs rfl rfl (isb_T g7) (evs (ev_gs rfl rfl (isb_T g7) (evs (ev_gs rfl rfl (isb_T g7) (evs (ev_pkT (c1 := .bool true) rfl g7 rfl rfl (evn ?_))))))))))
      refine ls_keep [(2, dL ci64 a2), (4, .box [nI a1.1, dL c195_d a1.2.1, dL ci64 a1.2.2]), (6, .box [nI 0, oL 3 ci64 [], oL 3 ci64 [], nI 0, oL 195 c195_o [], oL 3 ci64 []]), (8, nI (IntKind.i64.wrap ((IntKind.i64.wrap (a0.1 + (List.length a0.2 : Int))) - 1))), (37, .bool true)] ⟨kr, kr, kr, kr, kr, trivial⟩ rfl ?_
      refine ls_cT rfl rfl ?_
      refine ls_rs tbOk ?_
      refine evs (ev_bd [] (cs := [nI 0, oL 3 ci64 [], oL 3 ci64 [], nI 0, oL 195 c195_o [], oL 3 ci64 []]) rfl trivial rfl (evs (ev_st (off := 0) (c1 := .agg [nI 0, oL 3 ci64 [], oL 3 ci64 [], nI 0, oL 195 c195_o [], oL 3 ci64 []]) (cs' := [nI 0, oL 3 ci64 [], oL 3 ci64 [], nI 0, oL 195 c195_o [], oL 3 ci64 []]) rfl rfl rfl rfl rfl rfl (nb rfl) rfl (evs (ev_ac rfl nofun rfl (evn ?_))))))
      refine ls_keep [(6, .box [nI 0, oL 3 ci64 [], oL 3 ci64 [], nI 0, oL 195 c195_o [], oL 3 ci64 []]), (7, .bool false)] ⟨kr, kr, trivial⟩ rfl ?_
      refine ls_ret ?_
      have hr := Option.some.inj h
      rw [← hr]
      exact ⟨.inl rfl, rfl⟩
    · refine evs (ev_gr rfl (congrArg V.bool g7) (ev_ldB (off := 0) (v := .agg (c92_ddd a1)) rfl rfl rfl rfl (nb rfl) rfl (evs (ev_gr rfl (congrArg V.bool g7) (ev_mv (c := dL ci64 a2) rfl rfl rfl (?_))))))
      obtain ⟨v8, g9, h⟩ := ob_some h
      refine evs (ev_gr rfl (congrArg V.bool g7) (ev_call (era rfl (erg (erc rfl (erc (erD ec195_d _) (erc (erD eci64 _) rfl)))) (era rfl (erD eci64 _) eran)) (impl_IsValidOrder_s g9) (evs (ev_gr rfl (congrArg V.bool g7) (ev_un (c1 := .bool v8) rfl trivial (evs (ev_pkF (c1 := .bool (!v8)) rfl g7 rfl rfl (evn ?_))))))))
      refine ls_keep [(2, dL ci64 a2), (4, .box [nI a1.1, dL c195_d a1.2.1, dL ci64 a1.2.2]), (6, .box [nI 0, oL 3 ci64 [], oL 3 ci64 [], nI 0, oL 195 c195_o [], oL 3 ci64 []]), (8, nI (IntKind.i64.wrap ((IntKind.i64.wrap (a0.1 + (List.length a0.2 : Int))) - 1))), (37, .bool (!v8))] ⟨kr, kr, kr, kr, kr, trivial⟩ rfl ?_
      rcases cond_some h with ⟨g10, h⟩ | ⟨g10, h⟩
      · refine ls_cT rfl g10 ?_
        refine ls_rs tbOk ?_
        refine evs (ev_bd [] (cs := [nI 0, oL 3 ci64 [], oL 3 ci64 [], nI 0, oL 195 c195_o [], oL 3 ci64 []]) rfl trivial rfl (evs (ev_st (off := 0) (c1 := .agg [nI 0, oL 3 ci64 [], oL 3 ci64 [], nI 0, oL 195 c195_o [], oL 3 ci64 []]) (cs' := [nI 0, oL 3 ci64 [], oL 3 ci64 [], nI 0, oL 195 c195_o [], oL 3 ci64 []]) rfl rfl rfl rfl rfl rfl (nb rfl) rfl (evs (ev_ac rfl nofun rfl (evn ?_))))))
        refine ls_keep [(6, .box [nI 0, oL 3 ci64 [], oL 3 ci64 [], nI 0, oL 195 c195_o [], oL 3 ci64 []]), (7, .bool false)] ⟨kr, kr, trivial⟩ rfl ?_
        refine ls_ret ?_
        have hr := Option.some.inj h
        rw [← hr]
        exact ⟨.inl rfl, rfl⟩
      · refine ls_cF rfl g10 ?_
        refine ls_skip ?_
        refine hK3 _ (ls_keep [(2, dL ci64 a2), (4, .box [nI a1.1, dL c195_d a1.2.1, dL ci64 a1.2.2]), (6, .box [nI 0, oL 3 ci64 [], oL 3 ci64 [], nI 0, oL 195 c195_o [], oL 3 ci64 []]), (8, nI (IntKind.i64.wrap ((IntKind.i64.wrap (a0.1 + (List.length a0.2 : Int))) - 1)))] ⟨kr, kr, kr, kr, trivial⟩ rfl ?_)
        refine ls_rd tbOk mixed (by kernel_rfl) ?_
        refine evd rfl rfl (ev_mv (c := nI (IntKind.i64.wrap ((IntKind.i64.wrap (a0.1 + (List.length a0.2 : Int))) - 1))) rfl rfl rfl (evd rfl rfl (ev_mv (c := dL ci64 a2) rfl rfl rfl (?_))))
        obtain ⟨v11, g12, h⟩ := ob_some h
        refine evd rfl rfl (ev_call (era rfl (erD eci64 _) eran) (impl_copyInts_s g12) (evd rfl rfl (ev_ldB (off := 0) (v := .agg (c92_ddd a1)) rfl rfl rfl rfl (nb rfl) rfl (?_))))
        obtain ⟨v13, g14, h⟩ := ob_some h
        refine evd rfl rfl (ev_call (era rfl (erg (erc rfl (erc (erD ec195_d _) (erc (erD eci64 _) rfl)))) eran) (impl_copyQuery_s g14) (evd rfl rfl (ev_bd [nI (IntKind.i64.wrap ((IntKind.i64.wrap (a0.1 + (List.length a0.2 : Int))) - 1)), oL 3 ci64 v11, .agg (c92_ooo v13)] (cs := [nI (IntKind.i64.wrap ((IntKind.i64.wrap (a0.1 + (List.length a0.2 : Int))) - 1)), oL 3 ci64 v11, oL 3 ci64 [], nI v13.1, oL 195 c195_o v13.2.1, oL 3 ci64 v13.2.2]) rfl ⟨rfl, rfl, rfl, trivial⟩ rfl (evd rfl rfl (ev_st (off := 0) (c1 := .agg [nI (IntKind.i64.wrap ((IntKind.i64.wrap (a0.1 + (List.length a0.2 : Int))) - 1)), oL 3 ci64 v11, oL 3 ci64 [], nI v13.1, oL 195 c195_o v13.2.1, oL 3 ci64 v13.2.2]) (cs' := [nI (IntKind.i64.wrap ((IntKind.i64.wrap (a0.1 + (List.length a0.2 : Int))) - 1)), oL 3 ci64 v11, oL 3 ci64 [], nI v13.1, oL 195 c195_o v13.2.1, oL 3 ci64 v13.2.2]) rfl rfl rfl rfl rfl rfl (nb rfl) rfl (evd rfl rfl (ev_ac rfl nofun rfl (evdn ?_))))))))
        refine ls_keep [(6, .box [nI (IntKind.i64.wrap ((IntKind.i64.wrap (a0.1 + (List.length a0.2 : Int))) - 1)), oL 3 ci64 v11, oL 3 ci64 [], nI v13.1, oL 195 c195_o v13.2.1, oL 3 ci64 v13.2.2]), (7, .bool true)] ⟨kr, kr, trivial⟩ rfl ?_
        refine ls_ret ?_
        have hr := Option.some.inj h
        rw [← hr]
        exact ⟨.inl rfl, rfl⟩
def laws_eqCursor (a0 : Y107) (a1 : Y107) : Option (Bool) := cond (a0.1 != a1.1) (some false) (obind (laws_eqIntS a0.2.1 a1.2.1) fun v4 => cond (!v4) (some false) (obind (laws_eqIntS a0.2.2.1 a1.2.2.1) fun v8 => cond (!v8) (some false) (obind (laws_eqQuery a0.2.2.2 a1.2.2.2) fun v12 => cond (!v12) (some false) (some true))))
theorem laws_eqCursor_s {a0 : Y107} {a1 : Y107} {r : Bool} (h : laws_eqCursor a0 a1 = some r) : SoundAt Try.prog 60 [.agg (c108_ddddd a0), .agg (c108_ddddd a1)] (.bool r) := by
  unfold laws_eqCursor at h
  refine sound_lit tbOk lit60 (nb rfl) rfl ?_
  unfold c60
  refine ls_keep [(0, .agg (c108_ddddd a0)), (1, .agg (c108_ddddd a1))] ⟨kr, kr, trivial⟩ rfl ?_
  refine ls_rs tbOk ?_
  refine evs (ev_bx (c1 := .agg (c108_ddddd a0)) rfl rfl rfl (evs (ev_bx (c1 := .agg (c108_ddddd a1)) rfl rfl rfl (evs (ev_ac rfl nofun rfl (evn ?_))))))
  refine ls_keep [(2, .box [nI a0.1, dL ci64 a0.2.1, dL ci64 a0.2.2.1, nI a0.2.2.2.1, dL c195_d a0.2.2.2.2.1, dL ci64 a0.2.2.2.2.2]), (3, .box [nI a1.1, dL ci64 a1.2.1, dL ci64 a1.2.2.1, nI a1.2.2.2.1, dL c195_d a1.2.2.2.2.1, dL ci64 a1.2.2.2.2.2])] ⟨kr, kr, trivial⟩ rfl ?_
  refine ls_seq_k fun K1 hK1 => ?_
  refine ls_rs tbOk ?_
  refine evs (ev_fa (c1 := .cref 2 0) (v := .cref 2 0) rfl rfl rfl ⟨_, rfl⟩ rfl (evs (ev_ldB (off := 0) (v := nI a0.1) rfl rfl rfl rfl (nb rfl) rfl (evs (ev_fa (c1 := .cref 3 0) (v := .cref 3 0) rfl rfl rfl ⟨_, rfl⟩ rfl (evs (ev_ldB (off := 0) (v := nI a1.1) rfl rfl rfl rfl (nb rfl) rfl (evs (ev_bin (c1 := nI a0.1) (c2 := nI a1.1) rfl rfl rfl (evn ?_))))))))))
  refine ls_keep [(2, .box [nI a0.1, dL ci64 a0.2.1, dL ci64 a0.2.2.1, nI a0.2.2.2.1, dL c195_d a0.2.2.2.2.1, dL ci64 a0.2.2.2.2.2]), (3, .box [nI a1.1, dL ci64 a1.2.1, dL ci64 a1.2.2.1, nI a1.2.2.2.1, dL c195_d a1.2.2.2.2.1, dL ci64 a1.2.2.2.2.2]), (9, .bool (a0.1 != a1.1))] ⟨kr, kr, kr, trivial⟩ rfl ?_
  rcases cond_some h with ⟨g2, h⟩ | ⟨g2, h⟩
  · refine ls_cT rfl g2 ?_
    refine ls_rs tbOk ?_
    refine evs (ev_ac rfl nofun rfl (evn ?_))
    refine ls_keep [(4, .bool false)] ⟨kr, trivial⟩ rfl ?_
    refine ls_ret ?_
    have hr := Option.some.inj h
    rw [← hr]
    exact ⟨.inl rfl, rfl⟩
  · refine ls_cF rfl g2 ?_
    refine ls_skip ?_
    refine hK1 _ (ls_keep [(2, .box [nI a0.1, dL ci64 a0.2.1, dL ci64 a0.2.2.1, nI a0.2.2.2.1, dL c195_d a0.2.2.2.2.1, dL ci64 a0.2.2.2.2.2]), (3, .box [nI a1.1, dL ci64 a1.2.1, dL ci64 a1.2.2.1, nI a1.2.2.2.1, dL c195_d a1.2.2.2.2.1, dL ci64 a1.2.2.2.2.2])] ⟨kr, kr, trivial⟩ rfl ?_)
    refine ls_seq_k fun K3 hK3 => ?_
    refine ls_rs tbOk ?_
    refine evs (ev_fa (c1 := .cref 2 0) (v := .cref 2 1) rfl rfl rfl ⟨_, rfl⟩ rfl (evs (ev_ldB (off := 1) (v := dL ci64 a0.2.1) rfl rfl rfl rfl (nb rfl) rfl (evs (ev_fa (c1 := .cref 3 0) (v := .cref 3 1) rfl rfl rfl ⟨_, rfl⟩ rfl (evs (ev_ldB (off := 1) (v := dL ci64 a1.2.1) rfl rfl rfl rfl (nb rfl) rfl (?_))))))))
    obtain ⟨v4, g5, h⟩ := ob_some h
    refine evs (ev_call (era rfl (erD eci64 _) (era rfl (erD eci64 _) eran)) (laws_eqIntS_s g5) (evs (ev_un (c1 := .bool v4) rfl trivial (evn ?_))))
    refine ls_keep [(2, .box [nI a0.1, dL ci64 a0.2.1, dL ci64 a0.2.2.1, nI a0.2.2.2.1, dL c195_d a0.2.2.2.2.1, dL ci64 a0.2.2.2.2.2]), (3, .box [nI a1.1, dL ci64 a1.2.1, dL ci64 a1.2.2.1, nI a1.2.2.2.1, dL c195_d a1.2.2.2.2.1, dL ci64 a1.2.2.2.2.2]), (15, .bool (!v4))] ⟨kr, kr, kr, trivial⟩ rfl ?_
    rcases cond_some h with ⟨g6, h⟩ | ⟨g6, h⟩
    · refine ls_cT rfl g6 ?_
      refine ls_rs tbOk ?_
      refine evs (ev_ac rfl nofun rfl (evn ?_))
      refine ls_keep [(4, .bool false)] ⟨kr, trivial⟩ rfl ?_
      refine ls_ret ?_
      have hr := Option.some.inj h
      rw [← hr]
      exact ⟨.inl rfl, rfl⟩
    · refine ls_cF rfl g6 ?_
      refine ls_skip ?_
      refine hK3 _ (ls_keep [(2, .box [nI a0.1, dL ci64 a0.2.1, dL ci64 a0.2.2.1, nI a0.2.2.2.1, dL c195_d a0.2.2.2.2.1, dL ci64 a0.2.2.2.2.2]), (3, .box [nI a1.1, dL ci64 a1.2.1, dL ci64 a1.2.2.1, nI a1.2.2.2.1, dL c195_d a1.2.2.2.2.1, dL ci64 a1.2.2.2.2.2])] ⟨kr, kr, trivial⟩ rfl ?_)
      refine ls_seq_k fun K7 hK7 => ?_
      refine ls_rs tbOk ?_
      refine evs (ev_fa (c1 := .cref 2 0) (v := .cref 2 2) rfl rfl rfl ⟨_, rfl⟩ rfl (evs (ev_ldB (off := 2) (v := dL ci64 a0.2.2.1) rfl rfl rfl rfl (nb rfl) rfl (evs (ev_fa (c1 := .cref 3 0) (v := .cref 3 2) rfl rfl rfl ⟨_, rfl⟩ rfl (evs (ev_ldB (off := 2) (v := dL ci64 a1.2.2.1) rfl rfl rfl rfl (nb rfl) rfl (?_))))))))
      obtain ⟨v8, g9, h⟩ := ob_some h
      refine evs (ev_call (era rfl (erD eci64 _) (era rfl (erD eci64 _) eran)) (laws_eqIntS_s g9) (evs (ev_un (c1 := .bool v8) rfl trivial (evn ?_))))
      refine ls_keep [(2, .box [nI a0.1, dL ci64 a0.2.1, dL ci64 a0.2.2.1, nI a0.2.2.2.1, dL c195_d a0.2.2.2.2.1, dL ci64 a0.2.2.2.2.2]), (3, .box [nI a1.1, dL ci64 a1.2.1, dL ci64 a1.2.2.1, nI a1.2.2.2.1, dL c195_d a1.2.2.2.2.1, dL ci64 a1.2.2.2.2.2]), (21, .bool (!v8))] ⟨kr, kr, kr, trivial⟩ rfl ?_
      rcases cond_some h with ⟨g10, h⟩ | ⟨g10, h⟩
      · refine ls_cT rfl g10 ?_
        refine ls_rs tbOk ?_
        refine evs (ev_ac rfl nofun rfl (evn ?_))
        refine ls_keep [(4, .bool false)] ⟨kr, trivial⟩ rfl ?_
        refine ls_ret ?_
        have hr := Option.some.inj h
        rw [← hr]
        exact ⟨.inl rfl, rfl⟩
      · refine ls_cF rfl g10 ?_
        refine ls_skip ?_
        refine hK7 _ (ls_keep [(2, .box [nI a0.1, dL ci64 a0.2.1, dL ci64 a0.2.2.1, nI a0.2.2.2.1, dL c195_d a0.2.2.2.2.1, dL ci64 a0.2.2.2.2.2]), (3, .box [nI a1.1, dL ci64 a1.2.1, dL ci64 a1.2.2.1, nI a1.2.2.2.1, dL c195_d a1.2.2.2.2.1, dL ci64 a1.2.2.2.2.2])] ⟨kr, kr, trivial⟩ rfl ?_)
        refine ls_seq_k fun K11 hK11 => ?_
        refine ls_rs tbOk ?_
        refine evs (ev_fa (c1 := .cref 2 0) (v := .cref 2 3) rfl rfl rfl ⟨_, rfl⟩ rfl (evs (ev_ldB (off := 3) (v := .agg (c92_ddd a0.2.2.2)) rfl rfl rfl rfl (nb rfl) rfl (evs (ev_fa (c1 := .cref 3 0) (v := .cref 3 3) rfl rfl rfl ⟨_, rfl⟩ rfl (evs (ev_ldB (off := 3) (v := .agg (c92_ddd a1.2.2.2)) rfl rfl rfl rfl (nb rfl) rfl (?_))))))))
        obtain ⟨v12, g13, h⟩ := ob_some h
        refine evs (ev_call (era rfl (erg (erc rfl (erc (erD ec195_d _) (erc (erD eci64 _) rfl)))) (era rfl (erg (erc rfl (erc (erD ec195_d _) (erc (erD eci64 _) rfl)))) eran)) (laws_eqQuery_s g13) (evs (ev_un (c1 := .bool v12) rfl trivial (evn ?_))))
        refine ls_keep [(27, .bool (!v12))] ⟨kr, trivial⟩ rfl ?_
        rcases cond_some h with ⟨g14, h⟩ | ⟨g14, h⟩
        · refine ls_cT rfl g14 ?_
          refine ls_rs tbOk ?_
          refine evs (ev_ac rfl nofun rfl (evn ?_))
          refine ls_keep [(4, .bool false)] ⟨kr, trivial⟩ rfl ?_
          refine ls_ret ?_
          have hr := Option.some.inj h
          rw [← hr]
          exact ⟨.inl rfl, rfl⟩
        · refine ls_cF rfl g14 ?_
          refine ls_skip ?_
          refine hK11 _ (ls_keep [] trivial rfl ?_)
          refine ls_rs tbOk ?_
          refine evs (ev_ac rfl nofun rfl (evn ?_))
          refine ls_keep [(4, .bool true)] ⟨kr, trivial⟩ rfl ?_
          refine ls_ret ?_
          have hr := Option.some.inj h
          rw [← hr]
          exact ⟨.inl rfl, rfl⟩
def laws_heldIntS_B1 (a0 : List Int) (rec : (Int × Int) → Option (Sum (Int) (Int))) (s : Int × Int) : Option (Sum (Int) (Int)) := match s with
  | (y1, y2) => cond (decide (y2 < (List.length a0 : Int))) (obind (geti a0 y2) fun e7 => cond (e7 != y1) (some (.inr (-1))) (rec ((IntKind.i64.wrap (y1 + 1)), (IntKind.i64.wrap (y2 + 1))))) (some (.inl y1))
def laws_heldIntS (a0 : List Int) (a1 : Int) : Option (Int) := obind (loopF (laws_heldIntS_B1 a0) fz (a1, 0)) fun o1 => (match o1 with
  | .inl z2 => (some z2)
  | .inr r => some r)
theorem laws_heldIntS_s {a0 : List Int} {a1 : Int} {r : Int} (h : laws_heldIntS a0 a1 = some r) : SoundAt Try.prog 25 [dL ci64 a0, nI a1] (nI r) := by
  unfold laws_heldIntS at h
  refine sound_lit tbOk lit25 (nb rfl) rfl ?_
  unfold c25
  refine ls_keep [(0, dL ci64 a0), (1, nI a1)] ⟨kr, kr, trivial⟩ rfl ?_
  refine ls_rs tbOk ?_
  refine evs (ev_ac rfl nofun rfl (evn ?_))
  refine ls_keep [(0, dL ci64 a0), (1, nI a1)] ⟨kr, kr, trivial⟩ rfl ?_
  refine ls_seq_k fun K1 hK1 => ?_
  refine ls_rs tbOk ?_
  refine evs (ev_ac rfl nofun rfl (evn ?_))
  refine ls_keep [(0, dL ci64 a0), (1, nI a1), (5, nI 0)] ⟨kr, kr, kr, trivial⟩ rfl ?_
  obtain ⟨o1, hl, hr1⟩ := ob_some h
  clear h
  have kXlaws_heldIntS_B1 : ∀ (z2 : Int), (some z2) = some r → ∀ σ' : PS, okK σ' [(1, nI z2)] → K1 σ' := by
    intro z2 h σ' hk
    refine hK1 _ (ls_keep [(1, nI z2)] hk rfl ?_)
    refine ls_rs tbOk ?_
    refine evs (ev_mv (c := nI z2) rfl rfl rfl (evs (ev_as (c := nI z2) rfl rfl rfl (evn ?_))))
    refine ls_keep [(4, nI z2)] ⟨kr, trivial⟩ rfl ?_
    refine ls_ret ?_
    have hr := Option.some.inj h
    rw [← hr]
    exact ⟨.inl rfl, rfl⟩
  refine ls_rec (fun (s : Int × Int) => match s with | (y1, y2) => [(0, dL ci64 a0), (1, nI y1), (5, nI y2)]) (laws_heldIntS_B1 a0) fz (a1, 0) o1 hl ⟨kr, kr, kr, trivial⟩ (fun _ => rfl) ?_
  rintro m ⟨y1, y2⟩ N h hN
  unfold laws_heldIntS_B1 at h
  dsimp only at h
  refine ls_seq_k fun K3 hK3 => ?_
  refine ls_rs tbOk ?_
  refine evs (ev_mv (c := nI y2) rfl rfl rfl (evs (ev_mv (c := dL ci64 a0) rfl rfl rfl (evs (ev_len (c1 := dL ci64 a0) rfl rfl rfl (evs (ev_bin (c1 := nI y2) (c2 := nI (List.length a0 : Int)) rfl rfl rfl (evn ?_))))))))
  refine ls_keep [(0, dL ci64 a0), (1, nI y1), (5, nI y2), (9, .bool (decide (y2 < (List.length a0 : Int))))] ⟨kr, kr, kr, kr, trivial⟩ rfl ?_
  rcases cond_some h with ⟨g4, h⟩ | ⟨g4, h⟩
  · refine ls_cT rfl g4 ?_
    refine ls_skip ?_
    refine hK3 _ (ls_keep [(0, dL ci64 a0), (1, nI y1), (5, nI y2)] ⟨kr, kr, kr, trivial⟩ rfl ?_)
    refine ls_seq_k fun K5 hK5 => ?_
    refine ls_blk ?_
    refine ls_seq_k fun K6 hK6 => ?_
    refine ls_rs tbOk ?_
    refine evs (ev_mv (c := dL ci64 a0) rfl rfl rfl (evs (ev_mv (c := nI y2) rfl rfl rfl (?_))))
    obtain ⟨e7, g8, h⟩ := ob_some h
    refine evs (ev_ia rfl rfl rfl ⟨(geti_some g8).1, (geti_some g8).2.1⟩ (evs (ev_ldE (i := y2) (n := 1) (off := 0) (v := nI e7) rfl rfl zci64 g8 rfl (nb rfl) rfl (evs (ev_mv (c := nI y1) rfl rfl rfl (evs (ev_bin (c1 := nI e7) (c2 := nI y1) rfl rfl rfl (evn ?_))))))))
    refine ls_keep [(0, dL ci64 a0), (1, nI y1), (5, nI y2), (17, .bool (e7 != y1))] ⟨kr, kr, kr, kr, trivial⟩ rfl ?_
    rcases cond_some h with ⟨g9, h⟩ | ⟨g9, h⟩
    · refine ls_cT rfl g9 ?_
      refine ls_rs tbOk ?_
      refine evs (ev_ac rfl nofun rfl (evn ?_))
      refine ls_keep [(4, nI (-1))] ⟨kr, trivial⟩ rfl ?_
      refine ls_ret ?_
      have q0 := (Option.some.inj h).symm
      have r0 := hr1
      rw [q0] at r0
      have hr := Option.some.inj r0
      rw [← hr]
      exact ⟨.inl rfl, rfl⟩
    · refine ls_cF rfl g9 ?_
      refine ls_skip ?_
      refine hK6 _ (ls_keep [(0, dL ci64 a0), (1, nI y1), (5, nI y2)] ⟨kr, kr, kr, trivial⟩ rfl ?_)
      refine ls_rgn tbOk ?_
      refine evs (ev_mv (c := nI y1) rfl rfl rfl (evs (ev_bin (c1 := nI y1) (c2 := nI 1) rfl rfl rfl (evs (ev_as (c := nI (IntKind.i64.wrap (y1 + 1))) rfl rfl rfl (evn ?_))))))
      refine hK5 _ (ls_keep [(0, dL ci64 a0), (1, nI (IntKind.i64.wrap (y1 + 1))), (5, nI y2)] ⟨kr, kr, kr, trivial⟩ rfl ?_)
      refine ls_rgn tbOk ?_
      refine evs (ev_mv (c := nI y2) rfl rfl rfl (evs (ev_bin (c1 := nI y2) (c2 := nI 1) rfl rfl rfl (evs (ev_as (c := nI (IntKind.i64.wrap (y2 + 1))) rfl rfl rfl (evn ?_))))))
      exact hN _ ((IntKind.i64.wrap (y1 + 1)), (IntKind.i64.wrap (y2 + 1))) h ⟨kr, kr, kr, trivial⟩
  · refine ls_cF rfl g4 ?_
    refine ls_exit ?_
    have q0 := (Option.some.inj h).symm
    have r0 := hr1
    rw [q0] at r0
    exact kXlaws_heldIntS_B1 y1 r0 _ ⟨kr, trivial⟩
def laws_heldAtomS_B1 (a0 : List Y194) (rec : (Int × Int) → Option (Sum (Int) (Int))) (s : Int × Int) : Option (Sum (Int) (Int)) := match s with
  | (y1, y2) => cond (decide (y2 < (List.length a0 : Int))) (obind (geti a0 y2) fun e7 => obind (laws_markText y1) fun v9 => cond (!(e7.1 == v9)) (some (.inr (-1))) (obind (geti a0 y2) fun e12 => obind (laws_heldIntS e12.2 (IntKind.i64.wrap (y1 + 1))) fun v14 => cond (decide (v14 < 0)) (some (.inr (-1))) (rec (v14, (IntKind.i64.wrap (y2 + 1)))))) (some (.inl y1))
def laws_heldAtomS (a0 : List Y194) (a1 : Int) : Option (Int) := obind (loopF (laws_heldAtomS_B1 a0) fz (a1, 0)) fun o1 => (match o1 with
  | .inl z2 => (some z2)
  | .inr r => some r)
theorem laws_heldAtomS_s {a0 : List Y194} {a1 : Int} {r : Int} (h : laws_heldAtomS a0 a1 = some r) : SoundAt Try.prog 220 [dL c195_d a0, nI a1] (nI r) := by
  unfold laws_heldAtomS at h
  refine sound_lit tbOk lit220 (nb rfl) rfl ?_
  unfold c220
  refine ls_keep [(0, dL c195_d a0), (1, nI a1)] ⟨kr, kr, trivial⟩ rfl ?_
  refine ls_rs tbOk ?_
  refine evs (ev_ac rfl nofun rfl (evn ?_))
  refine ls_keep [(0, dL c195_d a0), (1, nI a1)] ⟨kr, kr, trivial⟩ rfl ?_
  refine ls_seq_k fun K1 hK1 => ?_
  refine ls_rs tbOk ?_
  refine evs (ev_ac rfl nofun rfl (evn ?_))
  refine ls_keep [(0, dL c195_d a0), (1, nI a1), (5, nI 0)] ⟨kr, kr, kr, trivial⟩ rfl ?_
  obtain ⟨o1, hl, hr1⟩ := ob_some h
  clear h
  have kXlaws_heldAtomS_B1 : ∀ (z2 : Int), (some z2) = some r → ∀ σ' : PS, okK σ' [(1, nI z2)] → K1 σ' := by
    intro z2 h σ' hk
    refine hK1 _ (ls_keep [(1, nI z2)] hk rfl ?_)
    refine ls_rs tbOk ?_
    refine evs (ev_mv (c := nI z2) rfl rfl rfl (evs (ev_as (c := nI z2) rfl rfl rfl (evn ?_))))
    refine ls_keep [(4, nI z2)] ⟨kr, trivial⟩ rfl ?_
    refine ls_ret ?_
    have hr := Option.some.inj h
    rw [← hr]
    exact ⟨.inl rfl, rfl⟩
  refine ls_rec (fun (s : Int × Int) => match s with | (y1, y2) => [(0, dL c195_d a0), (1, nI y1), (5, nI y2)]) (laws_heldAtomS_B1 a0) fz (a1, 0) o1 hl ⟨kr, kr, kr, trivial⟩ (fun _ => rfl) ?_
  rintro m ⟨y1, y2⟩ N h hN
  unfold laws_heldAtomS_B1 at h
  dsimp only at h
  refine ls_seq_k fun K3 hK3 => ?_
  refine ls_rs tbOk ?_
  refine evs (ev_mv (c := nI y2) rfl rfl rfl (evs (ev_mv (c := dL c195_d a0) rfl rfl rfl (evs (ev_len (c1 := dL c195_d a0) rfl rfl rfl (evs (ev_bin (c1 := nI y2) (c2 := nI (List.length a0 : Int)) rfl rfl rfl (evn ?_))))))))
  refine ls_keep [(0, dL c195_d a0), (1, nI y1), (5, nI y2), (9, .bool (decide (y2 < (List.length a0 : Int))))] ⟨kr, kr, kr, kr, trivial⟩ rfl ?_
  rcases cond_some h with ⟨g4, h⟩ | ⟨g4, h⟩
  · refine ls_cT rfl g4 ?_
    refine ls_skip ?_
    refine hK3 _ (ls_keep [(0, dL c195_d a0), (1, nI y1), (5, nI y2)] ⟨kr, kr, kr, trivial⟩ rfl ?_)
    refine ls_seq_k fun K5 hK5 => ?_
    refine ls_blk ?_
    refine ls_seq_k fun K6 hK6 => ?_
    refine ls_rd tbOk mixed (by kernel_rfl) ?_
    refine evd rfl rfl (ev_mv (c := dL c195_d a0) rfl rfl rfl (evd rfl rfl (ev_mv (c := nI y2) rfl rfl rfl (?_))))
    obtain ⟨e7, g8, h⟩ := ob_some h
    refine evd rfl rfl (ev_ia rfl rfl rfl ⟨(geti_some g8).1, (geti_some g8).2.1⟩ (evd rfl rfl (ev_fa (c1 := .adr (a0.flatMap c195_d) (Int.toNat y2 * 2)) (v := .adr (a0.flatMap c195_d) (Int.toNat y2 * 2)) rfl rfl rfl trivial rfl (evd rfl rfl (ev_ldE (i := y2) (n := 2) (off := 0) (v := .str e7.1) rfl rfl zc195_d g8 rfl (nb rfl) rfl (evd rfl rfl (ev_mv (c := nI y1) rfl rfl rfl (?_))))))))
    obtain ⟨v9, g10, h⟩ := ob_some h
    refine evd rfl rfl (ev_call (era rfl rfl eran) (laws_markText_s g10) (evd rfl rfl (ev_bin (c1 := .str e7.1) (c2 := .str v9) rfl rfl trivial (evdn ?_))))
    refine ls_keep [(0, dL c195_d a0), (1, nI y1), (5, nI y2), (19, .bool (!(e7.1 == v9)))] ⟨kr, kr, kr, kr, trivial⟩ rfl ?_
    rcases cond_some h with ⟨g11, h⟩ | ⟨g11, h⟩
    · refine ls_cT rfl g11 ?_
      refine ls_rs tbOk ?_
      refine evs (ev_ac rfl nofun rfl (evn ?_))
      refine ls_keep [(4, nI (-1))] ⟨kr, trivial⟩ rfl ?_
      refine ls_ret ?_
      have q0 := (Option.some.inj h).symm
      have r0 := hr1
      rw [q0] at r0
      have hr := Option.some.inj r0
      rw [← hr]
      exact ⟨.inl rfl, rfl⟩
    · refine ls_cF rfl g11 ?_
      refine ls_skip ?_
      refine hK6 _ (ls_keep [(0, dL c195_d a0), (1, nI y1), (5, nI y2)] ⟨kr, kr, kr, trivial⟩ rfl ?_)
      refine ls_rs tbOk ?_
      refine evs (ev_mv (c := nI y1) rfl rfl rfl (evs (ev_bin (c1 := nI y1) (c2 := nI 1) rfl rfl rfl (evs (ev_as (c := nI (IntKind.i64.wrap (y1 + 1))) rfl rfl rfl (evn ?_))))))
      refine ls_keep [(0, dL c195_d a0), (1, nI (IntKind.i64.wrap (y1 + 1))), (5, nI y2)] ⟨kr, kr, kr, trivial⟩ rfl ?_
      refine ls_rs tbOk ?_
      refine evs (ev_mv (c := dL c195_d a0) rfl rfl rfl (evs (ev_mv (c := nI y2) rfl rfl rfl (?_))))
      obtain ⟨e12, g13, h⟩ := ob_some h
      refine evs (ev_ia rfl rfl rfl ⟨(geti_some g13).1, (geti_some g13).2.1⟩ (evs (ev_fa (c1 := .adr (a0.flatMap c195_d) (Int.toNat y2 * 2)) (v := .adr (a0.flatMap c195_d) (Int.toNat y2 * 2 + 1)) rfl rfl rfl trivial rfl (evs (ev_ldE (i := y2) (n := 2) (off := 1) (v := dL ci64 e12.2) rfl rfl zc195_d g13 rfl (nb rfl) rfl (evs (ev_mv (c := nI (IntKind.i64.wrap (y1 + 1))) rfl rfl rfl (?_))))))))
      obtain ⟨v14, g15, h⟩ := ob_some h
      refine evs (ev_call (era rfl (erD eci64 _) (era rfl rfl eran)) (laws_heldIntS_s g15) (evs (ev_as (c := nI v14) rfl rfl rfl (evn ?_))))
      refine ls_keep [(0, dL c195_d a0), (1, nI v14), (5, nI y2)] ⟨kr, kr, kr, trivial⟩ rfl ?_
      refine ls_rs tbOk ?_
      refine evs (ev_mv (c := nI v14) rfl rfl rfl (evs (ev_bin (c1 := nI v14) (c2 := nI 0) rfl rfl rfl (evn ?_))))
      refine ls_keep [(0, dL c195_d a0), (1, nI v14), (5, nI y2), (30, .bool (decide (v14 < 0)))] ⟨kr, kr, kr, kr, trivial⟩ rfl ?_
      rcases cond_some h with ⟨g16, h⟩ | ⟨g16, h⟩
      · refine ls_cT rfl g16 ?_
        refine ls_rs tbOk ?_
        refine evs (ev_ac rfl nofun rfl (evn ?_))
        refine ls_keep [(4, nI (-1))] ⟨kr, trivial⟩ rfl ?_
        refine ls_ret ?_
        have q0 := (Option.some.inj h).symm
        have r0 := hr1
        rw [q0] at r0
        have hr := Option.some.inj r0
        rw [← hr]
        exact ⟨.inl rfl, rfl⟩
      · refine ls_cF rfl g16 ?_
        refine ls_skip ?_
        refine hK5 _ (ls_keep [(0, dL c195_d a0), (1, nI v14), (5, nI y2)] ⟨kr, kr, kr, trivial⟩ rfl ?_)
        refine ls_rgn tbOk ?_
        refine evs (ev_mv (c := nI y2) rfl rfl rfl (evs (ev_bin (c1 := nI y2) (c2 := nI 1) rfl rfl rfl (evs (ev_as (c := nI (IntKind.i64.wrap (y2 + 1))) rfl rfl rfl (evn ?_))))))
        exact hN _ (v14, (IntKind.i64.wrap (y2 + 1))) h ⟨kr, kr, kr, trivial⟩
  · refine ls_cF rfl g4 ?_
    refine ls_exit ?_
    have q0 := (Option.some.inj h).symm
    have r0 := hr1
    rw [q0] at r0
    exact kXlaws_heldAtomS_B1 y1 r0 _ ⟨kr, trivial⟩
def laws_heldQuery (a0 : Y91) (a1 : Int) : Option (Int) := obind (laws_heldAtomS a0.2.1 a1) fun v1 => cond (decide (v1 < 0)) (some (-1)) (obind (laws_heldIntS a0.2.2 v1) fun v5 => cond (decide (v5 < 0)) (some (-1)) (some v5))
theorem laws_heldQuery_s {a0 : Y91} {a1 : Int} {r : Int} (h : laws_heldQuery a0 a1 = some r) : SoundAt Try.prog 154 [.agg (c92_ddd a0), nI a1] (nI r) := by
  unfold laws_heldQuery at h
  refine sound_lit tbOk lit154 (nb rfl) rfl ?_
  unfold c154
  refine ls_keep [(0, .agg (c92_ddd a0)), (1, nI a1)] ⟨kr, kr, trivial⟩ rfl ?_
  refine ls_rs tbOk ?_
  refine evs (ev_bx (c1 := .agg (c92_ddd a0)) rfl rfl rfl (evs (ev_ac rfl nofun rfl (evn ?_))))
  refine ls_keep [(1, nI a1), (2, .box [nI a0.1, dL c195_d a0.2.1, dL ci64 a0.2.2])] ⟨kr, kr, trivial⟩ rfl ?_
  refine ls_rs tbOk ?_
  refine evs (ev_fa (c1 := .cref 2 0) (v := .cref 2 1) rfl rfl rfl ⟨_, rfl⟩ rfl (evs (ev_ldB (off := 1) (v := dL c195_d a0.2.1) rfl rfl rfl rfl (nb rfl) rfl (evs (ev_mv (c := nI a1) rfl rfl rfl (?_))))))
  obtain ⟨v1, g2, h⟩ := ob_some h
  refine evs (ev_call (era rfl (erD ec195_d _) (era rfl rfl eran)) (laws_heldAtomS_s g2) (evs (ev_as (c := nI v1) rfl rfl rfl (evn ?_))))
  refine ls_keep [(1, nI v1), (2, .box [nI a0.1, dL c195_d a0.2.1, dL ci64 a0.2.2])] ⟨kr, kr, trivial⟩ rfl ?_
  refine ls_seq_k fun K3 hK3 => ?_
  refine ls_rs tbOk ?_
  refine evs (ev_mv (c := nI v1) rfl rfl rfl (evs (ev_bin (c1 := nI v1) (c2 := nI 0) rfl rfl rfl (evn ?_))))
  refine ls_keep [(1, nI v1), (2, .box [nI a0.1, dL c195_d a0.2.1, dL ci64 a0.2.2]), (10, .bool (decide (v1 < 0)))] ⟨kr, kr, kr, trivial⟩ rfl ?_
  rcases cond_some h with ⟨g4, h⟩ | ⟨g4, h⟩
  · refine ls_cT rfl g4 ?_
    refine ls_rs tbOk ?_
    refine evs (ev_ac rfl nofun rfl (evn ?_))
    refine ls_keep [(4, nI (-1))] ⟨kr, trivial⟩ rfl ?_
    refine ls_ret ?_
    have hr := Option.some.inj h
    rw [← hr]
    exact ⟨.inl rfl, rfl⟩
  · refine ls_cF rfl g4 ?_
    refine ls_skip ?_
    refine hK3 _ (ls_keep [(1, nI v1), (2, .box [nI a0.1, dL c195_d a0.2.1, dL ci64 a0.2.2])] ⟨kr, kr, trivial⟩ rfl ?_)
    refine ls_rs tbOk ?_
    refine evs (ev_fa (c1 := .cref 2 0) (v := .cref 2 2) rfl rfl rfl ⟨_, rfl⟩ rfl (evs (ev_ldB (off := 2) (v := dL ci64 a0.2.2) rfl rfl rfl rfl (nb rfl) rfl (evs (ev_mv (c := nI v1) rfl rfl rfl (?_))))))
    obtain ⟨v5, g6, h⟩ := ob_some h
    refine evs (ev_call (era rfl (erD eci64 _) (era rfl rfl eran)) (laws_heldIntS_s g6) (evs (ev_as (c := nI v5) rfl rfl rfl (evn ?_))))
    refine ls_keep [(1, nI v5)] ⟨kr, trivial⟩ rfl ?_
    refine ls_seq_k fun K7 hK7 => ?_
    refine ls_rs tbOk ?_
    refine evs (ev_mv (c := nI v5) rfl rfl rfl (evs (ev_bin (c1 := nI v5) (c2 := nI 0) rfl rfl rfl (evn ?_))))
    refine ls_keep [(1, nI v5), (16, .bool (decide (v5 < 0)))] ⟨kr, kr, trivial⟩ rfl ?_
    rcases cond_some h with ⟨g8, h⟩ | ⟨g8, h⟩
    · refine ls_cT rfl g8 ?_
      refine ls_rs tbOk ?_
      refine evs (ev_ac rfl nofun rfl (evn ?_))
      refine ls_keep [(4, nI (-1))] ⟨kr, trivial⟩ rfl ?_
      refine ls_ret ?_
      have hr := Option.some.inj h
      rw [← hr]
      exact ⟨.inl rfl, rfl⟩
    · refine ls_cF rfl g8 ?_
      refine ls_skip ?_
      refine hK7 _ (ls_keep [(1, nI v5)] ⟨kr, trivial⟩ rfl ?_)
      refine ls_rs tbOk ?_
      refine evs (ev_mv (c := nI v5) rfl rfl rfl (evs (ev_as (c := nI v5) rfl rfl rfl (evn ?_))))
      refine ls_keep [(4, nI v5)] ⟨kr, trivial⟩ rfl ?_
      refine ls_ret ?_
      have hr := Option.some.inj h
      rw [← hr]
      exact ⟨.inl rfl, rfl⟩
def laws_heldCursor (a0 : Y107) (a1 : Int) : Option (Int) := obind (laws_heldIntS a0.2.1 a1) fun v1 => cond (decide (v1 < 0)) (some (-1)) (obind (laws_heldIntS a0.2.2.1 v1) fun v5 => cond (decide (v5 < 0)) (some (-1)) (obind (laws_heldQuery a0.2.2.2 v5) fun v9 => cond (decide (v9 < 0)) (some (-1)) (some v9)))
theorem laws_heldCursor_s {a0 : Y107} {a1 : Int} {r : Int} (h : laws_heldCursor a0 a1 = some r) : SoundAt Try.prog 63 [.agg (c108_ddddd a0), nI a1] (nI r) := by
  unfold laws_heldCursor at h
  refine sound_lit tbOk lit63 (nb rfl) rfl ?_
  unfold c63
  refine ls_keep [(0, .agg (c108_ddddd a0)), (1, nI a1)] ⟨kr, kr, trivial⟩ rfl ?_
  refine ls_rs tbOk ?_
  refine evs (ev_bx (c1 := .agg (c108_ddddd a0)) rfl rfl rfl (evs (ev_ac rfl nofun rfl (evn ?_))))
  refine ls_keep [(1, nI a1), (2, .box [nI a0.1, dL ci64 a0.2.1, dL ci64 a0.2.2.1, nI a0.2.2.2.1, dL c195_d a0.2.2.2.2.1, dL ci64 a0.2.2.2.2.2])] ⟨kr, kr, trivial⟩ rfl ?_
  refine ls_rs tbOk ?_
  refine evs (ev_fa (c1 := .cref 2 0) (v := .cref 2 1) rfl rfl rfl ⟨_, rfl⟩ rfl (evs (ev_ldB (off := 1) (v := dL ci64 a0.2.1) rfl rfl rfl rfl (nb rfl) rfl (evs (ev_mv (c := nI a1) rfl rfl rfl (?_))))))
  obtain ⟨v1, g2, h⟩ := ob_some h
  refine evs (ev_call (era rfl (erD eci64 _) (era rfl rfl eran)) (laws_heldIntS_s g2) (evs (ev_as (c := nI v1) rfl rfl rfl (evn ?_))))
  refine ls_keep [(1, nI v1), (2, .box [nI a0.1, dL ci64 a0.2.1, dL ci64 a0.2.2.1, nI a0.2.2.2.1, dL c195_d a0.2.2.2.2.1, dL ci64 a0.2.2.2.2.2])] ⟨kr, kr, trivial⟩ rfl ?_
  refine ls_seq_k fun K3 hK3 => ?_
  refine ls_rs tbOk ?_
  refine evs (ev_mv (c := nI v1) rfl rfl rfl (evs (ev_bin (c1 := nI v1) (c2 := nI 0) rfl rfl rfl (evn ?_))))
  refine ls_keep [(1, nI v1), (2, .box [nI a0.1, dL ci64 a0.2.1, dL ci64 a0.2.2.1, nI a0.2.2.2.1, dL c195_d a0.2.2.2.2.1, dL ci64 a0.2.2.2.2.2]), (10, .bool (decide (v1 < 0)))] ⟨kr, kr, kr, trivial⟩ rfl ?_
  rcases cond_some h with ⟨g4, h⟩ | ⟨g4, h⟩
  · refine ls_cT rfl g4 ?_
    refine ls_rs tbOk ?_
    refine evs (ev_ac rfl nofun rfl (evn ?_))
    refine ls_keep [(4, nI (-1))] ⟨kr, trivial⟩ rfl ?_
    refine ls_ret ?_
    have hr := Option.some.inj h
    rw [← hr]
    exact ⟨.inl rfl, rfl⟩
  · refine ls_cF rfl g4 ?_
    refine ls_skip ?_
    refine hK3 _ (ls_keep [(1, nI v1), (2, .box [nI a0.1, dL ci64 a0.2.1, dL ci64 a0.2.2.1, nI a0.2.2.2.1, dL c195_d a0.2.2.2.2.1, dL ci64 a0.2.2.2.2.2])] ⟨kr, kr, trivial⟩ rfl ?_)
    refine ls_rs tbOk ?_
    refine evs (ev_fa (c1 := .cref 2 0) (v := .cref 2 2) rfl rfl rfl ⟨_, rfl⟩ rfl (evs (ev_ldB (off := 2) (v := dL ci64 a0.2.2.1) rfl rfl rfl rfl (nb rfl) rfl (evs (ev_mv (c := nI v1) rfl rfl rfl (?_))))))
    obtain ⟨v5, g6, h⟩ := ob_some h
    refine evs (ev_call (era rfl (erD eci64 _) (era rfl rfl eran)) (laws_heldIntS_s g6) (evs (ev_as (c := nI v5) rfl rfl rfl (evn ?_))))
    refine ls_keep [(1, nI v5), (2, .box [nI a0.1, dL ci64 a0.2.1, dL ci64 a0.2.2.1, nI a0.2.2.2.1, dL c195_d a0.2.2.2.2.1, dL ci64 a0.2.2.2.2.2])] ⟨kr, kr, trivial⟩ rfl ?_
    refine ls_seq_k fun K7 hK7 => ?_
    refine ls_rs tbOk ?_
    refine evs (ev_mv (c := nI v5) rfl rfl rfl (evs (ev_bin (c1 := nI v5) (c2 := nI 0) rfl rfl rfl (evn ?_))))
    refine ls_keep [(1, nI v5), (2, .box [nI a0.1, dL ci64 a0.2.1, dL ci64 a0.2.2.1, nI a0.2.2.2.1, dL c195_d a0.2.2.2.2.1, dL ci64 a0.2.2.2.2.2]), (16, .bool (decide (v5 < 0)))] ⟨kr, kr, kr, trivial⟩ rfl ?_
    rcases cond_some h with ⟨g8, h⟩ | ⟨g8, h⟩
    · refine ls_cT rfl g8 ?_
      refine ls_rs tbOk ?_
      refine evs (ev_ac rfl nofun rfl (evn ?_))
      refine ls_keep [(4, nI (-1))] ⟨kr, trivial⟩ rfl ?_
      refine ls_ret ?_
      have hr := Option.some.inj h
      rw [← hr]
      exact ⟨.inl rfl, rfl⟩
    · refine ls_cF rfl g8 ?_
      refine ls_skip ?_
      refine hK7 _ (ls_keep [(1, nI v5), (2, .box [nI a0.1, dL ci64 a0.2.1, dL ci64 a0.2.2.1, nI a0.2.2.2.1, dL c195_d a0.2.2.2.2.1, dL ci64 a0.2.2.2.2.2])] ⟨kr, kr, trivial⟩ rfl ?_)
      refine ls_rs tbOk ?_
      refine evs (ev_fa (c1 := .cref 2 0) (v := .cref 2 3) rfl rfl rfl ⟨_, rfl⟩ rfl (evs (ev_ldB (off := 3) (v := .agg (c92_ddd a0.2.2.2)) rfl rfl rfl rfl (nb rfl) rfl (evs (ev_mv (c := nI v5) rfl rfl rfl (?_))))))
      obtain ⟨v9, g10, h⟩ := ob_some h
      refine evs (ev_call (era rfl (erg (erc rfl (erc (erD ec195_d _) (erc (erD eci64 _) rfl)))) (era rfl rfl eran)) (laws_heldQuery_s g10) (evs (ev_as (c := nI v9) rfl rfl rfl (evn ?_))))
      refine ls_keep [(1, nI v9)] ⟨kr, trivial⟩ rfl ?_
      refine ls_seq_k fun K11 hK11 => ?_
      refine ls_rs tbOk ?_
      refine evs (ev_mv (c := nI v9) rfl rfl rfl (evs (ev_bin (c1 := nI v9) (c2 := nI 0) rfl rfl rfl (evn ?_))))
      refine ls_keep [(1, nI v9), (22, .bool (decide (v9 < 0)))] ⟨kr, kr, trivial⟩ rfl ?_
      rcases cond_some h with ⟨g12, h⟩ | ⟨g12, h⟩
      · refine ls_cT rfl g12 ?_
        refine ls_rs tbOk ?_
        refine evs (ev_ac rfl nofun rfl (evn ?_))
        refine ls_keep [(4, nI (-1))] ⟨kr, trivial⟩ rfl ?_
        refine ls_ret ?_
        have hr := Option.some.inj h
        rw [← hr]
        exact ⟨.inl rfl, rfl⟩
      · refine ls_cF rfl g12 ?_
        refine ls_skip ?_
        refine hK11 _ (ls_keep [(1, nI v9)] ⟨kr, trivial⟩ rfl ?_)
        refine ls_rs tbOk ?_
        refine evs (ev_mv (c := nI v9) rfl rfl rfl (evs (ev_as (c := nI v9) rfl rfl rfl (evn ?_))))
        refine ls_keep [(4, nI v9)] ⟨kr, trivial⟩ rfl ?_
        refine ls_ret ?_
        have hr := Option.some.inj h
        rw [← hr]
        exact ⟨.inl rfl, rfl⟩
end Go.Proofs.Ytkcfahfladikkaa
