/-
  Functions of the program as typed functions, printed by gen.py, and that the program's functions do what they say. No conditions.
-/
import Derived.Test.YtkmkbpphdalgoaaUpK3
import Derived.Test.YtkmkbpphdalgoaaLit2K3
namespace Go.Proofs.Ytkmkbpphdalgoaa
open Go.RowKit
set_option linter.unusedVariables false
set_option maxRecDepth 100000
set_option maxHeartbeats 1000000
def laws_eqIntS_B1 (a0 : List Int) (a1 : List Int) (rec : Int → Option (Sum (Unit) (Bool))) (y1 : Int) : Option (Sum (Unit) (Bool)) := cond (decide (y1 < (List.length a0 : Int))) (obind (geti a0 y1) fun e7 => obind (geti a1 y1) fun e9 => cond (e7 != e9) (some (.inr false)) (rec (IntKind.i64.wrap (y1 + 1)))) (some (.inl ()))
def laws_eqIntS (a0 : List Int) (a1 : List Int) : Option (Bool) := cond ((List.length a0 : Int) != (List.length a1 : Int)) (some false) (obind (loopF (laws_eqIntS_B1 a0 a1) fz 0) fun o1 => (match o1 with
  | .inl _ => (some true)
  | .inr r => some r))
theorem laws_eqIntS_s {a0 : List Int} {a1 : List Int} {r : Bool} (h : laws_eqIntS a0 a1 = some r) : SoundAt Try.prog 35 [.dat a0.length (a0.flatMap ci64), .dat a1.length (a1.flatMap ci64)] (.bool r) := by
  unfold laws_eqIntS at h
  refine sound_lit tbOk lit35 (Nat.le_of_ble_eq_true rfl) rfl ?_
  unfold c35
  refine ls_keep [(0, .dat a0.length (a0.flatMap ci64)), (1, .dat a1.length (a1.flatMap ci64))] ⟨kr, kr, trivial⟩ rfl ?_
  refine ls_rs tbOk ?_
  refine evs (ev_ac rfl nofun rfl (evn ?_))
  refine ls_keep [(0, .dat a0.length (a0.flatMap ci64)), (1, .dat a1.length (a1.flatMap ci64))] ⟨kr, kr, trivial⟩ rfl ?_
  refine ls_seq_k fun K1 hK1 => ?_
  refine ls_rs tbOk ?_
  refine evs (ev_mv (c := .dat a0.length (a0.flatMap ci64)) rfl rfl rfl (evs (ev_len (c1 := .dat a0.length (a0.flatMap ci64)) rfl rfl rfl (evs (ev_mv (c := .dat a1.length (a1.flatMap ci64)) rfl rfl rfl (evs (ev_len (c1 := .dat a1.length (a1.flatMap ci64)) rfl rfl rfl (evs (ev_bin (c1 := .int .i64 (List.length a0 : Int)) (c2 := .int .i64 (List.length a1 : Int)) rfl rfl rfl (evn ?_))))))))))
  refine ls_keep [(0, .dat a0.length (a0.flatMap ci64)), (1, .dat a1.length (a1.flatMap ci64)), (10, .bool ((List.length a0 : Int) != (List.length a1 : Int)))] ⟨kr, kr, kr, trivial⟩ rfl ?_
  rcases cond_some h with ⟨g2, h⟩ | ⟨g2, h⟩
  · refine ls_cT rfl g2 ?_
    refine ls_rs tbOk ?_
    refine evs (ev_ac rfl nofun rfl (evn ?_))
    refine ls_keep [(4, .bool false)] ⟨kr, trivial⟩ rfl ?_
    refine ls_ret ?_
    have hr := Option.some.inj h
    rw [← hr]
    exact ⟨.inl rfl, rfl⟩
  · refine ls_cF rfl g2 ?_
    refine ls_skip ?_
    refine hK1 _ (ls_keep [(0, .dat a0.length (a0.flatMap ci64)), (1, .dat a1.length (a1.flatMap ci64))] ⟨kr, kr, trivial⟩ rfl ?_)
    refine ls_seq_k fun K3 hK3 => ?_
    refine ls_rs tbOk ?_
    refine evs (ev_ac rfl nofun rfl (evn ?_))
    refine ls_keep [(0, .dat a0.length (a0.flatMap ci64)), (1, .dat a1.length (a1.flatMap ci64)), (5, .int .i64 0)] ⟨kr, kr, kr, trivial⟩ rfl ?_
    obtain ⟨o1, hl, hr1⟩ := ob_some h
    clear h
    have kXlaws_eqIntS_B1 : ∀ (_ : Unit), (some true) = some r → ∀ σ' : PS, okK σ' [] → K3 σ' := by
      intro _ h σ' hk
      refine hK3 _ (ls_keep [] hk rfl ?_)
      refine ls_rs tbOk ?_
      refine evs (ev_ac rfl nofun rfl (evn ?_))
      refine ls_keep [(4, .bool true)] ⟨kr, trivial⟩ rfl ?_
      refine ls_ret ?_
      have hr := Option.some.inj h
      rw [← hr]
      exact ⟨.inl rfl, rfl⟩
    refine ls_rec (fun (y1 : Int) => [(0, .dat a0.length (a0.flatMap ci64)), (1, .dat a1.length (a1.flatMap ci64)), (5, .int .i64 y1)]) (laws_eqIntS_B1 a0 a1) fz 0 o1 hl ⟨kr, kr, kr, trivial⟩ (fun _ => rfl) ?_
    rintro m y1 N h hN
    unfold laws_eqIntS_B1 at h
    refine ls_seq_k fun K4 hK4 => ?_
    refine ls_rs tbOk ?_
    refine evs (ev_mv (c := .int .i64 y1) rfl rfl rfl (evs (ev_mv (c := .dat a0.length (a0.flatMap ci64)) rfl rfl rfl (evs (ev_len (c1 := .dat a0.length (a0.flatMap ci64)) rfl rfl rfl (evs (ev_bin (c1 := .int .i64 y1) (c2 := .int .i64 (List.length a0 : Int)) rfl rfl rfl (evn ?_))))))))
    refine ls_keep [(0, .dat a0.length (a0.flatMap ci64)), (1, .dat a1.length (a1.flatMap ci64)), (5, .int .i64 y1), (14, .bool (decide (y1 < (List.length a0 : Int))))] ⟨kr, kr, kr, kr, trivial⟩ rfl ?_
    rcases cond_some h with ⟨g5, h⟩ | ⟨g5, h⟩
    · refine ls_cT rfl g5 ?_
      refine ls_skip ?_
      refine hK4 _ (ls_keep [(0, .dat a0.length (a0.flatMap ci64)), (1, .dat a1.length (a1.flatMap ci64)), (5, .int .i64 y1)] ⟨kr, kr, kr, trivial⟩ rfl ?_)
      refine ls_seq_k fun K6 hK6 => ?_
      refine ls_blk ?_
      refine ls_rd tbOk mixed (by kernel_rfl) ?_
      refine evd rfl rfl (ev_mv (c := .dat a0.length (a0.flatMap ci64)) rfl rfl rfl (evd rfl rfl (ev_mv (c := .int .i64 y1) rfl rfl rfl (?_))))
      obtain ⟨e7, g8, h⟩ := ob_some h
      refine evd rfl rfl (ev_ia rfl rfl rfl ⟨(geti_some g8).1, (geti_some g8).2.1⟩ (evd rfl rfl (ev_ldE (off := 0) (v := .int .i64 e7) rfl rfl zci64 g8 rfl (Nat.le_of_ble_eq_true rfl) rfl (evd rfl rfl (ev_mv (c := .dat a1.length (a1.flatMap ci64)) rfl rfl rfl (evd rfl rfl (ev_mv (c := .int .i64 y1) rfl rfl rfl (?_))))))))
      obtain ⟨e9, g10, h⟩ := ob_some h
      refine evd rfl rfl (ev_ia rfl rfl rfl ⟨(geti_some g10).1, (geti_some g10).2.1⟩ (evd rfl rfl (ev_ldE (off := 0) (v := .int .i64 e9) rfl rfl zci64 g10 rfl (Nat.le_of_ble_eq_true rfl) rfl (evd rfl rfl (ev_bin (c1 := .int .i64 e7) (c2 := .int .i64 e9) rfl rfl rfl (evdn ?_))))))
      refine ls_keep [(0, .dat a0.length (a0.flatMap ci64)), (1, .dat a1.length (a1.flatMap ci64)), (5, .int .i64 y1), (25, .bool (e7 != e9))] ⟨kr, kr, kr, kr, trivial⟩ rfl ?_
      rcases cond_some h with ⟨g11, h⟩ | ⟨g11, h⟩
      · refine ls_cT rfl g11 ?_
        refine ls_rs tbOk ?_
        refine evs (ev_ac rfl nofun rfl (evn ?_))
        refine ls_keep [(4, .bool false)] ⟨kr, trivial⟩ rfl ?_
        refine ls_ret ?_
        have q0 := (Option.some.inj h).symm
        have r0 := hr1
        rw [q0] at r0
        have hr := Option.some.inj r0
        rw [← hr]
        exact ⟨.inl rfl, rfl⟩
      · refine ls_cF rfl g11 ?_
        refine ls_skip ?_
        refine hK6 _ (ls_keep [(0, .dat a0.length (a0.flatMap ci64)), (1, .dat a1.length (a1.flatMap ci64)), (5, .int .i64 y1)] ⟨kr, kr, kr, trivial⟩ rfl ?_)
        refine ls_rgn tbOk ?_
        refine evs (ev_mv (c := .int .i64 y1) rfl rfl rfl (evs (ev_bin (c1 := .int .i64 y1) (c2 := .int .i64 1) rfl rfl rfl (evs (ev_as (c := .int .i64 (IntKind.i64.wrap (y1 + 1))) rfl rfl rfl (evn ?_))))))
        exact hN _ (IntKind.i64.wrap (y1 + 1)) h ⟨kr, kr, kr, trivial⟩
    · refine ls_cF rfl g5 ?_
      refine ls_exit ?_
      have q0 := (Option.some.inj h).symm
      have r0 := hr1
      rw [q0] at r0
      exact kXlaws_eqIntS_B1 () r0 _ trivial
def laws_eqIntSS_B1 (a0 : List (List Int)) (a1 : List (List Int)) (rec : Int → Option (Sum (Unit) (Bool))) (y1 : Int) : Option (Sum (Unit) (Bool)) := cond (decide (y1 < (List.length a0 : Int))) (obind (geti a0 y1) fun e7 => obind (geti a1 y1) fun e9 => obind (laws_eqIntS e7 e9) fun v11 => cond (!v11) (some (.inr false)) (rec (IntKind.i64.wrap (y1 + 1)))) (some (.inl ()))
def laws_eqIntSS (a0 : List (List Int)) (a1 : List (List Int)) : Option (Bool) := cond ((List.length a0 : Int) != (List.length a1 : Int)) (some false) (obind (loopF (laws_eqIntSS_B1 a0 a1) fz 0) fun o1 => (match o1 with
  | .inl _ => (some true)
  | .inr r => some r))
theorem laws_eqIntSS_s {a0 : List (List Int)} {a1 : List (List Int)} {r : Bool} (h : laws_eqIntSS a0 a1 = some r) : SoundAt Try.prog 84 [.dat a0.length (a0.flatMap c30_d), .dat a1.length (a1.flatMap c30_d)] (.bool r) := by
  unfold laws_eqIntSS at h
  refine sound_lit tbOk lit84 (Nat.le_of_ble_eq_true rfl) rfl ?_
  unfold c84
  refine ls_keep [(0, .dat a0.length (a0.flatMap c30_d)), (1, .dat a1.length (a1.flatMap c30_d))] ⟨kr, kr, trivial⟩ rfl ?_
  refine ls_rs tbOk ?_
  refine evs (ev_ac rfl nofun rfl (evn ?_))
  refine ls_keep [(0, .dat a0.length (a0.flatMap c30_d)), (1, .dat a1.length (a1.flatMap c30_d))] ⟨kr, kr, trivial⟩ rfl ?_
  refine ls_seq_k fun K1 hK1 => ?_
  refine ls_rs tbOk ?_
  refine evs (ev_mv (c := .dat a0.length (a0.flatMap c30_d)) rfl rfl rfl (evs (ev_len (c1 := .dat a0.length (a0.flatMap c30_d)) rfl rfl rfl (evs (ev_mv (c := .dat a1.length (a1.flatMap c30_d)) rfl rfl rfl (evs (ev_len (c1 := .dat a1.length (a1.flatMap c30_d)) rfl rfl rfl (evs (ev_bin (c1 := .int .i64 (List.length a0 : Int)) (c2 := .int .i64 (List.length a1 : Int)) rfl rfl rfl (evn ?_))))))))))
  refine ls_keep [(0, .dat a0.length (a0.flatMap c30_d)), (1, .dat a1.length (a1.flatMap c30_d)), (10, .bool ((List.length a0 : Int) != (List.length a1 : Int)))] ⟨kr, kr, kr, trivial⟩ rfl ?_
  rcases cond_some h with ⟨g2, h⟩ | ⟨g2, h⟩
  · refine ls_cT rfl g2 ?_
    refine ls_rs tbOk ?_
    refine evs (ev_ac rfl nofun rfl (evn ?_))
    refine ls_keep [(4, .bool false)] ⟨kr, trivial⟩ rfl ?_
    refine ls_ret ?_
    have hr := Option.some.inj h
    rw [← hr]
    exact ⟨.inl rfl, rfl⟩
  · refine ls_cF rfl g2 ?_
    refine ls_skip ?_
    refine hK1 _ (ls_keep [(0, .dat a0.length (a0.flatMap c30_d)), (1, .dat a1.length (a1.flatMap c30_d))] ⟨kr, kr, trivial⟩ rfl ?_)
    refine ls_seq_k fun K3 hK3 => ?_
    refine ls_rs tbOk ?_
    refine evs (ev_ac rfl nofun rfl (evn ?_))
    refine ls_keep [(0, .dat a0.length (a0.flatMap c30_d)), (1, .dat a1.length (a1.flatMap c30_d)), (5, .int .i64 0)] ⟨kr, kr, kr, trivial⟩ rfl ?_
    obtain ⟨o1, hl, hr1⟩ := ob_some h
    clear h
    have kXlaws_eqIntSS_B1 : ∀ (_ : Unit), (some true) = some r → ∀ σ' : PS, okK σ' [] → K3 σ' := by
      intro _ h σ' hk
      refine hK3 _ (ls_keep [] hk rfl ?_)
      refine ls_rs tbOk ?_
      refine evs (ev_ac rfl nofun rfl (evn ?_))
      refine ls_keep [(4, .bool true)] ⟨kr, trivial⟩ rfl ?_
      refine ls_ret ?_
      have hr := Option.some.inj h
      rw [← hr]
      exact ⟨.inl rfl, rfl⟩
    refine ls_rec (fun (y1 : Int) => [(0, .dat a0.length (a0.flatMap c30_d)), (1, .dat a1.length (a1.flatMap c30_d)), (5, .int .i64 y1)]) (laws_eqIntSS_B1 a0 a1) fz 0 o1 hl ⟨kr, kr, kr, trivial⟩ (fun _ => rfl) ?_
    rintro m y1 N h hN
    unfold laws_eqIntSS_B1 at h
    refine ls_seq_k fun K4 hK4 => ?_
    refine ls_rs tbOk ?_
    refine evs (ev_mv (c := .int .i64 y1) rfl rfl rfl (evs (ev_mv (c := .dat a0.length (a0.flatMap c30_d)) rfl rfl rfl (evs (ev_len (c1 := .dat a0.length (a0.flatMap c30_d)) rfl rfl rfl (evs (ev_bin (c1 := .int .i64 y1) (c2 := .int .i64 (List.length a0 : Int)) rfl rfl rfl (evn ?_))))))))
    refine ls_keep [(0, .dat a0.length (a0.flatMap c30_d)), (1, .dat a1.length (a1.flatMap c30_d)), (5, .int .i64 y1), (14, .bool (decide (y1 < (List.length a0 : Int))))] ⟨kr, kr, kr, kr, trivial⟩ rfl ?_
    rcases cond_some h with ⟨g5, h⟩ | ⟨g5, h⟩
    · refine ls_cT rfl g5 ?_
      refine ls_skip ?_
      refine hK4 _ (ls_keep [(0, .dat a0.length (a0.flatMap c30_d)), (1, .dat a1.length (a1.flatMap c30_d)), (5, .int .i64 y1)] ⟨kr, kr, kr, trivial⟩ rfl ?_)
      refine ls_seq_k fun K6 hK6 => ?_
      refine ls_blk ?_
      refine ls_rd tbOk mixed (by kernel_rfl) ?_
      refine evd rfl rfl (ev_mv (c := .dat a0.length (a0.flatMap c30_d)) rfl rfl rfl (evd rfl rfl (ev_mv (c := .int .i64 y1) rfl rfl rfl (?_))))
      obtain ⟨e7, g8, h⟩ := ob_some h
      refine evd rfl rfl (ev_ia rfl rfl rfl ⟨(geti_some g8).1, (geti_some g8).2.1⟩ (evd rfl rfl (ev_ldE (off := 0) (v := .dat e7.length (e7.flatMap ci64)) rfl rfl zc30_d g8 rfl (Nat.le_of_ble_eq_true rfl) rfl (evd rfl rfl (ev_mv (c := .dat a1.length (a1.flatMap c30_d)) rfl rfl rfl (evd rfl rfl (ev_mv (c := .int .i64 y1) rfl rfl rfl (?_))))))))
      obtain ⟨e9, g10, h⟩ := ob_some h
      refine evd rfl rfl (ev_ia rfl rfl rfl ⟨(geti_some g10).1, (geti_some g10).2.1⟩ (evd rfl rfl (ev_ldE (off := 0) (v := .dat e9.length (e9.flatMap ci64)) rfl rfl zc30_d g10 rfl (Nat.le_of_ble_eq_true rfl) rfl (?_))))
      obtain ⟨v11, g12, h⟩ := ob_some h
      refine evd rfl rfl (ev_call (era rfl (erD eci64 _) (era rfl (erD eci64 _) eran)) (laws_eqIntS_s g12) (evd rfl rfl (ev_un (c1 := .bool v11) rfl trivial (evdn ?_))))
      refine ls_keep [(0, .dat a0.length (a0.flatMap c30_d)), (1, .dat a1.length (a1.flatMap c30_d)), (5, .int .i64 y1), (26, .bool (!v11))] ⟨kr, kr, kr, kr, trivial⟩ rfl ?_
      rcases cond_some h with ⟨g13, h⟩ | ⟨g13, h⟩
      · refine ls_cT rfl g13 ?_
        refine ls_rs tbOk ?_
        refine evs (ev_ac rfl nofun rfl (evn ?_))
        refine ls_keep [(4, .bool false)] ⟨kr, trivial⟩ rfl ?_
        refine ls_ret ?_
        have q0 := (Option.some.inj h).symm
        have r0 := hr1
        rw [q0] at r0
        have hr := Option.some.inj r0
        rw [← hr]
        exact ⟨.inl rfl, rfl⟩
      · refine ls_cF rfl g13 ?_
        refine ls_skip ?_
        refine hK6 _ (ls_keep [(0, .dat a0.length (a0.flatMap c30_d)), (1, .dat a1.length (a1.flatMap c30_d)), (5, .int .i64 y1)] ⟨kr, kr, kr, trivial⟩ rfl ?_)
        refine ls_rgn tbOk ?_
        refine evs (ev_mv (c := .int .i64 y1) rfl rfl rfl (evs (ev_bin (c1 := .int .i64 y1) (c2 := .int .i64 1) rfl rfl rfl (evs (ev_as (c := .int .i64 (IntKind.i64.wrap (y1 + 1))) rfl rfl rfl (evn ?_))))))
        exact hN _ (IntKind.i64.wrap (y1 + 1)) h ⟨kr, kr, kr, trivial⟩
    · refine ls_cF rfl g5 ?_
      refine ls_exit ?_
      have q0 := (Option.some.inj h).symm
      have r0 := hr1
      rw [q0] at r0
      exact kXlaws_eqIntSS_B1 () r0 _ trivial
def laws_eqRelation (a0 : Int × (List (List Int))) (a1 : Int × (List (List Int))) : Option (Bool) := cond (a0.1 != a1.1) (some false) (obind (laws_eqIntSS a0.2 a1.2) fun v4 => cond (!v4) (some false) (some true))
theorem laws_eqRelation_s {a0 : Int × (List (List Int))} {a1 : Int × (List (List Int))} {r : Bool} (h : laws_eqRelation a0 a1 = some r) : SoundAt Try.prog 17 [.agg [.int .i64 a0.1, .dat a0.2.length (a0.2.flatMap c30_d)], .agg [.int .i64 a1.1, .dat a1.2.length (a1.2.flatMap c30_d)]] (.bool r) := by
  unfold laws_eqRelation at h
  refine sound_lit tbOk lit17 (Nat.le_of_ble_eq_true rfl) rfl ?_
  unfold c17
  refine ls_keep [(0, .agg [.int .i64 a0.1, .dat a0.2.length (a0.2.flatMap c30_d)]), (1, .agg [.int .i64 a1.1, .dat a1.2.length (a1.2.flatMap c30_d)])] ⟨kr, kr, trivial⟩ rfl ?_
  refine ls_rs tbOk ?_
  refine evs (ev_bx (c1 := .agg [.int .i64 a0.1, .dat a0.2.length (a0.2.flatMap c30_d)]) rfl rfl rfl (evs (ev_bx (c1 := .agg [.int .i64 a1.1, .dat a1.2.length (a1.2.flatMap c30_d)]) rfl rfl rfl (evs (ev_ac rfl nofun rfl (evn ?_))))))
  refine ls_keep [(2, .box [.int .i64 a0.1, .dat a0.2.length (a0.2.flatMap c30_d)]), (3, .box [.int .i64 a1.1, .dat a1.2.length (a1.2.flatMap c30_d)])] ⟨kr, kr, trivial⟩ rfl ?_
  refine ls_seq_k fun K1 hK1 => ?_
  refine ls_rs tbOk ?_
  refine evs (ev_fa (c1 := .cref 2 0) (v := .cref 2 0) rfl rfl rfl ⟨_, rfl⟩ rfl (evs (ev_ldB (off := 0) (v := .int .i64 a0.1) rfl rfl rfl rfl (Nat.le_of_ble_eq_true rfl) rfl (evs (ev_fa (c1 := .cref 3 0) (v := .cref 3 0) rfl rfl rfl ⟨_, rfl⟩ rfl (evs (ev_ldB (off := 0) (v := .int .i64 a1.1) rfl rfl rfl rfl (Nat.le_of_ble_eq_true rfl) rfl (evs (ev_bin (c1 := .int .i64 a0.1) (c2 := .int .i64 a1.1) rfl rfl rfl (evn ?_))))))))))
  refine ls_keep [(2, .box [.int .i64 a0.1, .dat a0.2.length (a0.2.flatMap c30_d)]), (3, .box [.int .i64 a1.1, .dat a1.2.length (a1.2.flatMap c30_d)]), (9, .bool (a0.1 != a1.1))] ⟨kr, kr, kr, trivial⟩ rfl ?_
  rcases cond_some h with ⟨g2, h⟩ | ⟨g2, h⟩
  · refine ls_cT rfl g2 ?_
    refine ls_rs tbOk ?_
    refine evs (ev_ac rfl nofun rfl (evn ?_))
    refine ls_keep [(4, .bool false)] ⟨kr, trivial⟩ rfl ?_
    refine ls_ret ?_
    have hr := Option.some.inj h
    rw [← hr]
    exact ⟨.inl rfl, rfl⟩
  · refine ls_cF rfl g2 ?_
    refine ls_skip ?_
    refine hK1 _ (ls_keep [(2, .box [.int .i64 a0.1, .dat a0.2.length (a0.2.flatMap c30_d)]), (3, .box [.int .i64 a1.1, .dat a1.2.length (a1.2.flatMap c30_d)])] ⟨kr, kr, trivial⟩ rfl ?_)
    refine ls_seq_k fun K3 hK3 => ?_
    refine ls_rs tbOk ?_
    refine evs (ev_fa (c1 := .cref 2 0) (v := .cref 2 1) rfl rfl rfl ⟨_, rfl⟩ rfl (evs (ev_ldB (off := 1) (v := .dat a0.2.length (a0.2.flatMap c30_d)) rfl rfl rfl rfl (Nat.le_of_ble_eq_true rfl) rfl (evs (ev_fa (c1 := .cref 3 0) (v := .cref 3 1) rfl rfl rfl ⟨_, rfl⟩ rfl (evs (ev_ldB (off := 1) (v := .dat a1.2.length (a1.2.flatMap c30_d)) rfl rfl rfl rfl (Nat.le_of_ble_eq_true rfl) rfl (?_))))))))
    obtain ⟨v4, g5, h⟩ := ob_some h
    refine evs (ev_call (era rfl (erD ec30_d _) (era rfl (erD ec30_d _) eran)) (laws_eqIntSS_s g5) (evs (ev_un (c1 := .bool v4) rfl trivial (evn ?_))))
    refine ls_keep [(15, .bool (!v4))] ⟨kr, trivial⟩ rfl ?_
    rcases cond_some h with ⟨g6, h⟩ | ⟨g6, h⟩
    · refine ls_cT rfl g6 ?_
      refine ls_rs tbOk ?_
      refine evs (ev_ac rfl nofun rfl (evn ?_))
      refine ls_keep [(4, .bool false)] ⟨kr, trivial⟩ rfl ?_
      refine ls_ret ?_
      have hr := Option.some.inj h
      rw [← hr]
      exact ⟨.inl rfl, rfl⟩
    · refine ls_cF rfl g6 ?_
      refine ls_skip ?_
      refine hK3 _ (ls_keep [] trivial rfl ?_)
      refine ls_rs tbOk ?_
      refine evs (ev_ac rfl nofun rfl (evn ?_))
      refine ls_keep [(4, .bool true)] ⟨kr, trivial⟩ rfl ?_
      refine ls_ret ?_
      have hr := Option.some.inj h
      rw [← hr]
      exact ⟨.inl rfl, rfl⟩
def laws_heldIntS_B1 (a0 : List Int) (rec : (Int × Int) → Option (Sum (Int) (Int))) (s : Int × Int) : Option (Sum (Int) (Int)) := match s with
  | (y1, y2) => cond (decide (y2 < (List.length a0 : Int))) (obind (geti a0 y2) fun e7 => cond (e7 != y1) (some (.inr (-1))) (rec ((IntKind.i64.wrap (y1 + 1)), (IntKind.i64.wrap (y2 + 1))))) (some (.inl y1))
def laws_heldIntS (a0 : List Int) (a1 : Int) : Option (Int) := obind (loopF (laws_heldIntS_B1 a0) fz (a1, 0)) fun o1 => (match o1 with
  | .inl z2 => (some z2)
  | .inr r => some r)
theorem laws_heldIntS_s {a0 : List Int} {a1 : Int} {r : Int} (h : laws_heldIntS a0 a1 = some r) : SoundAt Try.prog 58 [.dat a0.length (a0.flatMap ci64), .int .i64 a1] (.int .i64 r) := by
  unfold laws_heldIntS at h
  refine sound_lit tbOk lit58 (Nat.le_of_ble_eq_true rfl) rfl ?_
  unfold c58
  refine ls_keep [(0, .dat a0.length (a0.flatMap ci64)), (1, .int .i64 a1)] ⟨kr, kr, trivial⟩ rfl ?_
  refine ls_rs tbOk ?_
  refine evs (ev_ac rfl nofun rfl (evn ?_))
  refine ls_keep [(0, .dat a0.length (a0.flatMap ci64)), (1, .int .i64 a1)] ⟨kr, kr, trivial⟩ rfl ?_
  refine ls_seq_k fun K1 hK1 => ?_
  refine ls_rs tbOk ?_
  refine evs (ev_ac rfl nofun rfl (evn ?_))
  refine ls_keep [(0, .dat a0.length (a0.flatMap ci64)), (1, .int .i64 a1), (5, .int .i64 0)] ⟨kr, kr, kr, trivial⟩ rfl ?_
  obtain ⟨o1, hl, hr1⟩ := ob_some h
  clear h
  have kXlaws_heldIntS_B1 : ∀ (z2 : Int), (some z2) = some r → ∀ σ' : PS, okK σ' [(1, .int .i64 z2)] → K1 σ' := by
    intro z2 h σ' hk
    refine hK1 _ (ls_keep [(1, .int .i64 z2)] hk rfl ?_)
    refine ls_rs tbOk ?_
    refine evs (ev_mv (c := .int .i64 z2) rfl rfl rfl (evs (ev_as (c := .int .i64 z2) rfl rfl rfl (evn ?_))))
    refine ls_keep [(4, .int .i64 z2)] ⟨kr, trivial⟩ rfl ?_
    refine ls_ret ?_
    have hr := Option.some.inj h
    rw [← hr]
    exact ⟨.inl rfl, rfl⟩
  refine ls_rec (fun (s : Int × Int) => match s with | (y1, y2) => [(0, .dat a0.length (a0.flatMap ci64)), (1, .int .i64 y1), (5, .int .i64 y2)]) (laws_heldIntS_B1 a0) fz (a1, 0) o1 hl ⟨kr, kr, kr, trivial⟩ (fun _ => rfl) ?_
  rintro m ⟨y1, y2⟩ N h hN
  unfold laws_heldIntS_B1 at h
  dsimp only at h
  refine ls_seq_k fun K3 hK3 => ?_
  refine ls_rs tbOk ?_
  refine evs (ev_mv (c := .int .i64 y2) rfl rfl rfl (evs (ev_mv (c := .dat a0.length (a0.flatMap ci64)) rfl rfl rfl (evs (ev_len (c1 := .dat a0.length (a0.flatMap ci64)) rfl rfl rfl (evs (ev_bin (c1 := .int .i64 y2) (c2 := .int .i64 (List.length a0 : Int)) rfl rfl rfl (evn ?_))))))))
  refine ls_keep [(0, .dat a0.length (a0.flatMap ci64)), (1, .int .i64 y1), (5, .int .i64 y2), (9, .bool (decide (y2 < (List.length a0 : Int))))] ⟨kr, kr, kr, kr, trivial⟩ rfl ?_
  rcases cond_some h with ⟨g4, h⟩ | ⟨g4, h⟩
  · refine ls_cT rfl g4 ?_
    refine ls_skip ?_
    refine hK3 _ (ls_keep [(0, .dat a0.length (a0.flatMap ci64)), (1, .int .i64 y1), (5, .int .i64 y2)] ⟨kr, kr, kr, trivial⟩ rfl ?_)
    refine ls_seq_k fun K5 hK5 => ?_
    refine ls_blk ?_
    refine ls_seq_k fun K6 hK6 => ?_
    refine ls_rs tbOk ?_
    refine evs (ev_mv (c := .dat a0.length (a0.flatMap ci64)) rfl rfl rfl (evs (ev_mv (c := .int .i64 y2) rfl rfl rfl (?_))))
    obtain ⟨e7, g8, h⟩ := ob_some h
    refine evs (ev_ia rfl rfl rfl ⟨(geti_some g8).1, (geti_some g8).2.1⟩ (evs (ev_ldE (off := 0) (v := .int .i64 e7) rfl rfl zci64 g8 rfl (Nat.le_of_ble_eq_true rfl) rfl (evs (ev_mv (c := .int .i64 y1) rfl rfl rfl (evs (ev_bin (c1 := .int .i64 e7) (c2 := .int .i64 y1) rfl rfl rfl (evn ?_))))))))
    refine ls_keep [(0, .dat a0.length (a0.flatMap ci64)), (1, .int .i64 y1), (5, .int .i64 y2), (17, .bool (e7 != y1))] ⟨kr, kr, kr, kr, trivial⟩ rfl ?_
    rcases cond_some h with ⟨g9, h⟩ | ⟨g9, h⟩
    · refine ls_cT rfl g9 ?_
      refine ls_rs tbOk ?_
      refine evs (ev_ac rfl nofun rfl (evn ?_))
      refine ls_keep [(4, .int .i64 (-1))] ⟨kr, trivial⟩ rfl ?_
      refine ls_ret ?_
      have q0 := (Option.some.inj h).symm
      have r0 := hr1
      rw [q0] at r0
      have hr := Option.some.inj r0
      rw [← hr]
      exact ⟨.inl rfl, rfl⟩
    · refine ls_cF rfl g9 ?_
      refine ls_skip ?_
      refine hK6 _ (ls_keep [(0, .dat a0.length (a0.flatMap ci64)), (1, .int .i64 y1), (5, .int .i64 y2)] ⟨kr, kr, kr, trivial⟩ rfl ?_)
      refine ls_rgn tbOk ?_
      refine evs (ev_mv (c := .int .i64 y1) rfl rfl rfl (evs (ev_bin (c1 := .int .i64 y1) (c2 := .int .i64 1) rfl rfl rfl (evs (ev_as (c := .int .i64 (IntKind.i64.wrap (y1 + 1))) rfl rfl rfl (evn ?_))))))
      refine hK5 _ (ls_keep [(0, .dat a0.length (a0.flatMap ci64)), (1, .int .i64 (IntKind.i64.wrap (y1 + 1))), (5, .int .i64 y2)] ⟨kr, kr, kr, trivial⟩ rfl ?_)
      refine ls_rgn tbOk ?_
      refine evs (ev_mv (c := .int .i64 y2) rfl rfl rfl (evs (ev_bin (c1 := .int .i64 y2) (c2 := .int .i64 1) rfl rfl rfl (evs (ev_as (c := .int .i64 (IntKind.i64.wrap (y2 + 1))) rfl rfl rfl (evn ?_))))))
      exact hN _ ((IntKind.i64.wrap (y1 + 1)), (IntKind.i64.wrap (y2 + 1))) h ⟨kr, kr, kr, trivial⟩
  · refine ls_cF rfl g4 ?_
    refine ls_exit ?_
    have q0 := (Option.some.inj h).symm
    have r0 := hr1
    rw [q0] at r0
    exact kXlaws_heldIntS_B1 y1 r0 _ ⟨kr, trivial⟩
def laws_heldIntSS_B1 (a0 : List (List Int)) (rec : (Int × Int) → Option (Sum (Int) (Int))) (s : Int × Int) : Option (Sum (Int) (Int)) := match s with
  | (y1, y2) => cond (decide (y2 < (List.length a0 : Int))) (obind (geti a0 y2) fun e6 => obind (laws_heldIntS e6 y1) fun v8 => cond (decide (v8 < 0)) (some (.inr (-1))) (rec (v8, (IntKind.i64.wrap (y2 + 1))))) (some (.inl y1))
def laws_heldIntSS (a0 : List (List Int)) (a1 : Int) : Option (Int) := obind (loopF (laws_heldIntSS_B1 a0) fz (a1, 0)) fun o1 => (match o1 with
  | .inl z2 => (some z2)
  | .inr r => some r)
theorem laws_heldIntSS_s {a0 : List (List Int)} {a1 : Int} {r : Int} (h : laws_heldIntSS a0 a1 = some r) : SoundAt Try.prog 86 [.dat a0.length (a0.flatMap c30_d), .int .i64 a1] (.int .i64 r) := by
  unfold laws_heldIntSS at h
  refine sound_lit tbOk lit86 (Nat.le_of_ble_eq_true rfl) rfl ?_
  unfold c86
  refine ls_keep [(0, .dat a0.length (a0.flatMap c30_d)), (1, .int .i64 a1)] ⟨kr, kr, trivial⟩ rfl ?_
  refine ls_rs tbOk ?_
  refine evs (ev_ac rfl nofun rfl (evn ?_))
  refine ls_keep [(0, .dat a0.length (a0.flatMap c30_d)), (1, .int .i64 a1)] ⟨kr, kr, trivial⟩ rfl ?_
  refine ls_seq_k fun K1 hK1 => ?_
  refine ls_rs tbOk ?_
  refine evs (ev_ac rfl nofun rfl (evn ?_))
  refine ls_keep [(0, .dat a0.length (a0.flatMap c30_d)), (1, .int .i64 a1), (5, .int .i64 0)] ⟨kr, kr, kr, trivial⟩ rfl ?_
  obtain ⟨o1, hl, hr1⟩ := ob_some h
  clear h
  have kXlaws_heldIntSS_B1 : ∀ (z2 : Int), (some z2) = some r → ∀ σ' : PS, okK σ' [(1, .int .i64 z2)] → K1 σ' := by
    intro z2 h σ' hk
    refine hK1 _ (ls_keep [(1, .int .i64 z2)] hk rfl ?_)
    refine ls_rs tbOk ?_
    refine evs (ev_mv (c := .int .i64 z2) rfl rfl rfl (evs (ev_as (c := .int .i64 z2) rfl rfl rfl (evn ?_))))
    refine ls_keep [(4, .int .i64 z2)] ⟨kr, trivial⟩ rfl ?_
    refine ls_ret ?_
    have hr := Option.some.inj h
    rw [← hr]
    exact ⟨.inl rfl, rfl⟩
  refine ls_rec (fun (s : Int × Int) => match s with | (y1, y2) => [(0, .dat a0.length (a0.flatMap c30_d)), (1, .int .i64 y1), (5, .int .i64 y2)]) (laws_heldIntSS_B1 a0) fz (a1, 0) o1 hl ⟨kr, kr, kr, trivial⟩ (fun _ => rfl) ?_
  rintro m ⟨y1, y2⟩ N h hN
  unfold laws_heldIntSS_B1 at h
  dsimp only at h
  refine ls_seq_k fun K3 hK3 => ?_
  refine ls_rs tbOk ?_
  refine evs (ev_mv (c := .int .i64 y2) rfl rfl rfl (evs (ev_mv (c := .dat a0.length (a0.flatMap c30_d)) rfl rfl rfl (evs (ev_len (c1 := .dat a0.length (a0.flatMap c30_d)) rfl rfl rfl (evs (ev_bin (c1 := .int .i64 y2) (c2 := .int .i64 (List.length a0 : Int)) rfl rfl rfl (evn ?_))))))))
  refine ls_keep [(0, .dat a0.length (a0.flatMap c30_d)), (1, .int .i64 y1), (5, .int .i64 y2), (9, .bool (decide (y2 < (List.length a0 : Int))))] ⟨kr, kr, kr, kr, trivial⟩ rfl ?_
  rcases cond_some h with ⟨g4, h⟩ | ⟨g4, h⟩
  · refine ls_cT rfl g4 ?_
    refine ls_skip ?_
    refine hK3 _ (ls_keep [(0, .dat a0.length (a0.flatMap c30_d)), (1, .int .i64 y1), (5, .int .i64 y2)] ⟨kr, kr, kr, trivial⟩ rfl ?_)
    refine ls_seq_k fun K5 hK5 => ?_
    refine ls_blk ?_
    refine ls_rs tbOk ?_
    refine evs (ev_mv (c := .dat a0.length (a0.flatMap c30_d)) rfl rfl rfl (evs (ev_mv (c := .int .i64 y2) rfl rfl rfl (?_))))
    obtain ⟨e6, g7, h⟩ := ob_some h
    refine evs (ev_ia rfl rfl rfl ⟨(geti_some g7).1, (geti_some g7).2.1⟩ (evs (ev_ldE (off := 0) (v := .dat e6.length (e6.flatMap ci64)) rfl rfl zc30_d g7 rfl (Nat.le_of_ble_eq_true rfl) rfl (evs (ev_mv (c := .int .i64 y1) rfl rfl rfl (?_))))))
    obtain ⟨v8, g9, h⟩ := ob_some h
    refine evs (ev_call (era rfl (erD eci64 _) (era rfl rfl eran)) (laws_heldIntS_s g9) (evs (ev_as (c := .int .i64 v8) rfl rfl rfl (evn ?_))))
    refine ls_keep [(0, .dat a0.length (a0.flatMap c30_d)), (1, .int .i64 v8), (5, .int .i64 y2)] ⟨kr, kr, kr, trivial⟩ rfl ?_
    refine ls_rs tbOk ?_
    refine evs (ev_mv (c := .int .i64 v8) rfl rfl rfl (evs (ev_bin (c1 := .int .i64 v8) (c2 := .int .i64 0) rfl rfl rfl (evn ?_))))
    refine ls_keep [(0, .dat a0.length (a0.flatMap c30_d)), (1, .int .i64 v8), (5, .int .i64 y2), (19, .bool (decide (v8 < 0)))] ⟨kr, kr, kr, kr, trivial⟩ rfl ?_
    rcases cond_some h with ⟨g10, h⟩ | ⟨g10, h⟩
    · refine ls_cT rfl g10 ?_
      refine ls_rs tbOk ?_
      refine evs (ev_ac rfl nofun rfl (evn ?_))
      refine ls_keep [(4, .int .i64 (-1))] ⟨kr, trivial⟩ rfl ?_
      refine ls_ret ?_
      have q0 := (Option.some.inj h).symm
      have r0 := hr1
      rw [q0] at r0
      have hr := Option.some.inj r0
      rw [← hr]
      exact ⟨.inl rfl, rfl⟩
    · refine ls_cF rfl g10 ?_
      refine ls_skip ?_
      refine hK5 _ (ls_keep [(0, .dat a0.length (a0.flatMap c30_d)), (1, .int .i64 v8), (5, .int .i64 y2)] ⟨kr, kr, kr, trivial⟩ rfl ?_)
      refine ls_rgn tbOk ?_
      refine evs (ev_mv (c := .int .i64 y2) rfl rfl rfl (evs (ev_bin (c1 := .int .i64 y2) (c2 := .int .i64 1) rfl rfl rfl (evs (ev_as (c := .int .i64 (IntKind.i64.wrap (y2 + 1))) rfl rfl rfl (evn ?_))))))
      exact hN _ (v8, (IntKind.i64.wrap (y2 + 1))) h ⟨kr, kr, kr, trivial⟩
  · refine ls_cF rfl g4 ?_
    refine ls_exit ?_
    have q0 := (Option.some.inj h).symm
    have r0 := hr1
    rw [q0] at r0
    exact kXlaws_heldIntSS_B1 y1 r0 _ ⟨kr, trivial⟩
def laws_heldRelation (a0 : Int × (List (List Int))) (a1 : Int) : Option (Int) := obind (laws_heldIntSS a0.2 a1) fun v1 => cond (decide (v1 < 0)) (some (-1)) (some v1)
theorem laws_heldRelation_s {a0 : Int × (List (List Int))} {a1 : Int} {r : Int} (h : laws_heldRelation a0 a1 = some r) : SoundAt Try.prog 19 [.agg [.int .i64 a0.1, .dat a0.2.length (a0.2.flatMap c30_d)], .int .i64 a1] (.int .i64 r) := by
  unfold laws_heldRelation at h
  refine sound_lit tbOk lit19 (Nat.le_of_ble_eq_true rfl) rfl ?_
  unfold c19
  refine ls_keep [(0, .agg [.int .i64 a0.1, .dat a0.2.length (a0.2.flatMap c30_d)]), (1, .int .i64 a1)] ⟨kr, kr, trivial⟩ rfl ?_
  refine ls_rs tbOk ?_
  refine evs (ev_bx (c1 := .agg [.int .i64 a0.1, .dat a0.2.length (a0.2.flatMap c30_d)]) rfl rfl rfl (evs (ev_ac rfl nofun rfl (evn ?_))))
  refine ls_keep [(1, .int .i64 a1), (2, .box [.int .i64 a0.1, .dat a0.2.length (a0.2.flatMap c30_d)])] ⟨kr, kr, trivial⟩ rfl ?_
  refine ls_rs tbOk ?_
  refine evs (ev_fa (c1 := .cref 2 0) (v := .cref 2 1) rfl rfl rfl ⟨_, rfl⟩ rfl (evs (ev_ldB (off := 1) (v := .dat a0.2.length (a0.2.flatMap c30_d)) rfl rfl rfl rfl (Nat.le_of_ble_eq_true rfl) rfl (evs (ev_mv (c := .int .i64 a1) rfl rfl rfl (?_))))))
  obtain ⟨v1, g2, h⟩ := ob_some h
  refine evs (ev_call (era rfl (erD ec30_d _) (era rfl rfl eran)) (laws_heldIntSS_s g2) (evs (ev_as (c := .int .i64 v1) rfl rfl rfl (evn ?_))))
  refine ls_keep [(1, .int .i64 v1)] ⟨kr, trivial⟩ rfl ?_
  refine ls_seq_k fun K3 hK3 => ?_
  refine ls_rs tbOk ?_
  refine evs (ev_mv (c := .int .i64 v1) rfl rfl rfl (evs (ev_bin (c1 := .int .i64 v1) (c2 := .int .i64 0) rfl rfl rfl (evn ?_))))
  refine ls_keep [(1, .int .i64 v1), (10, .bool (decide (v1 < 0)))] ⟨kr, kr, trivial⟩ rfl ?_
  rcases cond_some h with ⟨g4, h⟩ | ⟨g4, h⟩
  · refine ls_cT rfl g4 ?_
    refine ls_rs tbOk ?_
    refine evs (ev_ac rfl nofun rfl (evn ?_))
    refine ls_keep [(4, .int .i64 (-1))] ⟨kr, trivial⟩ rfl ?_
    refine ls_ret ?_
    have hr := Option.some.inj h
    rw [← hr]
    exact ⟨.inl rfl, rfl⟩
  · refine ls_cF rfl g4 ?_
    refine ls_skip ?_
    refine hK3 _ (ls_keep [(1, .int .i64 v1)] ⟨kr, trivial⟩ rfl ?_)
    refine ls_rs tbOk ?_
    refine evs (ev_mv (c := .int .i64 v1) rfl rfl rfl (evs (ev_as (c := .int .i64 v1) rfl rfl rfl (evn ?_))))
    refine ls_keep [(4, .int .i64 v1)] ⟨kr, trivial⟩ rfl ?_
    refine ls_ret ?_
    have hr := Option.some.inj h
    rw [← hr]
    exact ⟨.inl rfl, rfl⟩
def laws_szIntS (a0 : List Int) (a1 : Int) : Option (Int) := cond (decide ((IntKind.i64.wrap (a1 - (List.length a0 : Int))) < 0)) (some (-1)) (some (IntKind.i64.wrap (a1 - (List.length a0 : Int))))
theorem laws_szIntS_s {a0 : List Int} {a1 : Int} {r : Int} (h : laws_szIntS a0 a1 = some r) : SoundAt Try.prog 87 [.dat a0.length (a0.flatMap ci64), .int .i64 a1] (.int .i64 r) := by
  unfold laws_szIntS at h
  refine sound_lit tbOk lit87 (Nat.le_of_ble_eq_true rfl) rfl ?_
  unfold c87
  refine ls_keep [(0, .dat a0.length (a0.flatMap ci64)), (1, .int .i64 a1)] ⟨kr, kr, trivial⟩ rfl ?_
  refine ls_rs tbOk ?_
  refine evs (ev_ac rfl nofun rfl (evn ?_))
  refine ls_keep [(0, .dat a0.length (a0.flatMap ci64)), (1, .int .i64 a1)] ⟨kr, kr, trivial⟩ rfl ?_
  refine ls_rs tbOk ?_
  refine evs (ev_mv (c := .int .i64 a1) rfl rfl rfl (evs (ev_mv (c := .dat a0.length (a0.flatMap ci64)) rfl rfl rfl (evs (ev_len (c1 := .dat a0.length (a0.flatMap ci64)) rfl rfl rfl (evs (ev_bin (c1 := .int .i64 a1) (c2 := .int .i64 (List.length a0 : Int)) rfl rfl rfl (evs (ev_as (c := .int .i64 (IntKind.i64.wrap (a1 - (List.length a0 : Int)))) rfl rfl rfl (evn ?_))))))))))
  refine ls_keep [(1, .int .i64 (IntKind.i64.wrap (a1 - (List.length a0 : Int))))] ⟨kr, trivial⟩ rfl ?_
  refine ls_seq_k fun K1 hK1 => ?_
  refine ls_rs tbOk ?_
  refine evs (ev_mv (c := .int .i64 (IntKind.i64.wrap (a1 - (List.length a0 : Int)))) rfl rfl rfl (evs (ev_bin (c1 := .int .i64 (IntKind.i64.wrap (a1 - (List.length a0 : Int)))) (c2 := .int .i64 0) rfl rfl rfl (evn ?_))))
  refine ls_keep [(1, .int .i64 (IntKind.i64.wrap (a1 - (List.length a0 : Int)))), (10, .bool (decide ((IntKind.i64.wrap (a1 - (List.length a0 : Int))) < 0)))] ⟨kr, kr, trivial⟩ rfl ?_
  rcases cond_some h with ⟨g2, h⟩ | ⟨g2, h⟩
  · refine ls_cT rfl g2 ?_
    refine ls_rs tbOk ?_
    refine evs (ev_ac rfl nofun rfl (evn ?_))
    refine ls_keep [(4, .int .i64 (-1))] ⟨kr, trivial⟩ rfl ?_
    refine ls_ret ?_
    have hr := Option.some.inj h
    rw [← hr]
    exact ⟨.inl rfl, rfl⟩
  · refine ls_cF rfl g2 ?_
    refine ls_skip ?_
    refine hK1 _ (ls_keep [(1, .int .i64 (IntKind.i64.wrap (a1 - (List.length a0 : Int))))] ⟨kr, trivial⟩ rfl ?_)
    refine ls_rs tbOk ?_
    refine evs (ev_mv (c := .int .i64 (IntKind.i64.wrap (a1 - (List.length a0 : Int)))) rfl rfl rfl (evs (ev_as (c := .int .i64 (IntKind.i64.wrap (a1 - (List.length a0 : Int)))) rfl rfl rfl (evn ?_))))
    refine ls_keep [(4, .int .i64 (IntKind.i64.wrap (a1 - (List.length a0 : Int))))] ⟨kr, trivial⟩ rfl ?_
    refine ls_ret ?_
    have hr := Option.some.inj h
    rw [← hr]
    exact ⟨.inl rfl, rfl⟩
def laws_szIntSS_B1 (a0 : List (List Int)) (rec : (Int × Int) → Option (Sum (Int) (Int))) (s : Int × Int) : Option (Sum (Int) (Int)) := match s with
  | (y1, y2) => cond (decide (y2 < (List.length a0 : Int))) (obind (geti a0 y2) fun e8 => obind (laws_szIntS e8 y1) fun v10 => cond (decide (v10 < 0)) (some (.inr (-1))) (rec (v10, (IntKind.i64.wrap (y2 + 1))))) (some (.inl y1))
def laws_szIntSS (a0 : List (List Int)) (a1 : Int) : Option (Int) := cond (decide ((IntKind.i64.wrap (a1 - (List.length a0 : Int))) < 0)) (some (-1)) (obind (loopF (laws_szIntSS_B1 a0) fz ((IntKind.i64.wrap (a1 - (List.length a0 : Int))), 0)) fun o1 => (match o1 with
  | .inl z4 => (some z4)
  | .inr r => some r))
theorem laws_szIntSS_s {a0 : List (List Int)} {a1 : Int} {r : Int} (h : laws_szIntSS a0 a1 = some r) : SoundAt Try.prog 99 [.dat a0.length (a0.flatMap c30_d), .int .i64 a1] (.int .i64 r) := by
  unfold laws_szIntSS at h
  refine sound_lit tbOk lit99 (Nat.le_of_ble_eq_true rfl) rfl ?_
  unfold c99
  refine ls_keep [(0, .dat a0.length (a0.flatMap c30_d)), (1, .int .i64 a1)] ⟨kr, kr, trivial⟩ rfl ?_
  refine ls_rs tbOk ?_
  refine evs (ev_ac rfl nofun rfl (evn ?_))
  refine ls_keep [(0, .dat a0.length (a0.flatMap c30_d)), (1, .int .i64 a1)] ⟨kr, kr, trivial⟩ rfl ?_
  refine ls_rs tbOk ?_
  refine evs (ev_mv (c := .int .i64 a1) rfl rfl rfl (evs (ev_mv (c := .dat a0.length (a0.flatMap c30_d)) rfl rfl rfl (evs (ev_len (c1 := .dat a0.length (a0.flatMap c30_d)) rfl rfl rfl (evs (ev_bin (c1 := .int .i64 a1) (c2 := .int .i64 (List.length a0 : Int)) rfl rfl rfl (evs (ev_as (c := .int .i64 (IntKind.i64.wrap (a1 - (List.length a0 : Int)))) rfl rfl rfl (evn ?_))))))))))
  refine ls_keep [(0, .dat a0.length (a0.flatMap c30_d)), (1, .int .i64 (IntKind.i64.wrap (a1 - (List.length a0 : Int))))] ⟨kr, kr, trivial⟩ rfl ?_
  refine ls_seq_k fun K1 hK1 => ?_
  refine ls_rs tbOk ?_
  refine evs (ev_mv (c := .int .i64 (IntKind.i64.wrap (a1 - (List.length a0 : Int)))) rfl rfl rfl (evs (ev_bin (c1 := .int .i64 (IntKind.i64.wrap (a1 - (List.length a0 : Int)))) (c2 := .int .i64 0) rfl rfl rfl (evn ?_))))
  refine ls_keep [(0, .dat a0.length (a0.flatMap c30_d)), (1, .int .i64 (IntKind.i64.wrap (a1 - (List.length a0 : Int)))), (11, .bool (decide ((IntKind.i64.wrap (a1 - (List.length a0 : Int))) < 0)))] ⟨kr, kr, kr, trivial⟩ rfl ?_
  rcases cond_some h with ⟨g2, h⟩ | ⟨g2, h⟩
  · refine ls_cT rfl g2 ?_
    refine ls_rs tbOk ?_
    refine evs (ev_ac rfl nofun rfl (evn ?_))
    refine ls_keep [(4, .int .i64 (-1))] ⟨kr, trivial⟩ rfl ?_
    refine ls_ret ?_
    have hr := Option.some.inj h
    rw [← hr]
    exact ⟨.inl rfl, rfl⟩
  · refine ls_cF rfl g2 ?_
    refine ls_skip ?_
    refine hK1 _ (ls_keep [(0, .dat a0.length (a0.flatMap c30_d)), (1, .int .i64 (IntKind.i64.wrap (a1 - (List.length a0 : Int))))] ⟨kr, kr, trivial⟩ rfl ?_)
    refine ls_seq_k fun K3 hK3 => ?_
    refine ls_rs tbOk ?_
    refine evs (ev_ac rfl nofun rfl (evn ?_))
    refine ls_keep [(0, .dat a0.length (a0.flatMap c30_d)), (1, .int .i64 (IntKind.i64.wrap (a1 - (List.length a0 : Int)))), (5, .int .i64 0)] ⟨kr, kr, kr, trivial⟩ rfl ?_
    obtain ⟨o1, hl, hr1⟩ := ob_some h
    clear h
    have kXlaws_szIntSS_B1 : ∀ (z4 : Int), (some z4) = some r → ∀ σ' : PS, okK σ' [(1, .int .i64 z4)] → K3 σ' := by
      intro z4 h σ' hk
      refine hK3 _ (ls_keep [(1, .int .i64 z4)] hk rfl ?_)
      refine ls_rs tbOk ?_
      refine evs (ev_mv (c := .int .i64 z4) rfl rfl rfl (evs (ev_as (c := .int .i64 z4) rfl rfl rfl (evn ?_))))
      refine ls_keep [(4, .int .i64 z4)] ⟨kr, trivial⟩ rfl ?_
      refine ls_ret ?_
      have hr := Option.some.inj h
      rw [← hr]
      exact ⟨.inl rfl, rfl⟩
    refine ls_rec (fun (s : Int × Int) => match s with | (y1, y2) => [(0, .dat a0.length (a0.flatMap c30_d)), (1, .int .i64 y1), (5, .int .i64 y2)]) (laws_szIntSS_B1 a0) fz ((IntKind.i64.wrap (a1 - (List.length a0 : Int))), 0) o1 hl ⟨kr, kr, kr, trivial⟩ (fun _ => rfl) ?_
    rintro m ⟨y1, y2⟩ N h hN
    unfold laws_szIntSS_B1 at h
    dsimp only at h
    refine ls_seq_k fun K5 hK5 => ?_
    refine ls_rs tbOk ?_
    refine evs (ev_mv (c := .int .i64 y2) rfl rfl rfl (evs (ev_mv (c := .dat a0.length (a0.flatMap c30_d)) rfl rfl rfl (evs (ev_len (c1 := .dat a0.length (a0.flatMap c30_d)) rfl rfl rfl (evs (ev_bin (c1 := .int .i64 y2) (c2 := .int .i64 (List.length a0 : Int)) rfl rfl rfl (evn ?_))))))))
    refine ls_keep [(0, .dat a0.length (a0.flatMap c30_d)), (1, .int .i64 y1), (5, .int .i64 y2), (15, .bool (decide (y2 < (List.length a0 : Int))))] ⟨kr, kr, kr, kr, trivial⟩ rfl ?_
    rcases cond_some h with ⟨g6, h⟩ | ⟨g6, h⟩
    · refine ls_cT rfl g6 ?_
      refine ls_skip ?_
      refine hK5 _ (ls_keep [(0, .dat a0.length (a0.flatMap c30_d)), (1, .int .i64 y1), (5, .int .i64 y2)] ⟨kr, kr, kr, trivial⟩ rfl ?_)
      refine ls_seq_k fun K7 hK7 => ?_
      refine ls_blk ?_
      refine ls_rs tbOk ?_
      refine evs (ev_mv (c := .dat a0.length (a0.flatMap c30_d)) rfl rfl rfl (evs (ev_mv (c := .int .i64 y2) rfl rfl rfl (?_))))
      obtain ⟨e8, g9, h⟩ := ob_some h
      refine evs (ev_ia rfl rfl rfl ⟨(geti_some g9).1, (geti_some g9).2.1⟩ (evs (ev_ldE (off := 0) (v := .dat e8.length (e8.flatMap ci64)) rfl rfl zc30_d g9 rfl (Nat.le_of_ble_eq_true rfl) rfl (evs (ev_mv (c := .int .i64 y1) rfl rfl rfl (?_))))))
      obtain ⟨v10, g11, h⟩ := ob_some h
      refine evs (ev_call (era rfl (erD eci64 _) (era rfl rfl eran)) (laws_szIntS_s g11) (evs (ev_as (c := .int .i64 v10) rfl rfl rfl (evn ?_))))
      refine ls_keep [(0, .dat a0.length (a0.flatMap c30_d)), (1, .int .i64 v10), (5, .int .i64 y2)] ⟨kr, kr, kr, trivial⟩ rfl ?_
      refine ls_rs tbOk ?_
      refine evs (ev_mv (c := .int .i64 v10) rfl rfl rfl (evs (ev_bin (c1 := .int .i64 v10) (c2 := .int .i64 0) rfl rfl rfl (evn ?_))))
      refine ls_keep [(0, .dat a0.length (a0.flatMap c30_d)), (1, .int .i64 v10), (5, .int .i64 y2), (25, .bool (decide (v10 < 0)))] ⟨kr, kr, kr, kr, trivial⟩ rfl ?_
      rcases cond_some h with ⟨g12, h⟩ | ⟨g12, h⟩
      · refine ls_cT rfl g12 ?_
        refine ls_rs tbOk ?_
        refine evs (ev_ac rfl nofun rfl (evn ?_))
        refine ls_keep [(4, .int .i64 (-1))] ⟨kr, trivial⟩ rfl ?_
        refine ls_ret ?_
        have q0 := (Option.some.inj h).symm
        have r0 := hr1
        rw [q0] at r0
        have hr := Option.some.inj r0
        rw [← hr]
        exact ⟨.inl rfl, rfl⟩
      · refine ls_cF rfl g12 ?_
        refine ls_skip ?_
        refine hK7 _ (ls_keep [(0, .dat a0.length (a0.flatMap c30_d)), (1, .int .i64 v10), (5, .int .i64 y2)] ⟨kr, kr, kr, trivial⟩ rfl ?_)
        refine ls_rgn tbOk ?_
        refine evs (ev_mv (c := .int .i64 y2) rfl rfl rfl (evs (ev_bin (c1 := .int .i64 y2) (c2 := .int .i64 1) rfl rfl rfl (evs (ev_as (c := .int .i64 (IntKind.i64.wrap (y2 + 1))) rfl rfl rfl (evn ?_))))))
        exact hN _ (v10, (IntKind.i64.wrap (y2 + 1))) h ⟨kr, kr, kr, trivial⟩
    · refine ls_cF rfl g6 ?_
      refine ls_exit ?_
      have q0 := (Option.some.inj h).symm
      have r0 := hr1
      rw [q0] at r0
      exact kXlaws_szIntSS_B1 y1 r0 _ ⟨kr, trivial⟩
def laws_szRelation (a0 : Int × (List (List Int))) (a1 : Int) : Option (Int) := obind (laws_szIntSS a0.2 a1) fun v1 => cond (decide (v1 < 0)) (some (-1)) (some v1)
theorem laws_szRelation_s {a0 : Int × (List (List Int))} {a1 : Int} {r : Int} (h : laws_szRelation a0 a1 = some r) : SoundAt Try.prog 25 [.agg [.int .i64 a0.1, .dat a0.2.length (a0.2.flatMap c30_d)], .int .i64 a1] (.int .i64 r) := by
  unfold laws_szRelation at h
  refine sound_lit tbOk lit25 (Nat.le_of_ble_eq_true rfl) rfl ?_
  unfold c25
  refine ls_keep [(0, .agg [.int .i64 a0.1, .dat a0.2.length (a0.2.flatMap c30_d)]), (1, .int .i64 a1)] ⟨kr, kr, trivial⟩ rfl ?_
  refine ls_rs tbOk ?_
  refine evs (ev_bx (c1 := .agg [.int .i64 a0.1, .dat a0.2.length (a0.2.flatMap c30_d)]) rfl rfl rfl (evs (ev_ac rfl nofun rfl (evn ?_))))
  refine ls_keep [(1, .int .i64 a1), (2, .box [.int .i64 a0.1, .dat a0.2.length (a0.2.flatMap c30_d)])] ⟨kr, kr, trivial⟩ rfl ?_
  refine ls_rs tbOk ?_
  refine evs (ev_fa (c1 := .cref 2 0) (v := .cref 2 1) rfl rfl rfl ⟨_, rfl⟩ rfl (evs (ev_ldB (off := 1) (v := .dat a0.2.length (a0.2.flatMap c30_d)) rfl rfl rfl rfl (Nat.le_of_ble_eq_true rfl) rfl (evs (ev_mv (c := .int .i64 a1) rfl rfl rfl (?_))))))
  obtain ⟨v1, g2, h⟩ := ob_some h
  refine evs (ev_call (era rfl (erD ec30_d _) (era rfl rfl eran)) (laws_szIntSS_s g2) (evs (ev_as (c := .int .i64 v1) rfl rfl rfl (evn ?_))))
  refine ls_keep [(1, .int .i64 v1)] ⟨kr, trivial⟩ rfl ?_
  refine ls_seq_k fun K3 hK3 => ?_
  refine ls_rs tbOk ?_
  refine evs (ev_mv (c := .int .i64 v1) rfl rfl rfl (evs (ev_bin (c1 := .int .i64 v1) (c2 := .int .i64 0) rfl rfl rfl (evn ?_))))
  refine ls_keep [(1, .int .i64 v1), (10, .bool (decide (v1 < 0)))] ⟨kr, kr, trivial⟩ rfl ?_
  rcases cond_some h with ⟨g4, h⟩ | ⟨g4, h⟩
  · refine ls_cT rfl g4 ?_
    refine ls_rs tbOk ?_
    refine evs (ev_ac rfl nofun rfl (evn ?_))
    refine ls_keep [(4, .int .i64 (-1))] ⟨kr, trivial⟩ rfl ?_
    refine ls_ret ?_
    have hr := Option.some.inj h
    rw [← hr]
    exact ⟨.inl rfl, rfl⟩
  · refine ls_cF rfl g4 ?_
    refine ls_skip ?_
    refine hK3 _ (ls_keep [(1, .int .i64 v1)] ⟨kr, trivial⟩ rfl ?_)
    refine ls_rs tbOk ?_
    refine evs (ev_mv (c := .int .i64 v1) rfl rfl rfl (evs (ev_as (c := .int .i64 v1) rfl rfl rfl (evn ?_))))
    refine ls_keep [(4, .int .i64 v1)] ⟨kr, trivial⟩ rfl ?_
    refine ls_ret ?_
    have hr := Option.some.inj h
    rw [← hr]
    exact ⟨.inl rfl, rfl⟩
def spec_l1In_J1 (x2 : Bool) : Option (Bool) := some x2
def spec_l1In (a0 : Int) (a1 : Int) (a2 : Int) : Option (Bool) := cond (decide (a1 ≤ a0)) (spec_l1In_J1 (decide (a0 ≤ a2))) (spec_l1In_J1 false)
theorem spec_l1In_s {a0 : Int} {a1 : Int} {a2 : Int} {r : Bool} (h : spec_l1In a0 a1 a2 = some r) : SoundAt Try.prog 80 [.int .i64 a0, .int .i64 a1, .int .i64 a2] (.bool r) := by
  unfold spec_l1In at h
  refine sound_lit tbOk lit80 (Nat.le_of_ble_eq_true rfl) rfl ?_
  unfold c80
  refine ls_keep [(0, .int .i64 a0), (1, .int .i64 a1), (2, .int .i64 a2)] ⟨kr, kr, kr, trivial⟩ rfl ?_
  refine ls_rs tbOk ?_
  refine evs (ev_ac rfl nofun rfl (evn ?_))
  refine ls_keep [(0, .int .i64 a0), (1, .int .i64 a1), (2, .int .i64 a2)] ⟨kr, kr, kr, trivial⟩ rfl ?_
  refine ls_rs_k tbOk fun K1 hK1 => ?_
  have kspec_l1In_J1 : ∀ (x2 : Bool), spec_l1In_J1 x2 = some r → ∀ σ' : PS, okK σ' [(6, .bool x2)] → K1 σ' := by
    intro x2 h σ' hk
    unfold spec_l1In_J1 at h
    refine hK1 _ (ls_keep [(6, .bool x2)] hk rfl ?_)
    refine ls_ret ?_
    have hr := Option.some.inj h
    rw [← hr]
    exact ⟨.inl rfl, rfl⟩
  refine evs (ev_mv (c := .int .i64 a0) rfl rfl rfl (evs (ev_mv (c := .int .i64 a1) rfl rfl rfl (evs (ev_bin (c1 := .int .i64 a0) (c2 := .int .i64 a1) rfl rfl rfl (evs (ev_mv (c := .bool (decide (a1 ≤ a0))) rfl rfl rfl (?_))))))))
  rcases cond_some h with ⟨g3, h⟩ | ⟨g3, h⟩
  · refine evs (ev_gr rfl (congrArg V.bool g3) (ev_mv (c := .int .i64 a0) rfl rfl rfl (evs (ev_gr rfl (congrArg V.bool g3) (ev_mv (c := .int .i64 a2) rfl rfl rfl (evs (ev_gr rfl (congrArg V.bool g3) (ev_bin (c1 := .int .i64 a0) (c2 := .int .i64 a2) rfl rfl rfl (evs (ev_pkT (c1 := .bool (decide (a0 ≤ a2))) rfl g3 rfl rfl (evs (ev_as (c := .bool (decide (a0 ≤ a2))) rfl rfl rfl (evn ?_)))))))))))))
    exact kspec_l1In_J1 (decide (a0 ≤ a2)) h _ ⟨kr, trivial⟩
  · refine evs (ev_gs rfl rfl (isb_F g3) (evs (ev_gs rfl rfl (isb_F g3) (evs (ev_gs rfl rfl (isb_F g3) (evs (ev_pkF (c1 := .bool false) rfl g3 rfl rfl (evs (ev_as (c := .bool false) rfl rfl rfl (evn ?_))))))))))
    exact kspec_l1In_J1 false h _ ⟨kr, trivial⟩
def spec_AreValidValues_B1 (a0 : List Int) (rec : Int → Option (Sum (Unit) (Bool))) (y1 : Int) : Option (Sum (Unit) (Bool)) := cond (decide (y1 < (List.length a0 : Int))) (obind (geti a0 y1) fun e5 => obind (spec_l1In e5 0 99) fun v7 => cond (!v7) (some (.inr false)) (rec (IntKind.i64.wrap (y1 + 1)))) (some (.inl ()))
def spec_AreValidValues (a0 : List Int) : Option (Bool) := obind (loopF (spec_AreValidValues_B1 a0) fz 0) fun o1 => (match o1 with
  | .inl _ => (some true)
  | .inr r => some r)
theorem spec_AreValidValues_s {a0 : List Int} {r : Bool} (h : spec_AreValidValues a0 = some r) : SoundAt Try.prog 116 [.dat a0.length (a0.flatMap ci64)] (.bool r) := by
  unfold spec_AreValidValues at h
  refine sound_lit tbOk lit116 (Nat.le_of_ble_eq_true rfl) rfl ?_
  unfold c116
  refine ls_keep [(0, .dat a0.length (a0.flatMap ci64))] ⟨kr, trivial⟩ rfl ?_
  refine ls_rs tbOk ?_
  refine evs (ev_ac rfl nofun rfl (evn ?_))
  refine ls_keep [(0, .dat a0.length (a0.flatMap ci64))] ⟨kr, trivial⟩ rfl ?_
  refine ls_seq_k fun K1 hK1 => ?_
  refine ls_rs tbOk ?_
  refine evs (ev_ac rfl nofun rfl (evn ?_))
  refine ls_keep [(0, .dat a0.length (a0.flatMap ci64)), (3, .int .i64 0)] ⟨kr, kr, trivial⟩ rfl ?_
  obtain ⟨o1, hl, hr1⟩ := ob_some h
  clear h
  have kXspec_AreValidValues_B1 : ∀ (_ : Unit), (some true) = some r → ∀ σ' : PS, okK σ' [] → K1 σ' := by
    intro _ h σ' hk
    refine hK1 _ (ls_keep [] hk rfl ?_)
    refine ls_rs tbOk ?_
    refine evs (ev_ac rfl nofun rfl (evn ?_))
    refine ls_keep [(2, .bool true)] ⟨kr, trivial⟩ rfl ?_
    refine ls_ret ?_
    have hr := Option.some.inj h
    rw [← hr]
    exact ⟨.inl rfl, rfl⟩
  refine ls_rec (fun (y1 : Int) => [(0, .dat a0.length (a0.flatMap ci64)), (3, .int .i64 y1)]) (spec_AreValidValues_B1 a0) fz 0 o1 hl ⟨kr, kr, trivial⟩ (fun _ => rfl) ?_
  rintro m y1 N h hN
  unfold spec_AreValidValues_B1 at h
  refine ls_seq_k fun K2 hK2 => ?_
  refine ls_rs tbOk ?_
  refine evs (ev_mv (c := .int .i64 y1) rfl rfl rfl (evs (ev_mv (c := .dat a0.length (a0.flatMap ci64)) rfl rfl rfl (evs (ev_len (c1 := .dat a0.length (a0.flatMap ci64)) rfl rfl rfl (evs (ev_bin (c1 := .int .i64 y1) (c2 := .int .i64 (List.length a0 : Int)) rfl rfl rfl (evn ?_))))))))
  refine ls_keep [(0, .dat a0.length (a0.flatMap ci64)), (3, .int .i64 y1), (7, .bool (decide (y1 < (List.length a0 : Int))))] ⟨kr, kr, kr, trivial⟩ rfl ?_
  rcases cond_some h with ⟨g3, h⟩ | ⟨g3, h⟩
  · refine ls_cT rfl g3 ?_
    refine ls_skip ?_
    refine hK2 _ (ls_keep [(0, .dat a0.length (a0.flatMap ci64)), (3, .int .i64 y1)] ⟨kr, kr, trivial⟩ rfl ?_)
    refine ls_seq_k fun K4 hK4 => ?_
    refine ls_blk ?_
    refine ls_rs tbOk ?_
    refine evs (ev_mv (c := .dat a0.length (a0.flatMap ci64)) rfl rfl rfl (evs (ev_mv (c := .int .i64 y1) rfl rfl rfl (?_))))
    obtain ⟨e5, g6, h⟩ := ob_some h
    refine evs (ev_ia rfl rfl rfl ⟨(geti_some g6).1, (geti_some g6).2.1⟩ (evs (ev_ldE (off := 0) (v := .int .i64 e5) rfl rfl zci64 g6 rfl (Nat.le_of_ble_eq_true rfl) rfl (?_))))
    obtain ⟨v7, g8, h⟩ := ob_some h
    refine evs (ev_call (era rfl rfl (era rfl rfl (era rfl rfl eran))) (spec_l1In_s g8) (evs (ev_un (c1 := .bool v7) rfl trivial (evn ?_))))
    refine ls_keep [(0, .dat a0.length (a0.flatMap ci64)), (3, .int .i64 y1), (15, .bool (!v7))] ⟨kr, kr, kr, trivial⟩ rfl ?_
    rcases cond_some h with ⟨g9, h⟩ | ⟨g9, h⟩
    · refine ls_cT rfl g9 ?_
      refine ls_rs tbOk ?_
      refine evs (ev_ac rfl nofun rfl (evn ?_))
      refine ls_keep [(2, .bool false)] ⟨kr, trivial⟩ rfl ?_
      refine ls_ret ?_
      have q0 := (Option.some.inj h).symm
      have r0 := hr1
      rw [q0] at r0
      have hr := Option.some.inj r0
      rw [← hr]
      exact ⟨.inl rfl, rfl⟩
    · refine ls_cF rfl g9 ?_
      refine ls_skip ?_
      refine hK4 _ (ls_keep [(0, .dat a0.length (a0.flatMap ci64)), (3, .int .i64 y1)] ⟨kr, kr, trivial⟩ rfl ?_)
      refine ls_rgn tbOk ?_
      refine evs (ev_mv (c := .int .i64 y1) rfl rfl rfl (evs (ev_bin (c1 := .int .i64 y1) (c2 := .int .i64 1) rfl rfl rfl (evs (ev_as (c := .int .i64 (IntKind.i64.wrap (y1 + 1))) rfl rfl rfl (evn ?_))))))
      exact hN _ (IntKind.i64.wrap (y1 + 1)) h ⟨kr, kr, trivial⟩
  · refine ls_cF rfl g3 ?_
    refine ls_exit ?_
    have q0 := (Option.some.inj h).symm
    have r0 := hr1
    rw [q0] at r0
    exact kXspec_AreValidValues_B1 () r0 _ trivial
def spec_CompareRows_B1 (a0 : List Int) (a1 : List Int) (rec : Int → Option (Sum (Unit) (Int))) (y1 : Int) : Option (Sum (Unit) (Int)) := cond (decide (y1 < (List.length a0 : Int))) (cond (decide (y1 < (List.length a1 : Int))) (obind (geti a0 y1) fun e7 => obind (geti a1 y1) fun e9 => cond (decide (e7 < e9)) (some (.inr (-1))) (obind (geti a0 y1) fun e12 => obind (geti a1 y1) fun e14 => cond (decide (e14 < e12)) (some (.inr 1)) (rec (IntKind.i64.wrap (y1 + 1))))) (some (.inl ()))) (some (.inl ()))
def spec_CompareRows (a0 : List Int) (a1 : List Int) : Option (Int) := obind (loopF (spec_CompareRows_B1 a0 a1) fz 0) fun o1 => (match o1 with
  | .inl _ => (cond (decide ((List.length a0 : Int) < (List.length a1 : Int))) (some (-1)) (cond (decide ((List.length a1 : Int) < (List.length a0 : Int))) (some 1) (some 0)))
  | .inr r => some r)
theorem spec_CompareRows_s {a0 : List Int} {a1 : List Int} {r : Int} (h : spec_CompareRows a0 a1 = some r) : SoundAt Try.prog 117 [.dat a0.length (a0.flatMap ci64), .dat a1.length (a1.flatMap ci64)] (.int .i64 r) := by
  unfold spec_CompareRows at h
  refine sound_lit tbOk lit117 (Nat.le_of_ble_eq_true rfl) rfl ?_
  unfold c117
  refine ls_keep [(0, .dat a0.length (a0.flatMap ci64)), (1, .dat a1.length (a1.flatMap ci64))] ⟨kr, kr, trivial⟩ rfl ?_
  refine ls_rs tbOk ?_
  refine evs (ev_ac rfl nofun rfl (evn ?_))
  refine ls_keep [(0, .dat a0.length (a0.flatMap ci64)), (1, .dat a1.length (a1.flatMap ci64))] ⟨kr, kr, trivial⟩ rfl ?_
  refine ls_seq_k fun K1 hK1 => ?_
  refine ls_rs tbOk ?_
  refine evs (ev_ac rfl nofun rfl (evn ?_))
  refine ls_keep [(0, .dat a0.length (a0.flatMap ci64)), (1, .dat a1.length (a1.flatMap ci64)), (5, .int .i64 0)] ⟨kr, kr, kr, trivial⟩ rfl ?_
  obtain ⟨o1, hl, hr1⟩ := ob_some h
  clear h
  have kXspec_CompareRows_B1 : ∀ (_ : Unit), (cond (decide ((List.length a0 : Int) < (List.length a1 : Int))) (some (-1)) (cond (decide ((List.length a1 : Int) < (List.length a0 : Int))) (some 1) (some 0))) = some r → ∀ σ' : PS, okK σ' [(0, .dat a0.length (a0.flatMap ci64)), (1, .dat a1.length (a1.flatMap ci64))] → K1 σ' := by
    intro _ h σ' hk
    refine hK1 _ (ls_keep [(0, .dat a0.length (a0.flatMap ci64)), (1, .dat a1.length (a1.flatMap ci64))] hk rfl ?_)
    refine ls_seq_k fun K17 hK17 => ?_
    refine ls_rs tbOk ?_
    refine evs (ev_mv (c := .dat a0.length (a0.flatMap ci64)) rfl rfl rfl (evs (ev_len (c1 := .dat a0.length (a0.flatMap ci64)) rfl rfl rfl (evs (ev_mv (c := .dat a1.length (a1.flatMap ci64)) rfl rfl rfl (evs (ev_len (c1 := .dat a1.length (a1.flatMap ci64)) rfl rfl rfl (evs (ev_bin (c1 := .int .i64 (List.length a0 : Int)) (c2 := .int .i64 (List.length a1 : Int)) rfl rfl rfl (evn ?_))))))))))
    refine ls_keep [(0, .dat a0.length (a0.flatMap ci64)), (1, .dat a1.length (a1.flatMap ci64)), (40, .bool (decide ((List.length a0 : Int) < (List.length a1 : Int))))] ⟨kr, kr, kr, trivial⟩ rfl ?_
    rcases cond_some h with ⟨g18, h⟩ | ⟨g18, h⟩
    · refine ls_cT rfl g18 ?_
      refine ls_rs tbOk ?_
      refine evs (ev_ac rfl nofun rfl (evn ?_))
      refine ls_keep [(4, .int .i64 (-1))] ⟨kr, trivial⟩ rfl ?_
      refine ls_ret ?_
      have hr := Option.some.inj h
      rw [← hr]
      exact ⟨.inl rfl, rfl⟩
    · refine ls_cF rfl g18 ?_
      refine ls_skip ?_
      refine hK17 _ (ls_keep [(0, .dat a0.length (a0.flatMap ci64)), (1, .dat a1.length (a1.flatMap ci64))] ⟨kr, kr, trivial⟩ rfl ?_)
      refine ls_seq_k fun K19 hK19 => ?_
      refine ls_rs tbOk ?_
      refine evs (ev_mv (c := .dat a0.length (a0.flatMap ci64)) rfl rfl rfl (evs (ev_len (c1 := .dat a0.length (a0.flatMap ci64)) rfl rfl rfl (evs (ev_mv (c := .dat a1.length (a1.flatMap ci64)) rfl rfl rfl (evs (ev_len (c1 := .dat a1.length (a1.flatMap ci64)) rfl rfl rfl (evs (ev_bin (c1 := .int .i64 (List.length a0 : Int)) (c2 := .int .i64 (List.length a1 : Int)) rfl rfl rfl (evn ?_))))))))))
      refine ls_keep [(45, .bool (decide ((List.length a1 : Int) < (List.length a0 : Int))))] ⟨kr, trivial⟩ rfl ?_
      rcases cond_some h with ⟨g20, h⟩ | ⟨g20, h⟩
      · refine ls_cT rfl g20 ?_
        refine ls_rs tbOk ?_
        refine evs (ev_ac rfl nofun rfl (evn ?_))
        refine ls_keep [(4, .int .i64 1)] ⟨kr, trivial⟩ rfl ?_
        refine ls_ret ?_
        have hr := Option.some.inj h
        rw [← hr]
        exact ⟨.inl rfl, rfl⟩
      · refine ls_cF rfl g20 ?_
        refine ls_skip ?_
        refine hK19 _ (ls_keep [] trivial rfl ?_)
        refine ls_rs tbOk ?_
        refine evs (ev_ac rfl nofun rfl (evn ?_))
        refine ls_keep [(4, .int .i64 0)] ⟨kr, trivial⟩ rfl ?_
        refine ls_ret ?_
        have hr := Option.some.inj h
        rw [← hr]
        exact ⟨.inl rfl, rfl⟩
  refine ls_rec (fun (y1 : Int) => [(0, .dat a0.length (a0.flatMap ci64)), (1, .dat a1.length (a1.flatMap ci64)), (5, .int .i64 y1)]) (spec_CompareRows_B1 a0 a1) fz 0 o1 hl ⟨kr, kr, kr, trivial⟩ (fun _ => rfl) ?_
  rintro m y1 N h hN
  unfold spec_CompareRows_B1 at h
  refine ls_seq_k fun K2 hK2 => ?_
  refine ls_rs tbOk ?_
  refine evs (ev_mv (c := .int .i64 y1) rfl rfl rfl (evs (ev_mv (c := .dat a0.length (a0.flatMap ci64)) rfl rfl rfl (evs (ev_len (c1 := .dat a0.length (a0.flatMap ci64)) rfl rfl rfl (evs (ev_bin (c1 := .int .i64 y1) (c2 := .int .i64 (List.length a0 : Int)) rfl rfl rfl (evs (ev_mv (c := .bool (decide (y1 < (List.length a0 : Int)))) rfl rfl rfl (?_))))))))))
  rcases cond_some h with ⟨g3, h⟩ | ⟨g3, h⟩
  · refine evs (ev_gr rfl (congrArg V.bool g3) (ev_mv (c := .int .i64 y1) rfl rfl rfl (evs (ev_gr rfl (congrArg V.bool g3) (ev_mv (c := .dat a1.length (a1.flatMap ci64)) rfl rfl rfl (evs (ev_gr rfl (congrArg V.bool g3) (ev_len (c1 := .dat a1.length (a1.flatMap ci64)) rfl rfl rfl (evs (ev_gr rfl (congrArg V.bool g3) (ev_bin (c1 := .int .i64 y1) (c2 := .int .i64 (List.length a1 : Int)) rfl rfl rfl (evs (ev_pkT (c1 := .bool (decide (y1 < (List.length a1 : Int)))) rfl g3 rfl rfl (evn ?_))))))))))))))
    refine ls_keep [(0, .dat a0.length (a0.flatMap ci64)), (1, .dat a1.length (a1.flatMap ci64)), (5, .int .i64 y1), (15, .bool (decide (y1 < (List.length a1 : Int))))] ⟨kr, kr, kr, kr, trivial⟩ rfl ?_
    rcases cond_some h with ⟨g4, h⟩ | ⟨g4, h⟩
    · refine ls_cT rfl g4 ?_
      refine ls_skip ?_
      refine hK2 _ (ls_keep [(0, .dat a0.length (a0.flatMap ci64)), (1, .dat a1.length (a1.flatMap ci64)), (5, .int .i64 y1)] ⟨kr, kr, kr, trivial⟩ rfl ?_)
      refine ls_seq_k fun K5 hK5 => ?_
      refine ls_blk ?_
      refine ls_seq_k fun K6 hK6 => ?_
      refine ls_rd tbOk mixed (by kernel_rfl) ?_
      refine evd rfl rfl (ev_mv (c := .dat a0.length (a0.flatMap ci64)) rfl rfl rfl (evd rfl rfl (ev_mv (c := .int .i64 y1) rfl rfl rfl (?_))))
      obtain ⟨e7, g8, h⟩ := ob_some h
      refine evd rfl rfl (ev_ia rfl rfl rfl ⟨(geti_some g8).1, (geti_some g8).2.1⟩ (evd rfl rfl (ev_ldE (off := 0) (v := .int .i64 e7) rfl rfl zci64 g8 rfl (Nat.le_of_ble_eq_true rfl) rfl (evd rfl rfl (ev_mv (c := .dat a1.length (a1.flatMap ci64)) rfl rfl rfl (evd rfl rfl (ev_mv (c := .int .i64 y1) rfl rfl rfl (?_))))))))
      obtain ⟨e9, g10, h⟩ := ob_some h
      refine evd rfl rfl (ev_ia rfl rfl rfl ⟨(geti_some g10).1, (geti_some g10).2.1⟩ (evd rfl rfl (ev_ldE (off := 0) (v := .int .i64 e9) rfl rfl zci64 g10 rfl (Nat.le_of_ble_eq_true rfl) rfl (evd rfl rfl (ev_bin (c1 := .int .i64 e7) (c2 := .int .i64 e9) rfl rfl rfl (evdn ?_))))))
      refine ls_keep [(0, .dat a0.length (a0.flatMap ci64)), (1, .dat a1.length (a1.flatMap ci64)), (5, .int .i64 y1), (26, .bool (decide (e7 < e9)))] ⟨kr, kr, kr, kr, trivial⟩ rfl ?_
      rcases cond_some h with ⟨g11, h⟩ | ⟨g11, h⟩
      · refine ls_cT rfl g11 ?_
        refine ls_rs tbOk ?_
        refine evs (ev_ac rfl nofun rfl (evn ?_))
        refine ls_keep [(4, .int .i64 (-1))] ⟨kr, trivial⟩ rfl ?_
        refine ls_ret ?_
        have q0 := (Option.some.inj h).symm
        have r0 := hr1
        rw [q0] at r0
        have hr := Option.some.inj r0
        rw [← hr]
        exact ⟨.inl rfl, rfl⟩
      · refine ls_cF rfl g11 ?_
        refine ls_skip ?_
        refine hK6 _ (ls_keep [(0, .dat a0.length (a0.flatMap ci64)), (1, .dat a1.length (a1.flatMap ci64)), (5, .int .i64 y1)] ⟨kr, kr, kr, trivial⟩ rfl ?_)
        refine ls_rd tbOk mixed (by kernel_rfl) ?_
        refine evd rfl rfl (ev_mv (c := .dat a0.length (a0.flatMap ci64)) rfl rfl rfl (evd rfl rfl (ev_mv (c := .int .i64 y1) rfl rfl rfl (?_))))
        obtain ⟨e12, g13, h⟩ := ob_some h
        refine evd rfl rfl (ev_ia rfl rfl rfl ⟨(geti_some g13).1, (geti_some g13).2.1⟩ (evd rfl rfl (ev_ldE (off := 0) (v := .int .i64 e12) rfl rfl zci64 g13 rfl (Nat.le_of_ble_eq_true rfl) rfl (evd rfl rfl (ev_mv (c := .dat a1.length (a1.flatMap ci64)) rfl rfl rfl (evd rfl rfl (ev_mv (c := .int .i64 y1) rfl rfl rfl (?_))))))))
        obtain ⟨e14, g15, h⟩ := ob_some h
        refine evd rfl rfl (ev_ia rfl rfl rfl ⟨(geti_some g15).1, (geti_some g15).2.1⟩ (evd rfl rfl (ev_ldE (off := 0) (v := .int .i64 e14) rfl rfl zci64 g15 rfl (Nat.le_of_ble_eq_true rfl) rfl (evd rfl rfl (ev_bin (c1 := .int .i64 e12) (c2 := .int .i64 e14) rfl rfl rfl (evdn ?_))))))
        refine ls_keep [(0, .dat a0.length (a0.flatMap ci64)), (1, .dat a1.length (a1.flatMap ci64)), (5, .int .i64 y1), (35, .bool (decide (e14 < e12)))] ⟨kr, kr, kr, kr, trivial⟩ rfl ?_
        rcases cond_some h with ⟨g16, h⟩ | ⟨g16, h⟩
        · refine ls_cT rfl g16 ?_
          refine ls_rs tbOk ?_
          refine evs (ev_ac rfl nofun rfl (evn ?_))
          refine ls_keep [(4, .int .i64 1)] ⟨kr, trivial⟩ rfl ?_
          refine ls_ret ?_
          have q0 := (Option.some.inj h).symm
          have r0 := hr1
          rw [q0] at r0
          have hr := Option.some.inj r0
          rw [← hr]
          exact ⟨.inl rfl, rfl⟩
        · refine ls_cF rfl g16 ?_
          refine ls_skip ?_
          refine hK5 _ (ls_keep [(0, .dat a0.length (a0.flatMap ci64)), (1, .dat a1.length (a1.flatMap ci64)), (5, .int .i64 y1)] ⟨kr, kr, kr, trivial⟩ rfl ?_)
          refine ls_rgn tbOk ?_
          refine evs (ev_mv (c := .int .i64 y1) rfl rfl rfl (evs (ev_bin (c1 := .int .i64 y1) (c2 := .int .i64 1) rfl rfl rfl (evs (ev_as (c := .int .i64 (IntKind.i64.wrap (y1 + 1))) rfl rfl rfl (evn ?_))))))
          exact hN _ (IntKind.i64.wrap (y1 + 1)) h ⟨kr, kr, kr, trivial⟩
    · refine ls_cF rfl g4 ?_
      refine ls_exit ?_
      have q0 := (Option.some.inj h).symm
      have r0 := hr1
      rw [q0] at r0
      exact kXspec_CompareRows_B1 () r0 _ ⟨kr, kr, trivial⟩
  · refine evs (ev_gs rfl rfl (isb_F g3) (evs (ev_gs rfl rfl (isb_F g3) (evs (ev_gs rfl rfl (isb_F g3) (evs (ev_gs rfl rfl (isb_F g3) (evs (ev_pkF (c1 := .bool false) rfl g3 rfl rfl (evn ?_))))))))))
    refine ls_keep [(0, .dat a0.length (a0.flatMap ci64)), (1, .dat a1.length (a1.flatMap ci64)), (5, .int .i64 y1), (15, .bool false)] ⟨kr, kr, kr, kr, trivial⟩ rfl ?_
    refine ls_cF rfl rfl ?_
    refine ls_exit ?_
    have q0 := (Option.some.inj h).symm
    have r0 := hr1
    rw [q0] at r0
    exact kXspec_CompareRows_B1 () r0 _ ⟨kr, kr, trivial⟩
def spec_IsValidRelation_J2 (rec : Int → Option (Sum (Unit) (Bool))) (y1 : Int) (x11 : Bool) : Option (Sum (Unit) (Bool)) := cond x11 (some (.inr false)) (rec (IntKind.i64.wrap (y1 + 1)))
def spec_IsValidRelation_B1 (a0 : Int × (List (List Int))) (rec : Int → Option (Sum (Unit) (Bool))) (y1 : Int) : Option (Sum (Unit) (Bool)) := cond (decide (y1 < (List.length a0.2 : Int))) (obind (geti a0.2 y1) fun e13 => cond ((List.length e13 : Int) != a0.1) (spec_IsValidRelation_J2 rec y1 true) (obind (geti a0.2 y1) fun e16 => obind (spec_AreValidValues e16) fun v18 => cond (!v18) (spec_IsValidRelation_J2 rec y1 true) (cond (decide (0 < y1)) (obind (geti a0.2 (IntKind.i64.wrap (y1 - 1))) fun e22 => obind (geti a0.2 y1) fun e24 => obind (spec_CompareRows e22 e24) fun v26 => spec_IsValidRelation_J2 rec y1 (decide (0 ≤ v26))) (spec_IsValidRelation_J2 rec y1 false)))) (some (.inl ()))
def spec_IsValidRelation (a0 : Int × (List (List Int))) : Option (Bool) := obind (spec_l1In a0.1 0 5) fun v2 => cond (!v2) (some false) (cond (decide (4000 < (List.length a0.2 : Int))) (some false) (obind (loopF (spec_IsValidRelation_B1 a0) fz 0) fun o1 => (match o1 with
  | .inl _ => (some true)
  | .inr r => some r)))
theorem spec_IsValidRelation_s {a0 : Int × (List (List Int))} {r : Bool} (h : spec_IsValidRelation a0 = some r) : SoundAt Try.prog 39 [.agg [.int .i64 a0.1, .dat a0.2.length (a0.2.flatMap c30_d)]] (.bool r) := by
  unfold spec_IsValidRelation at h
  refine sound_lit tbOk lit39 (Nat.le_of_ble_eq_true rfl) rfl ?_
  unfold c39
  refine ls_keep [(0, .agg [.int .i64 a0.1, .dat a0.2.length (a0.2.flatMap c30_d)])] ⟨kr, trivial⟩ rfl ?_
  refine ls_rs tbOk ?_
  refine evs (ev_bx (c1 := .agg [.int .i64 a0.1, .dat a0.2.length (a0.2.flatMap c30_d)]) rfl rfl rfl (evs (ev_ac rfl nofun rfl (evn ?_))))
  refine ls_keep [(1, .box [.int .i64 a0.1, .dat a0.2.length (a0.2.flatMap c30_d)])] ⟨kr, trivial⟩ rfl ?_
  refine ls_seq_k fun K1 hK1 => ?_
  refine ls_rs tbOk ?_
  refine evs (ev_fa (c1 := .cref 1 0) (v := .cref 1 0) rfl rfl rfl ⟨_, rfl⟩ rfl (evs (ev_ldB (off := 0) (v := .int .i64 a0.1) rfl rfl rfl rfl (Nat.le_of_ble_eq_true rfl) rfl (?_))))
  obtain ⟨v2, g3, h⟩ := ob_some h
  refine evs (ev_call (era rfl rfl (era rfl rfl (era rfl rfl eran))) (spec_l1In_s g3) (evs (ev_un (c1 := .bool v2) rfl trivial (evs (ev_mv (c := .bool (!v2)) rfl rfl rfl (?_))))))
  rcases cond_some h with ⟨g4, h⟩ | ⟨g4, h⟩
  · refine evs (ev_gs rfl rfl (isb_T g4) (evs (ev_gs rfl rfl (isb_T g4) (evs (ev_gs rfl rfl (isb_T g4) (evs (ev_gs rfl rfl (isb_T g4) (evs (ev_pkT (c1 := .bool true) rfl g4 rfl rfl (evn ?_))))))))))
    refine ls_keep [(1, .box [.int .i64 a0.1, .dat a0.2.length (a0.2.flatMap c30_d)]), (13, .bool true)] ⟨kr, kr, trivial⟩ rfl ?_
    refine ls_cT rfl rfl ?_
    refine ls_rs tbOk ?_
    refine evs (ev_ac rfl nofun rfl (evn ?_))
    refine ls_keep [(2, .bool false)] ⟨kr, trivial⟩ rfl ?_
    refine ls_ret ?_
    have hr := Option.some.inj h
    rw [← hr]
    exact ⟨.inl rfl, rfl⟩
  · refine evs (ev_gr rfl (congrArg V.bool g4) (ev_fa (c1 := .cref 1 0) (v := .cref 1 1) rfl rfl rfl ⟨_, rfl⟩ rfl (evs (ev_gr rfl (congrArg V.bool g4) (ev_ldB (off := 1) (v := .dat a0.2.length (a0.2.flatMap c30_d)) rfl rfl rfl rfl (Nat.le_of_ble_eq_true rfl) rfl (evs (ev_gr rfl (congrArg V.bool g4) (ev_len (c1 := .dat a0.2.length (a0.2.flatMap c30_d)) rfl rfl rfl (evs (ev_gr rfl (congrArg V.bool g4) (ev_bin (c1 := .int .i64 (List.length a0.2 : Int)) (c2 := .int .i64 4000) rfl rfl rfl (evs (ev_pkF (c1 := .bool (decide (4000 < (List.length a0.2 : Int)))) rfl g4 rfl rfl (evn ?_))))))))))))))
    refine ls_keep [(1, .box [.int .i64 a0.1, .dat a0.2.length (a0.2.flatMap c30_d)]), (13, .bool (decide (4000 < (List.length a0.2 : Int))))] ⟨kr, kr, trivial⟩ rfl ?_
    rcases cond_some h with ⟨g5, h⟩ | ⟨g5, h⟩
    · refine ls_cT rfl g5 ?_
      refine ls_rs tbOk ?_
      refine evs (ev_ac rfl nofun rfl (evn ?_))
      refine ls_keep [(2, .bool false)] ⟨kr, trivial⟩ rfl ?_
      refine ls_ret ?_
      have hr := Option.some.inj h
      rw [← hr]
      exact ⟨.inl rfl, rfl⟩
    · refine ls_cF rfl g5 ?_
      refine ls_skip ?_
      refine hK1 _ (ls_keep [(1, .box [.int .i64 a0.1, .dat a0.2.length (a0.2.flatMap c30_d)])] ⟨kr, trivial⟩ rfl ?_)
      refine ls_seq_k fun K6 hK6 => ?_
      refine ls_rs tbOk ?_
      refine evs (ev_ac rfl nofun rfl (evn ?_))
      refine ls_keep [(1, .box [.int .i64 a0.1, .dat a0.2.length (a0.2.flatMap c30_d)]), (3, .int .i64 0)] ⟨kr, kr, trivial⟩ rfl ?_
      obtain ⟨o1, hl, hr1⟩ := ob_some h
      clear h
      have kXspec_IsValidRelation_B1 : ∀ (_ : Unit), (some true) = some r → ∀ σ' : PS, okK σ' [] → K6 σ' := by
        intro _ h σ' hk
        refine hK6 _ (ls_keep [] hk rfl ?_)
        refine ls_rs tbOk ?_
        refine evs (ev_ac rfl nofun rfl (evn ?_))
        refine ls_keep [(2, .bool true)] ⟨kr, trivial⟩ rfl ?_
        refine ls_ret ?_
        have hr := Option.some.inj h
        rw [← hr]
        exact ⟨.inl rfl, rfl⟩
      refine ls_rec (fun (y1 : Int) => [(1, .box [.int .i64 a0.1, .dat a0.2.length (a0.2.flatMap c30_d)]), (3, .int .i64 y1)]) (spec_IsValidRelation_B1 a0) fz 0 o1 hl ⟨kr, kr, trivial⟩ (fun _ => rfl) ?_
      rintro m y1 N h hN
      unfold spec_IsValidRelation_B1 at h
      refine ls_seq_k fun K7 hK7 => ?_
      refine ls_rs tbOk ?_
      refine evs (ev_mv (c := .int .i64 y1) rfl rfl rfl (evs (ev_fa (c1 := .cref 1 0) (v := .cref 1 1) rfl rfl rfl ⟨_, rfl⟩ rfl (evs (ev_ldB (off := 1) (v := .dat a0.2.length (a0.2.flatMap c30_d)) rfl rfl rfl rfl (Nat.le_of_ble_eq_true rfl) rfl (evs (ev_len (c1 := .dat a0.2.length (a0.2.flatMap c30_d)) rfl rfl rfl (evs (ev_bin (c1 := .int .i64 y1) (c2 := .int .i64 (List.length a0.2 : Int)) rfl rfl rfl (evn ?_))))))))))
      refine ls_keep [(1, .box [.int .i64 a0.1, .dat a0.2.length (a0.2.flatMap c30_d)]), (3, .int .i64 y1), (18, .bool (decide (y1 < (List.length a0.2 : Int))))] ⟨kr, kr, kr, trivial⟩ rfl ?_
      rcases cond_some h with ⟨g8, h⟩ | ⟨g8, h⟩
      · refine ls_cT rfl g8 ?_
        refine ls_skip ?_
        refine hK7 _ (ls_keep [(1, .box [.int .i64 a0.1, .dat a0.2.length (a0.2.flatMap c30_d)]), (3, .int .i64 y1)] ⟨kr, kr, trivial⟩ rfl ?_)
        refine ls_seq_k fun K9 hK9 => ?_
        refine ls_blk ?_
        refine ls_rd_k tbOk mixed (by kernel_rfl) fun K10 hK10 => ?_
        have kspec_IsValidRelation_J2 : ∀ (x11 : Bool), spec_IsValidRelation_J2 (loopF (spec_IsValidRelation_B1 a0) m) y1 x11 = some o1 → ∀ σ' : PS, okK σ' [(1, .box [.int .i64 a0.1, .dat a0.2.length (a0.2.flatMap c30_d)]), (3, .int .i64 y1), (57, .bool x11)] → K10 σ' := by
          intro x11 h σ' hk
          unfold spec_IsValidRelation_J2 at h
          refine hK10 _ (ls_keep [(1, .box [.int .i64 a0.1, .dat a0.2.length (a0.2.flatMap c30_d)]), (3, .int .i64 y1), (57, .bool x11)] hk rfl ?_)
          rcases cond_some h with ⟨g12, h⟩ | ⟨g12, h⟩
          · refine ls_cT rfl g12 ?_
            refine ls_rs tbOk ?_
            refine evs (ev_ac rfl nofun rfl (evn ?_))
            refine ls_keep [(2, .bool false)] ⟨kr, trivial⟩ rfl ?_
            refine ls_ret ?_
            have q0 := (Option.some.inj h).symm
            have r0 := hr1
            rw [q0] at r0
            have hr := Option.some.inj r0
            rw [← hr]
            exact ⟨.inl rfl, rfl⟩
          · refine ls_cF rfl g12 ?_
            refine ls_skip ?_
            refine hK9 _ (ls_keep [(1, .box [.int .i64 a0.1, .dat a0.2.length (a0.2.flatMap c30_d)]), (3, .int .i64 y1)] ⟨kr, kr, trivial⟩ rfl ?_)
            refine ls_rgn tbOk ?_
            refine evs (ev_mv (c := .int .i64 y1) rfl rfl rfl (evs (ev_bin (c1 := .int .i64 y1) (c2 := .int .i64 1) rfl rfl rfl (evs (ev_as (c := .int .i64 (IntKind.i64.wrap (y1 + 1))) rfl rfl rfl (evn ?_))))))
            exact hN _ (IntKind.i64.wrap (y1 + 1)) h ⟨kr, kr, trivial⟩
        refine evd rfl rfl (ev_fa (c1 := .cref 1 0) (v := .cref 1 1) rfl rfl rfl ⟨_, rfl⟩ rfl (evd rfl rfl (ev_ldB (off := 1) (v := .dat a0.2.length (a0.2.flatMap c30_d)) rfl rfl rfl rfl (Nat.le_of_ble_eq_true rfl) rfl (evd rfl rfl (ev_mv (c := .int .i64 y1) rfl rfl rfl (?_))))))
        obtain ⟨e13, g14, h⟩ := ob_some h
        refine evd rfl rfl (ev_ia rfl rfl rfl ⟨(geti_some g14).1, (geti_some g14).2.1⟩ (evd rfl rfl (ev_ldE (off := 0) (v := .dat e13.length (e13.flatMap ci64)) rfl rfl zc30_d g14 rfl (Nat.le_of_ble_eq_true rfl) rfl (evd rfl rfl (ev_len (c1 := .dat e13.length (e13.flatMap ci64)) rfl rfl rfl (evd rfl rfl (ev_fa (c1 := .cref 1 0) (v := .cref 1 0) rfl rfl rfl ⟨_, rfl⟩ rfl (evd rfl rfl (ev_ldB (off := 0) (v := .int .i64 a0.1) rfl rfl rfl rfl (Nat.le_of_ble_eq_true rfl) rfl (evd rfl rfl (ev_bin (c1 := .int .i64 (List.length e13 : Int)) (c2 := .int .i64 a0.1) rfl rfl rfl (evd rfl rfl (ev_mv (c := .bool ((List.length e13 : Int) != a0.1)) rfl rfl rfl (?_))))))))))))))
        rcases cond_some h with ⟨g15, h⟩ | ⟨g15, h⟩
        · refine evd rfl rfl (ev_gs rfl rfl (isb_T g15) (evd rfl rfl (ev_gs rfl rfl (isb_T g15) (evd rfl rfl (ev_gs rfl rfl (isb_T g15) (evd rfl rfl (ev_gs rfl rfl (isb_T g15) (evd rfl rfl (ev_gs rfl rfl (isb_T g15) (evd rfl rfl (ev_gs rfl rfl (isb_T g15) (evd rfl rfl (ev_gs rfl rfl (isb_T g15) (evd rfl rfl (ev_pkT (c1 := .bool true) rfl g15 rfl rfl (evd rfl rfl (ev_mv (c := .bool true) rfl rfl rfl (evd rfl rfl (ev_gs rfl rfl rfl (evd rfl rfl (ev_gs rfl rfl rfl (evd rfl rfl (ev_gs rfl rfl rfl (evd rfl rfl (ev_gs rfl rfl rfl (evd rfl rfl (ev_gs rfl rfl rfl (evd rfl rfl (ev_gs rfl rfl rfl (evd rfl rfl (ev_gs rfl rfl rfl (evd rfl rfl (ev_gs rfl rfl rfl (evd rfl rfl (ev_gs rfl rfl rfl (evd rfl rfl (ev_gs rfl rfl rfl (evd rfl rfl (ev_gs rfl rfl rfl (evd rfl rfl (ev_gs rfl rfl rfl (evd rfl rfl (ev_gs rfl rfl rfl (evd rfl rfl (ev_gs rfl rfl rfl (evd rfl rfl (ev_gs rfl rfl rfl (evd rfl rfl (ev_gs rfl rfl rfl (evd rfl rfl (ev_gs rfl rfl rfl (evd rfl rfl (ev_pkT (c1 := .bool true) rfl rfl rfl rfl (evdn ?_))))))))))))))))))))))))))))))))))))))))))))))))))))))
          exact kspec_IsValidRelation_J2 true h _ ⟨kr, kr, kr, trivial⟩
        · refine evd rfl rfl (ev_gr rfl (congrArg V.bool g15) (ev_fa (c1 := .cref 1 0) (v := .cref 1 1) rfl rfl rfl ⟨_, rfl⟩ rfl (evd rfl rfl (ev_gr rfl (congrArg V.bool g15) (ev_ldB (off := 1) (v := .dat a0.2.length (a0.2.flatMap c30_d)) rfl rfl rfl rfl (Nat.le_of_ble_eq_true rfl) rfl (evd rfl rfl (ev_gr rfl (congrArg V.bool g15) (ev_mv (c := .int .i64 y1) rfl rfl rfl (?_)))))))))
          obtain ⟨e16, g17, h⟩ := ob_some h
          refine evd rfl rfl (ev_gr rfl (congrArg V.bool g15) (ev_ia rfl rfl rfl ⟨(geti_some g17).1, (geti_some g17).2.1⟩ (evd rfl rfl (ev_gr rfl (congrArg V.bool g15) (ev_ldE (off := 0) (v := .dat e16.length (e16.flatMap ci64)) rfl rfl zc30_d g17 rfl (Nat.le_of_ble_eq_true rfl) rfl (?_))))))
          obtain ⟨v18, g19, h⟩ := ob_some h
          refine evd rfl rfl (ev_gr rfl (congrArg V.bool g15) (ev_call (era rfl (erD eci64 _) eran) (spec_AreValidValues_s g19) (evd rfl rfl (ev_gr rfl (congrArg V.bool g15) (ev_un (c1 := .bool v18) rfl trivial (evd rfl rfl (ev_pkF (c1 := .bool (!v18)) rfl g15 rfl rfl (evd rfl rfl (ev_mv (c := .bool (!v18)) rfl rfl rfl (?_))))))))))
          rcases cond_some h with ⟨g20, h⟩ | ⟨g20, h⟩
          · refine evd rfl rfl (ev_gs rfl rfl (isb_T g20) (evd rfl rfl (ev_gs rfl rfl (isb_T g20) (evd rfl rfl (ev_gs rfl rfl (isb_T g20) (evd rfl rfl (ev_gs rfl rfl rfl (evd rfl rfl (ev_gs rfl rfl rfl (evd rfl rfl (ev_gs rfl rfl rfl (evd rfl rfl (ev_gs rfl rfl rfl (evd rfl rfl (ev_gs rfl rfl rfl (evd rfl rfl (ev_gs rfl rfl rfl (evd rfl rfl (ev_gs rfl rfl rfl (evd rfl rfl (ev_gs rfl rfl rfl (evd rfl rfl (ev_gs rfl rfl rfl (evd rfl rfl (ev_gs rfl rfl rfl (evd rfl rfl (ev_gs rfl rfl rfl (evd rfl rfl (ev_gs rfl rfl rfl (evd rfl rfl (ev_gs rfl rfl rfl (evd rfl rfl (ev_gs rfl rfl (isb_T g20) (evd rfl rfl (ev_pkT (c1 := .bool true) rfl g20 rfl rfl (evdn ?_))))))))))))))))))))))))))))))))))))
            exact kspec_IsValidRelation_J2 true h _ ⟨kr, kr, kr, trivial⟩
          · refine evd rfl rfl (ev_gr rfl (congrArg V.bool g20) (ev_mv (c := .int .i64 y1) rfl rfl rfl (evd rfl rfl (ev_gr rfl (congrArg V.bool g20) (ev_bin (c1 := .int .i64 y1) (c2 := .int .i64 0) rfl rfl rfl (evd rfl rfl (ev_gr rfl (congrArg V.bool g20) (ev_mv (c := .bool (decide (0 < y1))) rfl rfl rfl (?_)))))))))
            rcases cond_some h with ⟨g21, h⟩ | ⟨g21, h⟩
            · refine evd rfl rfl (ev_gr rfl (congrArg V.bool g21) (ev_fa (c1 := .cref 1 0) (v := .cref 1 1) rfl rfl rfl ⟨_, rfl⟩ rfl (evd rfl rfl (ev_gr rfl (congrArg V.bool g21) (ev_ldB (off := 1) (v := .dat a0.2.length (a0.2.flatMap c30_d)) rfl rfl rfl rfl (Nat.le_of_ble_eq_true rfl) rfl (evd rfl rfl (ev_gr rfl (congrArg V.bool g21) (ev_mv (c := .int .i64 y1) rfl rfl rfl (evd rfl rfl (ev_gr rfl (congrArg V.bool g21) (ev_bin (c1 := .int .i64 y1) (c2 := .int .i64 1) rfl rfl rfl (?_))))))))))))
              obtain ⟨e22, g23, h⟩ := ob_some h
              refine evd rfl rfl (ev_gr rfl (congrArg V.bool g21) (ev_ia rfl rfl rfl ⟨(geti_some g23).1, (geti_some g23).2.1⟩ (evd rfl rfl (ev_gr rfl (congrArg V.bool g21) (ev_ldE (off := 0) (v := .dat e22.length (e22.flatMap ci64)) rfl rfl zc30_d g23 rfl (Nat.le_of_ble_eq_true rfl) rfl (evd rfl rfl (ev_gr rfl (congrArg V.bool g21) (ev_fa (c1 := .cref 1 0) (v := .cref 1 1) rfl rfl rfl ⟨_, rfl⟩ rfl (evd rfl rfl (ev_gr rfl (congrArg V.bool g21) (ev_ldB (off := 1) (v := .dat a0.2.length (a0.2.flatMap c30_d)) rfl rfl rfl rfl (Nat.le_of_ble_eq_true rfl) rfl (evd rfl rfl (ev_gr rfl (congrArg V.bool g21) (ev_mv (c := .int .i64 y1) rfl rfl rfl (?_)))))))))))))))
              obtain ⟨e24, g25, h⟩ := ob_some h
              refine evd rfl rfl (ev_gr rfl (congrArg V.bool g21) (ev_ia rfl rfl rfl ⟨(geti_some g25).1, (geti_some g25).2.1⟩ (evd rfl rfl (ev_gr rfl (congrArg V.bool g21) (ev_ldE (off := 0) (v := .dat e24.length (e24.flatMap ci64)) rfl rfl zc30_d g25 rfl (Nat.le_of_ble_eq_true rfl) rfl (?_))))))
              obtain ⟨v26, g27, h⟩ := ob_some h
              refine evd rfl rfl (ev_gr rfl (congrArg V.bool g21) (ev_call (era rfl (erD eci64 _) (era rfl (erD eci64 _) eran)) (spec_CompareRows_s g27) (evd rfl rfl (ev_gr rfl (congrArg V.bool g21) (ev_bin (c1 := .int .i64 v26) (c2 := .int .i64 0) rfl rfl rfl (evd rfl rfl (ev_gr rfl (congrArg V.bool g20) (ev_pkT (c1 := .bool (decide (0 ≤ v26))) rfl g21 rfl rfl (evd rfl rfl (ev_pkF (c1 := .bool (decide (0 ≤ v26))) rfl g20 rfl rfl (evdn ?_)))))))))))
              exact kspec_IsValidRelation_J2 (decide (0 ≤ v26)) h _ ⟨kr, kr, kr, trivial⟩
            · refine evd rfl rfl (ev_gs rfl rfl (isb_F g21) (evd rfl rfl (ev_gs rfl rfl (isb_F g21) (evd rfl rfl (ev_gs rfl rfl (isb_F g21) (evd rfl rfl (ev_gs rfl rfl (isb_F g21) (evd rfl rfl (ev_gs rfl rfl (isb_F g21) (evd rfl rfl (ev_gs rfl rfl (isb_F g21) (evd rfl rfl (ev_gs rfl rfl (isb_F g21) (evd rfl rfl (ev_gs rfl rfl (isb_F g21) (evd rfl rfl (ev_gs rfl rfl (isb_F g21) (evd rfl rfl (ev_gs rfl rfl (isb_F g21) (evd rfl rfl (ev_gs rfl rfl (isb_F g21) (evd rfl rfl (ev_gs rfl rfl (isb_F g21) (evd rfl rfl (ev_gs rfl rfl (isb_F g21) (evd rfl rfl (ev_gr rfl (congrArg V.bool g20) (ev_pkF (c1 := .bool false) rfl g21 rfl rfl (evd rfl rfl (ev_pkF (c1 := .bool false) rfl g20 rfl rfl (evdn ?_)))))))))))))))))))))))))))))))
              exact kspec_IsValidRelation_J2 false h _ ⟨kr, kr, kr, trivial⟩
      · refine ls_cF rfl g8 ?_
        refine ls_exit ?_
        have q0 := (Option.some.inj h).symm
        have r0 := hr1
        rw [q0] at r0
        exact kXspec_IsValidRelation_B1 () r0 _ trivial
def spec_ColumnDegrees_J3 (rec : (Int × Int) → Option (Int)) (y9 : Int) (x23 : Int) : Option (Int) := rec (x23, (IntKind.i64.wrap (y9 + 1)))
def spec_ColumnDegrees_B2 (a0 : Int × (List (List Int))) (a1 : Int) (y5 : Int) (rec : (Int × Int) → Option (Int)) (s : Int × Int) : Option (Int) := match s with
  | (y8, y9) => cond (decide (y9 < (List.length a0.2 : Int))) (obind (geti a0.2 y9) fun e19 => obind (geti e19 a1) fun e21 => cond (e21 == y5) (spec_ColumnDegrees_J3 rec y9 (IntKind.i64.wrap (y8 + 1))) (spec_ColumnDegrees_J3 rec y9 y8)) (some y8)
def spec_ColumnDegrees_J4 (rec : ((List Int) × (List Int) × Int) → Option ((List Int) × (List Int))) (y5 : Int) (x25 : List Int) (x26 : List Int) : Option ((List Int) × (List Int)) := rec (x25, x26, (IntKind.i64.wrap (y5 + 1)))
def spec_ColumnDegrees_B1 (a0 : Int × (List (List Int))) (a1 : Int) (rec : ((List Int) × (List Int) × Int) → Option ((List Int) × (List Int))) (s : (List Int) × (List Int) × Int) : Option ((List Int) × (List Int)) := match s with
  | (y3, y4, y5) => cond (decide (y5 ≤ 99)) (obind (loopF (spec_ColumnDegrees_B2 a0 a1 y5) fz (0, 0)) fun z15 => cond (decide (0 < z15)) (chk (List.length y3 + List.length [y5] ≤ lim) (chk (List.length y4 + List.length [z15] ≤ lim) (spec_ColumnDegrees_J4 rec y5 (y3 ++ [y5]) (y4 ++ [z15])))) (spec_ColumnDegrees_J4 rec y5 y3 y4)) (some (y3, y4))
def spec_ColumnDegrees (a0 : Int × (List (List Int))) (a1 : Int) : Option ((List Int) × (List Int)) := obind (spec_IsValidRelation a0) fun v2 => cond (!v2) (some (([] : List Int), ([] : List Int))) (obind (spec_l1In a1 0 (IntKind.i64.wrap (a0.1 - 1))) fun v5 => cond (!v5) (some (([] : List Int), ([] : List Int))) (obind (loopF (spec_ColumnDegrees_B1 a0 a1) fz (([] : List Int), ([] : List Int), 0)) fun o1 => (match o1 with
  | (z9, z10) => (some (z9, z10)))))
theorem spec_ColumnDegrees_s {a0 : Int × (List (List Int))} {a1 : Int} {r : (List Int) × (List Int)} (h : spec_ColumnDegrees a0 a1 = some r) : SoundAt Try.prog 100 [.agg [.int .i64 a0.1, .dat a0.2.length (a0.2.flatMap c30_d)], .int .i64 a1] (.tup [.own 3 r.1.length (r.1.flatMap ci64), .own 3 r.2.length (r.2.flatMap ci64)]) := by
  unfold spec_ColumnDegrees at h
  refine sound_lit tbOk lit100 (Nat.le_of_ble_eq_true rfl) rfl ?_
  unfold c100
  refine ls_keep [(0, .agg [.int .i64 a0.1, .dat a0.2.length (a0.2.flatMap c30_d)]), (1, .int .i64 a1)] ⟨kr, kr, trivial⟩ rfl ?_
  refine ls_rs tbOk ?_
  refine evs (ev_bx (c1 := .agg [.int .i64 a0.1, .dat a0.2.length (a0.2.flatMap c30_d)]) rfl rfl rfl (evs (ev_an rfl rfl (evs (ev_an rfl rfl (evn ?_))))))
  refine ls_keep [(1, .int .i64 a1), (2, .box [.int .i64 a0.1, .dat a0.2.length (a0.2.flatMap c30_d)])] ⟨kr, kr, trivial⟩ rfl ?_
  refine ls_rs tbOk ?_
  refine evs (ev_bs [] (cs := []) rfl trivial rfl (Nat.le_of_ble_eq_true rfl) rfl (evs (ev_as (c := .own 3 ([] : List Int).length (([] : List Int).flatMap ci64)) rfl rfl rfl (evn ?_))))
  refine ls_keep [(1, .int .i64 a1), (2, .box [.int .i64 a0.1, .dat a0.2.length (a0.2.flatMap c30_d)]), (6, .own 3 ([] : List Int).length (([] : List Int).flatMap ci64))] ⟨kr, kr, kr, trivial⟩ rfl ?_
  refine ls_rs tbOk ?_
  refine evs (ev_bs [] (cs := []) rfl trivial rfl (Nat.le_of_ble_eq_true rfl) rfl (evs (ev_as (c := .own 3 ([] : List Int).length (([] : List Int).flatMap ci64)) rfl rfl rfl (evn ?_))))
  refine ls_keep [(1, .int .i64 a1), (2, .box [.int .i64 a0.1, .dat a0.2.length (a0.2.flatMap c30_d)]), (6, .own 3 ([] : List Int).length (([] : List Int).flatMap ci64)), (7, .own 3 ([] : List Int).length (([] : List Int).flatMap ci64))] ⟨kr, kr, kr, kr, trivial⟩ rfl ?_
  refine ls_seq_k fun K1 hK1 => ?_
  refine ls_rs tbOk ?_
  refine evs (ev_ldB (off := 0) (v := .agg [.int .i64 a0.1, .dat a0.2.length (a0.2.flatMap c30_d)]) rfl rfl rfl rfl (Nat.le_of_ble_eq_true rfl) rfl (?_))
  obtain ⟨v2, g3, h⟩ := ob_some h
  refine evs (ev_call (era rfl (erg (erc rfl (erc (erD ec30_d _) rfl))) eran) (spec_IsValidRelation_s g3) (evs (ev_un (c1 := .bool v2) rfl trivial (evs (ev_mv (c := .bool (!v2)) rfl rfl rfl (?_))))))
  rcases cond_some h with ⟨g4, h⟩ | ⟨g4, h⟩
  · refine evs (ev_gs rfl rfl (isb_T g4) (evs (ev_gs rfl rfl (isb_T g4) (evs (ev_gs rfl rfl (isb_T g4) (evs (ev_gs rfl rfl (isb_T g4) (evs (ev_gs rfl rfl (isb_T g4) (evs (ev_gs rfl rfl (isb_T g4) (evs (ev_pkT (c1 := .bool true) rfl g4 rfl rfl (evn ?_))))))))))))))
    refine ls_keep [(1, .int .i64 a1), (2, .box [.int .i64 a0.1, .dat a0.2.length (a0.2.flatMap c30_d)]), (6, .own 3 ([] : List Int).length (([] : List Int).flatMap ci64)), (7, .own 3 ([] : List Int).length (([] : List Int).flatMap ci64)), (23, .bool true)] ⟨kr, kr, kr, kr, kr, trivial⟩ rfl ?_
    refine ls_cT rfl rfl ?_
    refine ls_rs tbOk ?_
    refine evs (ev_mvt (c := .own 3 ([] : List Int).length (([] : List Int).flatMap ci64)) rfl rfl rfl (evs (ev_mvt (c := .own 3 ([] : List Int).length (([] : List Int).flatMap ci64)) rfl rfl rfl (evs (ev_as (c := .own 3 ([] : List Int).length (([] : List Int).flatMap ci64)) rfl rfl rfl (evs (ev_as (c := .own 3 ([] : List Int).length (([] : List Int).flatMap ci64)) rfl rfl rfl (evn ?_))))))))
    refine ls_keep [(4, .own 3 ([] : List Int).length (([] : List Int).flatMap ci64)), (5, .own 3 ([] : List Int).length (([] : List Int).flatMap ci64))] ⟨kr, kr, trivial⟩ rfl ?_
    refine ls_ret ?_
    have hr := Option.some.inj h
    rw [← hr]
    exact ⟨.inl rfl, rfl⟩
  · refine evs (ev_gr rfl (congrArg V.bool g4) (ev_mv (c := .int .i64 a1) rfl rfl rfl (evs (ev_gr rfl (congrArg V.bool g4) (ev_fa (c1 := .cref 2 0) (v := .cref 2 0) rfl rfl rfl ⟨_, rfl⟩ rfl (evs (ev_gr rfl (congrArg V.bool g4) (ev_ldB (off := 0) (v := .int .i64 a0.1) rfl rfl rfl rfl (Nat.le_of_ble_eq_true rfl) rfl (evs (ev_gr rfl (congrArg V.bool g4) (ev_bin (c1 := .int .i64 a0.1) (c2 := .int .i64 1) rfl rfl rfl (?_))))))))))))
    obtain ⟨v5, g6, h⟩ := ob_some h
    refine evs (ev_gr rfl (congrArg V.bool g4) (ev_call (era rfl rfl (era rfl rfl (era rfl rfl eran))) (spec_l1In_s g6) (evs (ev_gr rfl (congrArg V.bool g4) (ev_un (c1 := .bool v5) rfl trivial (evs (ev_pkF (c1 := .bool (!v5)) rfl g4 rfl rfl (evn ?_))))))))
    refine ls_keep [(1, .int .i64 a1), (2, .box [.int .i64 a0.1, .dat a0.2.length (a0.2.flatMap c30_d)]), (6, .own 3 ([] : List Int).length (([] : List Int).flatMap ci64)), (7, .own 3 ([] : List Int).length (([] : List Int).flatMap ci64)), (23, .bool (!v5))] ⟨kr, kr, kr, kr, kr, trivial⟩ rfl ?_
    rcases cond_some h with ⟨g7, h⟩ | ⟨g7, h⟩
    · refine ls_cT rfl g7 ?_
      refine ls_rs tbOk ?_
      refine evs (ev_mvt (c := .own 3 ([] : List Int).length (([] : List Int).flatMap ci64)) rfl rfl rfl (evs (ev_mvt (c := .own 3 ([] : List Int).length (([] : List Int).flatMap ci64)) rfl rfl rfl (evs (ev_as (c := .own 3 ([] : List Int).length (([] : List Int).flatMap ci64)) rfl rfl rfl (evs (ev_as (c := .own 3 ([] : List Int).length (([] : List Int).flatMap ci64)) rfl rfl rfl (evn ?_))))))))
      refine ls_keep [(4, .own 3 ([] : List Int).length (([] : List Int).flatMap ci64)), (5, .own 3 ([] : List Int).length (([] : List Int).flatMap ci64))] ⟨kr, kr, trivial⟩ rfl ?_
      refine ls_ret ?_
      have hr := Option.some.inj h
      rw [← hr]
      exact ⟨.inl rfl, rfl⟩
    · refine ls_cF rfl g7 ?_
      refine ls_skip ?_
      refine hK1 _ (ls_keep [(1, .int .i64 a1), (2, .box [.int .i64 a0.1, .dat a0.2.length (a0.2.flatMap c30_d)]), (6, .own 3 ([] : List Int).length (([] : List Int).flatMap ci64)), (7, .own 3 ([] : List Int).length (([] : List Int).flatMap ci64))] ⟨kr, kr, kr, kr, trivial⟩ rfl ?_)
      refine ls_seq_k fun K8 hK8 => ?_
      refine ls_rs tbOk ?_
      refine evs (ev_ac rfl nofun rfl (evn ?_))
      refine ls_keep [(1, .int .i64 a1), (2, .box [.int .i64 a0.1, .dat a0.2.length (a0.2.flatMap c30_d)]), (6, .own 3 ([] : List Int).length (([] : List Int).flatMap ci64)), (7, .own 3 ([] : List Int).length (([] : List Int).flatMap ci64)), (8, .int .i64 0)] ⟨kr, kr, kr, kr, kr, trivial⟩ rfl ?_
      obtain ⟨o1, hl, hr1⟩ := ob_some h
      clear h
      have kXspec_ColumnDegrees_B1 : ∀ (z9 : List Int) (z10 : List Int), (some (z9, z10)) = some r → ∀ σ' : PS, okK σ' [(6, .own 3 z9.length (z9.flatMap ci64)), (7, .own 3 z10.length (z10.flatMap ci64))] → K8 σ' := by
        intro z9 z10 h σ' hk
        refine hK8 _ (ls_keep [(6, .own 3 z9.length (z9.flatMap ci64)), (7, .own 3 z10.length (z10.flatMap ci64))] hk rfl ?_)
        refine ls_rs tbOk ?_
        refine evs (ev_mvt (c := .own 3 z9.length (z9.flatMap ci64)) rfl rfl rfl (evs (ev_mvt (c := .own 3 z10.length (z10.flatMap ci64)) rfl rfl rfl (evs (ev_as (c := .own 3 z9.length (z9.flatMap ci64)) rfl rfl rfl (evs (ev_as (c := .own 3 z10.length (z10.flatMap ci64)) rfl rfl rfl (evn ?_))))))))
        refine ls_keep [(4, .own 3 z9.length (z9.flatMap ci64)), (5, .own 3 z10.length (z10.flatMap ci64))] ⟨kr, kr, trivial⟩ rfl ?_
        refine ls_ret ?_
        have hr := Option.some.inj h
        rw [← hr]
        exact ⟨.inl rfl, rfl⟩
      refine ls_rec (fun (s : (List Int) × (List Int) × Int) => match s with | (y3, y4, y5) => [(1, .int .i64 a1), (2, .box [.int .i64 a0.1, .dat a0.2.length (a0.2.flatMap c30_d)]), (6, .own 3 y3.length (y3.flatMap ci64)), (7, .own 3 y4.length (y4.flatMap ci64)), (8, .int .i64 y5)]) (spec_ColumnDegrees_B1 a0 a1) fz (([] : List Int), ([] : List Int), 0) o1 hl ⟨kr, kr, kr, kr, kr, trivial⟩ (fun _ => rfl) ?_
      rintro m ⟨y3, y4, y5⟩ N h hN
      unfold spec_ColumnDegrees_B1 at h
      dsimp only at h
      refine ls_seq_k fun K11 hK11 => ?_
      refine ls_rs tbOk ?_
      refine evs (ev_mv (c := .int .i64 y5) rfl rfl rfl (evs (ev_bin (c1 := .int .i64 y5) (c2 := .int .i64 99) rfl rfl rfl (evn ?_))))
      refine ls_keep [(1, .int .i64 a1), (2, .box [.int .i64 a0.1, .dat a0.2.length (a0.2.flatMap c30_d)]), (6, .own 3 y3.length (y3.flatMap ci64)), (7, .own 3 y4.length (y4.flatMap ci64)), (8, .int .i64 y5), (27, .bool (decide (y5 ≤ 99)))] ⟨kr, kr, kr, kr, kr, kr, trivial⟩ rfl ?_
      rcases cond_some h with ⟨g12, h⟩ | ⟨g12, h⟩
      · refine ls_cT rfl g12 ?_
        refine ls_skip ?_
        refine hK11 _ (ls_keep [(1, .int .i64 a1), (2, .box [.int .i64 a0.1, .dat a0.2.length (a0.2.flatMap c30_d)]), (6, .own 3 y3.length (y3.flatMap ci64)), (7, .own 3 y4.length (y4.flatMap ci64)), (8, .int .i64 y5)] ⟨kr, kr, kr, kr, kr, trivial⟩ rfl ?_)
        refine ls_seq_k fun K13 hK13 => ?_
        refine ls_blk ?_
        refine ls_rs tbOk ?_
        refine evs (ev_ac rfl nofun rfl (evn ?_))
        refine ls_keep [(1, .int .i64 a1), (2, .box [.int .i64 a0.1, .dat a0.2.length (a0.2.flatMap c30_d)]), (6, .own 3 y3.length (y3.flatMap ci64)), (7, .own 3 y4.length (y4.flatMap ci64)), (8, .int .i64 y5), (9, .int .i64 0)] ⟨kr, kr, kr, kr, kr, kr, trivial⟩ rfl ?_
        refine ls_seq_k fun K14 hK14 => ?_
        refine ls_rs tbOk ?_
        refine evs (ev_ac rfl nofun rfl (evn ?_))
        refine ls_keep [(1, .int .i64 a1), (2, .box [.int .i64 a0.1, .dat a0.2.length (a0.2.flatMap c30_d)]), (6, .own 3 y3.length (y3.flatMap ci64)), (7, .own 3 y4.length (y4.flatMap ci64)), (8, .int .i64 y5), (9, .int .i64 0), (10, .int .i64 0)] ⟨kr, kr, kr, kr, kr, kr, kr, trivial⟩ rfl ?_
        obtain ⟨o2, hl, hr2⟩ := ob_some h
        clear h
        have kXspec_ColumnDegrees_B2 : ∀ (z15 : Int), (cond (decide (0 < z15)) (chk (List.length y3 + List.length [y5] ≤ lim) (chk (List.length y4 + List.length [z15] ≤ lim) (spec_ColumnDegrees_J4 (loopF (spec_ColumnDegrees_B1 a0 a1) m) y5 (y3 ++ [y5]) (y4 ++ [z15])))) (spec_ColumnDegrees_J4 (loopF (spec_ColumnDegrees_B1 a0 a1) m) y5 y3 y4)) = some o1 → ∀ σ' : PS, okK σ' [(1, .int .i64 a1), (2, .box [.int .i64 a0.1, .dat a0.2.length (a0.2.flatMap c30_d)]), (6, .own 3 y3.length (y3.flatMap ci64)), (7, .own 3 y4.length (y4.flatMap ci64)), (8, .int .i64 y5), (9, .int .i64 z15)] → K14 σ' := by
          intro z15 h σ' hk
          refine hK14 _ (ls_keep [(1, .int .i64 a1), (2, .box [.int .i64 a0.1, .dat a0.2.length (a0.2.flatMap c30_d)]), (6, .own 3 y3.length (y3.flatMap ci64)), (7, .own 3 y4.length (y4.flatMap ci64)), (8, .int .i64 y5), (9, .int .i64 z15)] hk rfl ?_)
          refine ls_rs tbOk ?_
          refine evs (ev_mv (c := .int .i64 z15) rfl rfl rfl (evs (ev_bin (c1 := .int .i64 z15) (c2 := .int .i64 0) rfl rfl rfl (evn ?_))))
          refine ls_keep [(1, .int .i64 a1), (2, .box [.int .i64 a0.1, .dat a0.2.length (a0.2.flatMap c30_d)]), (6, .own 3 y3.length (y3.flatMap ci64)), (7, .own 3 y4.length (y4.flatMap ci64)), (8, .int .i64 y5), (9, .int .i64 z15), (50, .bool (decide (0 < z15)))] ⟨kr, kr, kr, kr, kr, kr, kr, trivial⟩ rfl ?_
          have kspec_ColumnDegrees_J4 : ∀ (x25 : List Int) (x26 : List Int), spec_ColumnDegrees_J4 (loopF (spec_ColumnDegrees_B1 a0 a1) m) y5 x25 x26 = some o1 → ∀ σ' : PS, okK σ' [(1, .int .i64 a1), (2, .box [.int .i64 a0.1, .dat a0.2.length (a0.2.flatMap c30_d)]), (6, .own 3 x25.length (x25.flatMap ci64)), (7, .own 3 x26.length (x26.flatMap ci64)), (8, .int .i64 y5)] → K13 σ' := by
            intro x25 x26 h σ' hk
            unfold spec_ColumnDegrees_J4 at h
            refine hK13 _ (ls_keep [(1, .int .i64 a1), (2, .box [.int .i64 a0.1, .dat a0.2.length (a0.2.flatMap c30_d)]), (6, .own 3 x25.length (x25.flatMap ci64)), (7, .own 3 x26.length (x26.flatMap ci64)), (8, .int .i64 y5)] hk rfl ?_)
            refine ls_rgn tbOk ?_
            refine evs (ev_mv (c := .int .i64 y5) rfl rfl rfl (evs (ev_bin (c1 := .int .i64 y5) (c2 := .int .i64 1) rfl rfl rfl (evs (ev_as (c := .int .i64 (IntKind.i64.wrap (y5 + 1))) rfl rfl rfl (evn ?_))))))
            exact hN _ (x25, x26, (IntKind.i64.wrap (y5 + 1))) h ⟨kr, kr, kr, kr, kr, trivial⟩
          rcases cond_some h with ⟨g27, h⟩ | ⟨g27, h⟩
          · refine ls_cT rfl g27 ?_
            refine ls_rs tbOk ?_
            refine evs (ev_mvt (c := .own 3 y3.length (y3.flatMap ci64)) rfl rfl rfl (evs (ev_mv (c := .int .i64 y5) rfl rfl rfl (evs (ev_bs [.int .i64 y5] (cs := [.int .i64 y5]) rfl ⟨rfl, trivial⟩ rfl (Nat.le_of_ble_eq_true rfl) rfl (?_))))))
            obtain ⟨g28, h⟩ := chk_some h
            refine evs (ev_app (f := ci64) (l := y3) (m := [y5]) (c2 := .own 3 [y5].length ([y5].flatMap ci64)) rfl rfl rfl (flat_len zci64 [y5]) rfl rfl g28 rfl (evs (ev_as (c := .own 3 (y3 ++ [y5]).length ((y3 ++ [y5]).flatMap ci64)) rfl rfl rfl (evn ?_))))
            refine ls_keep [(1, .int .i64 a1), (2, .box [.int .i64 a0.1, .dat a0.2.length (a0.2.flatMap c30_d)]), (6, .own 3 (y3 ++ [y5]).length ((y3 ++ [y5]).flatMap ci64)), (7, .own 3 y4.length (y4.flatMap ci64)), (8, .int .i64 y5), (9, .int .i64 z15)] ⟨kr, kr, kr, kr, kr, kr, trivial⟩ rfl ?_
            refine ls_rgn tbOk ?_
            refine evs (ev_mvt (c := .own 3 y4.length (y4.flatMap ci64)) rfl rfl rfl (evs (ev_mv (c := .int .i64 z15) rfl rfl rfl (evs (ev_bs [.int .i64 z15] (cs := [.int .i64 z15]) rfl ⟨rfl, trivial⟩ rfl (Nat.le_of_ble_eq_true rfl) rfl (?_))))))
            obtain ⟨g29, h⟩ := chk_some h
            refine evs (ev_app (f := ci64) (l := y4) (m := [z15]) (c2 := .own 3 [z15].length ([z15].flatMap ci64)) rfl rfl rfl (flat_len zci64 [z15]) rfl rfl g29 rfl (evs (ev_as (c := .own 3 (y4 ++ [z15]).length ((y4 ++ [z15]).flatMap ci64)) rfl rfl rfl (evn ?_))))
            exact kspec_ColumnDegrees_J4 (y3 ++ [y5]) (y4 ++ [z15]) h _ ⟨kr, kr, kr, kr, kr, trivial⟩
          · refine ls_cF rfl g27 ?_
            refine ls_skip ?_
            exact kspec_ColumnDegrees_J4 y3 y4 h _ ⟨kr, kr, kr, kr, kr, trivial⟩
        refine ls_rec (fun (s : Int × Int) => match s with | (y8, y9) => [(1, .int .i64 a1), (2, .box [.int .i64 a0.1, .dat a0.2.length (a0.2.flatMap c30_d)]), (6, .own 3 y3.length (y3.flatMap ci64)), (7, .own 3 y4.length (y4.flatMap ci64)), (8, .int .i64 y5), (9, .int .i64 y8), (10, .int .i64 y9)]) (spec_ColumnDegrees_B2 a0 a1 y5) fz (0, 0) o2 hl ⟨kr, kr, kr, kr, kr, kr, kr, trivial⟩ (fun _ => rfl) ?_
        rintro m ⟨y8, y9⟩ N h hN
        unfold spec_ColumnDegrees_B2 at h
        dsimp only at h
        refine ls_seq_k fun K16 hK16 => ?_
        refine ls_rs tbOk ?_
        refine evs (ev_mv (c := .int .i64 y9) rfl rfl rfl (evs (ev_fa (c1 := .cref 2 0) (v := .cref 2 1) rfl rfl rfl ⟨_, rfl⟩ rfl (evs (ev_ldB (off := 1) (v := .dat a0.2.length (a0.2.flatMap c30_d)) rfl rfl rfl rfl (Nat.le_of_ble_eq_true rfl) rfl (evs (ev_len (c1 := .dat a0.2.length (a0.2.flatMap c30_d)) rfl rfl rfl (evs (ev_bin (c1 := .int .i64 y9) (c2 := .int .i64 (List.length a0.2 : Int)) rfl rfl rfl (evn ?_))))))))))
        refine ls_keep [(1, .int .i64 a1), (2, .box [.int .i64 a0.1, .dat a0.2.length (a0.2.flatMap c30_d)]), (6, .own 3 y3.length (y3.flatMap ci64)), (7, .own 3 y4.length (y4.flatMap ci64)), (8, .int .i64 y5), (9, .int .i64 y8), (10, .int .i64 y9), (34, .bool (decide (y9 < (List.length a0.2 : Int))))] ⟨kr, kr, kr, kr, kr, kr, kr, kr, trivial⟩ rfl ?_
        rcases cond_some h with ⟨g17, h⟩ | ⟨g17, h⟩
        · refine ls_cT rfl g17 ?_
          refine ls_skip ?_
          refine hK16 _ (ls_keep [(1, .int .i64 a1), (2, .box [.int .i64 a0.1, .dat a0.2.length (a0.2.flatMap c30_d)]), (6, .own 3 y3.length (y3.flatMap ci64)), (7, .own 3 y4.length (y4.flatMap ci64)), (8, .int .i64 y5), (9, .int .i64 y8), (10, .int .i64 y9)] ⟨kr, kr, kr, kr, kr, kr, kr, trivial⟩ rfl ?_)
          refine ls_seq_k fun K18 hK18 => ?_
          refine ls_blk ?_
          refine ls_rs tbOk ?_
          refine evs (ev_fa (c1 := .cref 2 0) (v := .cref 2 1) rfl rfl rfl ⟨_, rfl⟩ rfl (evs (ev_ldB (off := 1) (v := .dat a0.2.length (a0.2.flatMap c30_d)) rfl rfl rfl rfl (Nat.le_of_ble_eq_true rfl) rfl (evs (ev_mv (c := .int .i64 y9) rfl rfl rfl (?_))))))
          obtain ⟨e19, g20, h⟩ := ob_some h
          refine evs (ev_ia rfl rfl rfl ⟨(geti_some g20).1, (geti_some g20).2.1⟩ (evs (ev_ldE (off := 0) (v := .dat e19.length (e19.flatMap ci64)) rfl rfl zc30_d g20 rfl (Nat.le_of_ble_eq_true rfl) rfl (evs (ev_mv (c := .int .i64 a1) rfl rfl rfl (?_))))))
          obtain ⟨e21, g22, h⟩ := ob_some h
          refine evs (ev_ia rfl rfl rfl ⟨(geti_some g22).1, (geti_some g22).2.1⟩ (evs (ev_ldE (off := 0) (v := .int .i64 e21) rfl rfl zci64 g22 rfl (Nat.le_of_ble_eq_true rfl) rfl (evs (ev_mv (c := .int .i64 y5) rfl rfl rfl (evs (ev_bin (c1 := .int .i64 e21) (c2 := .int .i64 y5) rfl rfl rfl (evn ?_))))))))
          refine ls_keep [(1, .int .i64 a1), (2, .box [.int .i64 a0.1, .dat a0.2.length (a0.2.flatMap c30_d)]), (6, .own 3 y3.length (y3.flatMap ci64)), (7, .own 3 y4.length (y4.flatMap ci64)), (8, .int .i64 y5), (9, .int .i64 y8), (10, .int .i64 y9), (46, .bool (e21 == y5))] ⟨kr, kr, kr, kr, kr, kr, kr, kr, trivial⟩ rfl ?_
          have kspec_ColumnDegrees_J3 : ∀ (x23 : Int), spec_ColumnDegrees_J3 (loopF (spec_ColumnDegrees_B2 a0 a1 y5) m) y9 x23 = some o2 → ∀ σ' : PS, okK σ' [(1, .int .i64 a1), (2, .box [.int .i64 a0.1, .dat a0.2.length (a0.2.flatMap c30_d)]), (6, .own 3 y3.length (y3.flatMap ci64)), (7, .own 3 y4.length (y4.flatMap ci64)), (8, .int .i64 y5), (9, .int .i64 x23), (10, .int .i64 y9)] → K18 σ' := by
            intro x23 h σ' hk
            unfold spec_ColumnDegrees_J3 at h
            refine hK18 _ (ls_keep [(1, .int .i64 a1), (2, .box [.int .i64 a0.1, .dat a0.2.length (a0.2.flatMap c30_d)]), (6, .own 3 y3.length (y3.flatMap ci64)), (7, .own 3 y4.length (y4.flatMap ci64)), (8, .int .i64 y5), (9, .int .i64 x23), (10, .int .i64 y9)] hk rfl ?_)
            refine ls_rgn tbOk ?_
            refine evs (ev_mv (c := .int .i64 y9) rfl rfl rfl (evs (ev_bin (c1 := .int .i64 y9) (c2 := .int .i64 1) rfl rfl rfl (evs (ev_as (c := .int .i64 (IntKind.i64.wrap (y9 + 1))) rfl rfl rfl (evn ?_))))))
            exact hN _ (x23, (IntKind.i64.wrap (y9 + 1))) h ⟨kr, kr, kr, kr, kr, kr, kr, trivial⟩
          rcases cond_some h with ⟨g24, h⟩ | ⟨g24, h⟩
          · refine ls_cT rfl g24 ?_
            refine ls_rgn tbOk ?_
            refine evs (ev_mv (c := .int .i64 y8) rfl rfl rfl (evs (ev_bin (c1 := .int .i64 y8) (c2 := .int .i64 1) rfl rfl rfl (evs (ev_as (c := .int .i64 (IntKind.i64.wrap (y8 + 1))) rfl rfl rfl (evn ?_))))))
            exact kspec_ColumnDegrees_J3 (IntKind.i64.wrap (y8 + 1)) h _ ⟨kr, kr, kr, kr, kr, kr, kr, trivial⟩
          · refine ls_cF rfl g24 ?_
            refine ls_skip ?_
            exact kspec_ColumnDegrees_J3 y8 h _ ⟨kr, kr, kr, kr, kr, kr, kr, trivial⟩
        · refine ls_cF rfl g17 ?_
          refine ls_exit ?_
          have q0 := (Option.some.inj h).symm
          have r0 := hr2
          rw [q0] at r0
          exact kXspec_ColumnDegrees_B2 y8 r0 _ ⟨kr, kr, kr, kr, kr, kr, trivial⟩
      · refine ls_cF rfl g12 ?_
        refine ls_exit ?_
        have q0 := (Option.some.inj h).symm
        have r0 := hr1
        rw [q0] at r0
        exact kXspec_ColumnDegrees_B1 y3 y4 r0 _ ⟨kr, kr, trivial⟩
def spec_l7Find_B1 (a0 : List Int) (a1 : Int) (rec : Int → Option (Sum (Unit) (Int))) (y1 : Int) : Option (Sum (Unit) (Int)) := cond (decide (y1 < (List.length a0 : Int))) (obind (geti a0 y1) fun e5 => cond (e5 == a1) (some (.inr y1)) (rec (IntKind.i64.wrap (y1 + 1)))) (some (.inl ()))
def spec_l7Find (a0 : List Int) (a1 : Int) : Option (Int) := obind (loopF (spec_l7Find_B1 a0 a1) fz 0) fun o1 => (match o1 with
  | .inl _ => (some (-1))
  | .inr r => some r)
theorem spec_l7Find_s {a0 : List Int} {a1 : Int} {r : Int} (h : spec_l7Find a0 a1 = some r) : SoundAt Try.prog 101 [.dat a0.length (a0.flatMap ci64), .int .i64 a1] (.int .i64 r) := by
  unfold spec_l7Find at h
  refine sound_lit tbOk lit101 (Nat.le_of_ble_eq_true rfl) rfl ?_
  unfold c101
  refine ls_keep [(0, .dat a0.length (a0.flatMap ci64)), (1, .int .i64 a1)] ⟨kr, kr, trivial⟩ rfl ?_
  refine ls_rs tbOk ?_
  refine evs (ev_ac rfl nofun rfl (evn ?_))
  refine ls_keep [(0, .dat a0.length (a0.flatMap ci64)), (1, .int .i64 a1)] ⟨kr, kr, trivial⟩ rfl ?_
  refine ls_seq_k fun K1 hK1 => ?_
  refine ls_rs tbOk ?_
  refine evs (ev_ac rfl nofun rfl (evn ?_))
  refine ls_keep [(0, .dat a0.length (a0.flatMap ci64)), (1, .int .i64 a1), (5, .int .i64 0)] ⟨kr, kr, kr, trivial⟩ rfl ?_
  obtain ⟨o1, hl, hr1⟩ := ob_some h
  clear h
  have kXspec_l7Find_B1 : ∀ (_ : Unit), (some (-1)) = some r → ∀ σ' : PS, okK σ' [] → K1 σ' := by
    intro _ h σ' hk
    refine hK1 _ (ls_keep [] hk rfl ?_)
    refine ls_rs tbOk ?_
    refine evs (ev_ac rfl nofun rfl (evn ?_))
    refine ls_keep [(4, .int .i64 (-1))] ⟨kr, trivial⟩ rfl ?_
    refine ls_ret ?_
    have hr := Option.some.inj h
    rw [← hr]
    exact ⟨.inl rfl, rfl⟩
  refine ls_rec (fun (y1 : Int) => [(0, .dat a0.length (a0.flatMap ci64)), (1, .int .i64 a1), (5, .int .i64 y1)]) (spec_l7Find_B1 a0 a1) fz 0 o1 hl ⟨kr, kr, kr, trivial⟩ (fun _ => rfl) ?_
  rintro m y1 N h hN
  unfold spec_l7Find_B1 at h
  refine ls_seq_k fun K2 hK2 => ?_
  refine ls_rs tbOk ?_
  refine evs (ev_mv (c := .int .i64 y1) rfl rfl rfl (evs (ev_mv (c := .dat a0.length (a0.flatMap ci64)) rfl rfl rfl (evs (ev_len (c1 := .dat a0.length (a0.flatMap ci64)) rfl rfl rfl (evs (ev_bin (c1 := .int .i64 y1) (c2 := .int .i64 (List.length a0 : Int)) rfl rfl rfl (evn ?_))))))))
  refine ls_keep [(0, .dat a0.length (a0.flatMap ci64)), (1, .int .i64 a1), (5, .int .i64 y1), (9, .bool (decide (y1 < (List.length a0 : Int))))] ⟨kr, kr, kr, kr, trivial⟩ rfl ?_
  rcases cond_some h with ⟨g3, h⟩ | ⟨g3, h⟩
  · refine ls_cT rfl g3 ?_
    refine ls_skip ?_
    refine hK2 _ (ls_keep [(0, .dat a0.length (a0.flatMap ci64)), (1, .int .i64 a1), (5, .int .i64 y1)] ⟨kr, kr, kr, trivial⟩ rfl ?_)
    refine ls_seq_k fun K4 hK4 => ?_
    refine ls_blk ?_
    refine ls_rs tbOk ?_
    refine evs (ev_mv (c := .dat a0.length (a0.flatMap ci64)) rfl rfl rfl (evs (ev_mv (c := .int .i64 y1) rfl rfl rfl (?_))))
    obtain ⟨e5, g6, h⟩ := ob_some h
    refine evs (ev_ia rfl rfl rfl ⟨(geti_some g6).1, (geti_some g6).2.1⟩ (evs (ev_ldE (off := 0) (v := .int .i64 e5) rfl rfl zci64 g6 rfl (Nat.le_of_ble_eq_true rfl) rfl (evs (ev_mv (c := .int .i64 a1) rfl rfl rfl (evs (ev_bin (c1 := .int .i64 e5) (c2 := .int .i64 a1) rfl rfl rfl (evn ?_))))))))
    refine ls_keep [(0, .dat a0.length (a0.flatMap ci64)), (1, .int .i64 a1), (5, .int .i64 y1), (17, .bool (e5 == a1))] ⟨kr, kr, kr, kr, trivial⟩ rfl ?_
    rcases cond_some h with ⟨g7, h⟩ | ⟨g7, h⟩
    · refine ls_cT rfl g7 ?_
      refine ls_rs tbOk ?_
      refine evs (ev_mv (c := .int .i64 y1) rfl rfl rfl (evs (ev_as (c := .int .i64 y1) rfl rfl rfl (evn ?_))))
      refine ls_keep [(4, .int .i64 y1)] ⟨kr, trivial⟩ rfl ?_
      refine ls_ret ?_
      have q0 := (Option.some.inj h).symm
      have r0 := hr1
      rw [q0] at r0
      have hr := Option.some.inj r0
      rw [← hr]
      exact ⟨.inl rfl, rfl⟩
    · refine ls_cF rfl g7 ?_
      refine ls_skip ?_
      refine hK4 _ (ls_keep [(0, .dat a0.length (a0.flatMap ci64)), (1, .int .i64 a1), (5, .int .i64 y1)] ⟨kr, kr, kr, trivial⟩ rfl ?_)
      refine ls_rgn tbOk ?_
      refine evs (ev_mv (c := .int .i64 y1) rfl rfl rfl (evs (ev_bin (c1 := .int .i64 y1) (c2 := .int .i64 1) rfl rfl rfl (evs (ev_as (c := .int .i64 (IntKind.i64.wrap (y1 + 1))) rfl rfl rfl (evn ?_))))))
      exact hN _ (IntKind.i64.wrap (y1 + 1)) h ⟨kr, kr, kr, trivial⟩
  · refine ls_cF rfl g3 ?_
    refine ls_exit ?_
    have q0 := (Option.some.inj h).symm
    have r0 := hr1
    rw [q0] at r0
    exact kXspec_l7Find_B1 () r0 _ trivial
def spec_SplitHeavy_J2 (rec : ((List (List Int)) × (List (List Int)) × Int) → Option ((List (List Int)) × (List (List Int)))) (y3 : Int) (x25 : List (List Int)) (x26 : List (List Int)) : Option ((List (List Int)) × (List (List Int))) := rec (x25, x26, (IntKind.i64.wrap (y3 + 1)))
def spec_SplitHeavy_B1 (a0 : Int × (List (List Int))) (a1 : Int) (a2 : Int) (v8 : (List Int) × (List Int)) (rec : ((List (List Int)) × (List (List Int)) × Int) → Option ((List (List Int)) × (List (List Int)))) (s : (List (List Int)) × (List (List Int)) × Int) : Option ((List (List Int)) × (List (List Int))) := match s with
  | (y1, y2, y3) => cond (decide (y3 < (List.length a0.2 : Int))) (obind (geti a0.2 y3) fun e16 => chk (List.length ([] : List Int) + List.length e16 ≤ lim) (obind (geti (([] : List Int) ++ e16) a1) fun e19 => obind (spec_l7Find v8.1 e19) fun v21 => obind (geti v8.2 v21) fun e23 => cond (decide (a2 ≤ e23)) (chk (List.length y1 + List.length ([([] : List Int) ++ e16]) ≤ lim) (spec_SplitHeavy_J2 rec y3 (y1 ++ ([([] : List Int) ++ e16])) y2)) (chk (List.length y2 + List.length ([([] : List Int) ++ e16]) ≤ lim) (spec_SplitHeavy_J2 rec y3 y1 (y2 ++ ([([] : List Int) ++ e16])))))) (some (y1, y2))
def spec_SplitHeavy (a0 : Int × (List (List Int))) (a1 : Int) (a2 : Int) : Option ((Int × (List (List Int))) × (Int × (List (List Int))) × Bool) := obind (spec_IsValidRelation a0) fun v2 => cond (!v2) (some ((0, []), (0, []), false)) (obind (spec_l1In a1 0 (IntKind.i64.wrap (a0.1 - 1))) fun v5 => cond (!v5) (some ((0, []), (0, []), false)) (obind (spec_ColumnDegrees a0 a1) fun v8 => obind (loopF (spec_SplitHeavy_B1 a0 a1 a2 v8) fz (([] : List (List Int)), ([] : List (List Int)), 0)) fun o1 => (match o1 with
  | (z11, z12) => (some ((a0.1, z11), (a0.1, z12), true)))))
theorem spec_SplitHeavy_s {a0 : Int × (List (List Int))} {a1 : Int} {a2 : Int} {r : (Int × (List (List Int))) × (Int × (List (List Int))) × Bool} (h : spec_SplitHeavy a0 a1 a2 = some r) : SoundAt Try.prog 26 [.agg [.int .i64 a0.1, .dat a0.2.length (a0.2.flatMap c30_d)], .int .i64 a1, .int .i64 a2] (.tup [.agg [.int .i64 r.1.1, .own 30 r.1.2.length (r.1.2.flatMap c30_o)], .agg [.int .i64 r.2.1.1, .own 30 r.2.1.2.length (r.2.1.2.flatMap c30_o)], .bool r.2.2]) := by
  unfold spec_SplitHeavy at h
  refine sound_lit tbOk lit26 (Nat.le_of_ble_eq_true rfl) rfl ?_
  unfold c26
  refine ls_keep [(0, .agg [.int .i64 a0.1, .dat a0.2.length (a0.2.flatMap c30_d)]), (1, .int .i64 a1), (2, .int .i64 a2)] ⟨kr, kr, kr, trivial⟩ rfl ?_
  refine ls_rs tbOk ?_
  refine evs (ev_bx (c1 := .agg [.int .i64 a0.1, .dat a0.2.length (a0.2.flatMap c30_d)]) rfl rfl rfl (evs (ev_al rfl rfl (evs (ev_al rfl rfl (evs (ev_ac rfl nofun rfl (evn ?_))))))))
  refine ls_keep [(1, .int .i64 a1), (2, .int .i64 a2), (3, .box [.int .i64 a0.1, .dat a0.2.length (a0.2.flatMap c30_d)]), (6, .box [.int .i64 0, .own 30 ([] : List (List Int)).length (([] : List (List Int)).flatMap c30_o)]), (7, .box [.int .i64 0, .own 30 ([] : List (List Int)).length (([] : List (List Int)).flatMap c30_o)])] ⟨kr, kr, kr, kr, kr, trivial⟩ rfl ?_
  refine ls_seq_k fun K1 hK1 => ?_
  refine ls_rs tbOk ?_
  refine evs (ev_ldB (off := 0) (v := .agg [.int .i64 a0.1, .dat a0.2.length (a0.2.flatMap c30_d)]) rfl rfl rfl rfl (Nat.le_of_ble_eq_true rfl) rfl (?_))
  obtain ⟨v2, g3, h⟩ := ob_some h
  refine evs (ev_call (era rfl (erg (erc rfl (erc (erD ec30_d _) rfl))) eran) (spec_IsValidRelation_s g3) (evs (ev_un (c1 := .bool v2) rfl trivial (evs (ev_mv (c := .bool (!v2)) rfl rfl rfl (?_))))))
  rcases cond_some h with ⟨g4, h⟩ | ⟨g4, h⟩
  · refine evs (ev_gs rfl rfl (isb_T g4) (evs (ev_gs rfl rfl (isb_T g4) (evs (ev_gs rfl rfl (isb_T g4) (evs (ev_gs rfl rfl (isb_T g4) (evs (ev_gs rfl rfl (isb_T g4) (evs (ev_gs rfl rfl (isb_T g4) (evs (ev_pkT (c1 := .bool true) rfl g4 rfl rfl (evn ?_))))))))))))))
    refine ls_keep [(1, .int .i64 a1), (2, .int .i64 a2), (3, .box [.int .i64 a0.1, .dat a0.2.length (a0.2.flatMap c30_d)]), (6, .box [.int .i64 0, .own 30 ([] : List (List Int)).length (([] : List (List Int)).flatMap c30_o)]), (7, .box [.int .i64 0, .own 30 ([] : List (List Int)).length (([] : List (List Int)).flatMap c30_o)]), (25, .bool true)] ⟨kr, kr, kr, kr, kr, kr, trivial⟩ rfl ?_
    refine ls_cT rfl rfl ?_
    refine ls_rs tbOk ?_
    refine evs (ev_bd [] (cs := [.int .i64 0, .own 30 ([] : List (List Int)).length (([] : List (List Int)).flatMap c30_o)]) rfl trivial rfl (evs (ev_bd [] (cs := [.int .i64 0, .own 30 ([] : List (List Int)).length (([] : List (List Int)).flatMap c30_o)]) rfl trivial rfl (evs (ev_st (off := 0) (c1 := .agg [.int .i64 0, .own 30 ([] : List (List Int)).length (([] : List (List Int)).flatMap c30_o)]) (cs' := [.int .i64 0, .own 30 ([] : List (List Int)).length (([] : List (List Int)).flatMap c30_o)]) rfl rfl rfl rfl rfl rfl (Nat.le_of_ble_eq_true rfl) rfl (evs (ev_st (off := 0) (c1 := .agg [.int .i64 0, .own 30 ([] : List (List Int)).length (([] : List (List Int)).flatMap c30_o)]) (cs' := [.int .i64 0, .own 30 ([] : List (List Int)).length (([] : List (List Int)).flatMap c30_o)]) rfl rfl rfl rfl rfl rfl (Nat.le_of_ble_eq_true rfl) rfl (evs (ev_ac rfl nofun rfl (evn ?_))))))))))
    refine ls_keep [(6, .box [.int .i64 0, .own 30 ([] : List (List Int)).length (([] : List (List Int)).flatMap c30_o)]), (7, .box [.int .i64 0, .own 30 ([] : List (List Int)).length (([] : List (List Int)).flatMap c30_o)]), (8, .bool false)] ⟨kr, kr, kr, trivial⟩ rfl ?_
    refine ls_ret ?_
    have hr := Option.some.inj h
    rw [← hr]
    exact ⟨.inl rfl, rfl⟩
  · refine evs (ev_gr rfl (congrArg V.bool g4) (ev_mv (c := .int .i64 a1) rfl rfl rfl (evs (ev_gr rfl (congrArg V.bool g4) (ev_fa (c1 := .cref 3 0) (v := .cref 3 0) rfl rfl rfl ⟨_, rfl⟩ rfl (evs (ev_gr rfl (congrArg V.bool g4) (ev_ldB (off := 0) (v := .int .i64 a0.1) rfl rfl rfl rfl (Nat.le_of_ble_eq_true rfl) rfl (evs (ev_gr rfl (congrArg V.bool g4) (ev_bin (c1 := .int .i64 a0.1) (c2 := .int .i64 1) rfl rfl rfl (?_))))))))))))
    obtain ⟨v5, g6, h⟩ := ob_some h
    refine evs (ev_gr rfl (congrArg V.bool g4) (ev_call (era rfl rfl (era rfl rfl (era rfl rfl eran))) (spec_l1In_s g6) (evs (ev_gr rfl (congrArg V.bool g4) (ev_un (c1 := .bool v5) rfl trivial (evs (ev_pkF (c1 := .bool (!v5)) rfl g4 rfl rfl (evn ?_))))))))
    refine ls_keep [(1, .int .i64 a1), (2, .int .i64 a2), (3, .box [.int .i64 a0.1, .dat a0.2.length (a0.2.flatMap c30_d)]), (6, .box [.int .i64 0, .own 30 ([] : List (List Int)).length (([] : List (List Int)).flatMap c30_o)]), (7, .box [.int .i64 0, .own 30 ([] : List (List Int)).length (([] : List (List Int)).flatMap c30_o)]), (25, .bool (!v5))] ⟨kr, kr, kr, kr, kr, kr, trivial⟩ rfl ?_
    rcases cond_some h with ⟨g7, h⟩ | ⟨g7, h⟩
    · refine ls_cT rfl g7 ?_
      refine ls_rs tbOk ?_
      refine evs (ev_bd [] (cs := [.int .i64 0, .own 30 ([] : List (List Int)).length (([] : List (List Int)).flatMap c30_o)]) rfl trivial rfl (evs (ev_bd [] (cs := [.int .i64 0, .own 30 ([] : List (List Int)).length (([] : List (List Int)).flatMap c30_o)]) rfl trivial rfl (evs (ev_st (off := 0) (c1 := .agg [.int .i64 0, .own 30 ([] : List (List Int)).length (([] : List (List Int)).flatMap c30_o)]) (cs' := [.int .i64 0, .own 30 ([] : List (List Int)).length (([] : List (List Int)).flatMap c30_o)]) rfl rfl rfl rfl rfl rfl (Nat.le_of_ble_eq_true rfl) rfl (evs (ev_st (off := 0) (c1 := .agg [.int .i64 0, .own 30 ([] : List (List Int)).length (([] : List (List Int)).flatMap c30_o)]) (cs' := [.int .i64 0, .own 30 ([] : List (List Int)).length (([] : List (List Int)).flatMap c30_o)]) rfl rfl rfl rfl rfl rfl (Nat.le_of_ble_eq_true rfl) rfl (evs (ev_ac rfl nofun rfl (evn ?_))))))))))
      refine ls_keep [(6, .box [.int .i64 0, .own 30 ([] : List (List Int)).length (([] : List (List Int)).flatMap c30_o)]), (7, .box [.int .i64 0, .own 30 ([] : List (List Int)).length (([] : List (List Int)).flatMap c30_o)]), (8, .bool false)] ⟨kr, kr, kr, trivial⟩ rfl ?_
      refine ls_ret ?_
      have hr := Option.some.inj h
      rw [← hr]
      exact ⟨.inl rfl, rfl⟩
    · refine ls_cF rfl g7 ?_
      refine ls_skip ?_
      refine hK1 _ (ls_keep [(1, .int .i64 a1), (2, .int .i64 a2), (3, .box [.int .i64 a0.1, .dat a0.2.length (a0.2.flatMap c30_d)]), (6, .box [.int .i64 0, .own 30 ([] : List (List Int)).length (([] : List (List Int)).flatMap c30_o)]), (7, .box [.int .i64 0, .own 30 ([] : List (List Int)).length (([] : List (List Int)).flatMap c30_o)])] ⟨kr, kr, kr, kr, kr, trivial⟩ rfl ?_)
      refine ls_rs tbOk ?_
      refine evs (ev_fa (c1 := .cref 3 0) (v := .cref 3 0) rfl rfl rfl ⟨_, rfl⟩ rfl (evs (ev_ldB (off := 0) (v := .int .i64 a0.1) rfl rfl rfl rfl (Nat.le_of_ble_eq_true rfl) rfl (evs (ev_bd [.int .i64 a0.1] (cs := [.int .i64 a0.1, .own 30 ([] : List (List Int)).length (([] : List (List Int)).flatMap c30_o)]) rfl ⟨rfl, trivial⟩ rfl (evs (ev_al rfl rfl (evs (ev_st (off := 0) (c1 := .agg [.int .i64 a0.1, .own 30 ([] : List (List Int)).length (([] : List (List Int)).flatMap c30_o)]) (cs' := [.int .i64 a0.1, .own 30 ([] : List (List Int)).length (([] : List (List Int)).flatMap c30_o)]) rfl rfl rfl rfl rfl rfl (Nat.le_of_ble_eq_true rfl) rfl (evn ?_))))))))))
      refine ls_keep [(1, .int .i64 a1), (2, .int .i64 a2), (3, .box [.int .i64 a0.1, .dat a0.2.length (a0.2.flatMap c30_d)]), (6, .box [.int .i64 0, .own 30 ([] : List (List Int)).length (([] : List (List Int)).flatMap c30_o)]), (7, .box [.int .i64 0, .own 30 ([] : List (List Int)).length (([] : List (List Int)).flatMap c30_o)]), (9, .box [.int .i64 a0.1, .own 30 ([] : List (List Int)).length (([] : List (List Int)).flatMap c30_o)])] ⟨kr, kr, kr, kr, kr, kr, trivial⟩ rfl ?_
      refine ls_rs tbOk ?_
      refine evs (ev_fa (c1 := .cref 3 0) (v := .cref 3 0) rfl rfl rfl ⟨_, rfl⟩ rfl (evs (ev_ldB (off := 0) (v := .int .i64 a0.1) rfl rfl rfl rfl (Nat.le_of_ble_eq_true rfl) rfl (evs (ev_bd [.int .i64 a0.1] (cs := [.int .i64 a0.1, .own 30 ([] : List (List Int)).length (([] : List (List Int)).flatMap c30_o)]) rfl ⟨rfl, trivial⟩ rfl (evs (ev_al rfl rfl (evs (ev_st (off := 0) (c1 := .agg [.int .i64 a0.1, .own 30 ([] : List (List Int)).length (([] : List (List Int)).flatMap c30_o)]) (cs' := [.int .i64 a0.1, .own 30 ([] : List (List Int)).length (([] : List (List Int)).flatMap c30_o)]) rfl rfl rfl rfl rfl rfl (Nat.le_of_ble_eq_true rfl) rfl (evn ?_))))))))))
      refine ls_keep [(1, .int .i64 a1), (2, .int .i64 a2), (3, .box [.int .i64 a0.1, .dat a0.2.length (a0.2.flatMap c30_d)]), (6, .box [.int .i64 0, .own 30 ([] : List (List Int)).length (([] : List (List Int)).flatMap c30_o)]), (7, .box [.int .i64 0, .own 30 ([] : List (List Int)).length (([] : List (List Int)).flatMap c30_o)]), (9, .box [.int .i64 a0.1, .own 30 ([] : List (List Int)).length (([] : List (List Int)).flatMap c30_o)]), (10, .box [.int .i64 a0.1, .own 30 ([] : List (List Int)).length (([] : List (List Int)).flatMap c30_o)])] ⟨kr, kr, kr, kr, kr, kr, kr, trivial⟩ rfl ?_
      refine ls_rs tbOk ?_
      refine evs (ev_ldB (off := 0) (v := .agg [.int .i64 a0.1, .dat a0.2.length (a0.2.flatMap c30_d)]) rfl rfl rfl rfl (Nat.le_of_ble_eq_true rfl) rfl (evs (ev_mv (c := .int .i64 a1) rfl rfl rfl (?_))))
      obtain ⟨v8, g9, h⟩ := ob_some h
      refine evs (ev_call (era rfl (erg (erc rfl (erc (erD ec30_d _) rfl))) (era rfl rfl eran)) (spec_ColumnDegrees_s g9) (evs (ev_mvt (c := .tup [.own 3 v8.1.length (v8.1.flatMap ci64), .own 3 v8.2.length (v8.2.flatMap ci64)]) rfl rfl rfl (evs (ev_ext rfl rfl rfl rfl (evs (ev_ext rfl rfl rfl rfl (evs (ev_as (c := .own 3 v8.1.length (v8.1.flatMap ci64)) rfl rfl rfl (evs (ev_as (c := .own 3 v8.2.length (v8.2.flatMap ci64)) rfl rfl rfl (evn ?_))))))))))))
      refine ls_keep [(1, .int .i64 a1), (2, .int .i64 a2), (3, .box [.int .i64 a0.1, .dat a0.2.length (a0.2.flatMap c30_d)]), (6, .box [.int .i64 0, .own 30 ([] : List (List Int)).length (([] : List (List Int)).flatMap c30_o)]), (7, .box [.int .i64 0, .own 30 ([] : List (List Int)).length (([] : List (List Int)).flatMap c30_o)]), (9, .box [.int .i64 a0.1, .own 30 ([] : List (List Int)).length (([] : List (List Int)).flatMap c30_o)]), (10, .box [.int .i64 a0.1, .own 30 ([] : List (List Int)).length (([] : List (List Int)).flatMap c30_o)]), (11, .own 3 v8.1.length (v8.1.flatMap ci64)), (12, .own 3 v8.2.length (v8.2.flatMap ci64))] ⟨kr, kr, kr, kr, kr, kr, kr, kr, kr, trivial⟩ rfl ?_
      refine ls_seq_k fun K10 hK10 => ?_
      refine ls_rs tbOk ?_
      refine evs (ev_ac rfl nofun rfl (evn ?_))
      refine ls_keep [(1, .int .i64 a1), (2, .int .i64 a2), (3, .box [.int .i64 a0.1, .dat a0.2.length (a0.2.flatMap c30_d)]), (6, .box [.int .i64 0, .own 30 ([] : List (List Int)).length (([] : List (List Int)).flatMap c30_o)]), (7, .box [.int .i64 0, .own 30 ([] : List (List Int)).length (([] : List (List Int)).flatMap c30_o)]), (9, .box [.int .i64 a0.1, .own 30 ([] : List (List Int)).length (([] : List (List Int)).flatMap c30_o)]), (10, .box [.int .i64 a0.1, .own 30 ([] : List (List Int)).length (([] : List (List Int)).flatMap c30_o)]), (11, .own 3 v8.1.length (v8.1.flatMap ci64)), (12, .own 3 v8.2.length (v8.2.flatMap ci64)), (13, .int .i64 0)] ⟨kr, kr, kr, kr, kr, kr, kr, kr, kr, kr, trivial⟩ rfl ?_
      obtain ⟨o1, hl, hr1⟩ := ob_some h
      clear h
      have kXspec_SplitHeavy_B1 : ∀ (z11 : List (List Int)) (z12 : List (List Int)), (some ((a0.1, z11), (a0.1, z12), true)) = some r → ∀ σ' : PS, okK σ' [(6, .box [.int .i64 0, .own 30 ([] : List (List Int)).length (([] : List (List Int)).flatMap c30_o)]), (7, .box [.int .i64 0, .own 30 ([] : List (List Int)).length (([] : List (List Int)).flatMap c30_o)]), (9, .box [.int .i64 a0.1, .own 30 z11.length (z11.flatMap c30_o)]), (10, .box [.int .i64 a0.1, .own 30 z12.length (z12.flatMap c30_o)])] → K10 σ' := by
        intro z11 z12 h σ' hk
        refine hK10 _ (ls_keep [(6, .box [.int .i64 0, .own 30 ([] : List (List Int)).length (([] : List (List Int)).flatMap c30_o)]), (7, .box [.int .i64 0, .own 30 ([] : List (List Int)).length (([] : List (List Int)).flatMap c30_o)]), (9, .box [.int .i64 a0.1, .own 30 z11.length (z11.flatMap c30_o)]), (10, .box [.int .i64 a0.1, .own 30 z12.length (z12.flatMap c30_o)])] hk rfl ?_)
        refine ls_rd tbOk mixed (by kernel_rfl) ?_
        refine evd rfl rfl (ev_ldBt (off := 0) (v := .agg [.int .i64 a0.1, .own 30 z11.length (z11.flatMap c30_o)]) (c' := .box [.int .i64 a0.1, .dat z11.length (z11.flatMap c30_o)]) rfl rfl rfl rfl (Nat.le_of_ble_eq_true rfl) rfl rfl (evd rfl rfl (ev_ldBt (off := 0) (v := .agg [.int .i64 a0.1, .own 30 z12.length (z12.flatMap c30_o)]) (c' := .box [.int .i64 a0.1, .dat z12.length (z12.flatMap c30_o)]) rfl rfl rfl rfl (Nat.le_of_ble_eq_true rfl) rfl rfl (evd rfl rfl (ev_st (off := 0) (c1 := .agg [.int .i64 a0.1, .own 30 z11.length (z11.flatMap c30_o)]) (cs' := [.int .i64 a0.1, .own 30 z11.length (z11.flatMap c30_o)]) rfl rfl rfl rfl rfl rfl (Nat.le_of_ble_eq_true rfl) rfl (evd rfl rfl (ev_st (off := 0) (c1 := .agg [.int .i64 a0.1, .own 30 z12.length (z12.flatMap c30_o)]) (cs' := [.int .i64 a0.1, .own 30 z12.length (z12.flatMap c30_o)]) rfl rfl rfl rfl rfl rfl (Nat.le_of_ble_eq_true rfl) rfl (evd rfl rfl (ev_ac rfl nofun rfl (evdn ?_))))))))))
        refine ls_keep [(6, .box [.int .i64 a0.1, .own 30 z11.length (z11.flatMap c30_o)]), (7, .box [.int .i64 a0.1, .own 30 z12.length (z12.flatMap c30_o)]), (8, .bool true)] ⟨kr, kr, kr, trivial⟩ rfl ?_
        refine ls_ret ?_
        have hr := Option.some.inj h
        rw [← hr]
        exact ⟨.inl rfl, rfl⟩
      refine ls_rec (fun (s : (List (List Int)) × (List (List Int)) × Int) => match s with | (y1, y2, y3) => [(1, .int .i64 a1), (2, .int .i64 a2), (3, .box [.int .i64 a0.1, .dat a0.2.length (a0.2.flatMap c30_d)]), (6, .box [.int .i64 0, .own 30 ([] : List (List Int)).length (([] : List (List Int)).flatMap c30_o)]), (7, .box [.int .i64 0, .own 30 ([] : List (List Int)).length (([] : List (List Int)).flatMap c30_o)]), (9, .box [.int .i64 a0.1, .own 30 y1.length (y1.flatMap c30_o)]), (10, .box [.int .i64 a0.1, .own 30 y2.length (y2.flatMap c30_o)]), (11, .own 3 v8.1.length (v8.1.flatMap ci64)), (12, .own 3 v8.2.length (v8.2.flatMap ci64)), (13, .int .i64 y3)]) (spec_SplitHeavy_B1 a0 a1 a2 v8) fz (([] : List (List Int)), ([] : List (List Int)), 0) o1 hl ⟨kr, kr, kr, kr, kr, kr, kr, kr, kr, kr, trivial⟩ (fun _ => rfl) ?_
      rintro m ⟨y1, y2, y3⟩ N h hN
      unfold spec_SplitHeavy_B1 at h
      dsimp only at h
      refine ls_seq_k fun K13 hK13 => ?_
      refine ls_rs tbOk ?_
      refine evs (ev_mv (c := .int .i64 y3) rfl rfl rfl (evs (ev_fa (c1 := .cref 3 0) (v := .cref 3 1) rfl rfl rfl ⟨_, rfl⟩ rfl (evs (ev_ldB (off := 1) (v := .dat a0.2.length (a0.2.flatMap c30_d)) rfl rfl rfl rfl (Nat.le_of_ble_eq_true rfl) rfl (evs (ev_len (c1 := .dat a0.2.length (a0.2.flatMap c30_d)) rfl rfl rfl (evs (ev_bin (c1 := .int .i64 y3) (c2 := .int .i64 (List.length a0.2 : Int)) rfl rfl rfl (evn ?_))))))))))
      refine ls_keep [(1, .int .i64 a1), (2, .int .i64 a2), (3, .box [.int .i64 a0.1, .dat a0.2.length (a0.2.flatMap c30_d)]), (6, .box [.int .i64 0, .own 30 ([] : List (List Int)).length (([] : List (List Int)).flatMap c30_o)]), (7, .box [.int .i64 0, .own 30 ([] : List (List Int)).length (([] : List (List Int)).flatMap c30_o)]), (9, .box [.int .i64 a0.1, .own 30 y1.length (y1.flatMap c30_o)]), (10, .box [.int .i64 a0.1, .own 30 y2.length (y2.flatMap c30_o)]), (11, .own 3 v8.1.length (v8.1.flatMap ci64)), (12, .own 3 v8.2.length (v8.2.flatMap ci64)), (13, .int .i64 y3), (44, .bool (decide (y3 < (List.length a0.2 : Int))))] ⟨kr, kr, kr, kr, kr, kr, kr, kr, kr, kr, kr, trivial⟩ rfl ?_
      rcases cond_some h with ⟨g14, h⟩ | ⟨g14, h⟩
      · refine ls_cT rfl g14 ?_
        refine ls_skip ?_
        refine hK13 _ (ls_keep [(1, .int .i64 a1), (2, .int .i64 a2), (3, .box [.int .i64 a0.1, .dat a0.2.length (a0.2.flatMap c30_d)]), (6, .box [.int .i64 0, .own 30 ([] : List (List Int)).length (([] : List (List Int)).flatMap c30_o)]), (7, .box [.int .i64 0, .own 30 ([] : List (List Int)).length (([] : List (List Int)).flatMap c30_o)]), (9, .box [.int .i64 a0.1, .own 30 y1.length (y1.flatMap c30_o)]), (10, .box [.int .i64 a0.1, .own 30 y2.length (y2.flatMap c30_o)]), (11, .own 3 v8.1.length (v8.1.flatMap ci64)), (12, .own 3 v8.2.length (v8.2.flatMap ci64)), (13, .int .i64 y3)] ⟨kr, kr, kr, kr, kr, kr, kr, kr, kr, kr, trivial⟩ rfl ?_)
        refine ls_seq_k fun K15 hK15 => ?_
        refine ls_blk ?_
        refine ls_rs tbOk ?_
        refine evs (ev_bs [] (cs := []) rfl trivial rfl (Nat.le_of_ble_eq_true rfl) rfl (evs (ev_fa (c1 := .cref 3 0) (v := .cref 3 1) rfl rfl rfl ⟨_, rfl⟩ rfl (evs (ev_ldB (off := 1) (v := .dat a0.2.length (a0.2.flatMap c30_d)) rfl rfl rfl rfl (Nat.le_of_ble_eq_true rfl) rfl (evs (ev_mv (c := .int .i64 y3) rfl rfl rfl (?_))))))))
        obtain ⟨e16, g17, h⟩ := ob_some h
        refine evs (ev_ia rfl rfl rfl ⟨(geti_some g17).1, (geti_some g17).2.1⟩ (evs (ev_ldEt (off := 0) (v := .dat e16.length (e16.flatMap ci64)) rfl rfl zc30_d g17 rfl (Nat.le_of_ble_eq_true rfl) rfl (?_))))
        obtain ⟨g18, h⟩ := chk_some h
        refine evs (ev_app (f := ci64) (l := ([] : List Int)) (m := e16) (c2 := .dat e16.length (e16.flatMap ci64)) rfl rfl rfl (flat_len zci64 e16) rfl (map_dg (fun _ => rfl) _) g18 rfl (evs (ev_as (c := .own 3 (([] : List Int) ++ e16).length ((([] : List Int) ++ e16).flatMap ci64)) rfl rfl rfl (evn ?_))))
        refine ls_keep [(1, .int .i64 a1), (2, .int .i64 a2), (3, .box [.int .i64 a0.1, .dat a0.2.length (a0.2.flatMap c30_d)]), (6, .box [.int .i64 0, .own 30 ([] : List (List Int)).length (([] : List (List Int)).flatMap c30_o)]), (7, .box [.int .i64 0, .own 30 ([] : List (List Int)).length (([] : List (List Int)).flatMap c30_o)]), (9, .box [.int .i64 a0.1, .own 30 y1.length (y1.flatMap c30_o)]), (10, .box [.int .i64 a0.1, .own 30 y2.length (y2.flatMap c30_o)]), (11, .own 3 v8.1.length (v8.1.flatMap ci64)), (12, .own 3 v8.2.length (v8.2.flatMap ci64)), (13, .int .i64 y3), (14, .own 3 (([] : List Int) ++ e16).length ((([] : List Int) ++ e16).flatMap ci64))] ⟨kr, kr, kr, kr, kr, kr, kr, kr, kr, kr, kr, trivial⟩ rfl ?_
        refine ls_rs tbOk ?_
        refine evs (ev_mv (c := .own 3 v8.2.length (v8.2.flatMap ci64)) rfl rfl rfl (evs (ev_mv (c := .own 3 v8.1.length (v8.1.flatMap ci64)) rfl rfl rfl (evs (ev_mv (c := .own 3 (([] : List Int) ++ e16).length ((([] : List Int) ++ e16).flatMap ci64)) rfl rfl rfl (evs (ev_mv (c := .int .i64 a1) rfl rfl rfl (?_))))))))
        obtain ⟨e19, g20, h⟩ := ob_some h
        refine evs (ev_ia rfl rfl rfl ⟨(geti_some g20).1, (geti_some g20).2.1⟩ (evs (ev_ldE (off := 0) (v := .int .i64 e19) rfl rfl zci64 g20 rfl (Nat.le_of_ble_eq_true rfl) rfl (?_))))
        obtain ⟨v21, g22, h⟩ := ob_some h
        refine evs (ev_call (era rfl (erD eci64 _) (era rfl rfl eran)) (spec_l7Find_s g22) (?_))
        obtain ⟨e23, g24, h⟩ := ob_some h
        refine evs (ev_ia rfl rfl rfl ⟨(geti_some g24).1, (geti_some g24).2.1⟩ (evs (ev_ldE (off := 0) (v := .int .i64 e23) rfl rfl zci64 g24 rfl (Nat.le_of_ble_eq_true rfl) rfl (evs (ev_mv (c := .int .i64 a2) rfl rfl rfl (evs (ev_bin (c1 := .int .i64 e23) (c2 := .int .i64 a2) rfl rfl rfl (evn ?_))))))))
        refine ls_keep [(1, .int .i64 a1), (2, .int .i64 a2), (3, .box [.int .i64 a0.1, .dat a0.2.length (a0.2.flatMap c30_d)]), (6, .box [.int .i64 0, .own 30 ([] : List (List Int)).length (([] : List (List Int)).flatMap c30_o)]), (7, .box [.int .i64 0, .own 30 ([] : List (List Int)).length (([] : List (List Int)).flatMap c30_o)]), (9, .box [.int .i64 a0.1, .own 30 y1.length (y1.flatMap c30_o)]), (10, .box [.int .i64 a0.1, .own 30 y2.length (y2.flatMap c30_o)]), (11, .own 3 v8.1.length (v8.1.flatMap ci64)), (12, .own 3 v8.2.length (v8.2.flatMap ci64)), (13, .int .i64 y3), (14, .own 3 (([] : List Int) ++ e16).length ((([] : List Int) ++ e16).flatMap ci64)), (64, .bool (decide (a2 ≤ e23)))] ⟨kr, kr, kr, kr, kr, kr, kr, kr, kr, kr, kr, kr, trivial⟩ rfl ?_
        have kspec_SplitHeavy_J2 : ∀ (x25 : List (List Int)) (x26 : List (List Int)), spec_SplitHeavy_J2 (loopF (spec_SplitHeavy_B1 a0 a1 a2 v8) m) y3 x25 x26 = some o1 → ∀ σ' : PS, okK σ' [(1, .int .i64 a1), (2, .int .i64 a2), (3, .box [.int .i64 a0.1, .dat a0.2.length (a0.2.flatMap c30_d)]), (6, .box [.int .i64 0, .own 30 ([] : List (List Int)).length (([] : List (List Int)).flatMap c30_o)]), (7, .box [.int .i64 0, .own 30 ([] : List (List Int)).length (([] : List (List Int)).flatMap c30_o)]), (9, .box [.int .i64 a0.1, .own 30 x25.length (x25.flatMap c30_o)]), (10, .box [.int .i64 a0.1, .own 30 x26.length (x26.flatMap c30_o)]), (11, .own 3 v8.1.length (v8.1.flatMap ci64)), (12, .own 3 v8.2.length (v8.2.flatMap ci64)), (13, .int .i64 y3)] → K15 σ' := by
          intro x25 x26 h σ' hk
          unfold spec_SplitHeavy_J2 at h
          refine hK15 _ (ls_keep [(1, .int .i64 a1), (2, .int .i64 a2), (3, .box [.int .i64 a0.1, .dat a0.2.length (a0.2.flatMap c30_d)]), (6, .box [.int .i64 0, .own 30 ([] : List (List Int)).length (([] : List (List Int)).flatMap c30_o)]), (7, .box [.int .i64 0, .own 30 ([] : List (List Int)).length (([] : List (List Int)).flatMap c30_o)]), (9, .box [.int .i64 a0.1, .own 30 x25.length (x25.flatMap c30_o)]), (10, .box [.int .i64 a0.1, .own 30 x26.length (x26.flatMap c30_o)]), (11, .own 3 v8.1.length (v8.1.flatMap ci64)), (12, .own 3 v8.2.length (v8.2.flatMap ci64)), (13, .int .i64 y3)] hk rfl ?_)
          refine ls_rgn tbOk ?_
          refine evs (ev_mv (c := .int .i64 y3) rfl rfl rfl (evs (ev_bin (c1 := .int .i64 y3) (c2 := .int .i64 1) rfl rfl rfl (evs (ev_as (c := .int .i64 (IntKind.i64.wrap (y3 + 1))) rfl rfl rfl (evn ?_))))))
          exact hN _ (x25, x26, (IntKind.i64.wrap (y3 + 1))) h ⟨kr, kr, kr, kr, kr, kr, kr, kr, kr, kr, trivial⟩
        rcases cond_some h with ⟨g27, h⟩ | ⟨g27, h⟩
        · refine ls_cT rfl g27 ?_
          refine ls_rgn tbOk ?_
          refine evs (ev_fa (c1 := .cref 9 0) (v := .cref 9 1) rfl rfl rfl ⟨_, rfl⟩ rfl (evs (ev_ldBt (off := 1) (v := .own 30 y1.length (y1.flatMap c30_o)) (c' := .box [.int .i64 a0.1, .dat y1.length (y1.flatMap c30_o)]) rfl rfl rfl rfl (Nat.le_of_ble_eq_true rfl) rfl rfl (evs (ev_mvt (c := .own 3 (([] : List Int) ++ e16).length ((([] : List Int) ++ e16).flatMap ci64)) rfl rfl rfl (evs (ev_bs [.own 3 (([] : List Int) ++ e16).length ((([] : List Int) ++ e16).flatMap ci64)] (cs := [.own 3 (([] : List Int) ++ e16).length ((([] : List Int) ++ e16).flatMap ci64)]) rfl ⟨rfl, trivial⟩ rfl (Nat.le_of_ble_eq_true rfl) rfl (?_))))))))
          obtain ⟨g28, h⟩ := chk_some h
          refine evs (ev_app (f := c30_o) (l := y1) (m := ([([] : List Int) ++ e16])) (c2 := .own 30 ([([] : List Int) ++ e16]).length (([([] : List Int) ++ e16]).flatMap c30_o)) rfl rfl rfl (flat_len zc30_o ([([] : List Int) ++ e16])) rfl rfl g28 rfl (evs (ev_fa (c1 := .cref 9 0) (v := .cref 9 1) rfl rfl rfl ⟨_, rfl⟩ rfl (evs (ev_st (off := 1) (c1 := .own 30 (y1 ++ ([([] : List Int) ++ e16])).length ((y1 ++ ([([] : List Int) ++ e16])).flatMap c30_o)) (cs' := [.int .i64 a0.1, .own 30 (y1 ++ ([([] : List Int) ++ e16])).length ((y1 ++ ([([] : List Int) ++ e16])).flatMap c30_o)]) rfl rfl rfl rfl rfl rfl (Nat.le_of_ble_eq_true rfl) rfl (evn ?_))))))
          exact kspec_SplitHeavy_J2 (y1 ++ ([([] : List Int) ++ e16])) y2 h _ ⟨kr, kr, kr, kr, kr, kr, kr, kr, kr, kr, trivial⟩
        · refine ls_cF rfl g27 ?_
          refine ls_rgn tbOk ?_
          refine evs (ev_fa (c1 := .cref 10 0) (v := .cref 10 1) rfl rfl rfl ⟨_, rfl⟩ rfl (evs (ev_ldBt (off := 1) (v := .own 30 y2.length (y2.flatMap c30_o)) (c' := .box [.int .i64 a0.1, .dat y2.length (y2.flatMap c30_o)]) rfl rfl rfl rfl (Nat.le_of_ble_eq_true rfl) rfl rfl (evs (ev_mvt (c := .own 3 (([] : List Int) ++ e16).length ((([] : List Int) ++ e16).flatMap ci64)) rfl rfl rfl (evs (ev_bs [.own 3 (([] : List Int) ++ e16).length ((([] : List Int) ++ e16).flatMap ci64)] (cs := [.own 3 (([] : List Int) ++ e16).length ((([] : List Int) ++ e16).flatMap ci64)]) rfl ⟨rfl, trivial⟩ rfl (Nat.le_of_ble_eq_true rfl) rfl (?_))))))))
          obtain ⟨g29, h⟩ := chk_some h
          refine evs (ev_app (f := c30_o) (l := y2) (m := ([([] : List Int) ++ e16])) (c2 := .own 30 ([([] : List Int) ++ e16]).length (([([] : List Int) ++ e16]).flatMap c30_o)) rfl rfl rfl (flat_len zc30_o ([([] : List Int) ++ e16])) rfl rfl g29 rfl (evs (ev_fa (c1 := .cref 10 0) (v := .cref 10 1) rfl rfl rfl ⟨_, rfl⟩ rfl (evs (ev_st (off := 1) (c1 := .own 30 (y2 ++ ([([] : List Int) ++ e16])).length ((y2 ++ ([([] : List Int) ++ e16])).flatMap c30_o)) (cs' := [.int .i64 a0.1, .own 30 (y2 ++ ([([] : List Int) ++ e16])).length ((y2 ++ ([([] : List Int) ++ e16])).flatMap c30_o)]) rfl rfl rfl rfl rfl rfl (Nat.le_of_ble_eq_true rfl) rfl (evn ?_))))))
          exact kspec_SplitHeavy_J2 y1 (y2 ++ ([([] : List Int) ++ e16])) h _ ⟨kr, kr, kr, kr, kr, kr, kr, kr, kr, kr, trivial⟩
      · refine ls_cF rfl g14 ?_
        refine ls_exit ?_
        have q0 := (Option.some.inj h).symm
        have r0 := hr1
        rw [q0] at r0
        exact kXspec_SplitHeavy_B1 y1 y2 r0 _ ⟨kr, kr, kr, kr, trivial⟩
def laws_toIntS_B1 (a0 : List Int) (rec : ((List Int) × Int) → Option ((List Int))) (s : (List Int) × Int) : Option ((List Int)) := match s with
  | (y1, y2) => cond (decide (y2 < (List.length a0 : Int))) (obind (geti a0 y2) fun e7 => obind (geti y1 y2) fun e9 => rec ((seti y1 y2 e7), (IntKind.i64.wrap (y2 + 1)))) (some y1)
def laws_toIntS (a0 : List Int) : Option ((List Int)) := chk ((0 : Int) ≤ (List.length a0 : Int) ∧ Int.toNat (List.length a0 : Int) ≤ lim) (obind (loopF (laws_toIntS_B1 a0) fz ((List.replicate (Int.toNat (List.length a0 : Int)) (0 : Int)), 0)) fun z3 => some z3)
theorem laws_toIntS_s {a0 : List Int} {r : (List Int)} (h : laws_toIntS a0 = some r) : SoundAt Try.prog 32 [.dat a0.length (a0.flatMap ci64)] (.own 3 r.length (r.flatMap ci64)) := by
  unfold laws_toIntS at h
  refine sound_lit tbOk lit32 (Nat.le_of_ble_eq_true rfl) rfl ?_
  unfold c32
  refine ls_keep [(0, .dat a0.length (a0.flatMap ci64))] ⟨kr, trivial⟩ rfl ?_
  refine ls_rs tbOk ?_
  refine evs (ev_an rfl rfl (evn ?_))
  refine ls_keep [(0, .dat a0.length (a0.flatMap ci64))] ⟨kr, trivial⟩ rfl ?_
  refine ls_rs tbOk ?_
  refine evs (ev_mv (c := .dat a0.length (a0.flatMap ci64)) rfl rfl rfl (evs (ev_len (c1 := .dat a0.length (a0.flatMap ci64)) rfl rfl rfl (?_))))
  obtain ⟨g1, h⟩ := chk_some h
  refine evs (ev_mku (f := ci64) (z := (0 : Int)) rfl rfl rfl rfl rfl rfl g1 rfl (evs (ev_asu rfl rfl rfl (evn ?_))))
  refine ls_keep [(0, .dat a0.length (a0.flatMap ci64)), (3, .uni 3 (List.replicate (Int.toNat (List.length a0 : Int)) (0 : Int)).length ((List.replicate (Int.toNat (List.length a0 : Int)) (0 : Int)).flatMap ci64))] ⟨kr, kr, trivial⟩ rfl ?_
  refine ls_seq_k fun K2 hK2 => ?_
  refine ls_rs tbOk ?_
  refine evs (ev_ac rfl nofun rfl (evn ?_))
  refine ls_keep [(0, .dat a0.length (a0.flatMap ci64)), (3, .uni 3 (List.replicate (Int.toNat (List.length a0 : Int)) (0 : Int)).length ((List.replicate (Int.toNat (List.length a0 : Int)) (0 : Int)).flatMap ci64)), (4, .int .i64 0)] ⟨kr, kr, kr, trivial⟩ rfl ?_
  obtain ⟨o1, hl, hr1⟩ := ob_some h
  clear h
  have kXlaws_toIntS_B1 : ∀ (z3 : List Int), (some z3) = some r → ∀ σ' : PS, okK σ' [(3, .uni 3 z3.length (z3.flatMap ci64))] → K2 σ' := by
    intro z3 h σ' hk
    refine hK2 _ (ls_keep [(3, .uni 3 z3.length (z3.flatMap ci64))] hk rfl ?_)
    refine ls_rs tbOk ?_
    refine evs (ev_mvtu rfl rfl (evs (ev_as (c := .own 3 z3.length (z3.flatMap ci64)) rfl rfl rfl (evn ?_))))
    refine ls_keep [(2, .own 3 z3.length (z3.flatMap ci64))] ⟨kr, trivial⟩ rfl ?_
    refine ls_ret ?_
    have hr := Option.some.inj h
    rw [← hr]
    exact ⟨.inl rfl, rfl⟩
  refine ls_rec (fun (s : (List Int) × Int) => match s with | (y1, y2) => [(0, .dat a0.length (a0.flatMap ci64)), (3, .uni 3 y1.length (y1.flatMap ci64)), (4, .int .i64 y2)]) (laws_toIntS_B1 a0) fz ((List.replicate (Int.toNat (List.length a0 : Int)) (0 : Int)), 0) o1 hl ⟨kr, kr, kr, trivial⟩ (fun _ => rfl) ?_
  rintro m ⟨y1, y2⟩ N h hN
  unfold laws_toIntS_B1 at h
  dsimp only at h
  refine ls_seq_k fun K4 hK4 => ?_
  refine ls_rs tbOk ?_
  refine evs (ev_mv (c := .int .i64 y2) rfl rfl rfl (evs (ev_mv (c := .dat a0.length (a0.flatMap ci64)) rfl rfl rfl (evs (ev_len (c1 := .dat a0.length (a0.flatMap ci64)) rfl rfl rfl (evs (ev_bin (c1 := .int .i64 y2) (c2 := .int .i64 (List.length a0 : Int)) rfl rfl rfl (evn ?_))))))))
  refine ls_keep [(0, .dat a0.length (a0.flatMap ci64)), (3, .uni 3 y1.length (y1.flatMap ci64)), (4, .int .i64 y2), (11, .bool (decide (y2 < (List.length a0 : Int))))] ⟨kr, kr, kr, kr, trivial⟩ rfl ?_
  rcases cond_some h with ⟨g5, h⟩ | ⟨g5, h⟩
  · refine ls_cT rfl g5 ?_
    refine ls_skip ?_
    refine hK4 _ (ls_keep [(0, .dat a0.length (a0.flatMap ci64)), (3, .uni 3 y1.length (y1.flatMap ci64)), (4, .int .i64 y2)] ⟨kr, kr, kr, trivial⟩ rfl ?_)
    refine ls_seq_k fun K6 hK6 => ?_
    refine ls_blk ?_
    refine ls_rgn tbOk ?_
    refine evs (ev_mvu rfl rfl (evs (ev_mv (c := .int .i64 y2) rfl rfl rfl (evs (ev_mv (c := .dat a0.length (a0.flatMap ci64)) rfl rfl rfl (evs (ev_mv (c := .int .i64 y2) rfl rfl rfl (?_))))))))
    obtain ⟨e7, g8, h⟩ := ob_some h
    refine evs (ev_ia rfl rfl rfl ⟨(geti_some g8).1, (geti_some g8).2.1⟩ (evs (ev_ldE (off := 0) (v := .int .i64 e7) rfl rfl zci64 g8 rfl (Nat.le_of_ble_eq_true rfl) rfl (?_))))
    obtain ⟨e9, g10, h⟩ := ob_some h
    refine evs (ev_iau rfl rfl rfl rfl ⟨(geti_some g10).1, (geti_some g10).2.1⟩ (evs (ev_stu (e := e7) (c1 := .int .i64 e7) rfl rfl zci64 ⟨(geti_some g10).1, (geti_some g10).2.1⟩ rfl rfl rfl rfl rfl (evn ?_))))
    refine hK6 _ (ls_keep [(0, .dat a0.length (a0.flatMap ci64)), (3, .uni 3 (seti y1 y2 e7).length ((seti y1 y2 e7).flatMap ci64)), (4, .int .i64 y2)] ⟨kr, kr, kr, trivial⟩ rfl ?_)
    refine ls_rgn tbOk ?_
    refine evs (ev_mv (c := .int .i64 y2) rfl rfl rfl (evs (ev_bin (c1 := .int .i64 y2) (c2 := .int .i64 1) rfl rfl rfl (evs (ev_as (c := .int .i64 (IntKind.i64.wrap (y2 + 1))) rfl rfl rfl (evn ?_))))))
    exact hN _ ((seti y1 y2 e7), (IntKind.i64.wrap (y2 + 1))) h ⟨kr, kr, kr, trivial⟩
  · refine ls_cF rfl g5 ?_
    refine ls_exit ?_
    have q0 := (Option.some.inj h).symm
    have r0 := hr1
    rw [q0] at r0
    exact kXlaws_toIntS_B1 y1 r0 _ ⟨kr, trivial⟩
def laws_toIntSS_B1 (a0 : List (List Int)) (rec : ((List (List Int)) × Int) → Option ((List (List Int)))) (s : (List (List Int)) × Int) : Option ((List (List Int))) := match s with
  | (y1, y2) => cond (decide (y2 < (List.length a0 : Int))) (obind (geti a0 y2) fun e7 => obind (laws_toIntS e7) fun v9 => obind (geti y1 y2) fun e11 => rec ((seti y1 y2 v9), (IntKind.i64.wrap (y2 + 1)))) (some y1)
def laws_toIntSS (a0 : List (List Int)) : Option ((List (List Int))) := chk ((0 : Int) ≤ (List.length a0 : Int) ∧ Int.toNat (List.length a0 : Int) ≤ lim) (obind (loopF (laws_toIntSS_B1 a0) fz ((List.replicate (Int.toNat (List.length a0 : Int)) ([] : List Int)), 0)) fun z3 => some z3)
theorem laws_toIntSS_s {a0 : List (List Int)} {r : (List (List Int))} (h : laws_toIntSS a0 = some r) : SoundAt Try.prog 102 [.dat a0.length (a0.flatMap c30_d)] (.own 30 r.length (r.flatMap c30_o)) := by
  unfold laws_toIntSS at h
  refine sound_lit tbOk lit102 (Nat.le_of_ble_eq_true rfl) rfl ?_
  unfold c102
  refine ls_keep [(0, .dat a0.length (a0.flatMap c30_d))] ⟨kr, trivial⟩ rfl ?_
  refine ls_rs tbOk ?_
  refine evs (ev_an rfl rfl (evn ?_))
  refine ls_keep [(0, .dat a0.length (a0.flatMap c30_d))] ⟨kr, trivial⟩ rfl ?_
  refine ls_rs tbOk ?_
  refine evs (ev_mv (c := .dat a0.length (a0.flatMap c30_d)) rfl rfl rfl (evs (ev_len (c1 := .dat a0.length (a0.flatMap c30_d)) rfl rfl rfl (?_))))
  obtain ⟨g1, h⟩ := chk_some h
  refine evs (ev_mku (f := c30_o) (z := ([] : List Int)) rfl rfl rfl rfl rfl rfl g1 rfl (evs (ev_asu rfl rfl rfl (evn ?_))))
  refine ls_keep [(0, .dat a0.length (a0.flatMap c30_d)), (3, .uni 30 (List.replicate (Int.toNat (List.length a0 : Int)) ([] : List Int)).length ((List.replicate (Int.toNat (List.length a0 : Int)) ([] : List Int)).flatMap c30_o))] ⟨kr, kr, trivial⟩ rfl ?_
  refine ls_seq_k fun K2 hK2 => ?_
  refine ls_rs tbOk ?_
  refine evs (ev_ac rfl nofun rfl (evn ?_))
  refine ls_keep [(0, .dat a0.length (a0.flatMap c30_d)), (3, .uni 30 (List.replicate (Int.toNat (List.length a0 : Int)) ([] : List Int)).length ((List.replicate (Int.toNat (List.length a0 : Int)) ([] : List Int)).flatMap c30_o)), (4, .int .i64 0)] ⟨kr, kr, kr, trivial⟩ rfl ?_
  obtain ⟨o1, hl, hr1⟩ := ob_some h
  clear h
  have kXlaws_toIntSS_B1 : ∀ (z3 : List (List Int)), (some z3) = some r → ∀ σ' : PS, okK σ' [(3, .uni 30 z3.length (z3.flatMap c30_o))] → K2 σ' := by
    intro z3 h σ' hk
    refine hK2 _ (ls_keep [(3, .uni 30 z3.length (z3.flatMap c30_o))] hk rfl ?_)
    refine ls_rs tbOk ?_
    refine evs (ev_mvtu rfl rfl (evs (ev_as (c := .own 30 z3.length (z3.flatMap c30_o)) rfl rfl rfl (evn ?_))))
    refine ls_keep [(2, .own 30 z3.length (z3.flatMap c30_o))] ⟨kr, trivial⟩ rfl ?_
    refine ls_ret ?_
    have hr := Option.some.inj h
    rw [← hr]
    exact ⟨.inl rfl, rfl⟩
  refine ls_rec (fun (s : (List (List Int)) × Int) => match s with | (y1, y2) => [(0, .dat a0.length (a0.flatMap c30_d)), (3, .uni 30 y1.length (y1.flatMap c30_o)), (4, .int .i64 y2)]) (laws_toIntSS_B1 a0) fz ((List.replicate (Int.toNat (List.length a0 : Int)) ([] : List Int)), 0) o1 hl ⟨kr, kr, kr, trivial⟩ (fun _ => rfl) ?_
  rintro m ⟨y1, y2⟩ N h hN
  unfold laws_toIntSS_B1 at h
  dsimp only at h
  refine ls_seq_k fun K4 hK4 => ?_
  refine ls_rs tbOk ?_
  refine evs (ev_mv (c := .int .i64 y2) rfl rfl rfl (evs (ev_mv (c := .dat a0.length (a0.flatMap c30_d)) rfl rfl rfl (evs (ev_len (c1 := .dat a0.length (a0.flatMap c30_d)) rfl rfl rfl (evs (ev_bin (c1 := .int .i64 y2) (c2 := .int .i64 (List.length a0 : Int)) rfl rfl rfl (evn ?_))))))))
  refine ls_keep [(0, .dat a0.length (a0.flatMap c30_d)), (3, .uni 30 y1.length (y1.flatMap c30_o)), (4, .int .i64 y2), (11, .bool (decide (y2 < (List.length a0 : Int))))] ⟨kr, kr, kr, kr, trivial⟩ rfl ?_
  rcases cond_some h with ⟨g5, h⟩ | ⟨g5, h⟩
  · refine ls_cT rfl g5 ?_
    refine ls_skip ?_
    refine hK4 _ (ls_keep [(0, .dat a0.length (a0.flatMap c30_d)), (3, .uni 30 y1.length (y1.flatMap c30_o)), (4, .int .i64 y2)] ⟨kr, kr, kr, trivial⟩ rfl ?_)
    refine ls_seq_k fun K6 hK6 => ?_
    refine ls_blk ?_
    refine ls_rgn tbOk ?_
    refine evs (ev_mvu rfl rfl (evs (ev_mv (c := .int .i64 y2) rfl rfl rfl (evs (ev_mv (c := .dat a0.length (a0.flatMap c30_d)) rfl rfl rfl (evs (ev_mv (c := .int .i64 y2) rfl rfl rfl (?_))))))))
    obtain ⟨e7, g8, h⟩ := ob_some h
    refine evs (ev_ia rfl rfl rfl ⟨(geti_some g8).1, (geti_some g8).2.1⟩ (evs (ev_ldE (off := 0) (v := .dat e7.length (e7.flatMap ci64)) rfl rfl zc30_d g8 rfl (Nat.le_of_ble_eq_true rfl) rfl (?_))))
    obtain ⟨v9, g10, h⟩ := ob_some h
    refine evs (ev_call (era rfl (erD eci64 _) eran) (laws_toIntS_s g10) (?_))
    obtain ⟨e11, g12, h⟩ := ob_some h
    refine evs (ev_iau rfl rfl rfl rfl ⟨(geti_some g12).1, (geti_some g12).2.1⟩ (evs (ev_stu (e := v9) (c1 := .own 3 v9.length (v9.flatMap ci64)) rfl rfl zc30_o ⟨(geti_some g12).1, (geti_some g12).2.1⟩ rfl rfl rfl rfl rfl (evn ?_))))
    refine hK6 _ (ls_keep [(0, .dat a0.length (a0.flatMap c30_d)), (3, .uni 30 (seti y1 y2 v9).length ((seti y1 y2 v9).flatMap c30_o)), (4, .int .i64 y2)] ⟨kr, kr, kr, trivial⟩ rfl ?_)
    refine ls_rgn tbOk ?_
    refine evs (ev_mv (c := .int .i64 y2) rfl rfl rfl (evs (ev_bin (c1 := .int .i64 y2) (c2 := .int .i64 1) rfl rfl rfl (evs (ev_as (c := .int .i64 (IntKind.i64.wrap (y2 + 1))) rfl rfl rfl (evn ?_))))))
    exact hN _ ((seti y1 y2 v9), (IntKind.i64.wrap (y2 + 1))) h ⟨kr, kr, kr, trivial⟩
  · refine ls_cF rfl g5 ?_
    refine ls_exit ?_
    have q0 := (Option.some.inj h).symm
    have r0 := hr1
    rw [q0] at r0
    exact kXlaws_toIntSS_B1 y1 r0 _ ⟨kr, trivial⟩
def laws_toRelation (a0 : Int × (List (List Int))) : Option ((Int × (List (List Int)))) := obind (laws_toIntSS a0.2) fun v1 => some (a0.1, v1)
theorem laws_toRelation_s {a0 : Int × (List (List Int))} {r : (Int × (List (List Int)))} (h : laws_toRelation a0 = some r) : SoundAt Try.prog 27 [.agg [.int .i64 a0.1, .dat a0.2.length (a0.2.flatMap c30_d)]] (.agg [.int .i64 r.1, .own 30 r.2.length (r.2.flatMap c30_o)]) := by
  unfold laws_toRelation at h
  refine sound_lit tbOk lit27 (Nat.le_of_ble_eq_true rfl) rfl ?_
  unfold c27
  refine ls_keep [(0, .agg [.int .i64 a0.1, .dat a0.2.length (a0.2.flatMap c30_d)])] ⟨kr, trivial⟩ rfl ?_
  refine ls_rs tbOk ?_
  refine evs (ev_bx (c1 := .agg [.int .i64 a0.1, .dat a0.2.length (a0.2.flatMap c30_d)]) rfl rfl rfl (evs (ev_al rfl rfl (evn ?_))))
  refine ls_keep [(1, .box [.int .i64 a0.1, .dat a0.2.length (a0.2.flatMap c30_d)]), (2, .box [.int .i64 0, .own 30 ([] : List (List Int)).length (([] : List (List Int)).flatMap c30_o)])] ⟨kr, kr, trivial⟩ rfl ?_
  refine ls_rs tbOk ?_
  refine evs (ev_al rfl rfl (evn ?_))
  refine ls_keep [(1, .box [.int .i64 a0.1, .dat a0.2.length (a0.2.flatMap c30_d)]), (2, .box [.int .i64 0, .own 30 ([] : List (List Int)).length (([] : List (List Int)).flatMap c30_o)]), (3, .box [.int .i64 0, .own 30 ([] : List (List Int)).length (([] : List (List Int)).flatMap c30_o)])] ⟨kr, kr, kr, trivial⟩ rfl ?_
  refine ls_rs tbOk ?_
  refine evs (ev_fa (c1 := .cref 1 0) (v := .cref 1 0) rfl rfl rfl ⟨_, rfl⟩ rfl (evs (ev_ldB (off := 0) (v := .int .i64 a0.1) rfl rfl rfl rfl (Nat.le_of_ble_eq_true rfl) rfl (evs (ev_fa (c1 := .cref 3 0) (v := .cref 3 0) rfl rfl rfl ⟨_, rfl⟩ rfl (evs (ev_st (off := 0) (c1 := .int .i64 a0.1) (cs' := [.int .i64 a0.1, .own 30 ([] : List (List Int)).length (([] : List (List Int)).flatMap c30_o)]) rfl rfl rfl rfl rfl rfl (Nat.le_of_ble_eq_true rfl) rfl (evn ?_))))))))
  refine ls_keep [(1, .box [.int .i64 a0.1, .dat a0.2.length (a0.2.flatMap c30_d)]), (2, .box [.int .i64 0, .own 30 ([] : List (List Int)).length (([] : List (List Int)).flatMap c30_o)]), (3, .box [.int .i64 a0.1, .own 30 ([] : List (List Int)).length (([] : List (List Int)).flatMap c30_o)])] ⟨kr, kr, kr, trivial⟩ rfl ?_
  refine ls_rs tbOk ?_
  refine evs (ev_fa (c1 := .cref 1 0) (v := .cref 1 1) rfl rfl rfl ⟨_, rfl⟩ rfl (evs (ev_ldB (off := 1) (v := .dat a0.2.length (a0.2.flatMap c30_d)) rfl rfl rfl rfl (Nat.le_of_ble_eq_true rfl) rfl (?_))))
  obtain ⟨v1, g2, h⟩ := ob_some h
  refine evs (ev_call (era rfl (erD ec30_d _) eran) (laws_toIntSS_s g2) (evs (ev_fa (c1 := .cref 3 0) (v := .cref 3 1) rfl rfl rfl ⟨_, rfl⟩ rfl (evs (ev_st (off := 1) (c1 := .own 30 v1.length (v1.flatMap c30_o)) (cs' := [.int .i64 a0.1, .own 30 v1.length (v1.flatMap c30_o)]) rfl rfl rfl rfl rfl rfl (Nat.le_of_ble_eq_true rfl) rfl (evn ?_))))))
  refine ls_keep [(2, .box [.int .i64 0, .own 30 ([] : List (List Int)).length (([] : List (List Int)).flatMap c30_o)]), (3, .box [.int .i64 a0.1, .own 30 v1.length (v1.flatMap c30_o)])] ⟨kr, kr, trivial⟩ rfl ?_
  refine ls_rs tbOk ?_
  refine evs (ev_ldBt (off := 0) (v := .agg [.int .i64 a0.1, .own 30 v1.length (v1.flatMap c30_o)]) (c' := .box [.int .i64 a0.1, .dat v1.length (v1.flatMap c30_o)]) rfl rfl rfl rfl (Nat.le_of_ble_eq_true rfl) rfl rfl (evs (ev_st (off := 0) (c1 := .agg [.int .i64 a0.1, .own 30 v1.length (v1.flatMap c30_o)]) (cs' := [.int .i64 a0.1, .own 30 v1.length (v1.flatMap c30_o)]) rfl rfl rfl rfl rfl rfl (Nat.le_of_ble_eq_true rfl) rfl (evn ?_))))
  refine ls_keep [(2, .box [.int .i64 a0.1, .own 30 v1.length (v1.flatMap c30_o)])] ⟨kr, trivial⟩ rfl ?_
  refine ls_ret ?_
  have hr := Option.some.inj h
  rw [← hr]
  exact ⟨.inl rfl, rfl⟩
def impl_within_J1 (x2 : Bool) : Option (Bool) := some x2
def impl_within (a0 : Int) (a1 : Int) (a2 : Int) : Option (Bool) := cond (decide (a1 ≤ a0)) (impl_within_J1 (decide (a0 ≤ a2))) (impl_within_J1 false)
theorem impl_within_s {a0 : Int} {a1 : Int} {a2 : Int} {r : Bool} (h : impl_within a0 a1 a2 = some r) : SoundAt Try.prog 82 [.int .i64 a0, .int .i64 a1, .int .i64 a2] (.bool r) := by
  unfold impl_within at h
  refine sound_lit tbOk lit82 (Nat.le_of_ble_eq_true rfl) rfl ?_
  unfold c82
  refine ls_keep [(0, .int .i64 a0), (1, .int .i64 a1), (2, .int .i64 a2)] ⟨kr, kr, kr, trivial⟩ rfl ?_
  refine ls_rs tbOk ?_
  refine evs (ev_ac rfl nofun rfl (evn ?_))
  refine ls_keep [(0, .int .i64 a0), (1, .int .i64 a1), (2, .int .i64 a2)] ⟨kr, kr, kr, trivial⟩ rfl ?_
  refine ls_rs_k tbOk fun K1 hK1 => ?_
  have kimpl_within_J1 : ∀ (x2 : Bool), impl_within_J1 x2 = some r → ∀ σ' : PS, okK σ' [(6, .bool x2)] → K1 σ' := by
    intro x2 h σ' hk
    unfold impl_within_J1 at h
    refine hK1 _ (ls_keep [(6, .bool x2)] hk rfl ?_)
    refine ls_ret ?_
    have hr := Option.some.inj h
    rw [← hr]
    exact ⟨.inl rfl, rfl⟩
  refine evs (ev_mv (c := .int .i64 a0) rfl rfl rfl (evs (ev_mv (c := .int .i64 a1) rfl rfl rfl (evs (ev_bin (c1 := .int .i64 a0) (c2 := .int .i64 a1) rfl rfl rfl (evs (ev_mv (c := .bool (decide (a1 ≤ a0))) rfl rfl rfl (?_))))))))
  rcases cond_some h with ⟨g3, h⟩ | ⟨g3, h⟩
  · refine evs (ev_gr rfl (congrArg V.bool g3) (ev_mv (c := .int .i64 a0) rfl rfl rfl (evs (ev_gr rfl (congrArg V.bool g3) (ev_mv (c := .int .i64 a2) rfl rfl rfl (evs (ev_gr rfl (congrArg V.bool g3) (ev_bin (c1 := .int .i64 a0) (c2 := .int .i64 a2) rfl rfl rfl (evs (ev_pkT (c1 := .bool (decide (a0 ≤ a2))) rfl g3 rfl rfl (evs (ev_as (c := .bool (decide (a0 ≤ a2))) rfl rfl rfl (evn ?_)))))))))))))
    exact kimpl_within_J1 (decide (a0 ≤ a2)) h _ ⟨kr, trivial⟩
  · refine evs (ev_gs rfl rfl (isb_F g3) (evs (ev_gs rfl rfl (isb_F g3) (evs (ev_gs rfl rfl (isb_F g3) (evs (ev_pkF (c1 := .bool false) rfl g3 rfl rfl (evs (ev_as (c := .bool false) rfl rfl rfl (evn ?_))))))))))
    exact kimpl_within_J1 false h _ ⟨kr, trivial⟩
def impl_AreValidValues_B1 (a0 : List Int) (rec : Int → Option (Sum (Unit) (Bool))) (y1 : Int) : Option (Sum (Unit) (Bool)) := cond (decide (y1 < (List.length a0 : Int))) (obind (geti a0 y1) fun e5 => obind (impl_within e5 0 99) fun v7 => cond (!v7) (some (.inr false)) (rec (IntKind.i64.wrap (y1 + 1)))) (some (.inl ()))
def impl_AreValidValues (a0 : List Int) : Option (Bool) := obind (loopF (impl_AreValidValues_B1 a0) fz 0) fun o1 => (match o1 with
  | .inl _ => (some true)
  | .inr r => some r)
theorem impl_AreValidValues_s {a0 : List Int} {r : Bool} (h : impl_AreValidValues a0 = some r) : SoundAt Try.prog 140 [.dat a0.length (a0.flatMap ci64)] (.bool r) := by
  unfold impl_AreValidValues at h
  refine sound_lit tbOk lit140 (Nat.le_of_ble_eq_true rfl) rfl ?_
  unfold c140
  refine ls_keep [(0, .dat a0.length (a0.flatMap ci64))] ⟨kr, trivial⟩ rfl ?_
  refine ls_rs tbOk ?_
  refine evs (ev_ac rfl nofun rfl (evn ?_))
  refine ls_keep [(0, .dat a0.length (a0.flatMap ci64))] ⟨kr, trivial⟩ rfl ?_
  refine ls_seq_k fun K1 hK1 => ?_
  refine ls_rs tbOk ?_
  refine evs (ev_mv (c := .dat a0.length (a0.flatMap ci64)) rfl rfl rfl (evs (ev_len (c1 := .dat a0.length (a0.flatMap ci64)) rfl rfl rfl (evs (ev_mc rfl rfl (evn ?_))))))
  refine ls_keep [(5, .dat a0.length (a0.flatMap ci64)), (6, .int .i64 (List.length a0 : Int)), (7, .int .i64 0)] ⟨kr, kr, kr, trivial⟩ rfl ?_
  obtain ⟨o1, hl, hr1⟩ := ob_some h
  clear h
  have kXimpl_AreValidValues_B1 : ∀ (_ : Unit), (some true) = some r → ∀ σ' : PS, okK σ' [] → K1 σ' := by
    intro _ h σ' hk
    refine hK1 _ (ls_keep [] hk rfl ?_)
    refine ls_rs tbOk ?_
    refine evs (ev_ac rfl nofun rfl (evn ?_))
    refine ls_keep [(2, .bool true)] ⟨kr, trivial⟩ rfl ?_
    refine ls_ret ?_
    have hr := Option.some.inj h
    rw [← hr]
    exact ⟨.inl rfl, rfl⟩
  refine ls_rec (fun (y1 : Int) => [(5, .dat a0.length (a0.flatMap ci64)), (6, .int .i64 (List.length a0 : Int)), (7, .int .i64 y1)]) (impl_AreValidValues_B1 a0) fz 0 o1 hl ⟨kr, kr, kr, trivial⟩ (fun _ => rfl) ?_
  rintro m y1 N h hN
  unfold impl_AreValidValues_B1 at h
  refine ls_rs tbOk ?_
  refine evs (ev_bin (c1 := .int .i64 y1) (c2 := .int .i64 (List.length a0 : Int)) rfl rfl rfl (evn ?_))
  refine ls_keep [(5, .dat a0.length (a0.flatMap ci64)), (6, .int .i64 (List.length a0 : Int)), (7, .int .i64 y1), (8, .bool (decide (y1 < (List.length a0 : Int))))] ⟨kr, kr, kr, kr, trivial⟩ rfl ?_
  refine ls_seq_k fun K2 hK2 => ?_
  rcases cond_some h with ⟨g3, h⟩ | ⟨g3, h⟩
  · refine ls_cT rfl g3 ?_
    refine ls_skip ?_
    refine hK2 _ (ls_keep [(5, .dat a0.length (a0.flatMap ci64)), (6, .int .i64 (List.length a0 : Int)), (7, .int .i64 y1)] ⟨kr, kr, kr, trivial⟩ rfl ?_)
    refine ls_seq_k fun K4 hK4 => ?_
    refine ls_blk ?_
    refine ls_rs tbOk ?_
    obtain ⟨e5, g6, h⟩ := ob_some h
    refine evs (ev_ia rfl rfl rfl ⟨(geti_some g6).1, (geti_some g6).2.1⟩ (evs (ev_ldE (off := 0) (v := .int .i64 e5) rfl rfl zci64 g6 rfl (Nat.le_of_ble_eq_true rfl) rfl (evs (ev_as (c := .int .i64 e5) rfl rfl rfl (evn ?_))))))
    refine ls_keep [(4, .int .i64 e5), (5, .dat a0.length (a0.flatMap ci64)), (6, .int .i64 (List.length a0 : Int)), (7, .int .i64 y1)] ⟨kr, kr, kr, kr, trivial⟩ rfl ?_
    refine ls_rs tbOk ?_
    refine evs (ev_mv (c := .int .i64 e5) rfl rfl rfl (?_))
    obtain ⟨v7, g8, h⟩ := ob_some h
    refine evs (ev_call (era rfl rfl (era rfl rfl (era rfl rfl eran))) (impl_within_s g8) (evs (ev_un (c1 := .bool v7) rfl trivial (evn ?_))))
    refine ls_keep [(5, .dat a0.length (a0.flatMap ci64)), (6, .int .i64 (List.length a0 : Int)), (7, .int .i64 y1), (13, .bool (!v7))] ⟨kr, kr, kr, kr, trivial⟩ rfl ?_
    rcases cond_some h with ⟨g9, h⟩ | ⟨g9, h⟩
    · refine ls_cT rfl g9 ?_
      refine ls_rs tbOk ?_
      refine evs (ev_ac rfl nofun rfl (evn ?_))
      refine ls_keep [(2, .bool false)] ⟨kr, trivial⟩ rfl ?_
      refine ls_ret ?_
      have q0 := (Option.some.inj h).symm
      have r0 := hr1
      rw [q0] at r0
      have hr := Option.some.inj r0
      rw [← hr]
      exact ⟨.inl rfl, rfl⟩
    · refine ls_cF rfl g9 ?_
      refine ls_skip ?_
      refine hK4 _ (ls_keep [(5, .dat a0.length (a0.flatMap ci64)), (6, .int .i64 (List.length a0 : Int)), (7, .int .i64 y1)] ⟨kr, kr, kr, trivial⟩ rfl ?_)
      refine ls_rgn tbOk ?_
      refine evs (ev_bin (c1 := .int .i64 y1) (c2 := .int .i64 1) rfl rfl rfl (evs (ev_mv (c := .int .i64 (IntKind.i64.wrap (y1 + 1))) rfl rfl rfl (evn ?_))))
      exact hN _ (IntKind.i64.wrap (y1 + 1)) h ⟨kr, kr, kr, trivial⟩
  · refine ls_cF rfl g3 ?_
    refine ls_exit ?_
    have q0 := (Option.some.inj h).symm
    have r0 := hr1
    rw [q0] at r0
    exact kXimpl_AreValidValues_B1 () r0 _ trivial
def impl_compareInts (a0 : Int) (a1 : Int) : Option (Int) := cond (decide (a0 < a1)) (some (-1)) (cond (decide (a1 < a0)) (some 1) (some 0))
theorem impl_compareInts_s {a0 : Int} {a1 : Int} {r : Int} (h : impl_compareInts a0 a1 = some r) : SoundAt Try.prog 175 [.int .i64 a0, .int .i64 a1] (.int .i64 r) := by
  unfold impl_compareInts at h
  refine sound_lit tbOk lit175 (Nat.le_of_ble_eq_true rfl) rfl ?_
  unfold c175
  refine ls_keep [(0, .int .i64 a0), (1, .int .i64 a1)] ⟨kr, kr, trivial⟩ rfl ?_
  refine ls_rs tbOk ?_
  refine evs (ev_ac rfl nofun rfl (evn ?_))
  refine ls_keep [(0, .int .i64 a0), (1, .int .i64 a1)] ⟨kr, kr, trivial⟩ rfl ?_
  refine ls_seq_k fun K1 hK1 => ?_
  refine ls_blk ?_
  refine ls_rs tbOk ?_
  refine evs (ev_mv (c := .int .i64 a0) rfl rfl rfl (evs (ev_mv (c := .int .i64 a1) rfl rfl rfl (evs (ev_bin (c1 := .int .i64 a0) (c2 := .int .i64 a1) rfl rfl rfl (evs (ev_as (c := .bool (decide (a0 < a1))) rfl rfl rfl (evn ?_))))))))
  refine ls_keep [(0, .int .i64 a0), (1, .int .i64 a1), (5, .bool (decide (a0 < a1)))] ⟨kr, kr, kr, trivial⟩ rfl ?_
  rcases cond_some h with ⟨g2, h⟩ | ⟨g2, h⟩
  · refine ls_cT rfl g2 ?_
    refine ls_rs tbOk ?_
    refine evs (ev_ac rfl nofun rfl (evn ?_))
    refine ls_keep [(4, .int .i64 (-1))] ⟨kr, trivial⟩ rfl ?_
    refine ls_ret ?_
    have hr := Option.some.inj h
    rw [← hr]
    exact ⟨.inl rfl, rfl⟩
  · refine ls_cF rfl g2 ?_
    refine ls_rs tbOk ?_
    refine evs (ev_mv (c := .int .i64 a0) rfl rfl rfl (evs (ev_mv (c := .int .i64 a1) rfl rfl rfl (evs (ev_bin (c1 := .int .i64 a0) (c2 := .int .i64 a1) rfl rfl rfl (evs (ev_as (c := .bool (decide (a1 < a0))) rfl rfl rfl (evn ?_))))))))
    refine ls_keep [(9, .bool (decide (a1 < a0)))] ⟨kr, trivial⟩ rfl ?_
    rcases cond_some h with ⟨g3, h⟩ | ⟨g3, h⟩
    · refine ls_cT rfl g3 ?_
      refine ls_rs tbOk ?_
      refine evs (ev_ac rfl nofun rfl (evn ?_))
      refine ls_keep [(4, .int .i64 1)] ⟨kr, trivial⟩ rfl ?_
      refine ls_ret ?_
      have hr := Option.some.inj h
      rw [← hr]
      exact ⟨.inl rfl, rfl⟩
    · refine ls_cF rfl g3 ?_
      refine ls_skip ?_
      refine hK1 _ (ls_keep [] trivial rfl ?_)
      refine ls_rs tbOk ?_
      refine evs (ev_ac rfl nofun rfl (evn ?_))
      refine ls_keep [(4, .int .i64 0)] ⟨kr, trivial⟩ rfl ?_
      refine ls_ret ?_
      have hr := Option.some.inj h
      rw [← hr]
      exact ⟨.inl rfl, rfl⟩
def impl_CompareRows_B1 (a0 : List Int) (a1 : List Int) (rec : Int → Option (Sum (Unit) (Int))) (y1 : Int) : Option (Sum (Unit) (Int)) := cond (decide (y1 < (List.length a0 : Int))) (cond (decide (y1 < (List.length a1 : Int))) (obind (geti a0 y1) fun e6 => obind (geti a1 y1) fun e8 => cond (e6 != e8) (obind (geti a0 y1) fun e11 => obind (geti a1 y1) fun e13 => obind (impl_compareInts e11 e13) fun v15 => some (.inr v15)) (rec (IntKind.i64.wrap (y1 + 1)))) (some (.inl ()))) (some (.inl ()))
def impl_CompareRows (a0 : List Int) (a1 : List Int) : Option (Int) := obind (loopF (impl_CompareRows_B1 a0 a1) fz 0) fun o1 => (match o1 with
  | .inl _ => (obind (impl_compareInts (List.length a0 : Int) (List.length a1 : Int)) fun v17 => some v17)
  | .inr r => some r)
theorem impl_CompareRows_s {a0 : List Int} {a1 : List Int} {r : Int} (h : impl_CompareRows a0 a1 = some r) : SoundAt Try.prog 168 [.dat a0.length (a0.flatMap ci64), .dat a1.length (a1.flatMap ci64)] (.int .i64 r) := by
  unfold impl_CompareRows at h
  refine sound_lit tbOk lit168 (Nat.le_of_ble_eq_true rfl) rfl ?_
  unfold c168
  refine ls_keep [(0, .dat a0.length (a0.flatMap ci64)), (1, .dat a1.length (a1.flatMap ci64))] ⟨kr, kr, trivial⟩ rfl ?_
  refine ls_rs tbOk ?_
  refine evs (ev_ac rfl nofun rfl (evn ?_))
  refine ls_keep [(0, .dat a0.length (a0.flatMap ci64)), (1, .dat a1.length (a1.flatMap ci64))] ⟨kr, kr, trivial⟩ rfl ?_
  refine ls_seq_k fun K1 hK1 => ?_
  refine ls_rs tbOk ?_
  refine evs (ev_ac rfl nofun rfl (evn ?_))
  refine ls_keep [(0, .dat a0.length (a0.flatMap ci64)), (1, .dat a1.length (a1.flatMap ci64)), (5, .int .i64 0)] ⟨kr, kr, kr, trivial⟩ rfl ?_
  obtain ⟨o1, hl, hr1⟩ := ob_some h
  clear h
  have kXimpl_CompareRows_B1 : ∀ (_ : Unit), (obind (impl_compareInts (List.length a0 : Int) (List.length a1 : Int)) fun v17 => some v17) = some r → ∀ σ' : PS, okK σ' [(0, .dat a0.length (a0.flatMap ci64)), (1, .dat a1.length (a1.flatMap ci64))] → K1 σ' := by
    intro _ h σ' hk
    refine hK1 _ (ls_keep [(0, .dat a0.length (a0.flatMap ci64)), (1, .dat a1.length (a1.flatMap ci64))] hk rfl ?_)
    refine ls_rs tbOk ?_
    refine evs (ev_mv (c := .dat a0.length (a0.flatMap ci64)) rfl rfl rfl (evs (ev_len (c1 := .dat a0.length (a0.flatMap ci64)) rfl rfl rfl (evs (ev_mv (c := .dat a1.length (a1.flatMap ci64)) rfl rfl rfl (evs (ev_len (c1 := .dat a1.length (a1.flatMap ci64)) rfl rfl rfl (?_))))))))
    obtain ⟨v17, g18, h⟩ := ob_some h
    refine evs (ev_call (era rfl rfl (era rfl rfl eran)) (impl_compareInts_s g18) (evs (ev_as (c := .int .i64 v17) rfl rfl rfl (evn ?_))))
    refine ls_keep [(4, .int .i64 v17)] ⟨kr, trivial⟩ rfl ?_
    refine ls_ret ?_
    have hr := Option.some.inj h
    rw [← hr]
    exact ⟨.inl rfl, rfl⟩
  refine ls_rec (fun (y1 : Int) => [(0, .dat a0.length (a0.flatMap ci64)), (1, .dat a1.length (a1.flatMap ci64)), (5, .int .i64 y1)]) (impl_CompareRows_B1 a0 a1) fz 0 o1 hl ⟨kr, kr, kr, trivial⟩ (fun _ => rfl) ?_
  rintro m y1 N h hN
  unfold impl_CompareRows_B1 at h
  refine ls_seq_k fun K2 hK2 => ?_
  refine ls_rs tbOk ?_
  refine evs (ev_mv (c := .int .i64 y1) rfl rfl rfl (evs (ev_mv (c := .dat a0.length (a0.flatMap ci64)) rfl rfl rfl (evs (ev_len (c1 := .dat a0.length (a0.flatMap ci64)) rfl rfl rfl (evs (ev_bin (c1 := .int .i64 y1) (c2 := .int .i64 (List.length a0 : Int)) rfl rfl rfl (evs (ev_mv (c := .bool (decide (y1 < (List.length a0 : Int)))) rfl rfl rfl (?_))))))))))
  rcases cond_some h with ⟨g3, h⟩ | ⟨g3, h⟩
  · refine evs (ev_gr rfl (congrArg V.bool g3) (ev_mv (c := .int .i64 y1) rfl rfl rfl (evs (ev_gr rfl (congrArg V.bool g3) (ev_mv (c := .dat a1.length (a1.flatMap ci64)) rfl rfl rfl (evs (ev_gr rfl (congrArg V.bool g3) (ev_len (c1 := .dat a1.length (a1.flatMap ci64)) rfl rfl rfl (evs (ev_gr rfl (congrArg V.bool g3) (ev_bin (c1 := .int .i64 y1) (c2 := .int .i64 (List.length a1 : Int)) rfl rfl rfl (evs (ev_pkT (c1 := .bool (decide (y1 < (List.length a1 : Int)))) rfl g3 rfl rfl (evn ?_))))))))))))))
    refine ls_keep [(0, .dat a0.length (a0.flatMap ci64)), (1, .dat a1.length (a1.flatMap ci64)), (5, .int .i64 y1), (15, .bool (decide (y1 < (List.length a1 : Int))))] ⟨kr, kr, kr, kr, trivial⟩ rfl ?_
    rcases cond_some h with ⟨g4, h⟩ | ⟨g4, h⟩
    · refine ls_cT rfl g4 ?_
      refine ls_skip ?_
      refine hK2 _ (ls_keep [(0, .dat a0.length (a0.flatMap ci64)), (1, .dat a1.length (a1.flatMap ci64)), (5, .int .i64 y1)] ⟨kr, kr, kr, trivial⟩ rfl ?_)
      refine ls_seq_k fun K5 hK5 => ?_
      refine ls_blk ?_
      refine ls_rd tbOk mixed (by kernel_rfl) ?_
      refine evd rfl rfl (ev_mv (c := .dat a0.length (a0.flatMap ci64)) rfl rfl rfl (evd rfl rfl (ev_mv (c := .int .i64 y1) rfl rfl rfl (?_))))
      obtain ⟨e6, g7, h⟩ := ob_some h
      refine evd rfl rfl (ev_ia rfl rfl rfl ⟨(geti_some g7).1, (geti_some g7).2.1⟩ (evd rfl rfl (ev_ldE (off := 0) (v := .int .i64 e6) rfl rfl zci64 g7 rfl (Nat.le_of_ble_eq_true rfl) rfl (evd rfl rfl (ev_mv (c := .dat a1.length (a1.flatMap ci64)) rfl rfl rfl (evd rfl rfl (ev_mv (c := .int .i64 y1) rfl rfl rfl (?_))))))))
      obtain ⟨e8, g9, h⟩ := ob_some h
      refine evd rfl rfl (ev_ia rfl rfl rfl ⟨(geti_some g9).1, (geti_some g9).2.1⟩ (evd rfl rfl (ev_ldE (off := 0) (v := .int .i64 e8) rfl rfl zci64 g9 rfl (Nat.le_of_ble_eq_true rfl) rfl (evd rfl rfl (ev_bin (c1 := .int .i64 e6) (c2 := .int .i64 e8) rfl rfl rfl (evdn ?_))))))
      refine ls_keep [(0, .dat a0.length (a0.flatMap ci64)), (1, .dat a1.length (a1.flatMap ci64)), (5, .int .i64 y1), (26, .bool (e6 != e8))] ⟨kr, kr, kr, kr, trivial⟩ rfl ?_
      rcases cond_some h with ⟨g10, h⟩ | ⟨g10, h⟩
      · refine ls_cT rfl g10 ?_
        refine ls_rd tbOk mixed (by kernel_rfl) ?_
        refine evd rfl rfl (ev_mv (c := .dat a0.length (a0.flatMap ci64)) rfl rfl rfl (evd rfl rfl (ev_mv (c := .int .i64 y1) rfl rfl rfl (?_))))
        obtain ⟨e11, g12, h⟩ := ob_some h
        refine evd rfl rfl (ev_ia rfl rfl rfl ⟨(geti_some g12).1, (geti_some g12).2.1⟩ (evd rfl rfl (ev_ldE (off := 0) (v := .int .i64 e11) rfl rfl zci64 g12 rfl (Nat.le_of_ble_eq_true rfl) rfl (evd rfl rfl (ev_mv (c := .dat a1.length (a1.flatMap ci64)) rfl rfl rfl (evd rfl rfl (ev_mv (c := .int .i64 y1) rfl rfl rfl (?_))))))))
        obtain ⟨e13, g14, h⟩ := ob_some h
        refine evd rfl rfl (ev_ia rfl rfl rfl ⟨(geti_some g14).1, (geti_some g14).2.1⟩ (evd rfl rfl (ev_ldE (off := 0) (v := .int .i64 e13) rfl rfl zci64 g14 rfl (Nat.le_of_ble_eq_true rfl) rfl (?_))))
        obtain ⟨v15, g16, h⟩ := ob_some h
        refine evd rfl rfl (ev_call (era rfl rfl (era rfl rfl eran)) (impl_compareInts_s g16) (evd rfl rfl (ev_as (c := .int .i64 v15) rfl rfl rfl (evdn ?_))))
        refine ls_keep [(4, .int .i64 v15)] ⟨kr, trivial⟩ rfl ?_
        refine ls_ret ?_
        have q0 := (Option.some.inj h).symm
        have r0 := hr1
        rw [q0] at r0
        have hr := Option.some.inj r0
        rw [← hr]
        exact ⟨.inl rfl, rfl⟩
      · refine ls_cF rfl g10 ?_
        refine ls_skip ?_
        refine hK5 _ (ls_keep [(0, .dat a0.length (a0.flatMap ci64)), (1, .dat a1.length (a1.flatMap ci64)), (5, .int .i64 y1)] ⟨kr, kr, kr, trivial⟩ rfl ?_)
        refine ls_rgn tbOk ?_
        refine evs (ev_mv (c := .int .i64 y1) rfl rfl rfl (evs (ev_bin (c1 := .int .i64 y1) (c2 := .int .i64 1) rfl rfl rfl (evs (ev_as (c := .int .i64 (IntKind.i64.wrap (y1 + 1))) rfl rfl rfl (evn ?_))))))
        exact hN _ (IntKind.i64.wrap (y1 + 1)) h ⟨kr, kr, kr, trivial⟩
    · refine ls_cF rfl g4 ?_
      refine ls_exit ?_
      have q0 := (Option.some.inj h).symm
      have r0 := hr1
      rw [q0] at r0
      exact kXimpl_CompareRows_B1 () r0 _ ⟨kr, kr, trivial⟩
  · refine evs (ev_gs rfl rfl (isb_F g3) (evs (ev_gs rfl rfl (isb_F g3) (evs (ev_gs rfl rfl (isb_F g3) (evs (ev_gs rfl rfl (isb_F g3) (evs (ev_pkF (c1 := .bool false) rfl g3 rfl rfl (evn ?_))))))))))
    refine ls_keep [(0, .dat a0.length (a0.flatMap ci64)), (1, .dat a1.length (a1.flatMap ci64)), (5, .int .i64 y1), (15, .bool false)] ⟨kr, kr, kr, kr, trivial⟩ rfl ?_
    refine ls_cF rfl rfl ?_
    refine ls_exit ?_
    have q0 := (Option.some.inj h).symm
    have r0 := hr1
    rw [q0] at r0
    exact kXimpl_CompareRows_B1 () r0 _ ⟨kr, kr, trivial⟩
def impl_rowsValid_J2 (rec : Int → Option (Sum (Unit) (Bool))) (y1 : Int) (x13 : Bool) : Option (Sum (Unit) (Bool)) := cond x13 (some (.inr false)) (rec (IntKind.i64.wrap (y1 + 1)))
def impl_rowsValid_B1 (a0 : Int) (a1 : List (List Int)) (rec : Int → Option (Sum (Unit) (Bool))) (y1 : Int) : Option (Sum (Unit) (Bool)) := cond (decide (y1 < (List.length a1 : Int))) (obind (geti a1 y1) fun e10 => cond ((List.length e10 : Int) != a0) (impl_rowsValid_J2 rec y1 true) (obind (impl_AreValidValues e10) fun v16 => cond (!v16) (impl_rowsValid_J2 rec y1 true) (cond (decide (0 < y1)) (obind (geti a1 (IntKind.i64.wrap (y1 - 1))) fun e20 => obind (impl_CompareRows e20 e10) fun v22 => impl_rowsValid_J2 rec y1 (decide (0 ≤ v22))) (impl_rowsValid_J2 rec y1 false)))) (some (.inl ()))
def impl_rowsValid (a0 : Int) (a1 : List (List Int)) : Option (Bool) := obind (impl_within a0 0 5) fun v2 => cond (!v2) (some false) (cond (decide (4000 < (List.length a1 : Int))) (some false) (obind (loopF (impl_rowsValid_B1 a0 a1) fz 0) fun o1 => (match o1 with
  | .inl _ => (some true)
  | .inr r => some r)))
theorem impl_rowsValid_s {a0 : Int} {a1 : List (List Int)} {r : Bool} (h : impl_rowsValid a0 a1 = some r) : SoundAt Try.prog 149 [.int .i64 a0, .dat a1.length (a1.flatMap c30_d)] (.bool r) := by
  unfold impl_rowsValid at h
  refine sound_lit tbOk lit149 (Nat.le_of_ble_eq_true rfl) rfl ?_
  unfold c149
  refine ls_keep [(0, .int .i64 a0), (1, .dat a1.length (a1.flatMap c30_d))] ⟨kr, kr, trivial⟩ rfl ?_
  refine ls_rs tbOk ?_
  refine evs (ev_ac rfl nofun rfl (evn ?_))
  refine ls_keep [(0, .int .i64 a0), (1, .dat a1.length (a1.flatMap c30_d))] ⟨kr, kr, trivial⟩ rfl ?_
  refine ls_seq_k fun K1 hK1 => ?_
  refine ls_rs tbOk ?_
  refine evs (ev_mv (c := .int .i64 a0) rfl rfl rfl (?_))
  obtain ⟨v2, g3, h⟩ := ob_some h
  refine evs (ev_call (era rfl rfl (era rfl rfl (era rfl rfl eran))) (impl_within_s g3) (evs (ev_un (c1 := .bool v2) rfl trivial (evs (ev_mv (c := .bool (!v2)) rfl rfl rfl (?_))))))
  rcases cond_some h with ⟨g4, h⟩ | ⟨g4, h⟩
  · refine evs (ev_gs rfl rfl (isb_T g4) (evs (ev_gs rfl rfl (isb_T g4) (evs (ev_gs rfl rfl (isb_T g4) (evs (ev_pkT (c1 := .bool true) rfl g4 rfl rfl (evn ?_))))))))
    refine ls_keep [(0, .int .i64 a0), (1, .dat a1.length (a1.flatMap c30_d)), (14, .bool true)] ⟨kr, kr, kr, trivial⟩ rfl ?_
    refine ls_cT rfl rfl ?_
    refine ls_rs tbOk ?_
    refine evs (ev_ac rfl nofun rfl (evn ?_))
    refine ls_keep [(4, .bool false)] ⟨kr, trivial⟩ rfl ?_
    refine ls_ret ?_
    have hr := Option.some.inj h
    rw [← hr]
    exact ⟨.inl rfl, rfl⟩
  · refine evs (ev_gr rfl (congrArg V.bool g4) (ev_mv (c := .dat a1.length (a1.flatMap c30_d)) rfl rfl rfl (evs (ev_gr rfl (congrArg V.bool g4) (ev_len (c1 := .dat a1.length (a1.flatMap c30_d)) rfl rfl rfl (evs (ev_gr rfl (congrArg V.bool g4) (ev_bin (c1 := .int .i64 (List.length a1 : Int)) (c2 := .int .i64 4000) rfl rfl rfl (evs (ev_pkF (c1 := .bool (decide (4000 < (List.length a1 : Int)))) rfl g4 rfl rfl (evn ?_)))))))))))
    refine ls_keep [(0, .int .i64 a0), (1, .dat a1.length (a1.flatMap c30_d)), (14, .bool (decide (4000 < (List.length a1 : Int))))] ⟨kr, kr, kr, trivial⟩ rfl ?_
    rcases cond_some h with ⟨g5, h⟩ | ⟨g5, h⟩
    · refine ls_cT rfl g5 ?_
      refine ls_rs tbOk ?_
      refine evs (ev_ac rfl nofun rfl (evn ?_))
      refine ls_keep [(4, .bool false)] ⟨kr, trivial⟩ rfl ?_
      refine ls_ret ?_
      have hr := Option.some.inj h
      rw [← hr]
      exact ⟨.inl rfl, rfl⟩
    · refine ls_cF rfl g5 ?_
      refine ls_skip ?_
      refine hK1 _ (ls_keep [(0, .int .i64 a0), (1, .dat a1.length (a1.flatMap c30_d))] ⟨kr, kr, trivial⟩ rfl ?_)
      refine ls_seq_k fun K6 hK6 => ?_
      refine ls_rs tbOk ?_
      refine evs (ev_mv (c := .dat a1.length (a1.flatMap c30_d)) rfl rfl rfl (evs (ev_len (c1 := .dat a1.length (a1.flatMap c30_d)) rfl rfl rfl (evs (ev_mc rfl rfl (evn ?_))))))
      refine ls_keep [(0, .int .i64 a0), (1, .dat a1.length (a1.flatMap c30_d)), (15, .dat a1.length (a1.flatMap c30_d)), (16, .int .i64 (List.length a1 : Int)), (17, .int .i64 0)] ⟨kr, kr, kr, kr, kr, trivial⟩ rfl ?_
      obtain ⟨o1, hl, hr1⟩ := ob_some h
      clear h
      have kXimpl_rowsValid_B1 : ∀ (_ : Unit), (some true) = some r → ∀ σ' : PS, okK σ' [] → K6 σ' := by
        intro _ h σ' hk
        refine hK6 _ (ls_keep [] hk rfl ?_)
        refine ls_rs tbOk ?_
        refine evs (ev_ac rfl nofun rfl (evn ?_))
        refine ls_keep [(4, .bool true)] ⟨kr, trivial⟩ rfl ?_
        refine ls_ret ?_
        have hr := Option.some.inj h
        rw [← hr]
        exact ⟨.inl rfl, rfl⟩
      refine ls_rec (fun (y1 : Int) => [(0, .int .i64 a0), (1, .dat a1.length (a1.flatMap c30_d)), (15, .dat a1.length (a1.flatMap c30_d)), (16, .int .i64 (List.length a1 : Int)), (17, .int .i64 y1)]) (impl_rowsValid_B1 a0 a1) fz 0 o1 hl ⟨kr, kr, kr, kr, kr, trivial⟩ (fun _ => rfl) ?_
      rintro m y1 N h hN
      unfold impl_rowsValid_B1 at h
      refine ls_rs tbOk ?_
      refine evs (ev_bin (c1 := .int .i64 y1) (c2 := .int .i64 (List.length a1 : Int)) rfl rfl rfl (evn ?_))
      refine ls_keep [(0, .int .i64 a0), (1, .dat a1.length (a1.flatMap c30_d)), (15, .dat a1.length (a1.flatMap c30_d)), (16, .int .i64 (List.length a1 : Int)), (17, .int .i64 y1), (18, .bool (decide (y1 < (List.length a1 : Int))))] ⟨kr, kr, kr, kr, kr, kr, trivial⟩ rfl ?_
      refine ls_seq_k fun K7 hK7 => ?_
      rcases cond_some h with ⟨g8, h⟩ | ⟨g8, h⟩
      · refine ls_cT rfl g8 ?_
        refine ls_skip ?_
        refine hK7 _ (ls_keep [(0, .int .i64 a0), (1, .dat a1.length (a1.flatMap c30_d)), (15, .dat a1.length (a1.flatMap c30_d)), (16, .int .i64 (List.length a1 : Int)), (17, .int .i64 y1)] ⟨kr, kr, kr, kr, kr, trivial⟩ rfl ?_)
        refine ls_seq_k fun K9 hK9 => ?_
        refine ls_blk ?_
        refine ls_rs tbOk ?_
        refine evs (ev_mv (c := .int .i64 y1) rfl rfl rfl (?_))
        obtain ⟨e10, g11, h⟩ := ob_some h
        refine evs (ev_ia rfl rfl rfl ⟨(geti_some g11).1, (geti_some g11).2.1⟩ (evs (ev_ldEt (off := 0) (v := .dat e10.length (e10.flatMap ci64)) rfl rfl zc30_d g11 rfl (Nat.le_of_ble_eq_true rfl) rfl (evs (ev_as (c := .int .i64 y1) rfl rfl rfl (evs (ev_as (c := .dat e10.length (e10.flatMap ci64)) rfl rfl rfl (evn ?_))))))))
        refine ls_keep [(0, .int .i64 a0), (1, .dat a1.length (a1.flatMap c30_d)), (5, .int .i64 y1), (6, .dat e10.length (e10.flatMap ci64)), (15, .dat a1.length (a1.flatMap c30_d)), (16, .int .i64 (List.length a1 : Int)), (17, .int .i64 y1)] ⟨kr, kr, kr, kr, kr, kr, kr, trivial⟩ rfl ?_
        refine ls_rs_k tbOk fun K12 hK12 => ?_
        have kimpl_rowsValid_J2 : ∀ (x13 : Bool), impl_rowsValid_J2 (loopF (impl_rowsValid_B1 a0 a1) m) y1 x13 = some o1 → ∀ σ' : PS, okK σ' [(0, .int .i64 a0), (1, .dat a1.length (a1.flatMap c30_d)), (15, .dat a1.length (a1.flatMap c30_d)), (16, .int .i64 (List.length a1 : Int)), (17, .int .i64 y1), (44, .bool x13)] → K12 σ' := by
          intro x13 h σ' hk
          unfold impl_rowsValid_J2 at h
          refine hK12 _ (ls_keep [(0, .int .i64 a0), (1, .dat a1.length (a1.flatMap c30_d)), (15, .dat a1.length (a1.flatMap c30_d)), (16, .int .i64 (List.length a1 : Int)), (17, .int .i64 y1), (44, .bool x13)] hk rfl ?_)
          rcases cond_some h with ⟨g14, h⟩ | ⟨g14, h⟩
          · refine ls_cT rfl g14 ?_
            refine ls_rs tbOk ?_
            refine evs (ev_ac rfl nofun rfl (evn ?_))
            refine ls_keep [(4, .bool false)] ⟨kr, trivial⟩ rfl ?_
            refine ls_ret ?_
            have q0 := (Option.some.inj h).symm
            have r0 := hr1
            rw [q0] at r0
            have hr := Option.some.inj r0
            rw [← hr]
            exact ⟨.inl rfl, rfl⟩
          · refine ls_cF rfl g14 ?_
            refine ls_skip ?_
            refine hK9 _ (ls_keep [(0, .int .i64 a0), (1, .dat a1.length (a1.flatMap c30_d)), (15, .dat a1.length (a1.flatMap c30_d)), (16, .int .i64 (List.length a1 : Int)), (17, .int .i64 y1)] ⟨kr, kr, kr, kr, kr, trivial⟩ rfl ?_)
            refine ls_rgn tbOk ?_
            refine evs (ev_bin (c1 := .int .i64 y1) (c2 := .int .i64 1) rfl rfl rfl (evs (ev_mv (c := .int .i64 (IntKind.i64.wrap (y1 + 1))) rfl rfl rfl (evn ?_))))
            exact hN _ (IntKind.i64.wrap (y1 + 1)) h ⟨kr, kr, kr, kr, kr, trivial⟩
        refine evs (ev_mv (c := .dat e10.length (e10.flatMap ci64)) rfl rfl rfl (evs (ev_len (c1 := .dat e10.length (e10.flatMap ci64)) rfl rfl rfl (evs (ev_mv (c := .int .i64 a0) rfl rfl rfl (evs (ev_bin (c1 := .int .i64 (List.length e10 : Int)) (c2 := .int .i64 a0) rfl rfl rfl (evs (ev_mv (c := .bool ((List.length e10 : Int) != a0)) rfl rfl rfl (?_))))))))))
        rcases cond_some h with ⟨g15, h⟩ | ⟨g15, h⟩
        · refine evs (ev_gs rfl rfl (isb_T g15) (evs (ev_gs rfl rfl (isb_T g15) (evs (ev_gs rfl rfl (isb_T g15) (evs (ev_pkT (c1 := .bool true) rfl g15 rfl rfl (evs (ev_mv (c := .bool true) rfl rfl rfl (evs (ev_gs rfl rfl rfl (evs (ev_gs rfl rfl rfl (evs (ev_gs rfl rfl rfl (evs (ev_gs rfl rfl rfl (evs (ev_gs rfl rfl rfl (evs (ev_gs rfl rfl rfl (evs (ev_gs rfl rfl rfl (evs (ev_gs rfl rfl rfl (evs (ev_gs rfl rfl rfl (evs (ev_gs rfl rfl rfl (evs (ev_gs rfl rfl rfl (evs (ev_gs rfl rfl rfl (evs (ev_pkT (c1 := .bool true) rfl rfl rfl rfl (evn ?_))))))))))))))))))))))))))))))))))))
          exact kimpl_rowsValid_J2 true h _ ⟨kr, kr, kr, kr, kr, kr, trivial⟩
        · refine evs (ev_gr rfl (congrArg V.bool g15) (ev_mv (c := .dat e10.length (e10.flatMap ci64)) rfl rfl rfl (?_)))
          obtain ⟨v16, g17, h⟩ := ob_some h
          refine evs (ev_gr rfl (congrArg V.bool g15) (ev_call (era rfl (erD eci64 _) eran) (impl_AreValidValues_s g17) (evs (ev_gr rfl (congrArg V.bool g15) (ev_un (c1 := .bool v16) rfl trivial (evs (ev_pkF (c1 := .bool (!v16)) rfl g15 rfl rfl (evs (ev_mv (c := .bool (!v16)) rfl rfl rfl (?_))))))))))
          rcases cond_some h with ⟨g18, h⟩ | ⟨g18, h⟩
          · refine evs (ev_gs rfl rfl (isb_T g18) (evs (ev_gs rfl rfl (isb_T g18) (evs (ev_gs rfl rfl (isb_T g18) (evs (ev_gs rfl rfl rfl (evs (ev_gs rfl rfl rfl (evs (ev_gs rfl rfl rfl (evs (ev_gs rfl rfl rfl (evs (ev_gs rfl rfl rfl (evs (ev_gs rfl rfl rfl (evs (ev_gs rfl rfl rfl (evs (ev_gs rfl rfl rfl (evs (ev_gs rfl rfl (isb_T g18) (evs (ev_pkT (c1 := .bool true) rfl g18 rfl rfl (evn ?_))))))))))))))))))))))))))
            exact kimpl_rowsValid_J2 true h _ ⟨kr, kr, kr, kr, kr, kr, trivial⟩
          · refine evs (ev_gr rfl (congrArg V.bool g18) (ev_mv (c := .int .i64 y1) rfl rfl rfl (evs (ev_gr rfl (congrArg V.bool g18) (ev_bin (c1 := .int .i64 y1) (c2 := .int .i64 0) rfl rfl rfl (evs (ev_gr rfl (congrArg V.bool g18) (ev_mv (c := .bool (decide (0 < y1))) rfl rfl rfl (?_)))))))))
            rcases cond_some h with ⟨g19, h⟩ | ⟨g19, h⟩
            · refine evs (ev_gr rfl (congrArg V.bool g19) (ev_mv (c := .dat a1.length (a1.flatMap c30_d)) rfl rfl rfl (evs (ev_gr rfl (congrArg V.bool g19) (ev_mv (c := .int .i64 y1) rfl rfl rfl (evs (ev_gr rfl (congrArg V.bool g19) (ev_bin (c1 := .int .i64 y1) (c2 := .int .i64 1) rfl rfl rfl (?_)))))))))
              obtain ⟨e20, g21, h⟩ := ob_some h
              refine evs (ev_gr rfl (congrArg V.bool g19) (ev_ia rfl rfl rfl ⟨(geti_some g21).1, (geti_some g21).2.1⟩ (evs (ev_gr rfl (congrArg V.bool g19) (ev_ldE (off := 0) (v := .dat e20.length (e20.flatMap ci64)) rfl rfl zc30_d g21 rfl (Nat.le_of_ble_eq_true rfl) rfl (evs (ev_gr rfl (congrArg V.bool g19) (ev_mv (c := .dat e10.length (e10.flatMap ci64)) rfl rfl rfl (?_)))))))))
              obtain ⟨v22, g23, h⟩ := ob_some h
              refine evs (ev_gr rfl (congrArg V.bool g19) (ev_call (era rfl (erD eci64 _) (era rfl (erD eci64 _) eran)) (impl_CompareRows_s g23) (evs (ev_gr rfl (congrArg V.bool g19) (ev_bin (c1 := .int .i64 v22) (c2 := .int .i64 0) rfl rfl rfl (evs (ev_gr rfl (congrArg V.bool g18) (ev_pkT (c1 := .bool (decide (0 ≤ v22))) rfl g19 rfl rfl (evs (ev_pkF (c1 := .bool (decide (0 ≤ v22))) rfl g18 rfl rfl (evn ?_)))))))))))
              exact kimpl_rowsValid_J2 (decide (0 ≤ v22)) h _ ⟨kr, kr, kr, kr, kr, kr, trivial⟩
            · refine evs (ev_gs rfl rfl (isb_F g19) (evs (ev_gs rfl rfl (isb_F g19) (evs (ev_gs rfl rfl (isb_F g19) (evs (ev_gs rfl rfl (isb_F g19) (evs (ev_gs rfl rfl (isb_F g19) (evs (ev_gs rfl rfl (isb_F g19) (evs (ev_gs rfl rfl (isb_F g19) (evs (ev_gs rfl rfl (isb_F g19) (evs (ev_gr rfl (congrArg V.bool g18) (ev_pkF (c1 := .bool false) rfl g19 rfl rfl (evs (ev_pkF (c1 := .bool false) rfl g18 rfl rfl (evn ?_)))))))))))))))))))))
              exact kimpl_rowsValid_J2 false h _ ⟨kr, kr, kr, kr, kr, kr, trivial⟩
      · refine ls_cF rfl g8 ?_
        refine ls_exit ?_
        have q0 := (Option.some.inj h).symm
        have r0 := hr1
        rw [q0] at r0
        exact kXimpl_rowsValid_B1 () r0 _ trivial
def impl_IsValidRelation (a0 : Int × (List (List Int))) : Option (Bool) := obind (impl_rowsValid a0.1 a0.2) fun v1 => some v1
theorem impl_IsValidRelation_s {a0 : Int × (List (List Int))} {r : Bool} (h : impl_IsValidRelation a0 = some r) : SoundAt Try.prog 103 [.agg [.int .i64 a0.1, .dat a0.2.length (a0.2.flatMap c30_d)]] (.bool r) := by
  unfold impl_IsValidRelation at h
  refine sound_lit tbOk lit103 (Nat.le_of_ble_eq_true rfl) rfl ?_
  unfold c103
  refine ls_keep [(0, .agg [.int .i64 a0.1, .dat a0.2.length (a0.2.flatMap c30_d)])] ⟨kr, trivial⟩ rfl ?_
  refine ls_rs tbOk ?_
  refine evs (ev_bx (c1 := .agg [.int .i64 a0.1, .dat a0.2.length (a0.2.flatMap c30_d)]) rfl rfl rfl (evs (ev_ac rfl nofun rfl (evn ?_))))
  refine ls_keep [(1, .box [.int .i64 a0.1, .dat a0.2.length (a0.2.flatMap c30_d)])] ⟨kr, trivial⟩ rfl ?_
  refine ls_rs tbOk ?_
  refine evs (ev_fa (c1 := .cref 1 0) (v := .cref 1 0) rfl rfl rfl ⟨_, rfl⟩ rfl (evs (ev_ldB (off := 0) (v := .int .i64 a0.1) rfl rfl rfl rfl (Nat.le_of_ble_eq_true rfl) rfl (evs (ev_fa (c1 := .cref 1 0) (v := .cref 1 1) rfl rfl rfl ⟨_, rfl⟩ rfl (evs (ev_ldB (off := 1) (v := .dat a0.2.length (a0.2.flatMap c30_d)) rfl rfl rfl rfl (Nat.le_of_ble_eq_true rfl) rfl (?_))))))))
  obtain ⟨v1, g2, h⟩ := ob_some h
  refine evs (ev_call (era rfl rfl (era rfl (erD ec30_d _) eran)) (impl_rowsValid_s g2) (evs (ev_as (c := .bool v1) rfl rfl rfl (evn ?_))))
  refine ls_keep [(2, .bool v1)] ⟨kr, trivial⟩ rfl ?_
  refine ls_ret ?_
  have hr := Option.some.inj h
  rw [← hr]
  exact ⟨.inl rfl, rfl⟩
def impl_ColumnDegrees_B1 (a0 : Int × (List (List Int))) (a1 : Int) (rec : ((List Int) × Int) → Option ((List Int))) (s : (List Int) × Int) : Option ((List Int)) := match s with
  | (y1, y2) => cond (decide (y2 < (List.length a0.2 : Int))) (obind (geti a0.2 y2) fun e14 => obind (geti e14 a1) fun e16 => obind (geti y1 e16) fun e18 => obind (geti y1 e16) fun e20 => rec ((seti y1 e16 (IntKind.i64.wrap (e18 + 1))), (IntKind.i64.wrap (y2 + 1)))) (some y1)
def impl_ColumnDegrees_J3 (rec : ((List Int) × (List Int) × Int) → Option ((List Int) × (List Int))) (y5 : Int) (x30 : List Int) (x31 : List Int) : Option ((List Int) × (List Int)) := rec (x30, x31, (IntKind.i64.wrap (y5 + 1)))
def impl_ColumnDegrees_B2 (z10 : List Int) (rec : ((List Int) × (List Int) × Int) → Option ((List Int) × (List Int))) (s : (List Int) × (List Int) × Int) : Option ((List Int) × (List Int)) := match s with
  | (y3, y4, y5) => cond (decide (y5 < (List.length z10 : Int))) (obind (geti z10 y5) fun e28 => cond (decide (0 < e28)) (chk (List.length y3 + List.length [y5] ≤ lim) (chk (List.length y4 + List.length [e28] ≤ lim) (impl_ColumnDegrees_J3 rec y5 (y3 ++ [y5]) (y4 ++ [e28])))) (impl_ColumnDegrees_J3 rec y5 y3 y4)) (some (y3, y4))
def impl_ColumnDegrees (a0 : Int × (List (List Int))) (a1 : Int) : Option ((List Int) × (List Int)) := obind (impl_IsValidRelation a0) fun v2 => cond (!v2) (some (([] : List Int), ([] : List Int))) (obind (impl_within a1 0 (IntKind.i64.wrap (a0.1 - 1))) fun v5 => cond (!v5) (some (([] : List Int), ([] : List Int))) (chk ((0 : Int) ≤ 100 ∧ Int.toNat 100 ≤ lim) (obind (loopF (impl_ColumnDegrees_B1 a0 a1) fz ((List.replicate (Int.toNat 100) (0 : Int)), 0)) fun z10 => obind (loopF (impl_ColumnDegrees_B2 z10) fz (([] : List Int), ([] : List Int), 0)) fun o2 => (match o2 with
  | (z23, z24) => (some (z23, z24))))))
theorem impl_ColumnDegrees_s {a0 : Int × (List (List Int))} {a1 : Int} {r : (List Int) × (List Int)} (h : impl_ColumnDegrees a0 a1 = some r) : SoundAt Try.prog 38 [.agg [.int .i64 a0.1, .dat a0.2.length (a0.2.flatMap c30_d)], .int .i64 a1] (.tup [.own 3 r.1.length (r.1.flatMap ci64), .own 3 r.2.length (r.2.flatMap ci64)]) := by
  unfold impl_ColumnDegrees at h
  refine sound_lit tbOk lit38 (Nat.le_of_ble_eq_true rfl) rfl ?_
  unfold c38
  refine ls_keep [(0, .agg [.int .i64 a0.1, .dat a0.2.length (a0.2.flatMap c30_d)]), (1, .int .i64 a1)] ⟨kr, kr, trivial⟩ rfl ?_
  refine ls_rs tbOk ?_
  refine evs (ev_bx (c1 := .agg [.int .i64 a0.1, .dat a0.2.length (a0.2.flatMap c30_d)]) rfl rfl rfl (evs (ev_an rfl rfl (evs (ev_an rfl rfl (evn ?_))))))
  refine ls_keep [(1, .int .i64 a1), (2, .box [.int .i64 a0.1, .dat a0.2.length (a0.2.flatMap c30_d)])] ⟨kr, kr, trivial⟩ rfl ?_
  refine ls_seq_k fun K1 hK1 => ?_
  refine ls_rs tbOk ?_
  refine evs (ev_ldB (off := 0) (v := .agg [.int .i64 a0.1, .dat a0.2.length (a0.2.flatMap c30_d)]) rfl rfl rfl rfl (Nat.le_of_ble_eq_true rfl) rfl (?_))
  obtain ⟨v2, g3, h⟩ := ob_some h
  refine evs (ev_call (era rfl (erg (erc rfl (erc (erD ec30_d _) rfl))) eran) (impl_IsValidRelation_s g3) (evs (ev_un (c1 := .bool v2) rfl trivial (evs (ev_mv (c := .bool (!v2)) rfl rfl rfl (?_))))))
  rcases cond_some h with ⟨g4, h⟩ | ⟨g4, h⟩
  · refine evs (ev_gs rfl rfl (isb_T g4) (evs (ev_gs rfl rfl (isb_T g4) (evs (ev_gs rfl rfl (isb_T g4) (evs (ev_gs rfl rfl (isb_T g4) (evs (ev_gs rfl rfl (isb_T g4) (evs (ev_gs rfl rfl (isb_T g4) (evs (ev_pkT (c1 := .bool true) rfl g4 rfl rfl (evn ?_))))))))))))))
    refine ls_keep [(1, .int .i64 a1), (2, .box [.int .i64 a0.1, .dat a0.2.length (a0.2.flatMap c30_d)]), (23, .bool true)] ⟨kr, kr, kr, trivial⟩ rfl ?_
    refine ls_cT rfl rfl ?_
    refine ls_rs tbOk ?_
    refine evs (ev_an rfl rfl (evs (ev_an rfl rfl (evn ?_))))
    refine ls_keep [(4, .own 3 ([] : List Int).length (([] : List Int).flatMap ci64)), (5, .own 3 ([] : List Int).length (([] : List Int).flatMap ci64))] ⟨kr, kr, trivial⟩ rfl ?_
    refine ls_ret ?_
    have hr := Option.some.inj h
    rw [← hr]
    exact ⟨.inl rfl, rfl⟩
  · refine evs (ev_gr rfl (congrArg V.bool g4) (ev_mv (c := .int .i64 a1) rfl rfl rfl (evs (ev_gr rfl (congrArg V.bool g4) (ev_fa (c1 := .cref 2 0) (v := .cref 2 0) rfl rfl rfl ⟨_, rfl⟩ rfl (evs (ev_gr rfl (congrArg V.bool g4) (ev_ldB (off := 0) (v := .int .i64 a0.1) rfl rfl rfl rfl (Nat.le_of_ble_eq_true rfl) rfl (evs (ev_gr rfl (congrArg V.bool g4) (ev_bin (c1 := .int .i64 a0.1) (c2 := .int .i64 1) rfl rfl rfl (?_))))))))))))
    obtain ⟨v5, g6, h⟩ := ob_some h
    refine evs (ev_gr rfl (congrArg V.bool g4) (ev_call (era rfl rfl (era rfl rfl (era rfl rfl eran))) (impl_within_s g6) (evs (ev_gr rfl (congrArg V.bool g4) (ev_un (c1 := .bool v5) rfl trivial (evs (ev_pkF (c1 := .bool (!v5)) rfl g4 rfl rfl (evn ?_))))))))
    refine ls_keep [(1, .int .i64 a1), (2, .box [.int .i64 a0.1, .dat a0.2.length (a0.2.flatMap c30_d)]), (23, .bool (!v5))] ⟨kr, kr, kr, trivial⟩ rfl ?_
    rcases cond_some h with ⟨g7, h⟩ | ⟨g7, h⟩
    · refine ls_cT rfl g7 ?_
      refine ls_rs tbOk ?_
      refine evs (ev_an rfl rfl (evs (ev_an rfl rfl (evn ?_))))
      refine ls_keep [(4, .own 3 ([] : List Int).length (([] : List Int).flatMap ci64)), (5, .own 3 ([] : List Int).length (([] : List Int).flatMap ci64))] ⟨kr, kr, trivial⟩ rfl ?_
      refine ls_ret ?_
      have hr := Option.some.inj h
      rw [← hr]
      exact ⟨.inl rfl, rfl⟩
    · refine ls_cF rfl g7 ?_
      refine ls_skip ?_
      refine hK1 _ (ls_keep [(1, .int .i64 a1), (2, .box [.int .i64 a0.1, .dat a0.2.length (a0.2.flatMap c30_d)])] ⟨kr, kr, trivial⟩ rfl ?_)
      refine ls_rs tbOk ?_
      obtain ⟨g8, h⟩ := chk_some h
      refine evs (ev_mku (f := ci64) (z := (0 : Int)) rfl rfl rfl rfl rfl rfl g8 rfl (evs (ev_asu rfl rfl rfl (evn ?_))))
      refine ls_keep [(1, .int .i64 a1), (2, .box [.int .i64 a0.1, .dat a0.2.length (a0.2.flatMap c30_d)]), (6, .uni 3 (List.replicate (Int.toNat 100) (0 : Int)).length ((List.replicate (Int.toNat 100) (0 : Int)).flatMap ci64))] ⟨kr, kr, kr, trivial⟩ rfl ?_
      refine ls_seq_k fun K9 hK9 => ?_
      refine ls_rs tbOk ?_
      refine evs (ev_fa (c1 := .cref 2 0) (v := .cref 2 1) rfl rfl rfl ⟨_, rfl⟩ rfl (evs (ev_ldB (off := 1) (v := .dat a0.2.length (a0.2.flatMap c30_d)) rfl rfl rfl rfl (Nat.le_of_ble_eq_true rfl) rfl (evs (ev_len (c1 := .dat a0.2.length (a0.2.flatMap c30_d)) rfl rfl rfl (evs (ev_mc rfl rfl (evn ?_))))))))
      refine ls_keep [(1, .int .i64 a1), (6, .uni 3 (List.replicate (Int.toNat 100) (0 : Int)).length ((List.replicate (Int.toNat 100) (0 : Int)).flatMap ci64)), (26, .dat a0.2.length (a0.2.flatMap c30_d)), (27, .int .i64 (List.length a0.2 : Int)), (28, .int .i64 0)] ⟨kr, kr, kr, kr, kr, trivial⟩ rfl ?_
      obtain ⟨o1, hl, hr1⟩ := ob_some h
      clear h
      have kXimpl_ColumnDegrees_B1 : ∀ (z10 : List Int), (obind (loopF (impl_ColumnDegrees_B2 z10) fz (([] : List Int), ([] : List Int), 0)) fun o2 => (match o2 with
  | (z23, z24) => (some (z23, z24)))) = some r → ∀ σ' : PS, okK σ' [(6, .uni 3 z10.length (z10.flatMap ci64))] → K9 σ' := by
        intro z10 h σ' hk
        refine hK9 _ (ls_keep [(6, .uni 3 z10.length (z10.flatMap ci64))] hk rfl ?_)
        refine ls_rs tbOk ?_
        refine evs (ev_an rfl rfl (evs (ev_an rfl rfl (evn ?_))))
        refine ls_keep [(6, .uni 3 z10.length (z10.flatMap ci64)), (9, .own 3 ([] : List Int).length (([] : List Int).flatMap ci64)), (10, .own 3 ([] : List Int).length (([] : List Int).flatMap ci64))] ⟨kr, kr, kr, trivial⟩ rfl ?_
        refine ls_seq_k fun K22 hK22 => ?_
        refine ls_rs tbOk ?_
        refine evs (ev_mvu rfl rfl (evs (ev_lenu rfl rfl rfl (evs (ev_mc rfl rfl (evn ?_))))))
        refine ls_keep [(6, .uni 3 z10.length (z10.flatMap ci64)), (9, .own 3 ([] : List Int).length (([] : List Int).flatMap ci64)), (10, .own 3 ([] : List Int).length (([] : List Int).flatMap ci64)), (42, .same 6), (43, .int .i64 (List.length z10 : Int)), (44, .int .i64 0)] ⟨kr, kr, kr, kr, kr, kr, trivial⟩ rfl ?_
        obtain ⟨o2, hl, hr2⟩ := ob_some h
        clear h
        have kXimpl_ColumnDegrees_B2 : ∀ (z23 : List Int) (z24 : List Int), (some (z23, z24)) = some r → ∀ σ' : PS, okK σ' [(9, .own 3 z23.length (z23.flatMap ci64)), (10, .own 3 z24.length (z24.flatMap ci64))] → K22 σ' := by
          intro z23 z24 h σ' hk
          refine hK22 _ (ls_keep [(9, .own 3 z23.length (z23.flatMap ci64)), (10, .own 3 z24.length (z24.flatMap ci64))] hk rfl ?_)
          refine ls_rs tbOk ?_
          refine evs (ev_mvt (c := .own 3 z23.length (z23.flatMap ci64)) rfl rfl rfl (evs (ev_mvt (c := .own 3 z24.length (z24.flatMap ci64)) rfl rfl rfl (evs (ev_as (c := .own 3 z23.length (z23.flatMap ci64)) rfl rfl rfl (evs (ev_as (c := .own 3 z24.length (z24.flatMap ci64)) rfl rfl rfl (evn ?_))))))))
          refine ls_keep [(4, .own 3 z23.length (z23.flatMap ci64)), (5, .own 3 z24.length (z24.flatMap ci64))] ⟨kr, kr, trivial⟩ rfl ?_
          refine ls_ret ?_
          have hr := Option.some.inj h
          rw [← hr]
          exact ⟨.inl rfl, rfl⟩
        refine ls_rec (fun (s : (List Int) × (List Int) × Int) => match s with | (y3, y4, y5) => [(6, .uni 3 z10.length (z10.flatMap ci64)), (9, .own 3 y3.length (y3.flatMap ci64)), (10, .own 3 y4.length (y4.flatMap ci64)), (42, .same 6), (43, .int .i64 (List.length z10 : Int)), (44, .int .i64 y5)]) (impl_ColumnDegrees_B2 z10) fz (([] : List Int), ([] : List Int), 0) o2 hl ⟨kr, kr, kr, kr, kr, kr, trivial⟩ (fun _ => rfl) ?_
        rintro m ⟨y3, y4, y5⟩ N h hN
        unfold impl_ColumnDegrees_B2 at h
        dsimp only at h
        refine ls_rs tbOk ?_
        refine evs (ev_bin (c1 := .int .i64 y5) (c2 := .int .i64 (List.length z10 : Int)) rfl rfl rfl (evn ?_))
        refine ls_keep [(6, .uni 3 z10.length (z10.flatMap ci64)), (9, .own 3 y3.length (y3.flatMap ci64)), (10, .own 3 y4.length (y4.flatMap ci64)), (42, .same 6), (43, .int .i64 (List.length z10 : Int)), (44, .int .i64 y5), (45, .bool (decide (y5 < (List.length z10 : Int))))] ⟨kr, kr, kr, kr, kr, kr, kr, trivial⟩ rfl ?_
        refine ls_seq_k fun K25 hK25 => ?_
        rcases cond_some h with ⟨g26, h⟩ | ⟨g26, h⟩
        · refine ls_cT rfl g26 ?_
          refine ls_skip ?_
          refine hK25 _ (ls_keep [(6, .uni 3 z10.length (z10.flatMap ci64)), (9, .own 3 y3.length (y3.flatMap ci64)), (10, .own 3 y4.length (y4.flatMap ci64)), (42, .same 6), (43, .int .i64 (List.length z10 : Int)), (44, .int .i64 y5)] ⟨kr, kr, kr, kr, kr, kr, trivial⟩ rfl ?_)
          refine ls_seq_k fun K27 hK27 => ?_
          refine ls_blk ?_
          refine ls_rs tbOk ?_
          refine evs (ev_mv (c := .int .i64 y5) rfl rfl rfl (?_))
          obtain ⟨e28, g29, h⟩ := ob_some h
          refine evs (ev_iau rfl rfl rfl rfl ⟨(geti_some g29).1, (geti_some g29).2.1⟩ (evs (ev_ldU (off := 0) (v := .int .i64 e28) rfl rfl rfl zci64 g29 rfl (Nat.le_of_ble_eq_true rfl) rfl (evs (ev_as (c := .int .i64 y5) rfl rfl rfl (evs (ev_as (c := .int .i64 e28) rfl rfl rfl (evn ?_))))))))
          refine ls_keep [(6, .uni 3 z10.length (z10.flatMap ci64)), (9, .own 3 y3.length (y3.flatMap ci64)), (10, .own 3 y4.length (y4.flatMap ci64)), (11, .int .i64 y5), (12, .int .i64 e28), (42, .same 6), (43, .int .i64 (List.length z10 : Int)), (44, .int .i64 y5)] ⟨kr, kr, kr, kr, kr, kr, kr, kr, trivial⟩ rfl ?_
          refine ls_rs tbOk ?_
          refine evs (ev_mv (c := .int .i64 e28) rfl rfl rfl (evs (ev_bin (c1 := .int .i64 e28) (c2 := .int .i64 0) rfl rfl rfl (evn ?_))))
          refine ls_keep [(6, .uni 3 z10.length (z10.flatMap ci64)), (9, .own 3 y3.length (y3.flatMap ci64)), (10, .own 3 y4.length (y4.flatMap ci64)), (11, .int .i64 y5), (12, .int .i64 e28), (42, .same 6), (43, .int .i64 (List.length z10 : Int)), (44, .int .i64 y5), (50, .bool (decide (0 < e28)))] ⟨kr, kr, kr, kr, kr, kr, kr, kr, kr, trivial⟩ rfl ?_
          have kimpl_ColumnDegrees_J3 : ∀ (x30 : List Int) (x31 : List Int), impl_ColumnDegrees_J3 (loopF (impl_ColumnDegrees_B2 z10) m) y5 x30 x31 = some o2 → ∀ σ' : PS, okK σ' [(6, .uni 3 z10.length (z10.flatMap ci64)), (9, .own 3 x30.length (x30.flatMap ci64)), (10, .own 3 x31.length (x31.flatMap ci64)), (42, .same 6), (43, .int .i64 (List.length z10 : Int)), (44, .int .i64 y5)] → K27 σ' := by
            intro x30 x31 h σ' hk
            unfold impl_ColumnDegrees_J3 at h
            refine hK27 _ (ls_keep [(6, .uni 3 z10.length (z10.flatMap ci64)), (9, .own 3 x30.length (x30.flatMap ci64)), (10, .own 3 x31.length (x31.flatMap ci64)), (42, .same 6), (43, .int .i64 (List.length z10 : Int)), (44, .int .i64 y5)] hk rfl ?_)
            refine ls_rgn tbOk ?_
            refine evs (ev_bin (c1 := .int .i64 y5) (c2 := .int .i64 1) rfl rfl rfl (evs (ev_mv (c := .int .i64 (IntKind.i64.wrap (y5 + 1))) rfl rfl rfl (evn ?_))))
            exact hN _ (x30, x31, (IntKind.i64.wrap (y5 + 1))) h ⟨kr, kr, kr, kr, kr, kr, trivial⟩
          rcases cond_some h with ⟨g32, h⟩ | ⟨g32, h⟩
          · refine ls_cT rfl g32 ?_
            refine ls_rs tbOk ?_
            refine evs (ev_mvt (c := .own 3 y3.length (y3.flatMap ci64)) rfl rfl rfl (evs (ev_mv (c := .int .i64 y5) rfl rfl rfl (evs (ev_bs [.int .i64 y5] (cs := [.int .i64 y5]) rfl ⟨rfl, trivial⟩ rfl (Nat.le_of_ble_eq_true rfl) rfl (?_))))))
            obtain ⟨g33, h⟩ := chk_some h
            refine evs (ev_app (f := ci64) (l := y3) (m := [y5]) (c2 := .own 3 [y5].length ([y5].flatMap ci64)) rfl rfl rfl (flat_len zci64 [y5]) rfl rfl g33 rfl (evs (ev_as (c := .own 3 (y3 ++ [y5]).length ((y3 ++ [y5]).flatMap ci64)) rfl rfl rfl (evn ?_))))
            refine ls_keep [(6, .uni 3 z10.length (z10.flatMap ci64)), (9, .own 3 (y3 ++ [y5]).length ((y3 ++ [y5]).flatMap ci64)), (10, .own 3 y4.length (y4.flatMap ci64)), (12, .int .i64 e28), (42, .same 6), (43, .int .i64 (List.length z10 : Int)), (44, .int .i64 y5)] ⟨kr, kr, kr, kr, kr, kr, kr, trivial⟩ rfl ?_
            refine ls_rgn tbOk ?_
            refine evs (ev_mvt (c := .own 3 y4.length (y4.flatMap ci64)) rfl rfl rfl (evs (ev_mv (c := .int .i64 e28) rfl rfl rfl (evs (ev_bs [.int .i64 e28] (cs := [.int .i64 e28]) rfl ⟨rfl, trivial⟩ rfl (Nat.le_of_ble_eq_true rfl) rfl (?_))))))
            obtain ⟨g34, h⟩ := chk_some h
            refine evs (ev_app (f := ci64) (l := y4) (m := [e28]) (c2 := .own 3 [e28].length ([e28].flatMap ci64)) rfl rfl rfl (flat_len zci64 [e28]) rfl rfl g34 rfl (evs (ev_as (c := .own 3 (y4 ++ [e28]).length ((y4 ++ [e28]).flatMap ci64)) rfl rfl rfl (evn ?_))))
            exact kimpl_ColumnDegrees_J3 (y3 ++ [y5]) (y4 ++ [e28]) h _ ⟨kr, kr, kr, kr, kr, kr, trivial⟩
          · refine ls_cF rfl g32 ?_
            refine ls_skip ?_
            exact kimpl_ColumnDegrees_J3 y3 y4 h _ ⟨kr, kr, kr, kr, kr, kr, trivial⟩
        · refine ls_cF rfl g26 ?_
          refine ls_exit ?_
          have q0 := (Option.some.inj h).symm
          have r0 := hr2
          rw [q0] at r0
          exact kXimpl_ColumnDegrees_B2 y3 y4 r0 _ ⟨kr, kr, trivial⟩
      refine ls_rec (fun (s : (List Int) × Int) => match s with | (y1, y2) => [(1, .int .i64 a1), (6, .uni 3 y1.length (y1.flatMap ci64)), (26, .dat a0.2.length (a0.2.flatMap c30_d)), (27, .int .i64 (List.length a0.2 : Int)), (28, .int .i64 y2)]) (impl_ColumnDegrees_B1 a0 a1) fz ((List.replicate (Int.toNat 100) (0 : Int)), 0) o1 hl ⟨kr, kr, kr, kr, kr, trivial⟩ (fun _ => rfl) ?_
      rintro m ⟨y1, y2⟩ N h hN
      unfold impl_ColumnDegrees_B1 at h
      dsimp only at h
      refine ls_rs tbOk ?_
      refine evs (ev_bin (c1 := .int .i64 y2) (c2 := .int .i64 (List.length a0.2 : Int)) rfl rfl rfl (evn ?_))
      refine ls_keep [(1, .int .i64 a1), (6, .uni 3 y1.length (y1.flatMap ci64)), (26, .dat a0.2.length (a0.2.flatMap c30_d)), (27, .int .i64 (List.length a0.2 : Int)), (28, .int .i64 y2), (29, .bool (decide (y2 < (List.length a0.2 : Int))))] ⟨kr, kr, kr, kr, kr, kr, trivial⟩ rfl ?_
      refine ls_seq_k fun K11 hK11 => ?_
      rcases cond_some h with ⟨g12, h⟩ | ⟨g12, h⟩
      · refine ls_cT rfl g12 ?_
        refine ls_skip ?_
        refine hK11 _ (ls_keep [(1, .int .i64 a1), (6, .uni 3 y1.length (y1.flatMap ci64)), (26, .dat a0.2.length (a0.2.flatMap c30_d)), (27, .int .i64 (List.length a0.2 : Int)), (28, .int .i64 y2)] ⟨kr, kr, kr, kr, kr, trivial⟩ rfl ?_)
        refine ls_seq_k fun K13 hK13 => ?_
        refine ls_blk ?_
        refine ls_rs tbOk ?_
        obtain ⟨e14, g15, h⟩ := ob_some h
        refine evs (ev_ia rfl rfl rfl ⟨(geti_some g15).1, (geti_some g15).2.1⟩ (evs (ev_ldEt (off := 0) (v := .dat e14.length (e14.flatMap ci64)) rfl rfl zc30_d g15 rfl (Nat.le_of_ble_eq_true rfl) rfl (evs (ev_as (c := .dat e14.length (e14.flatMap ci64)) rfl rfl rfl (evn ?_))))))
        refine ls_keep [(1, .int .i64 a1), (6, .uni 3 y1.length (y1.flatMap ci64)), (8, .dat e14.length (e14.flatMap ci64)), (26, .dat a0.2.length (a0.2.flatMap c30_d)), (27, .int .i64 (List.length a0.2 : Int)), (28, .int .i64 y2)] ⟨kr, kr, kr, kr, kr, kr, trivial⟩ rfl ?_
        refine ls_rgn tbOk ?_
        refine evs (ev_mvu rfl rfl (evs (ev_mv (c := .dat e14.length (e14.flatMap ci64)) rfl rfl rfl (evs (ev_mv (c := .int .i64 a1) rfl rfl rfl (?_))))))
        obtain ⟨e16, g17, h⟩ := ob_some h
        refine evs (ev_ia rfl rfl rfl ⟨(geti_some g17).1, (geti_some g17).2.1⟩ (evs (ev_ldE (off := 0) (v := .int .i64 e16) rfl rfl zci64 g17 rfl (Nat.le_of_ble_eq_true rfl) rfl (?_))))
        obtain ⟨e18, g19, h⟩ := ob_some h
        refine evs (ev_iau rfl rfl rfl rfl ⟨(geti_some g19).1, (geti_some g19).2.1⟩ (evs (ev_ldU (off := 0) (v := .int .i64 e18) rfl rfl rfl zci64 g19 rfl (Nat.le_of_ble_eq_true rfl) rfl (evs (ev_bin (c1 := .int .i64 e18) (c2 := .int .i64 1) rfl rfl rfl (?_))))))
        obtain ⟨e20, g21, h⟩ := ob_some h
        refine evs (ev_iau rfl rfl rfl rfl ⟨(geti_some g21).1, (geti_some g21).2.1⟩ (evs (ev_stu (e := IntKind.i64.wrap (e18 + 1)) (c1 := .int .i64 (IntKind.i64.wrap (e18 + 1))) rfl rfl zci64 ⟨(geti_some g21).1, (geti_some g21).2.1⟩ rfl rfl rfl rfl rfl (evn ?_))))
        refine hK13 _ (ls_keep [(1, .int .i64 a1), (6, .uni 3 (seti y1 e16 (IntKind.i64.wrap (e18 + 1))).length ((seti y1 e16 (IntKind.i64.wrap (e18 + 1))).flatMap ci64)), (26, .dat a0.2.length (a0.2.flatMap c30_d)), (27, .int .i64 (List.length a0.2 : Int)), (28, .int .i64 y2)] ⟨kr, kr, kr, kr, kr, trivial⟩ rfl ?_)
        refine ls_rgn tbOk ?_
        refine evs (ev_bin (c1 := .int .i64 y2) (c2 := .int .i64 1) rfl rfl rfl (evs (ev_mv (c := .int .i64 (IntKind.i64.wrap (y2 + 1))) rfl rfl rfl (evn ?_))))
        exact hN _ ((seti y1 e16 (IntKind.i64.wrap (e18 + 1))), (IntKind.i64.wrap (y2 + 1))) h ⟨kr, kr, kr, kr, kr, trivial⟩
      · refine ls_cF rfl g12 ?_
        refine ls_exit ?_
        have q0 := (Option.some.inj h).symm
        have r0 := hr1
        rw [q0] at r0
        exact kXimpl_ColumnDegrees_B1 y1 r0 _ ⟨kr, trivial⟩
def impl_indexOf_B1 (a0 : List Int) (a1 : Int) (rec : Int → Option (Sum (Unit) (Int))) (y1 : Int) : Option (Sum (Unit) (Int)) := cond (decide (y1 < (List.length a0 : Int))) (obind (geti a0 y1) fun e5 => cond (e5 == a1) (some (.inr y1)) (rec (IntKind.i64.wrap (y1 + 1)))) (some (.inl ()))
def impl_indexOf (a0 : List Int) (a1 : Int) : Option (Int) := obind (loopF (impl_indexOf_B1 a0 a1) fz 0) fun o1 => (match o1 with
  | .inl _ => (some (-1))
  | .inr r => some r)
theorem impl_indexOf_s {a0 : List Int} {a1 : Int} {r : Int} (h : impl_indexOf a0 a1 = some r) : SoundAt Try.prog 104 [.dat a0.length (a0.flatMap ci64), .int .i64 a1] (.int .i64 r) := by
  unfold impl_indexOf at h
  refine sound_lit tbOk lit104 (Nat.le_of_ble_eq_true rfl) rfl ?_
  unfold c104
  refine ls_keep [(0, .dat a0.length (a0.flatMap ci64)), (1, .int .i64 a1)] ⟨kr, kr, trivial⟩ rfl ?_
  refine ls_rs tbOk ?_
  refine evs (ev_ac rfl nofun rfl (evn ?_))
  refine ls_keep [(0, .dat a0.length (a0.flatMap ci64)), (1, .int .i64 a1)] ⟨kr, kr, trivial⟩ rfl ?_
  refine ls_seq_k fun K1 hK1 => ?_
  refine ls_rs tbOk ?_
  refine evs (ev_mv (c := .dat a0.length (a0.flatMap ci64)) rfl rfl rfl (evs (ev_len (c1 := .dat a0.length (a0.flatMap ci64)) rfl rfl rfl (evs (ev_mc rfl rfl (evn ?_))))))
  refine ls_keep [(1, .int .i64 a1), (7, .dat a0.length (a0.flatMap ci64)), (8, .int .i64 (List.length a0 : Int)), (9, .int .i64 0)] ⟨kr, kr, kr, kr, trivial⟩ rfl ?_
  obtain ⟨o1, hl, hr1⟩ := ob_some h
  clear h
  have kXimpl_indexOf_B1 : ∀ (_ : Unit), (some (-1)) = some r → ∀ σ' : PS, okK σ' [] → K1 σ' := by
    intro _ h σ' hk
    refine hK1 _ (ls_keep [] hk rfl ?_)
    refine ls_rs tbOk ?_
    refine evs (ev_ac rfl nofun rfl (evn ?_))
    refine ls_keep [(4, .int .i64 (-1))] ⟨kr, trivial⟩ rfl ?_
    refine ls_ret ?_
    have hr := Option.some.inj h
    rw [← hr]
    exact ⟨.inl rfl, rfl⟩
  refine ls_rec (fun (y1 : Int) => [(1, .int .i64 a1), (7, .dat a0.length (a0.flatMap ci64)), (8, .int .i64 (List.length a0 : Int)), (9, .int .i64 y1)]) (impl_indexOf_B1 a0 a1) fz 0 o1 hl ⟨kr, kr, kr, kr, trivial⟩ (fun _ => rfl) ?_
  rintro m y1 N h hN
  unfold impl_indexOf_B1 at h
  refine ls_rs tbOk ?_
  refine evs (ev_bin (c1 := .int .i64 y1) (c2 := .int .i64 (List.length a0 : Int)) rfl rfl rfl (evn ?_))
  refine ls_keep [(1, .int .i64 a1), (7, .dat a0.length (a0.flatMap ci64)), (8, .int .i64 (List.length a0 : Int)), (9, .int .i64 y1), (10, .bool (decide (y1 < (List.length a0 : Int))))] ⟨kr, kr, kr, kr, kr, trivial⟩ rfl ?_
  refine ls_seq_k fun K2 hK2 => ?_
  rcases cond_some h with ⟨g3, h⟩ | ⟨g3, h⟩
  · refine ls_cT rfl g3 ?_
    refine ls_skip ?_
    refine hK2 _ (ls_keep [(1, .int .i64 a1), (7, .dat a0.length (a0.flatMap ci64)), (8, .int .i64 (List.length a0 : Int)), (9, .int .i64 y1)] ⟨kr, kr, kr, kr, trivial⟩ rfl ?_)
    refine ls_seq_k fun K4 hK4 => ?_
    refine ls_blk ?_
    refine ls_rs tbOk ?_
    refine evs (ev_mv (c := .int .i64 y1) rfl rfl rfl (?_))
    obtain ⟨e5, g6, h⟩ := ob_some h
    refine evs (ev_ia rfl rfl rfl ⟨(geti_some g6).1, (geti_some g6).2.1⟩ (evs (ev_ldE (off := 0) (v := .int .i64 e5) rfl rfl zci64 g6 rfl (Nat.le_of_ble_eq_true rfl) rfl (evs (ev_as (c := .int .i64 y1) rfl rfl rfl (evs (ev_as (c := .int .i64 e5) rfl rfl rfl (evn ?_))))))))
    refine ls_keep [(1, .int .i64 a1), (5, .int .i64 y1), (6, .int .i64 e5), (7, .dat a0.length (a0.flatMap ci64)), (8, .int .i64 (List.length a0 : Int)), (9, .int .i64 y1)] ⟨kr, kr, kr, kr, kr, kr, trivial⟩ rfl ?_
    refine ls_rs tbOk ?_
    refine evs (ev_mv (c := .int .i64 e5) rfl rfl rfl (evs (ev_mv (c := .int .i64 a1) rfl rfl rfl (evs (ev_bin (c1 := .int .i64 e5) (c2 := .int .i64 a1) rfl rfl rfl (evn ?_))))))
    refine ls_keep [(1, .int .i64 a1), (5, .int .i64 y1), (7, .dat a0.length (a0.flatMap ci64)), (8, .int .i64 (List.length a0 : Int)), (9, .int .i64 y1), (16, .bool (e5 == a1))] ⟨kr, kr, kr, kr, kr, kr, trivial⟩ rfl ?_
    rcases cond_some h with ⟨g7, h⟩ | ⟨g7, h⟩
    · refine ls_cT rfl g7 ?_
      refine ls_rs tbOk ?_
      refine evs (ev_mv (c := .int .i64 y1) rfl rfl rfl (evs (ev_as (c := .int .i64 y1) rfl rfl rfl (evn ?_))))
      refine ls_keep [(4, .int .i64 y1)] ⟨kr, trivial⟩ rfl ?_
      refine ls_ret ?_
      have q0 := (Option.some.inj h).symm
      have r0 := hr1
      rw [q0] at r0
      have hr := Option.some.inj r0
      rw [← hr]
      exact ⟨.inl rfl, rfl⟩
    · refine ls_cF rfl g7 ?_
      refine ls_skip ?_
      refine hK4 _ (ls_keep [(1, .int .i64 a1), (7, .dat a0.length (a0.flatMap ci64)), (8, .int .i64 (List.length a0 : Int)), (9, .int .i64 y1)] ⟨kr, kr, kr, kr, trivial⟩ rfl ?_)
      refine ls_rgn tbOk ?_
      refine evs (ev_bin (c1 := .int .i64 y1) (c2 := .int .i64 1) rfl rfl rfl (evs (ev_mv (c := .int .i64 (IntKind.i64.wrap (y1 + 1))) rfl rfl rfl (evn ?_))))
      exact hN _ (IntKind.i64.wrap (y1 + 1)) h ⟨kr, kr, kr, kr, trivial⟩
  · refine ls_cF rfl g3 ?_
    refine ls_exit ?_
    have q0 := (Option.some.inj h).symm
    have r0 := hr1
    rw [q0] at r0
    exact kXimpl_indexOf_B1 () r0 _ trivial
def impl_copyInts (a0 : List Int) : Option ((List Int)) := chk (List.length ([] : List Int) + List.length a0 ≤ lim) (some (([] : List Int) ++ a0))
theorem impl_copyInts_s {a0 : List Int} {r : (List Int)} (h : impl_copyInts a0 = some r) : SoundAt Try.prog 105 [.dat a0.length (a0.flatMap ci64)] (.own 3 r.length (r.flatMap ci64)) := by
  unfold impl_copyInts at h
  refine sound_lit tbOk lit105 (Nat.le_of_ble_eq_true rfl) rfl ?_
  unfold c105
  refine ls_keep [(0, .dat a0.length (a0.flatMap ci64))] ⟨kr, trivial⟩ rfl ?_
  refine ls_rs tbOk ?_
  refine evs (ev_an rfl rfl (evn ?_))
  refine ls_keep [(0, .dat a0.length (a0.flatMap ci64))] ⟨kr, trivial⟩ rfl ?_
  refine ls_rs tbOk ?_
  refine evs (ev_bs [] (cs := []) rfl trivial rfl (Nat.le_of_ble_eq_true rfl) rfl (evs (ev_mvt (c := .dat a0.length (a0.flatMap ci64)) rfl rfl rfl (?_))))
  obtain ⟨g1, h⟩ := chk_some h
  refine evs (ev_app (f := ci64) (l := ([] : List Int)) (m := a0) (c2 := .dat a0.length (a0.flatMap ci64)) rfl rfl rfl (flat_len zci64 a0) rfl (map_dg (fun _ => rfl) _) g1 rfl (evs (ev_as (c := .own 3 (([] : List Int) ++ a0).length ((([] : List Int) ++ a0).flatMap ci64)) rfl rfl rfl (evn ?_))))
  refine ls_keep [(2, .own 3 (([] : List Int) ++ a0).length ((([] : List Int) ++ a0).flatMap ci64))] ⟨kr, trivial⟩ rfl ?_
  refine ls_ret ?_
  have hr := Option.some.inj h
  rw [← hr]
  exact ⟨.inl rfl, rfl⟩
def impl_SplitHeavy_J2 (rec : ((List (List Int)) × (List (List Int)) × Int) → Option ((List (List Int)) × (List (List Int)))) (y3 : Int) (x24 : List (List Int)) (x25 : List (List Int)) : Option ((List (List Int)) × (List (List Int))) := rec (x24, x25, (IntKind.i64.wrap (y3 + 1)))
def impl_SplitHeavy_B1 (a0 : Int × (List (List Int))) (a1 : Int) (a2 : Int) (v8 : (List Int) × (List Int)) (rec : ((List (List Int)) × (List (List Int)) × Int) → Option ((List (List Int)) × (List (List Int)))) (s : (List (List Int)) × (List (List Int)) × Int) : Option ((List (List Int)) × (List (List Int))) := match s with
  | (y1, y2, y3) => cond (decide (y3 < (List.length a0.2 : Int))) (obind (geti a0.2 y3) fun e16 => obind (geti e16 a1) fun e18 => obind (impl_indexOf v8.1 e18) fun v20 => obind (geti v8.2 v20) fun e22 => cond (decide (a2 ≤ e22)) (obind (impl_copyInts e16) fun v27 => chk (List.length y1 + List.length [v27] ≤ lim) (impl_SplitHeavy_J2 rec y3 (y1 ++ [v27]) y2)) (obind (impl_copyInts e16) fun v30 => chk (List.length y2 + List.length [v30] ≤ lim) (impl_SplitHeavy_J2 rec y3 y1 (y2 ++ [v30])))) (some (y1, y2))
def impl_SplitHeavy (a0 : Int × (List (List Int))) (a1 : Int) (a2 : Int) : Option ((Int × (List (List Int))) × (Int × (List (List Int))) × Bool) := obind (impl_IsValidRelation a0) fun v2 => cond (!v2) (some ((0, []), (0, []), false)) (obind (impl_within a1 0 (IntKind.i64.wrap (a0.1 - 1))) fun v5 => cond (!v5) (some ((0, []), (0, []), false)) (obind (impl_ColumnDegrees a0 a1) fun v8 => obind (loopF (impl_SplitHeavy_B1 a0 a1 a2 v8) fz (([] : List (List Int)), ([] : List (List Int)), 0)) fun o1 => (match o1 with
  | (z11, z12) => (some ((a0.1, z11), (a0.1, z12), true)))))
theorem impl_SplitHeavy_s {a0 : Int × (List (List Int))} {a1 : Int} {a2 : Int} {r : (Int × (List (List Int))) × (Int × (List (List Int))) × Bool} (h : impl_SplitHeavy a0 a1 a2 = some r) : SoundAt Try.prog 28 [.agg [.int .i64 a0.1, .dat a0.2.length (a0.2.flatMap c30_d)], .int .i64 a1, .int .i64 a2] (.tup [.agg [.int .i64 r.1.1, .own 30 r.1.2.length (r.1.2.flatMap c30_o)], .agg [.int .i64 r.2.1.1, .own 30 r.2.1.2.length (r.2.1.2.flatMap c30_o)], .bool r.2.2]) := by
  unfold impl_SplitHeavy at h
  refine sound_lit tbOk lit28 (Nat.le_of_ble_eq_true rfl) rfl ?_
  unfold c28
  refine ls_keep [(0, .agg [.int .i64 a0.1, .dat a0.2.length (a0.2.flatMap c30_d)]), (1, .int .i64 a1), (2, .int .i64 a2)] ⟨kr, kr, kr, trivial⟩ rfl ?_
  refine ls_rs tbOk ?_
  refine evs (ev_bx (c1 := .agg [.int .i64 a0.1, .dat a0.2.length (a0.2.flatMap c30_d)]) rfl rfl rfl (evs (ev_al rfl rfl (evs (ev_al rfl rfl (evs (ev_ac rfl nofun rfl (evn ?_))))))))
  refine ls_keep [(1, .int .i64 a1), (2, .int .i64 a2), (3, .box [.int .i64 a0.1, .dat a0.2.length (a0.2.flatMap c30_d)]), (6, .box [.int .i64 0, .own 30 ([] : List (List Int)).length (([] : List (List Int)).flatMap c30_o)]), (7, .box [.int .i64 0, .own 30 ([] : List (List Int)).length (([] : List (List Int)).flatMap c30_o)])] ⟨kr, kr, kr, kr, kr, trivial⟩ rfl ?_
  refine ls_seq_k fun K1 hK1 => ?_
  refine ls_rs tbOk ?_
  refine evs (ev_ldB (off := 0) (v := .agg [.int .i64 a0.1, .dat a0.2.length (a0.2.flatMap c30_d)]) rfl rfl rfl rfl (Nat.le_of_ble_eq_true rfl) rfl (?_))
  obtain ⟨v2, g3, h⟩ := ob_some h
  refine evs (ev_call (era rfl (erg (erc rfl (erc (erD ec30_d _) rfl))) eran) (impl_IsValidRelation_s g3) (evs (ev_un (c1 := .bool v2) rfl trivial (evs (ev_mv (c := .bool (!v2)) rfl rfl rfl (?_))))))
  rcases cond_some h with ⟨g4, h⟩ | ⟨g4, h⟩
  · refine evs (ev_gs rfl rfl (isb_T g4) (evs (ev_gs rfl rfl (isb_T g4) (evs (ev_gs rfl rfl (isb_T g4) (evs (ev_gs rfl rfl (isb_T g4) (evs (ev_gs rfl rfl (isb_T g4) (evs (ev_gs rfl rfl (isb_T g4) (evs (ev_pkT (c1 := .bool true) rfl g4 rfl rfl (evn ?_))))))))))))))
    refine ls_keep [(1, .int .i64 a1), (2, .int .i64 a2), (3, .box [.int .i64 a0.1, .dat a0.2.length (a0.2.flatMap c30_d)]), (6, .box [.int .i64 0, .own 30 ([] : List (List Int)).length (([] : List (List Int)).flatMap c30_o)]), (7, .box [.int .i64 0, .own 30 ([] : List (List Int)).length (([] : List (List Int)).flatMap c30_o)]), (25, .bool true)] ⟨kr, kr, kr, kr, kr, kr, trivial⟩ rfl ?_
    refine ls_cT rfl rfl ?_
    refine ls_rs tbOk ?_
    refine evs (ev_bd [] (cs := [.int .i64 0, .own 30 ([] : List (List Int)).length (([] : List (List Int)).flatMap c30_o)]) rfl trivial rfl (evs (ev_bd [] (cs := [.int .i64 0, .own 30 ([] : List (List Int)).length (([] : List (List Int)).flatMap c30_o)]) rfl trivial rfl (evs (ev_st (off := 0) (c1 := .agg [.int .i64 0, .own 30 ([] : List (List Int)).length (([] : List (List Int)).flatMap c30_o)]) (cs' := [.int .i64 0, .own 30 ([] : List (List Int)).length (([] : List (List Int)).flatMap c30_o)]) rfl rfl rfl rfl rfl rfl (Nat.le_of_ble_eq_true rfl) rfl (evs (ev_st (off := 0) (c1 := .agg [.int .i64 0, .own 30 ([] : List (List Int)).length (([] : List (List Int)).flatMap c30_o)]) (cs' := [.int .i64 0, .own 30 ([] : List (List Int)).length (([] : List (List Int)).flatMap c30_o)]) rfl rfl rfl rfl rfl rfl (Nat.le_of_ble_eq_true rfl) rfl (evs (ev_ac rfl nofun rfl (evn ?_))))))))))
    refine ls_keep [(6, .box [.int .i64 0, .own 30 ([] : List (List Int)).length (([] : List (List Int)).flatMap c30_o)]), (7, .box [.int .i64 0, .own 30 ([] : List (List Int)).length (([] : List (List Int)).flatMap c30_o)]), (8, .bool false)] ⟨kr, kr, kr, trivial⟩ rfl ?_
    refine ls_ret ?_
    have hr := Option.some.inj h
    rw [← hr]
    exact ⟨.inl rfl, rfl⟩
  · refine evs (ev_gr rfl (congrArg V.bool g4) (ev_mv (c := .int .i64 a1) rfl rfl rfl (evs (ev_gr rfl (congrArg V.bool g4) (ev_fa (c1 := .cref 3 0) (v := .cref 3 0) rfl rfl rfl ⟨_, rfl⟩ rfl (evs (ev_gr rfl (congrArg V.bool g4) (ev_ldB (off := 0) (v := .int .i64 a0.1) rfl rfl rfl rfl (Nat.le_of_ble_eq_true rfl) rfl (evs (ev_gr rfl (congrArg V.bool g4) (ev_bin (c1 := .int .i64 a0.1) (c2 := .int .i64 1) rfl rfl rfl (?_))))))))))))
    obtain ⟨v5, g6, h⟩ := ob_some h
    refine evs (ev_gr rfl (congrArg V.bool g4) (ev_call (era rfl rfl (era rfl rfl (era rfl rfl eran))) (impl_within_s g6) (evs (ev_gr rfl (congrArg V.bool g4) (ev_un (c1 := .bool v5) rfl trivial (evs (ev_pkF (c1 := .bool (!v5)) rfl g4 rfl rfl (evn ?_))))))))
    refine ls_keep [(1, .int .i64 a1), (2, .int .i64 a2), (3, .box [.int .i64 a0.1, .dat a0.2.length (a0.2.flatMap c30_d)]), (6, .box [.int .i64 0, .own 30 ([] : List (List Int)).length (([] : List (List Int)).flatMap c30_o)]), (7, .box [.int .i64 0, .own 30 ([] : List (List Int)).length (([] : List (List Int)).flatMap c30_o)]), (25, .bool (!v5))] ⟨kr, kr, kr, kr, kr, kr, trivial⟩ rfl ?_
    rcases cond_some h with ⟨g7, h⟩ | ⟨g7, h⟩
    · refine ls_cT rfl g7 ?_
      refine ls_rs tbOk ?_
      refine evs (ev_bd [] (cs := [.int .i64 0, .own 30 ([] : List (List Int)).length (([] : List (List Int)).flatMap c30_o)]) rfl trivial rfl (evs (ev_bd [] (cs := [.int .i64 0, .own 30 ([] : List (List Int)).length (([] : List (List Int)).flatMap c30_o)]) rfl trivial rfl (evs (ev_st (off := 0) (c1 := .agg [.int .i64 0, .own 30 ([] : List (List Int)).length (([] : List (List Int)).flatMap c30_o)]) (cs' := [.int .i64 0, .own 30 ([] : List (List Int)).length (([] : List (List Int)).flatMap c30_o)]) rfl rfl rfl rfl rfl rfl (Nat.le_of_ble_eq_true rfl) rfl (evs (ev_st (off := 0) (c1 := .agg [.int .i64 0, .own 30 ([] : List (List Int)).length (([] : List (List Int)).flatMap c30_o)]) (cs' := [.int .i64 0, .own 30 ([] : List (List Int)).length (([] : List (List Int)).flatMap c30_o)]) rfl rfl rfl rfl rfl rfl (Nat.le_of_ble_eq_true rfl) rfl (evs (ev_ac rfl nofun rfl (evn ?_))))))))))
      refine ls_keep [(6, .box [.int .i64 0, .own 30 ([] : List (List Int)).length (([] : List (List Int)).flatMap c30_o)]), (7, .box [.int .i64 0, .own 30 ([] : List (List Int)).length (([] : List (List Int)).flatMap c30_o)]), (8, .bool false)] ⟨kr, kr, kr, trivial⟩ rfl ?_
      refine ls_ret ?_
      have hr := Option.some.inj h
      rw [← hr]
      exact ⟨.inl rfl, rfl⟩
    · refine ls_cF rfl g7 ?_
      refine ls_skip ?_
      refine hK1 _ (ls_keep [(1, .int .i64 a1), (2, .int .i64 a2), (3, .box [.int .i64 a0.1, .dat a0.2.length (a0.2.flatMap c30_d)]), (6, .box [.int .i64 0, .own 30 ([] : List (List Int)).length (([] : List (List Int)).flatMap c30_o)]), (7, .box [.int .i64 0, .own 30 ([] : List (List Int)).length (([] : List (List Int)).flatMap c30_o)])] ⟨kr, kr, kr, kr, kr, trivial⟩ rfl ?_)
      refine ls_rs tbOk ?_
      refine evs (ev_ldB (off := 0) (v := .agg [.int .i64 a0.1, .dat a0.2.length (a0.2.flatMap c30_d)]) rfl rfl rfl rfl (Nat.le_of_ble_eq_true rfl) rfl (evs (ev_mv (c := .int .i64 a1) rfl rfl rfl (?_))))
      obtain ⟨v8, g9, h⟩ := ob_some h
      refine evs (ev_call (era rfl (erg (erc rfl (erc (erD ec30_d _) rfl))) (era rfl rfl eran)) (impl_ColumnDegrees_s g9) (evs (ev_mvt (c := .tup [.own 3 v8.1.length (v8.1.flatMap ci64), .own 3 v8.2.length (v8.2.flatMap ci64)]) rfl rfl rfl (evs (ev_ext rfl rfl rfl rfl (evs (ev_ext rfl rfl rfl rfl (evs (ev_as (c := .own 3 v8.1.length (v8.1.flatMap ci64)) rfl rfl rfl (evs (ev_as (c := .own 3 v8.2.length (v8.2.flatMap ci64)) rfl rfl rfl (evn ?_))))))))))))
      refine ls_keep [(1, .int .i64 a1), (2, .int .i64 a2), (3, .box [.int .i64 a0.1, .dat a0.2.length (a0.2.flatMap c30_d)]), (6, .box [.int .i64 0, .own 30 ([] : List (List Int)).length (([] : List (List Int)).flatMap c30_o)]), (7, .box [.int .i64 0, .own 30 ([] : List (List Int)).length (([] : List (List Int)).flatMap c30_o)]), (9, .own 3 v8.1.length (v8.1.flatMap ci64)), (10, .own 3 v8.2.length (v8.2.flatMap ci64))] ⟨kr, kr, kr, kr, kr, kr, kr, trivial⟩ rfl ?_
      refine ls_rs tbOk ?_
      refine evs (ev_fa (c1 := .cref 3 0) (v := .cref 3 0) rfl rfl rfl ⟨_, rfl⟩ rfl (evs (ev_ldB (off := 0) (v := .int .i64 a0.1) rfl rfl rfl rfl (Nat.le_of_ble_eq_true rfl) rfl (evs (ev_bd [.int .i64 a0.1] (cs := [.int .i64 a0.1, .own 30 ([] : List (List Int)).length (([] : List (List Int)).flatMap c30_o)]) rfl ⟨rfl, trivial⟩ rfl (evs (ev_al rfl rfl (evs (ev_st (off := 0) (c1 := .agg [.int .i64 a0.1, .own 30 ([] : List (List Int)).length (([] : List (List Int)).flatMap c30_o)]) (cs' := [.int .i64 a0.1, .own 30 ([] : List (List Int)).length (([] : List (List Int)).flatMap c30_o)]) rfl rfl rfl rfl rfl rfl (Nat.le_of_ble_eq_true rfl) rfl (evn ?_))))))))))
      refine ls_keep [(1, .int .i64 a1), (2, .int .i64 a2), (3, .box [.int .i64 a0.1, .dat a0.2.length (a0.2.flatMap c30_d)]), (6, .box [.int .i64 0, .own 30 ([] : List (List Int)).length (([] : List (List Int)).flatMap c30_o)]), (7, .box [.int .i64 0, .own 30 ([] : List (List Int)).length (([] : List (List Int)).flatMap c30_o)]), (9, .own 3 v8.1.length (v8.1.flatMap ci64)), (10, .own 3 v8.2.length (v8.2.flatMap ci64)), (11, .box [.int .i64 a0.1, .own 30 ([] : List (List Int)).length (([] : List (List Int)).flatMap c30_o)])] ⟨kr, kr, kr, kr, kr, kr, kr, kr, trivial⟩ rfl ?_
      refine ls_rs tbOk ?_
      refine evs (ev_fa (c1 := .cref 3 0) (v := .cref 3 0) rfl rfl rfl ⟨_, rfl⟩ rfl (evs (ev_ldB (off := 0) (v := .int .i64 a0.1) rfl rfl rfl rfl (Nat.le_of_ble_eq_true rfl) rfl (evs (ev_bd [.int .i64 a0.1] (cs := [.int .i64 a0.1, .own 30 ([] : List (List Int)).length (([] : List (List Int)).flatMap c30_o)]) rfl ⟨rfl, trivial⟩ rfl (evs (ev_al rfl rfl (evs (ev_st (off := 0) (c1 := .agg [.int .i64 a0.1, .own 30 ([] : List (List Int)).length (([] : List (List Int)).flatMap c30_o)]) (cs' := [.int .i64 a0.1, .own 30 ([] : List (List Int)).length (([] : List (List Int)).flatMap c30_o)]) rfl rfl rfl rfl rfl rfl (Nat.le_of_ble_eq_true rfl) rfl (evn ?_))))))))))
      refine ls_keep [(1, .int .i64 a1), (2, .int .i64 a2), (3, .box [.int .i64 a0.1, .dat a0.2.length (a0.2.flatMap c30_d)]), (6, .box [.int .i64 0, .own 30 ([] : List (List Int)).length (([] : List (List Int)).flatMap c30_o)]), (7, .box [.int .i64 0, .own 30 ([] : List (List Int)).length (([] : List (List Int)).flatMap c30_o)]), (9, .own 3 v8.1.length (v8.1.flatMap ci64)), (10, .own 3 v8.2.length (v8.2.flatMap ci64)), (11, .box [.int .i64 a0.1, .own 30 ([] : List (List Int)).length (([] : List (List Int)).flatMap c30_o)]), (12, .box [.int .i64 a0.1, .own 30 ([] : List (List Int)).length (([] : List (List Int)).flatMap c30_o)])] ⟨kr, kr, kr, kr, kr, kr, kr, kr, kr, trivial⟩ rfl ?_
      refine ls_seq_k fun K10 hK10 => ?_
      refine ls_rs tbOk ?_
      refine evs (ev_fa (c1 := .cref 3 0) (v := .cref 3 1) rfl rfl rfl ⟨_, rfl⟩ rfl (evs (ev_ldB (off := 1) (v := .dat a0.2.length (a0.2.flatMap c30_d)) rfl rfl rfl rfl (Nat.le_of_ble_eq_true rfl) rfl (evs (ev_len (c1 := .dat a0.2.length (a0.2.flatMap c30_d)) rfl rfl rfl (evs (ev_mc rfl rfl (evn ?_))))))))
      refine ls_keep [(1, .int .i64 a1), (2, .int .i64 a2), (6, .box [.int .i64 0, .own 30 ([] : List (List Int)).length (([] : List (List Int)).flatMap c30_o)]), (7, .box [.int .i64 0, .own 30 ([] : List (List Int)).length (([] : List (List Int)).flatMap c30_o)]), (9, .own 3 v8.1.length (v8.1.flatMap ci64)), (10, .own 3 v8.2.length (v8.2.flatMap ci64)), (11, .box [.int .i64 a0.1, .own 30 ([] : List (List Int)).length (([] : List (List Int)).flatMap c30_o)]), (12, .box [.int .i64 a0.1, .own 30 ([] : List (List Int)).length (([] : List (List Int)).flatMap c30_o)]), (41, .dat a0.2.length (a0.2.flatMap c30_d)), (42, .int .i64 (List.length a0.2 : Int)), (43, .int .i64 0)] ⟨kr, kr, kr, kr, kr, kr, kr, kr, kr, kr, kr, trivial⟩ rfl ?_
      obtain ⟨o1, hl, hr1⟩ := ob_some h
      clear h
      have kXimpl_SplitHeavy_B1 : ∀ (z11 : List (List Int)) (z12 : List (List Int)), (some ((a0.1, z11), (a0.1, z12), true)) = some r → ∀ σ' : PS, okK σ' [(6, .box [.int .i64 0, .own 30 ([] : List (List Int)).length (([] : List (List Int)).flatMap c30_o)]), (7, .box [.int .i64 0, .own 30 ([] : List (List Int)).length (([] : List (List Int)).flatMap c30_o)]), (11, .box [.int .i64 a0.1, .own 30 z11.length (z11.flatMap c30_o)]), (12, .box [.int .i64 a0.1, .own 30 z12.length (z12.flatMap c30_o)])] → K10 σ' := by
        intro z11 z12 h σ' hk
        refine hK10 _ (ls_keep [(6, .box [.int .i64 0, .own 30 ([] : List (List Int)).length (([] : List (List Int)).flatMap c30_o)]), (7, .box [.int .i64 0, .own 30 ([] : List (List Int)).length (([] : List (List Int)).flatMap c30_o)]), (11, .box [.int .i64 a0.1, .own 30 z11.length (z11.flatMap c30_o)]), (12, .box [.int .i64 a0.1, .own 30 z12.length (z12.flatMap c30_o)])] hk rfl ?_)
        refine ls_rd tbOk mixed (by kernel_rfl) ?_
        refine evd rfl rfl (ev_ldBt (off := 0) (v := .agg [.int .i64 a0.1, .own 30 z11.length (z11.flatMap c30_o)]) (c' := .box [.int .i64 a0.1, .dat z11.length (z11.flatMap c30_o)]) rfl rfl rfl rfl (Nat.le_of_ble_eq_true rfl) rfl rfl (evd rfl rfl (ev_ldBt (off := 0) (v := .agg [.int .i64 a0.1, .own 30 z12.length (z12.flatMap c30_o)]) (c' := .box [.int .i64 a0.1, .dat z12.length (z12.flatMap c30_o)]) rfl rfl rfl rfl (Nat.le_of_ble_eq_true rfl) rfl rfl (evd rfl rfl (ev_st (off := 0) (c1 := .agg [.int .i64 a0.1, .own 30 z11.length (z11.flatMap c30_o)]) (cs' := [.int .i64 a0.1, .own 30 z11.length (z11.flatMap c30_o)]) rfl rfl rfl rfl rfl rfl (Nat.le_of_ble_eq_true rfl) rfl (evd rfl rfl (ev_st (off := 0) (c1 := .agg [.int .i64 a0.1, .own 30 z12.length (z12.flatMap c30_o)]) (cs' := [.int .i64 a0.1, .own 30 z12.length (z12.flatMap c30_o)]) rfl rfl rfl rfl rfl rfl (Nat.le_of_ble_eq_true rfl) rfl (evd rfl rfl (ev_ac rfl nofun rfl (evdn ?_))))))))))
        refine ls_keep [(6, .box [.int .i64 a0.1, .own 30 z11.length (z11.flatMap c30_o)]), (7, .box [.int .i64 a0.1, .own 30 z12.length (z12.flatMap c30_o)]), (8, .bool true)] ⟨kr, kr, kr, trivial⟩ rfl ?_
        refine ls_ret ?_
        have hr := Option.some.inj h
        rw [← hr]
        exact ⟨.inl rfl, rfl⟩
      refine ls_rec (fun (s : (List (List Int)) × (List (List Int)) × Int) => match s with | (y1, y2, y3) => [(1, .int .i64 a1), (2, .int .i64 a2), (6, .box [.int .i64 0, .own 30 ([] : List (List Int)).length (([] : List (List Int)).flatMap c30_o)]), (7, .box [.int .i64 0, .own 30 ([] : List (List Int)).length (([] : List (List Int)).flatMap c30_o)]), (9, .own 3 v8.1.length (v8.1.flatMap ci64)), (10, .own 3 v8.2.length (v8.2.flatMap ci64)), (11, .box [.int .i64 a0.1, .own 30 y1.length (y1.flatMap c30_o)]), (12, .box [.int .i64 a0.1, .own 30 y2.length (y2.flatMap c30_o)]), (41, .dat a0.2.length (a0.2.flatMap c30_d)), (42, .int .i64 (List.length a0.2 : Int)), (43, .int .i64 y3)]) (impl_SplitHeavy_B1 a0 a1 a2 v8) fz (([] : List (List Int)), ([] : List (List Int)), 0) o1 hl ⟨kr, kr, kr, kr, kr, kr, kr, kr, kr, kr, kr, trivial⟩ (fun _ => rfl) ?_
      rintro m ⟨y1, y2, y3⟩ N h hN
      unfold impl_SplitHeavy_B1 at h
      dsimp only at h
      refine ls_rs tbOk ?_
      refine evs (ev_bin (c1 := .int .i64 y3) (c2 := .int .i64 (List.length a0.2 : Int)) rfl rfl rfl (evn ?_))
      refine ls_keep [(1, .int .i64 a1), (2, .int .i64 a2), (6, .box [.int .i64 0, .own 30 ([] : List (List Int)).length (([] : List (List Int)).flatMap c30_o)]), (7, .box [.int .i64 0, .own 30 ([] : List (List Int)).length (([] : List (List Int)).flatMap c30_o)]), (9, .own 3 v8.1.length (v8.1.flatMap ci64)), (10, .own 3 v8.2.length (v8.2.flatMap ci64)), (11, .box [.int .i64 a0.1, .own 30 y1.length (y1.flatMap c30_o)]), (12, .box [.int .i64 a0.1, .own 30 y2.length (y2.flatMap c30_o)]), (41, .dat a0.2.length (a0.2.flatMap c30_d)), (42, .int .i64 (List.length a0.2 : Int)), (43, .int .i64 y3), (44, .bool (decide (y3 < (List.length a0.2 : Int))))] ⟨kr, kr, kr, kr, kr, kr, kr, kr, kr, kr, kr, kr, trivial⟩ rfl ?_
      refine ls_seq_k fun K13 hK13 => ?_
      rcases cond_some h with ⟨g14, h⟩ | ⟨g14, h⟩
      · refine ls_cT rfl g14 ?_
        refine ls_skip ?_
        refine hK13 _ (ls_keep [(1, .int .i64 a1), (2, .int .i64 a2), (6, .box [.int .i64 0, .own 30 ([] : List (List Int)).length (([] : List (List Int)).flatMap c30_o)]), (7, .box [.int .i64 0, .own 30 ([] : List (List Int)).length (([] : List (List Int)).flatMap c30_o)]), (9, .own 3 v8.1.length (v8.1.flatMap ci64)), (10, .own 3 v8.2.length (v8.2.flatMap ci64)), (11, .box [.int .i64 a0.1, .own 30 y1.length (y1.flatMap c30_o)]), (12, .box [.int .i64 a0.1, .own 30 y2.length (y2.flatMap c30_o)]), (41, .dat a0.2.length (a0.2.flatMap c30_d)), (42, .int .i64 (List.length a0.2 : Int)), (43, .int .i64 y3)] ⟨kr, kr, kr, kr, kr, kr, kr, kr, kr, kr, kr, trivial⟩ rfl ?_)
        refine ls_seq_k fun K15 hK15 => ?_
        refine ls_blk ?_
        refine ls_rs tbOk ?_
        obtain ⟨e16, g17, h⟩ := ob_some h
        refine evs (ev_ia rfl rfl rfl ⟨(geti_some g17).1, (geti_some g17).2.1⟩ (evs (ev_ldEt (off := 0) (v := .dat e16.length (e16.flatMap ci64)) rfl rfl zc30_d g17 rfl (Nat.le_of_ble_eq_true rfl) rfl (evs (ev_as (c := .dat e16.length (e16.flatMap ci64)) rfl rfl rfl (evn ?_))))))
        refine ls_keep [(1, .int .i64 a1), (2, .int .i64 a2), (6, .box [.int .i64 0, .own 30 ([] : List (List Int)).length (([] : List (List Int)).flatMap c30_o)]), (7, .box [.int .i64 0, .own 30 ([] : List (List Int)).length (([] : List (List Int)).flatMap c30_o)]), (9, .own 3 v8.1.length (v8.1.flatMap ci64)), (10, .own 3 v8.2.length (v8.2.flatMap ci64)), (11, .box [.int .i64 a0.1, .own 30 y1.length (y1.flatMap c30_o)]), (12, .box [.int .i64 a0.1, .own 30 y2.length (y2.flatMap c30_o)]), (14, .dat e16.length (e16.flatMap ci64)), (41, .dat a0.2.length (a0.2.flatMap c30_d)), (42, .int .i64 (List.length a0.2 : Int)), (43, .int .i64 y3)] ⟨kr, kr, kr, kr, kr, kr, kr, kr, kr, kr, kr, kr, trivial⟩ rfl ?_
        refine ls_rs tbOk ?_
        refine evs (ev_mv (c := .own 3 v8.2.length (v8.2.flatMap ci64)) rfl rfl rfl (evs (ev_mv (c := .own 3 v8.1.length (v8.1.flatMap ci64)) rfl rfl rfl (evs (ev_mv (c := .dat e16.length (e16.flatMap ci64)) rfl rfl rfl (evs (ev_mv (c := .int .i64 a1) rfl rfl rfl (?_))))))))
        obtain ⟨e18, g19, h⟩ := ob_some h
        refine evs (ev_ia rfl rfl rfl ⟨(geti_some g19).1, (geti_some g19).2.1⟩ (evs (ev_ldE (off := 0) (v := .int .i64 e18) rfl rfl zci64 g19 rfl (Nat.le_of_ble_eq_true rfl) rfl (?_))))
        obtain ⟨v20, g21, h⟩ := ob_some h
        refine evs (ev_call (era rfl (erD eci64 _) (era rfl rfl eran)) (impl_indexOf_s g21) (?_))
        obtain ⟨e22, g23, h⟩ := ob_some h
        refine evs (ev_ia rfl rfl rfl ⟨(geti_some g23).1, (geti_some g23).2.1⟩ (evs (ev_ldE (off := 0) (v := .int .i64 e22) rfl rfl zci64 g23 rfl (Nat.le_of_ble_eq_true rfl) rfl (evs (ev_mv (c := .int .i64 a2) rfl rfl rfl (evs (ev_bin (c1 := .int .i64 e22) (c2 := .int .i64 a2) rfl rfl rfl (evn ?_))))))))
        refine ls_keep [(1, .int .i64 a1), (2, .int .i64 a2), (6, .box [.int .i64 0, .own 30 ([] : List (List Int)).length (([] : List (List Int)).flatMap c30_o)]), (7, .box [.int .i64 0, .own 30 ([] : List (List Int)).length (([] : List (List Int)).flatMap c30_o)]), (9, .own 3 v8.1.length (v8.1.flatMap ci64)), (10, .own 3 v8.2.length (v8.2.flatMap ci64)), (11, .box [.int .i64 a0.1, .own 30 y1.length (y1.flatMap c30_o)]), (12, .box [.int .i64 a0.1, .own 30 y2.length (y2.flatMap c30_o)]), (14, .dat e16.length (e16.flatMap ci64)), (41, .dat a0.2.length (a0.2.flatMap c30_d)), (42, .int .i64 (List.length a0.2 : Int)), (43, .int .i64 y3), (57, .bool (decide (a2 ≤ e22)))] ⟨kr, kr, kr, kr, kr, kr, kr, kr, kr, kr, kr, kr, kr, trivial⟩ rfl ?_
        have kimpl_SplitHeavy_J2 : ∀ (x24 : List (List Int)) (x25 : List (List Int)), impl_SplitHeavy_J2 (loopF (impl_SplitHeavy_B1 a0 a1 a2 v8) m) y3 x24 x25 = some o1 → ∀ σ' : PS, okK σ' [(1, .int .i64 a1), (2, .int .i64 a2), (6, .box [.int .i64 0, .own 30 ([] : List (List Int)).length (([] : List (List Int)).flatMap c30_o)]), (7, .box [.int .i64 0, .own 30 ([] : List (List Int)).length (([] : List (List Int)).flatMap c30_o)]), (9, .own 3 v8.1.length (v8.1.flatMap ci64)), (10, .own 3 v8.2.length (v8.2.flatMap ci64)), (11, .box [.int .i64 a0.1, .own 30 x24.length (x24.flatMap c30_o)]), (12, .box [.int .i64 a0.1, .own 30 x25.length (x25.flatMap c30_o)]), (41, .dat a0.2.length (a0.2.flatMap c30_d)), (42, .int .i64 (List.length a0.2 : Int)), (43, .int .i64 y3)] → K15 σ' := by
          intro x24 x25 h σ' hk
          unfold impl_SplitHeavy_J2 at h
          refine hK15 _ (ls_keep [(1, .int .i64 a1), (2, .int .i64 a2), (6, .box [.int .i64 0, .own 30 ([] : List (List Int)).length (([] : List (List Int)).flatMap c30_o)]), (7, .box [.int .i64 0, .own 30 ([] : List (List Int)).length (([] : List (List Int)).flatMap c30_o)]), (9, .own 3 v8.1.length (v8.1.flatMap ci64)), (10, .own 3 v8.2.length (v8.2.flatMap ci64)), (11, .box [.int .i64 a0.1, .own 30 x24.length (x24.flatMap c30_o)]), (12, .box [.int .i64 a0.1, .own 30 x25.length (x25.flatMap c30_o)]), (41, .dat a0.2.length (a0.2.flatMap c30_d)), (42, .int .i64 (List.length a0.2 : Int)), (43, .int .i64 y3)] hk rfl ?_)
          refine ls_rgn tbOk ?_
          refine evs (ev_bin (c1 := .int .i64 y3) (c2 := .int .i64 1) rfl rfl rfl (evs (ev_mv (c := .int .i64 (IntKind.i64.wrap (y3 + 1))) rfl rfl rfl (evn ?_))))
          exact hN _ (x24, x25, (IntKind.i64.wrap (y3 + 1))) h ⟨kr, kr, kr, kr, kr, kr, kr, kr, kr, kr, kr, trivial⟩
        rcases cond_some h with ⟨g26, h⟩ | ⟨g26, h⟩
        · refine ls_cT rfl g26 ?_
          refine ls_drw tbOk mixed (by kernel_rfl) ?_
          refine evd rfl rfl (ev_fa (c1 := .cref 11 0) (v := .cref 11 1) rfl rfl rfl ⟨_, rfl⟩ rfl (evd rfl rfl (ev_ldBt (off := 1) (v := .own 30 y1.length (y1.flatMap c30_o)) (c' := .box [.int .i64 a0.1, .dat y1.length (y1.flatMap c30_o)]) rfl rfl rfl rfl (Nat.le_of_ble_eq_true rfl) rfl rfl (evd rfl rfl (ev_mv (c := .dat e16.length (e16.flatMap ci64)) rfl rfl rfl (?_))))))
          obtain ⟨v27, g28, h⟩ := ob_some h
          refine evd rfl rfl (ev_call (era rfl (erD eci64 _) eran) (impl_copyInts_s g28) (evd rfl rfl (ev_bs [.own 3 v27.length (v27.flatMap ci64)] (cs := [.own 3 v27.length (v27.flatMap ci64)]) rfl ⟨rfl, trivial⟩ rfl (Nat.le_of_ble_eq_true rfl) rfl (?_))))
          obtain ⟨g29, h⟩ := chk_some h
          refine evd rfl rfl (ev_app (f := c30_o) (l := y1) (m := [v27]) (c2 := .own 30 [v27].length ([v27].flatMap c30_o)) rfl rfl rfl (flat_len zc30_o [v27]) rfl rfl g29 rfl (evd rfl rfl (ev_fa (c1 := .cref 11 0) (v := .cref 11 1) rfl rfl rfl ⟨_, rfl⟩ rfl (evd rfl rfl (ev_st (off := 1) (c1 := .own 30 (y1 ++ [v27]).length ((y1 ++ [v27]).flatMap c30_o)) (cs' := [.int .i64 a0.1, .own 30 (y1 ++ [v27]).length ((y1 ++ [v27]).flatMap c30_o)]) rfl rfl rfl rfl rfl rfl (Nat.le_of_ble_eq_true rfl) rfl (evdn ?_))))))
          exact kimpl_SplitHeavy_J2 (y1 ++ [v27]) y2 h _ ⟨kr, kr, kr, kr, kr, kr, kr, kr, kr, kr, kr, trivial⟩
        · refine ls_cF rfl g26 ?_
          refine ls_drw tbOk mixed (by kernel_rfl) ?_
          refine evd rfl rfl (ev_fa (c1 := .cref 12 0) (v := .cref 12 1) rfl rfl rfl ⟨_, rfl⟩ rfl (evd rfl rfl (ev_ldBt (off := 1) (v := .own 30 y2.length (y2.flatMap c30_o)) (c' := .box [.int .i64 a0.1, .dat y2.length (y2.flatMap c30_o)]) rfl rfl rfl rfl (Nat.le_of_ble_eq_true rfl) rfl rfl (evd rfl rfl (ev_mv (c := .dat e16.length (e16.flatMap ci64)) rfl rfl rfl (?_))))))
          obtain ⟨v30, g31, h⟩ := ob_some h
          refine evd rfl rfl (ev_call (era rfl (erD eci64 _) eran) (impl_copyInts_s g31) (evd rfl rfl (ev_bs [.own 3 v30.length (v30.flatMap ci64)] (cs := [.own 3 v30.length (v30.flatMap ci64)]) rfl ⟨rfl, trivial⟩ rfl (Nat.le_of_ble_eq_true rfl) rfl (?_))))
          obtain ⟨g32, h⟩ := chk_some h
          refine evd rfl rfl (ev_app (f := c30_o) (l := y2) (m := [v30]) (c2 := .own 30 [v30].length ([v30].flatMap c30_o)) rfl rfl rfl (flat_len zc30_o [v30]) rfl rfl g32 rfl (evd rfl rfl (ev_fa (c1 := .cref 12 0) (v := .cref 12 1) rfl rfl rfl ⟨_, rfl⟩ rfl (evd rfl rfl (ev_st (off := 1) (c1 := .own 30 (y2 ++ [v30]).length ((y2 ++ [v30]).flatMap c30_o)) (cs' := [.int .i64 a0.1, .own 30 (y2 ++ [v30]).length ((y2 ++ [v30]).flatMap c30_o)]) rfl rfl rfl rfl rfl rfl (Nat.le_of_ble_eq_true rfl) rfl (evdn ?_))))))
          exact kimpl_SplitHeavy_J2 y1 (y2 ++ [v30]) h _ ⟨kr, kr, kr, kr, kr, kr, kr, kr, kr, kr, kr, trivial⟩
      · refine ls_cF rfl g14 ?_
        refine ls_exit ?_
        have q0 := (Option.some.inj h).symm
        have r0 := hr1
        rw [q0] at r0
        exact kXimpl_SplitHeavy_B1 y1 y2 r0 _ ⟨kr, kr, kr, kr, trivial⟩
end Go.Proofs.Ytkmkbpphdalgoaa
