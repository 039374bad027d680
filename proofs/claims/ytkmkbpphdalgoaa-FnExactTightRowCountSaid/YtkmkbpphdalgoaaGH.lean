/-
  Functions of the program as typed functions, printed by gen.py, and that the program's functions do what they say. No conditions.
-/
import Derived.Test.YtkmkbpphdalgoaaGA
namespace Go.Proofs.Ytkmkbpphdalgoaa
open Go.RowKit
set_option linter.unusedVariables false
set_option maxRecDepth 100000
set_option maxHeartbeats 1000000
def laws_szIntS (a0 : List Int) (a1 : Int) : Option (Int) := cond (decide ((IntKind.i64.wrap (a1 - (List.length a0 : Int))) < 0)) (some (-1)) (some (IntKind.i64.wrap (a1 - (List.length a0 : Int))))
theorem laws_szIntS_s {a0 : List Int} {a1 : Int} {r : Int} (h : laws_szIntS a0 a1 = some r) : SoundAt Try.prog 87 [.dat a0.length (a0.flatMap ci64), .int .i64 a1] (.int .i64 r) := by
  unfold laws_szIntS at h
  refine sound_lit tbOk lit87 (Nat.le_of_ble_eq_true rfl) rfl ?_
  unfold c87
  refine ls_keep [(0, .dat a0.length (a0.flatMap ci64)), (1, .int .i64 a1)] ⟨kr, kr, trivial⟩ rfl ?_
  refine ls_rs tbOk ?_
  refine evs (ev_ac rfl nofun rfl (evn ?_))
  refine ls_keep [(0, .dat a0.length (a0.flatMap ci64)), (1, .int .i64 a1)] ⟨kr, kr, trivial⟩ rfl ?_
  refine ls_rs tbOk ?_
  refine evs (ev_mv (c := .int .i64 a1) rfl rfl rfl (evs (ev_mv (c := .dat a0.length (a0.flatMap ci64)) rfl rfl rfl (evs (ev_len (c1 := .dat a0.length (a0.flatMap ci64)) rfl rfl rfl (evs (ev_bin (c1 := .int .i64 a1) (c2 := .int .i64 (List.length a0 : Int)) rfl rfl rfl (evs (ev_as (c := .int .i64 (IntKind.i64.wrap (a1 - (List.length a0 : Int)))) rfl rfl rfl (evn ?_))))))))))
  refine ls_keep [(1, .int .i64 (IntKind.i64.wrap (a1 - (List.length a0 : Int))))] ⟨kr, trivial⟩ rfl ?_
  refine ls_seq_k fun K1 hK1 => ?_
  refine ls_rs tbOk ?_
  refine evs (ev_mv (c := .int .i64 (IntKind.i64.wrap (a1 - (List.length a0 : Int)))) rfl rfl rfl (evs (ev_bin (c1 := .int .i64 (IntKind.i64.wrap (a1 - (List.length a0 : Int)))) (c2 := .int .i64 0) rfl rfl rfl (evn ?_))))
  refine ls_keep [(1, .int .i64 (IntKind.i64.wrap (a1 - (List.length a0 : Int)))), (10, .bool (decide ((IntKind.i64.wrap (a1 - (List.length a0 : Int))) < 0)))] ⟨kr, kr, trivial⟩ rfl ?_
  rcases cond_some h with ⟨g2, h⟩ | ⟨g2, h⟩
  · refine ls_cT rfl g2 ?_
    refine ls_rs tbOk ?_
    refine evs (ev_ac rfl nofun rfl (evn ?_))
    refine ls_keep [(4, .int .i64 (-1))] ⟨kr, trivial⟩ rfl ?_
    refine ls_ret ?_
    have hr := Option.some.inj h
    rw [← hr]
    exact ⟨.inl rfl, rfl⟩
  · refine ls_cF rfl g2 ?_
    refine ls_skip ?_
    refine hK1 _ (ls_keep [(1, .int .i64 (IntKind.i64.wrap (a1 - (List.length a0 : Int))))] ⟨kr, trivial⟩ rfl ?_)
    refine ls_rs tbOk ?_
    refine evs (ev_mv (c := .int .i64 (IntKind.i64.wrap (a1 - (List.length a0 : Int)))) rfl rfl rfl (evs (ev_as (c := .int .i64 (IntKind.i64.wrap (a1 - (List.length a0 : Int)))) rfl rfl rfl (evn ?_))))
    refine ls_keep [(4, .int .i64 (IntKind.i64.wrap (a1 - (List.length a0 : Int))))] ⟨kr, trivial⟩ rfl ?_
    refine ls_ret ?_
    have hr := Option.some.inj h
    rw [← hr]
    exact ⟨.inl rfl, rfl⟩
def laws_szIntSS_B1 (a0 : List (List Int)) (rec : (Int × Int) → Option (Sum (Int) (Int))) (s : Int × Int) : Option (Sum (Int) (Int)) := match s with
  | (y1, y2) => cond (decide (y2 < (List.length a0 : Int))) (obind (geti a0 y2) fun e8 => obind (laws_szIntS e8 y1) fun v10 => cond (decide (v10 < 0)) (some (.inr (-1))) (rec (v10, (IntKind.i64.wrap (y2 + 1))))) (some (.inl y1))
def laws_szIntSS (a0 : List (List Int)) (a1 : Int) : Option (Int) := cond (decide ((IntKind.i64.wrap (a1 - (List.length a0 : Int))) < 0)) (some (-1)) (obind (loopF (laws_szIntSS_B1 a0) fz ((IntKind.i64.wrap (a1 - (List.length a0 : Int))), 0)) fun o1 => (match o1 with
  | .inl z4 => (some z4)
  | .inr r => some r))
theorem laws_szIntSS_s {a0 : List (List Int)} {a1 : Int} {r : Int} (h : laws_szIntSS a0 a1 = some r) : SoundAt Try.prog 99 [.dat a0.length (a0.flatMap c30_d), .int .i64 a1] (.int .i64 r) := by
  unfold laws_szIntSS at h
  refine sound_lit tbOk lit99 (Nat.le_of_ble_eq_true rfl) rfl ?_
  unfold c99
  refine ls_keep [(0, .dat a0.length (a0.flatMap c30_d)), (1, .int .i64 a1)] ⟨kr, kr, trivial⟩ rfl ?_
  refine ls_rs tbOk ?_
  refine evs (ev_ac rfl nofun rfl (evn ?_))
  refine ls_keep [(0, .dat a0.length (a0.flatMap c30_d)), (1, .int .i64 a1)] ⟨kr, kr, trivial⟩ rfl ?_
  refine ls_rs tbOk ?_
  refine evs (ev_mv (c := .int .i64 a1) rfl rfl rfl (evs (ev_mv (c := .dat a0.length (a0.flatMap c30_d)) rfl rfl rfl (evs (ev_len (c1 := .dat a0.length (a0.flatMap c30_d)) rfl rfl rfl (evs (ev_bin (c1 := .int .i64 a1) (c2 := .int .i64 (List.length a0 : Int)) rfl rfl rfl (evs (ev_as (c := .int .i64 (IntKind.i64.wrap (a1 - (List.length a0 : Int)))) rfl rfl rfl (evn ?_))))))))))
  refine ls_keep [(0, .dat a0.length (a0.flatMap c30_d)), (1, .int .i64 (IntKind.i64.wrap (a1 - (List.length a0 : Int))))] ⟨kr, kr, trivial⟩ rfl ?_
  refine ls_seq_k fun K1 hK1 => ?_
  refine ls_rs tbOk ?_
  refine evs (ev_mv (c := .int .i64 (IntKind.i64.wrap (a1 - (List.length a0 : Int)))) rfl rfl rfl (evs (ev_bin (c1 := .int .i64 (IntKind.i64.wrap (a1 - (List.length a0 : Int)))) (c2 := .int .i64 0) rfl rfl rfl (evn ?_))))
  refine ls_keep [(0, .dat a0.length (a0.flatMap c30_d)), (1, .int .i64 (IntKind.i64.wrap (a1 - (List.length a0 : Int)))), (11, .bool (decide ((IntKind.i64.wrap (a1 - (List.length a0 : Int))) < 0)))] ⟨kr, kr, kr, trivial⟩ rfl ?_
  rcases cond_some h with ⟨g2, h⟩ | ⟨g2, h⟩
  · refine ls_cT rfl g2 ?_
    refine ls_rs tbOk ?_
    refine evs (ev_ac rfl nofun rfl (evn ?_))
    refine ls_keep [(4, .int .i64 (-1))] ⟨kr, trivial⟩ rfl ?_
    refine ls_ret ?_
    have hr := Option.some.inj h
    rw [← hr]
    exact ⟨.inl rfl, rfl⟩
  · refine ls_cF rfl g2 ?_
    refine ls_skip ?_
    refine hK1 _ (ls_keep [(0, .dat a0.length (a0.flatMap c30_d)), (1, .int .i64 (IntKind.i64.wrap (a1 - (List.length a0 : Int))))] ⟨kr, kr, trivial⟩ rfl ?_)
    refine ls_seq_k fun K3 hK3 => ?_
    refine ls_rs tbOk ?_
    refine evs (ev_ac rfl nofun rfl (evn ?_))
    refine ls_keep [(0, .dat a0.length (a0.flatMap c30_d)), (1, .int .i64 (IntKind.i64.wrap (a1 - (List.length a0 : Int)))), (5, .int .i64 0)] ⟨kr, kr, kr, trivial⟩ rfl ?_
    obtain ⟨o1, hl, hr1⟩ := ob_some h
    clear h
    have kXlaws_szIntSS_B1 : ∀ (z4 : Int), (some z4) = some r → ∀ σ' : PS, okK σ' [(1, .int .i64 z4)] → K3 σ' := by
      intro z4 h σ' hk
      refine hK3 _ (ls_keep [(1, .int .i64 z4)] hk rfl ?_)
      refine ls_rs tbOk ?_
      refine evs (ev_mv (c := .int .i64 z4) rfl rfl rfl (evs (ev_as (c := .int .i64 z4) rfl rfl rfl (evn ?_))))
      refine ls_keep [(4, .int .i64 z4)] ⟨kr, trivial⟩ rfl ?_
      refine ls_ret ?_
      have hr := Option.some.inj h
      rw [← hr]
      exact ⟨.inl rfl, rfl⟩
    refine ls_rec (fun (s : Int × Int) => match s with | (y1, y2) => [(0, .dat a0.length (a0.flatMap c30_d)), (1, .int .i64 y1), (5, .int .i64 y2)]) (laws_szIntSS_B1 a0) fz ((IntKind.i64.wrap (a1 - (List.length a0 : Int))), 0) o1 hl ⟨kr, kr, kr, trivial⟩ (fun _ => rfl) ?_
    rintro m ⟨y1, y2⟩ N h hN
    unfold laws_szIntSS_B1 at h
    dsimp only at h
    refine ls_seq_k fun K5 hK5 => ?_
    refine ls_rs tbOk ?_
    refine evs (ev_mv (c := .int .i64 y2) rfl rfl rfl (evs (ev_mv (c := .dat a0.length (a0.flatMap c30_d)) rfl rfl rfl (evs (ev_len (c1 := .dat a0.length (a0.flatMap c30_d)) rfl rfl rfl (evs (ev_bin (c1 := .int .i64 y2) (c2 := .int .i64 (List.length a0 : Int)) rfl rfl rfl (evn ?_))))))))
    refine ls_keep [(0, .dat a0.length (a0.flatMap c30_d)), (1, .int .i64 y1), (5, .int .i64 y2), (15, .bool (decide (y2 < (List.length a0 : Int))))] ⟨kr, kr, kr, kr, trivial⟩ rfl ?_
    rcases cond_some h with ⟨g6, h⟩ | ⟨g6, h⟩
    · refine ls_cT rfl g6 ?_
      refine ls_skip ?_
      refine hK5 _ (ls_keep [(0, .dat a0.length (a0.flatMap c30_d)), (1, .int .i64 y1), (5, .int .i64 y2)] ⟨kr, kr, kr, trivial⟩ rfl ?_)
      refine ls_seq_k fun K7 hK7 => ?_
      refine ls_blk ?_
      refine ls_rs tbOk ?_
      refine evs (ev_mv (c := .dat a0.length (a0.flatMap c30_d)) rfl rfl rfl (evs (ev_mv (c := .int .i64 y2) rfl rfl rfl (?_))))
      obtain ⟨e8, g9, h⟩ := ob_some h
      refine evs (ev_ia rfl rfl rfl ⟨(geti_some g9).1, (geti_some g9).2.1⟩ (evs (ev_ldE (off := 0) (v := .dat e8.length (e8.flatMap ci64)) rfl rfl zc30_d g9 rfl (Nat.le_of_ble_eq_true rfl) rfl (evs (ev_mv (c := .int .i64 y1) rfl rfl rfl (?_))))))
      obtain ⟨v10, g11, h⟩ := ob_some h
      refine evs (ev_call (era rfl (erD eci64 _) (era rfl rfl eran)) (laws_szIntS_s g11) (evs (ev_as (c := .int .i64 v10) rfl rfl rfl (evn ?_))))
      refine ls_keep [(0, .dat a0.length (a0.flatMap c30_d)), (1, .int .i64 v10), (5, .int .i64 y2)] ⟨kr, kr, kr, trivial⟩ rfl ?_
      refine ls_rs tbOk ?_
      refine evs (ev_mv (c := .int .i64 v10) rfl rfl rfl (evs (ev_bin (c1 := .int .i64 v10) (c2 := .int .i64 0) rfl rfl rfl (evn ?_))))
      refine ls_keep [(0, .dat a0.length (a0.flatMap c30_d)), (1, .int .i64 v10), (5, .int .i64 y2), (25, .bool (decide (v10 < 0)))] ⟨kr, kr, kr, kr, trivial⟩ rfl ?_
      rcases cond_some h with ⟨g12, h⟩ | ⟨g12, h⟩
      · refine ls_cT rfl g12 ?_
        refine ls_rs tbOk ?_
        refine evs (ev_ac rfl nofun rfl (evn ?_))
        refine ls_keep [(4, .int .i64 (-1))] ⟨kr, trivial⟩ rfl ?_
        refine ls_ret ?_
        have q0 := (Option.some.inj h).symm
        have r0 := hr1
        rw [q0] at r0
        have hr := Option.some.inj r0
        rw [← hr]
        exact ⟨.inl rfl, rfl⟩
      · refine ls_cF rfl g12 ?_
        refine ls_skip ?_
        refine hK7 _ (ls_keep [(0, .dat a0.length (a0.flatMap c30_d)), (1, .int .i64 v10), (5, .int .i64 y2)] ⟨kr, kr, kr, trivial⟩ rfl ?_)
        refine ls_rgn tbOk ?_
        refine evs (ev_mv (c := .int .i64 y2) rfl rfl rfl (evs (ev_bin (c1 := .int .i64 y2) (c2 := .int .i64 1) rfl rfl rfl (evs (ev_as (c := .int .i64 (IntKind.i64.wrap (y2 + 1))) rfl rfl rfl (evn ?_))))))
        exact hN _ (v10, (IntKind.i64.wrap (y2 + 1))) h ⟨kr, kr, kr, trivial⟩
    · refine ls_cF rfl g6 ?_
      refine ls_exit ?_
      have q0 := (Option.some.inj h).symm
      have r0 := hr1
      rw [q0] at r0
      exact kXlaws_szIntSS_B1 y1 r0 _ ⟨kr, trivial⟩
def laws_szRelation (a0 : Int × (List (List Int))) (a1 : Int) : Option (Int) := obind (laws_szIntSS a0.2 a1) fun v1 => cond (decide (v1 < 0)) (some (-1)) (some v1)
theorem laws_szRelation_s {a0 : Int × (List (List Int))} {a1 : Int} {r : Int} (h : laws_szRelation a0 a1 = some r) : SoundAt Try.prog 25 [.agg [.int .i64 a0.1, .dat a0.2.length (a0.2.flatMap c30_d)], .int .i64 a1] (.int .i64 r) := by
  unfold laws_szRelation at h
  refine sound_lit tbOk lit25 (Nat.le_of_ble_eq_true rfl) rfl ?_
  unfold c25
  refine ls_keep [(0, .agg [.int .i64 a0.1, .dat a0.2.length (a0.2.flatMap c30_d)]), (1, .int .i64 a1)] ⟨kr, kr, trivial⟩ rfl ?_
  refine ls_rs tbOk ?_
  refine evs (ev_bx (c1 := .agg [.int .i64 a0.1, .dat a0.2.length (a0.2.flatMap c30_d)]) rfl rfl rfl (evs (ev_ac rfl nofun rfl (evn ?_))))
  refine ls_keep [(1, .int .i64 a1), (2, .box [.int .i64 a0.1, .dat a0.2.length (a0.2.flatMap c30_d)])] ⟨kr, kr, trivial⟩ rfl ?_
  refine ls_rs tbOk ?_
  refine evs (ev_fa (c1 := .cref 2 0) (v := .cref 2 1) rfl rfl rfl ⟨_, rfl⟩ rfl (evs (ev_ldB (off := 1) (v := .dat a0.2.length (a0.2.flatMap c30_d)) rfl rfl rfl rfl (Nat.le_of_ble_eq_true rfl) rfl (evs (ev_mv (c := .int .i64 a1) rfl rfl rfl (?_))))))
  obtain ⟨v1, g2, h⟩ := ob_some h
  refine evs (ev_call (era rfl (erD ec30_d _) (era rfl rfl eran)) (laws_szIntSS_s g2) (evs (ev_as (c := .int .i64 v1) rfl rfl rfl (evn ?_))))
  refine ls_keep [(1, .int .i64 v1)] ⟨kr, trivial⟩ rfl ?_
  refine ls_seq_k fun K3 hK3 => ?_
  refine ls_rs tbOk ?_
  refine evs (ev_mv (c := .int .i64 v1) rfl rfl rfl (evs (ev_bin (c1 := .int .i64 v1) (c2 := .int .i64 0) rfl rfl rfl (evn ?_))))
  refine ls_keep [(1, .int .i64 v1), (10, .bool (decide (v1 < 0)))] ⟨kr, kr, trivial⟩ rfl ?_
  rcases cond_some h with ⟨g4, h⟩ | ⟨g4, h⟩
  · refine ls_cT rfl g4 ?_
    refine ls_rs tbOk ?_
    refine evs (ev_ac rfl nofun rfl (evn ?_))
    refine ls_keep [(4, .int .i64 (-1))] ⟨kr, trivial⟩ rfl ?_
    refine ls_ret ?_
    have hr := Option.some.inj h
    rw [← hr]
    exact ⟨.inl rfl, rfl⟩
  · refine ls_cF rfl g4 ?_
    refine ls_skip ?_
    refine hK3 _ (ls_keep [(1, .int .i64 v1)] ⟨kr, trivial⟩ rfl ?_)
    refine ls_rs tbOk ?_
    refine evs (ev_mv (c := .int .i64 v1) rfl rfl rfl (evs (ev_as (c := .int .i64 v1) rfl rfl rfl (evn ?_))))
    refine ls_keep [(4, .int .i64 v1)] ⟨kr, trivial⟩ rfl ?_
    refine ls_ret ?_
    have hr := Option.some.inj h
    rw [← hr]
    exact ⟨.inl rfl, rfl⟩
def laws_szTable (a0 : (List UInt8) × (Int × (List (List Int)))) (a1 : Int) : Option (Int) := cond (decide ((IntKind.i64.wrap (a1 - (List.length a0.1 : Int))) < 0)) (some (-1)) (obind (laws_szRelation a0.2 (IntKind.i64.wrap (a1 - (List.length a0.1 : Int)))) fun v3 => cond (decide (v3 < 0)) (some (-1)) (some v3))
theorem laws_szTable_s {a0 : (List UInt8) × (Int × (List (List Int)))} {a1 : Int} {r : Int} (h : laws_szTable a0 a1 = some r) : SoundAt Try.prog 162 [.agg [.str a0.1, .int .i64 a0.2.1, .dat a0.2.2.length (a0.2.2.flatMap c30_d)], .int .i64 a1] (.int .i64 r) := by
  unfold laws_szTable at h
  refine sound_lit tbOk lit162 (Nat.le_of_ble_eq_true rfl) rfl ?_
  unfold c162
  refine ls_keep [(0, .agg [.str a0.1, .int .i64 a0.2.1, .dat a0.2.2.length (a0.2.2.flatMap c30_d)]), (1, .int .i64 a1)] ⟨kr, kr, trivial⟩ rfl ?_
  refine ls_rs tbOk ?_
  refine evs (ev_bx (c1 := .agg [.str a0.1, .int .i64 a0.2.1, .dat a0.2.2.length (a0.2.2.flatMap c30_d)]) rfl rfl rfl (evs (ev_ac rfl nofun rfl (evn ?_))))
  refine ls_keep [(1, .int .i64 a1), (2, .box [.str a0.1, .int .i64 a0.2.1, .dat a0.2.2.length (a0.2.2.flatMap c30_d)])] ⟨kr, kr, trivial⟩ rfl ?_
  refine ls_rs tbOk ?_
  refine evs (ev_mv (c := .int .i64 a1) rfl rfl rfl (evs (ev_fa (c1 := .cref 2 0) (v := .cref 2 0) rfl rfl rfl ⟨_, rfl⟩ rfl (evs (ev_ldB (off := 0) (v := .str a0.1) rfl rfl rfl rfl (Nat.le_of_ble_eq_true rfl) rfl (evs (ev_lens (z := []) rfl rfl (evs (ev_bin (c1 := .int .i64 a1) (c2 := .int .i64 (List.length a0.1 : Int)) rfl rfl rfl (evs (ev_as (c := .int .i64 (IntKind.i64.wrap (a1 - (List.length a0.1 : Int)))) rfl rfl rfl (evn ?_))))))))))))
  refine ls_keep [(1, .int .i64 (IntKind.i64.wrap (a1 - (List.length a0.1 : Int)))), (2, .box [.str a0.1, .int .i64 a0.2.1, .dat a0.2.2.length (a0.2.2.flatMap c30_d)])] ⟨kr, kr, trivial⟩ rfl ?_
  refine ls_seq_k fun K1 hK1 => ?_
  refine ls_rs tbOk ?_
  refine evs (ev_mv (c := .int .i64 (IntKind.i64.wrap (a1 - (List.length a0.1 : Int)))) rfl rfl rfl (evs (ev_bin (c1 := .int .i64 (IntKind.i64.wrap (a1 - (List.length a0.1 : Int)))) (c2 := .int .i64 0) rfl rfl rfl (evn ?_))))
  refine ls_keep [(1, .int .i64 (IntKind.i64.wrap (a1 - (List.length a0.1 : Int)))), (2, .box [.str a0.1, .int .i64 a0.2.1, .dat a0.2.2.length (a0.2.2.flatMap c30_d)]), (11, .bool (decide ((IntKind.i64.wrap (a1 - (List.length a0.1 : Int))) < 0)))] ⟨kr, kr, kr, trivial⟩ rfl ?_
  rcases cond_some h with ⟨g2, h⟩ | ⟨g2, h⟩
  · refine ls_cT rfl g2 ?_
    refine ls_rs tbOk ?_
    refine evs (ev_ac rfl nofun rfl (evn ?_))
    refine ls_keep [(4, .int .i64 (-1))] ⟨kr, trivial⟩ rfl ?_
    refine ls_ret ?_
    have hr := Option.some.inj h
    rw [← hr]
    exact ⟨.inl rfl, rfl⟩
  · refine ls_cF rfl g2 ?_
    refine ls_skip ?_
    refine hK1 _ (ls_keep [(1, .int .i64 (IntKind.i64.wrap (a1 - (List.length a0.1 : Int)))), (2, .box [.str a0.1, .int .i64 a0.2.1, .dat a0.2.2.length (a0.2.2.flatMap c30_d)])] ⟨kr, kr, trivial⟩ rfl ?_)
    refine ls_rs tbOk ?_
    refine evs (ev_fa (c1 := .cref 2 0) (v := .cref 2 1) rfl rfl rfl ⟨_, rfl⟩ rfl (evs (ev_ldB (off := 1) (v := .agg [.int .i64 a0.2.1, .dat a0.2.2.length (a0.2.2.flatMap c30_d)]) rfl rfl rfl rfl (Nat.le_of_ble_eq_true rfl) rfl (evs (ev_mv (c := .int .i64 (IntKind.i64.wrap (a1 - (List.length a0.1 : Int)))) rfl rfl rfl (?_))))))
    obtain ⟨v3, g4, h⟩ := ob_some h
    refine evs (ev_call (era rfl (erg (erc rfl (erc (erD ec30_d _) rfl))) (era rfl rfl eran)) (laws_szRelation_s g4) (evs (ev_as (c := .int .i64 v3) rfl rfl rfl (evn ?_))))
    refine ls_keep [(1, .int .i64 v3)] ⟨kr, trivial⟩ rfl ?_
    refine ls_seq_k fun K5 hK5 => ?_
    refine ls_rs tbOk ?_
    refine evs (ev_mv (c := .int .i64 v3) rfl rfl rfl (evs (ev_bin (c1 := .int .i64 v3) (c2 := .int .i64 0) rfl rfl rfl (evn ?_))))
    refine ls_keep [(1, .int .i64 v3), (17, .bool (decide (v3 < 0)))] ⟨kr, kr, trivial⟩ rfl ?_
    rcases cond_some h with ⟨g6, h⟩ | ⟨g6, h⟩
    · refine ls_cT rfl g6 ?_
      refine ls_rs tbOk ?_
      refine evs (ev_ac rfl nofun rfl (evn ?_))
      refine ls_keep [(4, .int .i64 (-1))] ⟨kr, trivial⟩ rfl ?_
      refine ls_ret ?_
      have hr := Option.some.inj h
      rw [← hr]
      exact ⟨.inl rfl, rfl⟩
    · refine ls_cF rfl g6 ?_
      refine ls_skip ?_
      refine hK5 _ (ls_keep [(1, .int .i64 v3)] ⟨kr, trivial⟩ rfl ?_)
      refine ls_rs tbOk ?_
      refine evs (ev_mv (c := .int .i64 v3) rfl rfl rfl (evs (ev_as (c := .int .i64 v3) rfl rfl rfl (evn ?_))))
      refine ls_keep [(4, .int .i64 v3)] ⟨kr, trivial⟩ rfl ?_
      refine ls_ret ?_
      have hr := Option.some.inj h
      rw [← hr]
      exact ⟨.inl rfl, rfl⟩
def c187_dd (x : (List UInt8) × (Int × (List (List Int)))) : List V := [.str x.1, .int .i64 x.2.1, .dat x.2.2.length (x.2.2.flatMap c30_d)]
theorem zc187_dd (x : (List UInt8) × (Int × (List (List Int)))) : (c187_dd x).length = 3 := rfl
theorem ec187_dd (x : (List UInt8) × (Int × (List (List Int)))) : erL (c187_dd x) = c187_dd x := (erc rfl (erc rfl (erc (erD ec30_d _) rfl)))
def laws_szTableS_B1 (a0 : List ((List UInt8) × (Int × (List (List Int))))) (rec : (Int × Int) → Option (Sum (Int) (Int))) (s : Int × Int) : Option (Sum (Int) (Int)) := match s with
  | (y1, y2) => cond (decide (y2 < (List.length a0 : Int))) (obind (geti a0 y2) fun e8 => obind (laws_szTable e8 y1) fun v10 => cond (decide (v10 < 0)) (some (.inr (-1))) (rec (v10, (IntKind.i64.wrap (y2 + 1))))) (some (.inl y1))
def laws_szTableS (a0 : List ((List UInt8) × (Int × (List (List Int))))) (a1 : Int) : Option (Int) := cond (decide ((IntKind.i64.wrap (a1 - (List.length a0 : Int))) < 0)) (some (-1)) (obind (loopF (laws_szTableS_B1 a0) fz ((IntKind.i64.wrap (a1 - (List.length a0 : Int))), 0)) fun o1 => (match o1 with
  | .inl z4 => (some z4)
  | .inr r => some r))
theorem laws_szTableS_s {a0 : List ((List UInt8) × (Int × (List (List Int))))} {a1 : Int} {r : Int} (h : laws_szTableS a0 a1 = some r) : SoundAt Try.prog 127 [.dat a0.length (a0.flatMap c187_dd), .int .i64 a1] (.int .i64 r) := by
  unfold laws_szTableS at h
  refine sound_lit tbOk lit127 (Nat.le_of_ble_eq_true rfl) rfl ?_
  unfold c127
  refine ls_keep [(0, .dat a0.length (a0.flatMap c187_dd)), (1, .int .i64 a1)] ⟨kr, kr, trivial⟩ rfl ?_
  refine ls_rs tbOk ?_
  refine evs (ev_ac rfl nofun rfl (evn ?_))
  refine ls_keep [(0, .dat a0.length (a0.flatMap c187_dd)), (1, .int .i64 a1)] ⟨kr, kr, trivial⟩ rfl ?_
  refine ls_rs tbOk ?_
  refine evs (ev_mv (c := .int .i64 a1) rfl rfl rfl (evs (ev_mv (c := .dat a0.length (a0.flatMap c187_dd)) rfl rfl rfl (evs (ev_len (c1 := .dat a0.length (a0.flatMap c187_dd)) rfl rfl rfl (evs (ev_bin (c1 := .int .i64 a1) (c2 := .int .i64 (List.length a0 : Int)) rfl rfl rfl (evs (ev_as (c := .int .i64 (IntKind.i64.wrap (a1 - (List.length a0 : Int)))) rfl rfl rfl (evn ?_))))))))))
  refine ls_keep [(0, .dat a0.length (a0.flatMap c187_dd)), (1, .int .i64 (IntKind.i64.wrap (a1 - (List.length a0 : Int))))] ⟨kr, kr, trivial⟩ rfl ?_
  refine ls_seq_k fun K1 hK1 => ?_
  refine ls_rs tbOk ?_
  refine evs (ev_mv (c := .int .i64 (IntKind.i64.wrap (a1 - (List.length a0 : Int)))) rfl rfl rfl (evs (ev_bin (c1 := .int .i64 (IntKind.i64.wrap (a1 - (List.length a0 : Int)))) (c2 := .int .i64 0) rfl rfl rfl (evn ?_))))
  refine ls_keep [(0, .dat a0.length (a0.flatMap c187_dd)), (1, .int .i64 (IntKind.i64.wrap (a1 - (List.length a0 : Int)))), (11, .bool (decide ((IntKind.i64.wrap (a1 - (List.length a0 : Int))) < 0)))] ⟨kr, kr, kr, trivial⟩ rfl ?_
  rcases cond_some h with ⟨g2, h⟩ | ⟨g2, h⟩
  · refine ls_cT rfl g2 ?_
    refine ls_rs tbOk ?_
    refine evs (ev_ac rfl nofun rfl (evn ?_))
    refine ls_keep [(4, .int .i64 (-1))] ⟨kr, trivial⟩ rfl ?_
    refine ls_ret ?_
    have hr := Option.some.inj h
    rw [← hr]
    exact ⟨.inl rfl, rfl⟩
  · refine ls_cF rfl g2 ?_
    refine ls_skip ?_
    refine hK1 _ (ls_keep [(0, .dat a0.length (a0.flatMap c187_dd)), (1, .int .i64 (IntKind.i64.wrap (a1 - (List.length a0 : Int))))] ⟨kr, kr, trivial⟩ rfl ?_)
    refine ls_seq_k fun K3 hK3 => ?_
    refine ls_rs tbOk ?_
    refine evs (ev_ac rfl nofun rfl (evn ?_))
    refine ls_keep [(0, .dat a0.length (a0.flatMap c187_dd)), (1, .int .i64 (IntKind.i64.wrap (a1 - (List.length a0 : Int)))), (5, .int .i64 0)] ⟨kr, kr, kr, trivial⟩ rfl ?_
    obtain ⟨o1, hl, hr1⟩ := ob_some h
    clear h
    have kXlaws_szTableS_B1 : ∀ (z4 : Int), (some z4) = some r → ∀ σ' : PS, okK σ' [(1, .int .i64 z4)] → K3 σ' := by
      intro z4 h σ' hk
      refine hK3 _ (ls_keep [(1, .int .i64 z4)] hk rfl ?_)
      refine ls_rs tbOk ?_
      refine evs (ev_mv (c := .int .i64 z4) rfl rfl rfl (evs (ev_as (c := .int .i64 z4) rfl rfl rfl (evn ?_))))
      refine ls_keep [(4, .int .i64 z4)] ⟨kr, trivial⟩ rfl ?_
      refine ls_ret ?_
      have hr := Option.some.inj h
      rw [← hr]
      exact ⟨.inl rfl, rfl⟩
    refine ls_rec (fun (s : Int × Int) => match s with | (y1, y2) => [(0, .dat a0.length (a0.flatMap c187_dd)), (1, .int .i64 y1), (5, .int .i64 y2)]) (laws_szTableS_B1 a0) fz ((IntKind.i64.wrap (a1 - (List.length a0 : Int))), 0) o1 hl ⟨kr, kr, kr, trivial⟩ (fun _ => rfl) ?_
    rintro m ⟨y1, y2⟩ N h hN
    unfold laws_szTableS_B1 at h
    dsimp only at h
    refine ls_seq_k fun K5 hK5 => ?_
    refine ls_rs tbOk ?_
    refine evs (ev_mv (c := .int .i64 y2) rfl rfl rfl (evs (ev_mv (c := .dat a0.length (a0.flatMap c187_dd)) rfl rfl rfl (evs (ev_len (c1 := .dat a0.length (a0.flatMap c187_dd)) rfl rfl rfl (evs (ev_bin (c1 := .int .i64 y2) (c2 := .int .i64 (List.length a0 : Int)) rfl rfl rfl (evn ?_))))))))
    refine ls_keep [(0, .dat a0.length (a0.flatMap c187_dd)), (1, .int .i64 y1), (5, .int .i64 y2), (15, .bool (decide (y2 < (List.length a0 : Int))))] ⟨kr, kr, kr, kr, trivial⟩ rfl ?_
    rcases cond_some h with ⟨g6, h⟩ | ⟨g6, h⟩
    · refine ls_cT rfl g6 ?_
      refine ls_skip ?_
      refine hK5 _ (ls_keep [(0, .dat a0.length (a0.flatMap c187_dd)), (1, .int .i64 y1), (5, .int .i64 y2)] ⟨kr, kr, kr, trivial⟩ rfl ?_)
      refine ls_seq_k fun K7 hK7 => ?_
      refine ls_blk ?_
      refine ls_rs tbOk ?_
      refine evs (ev_mv (c := .dat a0.length (a0.flatMap c187_dd)) rfl rfl rfl (evs (ev_mv (c := .int .i64 y2) rfl rfl rfl (?_))))
      obtain ⟨e8, g9, h⟩ := ob_some h
      refine evs (ev_ia rfl rfl rfl ⟨(geti_some g9).1, (geti_some g9).2.1⟩ (evs (ev_ldE (off := 0) (v := .agg [.str e8.1, .int .i64 e8.2.1, .dat e8.2.2.length (e8.2.2.flatMap c30_d)]) rfl rfl zc187_dd g9 rfl (Nat.le_of_ble_eq_true rfl) rfl (evs (ev_mv (c := .int .i64 y1) rfl rfl rfl (?_))))))
      obtain ⟨v10, g11, h⟩ := ob_some h
      refine evs (ev_call (era rfl (erg (erc rfl (erc rfl (erc (erD ec30_d _) rfl)))) (era rfl rfl eran)) (laws_szTable_s g11) (evs (ev_as (c := .int .i64 v10) rfl rfl rfl (evn ?_))))
      refine ls_keep [(0, .dat a0.length (a0.flatMap c187_dd)), (1, .int .i64 v10), (5, .int .i64 y2)] ⟨kr, kr, kr, trivial⟩ rfl ?_
      refine ls_rs tbOk ?_
      refine evs (ev_mv (c := .int .i64 v10) rfl rfl rfl (evs (ev_bin (c1 := .int .i64 v10) (c2 := .int .i64 0) rfl rfl rfl (evn ?_))))
      refine ls_keep [(0, .dat a0.length (a0.flatMap c187_dd)), (1, .int .i64 v10), (5, .int .i64 y2), (25, .bool (decide (v10 < 0)))] ⟨kr, kr, kr, kr, trivial⟩ rfl ?_
      rcases cond_some h with ⟨g12, h⟩ | ⟨g12, h⟩
      · refine ls_cT rfl g12 ?_
        refine ls_rs tbOk ?_
        refine evs (ev_ac rfl nofun rfl (evn ?_))
        refine ls_keep [(4, .int .i64 (-1))] ⟨kr, trivial⟩ rfl ?_
        refine ls_ret ?_
        have q0 := (Option.some.inj h).symm
        have r0 := hr1
        rw [q0] at r0
        have hr := Option.some.inj r0
        rw [← hr]
        exact ⟨.inl rfl, rfl⟩
      · refine ls_cF rfl g12 ?_
        refine ls_skip ?_
        refine hK7 _ (ls_keep [(0, .dat a0.length (a0.flatMap c187_dd)), (1, .int .i64 v10), (5, .int .i64 y2)] ⟨kr, kr, kr, trivial⟩ rfl ?_)
        refine ls_rgn tbOk ?_
        refine evs (ev_mv (c := .int .i64 y2) rfl rfl rfl (evs (ev_bin (c1 := .int .i64 y2) (c2 := .int .i64 1) rfl rfl rfl (evs (ev_as (c := .int .i64 (IntKind.i64.wrap (y2 + 1))) rfl rfl rfl (evn ?_))))))
        exact hN _ (v10, (IntKind.i64.wrap (y2 + 1))) h ⟨kr, kr, kr, trivial⟩
    · refine ls_cF rfl g6 ?_
      refine ls_exit ?_
      have q0 := (Option.some.inj h).symm
      have r0 := hr1
      rw [q0] at r0
      exact kXlaws_szTableS_B1 y1 r0 _ ⟨kr, trivial⟩
def laws_szDatabase (a0 : (List ((List UInt8) × (Int × (List (List Int)))))) (a1 : Int) : Option (Int) := obind (laws_szTableS a0 a1) fun v1 => cond (decide (v1 < 0)) (some (-1)) (some v1)
theorem laws_szDatabase_s {a0 : (List ((List UInt8) × (Int × (List (List Int)))))} {a1 : Int} {r : Int} (h : laws_szDatabase a0 a1 = some r) : SoundAt Try.prog 59 [.agg [.dat a0.length (a0.flatMap c187_dd)], .int .i64 a1] (.int .i64 r) := by
  unfold laws_szDatabase at h
  refine sound_lit tbOk lit59 (Nat.le_of_ble_eq_true rfl) rfl ?_
  unfold c59
  refine ls_keep [(0, .agg [.dat a0.length (a0.flatMap c187_dd)]), (1, .int .i64 a1)] ⟨kr, kr, trivial⟩ rfl ?_
  refine ls_rs tbOk ?_
  refine evs (ev_bx (c1 := .agg [.dat a0.length (a0.flatMap c187_dd)]) rfl rfl rfl (evs (ev_ac rfl nofun rfl (evn ?_))))
  refine ls_keep [(1, .int .i64 a1), (2, .box [.dat a0.length (a0.flatMap c187_dd)])] ⟨kr, kr, trivial⟩ rfl ?_
  refine ls_rs tbOk ?_
  refine evs (ev_fa (c1 := .cref 2 0) (v := .cref 2 0) rfl rfl rfl ⟨_, rfl⟩ rfl (evs (ev_ldB (off := 0) (v := .dat a0.length (a0.flatMap c187_dd)) rfl rfl rfl rfl (Nat.le_of_ble_eq_true rfl) rfl (evs (ev_mv (c := .int .i64 a1) rfl rfl rfl (?_))))))
  obtain ⟨v1, g2, h⟩ := ob_some h
  refine evs (ev_call (era rfl (erD ec187_dd _) (era rfl rfl eran)) (laws_szTableS_s g2) (evs (ev_as (c := .int .i64 v1) rfl rfl rfl (evn ?_))))
  refine ls_keep [(1, .int .i64 v1)] ⟨kr, trivial⟩ rfl ?_
  refine ls_seq_k fun K3 hK3 => ?_
  refine ls_rs tbOk ?_
  refine evs (ev_mv (c := .int .i64 v1) rfl rfl rfl (evs (ev_bin (c1 := .int .i64 v1) (c2 := .int .i64 0) rfl rfl rfl (evn ?_))))
  refine ls_keep [(1, .int .i64 v1), (10, .bool (decide (v1 < 0)))] ⟨kr, kr, trivial⟩ rfl ?_
  rcases cond_some h with ⟨g4, h⟩ | ⟨g4, h⟩
  · refine ls_cT rfl g4 ?_
    refine ls_rs tbOk ?_
    refine evs (ev_ac rfl nofun rfl (evn ?_))
    refine ls_keep [(4, .int .i64 (-1))] ⟨kr, trivial⟩ rfl ?_
    refine ls_ret ?_
    have hr := Option.some.inj h
    rw [← hr]
    exact ⟨.inl rfl, rfl⟩
  · refine ls_cF rfl g4 ?_
    refine ls_skip ?_
    refine hK3 _ (ls_keep [(1, .int .i64 v1)] ⟨kr, trivial⟩ rfl ?_)
    refine ls_rs tbOk ?_
    refine evs (ev_mv (c := .int .i64 v1) rfl rfl rfl (evs (ev_as (c := .int .i64 v1) rfl rfl rfl (evn ?_))))
    refine ls_keep [(4, .int .i64 v1)] ⟨kr, trivial⟩ rfl ?_
    refine ls_ret ?_
    have hr := Option.some.inj h
    rw [← hr]
    exact ⟨.inl rfl, rfl⟩
def c95_ddd (x : (List ((List UInt8) × (Int × (List (List Int)))))) : List V := [.dat x.length (x.flatMap c187_dd)]
theorem zc95_ddd (x : (List ((List UInt8) × (Int × (List (List Int)))))) : (c95_ddd x).length = 1 := rfl
theorem ec95_ddd (x : (List ((List UInt8) × (Int × (List (List Int)))))) : erL (c95_ddd x) = c95_ddd x := (erc (erD ec187_dd _) rfl)
def laws_szDatabaseS_B1 (a0 : List ((List ((List UInt8) × (Int × (List (List Int))))))) (rec : (Int × Int) → Option (Sum (Int) (Int))) (s : Int × Int) : Option (Sum (Int) (Int)) := match s with
  | (y1, y2) => cond (decide (y2 < (List.length a0 : Int))) (obind (geti a0 y2) fun e8 => obind (laws_szDatabase e8 y1) fun v10 => cond (decide (v10 < 0)) (some (.inr (-1))) (rec (v10, (IntKind.i64.wrap (y2 + 1))))) (some (.inl y1))
def laws_szDatabaseS (a0 : List ((List ((List UInt8) × (Int × (List (List Int))))))) (a1 : Int) : Option (Int) := cond (decide ((IntKind.i64.wrap (a1 - (List.length a0 : Int))) < 0)) (some (-1)) (obind (loopF (laws_szDatabaseS_B1 a0) fz ((IntKind.i64.wrap (a1 - (List.length a0 : Int))), 0)) fun o1 => (match o1 with
  | .inl z4 => (some z4)
  | .inr r => some r))
theorem laws_szDatabaseS_s {a0 : List ((List ((List UInt8) × (Int × (List (List Int))))))} {a1 : Int} {r : Int} (h : laws_szDatabaseS a0 a1 = some r) : SoundAt Try.prog 119 [.dat a0.length (a0.flatMap c95_ddd), .int .i64 a1] (.int .i64 r) := by
  unfold laws_szDatabaseS at h
  refine sound_lit tbOk lit119 (Nat.le_of_ble_eq_true rfl) rfl ?_
  unfold c119
  refine ls_keep [(0, .dat a0.length (a0.flatMap c95_ddd)), (1, .int .i64 a1)] ⟨kr, kr, trivial⟩ rfl ?_
  refine ls_rs tbOk ?_
  refine evs (ev_ac rfl nofun rfl (evn ?_))
  refine ls_keep [(0, .dat a0.length (a0.flatMap c95_ddd)), (1, .int .i64 a1)] ⟨kr, kr, trivial⟩ rfl ?_
  refine ls_rs tbOk ?_
  refine evs (ev_mv (c := .int .i64 a1) rfl rfl rfl (evs (ev_mv (c := .dat a0.length (a0.flatMap c95_ddd)) rfl rfl rfl (evs (ev_len (c1 := .dat a0.length (a0.flatMap c95_ddd)) rfl rfl rfl (evs (ev_bin (c1 := .int .i64 a1) (c2 := .int .i64 (List.length a0 : Int)) rfl rfl rfl (evs (ev_as (c := .int .i64 (IntKind.i64.wrap (a1 - (List.length a0 : Int)))) rfl rfl rfl (evn ?_))))))))))
  refine ls_keep [(0, .dat a0.length (a0.flatMap c95_ddd)), (1, .int .i64 (IntKind.i64.wrap (a1 - (List.length a0 : Int))))] ⟨kr, kr, trivial⟩ rfl ?_
  refine ls_seq_k fun K1 hK1 => ?_
  refine ls_rs tbOk ?_
  refine evs (ev_mv (c := .int .i64 (IntKind.i64.wrap (a1 - (List.length a0 : Int)))) rfl rfl rfl (evs (ev_bin (c1 := .int .i64 (IntKind.i64.wrap (a1 - (List.length a0 : Int)))) (c2 := .int .i64 0) rfl rfl rfl (evn ?_))))
  refine ls_keep [(0, .dat a0.length (a0.flatMap c95_ddd)), (1, .int .i64 (IntKind.i64.wrap (a1 - (List.length a0 : Int)))), (11, .bool (decide ((IntKind.i64.wrap (a1 - (List.length a0 : Int))) < 0)))] ⟨kr, kr, kr, trivial⟩ rfl ?_
  rcases cond_some h with ⟨g2, h⟩ | ⟨g2, h⟩
  · refine ls_cT rfl g2 ?_
    refine ls_rs tbOk ?_
    refine evs (ev_ac rfl nofun rfl (evn ?_))
    refine ls_keep [(4, .int .i64 (-1))] ⟨kr, trivial⟩ rfl ?_
    refine ls_ret ?_
    have hr := Option.some.inj h
    rw [← hr]
    exact ⟨.inl rfl, rfl⟩
  · refine ls_cF rfl g2 ?_
    refine ls_skip ?_
    refine hK1 _ (ls_keep [(0, .dat a0.length (a0.flatMap c95_ddd)), (1, .int .i64 (IntKind.i64.wrap (a1 - (List.length a0 : Int))))] ⟨kr, kr, trivial⟩ rfl ?_)
    refine ls_seq_k fun K3 hK3 => ?_
    refine ls_rs tbOk ?_
    refine evs (ev_ac rfl nofun rfl (evn ?_))
    refine ls_keep [(0, .dat a0.length (a0.flatMap c95_ddd)), (1, .int .i64 (IntKind.i64.wrap (a1 - (List.length a0 : Int)))), (5, .int .i64 0)] ⟨kr, kr, kr, trivial⟩ rfl ?_
    obtain ⟨o1, hl, hr1⟩ := ob_some h
    clear h
    have kXlaws_szDatabaseS_B1 : ∀ (z4 : Int), (some z4) = some r → ∀ σ' : PS, okK σ' [(1, .int .i64 z4)] → K3 σ' := by
      intro z4 h σ' hk
      refine hK3 _ (ls_keep [(1, .int .i64 z4)] hk rfl ?_)
      refine ls_rs tbOk ?_
      refine evs (ev_mv (c := .int .i64 z4) rfl rfl rfl (evs (ev_as (c := .int .i64 z4) rfl rfl rfl (evn ?_))))
      refine ls_keep [(4, .int .i64 z4)] ⟨kr, trivial⟩ rfl ?_
      refine ls_ret ?_
      have hr := Option.some.inj h
      rw [← hr]
      exact ⟨.inl rfl, rfl⟩
    refine ls_rec (fun (s : Int × Int) => match s with | (y1, y2) => [(0, .dat a0.length (a0.flatMap c95_ddd)), (1, .int .i64 y1), (5, .int .i64 y2)]) (laws_szDatabaseS_B1 a0) fz ((IntKind.i64.wrap (a1 - (List.length a0 : Int))), 0) o1 hl ⟨kr, kr, kr, trivial⟩ (fun _ => rfl) ?_
    rintro m ⟨y1, y2⟩ N h hN
    unfold laws_szDatabaseS_B1 at h
    dsimp only at h
    refine ls_seq_k fun K5 hK5 => ?_
    refine ls_rs tbOk ?_
    refine evs (ev_mv (c := .int .i64 y2) rfl rfl rfl (evs (ev_mv (c := .dat a0.length (a0.flatMap c95_ddd)) rfl rfl rfl (evs (ev_len (c1 := .dat a0.length (a0.flatMap c95_ddd)) rfl rfl rfl (evs (ev_bin (c1 := .int .i64 y2) (c2 := .int .i64 (List.length a0 : Int)) rfl rfl rfl (evn ?_))))))))
    refine ls_keep [(0, .dat a0.length (a0.flatMap c95_ddd)), (1, .int .i64 y1), (5, .int .i64 y2), (15, .bool (decide (y2 < (List.length a0 : Int))))] ⟨kr, kr, kr, kr, trivial⟩ rfl ?_
    rcases cond_some h with ⟨g6, h⟩ | ⟨g6, h⟩
    · refine ls_cT rfl g6 ?_
      refine ls_skip ?_
      refine hK5 _ (ls_keep [(0, .dat a0.length (a0.flatMap c95_ddd)), (1, .int .i64 y1), (5, .int .i64 y2)] ⟨kr, kr, kr, trivial⟩ rfl ?_)
      refine ls_seq_k fun K7 hK7 => ?_
      refine ls_blk ?_
      refine ls_rs tbOk ?_
      refine evs (ev_mv (c := .dat a0.length (a0.flatMap c95_ddd)) rfl rfl rfl (evs (ev_mv (c := .int .i64 y2) rfl rfl rfl (?_))))
      obtain ⟨e8, g9, h⟩ := ob_some h
      refine evs (ev_ia rfl rfl rfl ⟨(geti_some g9).1, (geti_some g9).2.1⟩ (evs (ev_ldE (off := 0) (v := .agg [.dat e8.length (e8.flatMap c187_dd)]) rfl rfl zc95_ddd g9 rfl (Nat.le_of_ble_eq_true rfl) rfl (evs (ev_mv (c := .int .i64 y1) rfl rfl rfl (?_))))))
      obtain ⟨v10, g11, h⟩ := ob_some h
      refine evs (ev_call (era rfl (erg (erc (erD ec187_dd _) rfl)) (era rfl rfl eran)) (laws_szDatabase_s g11) (evs (ev_as (c := .int .i64 v10) rfl rfl rfl (evn ?_))))
      refine ls_keep [(0, .dat a0.length (a0.flatMap c95_ddd)), (1, .int .i64 v10), (5, .int .i64 y2)] ⟨kr, kr, kr, trivial⟩ rfl ?_
      refine ls_rs tbOk ?_
      refine evs (ev_mv (c := .int .i64 v10) rfl rfl rfl (evs (ev_bin (c1 := .int .i64 v10) (c2 := .int .i64 0) rfl rfl rfl (evn ?_))))
      refine ls_keep [(0, .dat a0.length (a0.flatMap c95_ddd)), (1, .int .i64 v10), (5, .int .i64 y2), (25, .bool (decide (v10 < 0)))] ⟨kr, kr, kr, kr, trivial⟩ rfl ?_
      rcases cond_some h with ⟨g12, h⟩ | ⟨g12, h⟩
      · refine ls_cT rfl g12 ?_
        refine ls_rs tbOk ?_
        refine evs (ev_ac rfl nofun rfl (evn ?_))
        refine ls_keep [(4, .int .i64 (-1))] ⟨kr, trivial⟩ rfl ?_
        refine ls_ret ?_
        have q0 := (Option.some.inj h).symm
        have r0 := hr1
        rw [q0] at r0
        have hr := Option.some.inj r0
        rw [← hr]
        exact ⟨.inl rfl, rfl⟩
      · refine ls_cF rfl g12 ?_
        refine ls_skip ?_
        refine hK7 _ (ls_keep [(0, .dat a0.length (a0.flatMap c95_ddd)), (1, .int .i64 v10), (5, .int .i64 y2)] ⟨kr, kr, kr, trivial⟩ rfl ?_)
        refine ls_rgn tbOk ?_
        refine evs (ev_mv (c := .int .i64 y2) rfl rfl rfl (evs (ev_bin (c1 := .int .i64 y2) (c2 := .int .i64 1) rfl rfl rfl (evs (ev_as (c := .int .i64 (IntKind.i64.wrap (y2 + 1))) rfl rfl rfl (evn ?_))))))
        exact hN _ (v10, (IntKind.i64.wrap (y2 + 1))) h ⟨kr, kr, kr, trivial⟩
    · refine ls_cF rfl g6 ?_
      refine ls_exit ?_
      have q0 := (Option.some.inj h).symm
      have r0 := hr1
      rw [q0] at r0
      exact kXlaws_szDatabaseS_B1 y1 r0 _ ⟨kr, trivial⟩
def laws_szHistory (a0 : Int × (List ((List ((List UInt8) × (Int × (List (List Int)))))))) (a1 : Int) : Option (Int) := obind (laws_szDatabaseS a0.2 a1) fun v1 => cond (decide (v1 < 0)) (some (-1)) (some v1)
theorem laws_szHistory_s {a0 : Int × (List ((List ((List UInt8) × (Int × (List (List Int)))))))} {a1 : Int} {r : Int} (h : laws_szHistory a0 a1 = some r) : SoundAt Try.prog 45 [.agg [.int .i64 a0.1, .dat a0.2.length (a0.2.flatMap c95_ddd)], .int .i64 a1] (.int .i64 r) := by
  unfold laws_szHistory at h
  refine sound_lit tbOk lit45 (Nat.le_of_ble_eq_true rfl) rfl ?_
  unfold c45
  refine ls_keep [(0, .agg [.int .i64 a0.1, .dat a0.2.length (a0.2.flatMap c95_ddd)]), (1, .int .i64 a1)] ⟨kr, kr, trivial⟩ rfl ?_
  refine ls_rs tbOk ?_
  refine evs (ev_bx (c1 := .agg [.int .i64 a0.1, .dat a0.2.length (a0.2.flatMap c95_ddd)]) rfl rfl rfl (evs (ev_ac rfl nofun rfl (evn ?_))))
  refine ls_keep [(1, .int .i64 a1), (2, .box [.int .i64 a0.1, .dat a0.2.length (a0.2.flatMap c95_ddd)])] ⟨kr, kr, trivial⟩ rfl ?_
  refine ls_rs tbOk ?_
  refine evs (ev_fa (c1 := .cref 2 0) (v := .cref 2 1) rfl rfl rfl ⟨_, rfl⟩ rfl (evs (ev_ldB (off := 1) (v := .dat a0.2.length (a0.2.flatMap c95_ddd)) rfl rfl rfl rfl (Nat.le_of_ble_eq_true rfl) rfl (evs (ev_mv (c := .int .i64 a1) rfl rfl rfl (?_))))))
  obtain ⟨v1, g2, h⟩ := ob_some h
  refine evs (ev_call (era rfl (erD ec95_ddd _) (era rfl rfl eran)) (laws_szDatabaseS_s g2) (evs (ev_as (c := .int .i64 v1) rfl rfl rfl (evn ?_))))
  refine ls_keep [(1, .int .i64 v1)] ⟨kr, trivial⟩ rfl ?_
  refine ls_seq_k fun K3 hK3 => ?_
  refine ls_rs tbOk ?_
  refine evs (ev_mv (c := .int .i64 v1) rfl rfl rfl (evs (ev_bin (c1 := .int .i64 v1) (c2 := .int .i64 0) rfl rfl rfl (evn ?_))))
  refine ls_keep [(1, .int .i64 v1), (10, .bool (decide (v1 < 0)))] ⟨kr, kr, trivial⟩ rfl ?_
  rcases cond_some h with ⟨g4, h⟩ | ⟨g4, h⟩
  · refine ls_cT rfl g4 ?_
    refine ls_rs tbOk ?_
    refine evs (ev_ac rfl nofun rfl (evn ?_))
    refine ls_keep [(4, .int .i64 (-1))] ⟨kr, trivial⟩ rfl ?_
    refine ls_ret ?_
    have hr := Option.some.inj h
    rw [← hr]
    exact ⟨.inl rfl, rfl⟩
  · refine ls_cF rfl g4 ?_
    refine ls_skip ?_
    refine hK3 _ (ls_keep [(1, .int .i64 v1)] ⟨kr, trivial⟩ rfl ?_)
    refine ls_rs tbOk ?_
    refine evs (ev_mv (c := .int .i64 v1) rfl rfl rfl (evs (ev_as (c := .int .i64 v1) rfl rfl rfl (evn ?_))))
    refine ls_keep [(4, .int .i64 v1)] ⟨kr, trivial⟩ rfl ?_
    refine ls_ret ?_
    have hr := Option.some.inj h
    rw [← hr]
    exact ⟨.inl rfl, rfl⟩
def laws_toIntS_B1 (a0 : List Int) (rec : ((List Int) × Int) → Option ((List Int))) (s : (List Int) × Int) : Option ((List Int)) := match s with
  | (y1, y2) => cond (decide (y2 < (List.length a0 : Int))) (obind (geti a0 y2) fun e7 => obind (geti y1 y2) fun e9 => rec ((seti y1 y2 e7), (IntKind.i64.wrap (y2 + 1)))) (some y1)
def laws_toIntS (a0 : List Int) : Option ((List Int)) := chk ((0 : Int) ≤ (List.length a0 : Int) ∧ Int.toNat (List.length a0 : Int) ≤ lim) (obind (loopF (laws_toIntS_B1 a0) fz ((List.replicate (Int.toNat (List.length a0 : Int)) (0 : Int)), 0)) fun z3 => some z3)
theorem laws_toIntS_s {a0 : List Int} {r : (List Int)} (h : laws_toIntS a0 = some r) : SoundAt Try.prog 32 [.dat a0.length (a0.flatMap ci64)] (.own 3 r.length (r.flatMap ci64)) := by
  unfold laws_toIntS at h
  refine sound_lit tbOk lit32 (Nat.le_of_ble_eq_true rfl) rfl ?_
  unfold c32
  refine ls_keep [(0, .dat a0.length (a0.flatMap ci64))] ⟨kr, trivial⟩ rfl ?_
  refine ls_rs tbOk ?_
  refine evs (ev_an rfl rfl (evn ?_))
  refine ls_keep [(0, .dat a0.length (a0.flatMap ci64))] ⟨kr, trivial⟩ rfl ?_
  refine ls_rs tbOk ?_
  refine evs (ev_mv (c := .dat a0.length (a0.flatMap ci64)) rfl rfl rfl (evs (ev_len (c1 := .dat a0.length (a0.flatMap ci64)) rfl rfl rfl (?_))))
  obtain ⟨g1, h⟩ := chk_some h
  refine evs (ev_mku (f := ci64) (z := (0 : Int)) rfl rfl rfl rfl rfl rfl g1 rfl (evs (ev_asu rfl rfl rfl (evn ?_))))
  refine ls_keep [(0, .dat a0.length (a0.flatMap ci64)), (3, .uni 3 (List.replicate (Int.toNat (List.length a0 : Int)) (0 : Int)).length ((List.replicate (Int.toNat (List.length a0 : Int)) (0 : Int)).flatMap ci64))] ⟨kr, kr, trivial⟩ rfl ?_
  refine ls_seq_k fun K2 hK2 => ?_
  refine ls_rs tbOk ?_
  refine evs (ev_ac rfl nofun rfl (evn ?_))
  refine ls_keep [(0, .dat a0.length (a0.flatMap ci64)), (3, .uni 3 (List.replicate (Int.toNat (List.length a0 : Int)) (0 : Int)).length ((List.replicate (Int.toNat (List.length a0 : Int)) (0 : Int)).flatMap ci64)), (4, .int .i64 0)] ⟨kr, kr, kr, trivial⟩ rfl ?_
  obtain ⟨o1, hl, hr1⟩ := ob_some h
  clear h
  have kXlaws_toIntS_B1 : ∀ (z3 : List Int), (some z3) = some r → ∀ σ' : PS, okK σ' [(3, .uni 3 z3.length (z3.flatMap ci64))] → K2 σ' := by
    intro z3 h σ' hk
    refine hK2 _ (ls_keep [(3, .uni 3 z3.length (z3.flatMap ci64))] hk rfl ?_)
    refine ls_rs tbOk ?_
    refine evs (ev_mvtu rfl rfl (evs (ev_as (c := .own 3 z3.length (z3.flatMap ci64)) rfl rfl rfl (evn ?_))))
    refine ls_keep [(2, .own 3 z3.length (z3.flatMap ci64))] ⟨kr, trivial⟩ rfl ?_
    refine ls_ret ?_
    have hr := Option.some.inj h
    rw [← hr]
    exact ⟨.inl rfl, rfl⟩
  refine ls_rec (fun (s : (List Int) × Int) => match s with | (y1, y2) => [(0, .dat a0.length (a0.flatMap ci64)), (3, .uni 3 y1.length (y1.flatMap ci64)), (4, .int .i64 y2)]) (laws_toIntS_B1 a0) fz ((List.replicate (Int.toNat (List.length a0 : Int)) (0 : Int)), 0) o1 hl ⟨kr, kr, kr, trivial⟩ (fun _ => rfl) ?_
  rintro m ⟨y1, y2⟩ N h hN
  unfold laws_toIntS_B1 at h
  dsimp only at h
  refine ls_seq_k fun K4 hK4 => ?_
  refine ls_rs tbOk ?_
  refine evs (ev_mv (c := .int .i64 y2) rfl rfl rfl (evs (ev_mv (c := .dat a0.length (a0.flatMap ci64)) rfl rfl rfl (evs (ev_len (c1 := .dat a0.length (a0.flatMap ci64)) rfl rfl rfl (evs (ev_bin (c1 := .int .i64 y2) (c2 := .int .i64 (List.length a0 : Int)) rfl rfl rfl (evn ?_))))))))
  refine ls_keep [(0, .dat a0.length (a0.flatMap ci64)), (3, .uni 3 y1.length (y1.flatMap ci64)), (4, .int .i64 y2), (11, .bool (decide (y2 < (List.length a0 : Int))))] ⟨kr, kr, kr, kr, trivial⟩ rfl ?_
  rcases cond_some h with ⟨g5, h⟩ | ⟨g5, h⟩
  · refine ls_cT rfl g5 ?_
    refine ls_skip ?_
    refine hK4 _ (ls_keep [(0, .dat a0.length (a0.flatMap ci64)), (3, .uni 3 y1.length (y1.flatMap ci64)), (4, .int .i64 y2)] ⟨kr, kr, kr, trivial⟩ rfl ?_)
    refine ls_seq_k fun K6 hK6 => ?_
    refine ls_blk ?_
    refine ls_rgn tbOk ?_
    refine evs (ev_mvu rfl rfl (evs (ev_mv (c := .int .i64 y2) rfl rfl rfl (evs (ev_mv (c := .dat a0.length (a0.flatMap ci64)) rfl rfl rfl (evs (ev_mv (c := .int .i64 y2) rfl rfl rfl (?_))))))))
    obtain ⟨e7, g8, h⟩ := ob_some h
    refine evs (ev_ia rfl rfl rfl ⟨(geti_some g8).1, (geti_some g8).2.1⟩ (evs (ev_ldE (off := 0) (v := .int .i64 e7) rfl rfl zci64 g8 rfl (Nat.le_of_ble_eq_true rfl) rfl (?_))))
    obtain ⟨e9, g10, h⟩ := ob_some h
    refine evs (ev_iau rfl rfl rfl rfl ⟨(geti_some g10).1, (geti_some g10).2.1⟩ (evs (ev_stu (e := e7) (c1 := .int .i64 e7) rfl rfl zci64 ⟨(geti_some g10).1, (geti_some g10).2.1⟩ rfl rfl rfl rfl rfl (evn ?_))))
    refine hK6 _ (ls_keep [(0, .dat a0.length (a0.flatMap ci64)), (3, .uni 3 (seti y1 y2 e7).length ((seti y1 y2 e7).flatMap ci64)), (4, .int .i64 y2)] ⟨kr, kr, kr, trivial⟩ rfl ?_)
    refine ls_rgn tbOk ?_
    refine evs (ev_mv (c := .int .i64 y2) rfl rfl rfl (evs (ev_bin (c1 := .int .i64 y2) (c2 := .int .i64 1) rfl rfl rfl (evs (ev_as (c := .int .i64 (IntKind.i64.wrap (y2 + 1))) rfl rfl rfl (evn ?_))))))
    exact hN _ ((seti y1 y2 e7), (IntKind.i64.wrap (y2 + 1))) h ⟨kr, kr, kr, trivial⟩
  · refine ls_cF rfl g5 ?_
    refine ls_exit ?_
    have q0 := (Option.some.inj h).symm
    have r0 := hr1
    rw [q0] at r0
    exact kXlaws_toIntS_B1 y1 r0 _ ⟨kr, trivial⟩
def c30_o (x : List Int) : List V := [.own 3 x.length (x.flatMap ci64)]
theorem zc30_o (x : List Int) : (c30_o x).length = 1 := rfl
theorem ec30_o (x : List Int) : erL (c30_o x) = c30_d x := (erc (erO eci64 _) rfl)
def laws_toIntSS_B1 (a0 : List (List Int)) (rec : ((List (List Int)) × Int) → Option ((List (List Int)))) (s : (List (List Int)) × Int) : Option ((List (List Int))) := match s with
  | (y1, y2) => cond (decide (y2 < (List.length a0 : Int))) (obind (geti a0 y2) fun e7 => obind (laws_toIntS e7) fun v9 => obind (geti y1 y2) fun e11 => rec ((seti y1 y2 v9), (IntKind.i64.wrap (y2 + 1)))) (some y1)
def laws_toIntSS (a0 : List (List Int)) : Option ((List (List Int))) := chk ((0 : Int) ≤ (List.length a0 : Int) ∧ Int.toNat (List.length a0 : Int) ≤ lim) (obind (loopF (laws_toIntSS_B1 a0) fz ((List.replicate (Int.toNat (List.length a0 : Int)) ([] : List Int)), 0)) fun z3 => some z3)
theorem laws_toIntSS_s {a0 : List (List Int)} {r : (List (List Int))} (h : laws_toIntSS a0 = some r) : SoundAt Try.prog 102 [.dat a0.length (a0.flatMap c30_d)] (.own 30 r.length (r.flatMap c30_o)) := by
  unfold laws_toIntSS at h
  refine sound_lit tbOk lit102 (Nat.le_of_ble_eq_true rfl) rfl ?_
  unfold c102
  refine ls_keep [(0, .dat a0.length (a0.flatMap c30_d))] ⟨kr, trivial⟩ rfl ?_
  refine ls_rs tbOk ?_
  refine evs (ev_an rfl rfl (evn ?_))
  refine ls_keep [(0, .dat a0.length (a0.flatMap c30_d))] ⟨kr, trivial⟩ rfl ?_
  refine ls_rs tbOk ?_
  refine evs (ev_mv (c := .dat a0.length (a0.flatMap c30_d)) rfl rfl rfl (evs (ev_len (c1 := .dat a0.length (a0.flatMap c30_d)) rfl rfl rfl (?_))))
  obtain ⟨g1, h⟩ := chk_some h
  refine evs (ev_mku (f := c30_o) (z := ([] : List Int)) rfl rfl rfl rfl rfl rfl g1 rfl (evs (ev_asu rfl rfl rfl (evn ?_))))
  refine ls_keep [(0, .dat a0.length (a0.flatMap c30_d)), (3, .uni 30 (List.replicate (Int.toNat (List.length a0 : Int)) ([] : List Int)).length ((List.replicate (Int.toNat (List.length a0 : Int)) ([] : List Int)).flatMap c30_o))] ⟨kr, kr, trivial⟩ rfl ?_
  refine ls_seq_k fun K2 hK2 => ?_
  refine ls_rs tbOk ?_
  refine evs (ev_ac rfl nofun rfl (evn ?_))
  refine ls_keep [(0, .dat a0.length (a0.flatMap c30_d)), (3, .uni 30 (List.replicate (Int.toNat (List.length a0 : Int)) ([] : List Int)).length ((List.replicate (Int.toNat (List.length a0 : Int)) ([] : List Int)).flatMap c30_o)), (4, .int .i64 0)] ⟨kr, kr, kr, trivial⟩ rfl ?_
  obtain ⟨o1, hl, hr1⟩ := ob_some h
  clear h
  have kXlaws_toIntSS_B1 : ∀ (z3 : List (List Int)), (some z3) = some r → ∀ σ' : PS, okK σ' [(3, .uni 30 z3.length (z3.flatMap c30_o))] → K2 σ' := by
    intro z3 h σ' hk
    refine hK2 _ (ls_keep [(3, .uni 30 z3.length (z3.flatMap c30_o))] hk rfl ?_)
    refine ls_rs tbOk ?_
    refine evs (ev_mvtu rfl rfl (evs (ev_as (c := .own 30 z3.length (z3.flatMap c30_o)) rfl rfl rfl (evn ?_))))
    refine ls_keep [(2, .own 30 z3.length (z3.flatMap c30_o))] ⟨kr, trivial⟩ rfl ?_
    refine ls_ret ?_
    have hr := Option.some.inj h
    rw [← hr]
    exact ⟨.inl rfl, rfl⟩
  refine ls_rec (fun (s : (List (List Int)) × Int) => match s with | (y1, y2) => [(0, .dat a0.length (a0.flatMap c30_d)), (3, .uni 30 y1.length (y1.flatMap c30_o)), (4, .int .i64 y2)]) (laws_toIntSS_B1 a0) fz ((List.replicate (Int.toNat (List.length a0 : Int)) ([] : List Int)), 0) o1 hl ⟨kr, kr, kr, trivial⟩ (fun _ => rfl) ?_
  rintro m ⟨y1, y2⟩ N h hN
  unfold laws_toIntSS_B1 at h
  dsimp only at h
  refine ls_seq_k fun K4 hK4 => ?_
  refine ls_rs tbOk ?_
  refine evs (ev_mv (c := .int .i64 y2) rfl rfl rfl (evs (ev_mv (c := .dat a0.length (a0.flatMap c30_d)) rfl rfl rfl (evs (ev_len (c1 := .dat a0.length (a0.flatMap c30_d)) rfl rfl rfl (evs (ev_bin (c1 := .int .i64 y2) (c2 := .int .i64 (List.length a0 : Int)) rfl rfl rfl (evn ?_))))))))
  refine ls_keep [(0, .dat a0.length (a0.flatMap c30_d)), (3, .uni 30 y1.length (y1.flatMap c30_o)), (4, .int .i64 y2), (11, .bool (decide (y2 < (List.length a0 : Int))))] ⟨kr, kr, kr, kr, trivial⟩ rfl ?_
  rcases cond_some h with ⟨g5, h⟩ | ⟨g5, h⟩
  · refine ls_cT rfl g5 ?_
    refine ls_skip ?_
    refine hK4 _ (ls_keep [(0, .dat a0.length (a0.flatMap c30_d)), (3, .uni 30 y1.length (y1.flatMap c30_o)), (4, .int .i64 y2)] ⟨kr, kr, kr, trivial⟩ rfl ?_)
    refine ls_seq_k fun K6 hK6 => ?_
    refine ls_blk ?_
    refine ls_rgn tbOk ?_
    refine evs (ev_mvu rfl rfl (evs (ev_mv (c := .int .i64 y2) rfl rfl rfl (evs (ev_mv (c := .dat a0.length (a0.flatMap c30_d)) rfl rfl rfl (evs (ev_mv (c := .int .i64 y2) rfl rfl rfl (?_))))))))
    obtain ⟨e7, g8, h⟩ := ob_some h
    refine evs (ev_ia rfl rfl rfl ⟨(geti_some g8).1, (geti_some g8).2.1⟩ (evs (ev_ldE (off := 0) (v := .dat e7.length (e7.flatMap ci64)) rfl rfl zc30_d g8 rfl (Nat.le_of_ble_eq_true rfl) rfl (?_))))
    obtain ⟨v9, g10, h⟩ := ob_some h
    refine evs (ev_call (era rfl (erD eci64 _) eran) (laws_toIntS_s g10) (?_))
    obtain ⟨e11, g12, h⟩ := ob_some h
    refine evs (ev_iau rfl rfl rfl rfl ⟨(geti_some g12).1, (geti_some g12).2.1⟩ (evs (ev_stu (e := v9) (c1 := .own 3 v9.length (v9.flatMap ci64)) rfl rfl zc30_o ⟨(geti_some g12).1, (geti_some g12).2.1⟩ rfl rfl rfl rfl rfl (evn ?_))))
    refine hK6 _ (ls_keep [(0, .dat a0.length (a0.flatMap c30_d)), (3, .uni 30 (seti y1 y2 v9).length ((seti y1 y2 v9).flatMap c30_o)), (4, .int .i64 y2)] ⟨kr, kr, kr, trivial⟩ rfl ?_)
    refine ls_rgn tbOk ?_
    refine evs (ev_mv (c := .int .i64 y2) rfl rfl rfl (evs (ev_bin (c1 := .int .i64 y2) (c2 := .int .i64 1) rfl rfl rfl (evs (ev_as (c := .int .i64 (IntKind.i64.wrap (y2 + 1))) rfl rfl rfl (evn ?_))))))
    exact hN _ ((seti y1 y2 v9), (IntKind.i64.wrap (y2 + 1))) h ⟨kr, kr, kr, trivial⟩
  · refine ls_cF rfl g5 ?_
    refine ls_exit ?_
    have q0 := (Option.some.inj h).symm
    have r0 := hr1
    rw [q0] at r0
    exact kXlaws_toIntSS_B1 y1 r0 _ ⟨kr, trivial⟩
def laws_toRelation (a0 : Int × (List (List Int))) : Option ((Int × (List (List Int)))) := obind (laws_toIntSS a0.2) fun v1 => some (a0.1, v1)
theorem laws_toRelation_s {a0 : Int × (List (List Int))} {r : (Int × (List (List Int)))} (h : laws_toRelation a0 = some r) : SoundAt Try.prog 27 [.agg [.int .i64 a0.1, .dat a0.2.length (a0.2.flatMap c30_d)]] (.agg [.int .i64 r.1, .own 30 r.2.length (r.2.flatMap c30_o)]) := by
  unfold laws_toRelation at h
  refine sound_lit tbOk lit27 (Nat.le_of_ble_eq_true rfl) rfl ?_
  unfold c27
  refine ls_keep [(0, .agg [.int .i64 a0.1, .dat a0.2.length (a0.2.flatMap c30_d)])] ⟨kr, trivial⟩ rfl ?_
  refine ls_rs tbOk ?_
  refine evs (ev_bx (c1 := .agg [.int .i64 a0.1, .dat a0.2.length (a0.2.flatMap c30_d)]) rfl rfl rfl (evs (ev_al rfl rfl (evn ?_))))
  refine ls_keep [(1, .box [.int .i64 a0.1, .dat a0.2.length (a0.2.flatMap c30_d)]), (2, .box [.int .i64 0, .own 30 ([] : List (List Int)).length (([] : List (List Int)).flatMap c30_o)])] ⟨kr, kr, trivial⟩ rfl ?_
  refine ls_rs tbOk ?_
  refine evs (ev_al rfl rfl (evn ?_))
  refine ls_keep [(1, .box [.int .i64 a0.1, .dat a0.2.length (a0.2.flatMap c30_d)]), (2, .box [.int .i64 0, .own 30 ([] : List (List Int)).length (([] : List (List Int)).flatMap c30_o)]), (3, .box [.int .i64 0, .own 30 ([] : List (List Int)).length (([] : List (List Int)).flatMap c30_o)])] ⟨kr, kr, kr, trivial⟩ rfl ?_
  refine ls_rs tbOk ?_
  refine evs (ev_fa (c1 := .cref 1 0) (v := .cref 1 0) rfl rfl rfl ⟨_, rfl⟩ rfl (evs (ev_ldB (off := 0) (v := .int .i64 a0.1) rfl rfl rfl rfl (Nat.le_of_ble_eq_true rfl) rfl (evs (ev_fa (c1 := .cref 3 0) (v := .cref 3 0) rfl rfl rfl ⟨_, rfl⟩ rfl (evs (ev_st (off := 0) (c1 := .int .i64 a0.1) (cs' := [.int .i64 a0.1, .own 30 ([] : List (List Int)).length (([] : List (List Int)).flatMap c30_o)]) rfl rfl rfl rfl rfl rfl (Nat.le_of_ble_eq_true rfl) rfl (evn ?_))))))))
  refine ls_keep [(1, .box [.int .i64 a0.1, .dat a0.2.length (a0.2.flatMap c30_d)]), (2, .box [.int .i64 0, .own 30 ([] : List (List Int)).length (([] : List (List Int)).flatMap c30_o)]), (3, .box [.int .i64 a0.1, .own 30 ([] : List (List Int)).length (([] : List (List Int)).flatMap c30_o)])] ⟨kr, kr, kr, trivial⟩ rfl ?_
  refine ls_rs tbOk ?_
  refine evs (ev_fa (c1 := .cref 1 0) (v := .cref 1 1) rfl rfl rfl ⟨_, rfl⟩ rfl (evs (ev_ldB (off := 1) (v := .dat a0.2.length (a0.2.flatMap c30_d)) rfl rfl rfl rfl (Nat.le_of_ble_eq_true rfl) rfl (?_))))
  obtain ⟨v1, g2, h⟩ := ob_some h
  refine evs (ev_call (era rfl (erD ec30_d _) eran) (laws_toIntSS_s g2) (evs (ev_fa (c1 := .cref 3 0) (v := .cref 3 1) rfl rfl rfl ⟨_, rfl⟩ rfl (evs (ev_st (off := 1) (c1 := .own 30 v1.length (v1.flatMap c30_o)) (cs' := [.int .i64 a0.1, .own 30 v1.length (v1.flatMap c30_o)]) rfl rfl rfl rfl rfl rfl (Nat.le_of_ble_eq_true rfl) rfl (evn ?_))))))
  refine ls_keep [(2, .box [.int .i64 0, .own 30 ([] : List (List Int)).length (([] : List (List Int)).flatMap c30_o)]), (3, .box [.int .i64 a0.1, .own 30 v1.length (v1.flatMap c30_o)])] ⟨kr, kr, trivial⟩ rfl ?_
  refine ls_rs tbOk ?_
  refine evs (ev_ldBt (off := 0) (v := .agg [.int .i64 a0.1, .own 30 v1.length (v1.flatMap c30_o)]) (c' := .box [.int .i64 a0.1, .dat v1.length (v1.flatMap c30_o)]) rfl rfl rfl rfl (Nat.le_of_ble_eq_true rfl) rfl rfl (evs (ev_st (off := 0) (c1 := .agg [.int .i64 a0.1, .own 30 v1.length (v1.flatMap c30_o)]) (cs' := [.int .i64 a0.1, .own 30 v1.length (v1.flatMap c30_o)]) rfl rfl rfl rfl rfl rfl (Nat.le_of_ble_eq_true rfl) rfl (evn ?_))))
  refine ls_keep [(2, .box [.int .i64 a0.1, .own 30 v1.length (v1.flatMap c30_o)])] ⟨kr, trivial⟩ rfl ?_
  refine ls_ret ?_
  have hr := Option.some.inj h
  rw [← hr]
  exact ⟨.inl rfl, rfl⟩
def laws_toTable (a0 : (List UInt8) × (Int × (List (List Int)))) : Option (((List UInt8) × (Int × (List (List Int))))) := obind (laws_toRelation a0.2) fun v1 => some (a0.1, v1)
theorem laws_toTable_s {a0 : (List UInt8) × (Int × (List (List Int)))} {r : ((List UInt8) × (Int × (List (List Int))))} (h : laws_toTable a0 = some r) : SoundAt Try.prog 163 [.agg [.str a0.1, .int .i64 a0.2.1, .dat a0.2.2.length (a0.2.2.flatMap c30_d)]] (.agg [.str r.1, .int .i64 r.2.1, .own 30 r.2.2.length (r.2.2.flatMap c30_o)]) := by
  unfold laws_toTable at h
  refine sound_lit tbOk lit163 (Nat.le_of_ble_eq_true rfl) rfl ?_
  unfold c163
  refine ls_keep [(0, .agg [.str a0.1, .int .i64 a0.2.1, .dat a0.2.2.length (a0.2.2.flatMap c30_d)])] ⟨kr, trivial⟩ rfl ?_
  refine ls_rs tbOk ?_
  refine evs (ev_bx (c1 := .agg [.str a0.1, .int .i64 a0.2.1, .dat a0.2.2.length (a0.2.2.flatMap c30_d)]) rfl rfl rfl (evs (ev_al rfl rfl (evn ?_))))
  refine ls_keep [(1, .box [.str a0.1, .int .i64 a0.2.1, .dat a0.2.2.length (a0.2.2.flatMap c30_d)]), (2, .box [.str [], .int .i64 0, .own 30 ([] : List (List Int)).length (([] : List (List Int)).flatMap c30_o)])] ⟨kr, kr, trivial⟩ rfl ?_
  refine ls_rs tbOk ?_
  refine evs (ev_al rfl rfl (evn ?_))
  refine ls_keep [(1, .box [.str a0.1, .int .i64 a0.2.1, .dat a0.2.2.length (a0.2.2.flatMap c30_d)]), (2, .box [.str [], .int .i64 0, .own 30 ([] : List (List Int)).length (([] : List (List Int)).flatMap c30_o)]), (3, .box [.str [], .int .i64 0, .own 30 ([] : List (List Int)).length (([] : List (List Int)).flatMap c30_o)])] ⟨kr, kr, kr, trivial⟩ rfl ?_
  refine ls_rs tbOk ?_
  refine evs (ev_fa (c1 := .cref 1 0) (v := .cref 1 0) rfl rfl rfl ⟨_, rfl⟩ rfl (evs (ev_ldB (off := 0) (v := .str a0.1) rfl rfl rfl rfl (Nat.le_of_ble_eq_true rfl) rfl (evs (ev_fa (c1 := .cref 3 0) (v := .cref 3 0) rfl rfl rfl ⟨_, rfl⟩ rfl (evs (ev_st (off := 0) (c1 := .str a0.1) (cs' := [.str a0.1, .int .i64 0, .own 30 ([] : List (List Int)).length (([] : List (List Int)).flatMap c30_o)]) rfl rfl rfl rfl rfl rfl (Nat.le_of_ble_eq_true rfl) rfl (evn ?_))))))))
  refine ls_keep [(1, .box [.str a0.1, .int .i64 a0.2.1, .dat a0.2.2.length (a0.2.2.flatMap c30_d)]), (2, .box [.str [], .int .i64 0, .own 30 ([] : List (List Int)).length (([] : List (List Int)).flatMap c30_o)]), (3, .box [.str a0.1, .int .i64 0, .own 30 ([] : List (List Int)).length (([] : List (List Int)).flatMap c30_o)])] ⟨kr, kr, kr, trivial⟩ rfl ?_
  refine ls_rs tbOk ?_
  refine evs (ev_fa (c1 := .cref 1 0) (v := .cref 1 1) rfl rfl rfl ⟨_, rfl⟩ rfl (evs (ev_ldB (off := 1) (v := .agg [.int .i64 a0.2.1, .dat a0.2.2.length (a0.2.2.flatMap c30_d)]) rfl rfl rfl rfl (Nat.le_of_ble_eq_true rfl) rfl (?_))))
  obtain ⟨v1, g2, h⟩ := ob_some h
  refine evs (ev_call (era rfl (erg (erc rfl (erc (erD ec30_d _) rfl))) eran) (laws_toRelation_s g2) (evs (ev_fa (c1 := .cref 3 0) (v := .cref 3 1) rfl rfl rfl ⟨_, rfl⟩ rfl (evs (ev_st (off := 1) (c1 := .agg [.int .i64 v1.1, .own 30 v1.2.length (v1.2.flatMap c30_o)]) (cs' := [.str a0.1, .int .i64 v1.1, .own 30 v1.2.length (v1.2.flatMap c30_o)]) rfl rfl rfl rfl rfl rfl (Nat.le_of_ble_eq_true rfl) rfl (evn ?_))))))
  refine ls_keep [(2, .box [.str [], .int .i64 0, .own 30 ([] : List (List Int)).length (([] : List (List Int)).flatMap c30_o)]), (3, .box [.str a0.1, .int .i64 v1.1, .own 30 v1.2.length (v1.2.flatMap c30_o)])] ⟨kr, kr, trivial⟩ rfl ?_
  refine ls_rs tbOk ?_
  refine evs (ev_ldBt (off := 0) (v := .agg [.str a0.1, .int .i64 v1.1, .own 30 v1.2.length (v1.2.flatMap c30_o)]) (c' := .box [.str a0.1, .int .i64 v1.1, .dat v1.2.length (v1.2.flatMap c30_o)]) rfl rfl rfl rfl (Nat.le_of_ble_eq_true rfl) rfl rfl (evs (ev_st (off := 0) (c1 := .agg [.str a0.1, .int .i64 v1.1, .own 30 v1.2.length (v1.2.flatMap c30_o)]) (cs' := [.str a0.1, .int .i64 v1.1, .own 30 v1.2.length (v1.2.flatMap c30_o)]) rfl rfl rfl rfl rfl rfl (Nat.le_of_ble_eq_true rfl) rfl (evn ?_))))
  refine ls_keep [(2, .box [.str a0.1, .int .i64 v1.1, .own 30 v1.2.length (v1.2.flatMap c30_o)])] ⟨kr, trivial⟩ rfl ?_
  refine ls_ret ?_
  have hr := Option.some.inj h
  rw [← hr]
  exact ⟨.inl rfl, rfl⟩
def c157_oo (x : (List UInt8) × (Int × (List (List Int)))) : List V := [.str x.1, .int .i64 x.2.1, .own 30 x.2.2.length (x.2.2.flatMap c30_o)]
theorem zc157_oo (x : (List UInt8) × (Int × (List (List Int)))) : (c157_oo x).length = 3 := rfl
theorem ec157_oo (x : (List UInt8) × (Int × (List (List Int)))) : erL (c157_oo x) = c157_dd x := (erc rfl (erc rfl (erc (erO ec30_o _) rfl)))
def laws_toTableS_B1 (a0 : List ((List UInt8) × (Int × (List (List Int))))) (rec : ((List ((List UInt8) × (Int × (List (List Int))))) × Int) → Option ((List ((List UInt8) × (Int × (List (List Int))))))) (s : (List ((List UInt8) × (Int × (List (List Int))))) × Int) : Option ((List ((List UInt8) × (Int × (List (List Int)))))) := match s with
  | (y1, y2) => cond (decide (y2 < (List.length a0 : Int))) (obind (geti a0 y2) fun e7 => obind (laws_toTable e7) fun v9 => obind (geti y1 y2) fun e11 => rec ((seti y1 y2 v9), (IntKind.i64.wrap (y2 + 1)))) (some y1)
def laws_toTableS (a0 : List ((List UInt8) × (Int × (List (List Int))))) : Option ((List ((List UInt8) × (Int × (List (List Int)))))) := chk ((0 : Int) ≤ (List.length a0 : Int) ∧ Int.toNat (List.length a0 : Int) ≤ lim) (obind (loopF (laws_toTableS_B1 a0) fz ((List.replicate (Int.toNat (List.length a0 : Int)) (([], (0, [])) : (List UInt8) × (Int × (List (List Int))))), 0)) fun z3 => some z3)
theorem laws_toTableS_s {a0 : List ((List UInt8) × (Int × (List (List Int))))} {r : (List ((List UInt8) × (Int × (List (List Int)))))} (h : laws_toTableS a0 = some r) : SoundAt Try.prog 128 [.dat a0.length (a0.flatMap c187_dd)] (.own 157 r.length (r.flatMap c157_oo)) := by
  unfold laws_toTableS at h
  refine sound_lit tbOk lit128 (Nat.le_of_ble_eq_true rfl) rfl ?_
  unfold c128
  refine ls_keep [(0, .dat a0.length (a0.flatMap c187_dd))] ⟨kr, trivial⟩ rfl ?_
  refine ls_rs tbOk ?_
  refine evs (ev_an rfl rfl (evn ?_))
  refine ls_keep [(0, .dat a0.length (a0.flatMap c187_dd))] ⟨kr, trivial⟩ rfl ?_
  refine ls_rs tbOk ?_
  refine evs (ev_mv (c := .dat a0.length (a0.flatMap c187_dd)) rfl rfl rfl (evs (ev_len (c1 := .dat a0.length (a0.flatMap c187_dd)) rfl rfl rfl (?_))))
  obtain ⟨g1, h⟩ := chk_some h
  refine evs (ev_mku (f := c157_oo) (z := (([], (0, [])) : (List UInt8) × (Int × (List (List Int))))) rfl rfl rfl rfl rfl rfl g1 rfl (evs (ev_asu rfl rfl rfl (evn ?_))))
  refine ls_keep [(0, .dat a0.length (a0.flatMap c187_dd)), (3, .uni 157 (List.replicate (Int.toNat (List.length a0 : Int)) (([], (0, [])) : (List UInt8) × (Int × (List (List Int))))).length ((List.replicate (Int.toNat (List.length a0 : Int)) (([], (0, [])) : (List UInt8) × (Int × (List (List Int))))).flatMap c157_oo))] ⟨kr, kr, trivial⟩ rfl ?_
  refine ls_seq_k fun K2 hK2 => ?_
  refine ls_rs tbOk ?_
  refine evs (ev_ac rfl nofun rfl (evn ?_))
  refine ls_keep [(0, .dat a0.length (a0.flatMap c187_dd)), (3, .uni 157 (List.replicate (Int.toNat (List.length a0 : Int)) (([], (0, [])) : (List UInt8) × (Int × (List (List Int))))).length ((List.replicate (Int.toNat (List.length a0 : Int)) (([], (0, [])) : (List UInt8) × (Int × (List (List Int))))).flatMap c157_oo)), (4, .int .i64 0)] ⟨kr, kr, kr, trivial⟩ rfl ?_
  obtain ⟨o1, hl, hr1⟩ := ob_some h
  clear h
  have kXlaws_toTableS_B1 : ∀ (z3 : List ((List UInt8) × (Int × (List (List Int))))), (some z3) = some r → ∀ σ' : PS, okK σ' [(3, .uni 157 z3.length (z3.flatMap c157_oo))] → K2 σ' := by
    intro z3 h σ' hk
    refine hK2 _ (ls_keep [(3, .uni 157 z3.length (z3.flatMap c157_oo))] hk rfl ?_)
    refine ls_rs tbOk ?_
    refine evs (ev_mvtu rfl rfl (evs (ev_as (c := .own 157 z3.length (z3.flatMap c157_oo)) rfl rfl rfl (evn ?_))))
    refine ls_keep [(2, .own 157 z3.length (z3.flatMap c157_oo))] ⟨kr, trivial⟩ rfl ?_
    refine ls_ret ?_
    have hr := Option.some.inj h
    rw [← hr]
    exact ⟨.inl rfl, rfl⟩
  refine ls_rec (fun (s : (List ((List UInt8) × (Int × (List (List Int))))) × Int) => match s with | (y1, y2) => [(0, .dat a0.length (a0.flatMap c187_dd)), (3, .uni 157 y1.length (y1.flatMap c157_oo)), (4, .int .i64 y2)]) (laws_toTableS_B1 a0) fz ((List.replicate (Int.toNat (List.length a0 : Int)) (([], (0, [])) : (List UInt8) × (Int × (List (List Int))))), 0) o1 hl ⟨kr, kr, kr, trivial⟩ (fun _ => rfl) ?_
  rintro m ⟨y1, y2⟩ N h hN
  unfold laws_toTableS_B1 at h
  dsimp only at h
  refine ls_seq_k fun K4 hK4 => ?_
  refine ls_rs tbOk ?_
  refine evs (ev_mv (c := .int .i64 y2) rfl rfl rfl (evs (ev_mv (c := .dat a0.length (a0.flatMap c187_dd)) rfl rfl rfl (evs (ev_len (c1 := .dat a0.length (a0.flatMap c187_dd)) rfl rfl rfl (evs (ev_bin (c1 := .int .i64 y2) (c2 := .int .i64 (List.length a0 : Int)) rfl rfl rfl (evn ?_))))))))
  refine ls_keep [(0, .dat a0.length (a0.flatMap c187_dd)), (3, .uni 157 y1.length (y1.flatMap c157_oo)), (4, .int .i64 y2), (11, .bool (decide (y2 < (List.length a0 : Int))))] ⟨kr, kr, kr, kr, trivial⟩ rfl ?_
  rcases cond_some h with ⟨g5, h⟩ | ⟨g5, h⟩
  · refine ls_cT rfl g5 ?_
    refine ls_skip ?_
    refine hK4 _ (ls_keep [(0, .dat a0.length (a0.flatMap c187_dd)), (3, .uni 157 y1.length (y1.flatMap c157_oo)), (4, .int .i64 y2)] ⟨kr, kr, kr, trivial⟩ rfl ?_)
    refine ls_seq_k fun K6 hK6 => ?_
    refine ls_blk ?_
    refine ls_rgn tbOk ?_
    refine evs (ev_mvu rfl rfl (evs (ev_mv (c := .int .i64 y2) rfl rfl rfl (evs (ev_mv (c := .dat a0.length (a0.flatMap c187_dd)) rfl rfl rfl (evs (ev_mv (c := .int .i64 y2) rfl rfl rfl (?_))))))))
    obtain ⟨e7, g8, h⟩ := ob_some h
    refine evs (ev_ia rfl rfl rfl ⟨(geti_some g8).1, (geti_some g8).2.1⟩ (evs (ev_ldE (off := 0) (v := .agg [.str e7.1, .int .i64 e7.2.1, .dat e7.2.2.length (e7.2.2.flatMap c30_d)]) rfl rfl zc187_dd g8 rfl (Nat.le_of_ble_eq_true rfl) rfl (?_))))
    obtain ⟨v9, g10, h⟩ := ob_some h
    refine evs (ev_call (era rfl (erg (erc rfl (erc rfl (erc (erD ec30_d _) rfl)))) eran) (laws_toTable_s g10) (?_))
    obtain ⟨e11, g12, h⟩ := ob_some h
    refine evs (ev_iau rfl rfl rfl rfl ⟨(geti_some g12).1, (geti_some g12).2.1⟩ (evs (ev_stu (e := v9) (c1 := .agg [.str v9.1, .int .i64 v9.2.1, .own 30 v9.2.2.length (v9.2.2.flatMap c30_o)]) rfl rfl zc157_oo ⟨(geti_some g12).1, (geti_some g12).2.1⟩ rfl rfl rfl rfl rfl (evn ?_))))
    refine hK6 _ (ls_keep [(0, .dat a0.length (a0.flatMap c187_dd)), (3, .uni 157 (seti y1 y2 v9).length ((seti y1 y2 v9).flatMap c157_oo)), (4, .int .i64 y2)] ⟨kr, kr, kr, trivial⟩ rfl ?_)
    refine ls_rgn tbOk ?_
    refine evs (ev_mv (c := .int .i64 y2) rfl rfl rfl (evs (ev_bin (c1 := .int .i64 y2) (c2 := .int .i64 1) rfl rfl rfl (evs (ev_as (c := .int .i64 (IntKind.i64.wrap (y2 + 1))) rfl rfl rfl (evn ?_))))))
    exact hN _ ((seti y1 y2 v9), (IntKind.i64.wrap (y2 + 1))) h ⟨kr, kr, kr, trivial⟩
  · refine ls_cF rfl g5 ?_
    refine ls_exit ?_
    have q0 := (Option.some.inj h).symm
    have r0 := hr1
    rw [q0] at r0
    exact kXlaws_toTableS_B1 y1 r0 _ ⟨kr, trivial⟩
def laws_toDatabase (a0 : (List ((List UInt8) × (Int × (List (List Int)))))) : Option (((List ((List UInt8) × (Int × (List (List Int))))))) := obind (laws_toTableS a0) fun v1 => some v1
theorem laws_toDatabase_s {a0 : (List ((List UInt8) × (Int × (List (List Int)))))} {r : ((List ((List UInt8) × (Int × (List (List Int))))))} (h : laws_toDatabase a0 = some r) : SoundAt Try.prog 61 [.agg [.dat a0.length (a0.flatMap c187_dd)]] (.agg [.own 157 r.length (r.flatMap c157_oo)]) := by
  unfold laws_toDatabase at h
  refine sound_lit tbOk lit61 (Nat.le_of_ble_eq_true rfl) rfl ?_
  unfold c61
  refine ls_keep [(0, .agg [.dat a0.length (a0.flatMap c187_dd)])] ⟨kr, trivial⟩ rfl ?_
  refine ls_rs tbOk ?_
  refine evs (ev_bx (c1 := .agg [.dat a0.length (a0.flatMap c187_dd)]) rfl rfl rfl (evs (ev_al rfl rfl (evn ?_))))
  refine ls_keep [(1, .box [.dat a0.length (a0.flatMap c187_dd)]), (2, .box [.own 157 ([] : List ((List UInt8) × (Int × (List (List Int))))).length (([] : List ((List UInt8) × (Int × (List (List Int))))).flatMap c157_oo)])] ⟨kr, kr, trivial⟩ rfl ?_
  refine ls_rs tbOk ?_
  refine evs (ev_al rfl rfl (evn ?_))
  refine ls_keep [(1, .box [.dat a0.length (a0.flatMap c187_dd)]), (2, .box [.own 157 ([] : List ((List UInt8) × (Int × (List (List Int))))).length (([] : List ((List UInt8) × (Int × (List (List Int))))).flatMap c157_oo)]), (3, .box [.own 157 ([] : List ((List UInt8) × (Int × (List (List Int))))).length (([] : List ((List UInt8) × (Int × (List (List Int))))).flatMap c157_oo)])] ⟨kr, kr, kr, trivial⟩ rfl ?_
  refine ls_rs tbOk ?_
  refine evs (ev_fa (c1 := .cref 1 0) (v := .cref 1 0) rfl rfl rfl ⟨_, rfl⟩ rfl (evs (ev_ldB (off := 0) (v := .dat a0.length (a0.flatMap c187_dd)) rfl rfl rfl rfl (Nat.le_of_ble_eq_true rfl) rfl (?_))))
  obtain ⟨v1, g2, h⟩ := ob_some h
  refine evs (ev_call (era rfl (erD ec187_dd _) eran) (laws_toTableS_s g2) (evs (ev_fa (c1 := .cref 3 0) (v := .cref 3 0) rfl rfl rfl ⟨_, rfl⟩ rfl (evs (ev_st (off := 0) (c1 := .own 157 v1.length (v1.flatMap c157_oo)) (cs' := [.own 157 v1.length (v1.flatMap c157_oo)]) rfl rfl rfl rfl rfl rfl (Nat.le_of_ble_eq_true rfl) rfl (evn ?_))))))
  refine ls_keep [(2, .box [.own 157 ([] : List ((List UInt8) × (Int × (List (List Int))))).length (([] : List ((List UInt8) × (Int × (List (List Int))))).flatMap c157_oo)]), (3, .box [.own 157 v1.length (v1.flatMap c157_oo)])] ⟨kr, kr, trivial⟩ rfl ?_
  refine ls_rs tbOk ?_
  refine evs (ev_ldBt (off := 0) (v := .agg [.own 157 v1.length (v1.flatMap c157_oo)]) (c' := .box [.dat v1.length (v1.flatMap c157_oo)]) rfl rfl rfl rfl (Nat.le_of_ble_eq_true rfl) rfl rfl (evs (ev_st (off := 0) (c1 := .agg [.own 157 v1.length (v1.flatMap c157_oo)]) (cs' := [.own 157 v1.length (v1.flatMap c157_oo)]) rfl rfl rfl rfl rfl rfl (Nat.le_of_ble_eq_true rfl) rfl (evn ?_))))
  refine ls_keep [(2, .box [.own 157 v1.length (v1.flatMap c157_oo)])] ⟨kr, trivial⟩ rfl ?_
  refine ls_ret ?_
  have hr := Option.some.inj h
  rw [← hr]
  exact ⟨.inl rfl, rfl⟩
def c100_ooo (x : (List ((List UInt8) × (Int × (List (List Int)))))) : List V := [.own 157 x.length (x.flatMap c157_oo)]
theorem zc100_ooo (x : (List ((List UInt8) × (Int × (List (List Int)))))) : (c100_ooo x).length = 1 := rfl
theorem ec100_ooo (x : (List ((List UInt8) × (Int × (List (List Int)))))) : erL (c100_ooo x) = c100_ddd x := (erc (erO ec157_oo _) rfl)
def laws_toDatabaseS_B1 (a0 : List ((List ((List UInt8) × (Int × (List (List Int))))))) (rec : ((List ((List ((List UInt8) × (Int × (List (List Int))))))) × Int) → Option ((List ((List ((List UInt8) × (Int × (List (List Int))))))))) (s : (List ((List ((List UInt8) × (Int × (List (List Int))))))) × Int) : Option ((List ((List ((List UInt8) × (Int × (List (List Int)))))))) := match s with
  | (y1, y2) => cond (decide (y2 < (List.length a0 : Int))) (obind (geti a0 y2) fun e7 => obind (laws_toDatabase e7) fun v9 => obind (geti y1 y2) fun e11 => rec ((seti y1 y2 v9), (IntKind.i64.wrap (y2 + 1)))) (some y1)
def laws_toDatabaseS (a0 : List ((List ((List UInt8) × (Int × (List (List Int))))))) : Option ((List ((List ((List UInt8) × (Int × (List (List Int)))))))) := chk ((0 : Int) ≤ (List.length a0 : Int) ∧ Int.toNat (List.length a0 : Int) ≤ lim) (obind (loopF (laws_toDatabaseS_B1 a0) fz ((List.replicate (Int.toNat (List.length a0 : Int)) ([] : (List ((List UInt8) × (Int × (List (List Int))))))), 0)) fun z3 => some z3)
theorem laws_toDatabaseS_s {a0 : List ((List ((List UInt8) × (Int × (List (List Int))))))} {r : (List ((List ((List UInt8) × (Int × (List (List Int)))))))} (h : laws_toDatabaseS a0 = some r) : SoundAt Try.prog 121 [.dat a0.length (a0.flatMap c95_ddd)] (.own 100 r.length (r.flatMap c100_ooo)) := by
  unfold laws_toDatabaseS at h
  refine sound_lit tbOk lit121 (Nat.le_of_ble_eq_true rfl) rfl ?_
  unfold c121
  refine ls_keep [(0, .dat a0.length (a0.flatMap c95_ddd))] ⟨kr, trivial⟩ rfl ?_
  refine ls_rs tbOk ?_
  refine evs (ev_an rfl rfl (evn ?_))
  refine ls_keep [(0, .dat a0.length (a0.flatMap c95_ddd))] ⟨kr, trivial⟩ rfl ?_
  refine ls_rs tbOk ?_
  refine evs (ev_mv (c := .dat a0.length (a0.flatMap c95_ddd)) rfl rfl rfl (evs (ev_len (c1 := .dat a0.length (a0.flatMap c95_ddd)) rfl rfl rfl (?_))))
  obtain ⟨g1, h⟩ := chk_some h
  refine evs (ev_mku (f := c100_ooo) (z := ([] : (List ((List UInt8) × (Int × (List (List Int))))))) rfl rfl rfl rfl rfl rfl g1 rfl (evs (ev_asu rfl rfl rfl (evn ?_))))
  refine ls_keep [(0, .dat a0.length (a0.flatMap c95_ddd)), (3, .uni 100 (List.replicate (Int.toNat (List.length a0 : Int)) ([] : (List ((List UInt8) × (Int × (List (List Int))))))).length ((List.replicate (Int.toNat (List.length a0 : Int)) ([] : (List ((List UInt8) × (Int × (List (List Int))))))).flatMap c100_ooo))] ⟨kr, kr, trivial⟩ rfl ?_
  refine ls_seq_k fun K2 hK2 => ?_
  refine ls_rs tbOk ?_
  refine evs (ev_ac rfl nofun rfl (evn ?_))
  refine ls_keep [(0, .dat a0.length (a0.flatMap c95_ddd)), (3, .uni 100 (List.replicate (Int.toNat (List.length a0 : Int)) ([] : (List ((List UInt8) × (Int × (List (List Int))))))).length ((List.replicate (Int.toNat (List.length a0 : Int)) ([] : (List ((List UInt8) × (Int × (List (List Int))))))).flatMap c100_ooo)), (4, .int .i64 0)] ⟨kr, kr, kr, trivial⟩ rfl ?_
  obtain ⟨o1, hl, hr1⟩ := ob_some h
  clear h
  have kXlaws_toDatabaseS_B1 : ∀ (z3 : List ((List ((List UInt8) × (Int × (List (List Int))))))), (some z3) = some r → ∀ σ' : PS, okK σ' [(3, .uni 100 z3.length (z3.flatMap c100_ooo))] → K2 σ' := by
    intro z3 h σ' hk
    refine hK2 _ (ls_keep [(3, .uni 100 z3.length (z3.flatMap c100_ooo))] hk rfl ?_)
    refine ls_rs tbOk ?_
    refine evs (ev_mvtu rfl rfl (evs (ev_as (c := .own 100 z3.length (z3.flatMap c100_ooo)) rfl rfl rfl (evn ?_))))
    refine ls_keep [(2, .own 100 z3.length (z3.flatMap c100_ooo))] ⟨kr, trivial⟩ rfl ?_
    refine ls_ret ?_
    have hr := Option.some.inj h
    rw [← hr]
    exact ⟨.inl rfl, rfl⟩
  refine ls_rec (fun (s : (List ((List ((List UInt8) × (Int × (List (List Int))))))) × Int) => match s with | (y1, y2) => [(0, .dat a0.length (a0.flatMap c95_ddd)), (3, .uni 100 y1.length (y1.flatMap c100_ooo)), (4, .int .i64 y2)]) (laws_toDatabaseS_B1 a0) fz ((List.replicate (Int.toNat (List.length a0 : Int)) ([] : (List ((List UInt8) × (Int × (List (List Int))))))), 0) o1 hl ⟨kr, kr, kr, trivial⟩ (fun _ => rfl) ?_
  rintro m ⟨y1, y2⟩ N h hN
  unfold laws_toDatabaseS_B1 at h
  dsimp only at h
  refine ls_seq_k fun K4 hK4 => ?_
  refine ls_rs tbOk ?_
  refine evs (ev_mv (c := .int .i64 y2) rfl rfl rfl (evs (ev_mv (c := .dat a0.length (a0.flatMap c95_ddd)) rfl rfl rfl (evs (ev_len (c1 := .dat a0.length (a0.flatMap c95_ddd)) rfl rfl rfl (evs (ev_bin (c1 := .int .i64 y2) (c2 := .int .i64 (List.length a0 : Int)) rfl rfl rfl (evn ?_))))))))
  refine ls_keep [(0, .dat a0.length (a0.flatMap c95_ddd)), (3, .uni 100 y1.length (y1.flatMap c100_ooo)), (4, .int .i64 y2), (11, .bool (decide (y2 < (List.length a0 : Int))))] ⟨kr, kr, kr, kr, trivial⟩ rfl ?_
  rcases cond_some h with ⟨g5, h⟩ | ⟨g5, h⟩
  · refine ls_cT rfl g5 ?_
    refine ls_skip ?_
    refine hK4 _ (ls_keep [(0, .dat a0.length (a0.flatMap c95_ddd)), (3, .uni 100 y1.length (y1.flatMap c100_ooo)), (4, .int .i64 y2)] ⟨kr, kr, kr, trivial⟩ rfl ?_)
    refine ls_seq_k fun K6 hK6 => ?_
    refine ls_blk ?_
    refine ls_rgn tbOk ?_
    refine evs (ev_mvu rfl rfl (evs (ev_mv (c := .int .i64 y2) rfl rfl rfl (evs (ev_mv (c := .dat a0.length (a0.flatMap c95_ddd)) rfl rfl rfl (evs (ev_mv (c := .int .i64 y2) rfl rfl rfl (?_))))))))
    obtain ⟨e7, g8, h⟩ := ob_some h
    refine evs (ev_ia rfl rfl rfl ⟨(geti_some g8).1, (geti_some g8).2.1⟩ (evs (ev_ldE (off := 0) (v := .agg [.dat e7.length (e7.flatMap c187_dd)]) rfl rfl zc95_ddd g8 rfl (Nat.le_of_ble_eq_true rfl) rfl (?_))))
    obtain ⟨v9, g10, h⟩ := ob_some h
    refine evs (ev_call (era rfl (erg (erc (erD ec187_dd _) rfl)) eran) (laws_toDatabase_s g10) (?_))
    obtain ⟨e11, g12, h⟩ := ob_some h
    refine evs (ev_iau rfl rfl rfl rfl ⟨(geti_some g12).1, (geti_some g12).2.1⟩ (evs (ev_stu (e := v9) (c1 := .agg [.own 157 v9.length (v9.flatMap c157_oo)]) rfl rfl zc100_ooo ⟨(geti_some g12).1, (geti_some g12).2.1⟩ rfl rfl rfl rfl rfl (evn ?_))))
    refine hK6 _ (ls_keep [(0, .dat a0.length (a0.flatMap c95_ddd)), (3, .uni 100 (seti y1 y2 v9).length ((seti y1 y2 v9).flatMap c100_ooo)), (4, .int .i64 y2)] ⟨kr, kr, kr, trivial⟩ rfl ?_)
    refine ls_rgn tbOk ?_
    refine evs (ev_mv (c := .int .i64 y2) rfl rfl rfl (evs (ev_bin (c1 := .int .i64 y2) (c2 := .int .i64 1) rfl rfl rfl (evs (ev_as (c := .int .i64 (IntKind.i64.wrap (y2 + 1))) rfl rfl rfl (evn ?_))))))
    exact hN _ ((seti y1 y2 v9), (IntKind.i64.wrap (y2 + 1))) h ⟨kr, kr, kr, trivial⟩
  · refine ls_cF rfl g5 ?_
    refine ls_exit ?_
    have q0 := (Option.some.inj h).symm
    have r0 := hr1
    rw [q0] at r0
    exact kXlaws_toDatabaseS_B1 y1 r0 _ ⟨kr, trivial⟩
def laws_toHistory (a0 : Int × (List ((List ((List UInt8) × (Int × (List (List Int)))))))) : Option ((Int × (List ((List ((List UInt8) × (Int × (List (List Int))))))))) := obind (laws_toDatabaseS a0.2) fun v1 => some (a0.1, v1)
theorem laws_toHistory_s {a0 : Int × (List ((List ((List UInt8) × (Int × (List (List Int)))))))} {r : (Int × (List ((List ((List UInt8) × (Int × (List (List Int))))))))} (h : laws_toHistory a0 = some r) : SoundAt Try.prog 47 [.agg [.int .i64 a0.1, .dat a0.2.length (a0.2.flatMap c95_ddd)]] (.agg [.int .i64 r.1, .own 100 r.2.length (r.2.flatMap c100_ooo)]) := by
  unfold laws_toHistory at h
  refine sound_lit tbOk lit47 (Nat.le_of_ble_eq_true rfl) rfl ?_
  unfold c47
  refine ls_keep [(0, .agg [.int .i64 a0.1, .dat a0.2.length (a0.2.flatMap c95_ddd)])] ⟨kr, trivial⟩ rfl ?_
  refine ls_rs tbOk ?_
  refine evs (ev_bx (c1 := .agg [.int .i64 a0.1, .dat a0.2.length (a0.2.flatMap c95_ddd)]) rfl rfl rfl (evs (ev_al rfl rfl (evn ?_))))
  refine ls_keep [(1, .box [.int .i64 a0.1, .dat a0.2.length (a0.2.flatMap c95_ddd)]), (2, .box [.int .i64 0, .own 100 ([] : List ((List ((List UInt8) × (Int × (List (List Int))))))).length (([] : List ((List ((List UInt8) × (Int × (List (List Int))))))).flatMap c100_ooo)])] ⟨kr, kr, trivial⟩ rfl ?_
  refine ls_rs tbOk ?_
  refine evs (ev_al rfl rfl (evn ?_))
  refine ls_keep [(1, .box [.int .i64 a0.1, .dat a0.2.length (a0.2.flatMap c95_ddd)]), (2, .box [.int .i64 0, .own 100 ([] : List ((List ((List UInt8) × (Int × (List (List Int))))))).length (([] : List ((List ((List UInt8) × (Int × (List (List Int))))))).flatMap c100_ooo)]), (3, .box [.int .i64 0, .own 100 ([] : List ((List ((List UInt8) × (Int × (List (List Int))))))).length (([] : List ((List ((List UInt8) × (Int × (List (List Int))))))).flatMap c100_ooo)])] ⟨kr, kr, kr, trivial⟩ rfl ?_
  refine ls_rs tbOk ?_
  refine evs (ev_fa (c1 := .cref 1 0) (v := .cref 1 0) rfl rfl rfl ⟨_, rfl⟩ rfl (evs (ev_ldB (off := 0) (v := .int .i64 a0.1) rfl rfl rfl rfl (Nat.le_of_ble_eq_true rfl) rfl (evs (ev_fa (c1 := .cref 3 0) (v := .cref 3 0) rfl rfl rfl ⟨_, rfl⟩ rfl (evs (ev_st (off := 0) (c1 := .int .i64 a0.1) (cs' := [.int .i64 a0.1, .own 100 ([] : List ((List ((List UInt8) × (Int × (List (List Int))))))).length (([] : List ((List ((List UInt8) × (Int × (List (List Int))))))).flatMap c100_ooo)]) rfl rfl rfl rfl rfl rfl (Nat.le_of_ble_eq_true rfl) rfl (evn ?_))))))))
  refine ls_keep [(1, .box [.int .i64 a0.1, .dat a0.2.length (a0.2.flatMap c95_ddd)]), (2, .box [.int .i64 0, .own 100 ([] : List ((List ((List UInt8) × (Int × (List (List Int))))))).length (([] : List ((List ((List UInt8) × (Int × (List (List Int))))))).flatMap c100_ooo)]), (3, .box [.int .i64 a0.1, .own 100 ([] : List ((List ((List UInt8) × (Int × (List (List Int))))))).length (([] : List ((List ((List UInt8) × (Int × (List (List Int))))))).flatMap c100_ooo)])] ⟨kr, kr, kr, trivial⟩ rfl ?_
  refine ls_rs tbOk ?_
  refine evs (ev_fa (c1 := .cref 1 0) (v := .cref 1 1) rfl rfl rfl ⟨_, rfl⟩ rfl (evs (ev_ldB (off := 1) (v := .dat a0.2.length (a0.2.flatMap c95_ddd)) rfl rfl rfl rfl (Nat.le_of_ble_eq_true rfl) rfl (?_))))
  obtain ⟨v1, g2, h⟩ := ob_some h
  refine evs (ev_call (era rfl (erD ec95_ddd _) eran) (laws_toDatabaseS_s g2) (evs (ev_fa (c1 := .cref 3 0) (v := .cref 3 1) rfl rfl rfl ⟨_, rfl⟩ rfl (evs (ev_st (off := 1) (c1 := .own 100 v1.length (v1.flatMap c100_ooo)) (cs' := [.int .i64 a0.1, .own 100 v1.length (v1.flatMap c100_ooo)]) rfl rfl rfl rfl rfl rfl (Nat.le_of_ble_eq_true rfl) rfl (evn ?_))))))
  refine ls_keep [(2, .box [.int .i64 0, .own 100 ([] : List ((List ((List UInt8) × (Int × (List (List Int))))))).length (([] : List ((List ((List UInt8) × (Int × (List (List Int))))))).flatMap c100_ooo)]), (3, .box [.int .i64 a0.1, .own 100 v1.length (v1.flatMap c100_ooo)])] ⟨kr, kr, trivial⟩ rfl ?_
  refine ls_rs tbOk ?_
  refine evs (ev_ldBt (off := 0) (v := .agg [.int .i64 a0.1, .own 100 v1.length (v1.flatMap c100_ooo)]) (c' := .box [.int .i64 a0.1, .dat v1.length (v1.flatMap c100_ooo)]) rfl rfl rfl rfl (Nat.le_of_ble_eq_true rfl) rfl rfl (evs (ev_st (off := 0) (c1 := .agg [.int .i64 a0.1, .own 100 v1.length (v1.flatMap c100_ooo)]) (cs' := [.int .i64 a0.1, .own 100 v1.length (v1.flatMap c100_ooo)]) rfl rfl rfl rfl rfl rfl (Nat.le_of_ble_eq_true rfl) rfl (evn ?_))))
  refine ls_keep [(2, .box [.int .i64 a0.1, .own 100 v1.length (v1.flatMap c100_ooo)])] ⟨kr, trivial⟩ rfl ?_
  refine ls_ret ?_
  have hr := Option.some.inj h
  rw [← hr]
  exact ⟨.inl rfl, rfl⟩
def laws_eqIntS_B1 (a0 : List Int) (a1 : List Int) (rec : Int → Option (Sum (Unit) (Bool))) (y1 : Int) : Option (Sum (Unit) (Bool)) := cond (decide (y1 < (List.length a0 : Int))) (obind (geti a0 y1) fun e7 => obind (geti a1 y1) fun e9 => cond (e7 != e9) (some (.inr false)) (rec (IntKind.i64.wrap (y1 + 1)))) (some (.inl ()))
def laws_eqIntS (a0 : List Int) (a1 : List Int) : Option (Bool) := cond ((List.length a0 : Int) != (List.length a1 : Int)) (some false) (obind (loopF (laws_eqIntS_B1 a0 a1) fz 0) fun o1 => (match o1 with
  | .inl _ => (some true)
  | .inr r => some r))
theorem laws_eqIntS_s {a0 : List Int} {a1 : List Int} {r : Bool} (h : laws_eqIntS a0 a1 = some r) : SoundAt Try.prog 35 [.dat a0.length (a0.flatMap ci64), .dat a1.length (a1.flatMap ci64)] (.bool r) := by
  unfold laws_eqIntS at h
  refine sound_lit tbOk lit35 (Nat.le_of_ble_eq_true rfl) rfl ?_
  unfold c35
  refine ls_keep [(0, .dat a0.length (a0.flatMap ci64)), (1, .dat a1.length (a1.flatMap ci64))] ⟨kr, kr, trivial⟩ rfl ?_
  refine ls_rs tbOk ?_
  refine evs (ev_ac rfl nofun rfl (evn ?_))
  refine ls_keep [(0, .dat a0.length (a0.flatMap ci64)), (1, .dat a1.length (a1.flatMap ci64))] ⟨kr, kr, trivial⟩ rfl ?_
  refine ls_seq_k fun K1 hK1 => ?_
  refine ls_rs tbOk ?_
  refine evs (ev_mv (c := .dat a0.length (a0.flatMap ci64)) rfl rfl rfl (evs (ev_len (c1 := .dat a0.length (a0.flatMap ci64)) rfl rfl rfl (evs (ev_mv (c := .dat a1.length (a1.flatMap ci64)) rfl rfl rfl (evs (ev_len (c1 := .dat a1.length (a1.flatMap ci64)) rfl rfl rfl (evs (ev_bin (c1 := .int .i64 (List.length a0 : Int)) (c2 := .int .i64 (List.length a1 : Int)) rfl rfl rfl (evn ?_))))))))))
  refine ls_keep [(0, .dat a0.length (a0.flatMap ci64)), (1, .dat a1.length (a1.flatMap ci64)), (10, .bool ((List.length a0 : Int) != (List.length a1 : Int)))] ⟨kr, kr, kr, trivial⟩ rfl ?_
  rcases cond_some h with ⟨g2, h⟩ | ⟨g2, h⟩
  · refine ls_cT rfl g2 ?_
    refine ls_rs tbOk ?_
    refine evs (ev_ac rfl nofun rfl (evn ?_))
    refine ls_keep [(4, .bool false)] ⟨kr, trivial⟩ rfl ?_
    refine ls_ret ?_
    have hr := Option.some.inj h
    rw [← hr]
    exact ⟨.inl rfl, rfl⟩
  · refine ls_cF rfl g2 ?_
    refine ls_skip ?_
    refine hK1 _ (ls_keep [(0, .dat a0.length (a0.flatMap ci64)), (1, .dat a1.length (a1.flatMap ci64))] ⟨kr, kr, trivial⟩ rfl ?_)
    refine ls_seq_k fun K3 hK3 => ?_
    refine ls_rs tbOk ?_
    refine evs (ev_ac rfl nofun rfl (evn ?_))
    refine ls_keep [(0, .dat a0.length (a0.flatMap ci64)), (1, .dat a1.length (a1.flatMap ci64)), (5, .int .i64 0)] ⟨kr, kr, kr, trivial⟩ rfl ?_
    obtain ⟨o1, hl, hr1⟩ := ob_some h
    clear h
    have kXlaws_eqIntS_B1 : ∀ (_ : Unit), (some true) = some r → ∀ σ' : PS, okK σ' [] → K3 σ' := by
      intro _ h σ' hk
      refine hK3 _ (ls_keep [] hk rfl ?_)
      refine ls_rs tbOk ?_
      refine evs (ev_ac rfl nofun rfl (evn ?_))
      refine ls_keep [(4, .bool true)] ⟨kr, trivial⟩ rfl ?_
      refine ls_ret ?_
      have hr := Option.some.inj h
      rw [← hr]
      exact ⟨.inl rfl, rfl⟩
    refine ls_rec (fun (y1 : Int) => [(0, .dat a0.length (a0.flatMap ci64)), (1, .dat a1.length (a1.flatMap ci64)), (5, .int .i64 y1)]) (laws_eqIntS_B1 a0 a1) fz 0 o1 hl ⟨kr, kr, kr, trivial⟩ (fun _ => rfl) ?_
    rintro m y1 N h hN
    unfold laws_eqIntS_B1 at h
    refine ls_seq_k fun K4 hK4 => ?_
    refine ls_rs tbOk ?_
    refine evs (ev_mv (c := .int .i64 y1) rfl rfl rfl (evs (ev_mv (c := .dat a0.length (a0.flatMap ci64)) rfl rfl rfl (evs (ev_len (c1 := .dat a0.length (a0.flatMap ci64)) rfl rfl rfl (evs (ev_bin (c1 := .int .i64 y1) (c2 := .int .i64 (List.length a0 : Int)) rfl rfl rfl (evn ?_))))))))
    refine ls_keep [(0, .dat a0.length (a0.flatMap ci64)), (1, .dat a1.length (a1.flatMap ci64)), (5, .int .i64 y1), (14, .bool (decide (y1 < (List.length a0 : Int))))] ⟨kr, kr, kr, kr, trivial⟩ rfl ?_
    rcases cond_some h with ⟨g5, h⟩ | ⟨g5, h⟩
    · refine ls_cT rfl g5 ?_
      refine ls_skip ?_
      refine hK4 _ (ls_keep [(0, .dat a0.length (a0.flatMap ci64)), (1, .dat a1.length (a1.flatMap ci64)), (5, .int .i64 y1)] ⟨kr, kr, kr, trivial⟩ rfl ?_)
      refine ls_seq_k fun K6 hK6 => ?_
      refine ls_blk ?_
      refine ls_rd tbOk mixed (by kernel_rfl) ?_
      refine evd rfl rfl (ev_mv (c := .dat a0.length (a0.flatMap ci64)) rfl rfl rfl (evd rfl rfl (ev_mv (c := .int .i64 y1) rfl rfl rfl (?_))))
      obtain ⟨e7, g8, h⟩ := ob_some h
      refine evd rfl rfl (ev_ia rfl rfl rfl ⟨(geti_some g8).1, (geti_some g8).2.1⟩ (evd rfl rfl (ev_ldE (off := 0) (v := .int .i64 e7) rfl rfl zci64 g8 rfl (Nat.le_of_ble_eq_true rfl) rfl (evd rfl rfl (ev_mv (c := .dat a1.length (a1.flatMap ci64)) rfl rfl rfl (evd rfl rfl (ev_mv (c := .int .i64 y1) rfl rfl rfl (?_))))))))
      obtain ⟨e9, g10, h⟩ := ob_some h
      refine evd rfl rfl (ev_ia rfl rfl rfl ⟨(geti_some g10).1, (geti_some g10).2.1⟩ (evd rfl rfl (ev_ldE (off := 0) (v := .int .i64 e9) rfl rfl zci64 g10 rfl (Nat.le_of_ble_eq_true rfl) rfl (evd rfl rfl (ev_bin (c1 := .int .i64 e7) (c2 := .int .i64 e9) rfl rfl rfl (evdn ?_))))))
      refine ls_keep [(0, .dat a0.length (a0.flatMap ci64)), (1, .dat a1.length (a1.flatMap ci64)), (5, .int .i64 y1), (25, .bool (e7 != e9))] ⟨kr, kr, kr, kr, trivial⟩ rfl ?_
      rcases cond_some h with ⟨g11, h⟩ | ⟨g11, h⟩
      · refine ls_cT rfl g11 ?_
        refine ls_rs tbOk ?_
        refine evs (ev_ac rfl nofun rfl (evn ?_))
        refine ls_keep [(4, .bool false)] ⟨kr, trivial⟩ rfl ?_
        refine ls_ret ?_
        have q0 := (Option.some.inj h).symm
        have r0 := hr1
        rw [q0] at r0
        have hr := Option.some.inj r0
        rw [← hr]
        exact ⟨.inl rfl, rfl⟩
      · refine ls_cF rfl g11 ?_
        refine ls_skip ?_
        refine hK6 _ (ls_keep [(0, .dat a0.length (a0.flatMap ci64)), (1, .dat a1.length (a1.flatMap ci64)), (5, .int .i64 y1)] ⟨kr, kr, kr, trivial⟩ rfl ?_)
        refine ls_rgn tbOk ?_
        refine evs (ev_mv (c := .int .i64 y1) rfl rfl rfl (evs (ev_bin (c1 := .int .i64 y1) (c2 := .int .i64 1) rfl rfl rfl (evs (ev_as (c := .int .i64 (IntKind.i64.wrap (y1 + 1))) rfl rfl rfl (evn ?_))))))
        exact hN _ (IntKind.i64.wrap (y1 + 1)) h ⟨kr, kr, kr, trivial⟩
    · refine ls_cF rfl g5 ?_
      refine ls_exit ?_
      have q0 := (Option.some.inj h).symm
      have r0 := hr1
      rw [q0] at r0
      exact kXlaws_eqIntS_B1 () r0 _ trivial
def laws_eqIntSS_B1 (a0 : List (List Int)) (a1 : List (List Int)) (rec : Int → Option (Sum (Unit) (Bool))) (y1 : Int) : Option (Sum (Unit) (Bool)) := cond (decide (y1 < (List.length a0 : Int))) (obind (geti a0 y1) fun e7 => obind (geti a1 y1) fun e9 => obind (laws_eqIntS e7 e9) fun v11 => cond (!v11) (some (.inr false)) (rec (IntKind.i64.wrap (y1 + 1)))) (some (.inl ()))
def laws_eqIntSS (a0 : List (List Int)) (a1 : List (List Int)) : Option (Bool) := cond ((List.length a0 : Int) != (List.length a1 : Int)) (some false) (obind (loopF (laws_eqIntSS_B1 a0 a1) fz 0) fun o1 => (match o1 with
  | .inl _ => (some true)
  | .inr r => some r))
theorem laws_eqIntSS_s {a0 : List (List Int)} {a1 : List (List Int)} {r : Bool} (h : laws_eqIntSS a0 a1 = some r) : SoundAt Try.prog 84 [.dat a0.length (a0.flatMap c30_d), .dat a1.length (a1.flatMap c30_d)] (.bool r) := by
  unfold laws_eqIntSS at h
  refine sound_lit tbOk lit84 (Nat.le_of_ble_eq_true rfl) rfl ?_
  unfold c84
  refine ls_keep [(0, .dat a0.length (a0.flatMap c30_d)), (1, .dat a1.length (a1.flatMap c30_d))] ⟨kr, kr, trivial⟩ rfl ?_
  refine ls_rs tbOk ?_
  refine evs (ev_ac rfl nofun rfl (evn ?_))
  refine ls_keep [(0, .dat a0.length (a0.flatMap c30_d)), (1, .dat a1.length (a1.flatMap c30_d))] ⟨kr, kr, trivial⟩ rfl ?_
  refine ls_seq_k fun K1 hK1 => ?_
  refine ls_rs tbOk ?_
  refine evs (ev_mv (c := .dat a0.length (a0.flatMap c30_d)) rfl rfl rfl (evs (ev_len (c1 := .dat a0.length (a0.flatMap c30_d)) rfl rfl rfl (evs (ev_mv (c := .dat a1.length (a1.flatMap c30_d)) rfl rfl rfl (evs (ev_len (c1 := .dat a1.length (a1.flatMap c30_d)) rfl rfl rfl (evs (ev_bin (c1 := .int .i64 (List.length a0 : Int)) (c2 := .int .i64 (List.length a1 : Int)) rfl rfl rfl (evn ?_))))))))))
  refine ls_keep [(0, .dat a0.length (a0.flatMap c30_d)), (1, .dat a1.length (a1.flatMap c30_d)), (10, .bool ((List.length a0 : Int) != (List.length a1 : Int)))] ⟨kr, kr, kr, trivial⟩ rfl ?_
  rcases cond_some h with ⟨g2, h⟩ | ⟨g2, h⟩
  · refine ls_cT rfl g2 ?_
    refine ls_rs tbOk ?_
    refine evs (ev_ac rfl nofun rfl (evn ?_))
    refine ls_keep [(4, .bool false)] ⟨kr, trivial⟩ rfl ?_
    refine ls_ret ?_
    have hr := Option.some.inj h
    rw [← hr]
    exact ⟨.inl rfl, rfl⟩
  · refine ls_cF rfl g2 ?_
    refine ls_skip ?_
    refine hK1 _ (ls_keep [(0, .dat a0.length (a0.flatMap c30_d)), (1, .dat a1.length (a1.flatMap c30_d))] ⟨kr, kr, trivial⟩ rfl ?_)
    refine ls_seq_k fun K3 hK3 => ?_
    refine ls_rs tbOk ?_
    refine evs (ev_ac rfl nofun rfl (evn ?_))
    refine ls_keep [(0, .dat a0.length (a0.flatMap c30_d)), (1, .dat a1.length (a1.flatMap c30_d)), (5, .int .i64 0)] ⟨kr, kr, kr, trivial⟩ rfl ?_
    obtain ⟨o1, hl, hr1⟩ := ob_some h
    clear h
    have kXlaws_eqIntSS_B1 : ∀ (_ : Unit), (some true) = some r → ∀ σ' : PS, okK σ' [] → K3 σ' := by
      intro _ h σ' hk
      refine hK3 _ (ls_keep [] hk rfl ?_)
      refine ls_rs tbOk ?_
      refine evs (ev_ac rfl nofun rfl (evn ?_))
      refine ls_keep [(4, .bool true)] ⟨kr, trivial⟩ rfl ?_
      refine ls_ret ?_
      have hr := Option.some.inj h
      rw [← hr]
      exact ⟨.inl rfl, rfl⟩
    refine ls_rec (fun (y1 : Int) => [(0, .dat a0.length (a0.flatMap c30_d)), (1, .dat a1.length (a1.flatMap c30_d)), (5, .int .i64 y1)]) (laws_eqIntSS_B1 a0 a1) fz 0 o1 hl ⟨kr, kr, kr, trivial⟩ (fun _ => rfl) ?_
    rintro m y1 N h hN
    unfold laws_eqIntSS_B1 at h
    refine ls_seq_k fun K4 hK4 => ?_
    refine ls_rs tbOk ?_
    refine evs (ev_mv (c := .int .i64 y1) rfl rfl rfl (evs (ev_mv (c := .dat a0.length (a0.flatMap c30_d)) rfl rfl rfl (evs (ev_len (c1 := .dat a0.length (a0.flatMap c30_d)) rfl rfl rfl (evs (ev_bin (c1 := .int .i64 y1) (c2 := .int .i64 (List.length a0 : Int)) rfl rfl rfl (evn ?_))))))))
    refine ls_keep [(0, .dat a0.length (a0.flatMap c30_d)), (1, .dat a1.length (a1.flatMap c30_d)), (5, .int .i64 y1), (14, .bool (decide (y1 < (List.length a0 : Int))))] ⟨kr, kr, kr, kr, trivial⟩ rfl ?_
    rcases cond_some h with ⟨g5, h⟩ | ⟨g5, h⟩
    · refine ls_cT rfl g5 ?_
      refine ls_skip ?_
      refine hK4 _ (ls_keep [(0, .dat a0.length (a0.flatMap c30_d)), (1, .dat a1.length (a1.flatMap c30_d)), (5, .int .i64 y1)] ⟨kr, kr, kr, trivial⟩ rfl ?_)
      refine ls_seq_k fun K6 hK6 => ?_
      refine ls_blk ?_
      refine ls_rd tbOk mixed (by kernel_rfl) ?_
      refine evd rfl rfl (ev_mv (c := .dat a0.length (a0.flatMap c30_d)) rfl rfl rfl (evd rfl rfl (ev_mv (c := .int .i64 y1) rfl rfl rfl (?_))))
      obtain ⟨e7, g8, h⟩ := ob_some h
      refine evd rfl rfl (ev_ia rfl rfl rfl ⟨(geti_some g8).1, (geti_some g8).2.1⟩ (evd rfl rfl (ev_ldE (off := 0) (v := .dat e7.length (e7.flatMap ci64)) rfl rfl zc30_d g8 rfl (Nat.le_of_ble_eq_true rfl) rfl (evd rfl rfl (ev_mv (c := .dat a1.length (a1.flatMap c30_d)) rfl rfl rfl (evd rfl rfl (ev_mv (c := .int .i64 y1) rfl rfl rfl (?_))))))))
      obtain ⟨e9, g10, h⟩ := ob_some h
      refine evd rfl rfl (ev_ia rfl rfl rfl ⟨(geti_some g10).1, (geti_some g10).2.1⟩ (evd rfl rfl (ev_ldE (off := 0) (v := .dat e9.length (e9.flatMap ci64)) rfl rfl zc30_d g10 rfl (Nat.le_of_ble_eq_true rfl) rfl (?_))))
      obtain ⟨v11, g12, h⟩ := ob_some h
      refine evd rfl rfl (ev_call (era rfl (erD eci64 _) (era rfl (erD eci64 _) eran)) (laws_eqIntS_s g12) (evd rfl rfl (ev_un (c1 := .bool v11) rfl trivial (evdn ?_))))
      refine ls_keep [(0, .dat a0.length (a0.flatMap c30_d)), (1, .dat a1.length (a1.flatMap c30_d)), (5, .int .i64 y1), (26, .bool (!v11))] ⟨kr, kr, kr, kr, trivial⟩ rfl ?_
      rcases cond_some h with ⟨g13, h⟩ | ⟨g13, h⟩
      · refine ls_cT rfl g13 ?_
        refine ls_rs tbOk ?_
        refine evs (ev_ac rfl nofun rfl (evn ?_))
        refine ls_keep [(4, .bool false)] ⟨kr, trivial⟩ rfl ?_
        refine ls_ret ?_
        have q0 := (Option.some.inj h).symm
        have r0 := hr1
        rw [q0] at r0
        have hr := Option.some.inj r0
        rw [← hr]
        exact ⟨.inl rfl, rfl⟩
      · refine ls_cF rfl g13 ?_
        refine ls_skip ?_
        refine hK6 _ (ls_keep [(0, .dat a0.length (a0.flatMap c30_d)), (1, .dat a1.length (a1.flatMap c30_d)), (5, .int .i64 y1)] ⟨kr, kr, kr, trivial⟩ rfl ?_)
        refine ls_rgn tbOk ?_
        refine evs (ev_mv (c := .int .i64 y1) rfl rfl rfl (evs (ev_bin (c1 := .int .i64 y1) (c2 := .int .i64 1) rfl rfl rfl (evs (ev_as (c := .int .i64 (IntKind.i64.wrap (y1 + 1))) rfl rfl rfl (evn ?_))))))
        exact hN _ (IntKind.i64.wrap (y1 + 1)) h ⟨kr, kr, kr, trivial⟩
    · refine ls_cF rfl g5 ?_
      refine ls_exit ?_
      have q0 := (Option.some.inj h).symm
      have r0 := hr1
      rw [q0] at r0
      exact kXlaws_eqIntSS_B1 () r0 _ trivial
def laws_eqRelation (a0 : Int × (List (List Int))) (a1 : Int × (List (List Int))) : Option (Bool) := cond (a0.1 != a1.1) (some false) (obind (laws_eqIntSS a0.2 a1.2) fun v4 => cond (!v4) (some false) (some true))
theorem laws_eqRelation_s {a0 : Int × (List (List Int))} {a1 : Int × (List (List Int))} {r : Bool} (h : laws_eqRelation a0 a1 = some r) : SoundAt Try.prog 17 [.agg [.int .i64 a0.1, .dat a0.2.length (a0.2.flatMap c30_d)], .agg [.int .i64 a1.1, .dat a1.2.length (a1.2.flatMap c30_d)]] (.bool r) := by
  unfold laws_eqRelation at h
  refine sound_lit tbOk lit17 (Nat.le_of_ble_eq_true rfl) rfl ?_
  unfold c17
  refine ls_keep [(0, .agg [.int .i64 a0.1, .dat a0.2.length (a0.2.flatMap c30_d)]), (1, .agg [.int .i64 a1.1, .dat a1.2.length (a1.2.flatMap c30_d)])] ⟨kr, kr, trivial⟩ rfl ?_
  refine ls_rs tbOk ?_
  refine evs (ev_bx (c1 := .agg [.int .i64 a0.1, .dat a0.2.length (a0.2.flatMap c30_d)]) rfl rfl rfl (evs (ev_bx (c1 := .agg [.int .i64 a1.1, .dat a1.2.length (a1.2.flatMap c30_d)]) rfl rfl rfl (evs (ev_ac rfl nofun rfl (evn ?_))))))
  refine ls_keep [(2, .box [.int .i64 a0.1, .dat a0.2.length (a0.2.flatMap c30_d)]), (3, .box [.int .i64 a1.1, .dat a1.2.length (a1.2.flatMap c30_d)])] ⟨kr, kr, trivial⟩ rfl ?_
  refine ls_seq_k fun K1 hK1 => ?_
  refine ls_rs tbOk ?_
  refine evs (ev_fa (c1 := .cref 2 0) (v := .cref 2 0) rfl rfl rfl ⟨_, rfl⟩ rfl (evs (ev_ldB (off := 0) (v := .int .i64 a0.1) rfl rfl rfl rfl (Nat.le_of_ble_eq_true rfl) rfl (evs (ev_fa (c1 := .cref 3 0) (v := .cref 3 0) rfl rfl rfl ⟨_, rfl⟩ rfl (evs (ev_ldB (off := 0) (v := .int .i64 a1.1) rfl rfl rfl rfl (Nat.le_of_ble_eq_true rfl) rfl (evs (ev_bin (c1 := .int .i64 a0.1) (c2 := .int .i64 a1.1) rfl rfl rfl (evn ?_))))))))))
  refine ls_keep [(2, .box [.int .i64 a0.1, .dat a0.2.length (a0.2.flatMap c30_d)]), (3, .box [.int .i64 a1.1, .dat a1.2.length (a1.2.flatMap c30_d)]), (9, .bool (a0.1 != a1.1))] ⟨kr, kr, kr, trivial⟩ rfl ?_
  rcases cond_some h with ⟨g2, h⟩ | ⟨g2, h⟩
  · refine ls_cT rfl g2 ?_
    refine ls_rs tbOk ?_
    refine evs (ev_ac rfl nofun rfl (evn ?_))
    refine ls_keep [(4, .bool false)] ⟨kr, trivial⟩ rfl ?_
    refine ls_ret ?_
    have hr := Option.some.inj h
    rw [← hr]
    exact ⟨.inl rfl, rfl⟩
  · refine ls_cF rfl g2 ?_
    refine ls_skip ?_
    refine hK1 _ (ls_keep [(2, .box [.int .i64 a0.1, .dat a0.2.length (a0.2.flatMap c30_d)]), (3, .box [.int .i64 a1.1, .dat a1.2.length (a1.2.flatMap c30_d)])] ⟨kr, kr, trivial⟩ rfl ?_)
    refine ls_seq_k fun K3 hK3 => ?_
    refine ls_rs tbOk ?_
    refine evs (ev_fa (c1 := .cref 2 0) (v := .cref 2 1) rfl rfl rfl ⟨_, rfl⟩ rfl (evs (ev_ldB (off := 1) (v := .dat a0.2.length (a0.2.flatMap c30_d)) rfl rfl rfl rfl (Nat.le_of_ble_eq_true rfl) rfl (evs (ev_fa (c1 := .cref 3 0) (v := .cref 3 1) rfl rfl rfl ⟨_, rfl⟩ rfl (evs (ev_ldB (off := 1) (v := .dat a1.2.length (a1.2.flatMap c30_d)) rfl rfl rfl rfl (Nat.le_of_ble_eq_true rfl) rfl (?_))))))))
    obtain ⟨v4, g5, h⟩ := ob_some h
    refine evs (ev_call (era rfl (erD ec30_d _) (era rfl (erD ec30_d _) eran)) (laws_eqIntSS_s g5) (evs (ev_un (c1 := .bool v4) rfl trivial (evn ?_))))
    refine ls_keep [(15, .bool (!v4))] ⟨kr, trivial⟩ rfl ?_
    rcases cond_some h with ⟨g6, h⟩ | ⟨g6, h⟩
    · refine ls_cT rfl g6 ?_
      refine ls_rs tbOk ?_
      refine evs (ev_ac rfl nofun rfl (evn ?_))
      refine ls_keep [(4, .bool false)] ⟨kr, trivial⟩ rfl ?_
      refine ls_ret ?_
      have hr := Option.some.inj h
      rw [← hr]
      exact ⟨.inl rfl, rfl⟩
    · refine ls_cF rfl g6 ?_
      refine ls_skip ?_
      refine hK3 _ (ls_keep [] trivial rfl ?_)
      refine ls_rs tbOk ?_
      refine evs (ev_ac rfl nofun rfl (evn ?_))
      refine ls_keep [(4, .bool true)] ⟨kr, trivial⟩ rfl ?_
      refine ls_ret ?_
      have hr := Option.some.inj h
      rw [← hr]
      exact ⟨.inl rfl, rfl⟩
def laws_eqTable (a0 : (List UInt8) × (Int × (List (List Int)))) (a1 : (List UInt8) × (Int × (List (List Int)))) : Option (Bool) := cond (!(a0.1 == a1.1)) (some false) (obind (laws_eqRelation a0.2 a1.2) fun v4 => cond (!v4) (some false) (some true))
theorem laws_eqTable_s {a0 : (List UInt8) × (Int × (List (List Int)))} {a1 : (List UInt8) × (Int × (List (List Int)))} {r : Bool} (h : laws_eqTable a0 a1 = some r) : SoundAt Try.prog 165 [.agg [.str a0.1, .int .i64 a0.2.1, .dat a0.2.2.length (a0.2.2.flatMap c30_d)], .agg [.str a1.1, .int .i64 a1.2.1, .dat a1.2.2.length (a1.2.2.flatMap c30_d)]] (.bool r) := by
  unfold laws_eqTable at h
  refine sound_lit tbOk lit165 (Nat.le_of_ble_eq_true rfl) rfl ?_
  unfold c165
  refine ls_keep [(0, .agg [.str a0.1, .int .i64 a0.2.1, .dat a0.2.2.length (a0.2.2.flatMap c30_d)]), (1, .agg [.str a1.1, .int .i64 a1.2.1, .dat a1.2.2.length (a1.2.2.flatMap c30_d)])] ⟨kr, kr, trivial⟩ rfl ?_
  refine ls_rs tbOk ?_
  refine evs (ev_bx (c1 := .agg [.str a0.1, .int .i64 a0.2.1, .dat a0.2.2.length (a0.2.2.flatMap c30_d)]) rfl rfl rfl (evs (ev_bx (c1 := .agg [.str a1.1, .int .i64 a1.2.1, .dat a1.2.2.length (a1.2.2.flatMap c30_d)]) rfl rfl rfl (evs (ev_ac rfl nofun rfl (evn ?_))))))
  refine ls_keep [(2, .box [.str a0.1, .int .i64 a0.2.1, .dat a0.2.2.length (a0.2.2.flatMap c30_d)]), (3, .box [.str a1.1, .int .i64 a1.2.1, .dat a1.2.2.length (a1.2.2.flatMap c30_d)])] ⟨kr, kr, trivial⟩ rfl ?_
  refine ls_seq_k fun K1 hK1 => ?_
  refine ls_rs tbOk ?_
  refine evs (ev_fa (c1 := .cref 2 0) (v := .cref 2 0) rfl rfl rfl ⟨_, rfl⟩ rfl (evs (ev_ldB (off := 0) (v := .str a0.1) rfl rfl rfl rfl (Nat.le_of_ble_eq_true rfl) rfl (evs (ev_fa (c1 := .cref 3 0) (v := .cref 3 0) rfl rfl rfl ⟨_, rfl⟩ rfl (evs (ev_ldB (off := 0) (v := .str a1.1) rfl rfl rfl rfl (Nat.le_of_ble_eq_true rfl) rfl (evs (ev_bin (c1 := .str a0.1) (c2 := .str a1.1) rfl rfl trivial (evn ?_))))))))))
  refine ls_keep [(2, .box [.str a0.1, .int .i64 a0.2.1, .dat a0.2.2.length (a0.2.2.flatMap c30_d)]), (3, .box [.str a1.1, .int .i64 a1.2.1, .dat a1.2.2.length (a1.2.2.flatMap c30_d)]), (9, .bool (!(a0.1 == a1.1)))] ⟨kr, kr, kr, trivial⟩ rfl ?_
  rcases cond_some h with ⟨g2, h⟩ | ⟨g2, h⟩
  · refine ls_cT rfl g2 ?_
    refine ls_rs tbOk ?_
    refine evs (ev_ac rfl nofun rfl (evn ?_))
    refine ls_keep [(4, .bool false)] ⟨kr, trivial⟩ rfl ?_
    refine ls_ret ?_
    have hr := Option.some.inj h
    rw [← hr]
    exact ⟨.inl rfl, rfl⟩
  · refine ls_cF rfl g2 ?_
    refine ls_skip ?_
    refine hK1 _ (ls_keep [(2, .box [.str a0.1, .int .i64 a0.2.1, .dat a0.2.2.length (a0.2.2.flatMap c30_d)]), (3, .box [.str a1.1, .int .i64 a1.2.1, .dat a1.2.2.length (a1.2.2.flatMap c30_d)])] ⟨kr, kr, trivial⟩ rfl ?_)
    refine ls_seq_k fun K3 hK3 => ?_
    refine ls_rs tbOk ?_
    refine evs (ev_fa (c1 := .cref 2 0) (v := .cref 2 1) rfl rfl rfl ⟨_, rfl⟩ rfl (evs (ev_ldB (off := 1) (v := .agg [.int .i64 a0.2.1, .dat a0.2.2.length (a0.2.2.flatMap c30_d)]) rfl rfl rfl rfl (Nat.le_of_ble_eq_true rfl) rfl (evs (ev_fa (c1 := .cref 3 0) (v := .cref 3 1) rfl rfl rfl ⟨_, rfl⟩ rfl (evs (ev_ldB (off := 1) (v := .agg [.int .i64 a1.2.1, .dat a1.2.2.length (a1.2.2.flatMap c30_d)]) rfl rfl rfl rfl (Nat.le_of_ble_eq_true rfl) rfl (?_))))))))
    obtain ⟨v4, g5, h⟩ := ob_some h
    refine evs (ev_call (era rfl (erg (erc rfl (erc (erD ec30_d _) rfl))) (era rfl (erg (erc rfl (erc (erD ec30_d _) rfl))) eran)) (laws_eqRelation_s g5) (evs (ev_un (c1 := .bool v4) rfl trivial (evn ?_))))
    refine ls_keep [(15, .bool (!v4))] ⟨kr, trivial⟩ rfl ?_
    rcases cond_some h with ⟨g6, h⟩ | ⟨g6, h⟩
    · refine ls_cT rfl g6 ?_
      refine ls_rs tbOk ?_
      refine evs (ev_ac rfl nofun rfl (evn ?_))
      refine ls_keep [(4, .bool false)] ⟨kr, trivial⟩ rfl ?_
      refine ls_ret ?_
      have hr := Option.some.inj h
      rw [← hr]
      exact ⟨.inl rfl, rfl⟩
    · refine ls_cF rfl g6 ?_
      refine ls_skip ?_
      refine hK3 _ (ls_keep [] trivial rfl ?_)
      refine ls_rs tbOk ?_
      refine evs (ev_ac rfl nofun rfl (evn ?_))
      refine ls_keep [(4, .bool true)] ⟨kr, trivial⟩ rfl ?_
      refine ls_ret ?_
      have hr := Option.some.inj h
      rw [← hr]
      exact ⟨.inl rfl, rfl⟩
def laws_eqTableS_B1 (a0 : List ((List UInt8) × (Int × (List (List Int))))) (a1 : List ((List UInt8) × (Int × (List (List Int))))) (rec : Int → Option (Sum (Unit) (Bool))) (y1 : Int) : Option (Sum (Unit) (Bool)) := cond (decide (y1 < (List.length a0 : Int))) (obind (geti a0 y1) fun e7 => obind (geti a1 y1) fun e9 => obind (laws_eqTable e7 e9) fun v11 => cond (!v11) (some (.inr false)) (rec (IntKind.i64.wrap (y1 + 1)))) (some (.inl ()))
def laws_eqTableS (a0 : List ((List UInt8) × (Int × (List (List Int))))) (a1 : List ((List UInt8) × (Int × (List (List Int))))) : Option (Bool) := cond ((List.length a0 : Int) != (List.length a1 : Int)) (some false) (obind (loopF (laws_eqTableS_B1 a0 a1) fz 0) fun o1 => (match o1 with
  | .inl _ => (some true)
  | .inr r => some r))
theorem laws_eqTableS_s {a0 : List ((List UInt8) × (Int × (List (List Int))))} {a1 : List ((List UInt8) × (Int × (List (List Int))))} {r : Bool} (h : laws_eqTableS a0 a1 = some r) : SoundAt Try.prog 130 [.dat a0.length (a0.flatMap c157_dd), .dat a1.length (a1.flatMap c157_dd)] (.bool r) := by
  unfold laws_eqTableS at h
  refine sound_lit tbOk lit130 (Nat.le_of_ble_eq_true rfl) rfl ?_
  unfold c130
  refine ls_keep [(0, .dat a0.length (a0.flatMap c157_dd)), (1, .dat a1.length (a1.flatMap c157_dd))] ⟨kr, kr, trivial⟩ rfl ?_
  refine ls_rs tbOk ?_
  refine evs (ev_ac rfl nofun rfl (evn ?_))
  refine ls_keep [(0, .dat a0.length (a0.flatMap c157_dd)), (1, .dat a1.length (a1.flatMap c157_dd))] ⟨kr, kr, trivial⟩ rfl ?_
  refine ls_seq_k fun K1 hK1 => ?_
  refine ls_rs tbOk ?_
  refine evs (ev_mv (c := .dat a0.length (a0.flatMap c157_dd)) rfl rfl rfl (evs (ev_len (c1 := .dat a0.length (a0.flatMap c157_dd)) rfl rfl rfl (evs (ev_mv (c := .dat a1.length (a1.flatMap c157_dd)) rfl rfl rfl (evs (ev_len (c1 := .dat a1.length (a1.flatMap c157_dd)) rfl rfl rfl (evs (ev_bin (c1 := .int .i64 (List.length a0 : Int)) (c2 := .int .i64 (List.length a1 : Int)) rfl rfl rfl (evn ?_))))))))))
  refine ls_keep [(0, .dat a0.length (a0.flatMap c157_dd)), (1, .dat a1.length (a1.flatMap c157_dd)), (10, .bool ((List.length a0 : Int) != (List.length a1 : Int)))] ⟨kr, kr, kr, trivial⟩ rfl ?_
  rcases cond_some h with ⟨g2, h⟩ | ⟨g2, h⟩
  · refine ls_cT rfl g2 ?_
    refine ls_rs tbOk ?_
    refine evs (ev_ac rfl nofun rfl (evn ?_))
    refine ls_keep [(4, .bool false)] ⟨kr, trivial⟩ rfl ?_
    refine ls_ret ?_
    have hr := Option.some.inj h
    rw [← hr]
    exact ⟨.inl rfl, rfl⟩
  · refine ls_cF rfl g2 ?_
    refine ls_skip ?_
    refine hK1 _ (ls_keep [(0, .dat a0.length (a0.flatMap c157_dd)), (1, .dat a1.length (a1.flatMap c157_dd))] ⟨kr, kr, trivial⟩ rfl ?_)
    refine ls_seq_k fun K3 hK3 => ?_
    refine ls_rs tbOk ?_
    refine evs (ev_ac rfl nofun rfl (evn ?_))
    refine ls_keep [(0, .dat a0.length (a0.flatMap c157_dd)), (1, .dat a1.length (a1.flatMap c157_dd)), (5, .int .i64 0)] ⟨kr, kr, kr, trivial⟩ rfl ?_
    obtain ⟨o1, hl, hr1⟩ := ob_some h
    clear h
    have kXlaws_eqTableS_B1 : ∀ (_ : Unit), (some true) = some r → ∀ σ' : PS, okK σ' [] → K3 σ' := by
      intro _ h σ' hk
      refine hK3 _ (ls_keep [] hk rfl ?_)
      refine ls_rs tbOk ?_
      refine evs (ev_ac rfl nofun rfl (evn ?_))
      refine ls_keep [(4, .bool true)] ⟨kr, trivial⟩ rfl ?_
      refine ls_ret ?_
      have hr := Option.some.inj h
      rw [← hr]
      exact ⟨.inl rfl, rfl⟩
    refine ls_rec (fun (y1 : Int) => [(0, .dat a0.length (a0.flatMap c157_dd)), (1, .dat a1.length (a1.flatMap c157_dd)), (5, .int .i64 y1)]) (laws_eqTableS_B1 a0 a1) fz 0 o1 hl ⟨kr, kr, kr, trivial⟩ (fun _ => rfl) ?_
    rintro m y1 N h hN
    unfold laws_eqTableS_B1 at h
    refine ls_seq_k fun K4 hK4 => ?_
    refine ls_rs tbOk ?_
    refine evs (ev_mv (c := .int .i64 y1) rfl rfl rfl (evs (ev_mv (c := .dat a0.length (a0.flatMap c157_dd)) rfl rfl rfl (evs (ev_len (c1 := .dat a0.length (a0.flatMap c157_dd)) rfl rfl rfl (evs (ev_bin (c1 := .int .i64 y1) (c2 := .int .i64 (List.length a0 : Int)) rfl rfl rfl (evn ?_))))))))
    refine ls_keep [(0, .dat a0.length (a0.flatMap c157_dd)), (1, .dat a1.length (a1.flatMap c157_dd)), (5, .int .i64 y1), (14, .bool (decide (y1 < (List.length a0 : Int))))] ⟨kr, kr, kr, kr, trivial⟩ rfl ?_
    rcases cond_some h with ⟨g5, h⟩ | ⟨g5, h⟩
    · refine ls_cT rfl g5 ?_
      refine ls_skip ?_
      refine hK4 _ (ls_keep [(0, .dat a0.length (a0.flatMap c157_dd)), (1, .dat a1.length (a1.flatMap c157_dd)), (5, .int .i64 y1)] ⟨kr, kr, kr, trivial⟩ rfl ?_)
      refine ls_seq_k fun K6 hK6 => ?_
      refine ls_blk ?_
      refine ls_rd tbOk mixed (by kernel_rfl) ?_
      refine evd rfl rfl (ev_mv (c := .dat a0.length (a0.flatMap c157_dd)) rfl rfl rfl (evd rfl rfl (ev_mv (c := .int .i64 y1) rfl rfl rfl (?_))))
      obtain ⟨e7, g8, h⟩ := ob_some h
      refine evd rfl rfl (ev_ia rfl rfl rfl ⟨(geti_some g8).1, (geti_some g8).2.1⟩ (evd rfl rfl (ev_ldE (off := 0) (v := .agg [.str e7.1, .int .i64 e7.2.1, .dat e7.2.2.length (e7.2.2.flatMap c30_d)]) rfl rfl zc157_dd g8 rfl (Nat.le_of_ble_eq_true rfl) rfl (evd rfl rfl (ev_mv (c := .dat a1.length (a1.flatMap c157_dd)) rfl rfl rfl (evd rfl rfl (ev_mv (c := .int .i64 y1) rfl rfl rfl (?_))))))))
      obtain ⟨e9, g10, h⟩ := ob_some h
      refine evd rfl rfl (ev_ia rfl rfl rfl ⟨(geti_some g10).1, (geti_some g10).2.1⟩ (evd rfl rfl (ev_ldE (off := 0) (v := .agg [.str e9.1, .int .i64 e9.2.1, .dat e9.2.2.length (e9.2.2.flatMap c30_d)]) rfl rfl zc157_dd g10 rfl (Nat.le_of_ble_eq_true rfl) rfl (?_))))
      obtain ⟨v11, g12, h⟩ := ob_some h
      refine evd rfl rfl (ev_call (era rfl (erg (erc rfl (erc rfl (erc (erD ec30_d _) rfl)))) (era rfl (erg (erc rfl (erc rfl (erc (erD ec30_d _) rfl)))) eran)) (laws_eqTable_s g12) (evd rfl rfl (ev_un (c1 := .bool v11) rfl trivial (evdn ?_))))
      refine ls_keep [(0, .dat a0.length (a0.flatMap c157_dd)), (1, .dat a1.length (a1.flatMap c157_dd)), (5, .int .i64 y1), (26, .bool (!v11))] ⟨kr, kr, kr, kr, trivial⟩ rfl ?_
      rcases cond_some h with ⟨g13, h⟩ | ⟨g13, h⟩
      · refine ls_cT rfl g13 ?_
        refine ls_rs tbOk ?_
        refine evs (ev_ac rfl nofun rfl (evn ?_))
        refine ls_keep [(4, .bool false)] ⟨kr, trivial⟩ rfl ?_
        refine ls_ret ?_
        have q0 := (Option.some.inj h).symm
        have r0 := hr1
        rw [q0] at r0
        have hr := Option.some.inj r0
        rw [← hr]
        exact ⟨.inl rfl, rfl⟩
      · refine ls_cF rfl g13 ?_
        refine ls_skip ?_
        refine hK6 _ (ls_keep [(0, .dat a0.length (a0.flatMap c157_dd)), (1, .dat a1.length (a1.flatMap c157_dd)), (5, .int .i64 y1)] ⟨kr, kr, kr, trivial⟩ rfl ?_)
        refine ls_rgn tbOk ?_
        refine evs (ev_mv (c := .int .i64 y1) rfl rfl rfl (evs (ev_bin (c1 := .int .i64 y1) (c2 := .int .i64 1) rfl rfl rfl (evs (ev_as (c := .int .i64 (IntKind.i64.wrap (y1 + 1))) rfl rfl rfl (evn ?_))))))
        exact hN _ (IntKind.i64.wrap (y1 + 1)) h ⟨kr, kr, kr, trivial⟩
    · refine ls_cF rfl g5 ?_
      refine ls_exit ?_
      have q0 := (Option.some.inj h).symm
      have r0 := hr1
      rw [q0] at r0
      exact kXlaws_eqTableS_B1 () r0 _ trivial
def laws_eqDatabase (a0 : (List ((List UInt8) × (Int × (List (List Int)))))) (a1 : (List ((List UInt8) × (Int × (List (List Int)))))) : Option (Bool) := obind (laws_eqTableS a0 a1) fun v2 => cond (!v2) (some false) (some true)
theorem laws_eqDatabase_s {a0 : (List ((List UInt8) × (Int × (List (List Int)))))} {a1 : (List ((List UInt8) × (Int × (List (List Int)))))} {r : Bool} (h : laws_eqDatabase a0 a1 = some r) : SoundAt Try.prog 63 [.agg [.dat a0.length (a0.flatMap c157_dd)], .agg [.dat a1.length (a1.flatMap c157_dd)]] (.bool r) := by
  unfold laws_eqDatabase at h
  refine sound_lit tbOk lit63 (Nat.le_of_ble_eq_true rfl) rfl ?_
  unfold c63
  refine ls_keep [(0, .agg [.dat a0.length (a0.flatMap c157_dd)]), (1, .agg [.dat a1.length (a1.flatMap c157_dd)])] ⟨kr, kr, trivial⟩ rfl ?_
  refine ls_rs tbOk ?_
  refine evs (ev_bx (c1 := .agg [.dat a0.length (a0.flatMap c157_dd)]) rfl rfl rfl (evs (ev_bx (c1 := .agg [.dat a1.length (a1.flatMap c157_dd)]) rfl rfl rfl (evs (ev_ac rfl nofun rfl (evn ?_))))))
  refine ls_keep [(2, .box [.dat a0.length (a0.flatMap c157_dd)]), (3, .box [.dat a1.length (a1.flatMap c157_dd)])] ⟨kr, kr, trivial⟩ rfl ?_
  refine ls_seq_k fun K1 hK1 => ?_
  refine ls_rs tbOk ?_
  refine evs (ev_fa (c1 := .cref 2 0) (v := .cref 2 0) rfl rfl rfl ⟨_, rfl⟩ rfl (evs (ev_ldB (off := 0) (v := .dat a0.length (a0.flatMap c157_dd)) rfl rfl rfl rfl (Nat.le_of_ble_eq_true rfl) rfl (evs (ev_fa (c1 := .cref 3 0) (v := .cref 3 0) rfl rfl rfl ⟨_, rfl⟩ rfl (evs (ev_ldB (off := 0) (v := .dat a1.length (a1.flatMap c157_dd)) rfl rfl rfl rfl (Nat.le_of_ble_eq_true rfl) rfl (?_))))))))
  obtain ⟨v2, g3, h⟩ := ob_some h
  refine evs (ev_call (era rfl (erD ec157_dd _) (era rfl (erD ec157_dd _) eran)) (laws_eqTableS_s g3) (evs (ev_un (c1 := .bool v2) rfl trivial (evn ?_))))
  refine ls_keep [(10, .bool (!v2))] ⟨kr, trivial⟩ rfl ?_
  rcases cond_some h with ⟨g4, h⟩ | ⟨g4, h⟩
  · refine ls_cT rfl g4 ?_
    refine ls_rs tbOk ?_
    refine evs (ev_ac rfl nofun rfl (evn ?_))
    refine ls_keep [(4, .bool false)] ⟨kr, trivial⟩ rfl ?_
    refine ls_ret ?_
    have hr := Option.some.inj h
    rw [← hr]
    exact ⟨.inl rfl, rfl⟩
  · refine ls_cF rfl g4 ?_
    refine ls_skip ?_
    refine hK1 _ (ls_keep [] trivial rfl ?_)
    refine ls_rs tbOk ?_
    refine evs (ev_ac rfl nofun rfl (evn ?_))
    refine ls_keep [(4, .bool true)] ⟨kr, trivial⟩ rfl ?_
    refine ls_ret ?_
    have hr := Option.some.inj h
    rw [← hr]
    exact ⟨.inl rfl, rfl⟩
def laws_eqDatabaseS_B1 (a0 : List ((List ((List UInt8) × (Int × (List (List Int))))))) (a1 : List ((List ((List UInt8) × (Int × (List (List Int))))))) (rec : Int → Option (Sum (Unit) (Bool))) (y1 : Int) : Option (Sum (Unit) (Bool)) := cond (decide (y1 < (List.length a0 : Int))) (obind (geti a0 y1) fun e7 => obind (geti a1 y1) fun e9 => obind (laws_eqDatabase e7 e9) fun v11 => cond (!v11) (some (.inr false)) (rec (IntKind.i64.wrap (y1 + 1)))) (some (.inl ()))
def laws_eqDatabaseS (a0 : List ((List ((List UInt8) × (Int × (List (List Int))))))) (a1 : List ((List ((List UInt8) × (Int × (List (List Int))))))) : Option (Bool) := cond ((List.length a0 : Int) != (List.length a1 : Int)) (some false) (obind (loopF (laws_eqDatabaseS_B1 a0 a1) fz 0) fun o1 => (match o1 with
  | .inl _ => (some true)
  | .inr r => some r))
theorem laws_eqDatabaseS_s {a0 : List ((List ((List UInt8) × (Int × (List (List Int))))))} {a1 : List ((List ((List UInt8) × (Int × (List (List Int))))))} {r : Bool} (h : laws_eqDatabaseS a0 a1 = some r) : SoundAt Try.prog 123 [.dat a0.length (a0.flatMap c100_ddd), .dat a1.length (a1.flatMap c100_ddd)] (.bool r) := by
  unfold laws_eqDatabaseS at h
  refine sound_lit tbOk lit123 (Nat.le_of_ble_eq_true rfl) rfl ?_
  unfold c123
  refine ls_keep [(0, .dat a0.length (a0.flatMap c100_ddd)), (1, .dat a1.length (a1.flatMap c100_ddd))] ⟨kr, kr, trivial⟩ rfl ?_
  refine ls_rs tbOk ?_
  refine evs (ev_ac rfl nofun rfl (evn ?_))
  refine ls_keep [(0, .dat a0.length (a0.flatMap c100_ddd)), (1, .dat a1.length (a1.flatMap c100_ddd))] ⟨kr, kr, trivial⟩ rfl ?_
  refine ls_seq_k fun K1 hK1 => ?_
  refine ls_rs tbOk ?_
  refine evs (ev_mv (c := .dat a0.length (a0.flatMap c100_ddd)) rfl rfl rfl (evs (ev_len (c1 := .dat a0.length (a0.flatMap c100_ddd)) rfl rfl rfl (evs (ev_mv (c := .dat a1.length (a1.flatMap c100_ddd)) rfl rfl rfl (evs (ev_len (c1 := .dat a1.length (a1.flatMap c100_ddd)) rfl rfl rfl (evs (ev_bin (c1 := .int .i64 (List.length a0 : Int)) (c2 := .int .i64 (List.length a1 : Int)) rfl rfl rfl (evn ?_))))))))))
  refine ls_keep [(0, .dat a0.length (a0.flatMap c100_ddd)), (1, .dat a1.length (a1.flatMap c100_ddd)), (10, .bool ((List.length a0 : Int) != (List.length a1 : Int)))] ⟨kr, kr, kr, trivial⟩ rfl ?_
  rcases cond_some h with ⟨g2, h⟩ | ⟨g2, h⟩
  · refine ls_cT rfl g2 ?_
    refine ls_rs tbOk ?_
    refine evs (ev_ac rfl nofun rfl (evn ?_))
    refine ls_keep [(4, .bool false)] ⟨kr, trivial⟩ rfl ?_
    refine ls_ret ?_
    have hr := Option.some.inj h
    rw [← hr]
    exact ⟨.inl rfl, rfl⟩
  · refine ls_cF rfl g2 ?_
    refine ls_skip ?_
    refine hK1 _ (ls_keep [(0, .dat a0.length (a0.flatMap c100_ddd)), (1, .dat a1.length (a1.flatMap c100_ddd))] ⟨kr, kr, trivial⟩ rfl ?_)
    refine ls_seq_k fun K3 hK3 => ?_
    refine ls_rs tbOk ?_
    refine evs (ev_ac rfl nofun rfl (evn ?_))
    refine ls_keep [(0, .dat a0.length (a0.flatMap c100_ddd)), (1, .dat a1.length (a1.flatMap c100_ddd)), (5, .int .i64 0)] ⟨kr, kr, kr, trivial⟩ rfl ?_
    obtain ⟨o1, hl, hr1⟩ := ob_some h
    clear h
    have kXlaws_eqDatabaseS_B1 : ∀ (_ : Unit), (some true) = some r → ∀ σ' : PS, okK σ' [] → K3 σ' := by
      intro _ h σ' hk
      refine hK3 _ (ls_keep [] hk rfl ?_)
      refine ls_rs tbOk ?_
      refine evs (ev_ac rfl nofun rfl (evn ?_))
      refine ls_keep [(4, .bool true)] ⟨kr, trivial⟩ rfl ?_
      refine ls_ret ?_
      have hr := Option.some.inj h
      rw [← hr]
      exact ⟨.inl rfl, rfl⟩
    refine ls_rec (fun (y1 : Int) => [(0, .dat a0.length (a0.flatMap c100_ddd)), (1, .dat a1.length (a1.flatMap c100_ddd)), (5, .int .i64 y1)]) (laws_eqDatabaseS_B1 a0 a1) fz 0 o1 hl ⟨kr, kr, kr, trivial⟩ (fun _ => rfl) ?_
    rintro m y1 N h hN
    unfold laws_eqDatabaseS_B1 at h
    refine ls_seq_k fun K4 hK4 => ?_
    refine ls_rs tbOk ?_
    refine evs (ev_mv (c := .int .i64 y1) rfl rfl rfl (evs (ev_mv (c := .dat a0.length (a0.flatMap c100_ddd)) rfl rfl rfl (evs (ev_len (c1 := .dat a0.length (a0.flatMap c100_ddd)) rfl rfl rfl (evs (ev_bin (c1 := .int .i64 y1) (c2 := .int .i64 (List.length a0 : Int)) rfl rfl rfl (evn ?_))))))))
    refine ls_keep [(0, .dat a0.length (a0.flatMap c100_ddd)), (1, .dat a1.length (a1.flatMap c100_ddd)), (5, .int .i64 y1), (14, .bool (decide (y1 < (List.length a0 : Int))))] ⟨kr, kr, kr, kr, trivial⟩ rfl ?_
    rcases cond_some h with ⟨g5, h⟩ | ⟨g5, h⟩
    · refine ls_cT rfl g5 ?_
      refine ls_skip ?_
      refine hK4 _ (ls_keep [(0, .dat a0.length (a0.flatMap c100_ddd)), (1, .dat a1.length (a1.flatMap c100_ddd)), (5, .int .i64 y1)] ⟨kr, kr, kr, trivial⟩ rfl ?_)
      refine ls_seq_k fun K6 hK6 => ?_
      refine ls_blk ?_
      refine ls_rd tbOk mixed (by kernel_rfl) ?_
      refine evd rfl rfl (ev_mv (c := .dat a0.length (a0.flatMap c100_ddd)) rfl rfl rfl (evd rfl rfl (ev_mv (c := .int .i64 y1) rfl rfl rfl (?_))))
      obtain ⟨e7, g8, h⟩ := ob_some h
      refine evd rfl rfl (ev_ia rfl rfl rfl ⟨(geti_some g8).1, (geti_some g8).2.1⟩ (evd rfl rfl (ev_ldE (off := 0) (v := .agg [.dat e7.length (e7.flatMap c157_dd)]) rfl rfl zc100_ddd g8 rfl (Nat.le_of_ble_eq_true rfl) rfl (evd rfl rfl (ev_mv (c := .dat a1.length (a1.flatMap c100_ddd)) rfl rfl rfl (evd rfl rfl (ev_mv (c := .int .i64 y1) rfl rfl rfl (?_))))))))
      obtain ⟨e9, g10, h⟩ := ob_some h
      refine evd rfl rfl (ev_ia rfl rfl rfl ⟨(geti_some g10).1, (geti_some g10).2.1⟩ (evd rfl rfl (ev_ldE (off := 0) (v := .agg [.dat e9.length (e9.flatMap c157_dd)]) rfl rfl zc100_ddd g10 rfl (Nat.le_of_ble_eq_true rfl) rfl (?_))))
      obtain ⟨v11, g12, h⟩ := ob_some h
      refine evd rfl rfl (ev_call (era rfl (erg (erc (erD ec157_dd _) rfl)) (era rfl (erg (erc (erD ec157_dd _) rfl)) eran)) (laws_eqDatabase_s g12) (evd rfl rfl (ev_un (c1 := .bool v11) rfl trivial (evdn ?_))))
      refine ls_keep [(0, .dat a0.length (a0.flatMap c100_ddd)), (1, .dat a1.length (a1.flatMap c100_ddd)), (5, .int .i64 y1), (26, .bool (!v11))] ⟨kr, kr, kr, kr, trivial⟩ rfl ?_
      rcases cond_some h with ⟨g13, h⟩ | ⟨g13, h⟩
      · refine ls_cT rfl g13 ?_
        refine ls_rs tbOk ?_
        refine evs (ev_ac rfl nofun rfl (evn ?_))
        refine ls_keep [(4, .bool false)] ⟨kr, trivial⟩ rfl ?_
        refine ls_ret ?_
        have q0 := (Option.some.inj h).symm
        have r0 := hr1
        rw [q0] at r0
        have hr := Option.some.inj r0
        rw [← hr]
        exact ⟨.inl rfl, rfl⟩
      · refine ls_cF rfl g13 ?_
        refine ls_skip ?_
        refine hK6 _ (ls_keep [(0, .dat a0.length (a0.flatMap c100_ddd)), (1, .dat a1.length (a1.flatMap c100_ddd)), (5, .int .i64 y1)] ⟨kr, kr, kr, trivial⟩ rfl ?_)
        refine ls_rgn tbOk ?_
        refine evs (ev_mv (c := .int .i64 y1) rfl rfl rfl (evs (ev_bin (c1 := .int .i64 y1) (c2 := .int .i64 1) rfl rfl rfl (evs (ev_as (c := .int .i64 (IntKind.i64.wrap (y1 + 1))) rfl rfl rfl (evn ?_))))))
        exact hN _ (IntKind.i64.wrap (y1 + 1)) h ⟨kr, kr, kr, trivial⟩
    · refine ls_cF rfl g5 ?_
      refine ls_exit ?_
      have q0 := (Option.some.inj h).symm
      have r0 := hr1
      rw [q0] at r0
      exact kXlaws_eqDatabaseS_B1 () r0 _ trivial
def laws_eqHistory (a0 : Int × (List ((List ((List UInt8) × (Int × (List (List Int)))))))) (a1 : Int × (List ((List ((List UInt8) × (Int × (List (List Int)))))))) : Option (Bool) := cond (a0.1 != a1.1) (some false) (obind (laws_eqDatabaseS a0.2 a1.2) fun v4 => cond (!v4) (some false) (some true))
theorem laws_eqHistory_s {a0 : Int × (List ((List ((List UInt8) × (Int × (List (List Int)))))))} {a1 : Int × (List ((List ((List UInt8) × (Int × (List (List Int)))))))} {r : Bool} (h : laws_eqHistory a0 a1 = some r) : SoundAt Try.prog 49 [.agg [.int .i64 a0.1, .dat a0.2.length (a0.2.flatMap c100_ddd)], .agg [.int .i64 a1.1, .dat a1.2.length (a1.2.flatMap c100_ddd)]] (.bool r) := by
  unfold laws_eqHistory at h
  refine sound_lit tbOk lit49 (Nat.le_of_ble_eq_true rfl) rfl ?_
  unfold c49
  refine ls_keep [(0, .agg [.int .i64 a0.1, .dat a0.2.length (a0.2.flatMap c100_ddd)]), (1, .agg [.int .i64 a1.1, .dat a1.2.length (a1.2.flatMap c100_ddd)])] ⟨kr, kr, trivial⟩ rfl ?_
  refine ls_rs tbOk ?_
  refine evs (ev_bx (c1 := .agg [.int .i64 a0.1, .dat a0.2.length (a0.2.flatMap c100_ddd)]) rfl rfl rfl (evs (ev_bx (c1 := .agg [.int .i64 a1.1, .dat a1.2.length (a1.2.flatMap c100_ddd)]) rfl rfl rfl (evs (ev_ac rfl nofun rfl (evn ?_))))))
  refine ls_keep [(2, .box [.int .i64 a0.1, .dat a0.2.length (a0.2.flatMap c100_ddd)]), (3, .box [.int .i64 a1.1, .dat a1.2.length (a1.2.flatMap c100_ddd)])] ⟨kr, kr, trivial⟩ rfl ?_
  refine ls_seq_k fun K1 hK1 => ?_
  refine ls_rs tbOk ?_
  refine evs (ev_fa (c1 := .cref 2 0) (v := .cref 2 0) rfl rfl rfl ⟨_, rfl⟩ rfl (evs (ev_ldB (off := 0) (v := .int .i64 a0.1) rfl rfl rfl rfl (Nat.le_of_ble_eq_true rfl) rfl (evs (ev_fa (c1 := .cref 3 0) (v := .cref 3 0) rfl rfl rfl ⟨_, rfl⟩ rfl (evs (ev_ldB (off := 0) (v := .int .i64 a1.1) rfl rfl rfl rfl (Nat.le_of_ble_eq_true rfl) rfl (evs (ev_bin (c1 := .int .i64 a0.1) (c2 := .int .i64 a1.1) rfl rfl rfl (evn ?_))))))))))
  refine ls_keep [(2, .box [.int .i64 a0.1, .dat a0.2.length (a0.2.flatMap c100_ddd)]), (3, .box [.int .i64 a1.1, .dat a1.2.length (a1.2.flatMap c100_ddd)]), (9, .bool (a0.1 != a1.1))] ⟨kr, kr, kr, trivial⟩ rfl ?_
  rcases cond_some h with ⟨g2, h⟩ | ⟨g2, h⟩
  · refine ls_cT rfl g2 ?_
    refine ls_rs tbOk ?_
    refine evs (ev_ac rfl nofun rfl (evn ?_))
    refine ls_keep [(4, .bool false)] ⟨kr, trivial⟩ rfl ?_
    refine ls_ret ?_
    have hr := Option.some.inj h
    rw [← hr]
    exact ⟨.inl rfl, rfl⟩
  · refine ls_cF rfl g2 ?_
    refine ls_skip ?_
    refine hK1 _ (ls_keep [(2, .box [.int .i64 a0.1, .dat a0.2.length (a0.2.flatMap c100_ddd)]), (3, .box [.int .i64 a1.1, .dat a1.2.length (a1.2.flatMap c100_ddd)])] ⟨kr, kr, trivial⟩ rfl ?_)
    refine ls_seq_k fun K3 hK3 => ?_
    refine ls_rs tbOk ?_
    refine evs (ev_fa (c1 := .cref 2 0) (v := .cref 2 1) rfl rfl rfl ⟨_, rfl⟩ rfl (evs (ev_ldB (off := 1) (v := .dat a0.2.length (a0.2.flatMap c100_ddd)) rfl rfl rfl rfl (Nat.le_of_ble_eq_true rfl) rfl (evs (ev_fa (c1 := .cref 3 0) (v := .cref 3 1) rfl rfl rfl ⟨_, rfl⟩ rfl (evs (ev_ldB (off := 1) (v := .dat a1.2.length (a1.2.flatMap c100_ddd)) rfl rfl rfl rfl (Nat.le_of_ble_eq_true rfl) rfl (?_))))))))
    obtain ⟨v4, g5, h⟩ := ob_some h
    refine evs (ev_call (era rfl (erD ec100_ddd _) (era rfl (erD ec100_ddd _) eran)) (laws_eqDatabaseS_s g5) (evs (ev_un (c1 := .bool v4) rfl trivial (evn ?_))))
    refine ls_keep [(15, .bool (!v4))] ⟨kr, trivial⟩ rfl ?_
    rcases cond_some h with ⟨g6, h⟩ | ⟨g6, h⟩
    · refine ls_cT rfl g6 ?_
      refine ls_rs tbOk ?_
      refine evs (ev_ac rfl nofun rfl (evn ?_))
      refine ls_keep [(4, .bool false)] ⟨kr, trivial⟩ rfl ?_
      refine ls_ret ?_
      have hr := Option.some.inj h
      rw [← hr]
      exact ⟨.inl rfl, rfl⟩
    · refine ls_cF rfl g6 ?_
      refine ls_skip ?_
      refine hK3 _ (ls_keep [] trivial rfl ?_)
      refine ls_rs tbOk ?_
      refine evs (ev_ac rfl nofun rfl (evn ?_))
      refine ls_keep [(4, .bool true)] ⟨kr, trivial⟩ rfl ?_
      refine ls_ret ?_
      have hr := Option.some.inj h
      rw [← hr]
      exact ⟨.inl rfl, rfl⟩
def laws_FnExactIsValidHistory (a0 : Int × (List ((List ((List UInt8) × (Int × (List (List Int)))))))) : Option (Bool) := obind (laws_szHistory a0 1048576) fun v1 => cond (decide (v1 < 0)) (some true) (obind (laws_toHistory a0) fun v5 => obind (spec_IsValidHistory v5) fun v7 => obind (laws_toHistory a0) fun v9 => obind (impl_IsValidHistory v9) fun v11 => cond (!(v11 == v7)) (some false) (obind (laws_toHistory a0) fun v16 => obind (laws_eqHistory v9 v16) fun v18 => cond (!v18) (some false) (some true)))
theorem laws_FnExactIsValidHistory_s {a0 : Int × (List ((List ((List UInt8) × (Int × (List (List Int)))))))} {r : Bool} (h : laws_FnExactIsValidHistory a0 = some r) : SoundAt Try.prog 8 [.agg [.int .i64 a0.1, .dat a0.2.length (a0.2.flatMap c95_ddd)]] (.bool r) := by
  unfold laws_FnExactIsValidHistory at h
  refine sound_lit tbOk lit8 (Nat.le_of_ble_eq_true rfl) rfl ?_
  unfold c8
  refine ls_keep [(0, .agg [.int .i64 a0.1, .dat a0.2.length (a0.2.flatMap c95_ddd)])] ⟨kr, trivial⟩ rfl ?_
  refine ls_rs tbOk ?_
  refine evs (ev_bx (c1 := .agg [.int .i64 a0.1, .dat a0.2.length (a0.2.flatMap c95_ddd)]) rfl rfl rfl (evs (ev_ac rfl nofun rfl (evn ?_))))
  refine ls_keep [(1, .box [.int .i64 a0.1, .dat a0.2.length (a0.2.flatMap c95_ddd)])] ⟨kr, trivial⟩ rfl ?_
  refine ls_rs tbOk ?_
  refine evs (ev_ac rfl nofun rfl (evn ?_))
  refine ls_keep [(1, .box [.int .i64 a0.1, .dat a0.2.length (a0.2.flatMap c95_ddd)]), (3, .int .i64 1048576)] ⟨kr, kr, trivial⟩ rfl ?_
  refine ls_rs tbOk ?_
  refine evs (ev_ldB (off := 0) (v := .agg [.int .i64 a0.1, .dat a0.2.length (a0.2.flatMap c95_ddd)]) rfl rfl rfl rfl (Nat.le_of_ble_eq_true rfl) rfl (evs (ev_mv (c := .int .i64 1048576) rfl rfl rfl (?_))))
  obtain ⟨v1, g2, h⟩ := ob_some h
  refine evs (ev_call (era rfl (erg (erc rfl (erc (erD ec95_ddd _) rfl))) (era rfl rfl eran)) (laws_szHistory_s g2) (evs (ev_as (c := .int .i64 v1) rfl rfl rfl (evn ?_))))
  refine ls_keep [(1, .box [.int .i64 a0.1, .dat a0.2.length (a0.2.flatMap c95_ddd)]), (3, .int .i64 v1)] ⟨kr, kr, trivial⟩ rfl ?_
  refine ls_seq_k fun K3 hK3 => ?_
  refine ls_rs tbOk ?_
  refine evs (ev_mv (c := .int .i64 v1) rfl rfl rfl (evs (ev_bin (c1 := .int .i64 v1) (c2 := .int .i64 0) rfl rfl rfl (evn ?_))))
  refine ls_keep [(1, .box [.int .i64 a0.1, .dat a0.2.length (a0.2.flatMap c95_ddd)]), (11, .bool (decide (v1 < 0)))] ⟨kr, kr, trivial⟩ rfl ?_
  rcases cond_some h with ⟨g4, h⟩ | ⟨g4, h⟩
  · refine ls_cT rfl g4 ?_
    refine ls_rs tbOk ?_
    refine evs (ev_ac rfl nofun rfl (evn ?_))
    refine ls_keep [(2, .bool true)] ⟨kr, trivial⟩ rfl ?_
    refine ls_ret ?_
    have hr := Option.some.inj h
    rw [← hr]
    exact ⟨.inl rfl, rfl⟩
  · refine ls_cF rfl g4 ?_
    refine ls_skip ?_
    refine hK3 _ (ls_keep [(1, .box [.int .i64 a0.1, .dat a0.2.length (a0.2.flatMap c95_ddd)])] ⟨kr, trivial⟩ rfl ?_)
    refine ls_rs tbOk ?_
    refine evs (ev_ldB (off := 0) (v := .agg [.int .i64 a0.1, .dat a0.2.length (a0.2.flatMap c95_ddd)]) rfl rfl rfl rfl (Nat.le_of_ble_eq_true rfl) rfl (?_))
    obtain ⟨v5, g6, h⟩ := ob_some h
    refine evs (ev_call (era rfl (erg (erc rfl (erc (erD ec95_ddd _) rfl))) eran) (laws_toHistory_s g6) (?_))
    obtain ⟨v7, g8, h⟩ := ob_some h
    refine evs (ev_call (era rfl (erg (erc rfl (erc (erO ec100_ooo _) rfl))) eran) (spec_IsValidHistory_s g8) (evs (ev_as (c := .bool v7) rfl rfl rfl (evn ?_))))
    refine ls_keep [(1, .box [.int .i64 a0.1, .dat a0.2.length (a0.2.flatMap c95_ddd)]), (4, .bool v7)] ⟨kr, kr, trivial⟩ rfl ?_
    refine ls_rs tbOk ?_
    refine evs (ev_ldB (off := 0) (v := .agg [.int .i64 a0.1, .dat a0.2.length (a0.2.flatMap c95_ddd)]) rfl rfl rfl rfl (Nat.le_of_ble_eq_true rfl) rfl (?_))
    obtain ⟨v9, g10, h⟩ := ob_some h
    refine evs (ev_call (era rfl (erg (erc rfl (erc (erD ec95_ddd _) rfl))) eran) (laws_toHistory_s g10) (evs (ev_al rfl rfl (evs (ev_st (off := 0) (c1 := .agg [.int .i64 v9.1, .own 100 v9.2.length (v9.2.flatMap c100_ooo)]) (cs' := [.int .i64 v9.1, .own 100 v9.2.length (v9.2.flatMap c100_ooo)]) rfl rfl rfl rfl rfl rfl (Nat.le_of_ble_eq_true rfl) rfl (evn ?_))))))
    refine ls_keep [(1, .box [.int .i64 a0.1, .dat a0.2.length (a0.2.flatMap c95_ddd)]), (4, .bool v7), (5, .box [.int .i64 v9.1, .own 100 v9.2.length (v9.2.flatMap c100_ooo)])] ⟨kr, kr, kr, trivial⟩ rfl ?_
    refine ls_rs tbOk ?_
    refine evs (ev_ldB (off := 0) (v := .agg [.int .i64 v9.1, .dat v9.2.length (v9.2.flatMap c100_ooo)]) rfl rfl rfl rfl (Nat.le_of_ble_eq_true rfl) rfl (?_))
    obtain ⟨v11, g12, h⟩ := ob_some h
    refine evs (ev_call (era rfl (erg (erc rfl (erc (erD ec100_ooo _) rfl))) eran) (impl_IsValidHistory_s g12) (evs (ev_as (c := .bool v11) rfl rfl rfl (evn ?_))))
    refine ls_keep [(1, .box [.int .i64 a0.1, .dat a0.2.length (a0.2.flatMap c95_ddd)]), (4, .bool v7), (5, .box [.int .i64 v9.1, .own 100 v9.2.length (v9.2.flatMap c100_ooo)]), (6, .bool v11)] ⟨kr, kr, kr, kr, trivial⟩ rfl ?_
    refine ls_seq_k fun K13 hK13 => ?_
    refine ls_rs tbOk ?_
    refine evs (ev_mv (c := .bool v11) rfl rfl rfl (evs (ev_mv (c := .bool v7) rfl rfl rfl (evs (ev_bin (c1 := .bool v11) (c2 := .bool v7) rfl rfl rfl (evn ?_))))))
    refine ls_keep [(1, .box [.int .i64 a0.1, .dat a0.2.length (a0.2.flatMap c95_ddd)]), (5, .box [.int .i64 v9.1, .own 100 v9.2.length (v9.2.flatMap c100_ooo)]), (21, .bool (!(v11 == v7)))] ⟨kr, kr, kr, trivial⟩ rfl ?_
    rcases cond_some h with ⟨g14, h⟩ | ⟨g14, h⟩
    · refine ls_cT rfl g14 ?_
      refine ls_rs tbOk ?_
      refine evs (ev_ac rfl nofun rfl (evn ?_))
      refine ls_keep [(2, .bool false)] ⟨kr, trivial⟩ rfl ?_
      refine ls_ret ?_
      have hr := Option.some.inj h
      rw [← hr]
      exact ⟨.inl rfl, rfl⟩
    · refine ls_cF rfl g14 ?_
      refine ls_skip ?_
      refine hK13 _ (ls_keep [(1, .box [.int .i64 a0.1, .dat a0.2.length (a0.2.flatMap c95_ddd)]), (5, .box [.int .i64 v9.1, .own 100 v9.2.length (v9.2.flatMap c100_ooo)])] ⟨kr, kr, trivial⟩ rfl ?_)
      refine ls_seq_k fun K15 hK15 => ?_
      refine ls_rd tbOk mixed (by kernel_rfl) ?_
      refine evd rfl rfl (ev_ldB (off := 0) (v := .agg [.int .i64 v9.1, .dat v9.2.length (v9.2.flatMap c100_ooo)]) rfl rfl rfl rfl (Nat.le_of_ble_eq_true rfl) rfl (evd rfl rfl (ev_ldB (off := 0) (v := .agg [.int .i64 a0.1, .dat a0.2.length (a0.2.flatMap c95_ddd)]) rfl rfl rfl rfl (Nat.le_of_ble_eq_true rfl) rfl (?_))))
      obtain ⟨v16, g17, h⟩ := ob_some h
      refine evd rfl rfl (ev_call (era rfl (erg (erc rfl (erc (erD ec95_ddd _) rfl))) eran) (laws_toHistory_s g17) (?_))
      obtain ⟨v18, g19, h⟩ := ob_some h
      refine evd rfl rfl (ev_call (era rfl (erg (erc rfl (erc (erD ec100_ooo _) rfl))) (era rfl (erg (erc rfl (erc (erO ec100_ooo _) rfl))) eran)) (laws_eqHistory_s g19) (evd rfl rfl (ev_un (c1 := .bool v18) rfl trivial (evdn ?_))))
      refine ls_keep [(26, .bool (!v18))] ⟨kr, trivial⟩ rfl ?_
      rcases cond_some h with ⟨g20, h⟩ | ⟨g20, h⟩
      · refine ls_cT rfl g20 ?_
        refine ls_rs tbOk ?_
        refine evs (ev_ac rfl nofun rfl (evn ?_))
        refine ls_keep [(2, .bool false)] ⟨kr, trivial⟩ rfl ?_
        refine ls_ret ?_
        have hr := Option.some.inj h
        rw [← hr]
        exact ⟨.inl rfl, rfl⟩
      · refine ls_cF rfl g20 ?_
        refine ls_skip ?_
        refine hK15 _ (ls_keep [] trivial rfl ?_)
        refine ls_rs tbOk ?_
        refine evs (ev_ac rfl nofun rfl (evn ?_))
        refine ls_keep [(2, .bool true)] ⟨kr, trivial⟩ rfl ?_
        refine ls_ret ?_
        have hr := Option.some.inj h
        rw [← hr]
        exact ⟨.inl rfl, rfl⟩
end Go.Proofs.Ytkmkbpphdalgoaa
