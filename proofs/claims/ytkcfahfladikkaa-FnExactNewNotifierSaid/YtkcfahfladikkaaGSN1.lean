/-
  Functions of the program as typed functions, printed by gen.py, and that the program's functions do what they say. No conditions.
-/
import Derived.Test.YtkcfahfladikkaaUpN1
import Derived.Test.YtkcfahfladikkaaLit2N1
namespace Go.Proofs.Ytkcfahfladikkaa
open Go.RowKit
set_option linter.unusedVariables false
set_option maxRecDepth 100000
set_option maxHeartbeats 1000000
def laws_szIntS (a0 : List Int) (a1 : Int) : Option (Int) := cond (decide ((IntKind.i64.wrap (a1 - (List.length a0 : Int))) < 0)) (some (-1)) (some (IntKind.i64.wrap (a1 - (List.length a0 : Int))))
theorem laws_szIntS_s {a0 : List Int} {a1 : Int} {r : Int} (h : laws_szIntS a0 a1 = some r) : SoundAt Try.prog 72 [.dat a0.length (a0.flatMap ci64), .int .i64 a1] (.int .i64 r) := by
  unfold laws_szIntS at h
  refine sound_lit tbOk lit72 (Nat.le_of_ble_eq_true rfl) rfl ?_
  unfold c72
  refine ls_keep [(0, .dat a0.length (a0.flatMap ci64)), (1, .int .i64 a1)] ⟨kr, kr, trivial⟩ rfl ?_
  refine ls_rs tbOk ?_
  refine evs (ev_ac rfl nofun rfl (evn ?_))
  refine ls_keep [(0, .dat a0.length (a0.flatMap ci64)), (1, .int .i64 a1)] ⟨kr, kr, trivial⟩ rfl ?_
  refine ls_rs tbOk ?_
  refine evs (ev_mv (c := .int .i64 a1) rfl rfl rfl (evs (ev_mv (c := .dat a0.length (a0.flatMap ci64)) rfl rfl rfl (evs (ev_len (c1 := .dat a0.length (a0.flatMap ci64)) rfl rfl rfl (evs (ev_bin (c1 := .int .i64 a1) (c2 := .int .i64 (List.length a0 : Int)) rfl rfl rfl (evs (ev_as (c := .int .i64 (IntKind.i64.wrap (a1 - (List.length a0 : Int)))) rfl rfl rfl (evn ?_))))))))))
  refine ls_keep [(1, .int .i64 (IntKind.i64.wrap (a1 - (List.length a0 : Int))))] ⟨kr, trivial⟩ rfl ?_
  refine ls_seq_k fun K1 hK1 => ?_
  refine ls_rs tbOk ?_
  refine evs (ev_mv (c := .int .i64 (IntKind.i64.wrap (a1 - (List.length a0 : Int)))) rfl rfl rfl (evs (ev_bin (c1 := .int .i64 (IntKind.i64.wrap (a1 - (List.length a0 : Int)))) (c2 := .int .i64 0) rfl rfl rfl (evn ?_))))
  refine ls_keep [(1, .int .i64 (IntKind.i64.wrap (a1 - (List.length a0 : Int)))), (10, .bool (decide ((IntKind.i64.wrap (a1 - (List.length a0 : Int))) < 0)))] ⟨kr, kr, trivial⟩ rfl ?_
  rcases cond_some h with ⟨g2, h⟩ | ⟨g2, h⟩
  · refine ls_cT rfl g2 ?_
    refine ls_rs tbOk ?_
    refine evs (ev_ac rfl nofun rfl (evn ?_))
    refine ls_keep [(4, .int .i64 (-1))] ⟨kr, trivial⟩ rfl ?_
    refine ls_ret ?_
    have hr := Option.some.inj h
    rw [← hr]
    exact ⟨.inl rfl, rfl⟩
  · refine ls_cF rfl g2 ?_
    refine ls_skip ?_
    refine hK1 _ (ls_keep [(1, .int .i64 (IntKind.i64.wrap (a1 - (List.length a0 : Int))))] ⟨kr, trivial⟩ rfl ?_)
    refine ls_rs tbOk ?_
    refine evs (ev_mv (c := .int .i64 (IntKind.i64.wrap (a1 - (List.length a0 : Int)))) rfl rfl rfl (evs (ev_as (c := .int .i64 (IntKind.i64.wrap (a1 - (List.length a0 : Int)))) rfl rfl rfl (evn ?_))))
    refine ls_keep [(4, .int .i64 (IntKind.i64.wrap (a1 - (List.length a0 : Int))))] ⟨kr, trivial⟩ rfl ?_
    refine ls_ret ?_
    have hr := Option.some.inj h
    rw [← hr]
    exact ⟨.inl rfl, rfl⟩
def laws_szIntSS_B1 (a0 : List (List Int)) (rec : (Int × Int) → Option (Sum (Int) (Int))) (s : Int × Int) : Option (Sum (Int) (Int)) := match s with
  | (y1, y2) => cond (decide (y2 < (List.length a0 : Int))) (obind (geti a0 y2) fun e8 => obind (laws_szIntS e8 y1) fun v10 => cond (decide (v10 < 0)) (some (.inr (-1))) (rec (v10, (IntKind.i64.wrap (y2 + 1))))) (some (.inl y1))
def laws_szIntSS (a0 : List (List Int)) (a1 : Int) : Option (Int) := cond (decide ((IntKind.i64.wrap (a1 - (List.length a0 : Int))) < 0)) (some (-1)) (obind (loopF (laws_szIntSS_B1 a0) fz ((IntKind.i64.wrap (a1 - (List.length a0 : Int))), 0)) fun o1 => (match o1 with
  | .inl z4 => (some z4)
  | .inr r => some r))
theorem laws_szIntSS_s {a0 : List (List Int)} {a1 : Int} {r : Int} (h : laws_szIntSS a0 a1 = some r) : SoundAt Try.prog 199 [.dat a0.length (a0.flatMap c25_d), .int .i64 a1] (.int .i64 r) := by
  unfold laws_szIntSS at h
  refine sound_lit tbOk lit199 (Nat.le_of_ble_eq_true rfl) rfl ?_
  unfold c199
  refine ls_keep [(0, .dat a0.length (a0.flatMap c25_d)), (1, .int .i64 a1)] ⟨kr, kr, trivial⟩ rfl ?_
  refine ls_rs tbOk ?_
  refine evs (ev_ac rfl nofun rfl (evn ?_))
  refine ls_keep [(0, .dat a0.length (a0.flatMap c25_d)), (1, .int .i64 a1)] ⟨kr, kr, trivial⟩ rfl ?_
  refine ls_rs tbOk ?_
  refine evs (ev_mv (c := .int .i64 a1) rfl rfl rfl (evs (ev_mv (c := .dat a0.length (a0.flatMap c25_d)) rfl rfl rfl (evs (ev_len (c1 := .dat a0.length (a0.flatMap c25_d)) rfl rfl rfl (evs (ev_bin (c1 := .int .i64 a1) (c2 := .int .i64 (List.length a0 : Int)) rfl rfl rfl (evs (ev_as (c := .int .i64 (IntKind.i64.wrap (a1 - (List.length a0 : Int)))) rfl rfl rfl (evn ?_))))))))))
  refine ls_keep [(0, .dat a0.length (a0.flatMap c25_d)), (1, .int .i64 (IntKind.i64.wrap (a1 - (List.length a0 : Int))))] ⟨kr, kr, trivial⟩ rfl ?_
  refine ls_seq_k fun K1 hK1 => ?_
  refine ls_rs tbOk ?_
  refine evs (ev_mv (c := .int .i64 (IntKind.i64.wrap (a1 - (List.length a0 : Int)))) rfl rfl rfl (evs (ev_bin (c1 := .int .i64 (IntKind.i64.wrap (a1 - (List.length a0 : Int)))) (c2 := .int .i64 0) rfl rfl rfl (evn ?_))))
  refine ls_keep [(0, .dat a0.length (a0.flatMap c25_d)), (1, .int .i64 (IntKind.i64.wrap (a1 - (List.length a0 : Int)))), (11, .bool (decide ((IntKind.i64.wrap (a1 - (List.length a0 : Int))) < 0)))] ⟨kr, kr, kr, trivial⟩ rfl ?_
  rcases cond_some h with ⟨g2, h⟩ | ⟨g2, h⟩
  · refine ls_cT rfl g2 ?_
    refine ls_rs tbOk ?_
    refine evs (ev_ac rfl nofun rfl (evn ?_))
    refine ls_keep [(4, .int .i64 (-1))] ⟨kr, trivial⟩ rfl ?_
    refine ls_ret ?_
    have hr := Option.some.inj h
    rw [← hr]
    exact ⟨.inl rfl, rfl⟩
  · refine ls_cF rfl g2 ?_
    refine ls_skip ?_
    refine hK1 _ (ls_keep [(0, .dat a0.length (a0.flatMap c25_d)), (1, .int .i64 (IntKind.i64.wrap (a1 - (List.length a0 : Int))))] ⟨kr, kr, trivial⟩ rfl ?_)
    refine ls_seq_k fun K3 hK3 => ?_
    refine ls_rs tbOk ?_
    refine evs (ev_ac rfl nofun rfl (evn ?_))
    refine ls_keep [(0, .dat a0.length (a0.flatMap c25_d)), (1, .int .i64 (IntKind.i64.wrap (a1 - (List.length a0 : Int)))), (5, .int .i64 0)] ⟨kr, kr, kr, trivial⟩ rfl ?_
    obtain ⟨o1, hl, hr1⟩ := ob_some h
    clear h
    have kXlaws_szIntSS_B1 : ∀ (z4 : Int), (some z4) = some r → ∀ σ' : PS, okK σ' [(1, .int .i64 z4)] → K3 σ' := by
      intro z4 h σ' hk
      refine hK3 _ (ls_keep [(1, .int .i64 z4)] hk rfl ?_)
      refine ls_rs tbOk ?_
      refine evs (ev_mv (c := .int .i64 z4) rfl rfl rfl (evs (ev_as (c := .int .i64 z4) rfl rfl rfl (evn ?_))))
      refine ls_keep [(4, .int .i64 z4)] ⟨kr, trivial⟩ rfl ?_
      refine ls_ret ?_
      have hr := Option.some.inj h
      rw [← hr]
      exact ⟨.inl rfl, rfl⟩
    refine ls_rec (fun (s : Int × Int) => match s with | (y1, y2) => [(0, .dat a0.length (a0.flatMap c25_d)), (1, .int .i64 y1), (5, .int .i64 y2)]) (laws_szIntSS_B1 a0) fz ((IntKind.i64.wrap (a1 - (List.length a0 : Int))), 0) o1 hl ⟨kr, kr, kr, trivial⟩ (fun _ => rfl) ?_
    rintro m ⟨y1, y2⟩ N h hN
    unfold laws_szIntSS_B1 at h
    dsimp only at h
    refine ls_seq_k fun K5 hK5 => ?_
    refine ls_rs tbOk ?_
    refine evs (ev_mv (c := .int .i64 y2) rfl rfl rfl (evs (ev_mv (c := .dat a0.length (a0.flatMap c25_d)) rfl rfl rfl (evs (ev_len (c1 := .dat a0.length (a0.flatMap c25_d)) rfl rfl rfl (evs (ev_bin (c1 := .int .i64 y2) (c2 := .int .i64 (List.length a0 : Int)) rfl rfl rfl (evn ?_))))))))
    refine ls_keep [(0, .dat a0.length (a0.flatMap c25_d)), (1, .int .i64 y1), (5, .int .i64 y2), (15, .bool (decide (y2 < (List.length a0 : Int))))] ⟨kr, kr, kr, kr, trivial⟩ rfl ?_
    rcases cond_some h with ⟨g6, h⟩ | ⟨g6, h⟩
    · refine ls_cT rfl g6 ?_
      refine ls_skip ?_
      refine hK5 _ (ls_keep [(0, .dat a0.length (a0.flatMap c25_d)), (1, .int .i64 y1), (5, .int .i64 y2)] ⟨kr, kr, kr, trivial⟩ rfl ?_)
      refine ls_seq_k fun K7 hK7 => ?_
      refine ls_blk ?_
      refine ls_rs tbOk ?_
      refine evs (ev_mv (c := .dat a0.length (a0.flatMap c25_d)) rfl rfl rfl (evs (ev_mv (c := .int .i64 y2) rfl rfl rfl (?_))))
      obtain ⟨e8, g9, h⟩ := ob_some h
      refine evs (ev_ia rfl rfl rfl ⟨(geti_some g9).1, (geti_some g9).2.1⟩ (evs (ev_ldE (i := y2) (n := 1) (off := 0) (v := .dat e8.length (e8.flatMap ci64)) rfl rfl zc25_d g9 rfl (Nat.le_of_ble_eq_true rfl) rfl (evs (ev_mv (c := .int .i64 y1) rfl rfl rfl (?_))))))
      obtain ⟨v10, g11, h⟩ := ob_some h
      refine evs (ev_call (era rfl (erD eci64 _) (era rfl rfl eran)) (laws_szIntS_s g11) (evs (ev_as (c := .int .i64 v10) rfl rfl rfl (evn ?_))))
      refine ls_keep [(0, .dat a0.length (a0.flatMap c25_d)), (1, .int .i64 v10), (5, .int .i64 y2)] ⟨kr, kr, kr, trivial⟩ rfl ?_
      refine ls_rs tbOk ?_
      refine evs (ev_mv (c := .int .i64 v10) rfl rfl rfl (evs (ev_bin (c1 := .int .i64 v10) (c2 := .int .i64 0) rfl rfl rfl (evn ?_))))
      refine ls_keep [(0, .dat a0.length (a0.flatMap c25_d)), (1, .int .i64 v10), (5, .int .i64 y2), (25, .bool (decide (v10 < 0)))] ⟨kr, kr, kr, kr, trivial⟩ rfl ?_
      rcases cond_some h with ⟨g12, h⟩ | ⟨g12, h⟩
      · refine ls_cT rfl g12 ?_
        refine ls_rs tbOk ?_
        refine evs (ev_ac rfl nofun rfl (evn ?_))
        refine ls_keep [(4, .int .i64 (-1))] ⟨kr, trivial⟩ rfl ?_
        refine ls_ret ?_
        have q0 := (Option.some.inj h).symm
        have r0 := hr1
        rw [q0] at r0
        have hr := Option.some.inj r0
        rw [← hr]
        exact ⟨.inl rfl, rfl⟩
      · refine ls_cF rfl g12 ?_
        refine ls_skip ?_
        refine hK7 _ (ls_keep [(0, .dat a0.length (a0.flatMap c25_d)), (1, .int .i64 v10), (5, .int .i64 y2)] ⟨kr, kr, kr, trivial⟩ rfl ?_)
        refine ls_rgn tbOk ?_
        refine evs (ev_mv (c := .int .i64 y2) rfl rfl rfl (evs (ev_bin (c1 := .int .i64 y2) (c2 := .int .i64 1) rfl rfl rfl (evs (ev_as (c := .int .i64 (IntKind.i64.wrap (y2 + 1))) rfl rfl rfl (evn ?_))))))
        exact hN _ (v10, (IntKind.i64.wrap (y2 + 1))) h ⟨kr, kr, kr, trivial⟩
    · refine ls_cF rfl g6 ?_
      refine ls_exit ?_
      have q0 := (Option.some.inj h).symm
      have r0 := hr1
      rw [q0] at r0
      exact kXlaws_szIntSS_B1 y1 r0 _ ⟨kr, trivial⟩
def laws_szRelation (a0 : Int × (List (List Int))) (a1 : Int) : Option (Int) := obind (laws_szIntSS a0.2 a1) fun v1 => cond (decide (v1 < 0)) (some (-1)) (some v1)
theorem laws_szRelation_s {a0 : Int × (List (List Int))} {a1 : Int} {r : Int} (h : laws_szRelation a0 a1 = some r) : SoundAt Try.prog 235 [.agg [.int .i64 a0.1, .dat a0.2.length (a0.2.flatMap c25_d)], .int .i64 a1] (.int .i64 r) := by
  unfold laws_szRelation at h
  refine sound_lit tbOk lit235 (Nat.le_of_ble_eq_true rfl) rfl ?_
  unfold c235
  refine ls_keep [(0, .agg [.int .i64 a0.1, .dat a0.2.length (a0.2.flatMap c25_d)]), (1, .int .i64 a1)] ⟨kr, kr, trivial⟩ rfl ?_
  refine ls_rs tbOk ?_
  refine evs (ev_bx (c1 := .agg [.int .i64 a0.1, .dat a0.2.length (a0.2.flatMap c25_d)]) rfl rfl rfl (evs (ev_ac rfl nofun rfl (evn ?_))))
  refine ls_keep [(1, .int .i64 a1), (2, .box [.int .i64 a0.1, .dat a0.2.length (a0.2.flatMap c25_d)])] ⟨kr, kr, trivial⟩ rfl ?_
  refine ls_rs tbOk ?_
  refine evs (ev_fa (c1 := .cref 2 0) (v := .cref 2 1) rfl rfl rfl ⟨_, rfl⟩ rfl (evs (ev_ldB (off := 1) (v := .dat a0.2.length (a0.2.flatMap c25_d)) rfl rfl rfl rfl (Nat.le_of_ble_eq_true rfl) rfl (evs (ev_mv (c := .int .i64 a1) rfl rfl rfl (?_))))))
  obtain ⟨v1, g2, h⟩ := ob_some h
  refine evs (ev_call (era rfl (erD ec25_d _) (era rfl rfl eran)) (laws_szIntSS_s g2) (evs (ev_as (c := .int .i64 v1) rfl rfl rfl (evn ?_))))
  refine ls_keep [(1, .int .i64 v1)] ⟨kr, trivial⟩ rfl ?_
  refine ls_seq_k fun K3 hK3 => ?_
  refine ls_rs tbOk ?_
  refine evs (ev_mv (c := .int .i64 v1) rfl rfl rfl (evs (ev_bin (c1 := .int .i64 v1) (c2 := .int .i64 0) rfl rfl rfl (evn ?_))))
  refine ls_keep [(1, .int .i64 v1), (10, .bool (decide (v1 < 0)))] ⟨kr, kr, trivial⟩ rfl ?_
  rcases cond_some h with ⟨g4, h⟩ | ⟨g4, h⟩
  · refine ls_cT rfl g4 ?_
    refine ls_rs tbOk ?_
    refine evs (ev_ac rfl nofun rfl (evn ?_))
    refine ls_keep [(4, .int .i64 (-1))] ⟨kr, trivial⟩ rfl ?_
    refine ls_ret ?_
    have hr := Option.some.inj h
    rw [← hr]
    exact ⟨.inl rfl, rfl⟩
  · refine ls_cF rfl g4 ?_
    refine ls_skip ?_
    refine hK3 _ (ls_keep [(1, .int .i64 v1)] ⟨kr, trivial⟩ rfl ?_)
    refine ls_rs tbOk ?_
    refine evs (ev_mv (c := .int .i64 v1) rfl rfl rfl (evs (ev_as (c := .int .i64 v1) rfl rfl rfl (evn ?_))))
    refine ls_keep [(4, .int .i64 v1)] ⟨kr, trivial⟩ rfl ?_
    refine ls_ret ?_
    have hr := Option.some.inj h
    rw [← hr]
    exact ⟨.inl rfl, rfl⟩
def laws_szTable (a0 : (List UInt8) × (Int × (List (List Int)))) (a1 : Int) : Option (Int) := cond (decide ((IntKind.i64.wrap (a1 - (List.length a0.1 : Int))) < 0)) (some (-1)) (obind (laws_szRelation a0.2 (IntKind.i64.wrap (a1 - (List.length a0.1 : Int)))) fun v3 => cond (decide (v3 < 0)) (some (-1)) (some v3))
theorem laws_szTable_s {a0 : (List UInt8) × (Int × (List (List Int)))} {a1 : Int} {r : Int} (h : laws_szTable a0 a1 = some r) : SoundAt Try.prog 171 [.agg [.str a0.1, .int .i64 a0.2.1, .dat a0.2.2.length (a0.2.2.flatMap c25_d)], .int .i64 a1] (.int .i64 r) := by
  unfold laws_szTable at h
  refine sound_lit tbOk lit171 (Nat.le_of_ble_eq_true rfl) rfl ?_
  unfold c171
  refine ls_keep [(0, .agg [.str a0.1, .int .i64 a0.2.1, .dat a0.2.2.length (a0.2.2.flatMap c25_d)]), (1, .int .i64 a1)] ⟨kr, kr, trivial⟩ rfl ?_
  refine ls_rs tbOk ?_
  refine evs (ev_bx (c1 := .agg [.str a0.1, .int .i64 a0.2.1, .dat a0.2.2.length (a0.2.2.flatMap c25_d)]) rfl rfl rfl (evs (ev_ac rfl nofun rfl (evn ?_))))
  refine ls_keep [(1, .int .i64 a1), (2, .box [.str a0.1, .int .i64 a0.2.1, .dat a0.2.2.length (a0.2.2.flatMap c25_d)])] ⟨kr, kr, trivial⟩ rfl ?_
  refine ls_rs tbOk ?_
  refine evs (ev_mv (c := .int .i64 a1) rfl rfl rfl (evs (ev_fa (c1 := .cref 2 0) (v := .cref 2 0) rfl rfl rfl ⟨_, rfl⟩ rfl (evs (ev_ldB (off := 0) (v := .str a0.1) rfl rfl rfl rfl (Nat.le_of_ble_eq_true rfl) rfl (evs (ev_lens (z := []) rfl rfl (evs (ev_bin (c1 := .int .i64 a1) (c2 := .int .i64 (List.length a0.1 : Int)) rfl rfl rfl (evs (ev_as (c := .int .i64 (IntKind.i64.wrap (a1 - (List.length a0.1 : Int)))) rfl rfl rfl (evn ?_))))))))))))
  refine ls_keep [(1, .int .i64 (IntKind.i64.wrap (a1 - (List.length a0.1 : Int)))), (2, .box [.str a0.1, .int .i64 a0.2.1, .dat a0.2.2.length (a0.2.2.flatMap c25_d)])] ⟨kr, kr, trivial⟩ rfl ?_
  refine ls_seq_k fun K1 hK1 => ?_
  refine ls_rs tbOk ?_
  refine evs (ev_mv (c := .int .i64 (IntKind.i64.wrap (a1 - (List.length a0.1 : Int)))) rfl rfl rfl (evs (ev_bin (c1 := .int .i64 (IntKind.i64.wrap (a1 - (List.length a0.1 : Int)))) (c2 := .int .i64 0) rfl rfl rfl (evn ?_))))
  refine ls_keep [(1, .int .i64 (IntKind.i64.wrap (a1 - (List.length a0.1 : Int)))), (2, .box [.str a0.1, .int .i64 a0.2.1, .dat a0.2.2.length (a0.2.2.flatMap c25_d)]), (11, .bool (decide ((IntKind.i64.wrap (a1 - (List.length a0.1 : Int))) < 0)))] ⟨kr, kr, kr, trivial⟩ rfl ?_
  rcases cond_some h with ⟨g2, h⟩ | ⟨g2, h⟩
  · refine ls_cT rfl g2 ?_
    refine ls_rs tbOk ?_
    refine evs (ev_ac rfl nofun rfl (evn ?_))
    refine ls_keep [(4, .int .i64 (-1))] ⟨kr, trivial⟩ rfl ?_
    refine ls_ret ?_
    have hr := Option.some.inj h
    rw [← hr]
    exact ⟨.inl rfl, rfl⟩
  · refine ls_cF rfl g2 ?_
    refine ls_skip ?_
    refine hK1 _ (ls_keep [(1, .int .i64 (IntKind.i64.wrap (a1 - (List.length a0.1 : Int)))), (2, .box [.str a0.1, .int .i64 a0.2.1, .dat a0.2.2.length (a0.2.2.flatMap c25_d)])] ⟨kr, kr, trivial⟩ rfl ?_)
    refine ls_rs tbOk ?_
    refine evs (ev_fa (c1 := .cref 2 0) (v := .cref 2 1) rfl rfl rfl ⟨_, rfl⟩ rfl (evs (ev_ldB (off := 1) (v := .agg [.int .i64 a0.2.1, .dat a0.2.2.length (a0.2.2.flatMap c25_d)]) rfl rfl rfl rfl (Nat.le_of_ble_eq_true rfl) rfl (evs (ev_mv (c := .int .i64 (IntKind.i64.wrap (a1 - (List.length a0.1 : Int)))) rfl rfl rfl (?_))))))
    obtain ⟨v3, g4, h⟩ := ob_some h
    refine evs (ev_call (era rfl (erg (erc rfl (erc (erD ec25_d _) rfl))) (era rfl rfl eran)) (laws_szRelation_s g4) (evs (ev_as (c := .int .i64 v3) rfl rfl rfl (evn ?_))))
    refine ls_keep [(1, .int .i64 v3)] ⟨kr, trivial⟩ rfl ?_
    refine ls_seq_k fun K5 hK5 => ?_
    refine ls_rs tbOk ?_
    refine evs (ev_mv (c := .int .i64 v3) rfl rfl rfl (evs (ev_bin (c1 := .int .i64 v3) (c2 := .int .i64 0) rfl rfl rfl (evn ?_))))
    refine ls_keep [(1, .int .i64 v3), (17, .bool (decide (v3 < 0)))] ⟨kr, kr, trivial⟩ rfl ?_
    rcases cond_some h with ⟨g6, h⟩ | ⟨g6, h⟩
    · refine ls_cT rfl g6 ?_
      refine ls_rs tbOk ?_
      refine evs (ev_ac rfl nofun rfl (evn ?_))
      refine ls_keep [(4, .int .i64 (-1))] ⟨kr, trivial⟩ rfl ?_
      refine ls_ret ?_
      have hr := Option.some.inj h
      rw [← hr]
      exact ⟨.inl rfl, rfl⟩
    · refine ls_cF rfl g6 ?_
      refine ls_skip ?_
      refine hK5 _ (ls_keep [(1, .int .i64 v3)] ⟨kr, trivial⟩ rfl ?_)
      refine ls_rs tbOk ?_
      refine evs (ev_mv (c := .int .i64 v3) rfl rfl rfl (evs (ev_as (c := .int .i64 v3) rfl rfl rfl (evn ?_))))
      refine ls_keep [(4, .int .i64 v3)] ⟨kr, trivial⟩ rfl ?_
      refine ls_ret ?_
      have hr := Option.some.inj h
      rw [← hr]
      exact ⟨.inl rfl, rfl⟩
def laws_szTableS_B1 (a0 : List ((List UInt8) × (Int × (List (List Int))))) (rec : (Int × Int) → Option (Sum (Int) (Int))) (s : Int × Int) : Option (Sum (Int) (Int)) := match s with
  | (y1, y2) => cond (decide (y2 < (List.length a0 : Int))) (obind (geti a0 y2) fun e8 => obind (laws_szTable e8 y1) fun v10 => cond (decide (v10 < 0)) (some (.inr (-1))) (rec (v10, (IntKind.i64.wrap (y2 + 1))))) (some (.inl y1))
def laws_szTableS (a0 : List ((List UInt8) × (Int × (List (List Int))))) (a1 : Int) : Option (Int) := cond (decide ((IntKind.i64.wrap (a1 - (List.length a0 : Int))) < 0)) (some (-1)) (obind (loopF (laws_szTableS_B1 a0) fz ((IntKind.i64.wrap (a1 - (List.length a0 : Int))), 0)) fun o1 => (match o1 with
  | .inl z4 => (some z4)
  | .inr r => some r))
theorem laws_szTableS_s {a0 : List ((List UInt8) × (Int × (List (List Int))))} {a1 : Int} {r : Int} (h : laws_szTableS a0 a1 = some r) : SoundAt Try.prog 71 [.dat a0.length (a0.flatMap c206_dd), .int .i64 a1] (.int .i64 r) := by
  unfold laws_szTableS at h
  refine sound_lit tbOk lit71 (Nat.le_of_ble_eq_true rfl) rfl ?_
  unfold c71
  refine ls_keep [(0, .dat a0.length (a0.flatMap c206_dd)), (1, .int .i64 a1)] ⟨kr, kr, trivial⟩ rfl ?_
  refine ls_rs tbOk ?_
  refine evs (ev_ac rfl nofun rfl (evn ?_))
  refine ls_keep [(0, .dat a0.length (a0.flatMap c206_dd)), (1, .int .i64 a1)] ⟨kr, kr, trivial⟩ rfl ?_
  refine ls_rs tbOk ?_
  refine evs (ev_mv (c := .int .i64 a1) rfl rfl rfl (evs (ev_mv (c := .dat a0.length (a0.flatMap c206_dd)) rfl rfl rfl (evs (ev_len (c1 := .dat a0.length (a0.flatMap c206_dd)) rfl rfl rfl (evs (ev_bin (c1 := .int .i64 a1) (c2 := .int .i64 (List.length a0 : Int)) rfl rfl rfl (evs (ev_as (c := .int .i64 (IntKind.i64.wrap (a1 - (List.length a0 : Int)))) rfl rfl rfl (evn ?_))))))))))
  refine ls_keep [(0, .dat a0.length (a0.flatMap c206_dd)), (1, .int .i64 (IntKind.i64.wrap (a1 - (List.length a0 : Int))))] ⟨kr, kr, trivial⟩ rfl ?_
  refine ls_seq_k fun K1 hK1 => ?_
  refine ls_rs tbOk ?_
  refine evs (ev_mv (c := .int .i64 (IntKind.i64.wrap (a1 - (List.length a0 : Int)))) rfl rfl rfl (evs (ev_bin (c1 := .int .i64 (IntKind.i64.wrap (a1 - (List.length a0 : Int)))) (c2 := .int .i64 0) rfl rfl rfl (evn ?_))))
  refine ls_keep [(0, .dat a0.length (a0.flatMap c206_dd)), (1, .int .i64 (IntKind.i64.wrap (a1 - (List.length a0 : Int)))), (11, .bool (decide ((IntKind.i64.wrap (a1 - (List.length a0 : Int))) < 0)))] ⟨kr, kr, kr, trivial⟩ rfl ?_
  rcases cond_some h with ⟨g2, h⟩ | ⟨g2, h⟩
  · refine ls_cT rfl g2 ?_
    refine ls_rs tbOk ?_
    refine evs (ev_ac rfl nofun rfl (evn ?_))
    refine ls_keep [(4, .int .i64 (-1))] ⟨kr, trivial⟩ rfl ?_
    refine ls_ret ?_
    have hr := Option.some.inj h
    rw [← hr]
    exact ⟨.inl rfl, rfl⟩
  · refine ls_cF rfl g2 ?_
    refine ls_skip ?_
    refine hK1 _ (ls_keep [(0, .dat a0.length (a0.flatMap c206_dd)), (1, .int .i64 (IntKind.i64.wrap (a1 - (List.length a0 : Int))))] ⟨kr, kr, trivial⟩ rfl ?_)
    refine ls_seq_k fun K3 hK3 => ?_
    refine ls_rs tbOk ?_
    refine evs (ev_ac rfl nofun rfl (evn ?_))
    refine ls_keep [(0, .dat a0.length (a0.flatMap c206_dd)), (1, .int .i64 (IntKind.i64.wrap (a1 - (List.length a0 : Int)))), (5, .int .i64 0)] ⟨kr, kr, kr, trivial⟩ rfl ?_
    obtain ⟨o1, hl, hr1⟩ := ob_some h
    clear h
    have kXlaws_szTableS_B1 : ∀ (z4 : Int), (some z4) = some r → ∀ σ' : PS, okK σ' [(1, .int .i64 z4)] → K3 σ' := by
      intro z4 h σ' hk
      refine hK3 _ (ls_keep [(1, .int .i64 z4)] hk rfl ?_)
      refine ls_rs tbOk ?_
      refine evs (ev_mv (c := .int .i64 z4) rfl rfl rfl (evs (ev_as (c := .int .i64 z4) rfl rfl rfl (evn ?_))))
      refine ls_keep [(4, .int .i64 z4)] ⟨kr, trivial⟩ rfl ?_
      refine ls_ret ?_
      have hr := Option.some.inj h
      rw [← hr]
      exact ⟨.inl rfl, rfl⟩
    refine ls_rec (fun (s : Int × Int) => match s with | (y1, y2) => [(0, .dat a0.length (a0.flatMap c206_dd)), (1, .int .i64 y1), (5, .int .i64 y2)]) (laws_szTableS_B1 a0) fz ((IntKind.i64.wrap (a1 - (List.length a0 : Int))), 0) o1 hl ⟨kr, kr, kr, trivial⟩ (fun _ => rfl) ?_
    rintro m ⟨y1, y2⟩ N h hN
    unfold laws_szTableS_B1 at h
    dsimp only at h
    refine ls_seq_k fun K5 hK5 => ?_
    refine ls_rs tbOk ?_
    refine evs (ev_mv (c := .int .i64 y2) rfl rfl rfl (evs (ev_mv (c := .dat a0.length (a0.flatMap c206_dd)) rfl rfl rfl (evs (ev_len (c1 := .dat a0.length (a0.flatMap c206_dd)) rfl rfl rfl (evs (ev_bin (c1 := .int .i64 y2) (c2 := .int .i64 (List.length a0 : Int)) rfl rfl rfl (evn ?_))))))))
    refine ls_keep [(0, .dat a0.length (a0.flatMap c206_dd)), (1, .int .i64 y1), (5, .int .i64 y2), (15, .bool (decide (y2 < (List.length a0 : Int))))] ⟨kr, kr, kr, kr, trivial⟩ rfl ?_
    rcases cond_some h with ⟨g6, h⟩ | ⟨g6, h⟩
    · refine ls_cT rfl g6 ?_
      refine ls_skip ?_
      refine hK5 _ (ls_keep [(0, .dat a0.length (a0.flatMap c206_dd)), (1, .int .i64 y1), (5, .int .i64 y2)] ⟨kr, kr, kr, trivial⟩ rfl ?_)
      refine ls_seq_k fun K7 hK7 => ?_
      refine ls_blk ?_
      refine ls_rs tbOk ?_
      refine evs (ev_mv (c := .dat a0.length (a0.flatMap c206_dd)) rfl rfl rfl (evs (ev_mv (c := .int .i64 y2) rfl rfl rfl (?_))))
      obtain ⟨e8, g9, h⟩ := ob_some h
      refine evs (ev_ia rfl rfl rfl ⟨(geti_some g9).1, (geti_some g9).2.1⟩ (evs (ev_ldE (i := y2) (n := 3) (off := 0) (v := .agg [.str e8.1, .int .i64 e8.2.1, .dat e8.2.2.length (e8.2.2.flatMap c25_d)]) rfl rfl zc206_dd g9 rfl (Nat.le_of_ble_eq_true rfl) rfl (evs (ev_mv (c := .int .i64 y1) rfl rfl rfl (?_))))))
      obtain ⟨v10, g11, h⟩ := ob_some h
      refine evs (ev_call (era rfl (erg (erc rfl (erc rfl (erc (erD ec25_d _) rfl)))) (era rfl rfl eran)) (laws_szTable_s g11) (evs (ev_as (c := .int .i64 v10) rfl rfl rfl (evn ?_))))
      refine ls_keep [(0, .dat a0.length (a0.flatMap c206_dd)), (1, .int .i64 v10), (5, .int .i64 y2)] ⟨kr, kr, kr, trivial⟩ rfl ?_
      refine ls_rs tbOk ?_
      refine evs (ev_mv (c := .int .i64 v10) rfl rfl rfl (evs (ev_bin (c1 := .int .i64 v10) (c2 := .int .i64 0) rfl rfl rfl (evn ?_))))
      refine ls_keep [(0, .dat a0.length (a0.flatMap c206_dd)), (1, .int .i64 v10), (5, .int .i64 y2), (25, .bool (decide (v10 < 0)))] ⟨kr, kr, kr, kr, trivial⟩ rfl ?_
      rcases cond_some h with ⟨g12, h⟩ | ⟨g12, h⟩
      · refine ls_cT rfl g12 ?_
        refine ls_rs tbOk ?_
        refine evs (ev_ac rfl nofun rfl (evn ?_))
        refine ls_keep [(4, .int .i64 (-1))] ⟨kr, trivial⟩ rfl ?_
        refine ls_ret ?_
        have q0 := (Option.some.inj h).symm
        have r0 := hr1
        rw [q0] at r0
        have hr := Option.some.inj r0
        rw [← hr]
        exact ⟨.inl rfl, rfl⟩
      · refine ls_cF rfl g12 ?_
        refine ls_skip ?_
        refine hK7 _ (ls_keep [(0, .dat a0.length (a0.flatMap c206_dd)), (1, .int .i64 v10), (5, .int .i64 y2)] ⟨kr, kr, kr, trivial⟩ rfl ?_)
        refine ls_rgn tbOk ?_
        refine evs (ev_mv (c := .int .i64 y2) rfl rfl rfl (evs (ev_bin (c1 := .int .i64 y2) (c2 := .int .i64 1) rfl rfl rfl (evs (ev_as (c := .int .i64 (IntKind.i64.wrap (y2 + 1))) rfl rfl rfl (evn ?_))))))
        exact hN _ (v10, (IntKind.i64.wrap (y2 + 1))) h ⟨kr, kr, kr, trivial⟩
    · refine ls_cF rfl g6 ?_
      refine ls_exit ?_
      have q0 := (Option.some.inj h).symm
      have r0 := hr1
      rw [q0] at r0
      exact kXlaws_szTableS_B1 y1 r0 _ ⟨kr, trivial⟩
def laws_szDatabase (a0 : (List ((List UInt8) × (Int × (List (List Int)))))) (a1 : Int) : Option (Int) := obind (laws_szTableS a0 a1) fun v1 => cond (decide (v1 < 0)) (some (-1)) (some v1)
theorem laws_szDatabase_s {a0 : (List ((List UInt8) × (Int × (List (List Int)))))} {a1 : Int} {r : Int} (h : laws_szDatabase a0 a1 = some r) : SoundAt Try.prog 13 [.agg [.dat a0.length (a0.flatMap c206_dd)], .int .i64 a1] (.int .i64 r) := by
  unfold laws_szDatabase at h
  refine sound_lit tbOk lit13 (Nat.le_of_ble_eq_true rfl) rfl ?_
  unfold c13
  refine ls_keep [(0, .agg [.dat a0.length (a0.flatMap c206_dd)]), (1, .int .i64 a1)] ⟨kr, kr, trivial⟩ rfl ?_
  refine ls_rs tbOk ?_
  refine evs (ev_bx (c1 := .agg [.dat a0.length (a0.flatMap c206_dd)]) rfl rfl rfl (evs (ev_ac rfl nofun rfl (evn ?_))))
  refine ls_keep [(1, .int .i64 a1), (2, .box [.dat a0.length (a0.flatMap c206_dd)])] ⟨kr, kr, trivial⟩ rfl ?_
  refine ls_rs tbOk ?_
  refine evs (ev_fa (c1 := .cref 2 0) (v := .cref 2 0) rfl rfl rfl ⟨_, rfl⟩ rfl (evs (ev_ldB (off := 0) (v := .dat a0.length (a0.flatMap c206_dd)) rfl rfl rfl rfl (Nat.le_of_ble_eq_true rfl) rfl (evs (ev_mv (c := .int .i64 a1) rfl rfl rfl (?_))))))
  obtain ⟨v1, g2, h⟩ := ob_some h
  refine evs (ev_call (era rfl (erD ec206_dd _) (era rfl rfl eran)) (laws_szTableS_s g2) (evs (ev_as (c := .int .i64 v1) rfl rfl rfl (evn ?_))))
  refine ls_keep [(1, .int .i64 v1)] ⟨kr, trivial⟩ rfl ?_
  refine ls_seq_k fun K3 hK3 => ?_
  refine ls_rs tbOk ?_
  refine evs (ev_mv (c := .int .i64 v1) rfl rfl rfl (evs (ev_bin (c1 := .int .i64 v1) (c2 := .int .i64 0) rfl rfl rfl (evn ?_))))
  refine ls_keep [(1, .int .i64 v1), (10, .bool (decide (v1 < 0)))] ⟨kr, kr, trivial⟩ rfl ?_
  rcases cond_some h with ⟨g4, h⟩ | ⟨g4, h⟩
  · refine ls_cT rfl g4 ?_
    refine ls_rs tbOk ?_
    refine evs (ev_ac rfl nofun rfl (evn ?_))
    refine ls_keep [(4, .int .i64 (-1))] ⟨kr, trivial⟩ rfl ?_
    refine ls_ret ?_
    have hr := Option.some.inj h
    rw [← hr]
    exact ⟨.inl rfl, rfl⟩
  · refine ls_cF rfl g4 ?_
    refine ls_skip ?_
    refine hK3 _ (ls_keep [(1, .int .i64 v1)] ⟨kr, trivial⟩ rfl ?_)
    refine ls_rs tbOk ?_
    refine evs (ev_mv (c := .int .i64 v1) rfl rfl rfl (evs (ev_as (c := .int .i64 v1) rfl rfl rfl (evn ?_))))
    refine ls_keep [(4, .int .i64 v1)] ⟨kr, trivial⟩ rfl ?_
    refine ls_ret ?_
    have hr := Option.some.inj h
    rw [← hr]
    exact ⟨.inl rfl, rfl⟩
def laws_toIntS_B1 (a0 : List Int) (rec : ((List Int) × Int) → Option ((List Int))) (s : (List Int) × Int) : Option ((List Int)) := match s with
  | (y1, y2) => cond (decide (y2 < (List.length a0 : Int))) (obind (geti a0 y2) fun e7 => obind (geti y1 y2) fun e9 => rec ((seti y1 y2 e7), (IntKind.i64.wrap (y2 + 1)))) (some y1)
def laws_toIntS (a0 : List Int) : Option ((List Int)) := chk ((0 : Int) ≤ (List.length a0 : Int) ∧ Int.toNat (List.length a0 : Int) ≤ lim) (obind (loopF (laws_toIntS_B1 a0) fz ((List.replicate (Int.toNat (List.length a0 : Int)) (0 : Int)), 0)) fun z3 => some z3)
theorem laws_toIntS_s {a0 : List Int} {r : (List Int)} (h : laws_toIntS a0 = some r) : SoundAt Try.prog 58 [.dat a0.length (a0.flatMap ci64)] (.own 3 r.length (r.flatMap ci64)) := by
  unfold laws_toIntS at h
  refine sound_lit tbOk lit58 (Nat.le_of_ble_eq_true rfl) rfl ?_
  unfold c58
  refine ls_keep [(0, .dat a0.length (a0.flatMap ci64))] ⟨kr, trivial⟩ rfl ?_
  refine ls_rs tbOk ?_
  refine evs (ev_an rfl rfl (evn ?_))
  refine ls_keep [(0, .dat a0.length (a0.flatMap ci64))] ⟨kr, trivial⟩ rfl ?_
  refine ls_rs tbOk ?_
  refine evs (ev_mv (c := .dat a0.length (a0.flatMap ci64)) rfl rfl rfl (evs (ev_len (c1 := .dat a0.length (a0.flatMap ci64)) rfl rfl rfl (?_))))
  obtain ⟨g1, h⟩ := chk_some h
  refine evs (ev_mku (f := ci64) (z := (0 : Int)) rfl rfl rfl rfl rfl rfl g1 rfl (evs (ev_asu rfl rfl rfl (evn ?_))))
  refine ls_keep [(0, .dat a0.length (a0.flatMap ci64)), (3, .uni 3 (List.replicate (Int.toNat (List.length a0 : Int)) (0 : Int)).length ((List.replicate (Int.toNat (List.length a0 : Int)) (0 : Int)).flatMap ci64))] ⟨kr, kr, trivial⟩ rfl ?_
  refine ls_seq_k fun K2 hK2 => ?_
  refine ls_rs tbOk ?_
  refine evs (ev_ac rfl nofun rfl (evn ?_))
  refine ls_keep [(0, .dat a0.length (a0.flatMap ci64)), (3, .uni 3 (List.replicate (Int.toNat (List.length a0 : Int)) (0 : Int)).length ((List.replicate (Int.toNat (List.length a0 : Int)) (0 : Int)).flatMap ci64)), (4, .int .i64 0)] ⟨kr, kr, kr, trivial⟩ rfl ?_
  obtain ⟨o1, hl, hr1⟩ := ob_some h
  clear h
  have kXlaws_toIntS_B1 : ∀ (z3 : List Int), (some z3) = some r → ∀ σ' : PS, okK σ' [(3, .uni 3 z3.length (z3.flatMap ci64))] → K2 σ' := by
    intro z3 h σ' hk
    refine hK2 _ (ls_keep [(3, .uni 3 z3.length (z3.flatMap ci64))] hk rfl ?_)
    refine ls_rs tbOk ?_
    refine evs (ev_mvtu rfl rfl (evs (ev_as (c := .own 3 z3.length (z3.flatMap ci64)) rfl rfl rfl (evn ?_))))
    refine ls_keep [(2, .own 3 z3.length (z3.flatMap ci64))] ⟨kr, trivial⟩ rfl ?_
    refine ls_ret ?_
    have hr := Option.some.inj h
    rw [← hr]
    exact ⟨.inl rfl, rfl⟩
  refine ls_rec (fun (s : (List Int) × Int) => match s with | (y1, y2) => [(0, .dat a0.length (a0.flatMap ci64)), (3, .uni 3 y1.length (y1.flatMap ci64)), (4, .int .i64 y2)]) (laws_toIntS_B1 a0) fz ((List.replicate (Int.toNat (List.length a0 : Int)) (0 : Int)), 0) o1 hl ⟨kr, kr, kr, trivial⟩ (fun _ => rfl) ?_
  rintro m ⟨y1, y2⟩ N h hN
  unfold laws_toIntS_B1 at h
  dsimp only at h
  refine ls_seq_k fun K4 hK4 => ?_
  refine ls_rs tbOk ?_
  refine evs (ev_mv (c := .int .i64 y2) rfl rfl rfl (evs (ev_mv (c := .dat a0.length (a0.flatMap ci64)) rfl rfl rfl (evs (ev_len (c1 := .dat a0.length (a0.flatMap ci64)) rfl rfl rfl (evs (ev_bin (c1 := .int .i64 y2) (c2 := .int .i64 (List.length a0 : Int)) rfl rfl rfl (evn ?_))))))))
  refine ls_keep [(0, .dat a0.length (a0.flatMap ci64)), (3, .uni 3 y1.length (y1.flatMap ci64)), (4, .int .i64 y2), (11, .bool (decide (y2 < (List.length a0 : Int))))] ⟨kr, kr, kr, kr, trivial⟩ rfl ?_
  rcases cond_some h with ⟨g5, h⟩ | ⟨g5, h⟩
  · refine ls_cT rfl g5 ?_
    refine ls_skip ?_
    refine hK4 _ (ls_keep [(0, .dat a0.length (a0.flatMap ci64)), (3, .uni 3 y1.length (y1.flatMap ci64)), (4, .int .i64 y2)] ⟨kr, kr, kr, trivial⟩ rfl ?_)
    refine ls_seq_k fun K6 hK6 => ?_
    refine ls_blk ?_
    refine ls_rgn tbOk ?_
    refine evs (ev_mvu rfl rfl (evs (ev_mv (c := .int .i64 y2) rfl rfl rfl (evs (ev_mv (c := .dat a0.length (a0.flatMap ci64)) rfl rfl rfl (evs (ev_mv (c := .int .i64 y2) rfl rfl rfl (?_))))))))
    obtain ⟨e7, g8, h⟩ := ob_some h
    refine evs (ev_ia rfl rfl rfl ⟨(geti_some g8).1, (geti_some g8).2.1⟩ (evs (ev_ldE (i := y2) (n := 1) (off := 0) (v := .int .i64 e7) rfl rfl zci64 g8 rfl (Nat.le_of_ble_eq_true rfl) rfl (?_))))
    obtain ⟨e9, g10, h⟩ := ob_some h
    refine evs (ev_iau rfl rfl rfl rfl ⟨(geti_some g10).1, (geti_some g10).2.1⟩ (evs (ev_stu (e := e7) (c1 := .int .i64 e7) rfl rfl zci64 ⟨(geti_some g10).1, (geti_some g10).2.1⟩ rfl rfl rfl rfl rfl (evn ?_))))
    refine hK6 _ (ls_keep [(0, .dat a0.length (a0.flatMap ci64)), (3, .uni 3 (seti y1 y2 e7).length ((seti y1 y2 e7).flatMap ci64)), (4, .int .i64 y2)] ⟨kr, kr, kr, trivial⟩ rfl ?_)
    refine ls_rgn tbOk ?_
    refine evs (ev_mv (c := .int .i64 y2) rfl rfl rfl (evs (ev_bin (c1 := .int .i64 y2) (c2 := .int .i64 1) rfl rfl rfl (evs (ev_as (c := .int .i64 (IntKind.i64.wrap (y2 + 1))) rfl rfl rfl (evn ?_))))))
    exact hN _ ((seti y1 y2 e7), (IntKind.i64.wrap (y2 + 1))) h ⟨kr, kr, kr, trivial⟩
  · refine ls_cF rfl g5 ?_
    refine ls_exit ?_
    have q0 := (Option.some.inj h).symm
    have r0 := hr1
    rw [q0] at r0
    exact kXlaws_toIntS_B1 y1 r0 _ ⟨kr, trivial⟩
def laws_toIntSS_B1 (a0 : List (List Int)) (rec : ((List (List Int)) × Int) → Option ((List (List Int)))) (s : (List (List Int)) × Int) : Option ((List (List Int))) := match s with
  | (y1, y2) => cond (decide (y2 < (List.length a0 : Int))) (obind (geti a0 y2) fun e7 => obind (laws_toIntS e7) fun v9 => obind (geti y1 y2) fun e11 => rec ((seti y1 y2 v9), (IntKind.i64.wrap (y2 + 1)))) (some y1)
def laws_toIntSS (a0 : List (List Int)) : Option ((List (List Int))) := chk ((0 : Int) ≤ (List.length a0 : Int) ∧ Int.toNat (List.length a0 : Int) ≤ lim) (obind (loopF (laws_toIntSS_B1 a0) fz ((List.replicate (Int.toNat (List.length a0 : Int)) ([] : List Int)), 0)) fun z3 => some z3)
theorem laws_toIntSS_s {a0 : List (List Int)} {r : (List (List Int))} (h : laws_toIntSS a0 = some r) : SoundAt Try.prog 208 [.dat a0.length (a0.flatMap c25_d)] (.own 25 r.length (r.flatMap c25_o)) := by
  unfold laws_toIntSS at h
  refine sound_lit tbOk lit208 (Nat.le_of_ble_eq_true rfl) rfl ?_
  unfold c208
  refine ls_keep [(0, .dat a0.length (a0.flatMap c25_d))] ⟨kr, trivial⟩ rfl ?_
  refine ls_rs tbOk ?_
  refine evs (ev_an rfl rfl (evn ?_))
  refine ls_keep [(0, .dat a0.length (a0.flatMap c25_d))] ⟨kr, trivial⟩ rfl ?_
  refine ls_rs tbOk ?_
  refine evs (ev_mv (c := .dat a0.length (a0.flatMap c25_d)) rfl rfl rfl (evs (ev_len (c1 := .dat a0.length (a0.flatMap c25_d)) rfl rfl rfl (?_))))
  obtain ⟨g1, h⟩ := chk_some h
  refine evs (ev_mku (f := c25_o) (z := ([] : List Int)) rfl rfl rfl rfl rfl rfl g1 rfl (evs (ev_asu rfl rfl rfl (evn ?_))))
  refine ls_keep [(0, .dat a0.length (a0.flatMap c25_d)), (3, .uni 25 (List.replicate (Int.toNat (List.length a0 : Int)) ([] : List Int)).length ((List.replicate (Int.toNat (List.length a0 : Int)) ([] : List Int)).flatMap c25_o))] ⟨kr, kr, trivial⟩ rfl ?_
  refine ls_seq_k fun K2 hK2 => ?_
  refine ls_rs tbOk ?_
  refine evs (ev_ac rfl nofun rfl (evn ?_))
  refine ls_keep [(0, .dat a0.length (a0.flatMap c25_d)), (3, .uni 25 (List.replicate (Int.toNat (List.length a0 : Int)) ([] : List Int)).length ((List.replicate (Int.toNat (List.length a0 : Int)) ([] : List Int)).flatMap c25_o)), (4, .int .i64 0)] ⟨kr, kr, kr, trivial⟩ rfl ?_
  obtain ⟨o1, hl, hr1⟩ := ob_some h
  clear h
  have kXlaws_toIntSS_B1 : ∀ (z3 : List (List Int)), (some z3) = some r → ∀ σ' : PS, okK σ' [(3, .uni 25 z3.length (z3.flatMap c25_o))] → K2 σ' := by
    intro z3 h σ' hk
    refine hK2 _ (ls_keep [(3, .uni 25 z3.length (z3.flatMap c25_o))] hk rfl ?_)
    refine ls_rs tbOk ?_
    refine evs (ev_mvtu rfl rfl (evs (ev_as (c := .own 25 z3.length (z3.flatMap c25_o)) rfl rfl rfl (evn ?_))))
    refine ls_keep [(2, .own 25 z3.length (z3.flatMap c25_o))] ⟨kr, trivial⟩ rfl ?_
    refine ls_ret ?_
    have hr := Option.some.inj h
    rw [← hr]
    exact ⟨.inl rfl, rfl⟩
  refine ls_rec (fun (s : (List (List Int)) × Int) => match s with | (y1, y2) => [(0, .dat a0.length (a0.flatMap c25_d)), (3, .uni 25 y1.length (y1.flatMap c25_o)), (4, .int .i64 y2)]) (laws_toIntSS_B1 a0) fz ((List.replicate (Int.toNat (List.length a0 : Int)) ([] : List Int)), 0) o1 hl ⟨kr, kr, kr, trivial⟩ (fun _ => rfl) ?_
  rintro m ⟨y1, y2⟩ N h hN
  unfold laws_toIntSS_B1 at h
  dsimp only at h
  refine ls_seq_k fun K4 hK4 => ?_
  refine ls_rs tbOk ?_
  refine evs (ev_mv (c := .int .i64 y2) rfl rfl rfl (evs (ev_mv (c := .dat a0.length (a0.flatMap c25_d)) rfl rfl rfl (evs (ev_len (c1 := .dat a0.length (a0.flatMap c25_d)) rfl rfl rfl (evs (ev_bin (c1 := .int .i64 y2) (c2 := .int .i64 (List.length a0 : Int)) rfl rfl rfl (evn ?_))))))))
  refine ls_keep [(0, .dat a0.length (a0.flatMap c25_d)), (3, .uni 25 y1.length (y1.flatMap c25_o)), (4, .int .i64 y2), (11, .bool (decide (y2 < (List.length a0 : Int))))] ⟨kr, kr, kr, kr, trivial⟩ rfl ?_
  rcases cond_some h with ⟨g5, h⟩ | ⟨g5, h⟩
  · refine ls_cT rfl g5 ?_
    refine ls_skip ?_
    refine hK4 _ (ls_keep [(0, .dat a0.length (a0.flatMap c25_d)), (3, .uni 25 y1.length (y1.flatMap c25_o)), (4, .int .i64 y2)] ⟨kr, kr, kr, trivial⟩ rfl ?_)
    refine ls_seq_k fun K6 hK6 => ?_
    refine ls_blk ?_
    refine ls_rgn tbOk ?_
    refine evs (ev_mvu rfl rfl (evs (ev_mv (c := .int .i64 y2) rfl rfl rfl (evs (ev_mv (c := .dat a0.length (a0.flatMap c25_d)) rfl rfl rfl (evs (ev_mv (c := .int .i64 y2) rfl rfl rfl (?_))))))))
    obtain ⟨e7, g8, h⟩ := ob_some h
    refine evs (ev_ia rfl rfl rfl ⟨(geti_some g8).1, (geti_some g8).2.1⟩ (evs (ev_ldE (i := y2) (n := 1) (off := 0) (v := .dat e7.length (e7.flatMap ci64)) rfl rfl zc25_d g8 rfl (Nat.le_of_ble_eq_true rfl) rfl (?_))))
    obtain ⟨v9, g10, h⟩ := ob_some h
    refine evs (ev_call (era rfl (erD eci64 _) eran) (laws_toIntS_s g10) (?_))
    obtain ⟨e11, g12, h⟩ := ob_some h
    refine evs (ev_iau rfl rfl rfl rfl ⟨(geti_some g12).1, (geti_some g12).2.1⟩ (evs (ev_stu (e := v9) (c1 := .own 3 v9.length (v9.flatMap ci64)) rfl rfl zc25_o ⟨(geti_some g12).1, (geti_some g12).2.1⟩ rfl rfl rfl rfl rfl (evn ?_))))
    refine hK6 _ (ls_keep [(0, .dat a0.length (a0.flatMap c25_d)), (3, .uni 25 (seti y1 y2 v9).length ((seti y1 y2 v9).flatMap c25_o)), (4, .int .i64 y2)] ⟨kr, kr, kr, trivial⟩ rfl ?_)
    refine ls_rgn tbOk ?_
    refine evs (ev_mv (c := .int .i64 y2) rfl rfl rfl (evs (ev_bin (c1 := .int .i64 y2) (c2 := .int .i64 1) rfl rfl rfl (evs (ev_as (c := .int .i64 (IntKind.i64.wrap (y2 + 1))) rfl rfl rfl (evn ?_))))))
    exact hN _ ((seti y1 y2 v9), (IntKind.i64.wrap (y2 + 1))) h ⟨kr, kr, kr, trivial⟩
  · refine ls_cF rfl g5 ?_
    refine ls_exit ?_
    have q0 := (Option.some.inj h).symm
    have r0 := hr1
    rw [q0] at r0
    exact kXlaws_toIntSS_B1 y1 r0 _ ⟨kr, trivial⟩
def laws_toRelation (a0 : Int × (List (List Int))) : Option ((Int × (List (List Int)))) := obind (laws_toIntSS a0.2) fun v1 => some (a0.1, v1)
theorem laws_toRelation_s {a0 : Int × (List (List Int))} {r : (Int × (List (List Int)))} (h : laws_toRelation a0 = some r) : SoundAt Try.prog 236 [.agg [.int .i64 a0.1, .dat a0.2.length (a0.2.flatMap c25_d)]] (.agg [.int .i64 r.1, .own 25 r.2.length (r.2.flatMap c25_o)]) := by
  unfold laws_toRelation at h
  refine sound_lit tbOk lit236 (Nat.le_of_ble_eq_true rfl) rfl ?_
  unfold c236
  refine ls_keep [(0, .agg [.int .i64 a0.1, .dat a0.2.length (a0.2.flatMap c25_d)])] ⟨kr, trivial⟩ rfl ?_
  refine ls_rs tbOk ?_
  refine evs (ev_bx (c1 := .agg [.int .i64 a0.1, .dat a0.2.length (a0.2.flatMap c25_d)]) rfl rfl rfl (evs (ev_al rfl rfl (evn ?_))))
  refine ls_keep [(1, .box [.int .i64 a0.1, .dat a0.2.length (a0.2.flatMap c25_d)]), (2, .box [.int .i64 0, .own 25 ([] : List (List Int)).length (([] : List (List Int)).flatMap c25_o)])] ⟨kr, kr, trivial⟩ rfl ?_
  refine ls_rs tbOk ?_
  refine evs (ev_al rfl rfl (evn ?_))
  refine ls_keep [(1, .box [.int .i64 a0.1, .dat a0.2.length (a0.2.flatMap c25_d)]), (2, .box [.int .i64 0, .own 25 ([] : List (List Int)).length (([] : List (List Int)).flatMap c25_o)]), (3, .box [.int .i64 0, .own 25 ([] : List (List Int)).length (([] : List (List Int)).flatMap c25_o)])] ⟨kr, kr, kr, trivial⟩ rfl ?_
  refine ls_rs tbOk ?_
  refine evs (ev_fa (c1 := .cref 1 0) (v := .cref 1 0) rfl rfl rfl ⟨_, rfl⟩ rfl (evs (ev_ldB (off := 0) (v := .int .i64 a0.1) rfl rfl rfl rfl (Nat.le_of_ble_eq_true rfl) rfl (evs (ev_fa (c1 := .cref 3 0) (v := .cref 3 0) rfl rfl rfl ⟨_, rfl⟩ rfl (evs (ev_st (off := 0) (c1 := .int .i64 a0.1) (cs' := [.int .i64 a0.1, .own 25 ([] : List (List Int)).length (([] : List (List Int)).flatMap c25_o)]) rfl rfl rfl rfl rfl rfl (Nat.le_of_ble_eq_true rfl) rfl (evn ?_))))))))
  refine ls_keep [(1, .box [.int .i64 a0.1, .dat a0.2.length (a0.2.flatMap c25_d)]), (2, .box [.int .i64 0, .own 25 ([] : List (List Int)).length (([] : List (List Int)).flatMap c25_o)]), (3, .box [.int .i64 a0.1, .own 25 ([] : List (List Int)).length (([] : List (List Int)).flatMap c25_o)])] ⟨kr, kr, kr, trivial⟩ rfl ?_
  refine ls_rs tbOk ?_
  refine evs (ev_fa (c1 := .cref 1 0) (v := .cref 1 1) rfl rfl rfl ⟨_, rfl⟩ rfl (evs (ev_ldB (off := 1) (v := .dat a0.2.length (a0.2.flatMap c25_d)) rfl rfl rfl rfl (Nat.le_of_ble_eq_true rfl) rfl (?_))))
  obtain ⟨v1, g2, h⟩ := ob_some h
  refine evs (ev_call (era rfl (erD ec25_d _) eran) (laws_toIntSS_s g2) (evs (ev_fa (c1 := .cref 3 0) (v := .cref 3 1) rfl rfl rfl ⟨_, rfl⟩ rfl (evs (ev_st (off := 1) (c1 := .own 25 v1.length (v1.flatMap c25_o)) (cs' := [.int .i64 a0.1, .own 25 v1.length (v1.flatMap c25_o)]) rfl rfl rfl rfl rfl rfl (Nat.le_of_ble_eq_true rfl) rfl (evn ?_))))))
  refine ls_keep [(2, .box [.int .i64 0, .own 25 ([] : List (List Int)).length (([] : List (List Int)).flatMap c25_o)]), (3, .box [.int .i64 a0.1, .own 25 v1.length (v1.flatMap c25_o)])] ⟨kr, kr, trivial⟩ rfl ?_
  refine ls_rs tbOk ?_
  refine evs (ev_ldBt (off := 0) (v := .agg [.int .i64 a0.1, .own 25 v1.length (v1.flatMap c25_o)]) (c' := .box [.int .i64 a0.1, .dat v1.length (v1.flatMap c25_o)]) rfl rfl rfl rfl (Nat.le_of_ble_eq_true rfl) rfl rfl (evs (ev_st (off := 0) (c1 := .agg [.int .i64 a0.1, .own 25 v1.length (v1.flatMap c25_o)]) (cs' := [.int .i64 a0.1, .own 25 v1.length (v1.flatMap c25_o)]) rfl rfl rfl rfl rfl rfl (Nat.le_of_ble_eq_true rfl) rfl (evn ?_))))
  refine ls_keep [(2, .box [.int .i64 a0.1, .own 25 v1.length (v1.flatMap c25_o)])] ⟨kr, trivial⟩ rfl ?_
  refine ls_ret ?_
  have hr := Option.some.inj h
  rw [← hr]
  exact ⟨.inl rfl, rfl⟩
def laws_toTable (a0 : (List UInt8) × (Int × (List (List Int)))) : Option (((List UInt8) × (Int × (List (List Int))))) := obind (laws_toRelation a0.2) fun v1 => some (a0.1, v1)
theorem laws_toTable_s {a0 : (List UInt8) × (Int × (List (List Int)))} {r : ((List UInt8) × (Int × (List (List Int))))} (h : laws_toTable a0 = some r) : SoundAt Try.prog 173 [.agg [.str a0.1, .int .i64 a0.2.1, .dat a0.2.2.length (a0.2.2.flatMap c25_d)]] (.agg [.str r.1, .int .i64 r.2.1, .own 25 r.2.2.length (r.2.2.flatMap c25_o)]) := by
  unfold laws_toTable at h
  refine sound_lit tbOk lit173 (Nat.le_of_ble_eq_true rfl) rfl ?_
  unfold c173
  refine ls_keep [(0, .agg [.str a0.1, .int .i64 a0.2.1, .dat a0.2.2.length (a0.2.2.flatMap c25_d)])] ⟨kr, trivial⟩ rfl ?_
  refine ls_rs tbOk ?_
  refine evs (ev_bx (c1 := .agg [.str a0.1, .int .i64 a0.2.1, .dat a0.2.2.length (a0.2.2.flatMap c25_d)]) rfl rfl rfl (evs (ev_al rfl rfl (evn ?_))))
  refine ls_keep [(1, .box [.str a0.1, .int .i64 a0.2.1, .dat a0.2.2.length (a0.2.2.flatMap c25_d)]), (2, .box [.str [], .int .i64 0, .own 25 ([] : List (List Int)).length (([] : List (List Int)).flatMap c25_o)])] ⟨kr, kr, trivial⟩ rfl ?_
  refine ls_rs tbOk ?_
  refine evs (ev_al rfl rfl (evn ?_))
  refine ls_keep [(1, .box [.str a0.1, .int .i64 a0.2.1, .dat a0.2.2.length (a0.2.2.flatMap c25_d)]), (2, .box [.str [], .int .i64 0, .own 25 ([] : List (List Int)).length (([] : List (List Int)).flatMap c25_o)]), (3, .box [.str [], .int .i64 0, .own 25 ([] : List (List Int)).length (([] : List (List Int)).flatMap c25_o)])] ⟨kr, kr, kr, trivial⟩ rfl ?_
  refine ls_rs tbOk ?_
  refine evs (ev_fa (c1 := .cref 1 0) (v := .cref 1 0) rfl rfl rfl ⟨_, rfl⟩ rfl (evs (ev_ldB (off := 0) (v := .str a0.1) rfl rfl rfl rfl (Nat.le_of_ble_eq_true rfl) rfl (evs (ev_fa (c1 := .cref 3 0) (v := .cref 3 0) rfl rfl rfl ⟨_, rfl⟩ rfl (evs (ev_st (off := 0) (c1 := .str a0.1) (cs' := [.str a0.1, .int .i64 0, .own 25 ([] : List (List Int)).length (([] : List (List Int)).flatMap c25_o)]) rfl rfl rfl rfl rfl rfl (Nat.le_of_ble_eq_true rfl) rfl (evn ?_))))))))
  refine ls_keep [(1, .box [.str a0.1, .int .i64 a0.2.1, .dat a0.2.2.length (a0.2.2.flatMap c25_d)]), (2, .box [.str [], .int .i64 0, .own 25 ([] : List (List Int)).length (([] : List (List Int)).flatMap c25_o)]), (3, .box [.str a0.1, .int .i64 0, .own 25 ([] : List (List Int)).length (([] : List (List Int)).flatMap c25_o)])] ⟨kr, kr, kr, trivial⟩ rfl ?_
  refine ls_rs tbOk ?_
  refine evs (ev_fa (c1 := .cref 1 0) (v := .cref 1 1) rfl rfl rfl ⟨_, rfl⟩ rfl (evs (ev_ldB (off := 1) (v := .agg [.int .i64 a0.2.1, .dat a0.2.2.length (a0.2.2.flatMap c25_d)]) rfl rfl rfl rfl (Nat.le_of_ble_eq_true rfl) rfl (?_))))
  obtain ⟨v1, g2, h⟩ := ob_some h
  refine evs (ev_call (era rfl (erg (erc rfl (erc (erD ec25_d _) rfl))) eran) (laws_toRelation_s g2) (evs (ev_fa (c1 := .cref 3 0) (v := .cref 3 1) rfl rfl rfl ⟨_, rfl⟩ rfl (evs (ev_st (off := 1) (c1 := .agg [.int .i64 v1.1, .own 25 v1.2.length (v1.2.flatMap c25_o)]) (cs' := [.str a0.1, .int .i64 v1.1, .own 25 v1.2.length (v1.2.flatMap c25_o)]) rfl rfl rfl rfl rfl rfl (Nat.le_of_ble_eq_true rfl) rfl (evn ?_))))))
  refine ls_keep [(2, .box [.str [], .int .i64 0, .own 25 ([] : List (List Int)).length (([] : List (List Int)).flatMap c25_o)]), (3, .box [.str a0.1, .int .i64 v1.1, .own 25 v1.2.length (v1.2.flatMap c25_o)])] ⟨kr, kr, trivial⟩ rfl ?_
  refine ls_rs tbOk ?_
  refine evs (ev_ldBt (off := 0) (v := .agg [.str a0.1, .int .i64 v1.1, .own 25 v1.2.length (v1.2.flatMap c25_o)]) (c' := .box [.str a0.1, .int .i64 v1.1, .dat v1.2.length (v1.2.flatMap c25_o)]) rfl rfl rfl rfl (Nat.le_of_ble_eq_true rfl) rfl rfl (evs (ev_st (off := 0) (c1 := .agg [.str a0.1, .int .i64 v1.1, .own 25 v1.2.length (v1.2.flatMap c25_o)]) (cs' := [.str a0.1, .int .i64 v1.1, .own 25 v1.2.length (v1.2.flatMap c25_o)]) rfl rfl rfl rfl rfl rfl (Nat.le_of_ble_eq_true rfl) rfl (evn ?_))))
  refine ls_keep [(2, .box [.str a0.1, .int .i64 v1.1, .own 25 v1.2.length (v1.2.flatMap c25_o)])] ⟨kr, trivial⟩ rfl ?_
  refine ls_ret ?_
  have hr := Option.some.inj h
  rw [← hr]
  exact ⟨.inl rfl, rfl⟩
def laws_toTableS_B1 (a0 : List ((List UInt8) × (Int × (List (List Int))))) (rec : ((List ((List UInt8) × (Int × (List (List Int))))) × Int) → Option ((List ((List UInt8) × (Int × (List (List Int))))))) (s : (List ((List UInt8) × (Int × (List (List Int))))) × Int) : Option ((List ((List UInt8) × (Int × (List (List Int)))))) := match s with
  | (y1, y2) => cond (decide (y2 < (List.length a0 : Int))) (obind (geti a0 y2) fun e7 => obind (laws_toTable e7) fun v9 => obind (geti y1 y2) fun e11 => rec ((seti y1 y2 v9), (IntKind.i64.wrap (y2 + 1)))) (some y1)
def laws_toTableS (a0 : List ((List UInt8) × (Int × (List (List Int))))) : Option ((List ((List UInt8) × (Int × (List (List Int)))))) := chk ((0 : Int) ≤ (List.length a0 : Int) ∧ Int.toNat (List.length a0 : Int) ≤ lim) (obind (loopF (laws_toTableS_B1 a0) fz ((List.replicate (Int.toNat (List.length a0 : Int)) (([], (0, [])) : (List UInt8) × (Int × (List (List Int))))), 0)) fun z3 => some z3)
theorem laws_toTableS_s {a0 : List ((List UInt8) × (Int × (List (List Int))))} {r : (List ((List UInt8) × (Int × (List (List Int)))))} (h : laws_toTableS a0 = some r) : SoundAt Try.prog 77 [.dat a0.length (a0.flatMap c206_dd)] (.own 208 r.length (r.flatMap c208_oo)) := by
  unfold laws_toTableS at h
  refine sound_lit tbOk lit77 (Nat.le_of_ble_eq_true rfl) rfl ?_
  unfold c77
  refine ls_keep [(0, .dat a0.length (a0.flatMap c206_dd))] ⟨kr, trivial⟩ rfl ?_
  refine ls_rs tbOk ?_
  refine evs (ev_an rfl rfl (evn ?_))
  refine ls_keep [(0, .dat a0.length (a0.flatMap c206_dd))] ⟨kr, trivial⟩ rfl ?_
  refine ls_rs tbOk ?_
  refine evs (ev_mv (c := .dat a0.length (a0.flatMap c206_dd)) rfl rfl rfl (evs (ev_len (c1 := .dat a0.length (a0.flatMap c206_dd)) rfl rfl rfl (?_))))
  obtain ⟨g1, h⟩ := chk_some h
  refine evs (ev_mku (f := c208_oo) (z := (([], (0, [])) : (List UInt8) × (Int × (List (List Int))))) rfl rfl rfl rfl rfl rfl g1 rfl (evs (ev_asu rfl rfl rfl (evn ?_))))
  refine ls_keep [(0, .dat a0.length (a0.flatMap c206_dd)), (3, .uni 208 (List.replicate (Int.toNat (List.length a0 : Int)) (([], (0, [])) : (List UInt8) × (Int × (List (List Int))))).length ((List.replicate (Int.toNat (List.length a0 : Int)) (([], (0, [])) : (List UInt8) × (Int × (List (List Int))))).flatMap c208_oo))] ⟨kr, kr, trivial⟩ rfl ?_
  refine ls_seq_k fun K2 hK2 => ?_
  refine ls_rs tbOk ?_
  refine evs (ev_ac rfl nofun rfl (evn ?_))
  refine ls_keep [(0, .dat a0.length (a0.flatMap c206_dd)), (3, .uni 208 (List.replicate (Int.toNat (List.length a0 : Int)) (([], (0, [])) : (List UInt8) × (Int × (List (List Int))))).length ((List.replicate (Int.toNat (List.length a0 : Int)) (([], (0, [])) : (List UInt8) × (Int × (List (List Int))))).flatMap c208_oo)), (4, .int .i64 0)] ⟨kr, kr, kr, trivial⟩ rfl ?_
  obtain ⟨o1, hl, hr1⟩ := ob_some h
  clear h
  have kXlaws_toTableS_B1 : ∀ (z3 : List ((List UInt8) × (Int × (List (List Int))))), (some z3) = some r → ∀ σ' : PS, okK σ' [(3, .uni 208 z3.length (z3.flatMap c208_oo))] → K2 σ' := by
    intro z3 h σ' hk
    refine hK2 _ (ls_keep [(3, .uni 208 z3.length (z3.flatMap c208_oo))] hk rfl ?_)
    refine ls_rs tbOk ?_
    refine evs (ev_mvtu rfl rfl (evs (ev_as (c := .own 208 z3.length (z3.flatMap c208_oo)) rfl rfl rfl (evn ?_))))
    refine ls_keep [(2, .own 208 z3.length (z3.flatMap c208_oo))] ⟨kr, trivial⟩ rfl ?_
    refine ls_ret ?_
    have hr := Option.some.inj h
    rw [← hr]
    exact ⟨.inl rfl, rfl⟩
  refine ls_rec (fun (s : (List ((List UInt8) × (Int × (List (List Int))))) × Int) => match s with | (y1, y2) => [(0, .dat a0.length (a0.flatMap c206_dd)), (3, .uni 208 y1.length (y1.flatMap c208_oo)), (4, .int .i64 y2)]) (laws_toTableS_B1 a0) fz ((List.replicate (Int.toNat (List.length a0 : Int)) (([], (0, [])) : (List UInt8) × (Int × (List (List Int))))), 0) o1 hl ⟨kr, kr, kr, trivial⟩ (fun _ => rfl) ?_
  rintro m ⟨y1, y2⟩ N h hN
  unfold laws_toTableS_B1 at h
  dsimp only at h
  refine ls_seq_k fun K4 hK4 => ?_
  refine ls_rs tbOk ?_
  refine evs (ev_mv (c := .int .i64 y2) rfl rfl rfl (evs (ev_mv (c := .dat a0.length (a0.flatMap c206_dd)) rfl rfl rfl (evs (ev_len (c1 := .dat a0.length (a0.flatMap c206_dd)) rfl rfl rfl (evs (ev_bin (c1 := .int .i64 y2) (c2 := .int .i64 (List.length a0 : Int)) rfl rfl rfl (evn ?_))))))))
  refine ls_keep [(0, .dat a0.length (a0.flatMap c206_dd)), (3, .uni 208 y1.length (y1.flatMap c208_oo)), (4, .int .i64 y2), (11, .bool (decide (y2 < (List.length a0 : Int))))] ⟨kr, kr, kr, kr, trivial⟩ rfl ?_
  rcases cond_some h with ⟨g5, h⟩ | ⟨g5, h⟩
  · refine ls_cT rfl g5 ?_
    refine ls_skip ?_
    refine hK4 _ (ls_keep [(0, .dat a0.length (a0.flatMap c206_dd)), (3, .uni 208 y1.length (y1.flatMap c208_oo)), (4, .int .i64 y2)] ⟨kr, kr, kr, trivial⟩ rfl ?_)
    refine ls_seq_k fun K6 hK6 => ?_
    refine ls_blk ?_
    refine ls_rgn tbOk ?_
    refine evs (ev_mvu rfl rfl (evs (ev_mv (c := .int .i64 y2) rfl rfl rfl (evs (ev_mv (c := .dat a0.length (a0.flatMap c206_dd)) rfl rfl rfl (evs (ev_mv (c := .int .i64 y2) rfl rfl rfl (?_))))))))
    obtain ⟨e7, g8, h⟩ := ob_some h
    refine evs (ev_ia rfl rfl rfl ⟨(geti_some g8).1, (geti_some g8).2.1⟩ (evs (ev_ldE (i := y2) (n := 3) (off := 0) (v := .agg [.str e7.1, .int .i64 e7.2.1, .dat e7.2.2.length (e7.2.2.flatMap c25_d)]) rfl rfl zc206_dd g8 rfl (Nat.le_of_ble_eq_true rfl) rfl (?_))))
    obtain ⟨v9, g10, h⟩ := ob_some h
    refine evs (ev_call (era rfl (erg (erc rfl (erc rfl (erc (erD ec25_d _) rfl)))) eran) (laws_toTable_s g10) (?_))
    obtain ⟨e11, g12, h⟩ := ob_some h
    refine evs (ev_iau rfl rfl rfl rfl ⟨(geti_some g12).1, (geti_some g12).2.1⟩ (evs (ev_stu (e := v9) (c1 := .agg [.str v9.1, .int .i64 v9.2.1, .own 25 v9.2.2.length (v9.2.2.flatMap c25_o)]) rfl rfl zc208_oo ⟨(geti_some g12).1, (geti_some g12).2.1⟩ rfl rfl rfl rfl rfl (evn ?_))))
    refine hK6 _ (ls_keep [(0, .dat a0.length (a0.flatMap c206_dd)), (3, .uni 208 (seti y1 y2 v9).length ((seti y1 y2 v9).flatMap c208_oo)), (4, .int .i64 y2)] ⟨kr, kr, kr, trivial⟩ rfl ?_)
    refine ls_rgn tbOk ?_
    refine evs (ev_mv (c := .int .i64 y2) rfl rfl rfl (evs (ev_bin (c1 := .int .i64 y2) (c2 := .int .i64 1) rfl rfl rfl (evs (ev_as (c := .int .i64 (IntKind.i64.wrap (y2 + 1))) rfl rfl rfl (evn ?_))))))
    exact hN _ ((seti y1 y2 v9), (IntKind.i64.wrap (y2 + 1))) h ⟨kr, kr, kr, trivial⟩
  · refine ls_cF rfl g5 ?_
    refine ls_exit ?_
    have q0 := (Option.some.inj h).symm
    have r0 := hr1
    rw [q0] at r0
    exact kXlaws_toTableS_B1 y1 r0 _ ⟨kr, trivial⟩
def laws_toDatabase (a0 : (List ((List UInt8) × (Int × (List (List Int)))))) : Option (((List ((List UInt8) × (Int × (List (List Int))))))) := obind (laws_toTableS a0) fun v1 => some v1
theorem laws_toDatabase_s {a0 : (List ((List UInt8) × (Int × (List (List Int)))))} {r : ((List ((List UInt8) × (Int × (List (List Int))))))} (h : laws_toDatabase a0 = some r) : SoundAt Try.prog 16 [.agg [.dat a0.length (a0.flatMap c206_dd)]] (.agg [.own 208 r.length (r.flatMap c208_oo)]) := by
  unfold laws_toDatabase at h
  refine sound_lit tbOk lit16 (Nat.le_of_ble_eq_true rfl) rfl ?_
  unfold c16
  refine ls_keep [(0, .agg [.dat a0.length (a0.flatMap c206_dd)])] ⟨kr, trivial⟩ rfl ?_
  refine ls_rs tbOk ?_
  refine evs (ev_bx (c1 := .agg [.dat a0.length (a0.flatMap c206_dd)]) rfl rfl rfl (evs (ev_al rfl rfl (evn ?_))))
  refine ls_keep [(1, .box [.dat a0.length (a0.flatMap c206_dd)]), (2, .box [.own 208 ([] : List ((List UInt8) × (Int × (List (List Int))))).length (([] : List ((List UInt8) × (Int × (List (List Int))))).flatMap c208_oo)])] ⟨kr, kr, trivial⟩ rfl ?_
  refine ls_rs tbOk ?_
  refine evs (ev_al rfl rfl (evn ?_))
  refine ls_keep [(1, .box [.dat a0.length (a0.flatMap c206_dd)]), (2, .box [.own 208 ([] : List ((List UInt8) × (Int × (List (List Int))))).length (([] : List ((List UInt8) × (Int × (List (List Int))))).flatMap c208_oo)]), (3, .box [.own 208 ([] : List ((List UInt8) × (Int × (List (List Int))))).length (([] : List ((List UInt8) × (Int × (List (List Int))))).flatMap c208_oo)])] ⟨kr, kr, kr, trivial⟩ rfl ?_
  refine ls_rs tbOk ?_
  refine evs (ev_fa (c1 := .cref 1 0) (v := .cref 1 0) rfl rfl rfl ⟨_, rfl⟩ rfl (evs (ev_ldB (off := 0) (v := .dat a0.length (a0.flatMap c206_dd)) rfl rfl rfl rfl (Nat.le_of_ble_eq_true rfl) rfl (?_))))
  obtain ⟨v1, g2, h⟩ := ob_some h
  refine evs (ev_call (era rfl (erD ec206_dd _) eran) (laws_toTableS_s g2) (evs (ev_fa (c1 := .cref 3 0) (v := .cref 3 0) rfl rfl rfl ⟨_, rfl⟩ rfl (evs (ev_st (off := 0) (c1 := .own 208 v1.length (v1.flatMap c208_oo)) (cs' := [.own 208 v1.length (v1.flatMap c208_oo)]) rfl rfl rfl rfl rfl rfl (Nat.le_of_ble_eq_true rfl) rfl (evn ?_))))))
  refine ls_keep [(2, .box [.own 208 ([] : List ((List UInt8) × (Int × (List (List Int))))).length (([] : List ((List UInt8) × (Int × (List (List Int))))).flatMap c208_oo)]), (3, .box [.own 208 v1.length (v1.flatMap c208_oo)])] ⟨kr, kr, trivial⟩ rfl ?_
  refine ls_rs tbOk ?_
  refine evs (ev_ldBt (off := 0) (v := .agg [.own 208 v1.length (v1.flatMap c208_oo)]) (c' := .box [.dat v1.length (v1.flatMap c208_oo)]) rfl rfl rfl rfl (Nat.le_of_ble_eq_true rfl) rfl rfl (evs (ev_st (off := 0) (c1 := .agg [.own 208 v1.length (v1.flatMap c208_oo)]) (cs' := [.own 208 v1.length (v1.flatMap c208_oo)]) rfl rfl rfl rfl rfl rfl (Nat.le_of_ble_eq_true rfl) rfl (evn ?_))))
  refine ls_keep [(2, .box [.own 208 v1.length (v1.flatMap c208_oo)])] ⟨kr, trivial⟩ rfl ?_
  refine ls_ret ?_
  have hr := Option.some.inj h
  rw [← hr]
  exact ⟨.inl rfl, rfl⟩
def laws_eqIntS_B1 (a0 : List Int) (a1 : List Int) (rec : Int → Option (Sum (Unit) (Bool))) (y1 : Int) : Option (Sum (Unit) (Bool)) := cond (decide (y1 < (List.length a0 : Int))) (obind (geti a0 y1) fun e7 => obind (geti a1 y1) fun e9 => cond (e7 != e9) (some (.inr false)) (rec (IntKind.i64.wrap (y1 + 1)))) (some (.inl ()))
def laws_eqIntS (a0 : List Int) (a1 : List Int) : Option (Bool) := cond ((List.length a0 : Int) != (List.length a1 : Int)) (some false) (obind (loopF (laws_eqIntS_B1 a0 a1) fz 0) fun o1 => (match o1 with
  | .inl _ => (some true)
  | .inr r => some r))
theorem laws_eqIntS_s {a0 : List Int} {a1 : List Int} {r : Bool} (h : laws_eqIntS a0 a1 = some r) : SoundAt Try.prog 19 [.dat a0.length (a0.flatMap ci64), .dat a1.length (a1.flatMap ci64)] (.bool r) := by
  unfold laws_eqIntS at h
  refine sound_lit tbOk lit19 (Nat.le_of_ble_eq_true rfl) rfl ?_
  unfold c19
  refine ls_keep [(0, .dat a0.length (a0.flatMap ci64)), (1, .dat a1.length (a1.flatMap ci64))] ⟨kr, kr, trivial⟩ rfl ?_
  refine ls_rs tbOk ?_
  refine evs (ev_ac rfl nofun rfl (evn ?_))
  refine ls_keep [(0, .dat a0.length (a0.flatMap ci64)), (1, .dat a1.length (a1.flatMap ci64))] ⟨kr, kr, trivial⟩ rfl ?_
  refine ls_seq_k fun K1 hK1 => ?_
  refine ls_rs tbOk ?_
  refine evs (ev_mv (c := .dat a0.length (a0.flatMap ci64)) rfl rfl rfl (evs (ev_len (c1 := .dat a0.length (a0.flatMap ci64)) rfl rfl rfl (evs (ev_mv (c := .dat a1.length (a1.flatMap ci64)) rfl rfl rfl (evs (ev_len (c1 := .dat a1.length (a1.flatMap ci64)) rfl rfl rfl (evs (ev_bin (c1 := .int .i64 (List.length a0 : Int)) (c2 := .int .i64 (List.length a1 : Int)) rfl rfl rfl (evn ?_))))))))))
  refine ls_keep [(0, .dat a0.length (a0.flatMap ci64)), (1, .dat a1.length (a1.flatMap ci64)), (10, .bool ((List.length a0 : Int) != (List.length a1 : Int)))] ⟨kr, kr, kr, trivial⟩ rfl ?_
  rcases cond_some h with ⟨g2, h⟩ | ⟨g2, h⟩
  · refine ls_cT rfl g2 ?_
    refine ls_rs tbOk ?_
    refine evs (ev_ac rfl nofun rfl (evn ?_))
    refine ls_keep [(4, .bool false)] ⟨kr, trivial⟩ rfl ?_
    refine ls_ret ?_
    have hr := Option.some.inj h
    rw [← hr]
    exact ⟨.inl rfl, rfl⟩
  · refine ls_cF rfl g2 ?_
    refine ls_skip ?_
    refine hK1 _ (ls_keep [(0, .dat a0.length (a0.flatMap ci64)), (1, .dat a1.length (a1.flatMap ci64))] ⟨kr, kr, trivial⟩ rfl ?_)
    refine ls_seq_k fun K3 hK3 => ?_
    refine ls_rs tbOk ?_
    refine evs (ev_ac rfl nofun rfl (evn ?_))
    refine ls_keep [(0, .dat a0.length (a0.flatMap ci64)), (1, .dat a1.length (a1.flatMap ci64)), (5, .int .i64 0)] ⟨kr, kr, kr, trivial⟩ rfl ?_
    obtain ⟨o1, hl, hr1⟩ := ob_some h
    clear h
    have kXlaws_eqIntS_B1 : ∀ (_ : Unit), (some true) = some r → ∀ σ' : PS, okK σ' [] → K3 σ' := by
      intro _ h σ' hk
      refine hK3 _ (ls_keep [] hk rfl ?_)
      refine ls_rs tbOk ?_
      refine evs (ev_ac rfl nofun rfl (evn ?_))
      refine ls_keep [(4, .bool true)] ⟨kr, trivial⟩ rfl ?_
      refine ls_ret ?_
      have hr := Option.some.inj h
      rw [← hr]
      exact ⟨.inl rfl, rfl⟩
    refine ls_rec (fun (y1 : Int) => [(0, .dat a0.length (a0.flatMap ci64)), (1, .dat a1.length (a1.flatMap ci64)), (5, .int .i64 y1)]) (laws_eqIntS_B1 a0 a1) fz 0 o1 hl ⟨kr, kr, kr, trivial⟩ (fun _ => rfl) ?_
    rintro m y1 N h hN
    unfold laws_eqIntS_B1 at h
    refine ls_seq_k fun K4 hK4 => ?_
    refine ls_rs tbOk ?_
    refine evs (ev_mv (c := .int .i64 y1) rfl rfl rfl (evs (ev_mv (c := .dat a0.length (a0.flatMap ci64)) rfl rfl rfl (evs (ev_len (c1 := .dat a0.length (a0.flatMap ci64)) rfl rfl rfl (evs (ev_bin (c1 := .int .i64 y1) (c2 := .int .i64 (List.length a0 : Int)) rfl rfl rfl (evn ?_))))))))
    refine ls_keep [(0, .dat a0.length (a0.flatMap ci64)), (1, .dat a1.length (a1.flatMap ci64)), (5, .int .i64 y1), (14, .bool (decide (y1 < (List.length a0 : Int))))] ⟨kr, kr, kr, kr, trivial⟩ rfl ?_
    rcases cond_some h with ⟨g5, h⟩ | ⟨g5, h⟩
    · refine ls_cT rfl g5 ?_
      refine ls_skip ?_
      refine hK4 _ (ls_keep [(0, .dat a0.length (a0.flatMap ci64)), (1, .dat a1.length (a1.flatMap ci64)), (5, .int .i64 y1)] ⟨kr, kr, kr, trivial⟩ rfl ?_)
      refine ls_seq_k fun K6 hK6 => ?_
      refine ls_blk ?_
      refine ls_rd tbOk mixed (by kernel_rfl) ?_
      refine evd rfl rfl (ev_mv (c := .dat a0.length (a0.flatMap ci64)) rfl rfl rfl (evd rfl rfl (ev_mv (c := .int .i64 y1) rfl rfl rfl (?_))))
      obtain ⟨e7, g8, h⟩ := ob_some h
      refine evd rfl rfl (ev_ia rfl rfl rfl ⟨(geti_some g8).1, (geti_some g8).2.1⟩ (evd rfl rfl (ev_ldE (i := y1) (n := 1) (off := 0) (v := .int .i64 e7) rfl rfl zci64 g8 rfl (Nat.le_of_ble_eq_true rfl) rfl (evd rfl rfl (ev_mv (c := .dat a1.length (a1.flatMap ci64)) rfl rfl rfl (evd rfl rfl (ev_mv (c := .int .i64 y1) rfl rfl rfl (?_))))))))
      obtain ⟨e9, g10, h⟩ := ob_some h
      refine evd rfl rfl (ev_ia rfl rfl rfl ⟨(geti_some g10).1, (geti_some g10).2.1⟩ (evd rfl rfl (ev_ldE (i := y1) (n := 1) (off := 0) (v := .int .i64 e9) rfl rfl zci64 g10 rfl (Nat.le_of_ble_eq_true rfl) rfl (evd rfl rfl (ev_bin (c1 := .int .i64 e7) (c2 := .int .i64 e9) rfl rfl rfl (evdn ?_))))))
      refine ls_keep [(0, .dat a0.length (a0.flatMap ci64)), (1, .dat a1.length (a1.flatMap ci64)), (5, .int .i64 y1), (25, .bool (e7 != e9))] ⟨kr, kr, kr, kr, trivial⟩ rfl ?_
      rcases cond_some h with ⟨g11, h⟩ | ⟨g11, h⟩
      · refine ls_cT rfl g11 ?_
        refine ls_rs tbOk ?_
        refine evs (ev_ac rfl nofun rfl (evn ?_))
        refine ls_keep [(4, .bool false)] ⟨kr, trivial⟩ rfl ?_
        refine ls_ret ?_
        have q0 := (Option.some.inj h).symm
        have r0 := hr1
        rw [q0] at r0
        have hr := Option.some.inj r0
        rw [← hr]
        exact ⟨.inl rfl, rfl⟩
      · refine ls_cF rfl g11 ?_
        refine ls_skip ?_
        refine hK6 _ (ls_keep [(0, .dat a0.length (a0.flatMap ci64)), (1, .dat a1.length (a1.flatMap ci64)), (5, .int .i64 y1)] ⟨kr, kr, kr, trivial⟩ rfl ?_)
        refine ls_rgn tbOk ?_
        refine evs (ev_mv (c := .int .i64 y1) rfl rfl rfl (evs (ev_bin (c1 := .int .i64 y1) (c2 := .int .i64 1) rfl rfl rfl (evs (ev_as (c := .int .i64 (IntKind.i64.wrap (y1 + 1))) rfl rfl rfl (evn ?_))))))
        exact hN _ (IntKind.i64.wrap (y1 + 1)) h ⟨kr, kr, kr, trivial⟩
    · refine ls_cF rfl g5 ?_
      refine ls_exit ?_
      have q0 := (Option.some.inj h).symm
      have r0 := hr1
      rw [q0] at r0
      exact kXlaws_eqIntS_B1 () r0 _ trivial
def laws_eqIntSS_B1 (a0 : List (List Int)) (a1 : List (List Int)) (rec : Int → Option (Sum (Unit) (Bool))) (y1 : Int) : Option (Sum (Unit) (Bool)) := cond (decide (y1 < (List.length a0 : Int))) (obind (geti a0 y1) fun e7 => obind (geti a1 y1) fun e9 => obind (laws_eqIntS e7 e9) fun v11 => cond (!v11) (some (.inr false)) (rec (IntKind.i64.wrap (y1 + 1)))) (some (.inl ()))
def laws_eqIntSS (a0 : List (List Int)) (a1 : List (List Int)) : Option (Bool) := cond ((List.length a0 : Int) != (List.length a1 : Int)) (some false) (obind (loopF (laws_eqIntSS_B1 a0 a1) fz 0) fun o1 => (match o1 with
  | .inl _ => (some true)
  | .inr r => some r))
theorem laws_eqIntSS_s {a0 : List (List Int)} {a1 : List (List Int)} {r : Bool} (h : laws_eqIntSS a0 a1 = some r) : SoundAt Try.prog 215 [.dat a0.length (a0.flatMap c25_d), .dat a1.length (a1.flatMap c25_d)] (.bool r) := by
  unfold laws_eqIntSS at h
  refine sound_lit tbOk lit215 (Nat.le_of_ble_eq_true rfl) rfl ?_
  unfold c215
  refine ls_keep [(0, .dat a0.length (a0.flatMap c25_d)), (1, .dat a1.length (a1.flatMap c25_d))] ⟨kr, kr, trivial⟩ rfl ?_
  refine ls_rs tbOk ?_
  refine evs (ev_ac rfl nofun rfl (evn ?_))
  refine ls_keep [(0, .dat a0.length (a0.flatMap c25_d)), (1, .dat a1.length (a1.flatMap c25_d))] ⟨kr, kr, trivial⟩ rfl ?_
  refine ls_seq_k fun K1 hK1 => ?_
  refine ls_rs tbOk ?_
  refine evs (ev_mv (c := .dat a0.length (a0.flatMap c25_d)) rfl rfl rfl (evs (ev_len (c1 := .dat a0.length (a0.flatMap c25_d)) rfl rfl rfl (evs (ev_mv (c := .dat a1.length (a1.flatMap c25_d)) rfl rfl rfl (evs (ev_len (c1 := .dat a1.length (a1.flatMap c25_d)) rfl rfl rfl (evs (ev_bin (c1 := .int .i64 (List.length a0 : Int)) (c2 := .int .i64 (List.length a1 : Int)) rfl rfl rfl (evn ?_))))))))))
  refine ls_keep [(0, .dat a0.length (a0.flatMap c25_d)), (1, .dat a1.length (a1.flatMap c25_d)), (10, .bool ((List.length a0 : Int) != (List.length a1 : Int)))] ⟨kr, kr, kr, trivial⟩ rfl ?_
  rcases cond_some h with ⟨g2, h⟩ | ⟨g2, h⟩
  · refine ls_cT rfl g2 ?_
    refine ls_rs tbOk ?_
    refine evs (ev_ac rfl nofun rfl (evn ?_))
    refine ls_keep [(4, .bool false)] ⟨kr, trivial⟩ rfl ?_
    refine ls_ret ?_
    have hr := Option.some.inj h
    rw [← hr]
    exact ⟨.inl rfl, rfl⟩
  · refine ls_cF rfl g2 ?_
    refine ls_skip ?_
    refine hK1 _ (ls_keep [(0, .dat a0.length (a0.flatMap c25_d)), (1, .dat a1.length (a1.flatMap c25_d))] ⟨kr, kr, trivial⟩ rfl ?_)
    refine ls_seq_k fun K3 hK3 => ?_
    refine ls_rs tbOk ?_
    refine evs (ev_ac rfl nofun rfl (evn ?_))
    refine ls_keep [(0, .dat a0.length (a0.flatMap c25_d)), (1, .dat a1.length (a1.flatMap c25_d)), (5, .int .i64 0)] ⟨kr, kr, kr, trivial⟩ rfl ?_
    obtain ⟨o1, hl, hr1⟩ := ob_some h
    clear h
    have kXlaws_eqIntSS_B1 : ∀ (_ : Unit), (some true) = some r → ∀ σ' : PS, okK σ' [] → K3 σ' := by
      intro _ h σ' hk
      refine hK3 _ (ls_keep [] hk rfl ?_)
      refine ls_rs tbOk ?_
      refine evs (ev_ac rfl nofun rfl (evn ?_))
      refine ls_keep [(4, .bool true)] ⟨kr, trivial⟩ rfl ?_
      refine ls_ret ?_
      have hr := Option.some.inj h
      rw [← hr]
      exact ⟨.inl rfl, rfl⟩
    refine ls_rec (fun (y1 : Int) => [(0, .dat a0.length (a0.flatMap c25_d)), (1, .dat a1.length (a1.flatMap c25_d)), (5, .int .i64 y1)]) (laws_eqIntSS_B1 a0 a1) fz 0 o1 hl ⟨kr, kr, kr, trivial⟩ (fun _ => rfl) ?_
    rintro m y1 N h hN
    unfold laws_eqIntSS_B1 at h
    refine ls_seq_k fun K4 hK4 => ?_
    refine ls_rs tbOk ?_
    refine evs (ev_mv (c := .int .i64 y1) rfl rfl rfl (evs (ev_mv (c := .dat a0.length (a0.flatMap c25_d)) rfl rfl rfl (evs (ev_len (c1 := .dat a0.length (a0.flatMap c25_d)) rfl rfl rfl (evs (ev_bin (c1 := .int .i64 y1) (c2 := .int .i64 (List.length a0 : Int)) rfl rfl rfl (evn ?_))))))))
    refine ls_keep [(0, .dat a0.length (a0.flatMap c25_d)), (1, .dat a1.length (a1.flatMap c25_d)), (5, .int .i64 y1), (14, .bool (decide (y1 < (List.length a0 : Int))))] ⟨kr, kr, kr, kr, trivial⟩ rfl ?_
    rcases cond_some h with ⟨g5, h⟩ | ⟨g5, h⟩
    · refine ls_cT rfl g5 ?_
      refine ls_skip ?_
      refine hK4 _ (ls_keep [(0, .dat a0.length (a0.flatMap c25_d)), (1, .dat a1.length (a1.flatMap c25_d)), (5, .int .i64 y1)] ⟨kr, kr, kr, trivial⟩ rfl ?_)
      refine ls_seq_k fun K6 hK6 => ?_
      refine ls_blk ?_
      refine ls_rd tbOk mixed (by kernel_rfl) ?_
      refine evd rfl rfl (ev_mv (c := .dat a0.length (a0.flatMap c25_d)) rfl rfl rfl (evd rfl rfl (ev_mv (c := .int .i64 y1) rfl rfl rfl (?_))))
      obtain ⟨e7, g8, h⟩ := ob_some h
      refine evd rfl rfl (ev_ia rfl rfl rfl ⟨(geti_some g8).1, (geti_some g8).2.1⟩ (evd rfl rfl (ev_ldE (i := y1) (n := 1) (off := 0) (v := .dat e7.length (e7.flatMap ci64)) rfl rfl zc25_d g8 rfl (Nat.le_of_ble_eq_true rfl) rfl (evd rfl rfl (ev_mv (c := .dat a1.length (a1.flatMap c25_d)) rfl rfl rfl (evd rfl rfl (ev_mv (c := .int .i64 y1) rfl rfl rfl (?_))))))))
      obtain ⟨e9, g10, h⟩ := ob_some h
      refine evd rfl rfl (ev_ia rfl rfl rfl ⟨(geti_some g10).1, (geti_some g10).2.1⟩ (evd rfl rfl (ev_ldE (i := y1) (n := 1) (off := 0) (v := .dat e9.length (e9.flatMap ci64)) rfl rfl zc25_d g10 rfl (Nat.le_of_ble_eq_true rfl) rfl (?_))))
      obtain ⟨v11, g12, h⟩ := ob_some h
      refine evd rfl rfl (ev_call (era rfl (erD eci64 _) (era rfl (erD eci64 _) eran)) (laws_eqIntS_s g12) (evd rfl rfl (ev_un (c1 := .bool v11) rfl trivial (evdn ?_))))
      refine ls_keep [(0, .dat a0.length (a0.flatMap c25_d)), (1, .dat a1.length (a1.flatMap c25_d)), (5, .int .i64 y1), (26, .bool (!v11))] ⟨kr, kr, kr, kr, trivial⟩ rfl ?_
      rcases cond_some h with ⟨g13, h⟩ | ⟨g13, h⟩
      · refine ls_cT rfl g13 ?_
        refine ls_rs tbOk ?_
        refine evs (ev_ac rfl nofun rfl (evn ?_))
        refine ls_keep [(4, .bool false)] ⟨kr, trivial⟩ rfl ?_
        refine ls_ret ?_
        have q0 := (Option.some.inj h).symm
        have r0 := hr1
        rw [q0] at r0
        have hr := Option.some.inj r0
        rw [← hr]
        exact ⟨.inl rfl, rfl⟩
      · refine ls_cF rfl g13 ?_
        refine ls_skip ?_
        refine hK6 _ (ls_keep [(0, .dat a0.length (a0.flatMap c25_d)), (1, .dat a1.length (a1.flatMap c25_d)), (5, .int .i64 y1)] ⟨kr, kr, kr, trivial⟩ rfl ?_)
        refine ls_rgn tbOk ?_
        refine evs (ev_mv (c := .int .i64 y1) rfl rfl rfl (evs (ev_bin (c1 := .int .i64 y1) (c2 := .int .i64 1) rfl rfl rfl (evs (ev_as (c := .int .i64 (IntKind.i64.wrap (y1 + 1))) rfl rfl rfl (evn ?_))))))
        exact hN _ (IntKind.i64.wrap (y1 + 1)) h ⟨kr, kr, kr, trivial⟩
    · refine ls_cF rfl g5 ?_
      refine ls_exit ?_
      have q0 := (Option.some.inj h).symm
      have r0 := hr1
      rw [q0] at r0
      exact kXlaws_eqIntSS_B1 () r0 _ trivial
def laws_eqRelation (a0 : Int × (List (List Int))) (a1 : Int × (List (List Int))) : Option (Bool) := cond (a0.1 != a1.1) (some false) (obind (laws_eqIntSS a0.2 a1.2) fun v4 => cond (!v4) (some false) (some true))
theorem laws_eqRelation_s {a0 : Int × (List (List Int))} {a1 : Int × (List (List Int))} {r : Bool} (h : laws_eqRelation a0 a1 = some r) : SoundAt Try.prog 238 [.agg [.int .i64 a0.1, .dat a0.2.length (a0.2.flatMap c25_d)], .agg [.int .i64 a1.1, .dat a1.2.length (a1.2.flatMap c25_d)]] (.bool r) := by
  unfold laws_eqRelation at h
  refine sound_lit tbOk lit238 (Nat.le_of_ble_eq_true rfl) rfl ?_
  unfold c238
  refine ls_keep [(0, .agg [.int .i64 a0.1, .dat a0.2.length (a0.2.flatMap c25_d)]), (1, .agg [.int .i64 a1.1, .dat a1.2.length (a1.2.flatMap c25_d)])] ⟨kr, kr, trivial⟩ rfl ?_
  refine ls_rs tbOk ?_
  refine evs (ev_bx (c1 := .agg [.int .i64 a0.1, .dat a0.2.length (a0.2.flatMap c25_d)]) rfl rfl rfl (evs (ev_bx (c1 := .agg [.int .i64 a1.1, .dat a1.2.length (a1.2.flatMap c25_d)]) rfl rfl rfl (evs (ev_ac rfl nofun rfl (evn ?_))))))
  refine ls_keep [(2, .box [.int .i64 a0.1, .dat a0.2.length (a0.2.flatMap c25_d)]), (3, .box [.int .i64 a1.1, .dat a1.2.length (a1.2.flatMap c25_d)])] ⟨kr, kr, trivial⟩ rfl ?_
  refine ls_seq_k fun K1 hK1 => ?_
  refine ls_rs tbOk ?_
  refine evs (ev_fa (c1 := .cref 2 0) (v := .cref 2 0) rfl rfl rfl ⟨_, rfl⟩ rfl (evs (ev_ldB (off := 0) (v := .int .i64 a0.1) rfl rfl rfl rfl (Nat.le_of_ble_eq_true rfl) rfl (evs (ev_fa (c1 := .cref 3 0) (v := .cref 3 0) rfl rfl rfl ⟨_, rfl⟩ rfl (evs (ev_ldB (off := 0) (v := .int .i64 a1.1) rfl rfl rfl rfl (Nat.le_of_ble_eq_true rfl) rfl (evs (ev_bin (c1 := .int .i64 a0.1) (c2 := .int .i64 a1.1) rfl rfl rfl (evn ?_))))))))))
  refine ls_keep [(2, .box [.int .i64 a0.1, .dat a0.2.length (a0.2.flatMap c25_d)]), (3, .box [.int .i64 a1.1, .dat a1.2.length (a1.2.flatMap c25_d)]), (9, .bool (a0.1 != a1.1))] ⟨kr, kr, kr, trivial⟩ rfl ?_
  rcases cond_some h with ⟨g2, h⟩ | ⟨g2, h⟩
  · refine ls_cT rfl g2 ?_
    refine ls_rs tbOk ?_
    refine evs (ev_ac rfl nofun rfl (evn ?_))
    refine ls_keep [(4, .bool false)] ⟨kr, trivial⟩ rfl ?_
    refine ls_ret ?_
    have hr := Option.some.inj h
    rw [← hr]
    exact ⟨.inl rfl, rfl⟩
  · refine ls_cF rfl g2 ?_
    refine ls_skip ?_
    refine hK1 _ (ls_keep [(2, .box [.int .i64 a0.1, .dat a0.2.length (a0.2.flatMap c25_d)]), (3, .box [.int .i64 a1.1, .dat a1.2.length (a1.2.flatMap c25_d)])] ⟨kr, kr, trivial⟩ rfl ?_)
    refine ls_seq_k fun K3 hK3 => ?_
    refine ls_rs tbOk ?_
    refine evs (ev_fa (c1 := .cref 2 0) (v := .cref 2 1) rfl rfl rfl ⟨_, rfl⟩ rfl (evs (ev_ldB (off := 1) (v := .dat a0.2.length (a0.2.flatMap c25_d)) rfl rfl rfl rfl (Nat.le_of_ble_eq_true rfl) rfl (evs (ev_fa (c1 := .cref 3 0) (v := .cref 3 1) rfl rfl rfl ⟨_, rfl⟩ rfl (evs (ev_ldB (off := 1) (v := .dat a1.2.length (a1.2.flatMap c25_d)) rfl rfl rfl rfl (Nat.le_of_ble_eq_true rfl) rfl (?_))))))))
    obtain ⟨v4, g5, h⟩ := ob_some h
    refine evs (ev_call (era rfl (erD ec25_d _) (era rfl (erD ec25_d _) eran)) (laws_eqIntSS_s g5) (evs (ev_un (c1 := .bool v4) rfl trivial (evn ?_))))
    refine ls_keep [(15, .bool (!v4))] ⟨kr, trivial⟩ rfl ?_
    rcases cond_some h with ⟨g6, h⟩ | ⟨g6, h⟩
    · refine ls_cT rfl g6 ?_
      refine ls_rs tbOk ?_
      refine evs (ev_ac rfl nofun rfl (evn ?_))
      refine ls_keep [(4, .bool false)] ⟨kr, trivial⟩ rfl ?_
      refine ls_ret ?_
      have hr := Option.some.inj h
      rw [← hr]
      exact ⟨.inl rfl, rfl⟩
    · refine ls_cF rfl g6 ?_
      refine ls_skip ?_
      refine hK3 _ (ls_keep [] trivial rfl ?_)
      refine ls_rs tbOk ?_
      refine evs (ev_ac rfl nofun rfl (evn ?_))
      refine ls_keep [(4, .bool true)] ⟨kr, trivial⟩ rfl ?_
      refine ls_ret ?_
      have hr := Option.some.inj h
      rw [← hr]
      exact ⟨.inl rfl, rfl⟩
def laws_eqTable (a0 : (List UInt8) × (Int × (List (List Int)))) (a1 : (List UInt8) × (Int × (List (List Int)))) : Option (Bool) := cond (!(a0.1 == a1.1)) (some false) (obind (laws_eqRelation a0.2 a1.2) fun v4 => cond (!v4) (some false) (some true))
theorem laws_eqTable_s {a0 : (List UInt8) × (Int × (List (List Int)))} {a1 : (List UInt8) × (Int × (List (List Int)))} {r : Bool} (h : laws_eqTable a0 a1 = some r) : SoundAt Try.prog 176 [.agg [.str a0.1, .int .i64 a0.2.1, .dat a0.2.2.length (a0.2.2.flatMap c25_d)], .agg [.str a1.1, .int .i64 a1.2.1, .dat a1.2.2.length (a1.2.2.flatMap c25_d)]] (.bool r) := by
  unfold laws_eqTable at h
  refine sound_lit tbOk lit176 (Nat.le_of_ble_eq_true rfl) rfl ?_
  unfold c176
  refine ls_keep [(0, .agg [.str a0.1, .int .i64 a0.2.1, .dat a0.2.2.length (a0.2.2.flatMap c25_d)]), (1, .agg [.str a1.1, .int .i64 a1.2.1, .dat a1.2.2.length (a1.2.2.flatMap c25_d)])] ⟨kr, kr, trivial⟩ rfl ?_
  refine ls_rs tbOk ?_
  refine evs (ev_bx (c1 := .agg [.str a0.1, .int .i64 a0.2.1, .dat a0.2.2.length (a0.2.2.flatMap c25_d)]) rfl rfl rfl (evs (ev_bx (c1 := .agg [.str a1.1, .int .i64 a1.2.1, .dat a1.2.2.length (a1.2.2.flatMap c25_d)]) rfl rfl rfl (evs (ev_ac rfl nofun rfl (evn ?_))))))
  refine ls_keep [(2, .box [.str a0.1, .int .i64 a0.2.1, .dat a0.2.2.length (a0.2.2.flatMap c25_d)]), (3, .box [.str a1.1, .int .i64 a1.2.1, .dat a1.2.2.length (a1.2.2.flatMap c25_d)])] ⟨kr, kr, trivial⟩ rfl ?_
  refine ls_seq_k fun K1 hK1 => ?_
  refine ls_rs tbOk ?_
  refine evs (ev_fa (c1 := .cref 2 0) (v := .cref 2 0) rfl rfl rfl ⟨_, rfl⟩ rfl (evs (ev_ldB (off := 0) (v := .str a0.1) rfl rfl rfl rfl (Nat.le_of_ble_eq_true rfl) rfl (evs (ev_fa (c1 := .cref 3 0) (v := .cref 3 0) rfl rfl rfl ⟨_, rfl⟩ rfl (evs (ev_ldB (off := 0) (v := .str a1.1) rfl rfl rfl rfl (Nat.le_of_ble_eq_true rfl) rfl (evs (ev_bin (c1 := .str a0.1) (c2 := .str a1.1) rfl rfl trivial (evn ?_))))))))))
  refine ls_keep [(2, .box [.str a0.1, .int .i64 a0.2.1, .dat a0.2.2.length (a0.2.2.flatMap c25_d)]), (3, .box [.str a1.1, .int .i64 a1.2.1, .dat a1.2.2.length (a1.2.2.flatMap c25_d)]), (9, .bool (!(a0.1 == a1.1)))] ⟨kr, kr, kr, trivial⟩ rfl ?_
  rcases cond_some h with ⟨g2, h⟩ | ⟨g2, h⟩
  · refine ls_cT rfl g2 ?_
    refine ls_rs tbOk ?_
    refine evs (ev_ac rfl nofun rfl (evn ?_))
    refine ls_keep [(4, .bool false)] ⟨kr, trivial⟩ rfl ?_
    refine ls_ret ?_
    have hr := Option.some.inj h
    rw [← hr]
    exact ⟨.inl rfl, rfl⟩
  · refine ls_cF rfl g2 ?_
    refine ls_skip ?_
    refine hK1 _ (ls_keep [(2, .box [.str a0.1, .int .i64 a0.2.1, .dat a0.2.2.length (a0.2.2.flatMap c25_d)]), (3, .box [.str a1.1, .int .i64 a1.2.1, .dat a1.2.2.length (a1.2.2.flatMap c25_d)])] ⟨kr, kr, trivial⟩ rfl ?_)
    refine ls_seq_k fun K3 hK3 => ?_
    refine ls_rs tbOk ?_
    refine evs (ev_fa (c1 := .cref 2 0) (v := .cref 2 1) rfl rfl rfl ⟨_, rfl⟩ rfl (evs (ev_ldB (off := 1) (v := .agg [.int .i64 a0.2.1, .dat a0.2.2.length (a0.2.2.flatMap c25_d)]) rfl rfl rfl rfl (Nat.le_of_ble_eq_true rfl) rfl (evs (ev_fa (c1 := .cref 3 0) (v := .cref 3 1) rfl rfl rfl ⟨_, rfl⟩ rfl (evs (ev_ldB (off := 1) (v := .agg [.int .i64 a1.2.1, .dat a1.2.2.length (a1.2.2.flatMap c25_d)]) rfl rfl rfl rfl (Nat.le_of_ble_eq_true rfl) rfl (?_))))))))
    obtain ⟨v4, g5, h⟩ := ob_some h
    refine evs (ev_call (era rfl (erg (erc rfl (erc (erD ec25_d _) rfl))) (era rfl (erg (erc rfl (erc (erD ec25_d _) rfl))) eran)) (laws_eqRelation_s g5) (evs (ev_un (c1 := .bool v4) rfl trivial (evn ?_))))
    refine ls_keep [(15, .bool (!v4))] ⟨kr, trivial⟩ rfl ?_
    rcases cond_some h with ⟨g6, h⟩ | ⟨g6, h⟩
    · refine ls_cT rfl g6 ?_
      refine ls_rs tbOk ?_
      refine evs (ev_ac rfl nofun rfl (evn ?_))
      refine ls_keep [(4, .bool false)] ⟨kr, trivial⟩ rfl ?_
      refine ls_ret ?_
      have hr := Option.some.inj h
      rw [← hr]
      exact ⟨.inl rfl, rfl⟩
    · refine ls_cF rfl g6 ?_
      refine ls_skip ?_
      refine hK3 _ (ls_keep [] trivial rfl ?_)
      refine ls_rs tbOk ?_
      refine evs (ev_ac rfl nofun rfl (evn ?_))
      refine ls_keep [(4, .bool true)] ⟨kr, trivial⟩ rfl ?_
      refine ls_ret ?_
      have hr := Option.some.inj h
      rw [← hr]
      exact ⟨.inl rfl, rfl⟩
def laws_eqTableS_B1 (a0 : List ((List UInt8) × (Int × (List (List Int))))) (a1 : List ((List UInt8) × (Int × (List (List Int))))) (rec : Int → Option (Sum (Unit) (Bool))) (y1 : Int) : Option (Sum (Unit) (Bool)) := cond (decide (y1 < (List.length a0 : Int))) (obind (geti a0 y1) fun e7 => obind (geti a1 y1) fun e9 => obind (laws_eqTable e7 e9) fun v11 => cond (!v11) (some (.inr false)) (rec (IntKind.i64.wrap (y1 + 1)))) (some (.inl ()))
def laws_eqTableS (a0 : List ((List UInt8) × (Int × (List (List Int))))) (a1 : List ((List UInt8) × (Int × (List (List Int))))) : Option (Bool) := cond ((List.length a0 : Int) != (List.length a1 : Int)) (some false) (obind (loopF (laws_eqTableS_B1 a0 a1) fz 0) fun o1 => (match o1 with
  | .inl _ => (some true)
  | .inr r => some r))
theorem laws_eqTableS_s {a0 : List ((List UInt8) × (Int × (List (List Int))))} {a1 : List ((List UInt8) × (Int × (List (List Int))))} {r : Bool} (h : laws_eqTableS a0 a1 = some r) : SoundAt Try.prog 82 [.dat a0.length (a0.flatMap c208_dd), .dat a1.length (a1.flatMap c208_dd)] (.bool r) := by
  unfold laws_eqTableS at h
  refine sound_lit tbOk lit82 (Nat.le_of_ble_eq_true rfl) rfl ?_
  unfold c82
  refine ls_keep [(0, .dat a0.length (a0.flatMap c208_dd)), (1, .dat a1.length (a1.flatMap c208_dd))] ⟨kr, kr, trivial⟩ rfl ?_
  refine ls_rs tbOk ?_
  refine evs (ev_ac rfl nofun rfl (evn ?_))
  refine ls_keep [(0, .dat a0.length (a0.flatMap c208_dd)), (1, .dat a1.length (a1.flatMap c208_dd))] ⟨kr, kr, trivial⟩ rfl ?_
  refine ls_seq_k fun K1 hK1 => ?_
  refine ls_rs tbOk ?_
  refine evs (ev_mv (c := .dat a0.length (a0.flatMap c208_dd)) rfl rfl rfl (evs (ev_len (c1 := .dat a0.length (a0.flatMap c208_dd)) rfl rfl rfl (evs (ev_mv (c := .dat a1.length (a1.flatMap c208_dd)) rfl rfl rfl (evs (ev_len (c1 := .dat a1.length (a1.flatMap c208_dd)) rfl rfl rfl (evs (ev_bin (c1 := .int .i64 (List.length a0 : Int)) (c2 := .int .i64 (List.length a1 : Int)) rfl rfl rfl (evn ?_))))))))))
  refine ls_keep [(0, .dat a0.length (a0.flatMap c208_dd)), (1, .dat a1.length (a1.flatMap c208_dd)), (10, .bool ((List.length a0 : Int) != (List.length a1 : Int)))] ⟨kr, kr, kr, trivial⟩ rfl ?_
  rcases cond_some h with ⟨g2, h⟩ | ⟨g2, h⟩
  · refine ls_cT rfl g2 ?_
    refine ls_rs tbOk ?_
    refine evs (ev_ac rfl nofun rfl (evn ?_))
    refine ls_keep [(4, .bool false)] ⟨kr, trivial⟩ rfl ?_
    refine ls_ret ?_
    have hr := Option.some.inj h
    rw [← hr]
    exact ⟨.inl rfl, rfl⟩
  · refine ls_cF rfl g2 ?_
    refine ls_skip ?_
    refine hK1 _ (ls_keep [(0, .dat a0.length (a0.flatMap c208_dd)), (1, .dat a1.length (a1.flatMap c208_dd))] ⟨kr, kr, trivial⟩ rfl ?_)
    refine ls_seq_k fun K3 hK3 => ?_
    refine ls_rs tbOk ?_
    refine evs (ev_ac rfl nofun rfl (evn ?_))
    refine ls_keep [(0, .dat a0.length (a0.flatMap c208_dd)), (1, .dat a1.length (a1.flatMap c208_dd)), (5, .int .i64 0)] ⟨kr, kr, kr, trivial⟩ rfl ?_
    obtain ⟨o1, hl, hr1⟩ := ob_some h
    clear h
    have kXlaws_eqTableS_B1 : ∀ (_ : Unit), (some true) = some r → ∀ σ' : PS, okK σ' [] → K3 σ' := by
      intro _ h σ' hk
      refine hK3 _ (ls_keep [] hk rfl ?_)
      refine ls_rs tbOk ?_
      refine evs (ev_ac rfl nofun rfl (evn ?_))
      refine ls_keep [(4, .bool true)] ⟨kr, trivial⟩ rfl ?_
      refine ls_ret ?_
      have hr := Option.some.inj h
      rw [← hr]
      exact ⟨.inl rfl, rfl⟩
    refine ls_rec (fun (y1 : Int) => [(0, .dat a0.length (a0.flatMap c208_dd)), (1, .dat a1.length (a1.flatMap c208_dd)), (5, .int .i64 y1)]) (laws_eqTableS_B1 a0 a1) fz 0 o1 hl ⟨kr, kr, kr, trivial⟩ (fun _ => rfl) ?_
    rintro m y1 N h hN
    unfold laws_eqTableS_B1 at h
    refine ls_seq_k fun K4 hK4 => ?_
    refine ls_rs tbOk ?_
    refine evs (ev_mv (c := .int .i64 y1) rfl rfl rfl (evs (ev_mv (c := .dat a0.length (a0.flatMap c208_dd)) rfl rfl rfl (evs (ev_len (c1 := .dat a0.length (a0.flatMap c208_dd)) rfl rfl rfl (evs (ev_bin (c1 := .int .i64 y1) (c2 := .int .i64 (List.length a0 : Int)) rfl rfl rfl (evn ?_))))))))
    refine ls_keep [(0, .dat a0.length (a0.flatMap c208_dd)), (1, .dat a1.length (a1.flatMap c208_dd)), (5, .int .i64 y1), (14, .bool (decide (y1 < (List.length a0 : Int))))] ⟨kr, kr, kr, kr, trivial⟩ rfl ?_
    rcases cond_some h with ⟨g5, h⟩ | ⟨g5, h⟩
    · refine ls_cT rfl g5 ?_
      refine ls_skip ?_
      refine hK4 _ (ls_keep [(0, .dat a0.length (a0.flatMap c208_dd)), (1, .dat a1.length (a1.flatMap c208_dd)), (5, .int .i64 y1)] ⟨kr, kr, kr, trivial⟩ rfl ?_)
      refine ls_seq_k fun K6 hK6 => ?_
      refine ls_blk ?_
      refine ls_rd tbOk mixed (by kernel_rfl) ?_
      refine evd rfl rfl (ev_mv (c := .dat a0.length (a0.flatMap c208_dd)) rfl rfl rfl (evd rfl rfl (ev_mv (c := .int .i64 y1) rfl rfl rfl (?_))))
      obtain ⟨e7, g8, h⟩ := ob_some h
      refine evd rfl rfl (ev_ia rfl rfl rfl ⟨(geti_some g8).1, (geti_some g8).2.1⟩ (evd rfl rfl (ev_ldE (i := y1) (n := 3) (off := 0) (v := .agg [.str e7.1, .int .i64 e7.2.1, .dat e7.2.2.length (e7.2.2.flatMap c25_d)]) rfl rfl zc208_dd g8 rfl (Nat.le_of_ble_eq_true rfl) rfl (evd rfl rfl (ev_mv (c := .dat a1.length (a1.flatMap c208_dd)) rfl rfl rfl (evd rfl rfl (ev_mv (c := .int .i64 y1) rfl rfl rfl (?_))))))))
      obtain ⟨e9, g10, h⟩ := ob_some h
      refine evd rfl rfl (ev_ia rfl rfl rfl ⟨(geti_some g10).1, (geti_some g10).2.1⟩ (evd rfl rfl (ev_ldE (i := y1) (n := 3) (off := 0) (v := .agg [.str e9.1, .int .i64 e9.2.1, .dat e9.2.2.length (e9.2.2.flatMap c25_d)]) rfl rfl zc208_dd g10 rfl (Nat.le_of_ble_eq_true rfl) rfl (?_))))
      obtain ⟨v11, g12, h⟩ := ob_some h
      refine evd rfl rfl (ev_call (era rfl (erg (erc rfl (erc rfl (erc (erD ec25_d _) rfl)))) (era rfl (erg (erc rfl (erc rfl (erc (erD ec25_d _) rfl)))) eran)) (laws_eqTable_s g12) (evd rfl rfl (ev_un (c1 := .bool v11) rfl trivial (evdn ?_))))
      refine ls_keep [(0, .dat a0.length (a0.flatMap c208_dd)), (1, .dat a1.length (a1.flatMap c208_dd)), (5, .int .i64 y1), (26, .bool (!v11))] ⟨kr, kr, kr, kr, trivial⟩ rfl ?_
      rcases cond_some h with ⟨g13, h⟩ | ⟨g13, h⟩
      · refine ls_cT rfl g13 ?_
        refine ls_rs tbOk ?_
        refine evs (ev_ac rfl nofun rfl (evn ?_))
        refine ls_keep [(4, .bool false)] ⟨kr, trivial⟩ rfl ?_
        refine ls_ret ?_
        have q0 := (Option.some.inj h).symm
        have r0 := hr1
        rw [q0] at r0
        have hr := Option.some.inj r0
        rw [← hr]
        exact ⟨.inl rfl, rfl⟩
      · refine ls_cF rfl g13 ?_
        refine ls_skip ?_
        refine hK6 _ (ls_keep [(0, .dat a0.length (a0.flatMap c208_dd)), (1, .dat a1.length (a1.flatMap c208_dd)), (5, .int .i64 y1)] ⟨kr, kr, kr, trivial⟩ rfl ?_)
        refine ls_rgn tbOk ?_
        refine evs (ev_mv (c := .int .i64 y1) rfl rfl rfl (evs (ev_bin (c1 := .int .i64 y1) (c2 := .int .i64 1) rfl rfl rfl (evs (ev_as (c := .int .i64 (IntKind.i64.wrap (y1 + 1))) rfl rfl rfl (evn ?_))))))
        exact hN _ (IntKind.i64.wrap (y1 + 1)) h ⟨kr, kr, kr, trivial⟩
    · refine ls_cF rfl g5 ?_
      refine ls_exit ?_
      have q0 := (Option.some.inj h).symm
      have r0 := hr1
      rw [q0] at r0
      exact kXlaws_eqTableS_B1 () r0 _ trivial
def laws_eqDatabase (a0 : (List ((List UInt8) × (Int × (List (List Int)))))) (a1 : (List ((List UInt8) × (Int × (List (List Int)))))) : Option (Bool) := obind (laws_eqTableS a0 a1) fun v2 => cond (!v2) (some false) (some true)
theorem laws_eqDatabase_s {a0 : (List ((List UInt8) × (Int × (List (List Int)))))} {a1 : (List ((List UInt8) × (Int × (List (List Int)))))} {r : Bool} (h : laws_eqDatabase a0 a1 = some r) : SoundAt Try.prog 20 [.agg [.dat a0.length (a0.flatMap c208_dd)], .agg [.dat a1.length (a1.flatMap c208_dd)]] (.bool r) := by
  unfold laws_eqDatabase at h
  refine sound_lit tbOk lit20 (Nat.le_of_ble_eq_true rfl) rfl ?_
  unfold c20
  refine ls_keep [(0, .agg [.dat a0.length (a0.flatMap c208_dd)]), (1, .agg [.dat a1.length (a1.flatMap c208_dd)])] ⟨kr, kr, trivial⟩ rfl ?_
  refine ls_rs tbOk ?_
  refine evs (ev_bx (c1 := .agg [.dat a0.length (a0.flatMap c208_dd)]) rfl rfl rfl (evs (ev_bx (c1 := .agg [.dat a1.length (a1.flatMap c208_dd)]) rfl rfl rfl (evs (ev_ac rfl nofun rfl (evn ?_))))))
  refine ls_keep [(2, .box [.dat a0.length (a0.flatMap c208_dd)]), (3, .box [.dat a1.length (a1.flatMap c208_dd)])] ⟨kr, kr, trivial⟩ rfl ?_
  refine ls_seq_k fun K1 hK1 => ?_
  refine ls_rs tbOk ?_
  refine evs (ev_fa (c1 := .cref 2 0) (v := .cref 2 0) rfl rfl rfl ⟨_, rfl⟩ rfl (evs (ev_ldB (off := 0) (v := .dat a0.length (a0.flatMap c208_dd)) rfl rfl rfl rfl (Nat.le_of_ble_eq_true rfl) rfl (evs (ev_fa (c1 := .cref 3 0) (v := .cref 3 0) rfl rfl rfl ⟨_, rfl⟩ rfl (evs (ev_ldB (off := 0) (v := .dat a1.length (a1.flatMap c208_dd)) rfl rfl rfl rfl (Nat.le_of_ble_eq_true rfl) rfl (?_))))))))
  obtain ⟨v2, g3, h⟩ := ob_some h
  refine evs (ev_call (era rfl (erD ec208_dd _) (era rfl (erD ec208_dd _) eran)) (laws_eqTableS_s g3) (evs (ev_un (c1 := .bool v2) rfl trivial (evn ?_))))
  refine ls_keep [(10, .bool (!v2))] ⟨kr, trivial⟩ rfl ?_
  rcases cond_some h with ⟨g4, h⟩ | ⟨g4, h⟩
  · refine ls_cT rfl g4 ?_
    refine ls_rs tbOk ?_
    refine evs (ev_ac rfl nofun rfl (evn ?_))
    refine ls_keep [(4, .bool false)] ⟨kr, trivial⟩ rfl ?_
    refine ls_ret ?_
    have hr := Option.some.inj h
    rw [← hr]
    exact ⟨.inl rfl, rfl⟩
  · refine ls_cF rfl g4 ?_
    refine ls_skip ?_
    refine hK1 _ (ls_keep [] trivial rfl ?_)
    refine ls_rs tbOk ?_
    refine evs (ev_ac rfl nofun rfl (evn ?_))
    refine ls_keep [(4, .bool true)] ⟨kr, trivial⟩ rfl ?_
    refine ls_ret ?_
    have hr := Option.some.inj h
    rw [← hr]
    exact ⟨.inl rfl, rfl⟩
def laws_eqAtom (a0 : (List UInt8) × (List Int)) (a1 : (List UInt8) × (List Int)) : Option (Bool) := cond (!(a0.1 == a1.1)) (some false) (obind (laws_eqIntS a0.2 a1.2) fun v4 => cond (!v4) (some false) (some true))
theorem laws_eqAtom_s {a0 : (List UInt8) × (List Int)} {a1 : (List UInt8) × (List Int)} {r : Bool} (h : laws_eqAtom a0 a1 = some r) : SoundAt Try.prog 214 [.agg [.str a0.1, .dat a0.2.length (a0.2.flatMap ci64)], .agg [.str a1.1, .dat a1.2.length (a1.2.flatMap ci64)]] (.bool r) := by
  unfold laws_eqAtom at h
  refine sound_lit tbOk lit214 (Nat.le_of_ble_eq_true rfl) rfl ?_
  unfold c214
  refine ls_keep [(0, .agg [.str a0.1, .dat a0.2.length (a0.2.flatMap ci64)]), (1, .agg [.str a1.1, .dat a1.2.length (a1.2.flatMap ci64)])] ⟨kr, kr, trivial⟩ rfl ?_
  refine ls_rs tbOk ?_
  refine evs (ev_bx (c1 := .agg [.str a0.1, .dat a0.2.length (a0.2.flatMap ci64)]) rfl rfl rfl (evs (ev_bx (c1 := .agg [.str a1.1, .dat a1.2.length (a1.2.flatMap ci64)]) rfl rfl rfl (evs (ev_ac rfl nofun rfl (evn ?_))))))
  refine ls_keep [(2, .box [.str a0.1, .dat a0.2.length (a0.2.flatMap ci64)]), (3, .box [.str a1.1, .dat a1.2.length (a1.2.flatMap ci64)])] ⟨kr, kr, trivial⟩ rfl ?_
  refine ls_seq_k fun K1 hK1 => ?_
  refine ls_rs tbOk ?_
  refine evs (ev_fa (c1 := .cref 2 0) (v := .cref 2 0) rfl rfl rfl ⟨_, rfl⟩ rfl (evs (ev_ldB (off := 0) (v := .str a0.1) rfl rfl rfl rfl (Nat.le_of_ble_eq_true rfl) rfl (evs (ev_fa (c1 := .cref 3 0) (v := .cref 3 0) rfl rfl rfl ⟨_, rfl⟩ rfl (evs (ev_ldB (off := 0) (v := .str a1.1) rfl rfl rfl rfl (Nat.le_of_ble_eq_true rfl) rfl (evs (ev_bin (c1 := .str a0.1) (c2 := .str a1.1) rfl rfl trivial (evn ?_))))))))))
  refine ls_keep [(2, .box [.str a0.1, .dat a0.2.length (a0.2.flatMap ci64)]), (3, .box [.str a1.1, .dat a1.2.length (a1.2.flatMap ci64)]), (9, .bool (!(a0.1 == a1.1)))] ⟨kr, kr, kr, trivial⟩ rfl ?_
  rcases cond_some h with ⟨g2, h⟩ | ⟨g2, h⟩
  · refine ls_cT rfl g2 ?_
    refine ls_rs tbOk ?_
    refine evs (ev_ac rfl nofun rfl (evn ?_))
    refine ls_keep [(4, .bool false)] ⟨kr, trivial⟩ rfl ?_
    refine ls_ret ?_
    have hr := Option.some.inj h
    rw [← hr]
    exact ⟨.inl rfl, rfl⟩
  · refine ls_cF rfl g2 ?_
    refine ls_skip ?_
    refine hK1 _ (ls_keep [(2, .box [.str a0.1, .dat a0.2.length (a0.2.flatMap ci64)]), (3, .box [.str a1.1, .dat a1.2.length (a1.2.flatMap ci64)])] ⟨kr, kr, trivial⟩ rfl ?_)
    refine ls_seq_k fun K3 hK3 => ?_
    refine ls_rs tbOk ?_
    refine evs (ev_fa (c1 := .cref 2 0) (v := .cref 2 1) rfl rfl rfl ⟨_, rfl⟩ rfl (evs (ev_ldB (off := 1) (v := .dat a0.2.length (a0.2.flatMap ci64)) rfl rfl rfl rfl (Nat.le_of_ble_eq_true rfl) rfl (evs (ev_fa (c1 := .cref 3 0) (v := .cref 3 1) rfl rfl rfl ⟨_, rfl⟩ rfl (evs (ev_ldB (off := 1) (v := .dat a1.2.length (a1.2.flatMap ci64)) rfl rfl rfl rfl (Nat.le_of_ble_eq_true rfl) rfl (?_))))))))
    obtain ⟨v4, g5, h⟩ := ob_some h
    refine evs (ev_call (era rfl (erD eci64 _) (era rfl (erD eci64 _) eran)) (laws_eqIntS_s g5) (evs (ev_un (c1 := .bool v4) rfl trivial (evn ?_))))
    refine ls_keep [(15, .bool (!v4))] ⟨kr, trivial⟩ rfl ?_
    rcases cond_some h with ⟨g6, h⟩ | ⟨g6, h⟩
    · refine ls_cT rfl g6 ?_
      refine ls_rs tbOk ?_
      refine evs (ev_ac rfl nofun rfl (evn ?_))
      refine ls_keep [(4, .bool false)] ⟨kr, trivial⟩ rfl ?_
      refine ls_ret ?_
      have hr := Option.some.inj h
      rw [← hr]
      exact ⟨.inl rfl, rfl⟩
    · refine ls_cF rfl g6 ?_
      refine ls_skip ?_
      refine hK3 _ (ls_keep [] trivial rfl ?_)
      refine ls_rs tbOk ?_
      refine evs (ev_ac rfl nofun rfl (evn ?_))
      refine ls_keep [(4, .bool true)] ⟨kr, trivial⟩ rfl ?_
      refine ls_ret ?_
      have hr := Option.some.inj h
      rw [← hr]
      exact ⟨.inl rfl, rfl⟩
def laws_eqAtomS_B1 (a0 : List ((List UInt8) × (List Int))) (a1 : List ((List UInt8) × (List Int))) (rec : Int → Option (Sum (Unit) (Bool))) (y1 : Int) : Option (Sum (Unit) (Bool)) := cond (decide (y1 < (List.length a0 : Int))) (obind (geti a0 y1) fun e7 => obind (geti a1 y1) fun e9 => obind (laws_eqAtom e7 e9) fun v11 => cond (!v11) (some (.inr false)) (rec (IntKind.i64.wrap (y1 + 1)))) (some (.inl ()))
def laws_eqAtomS (a0 : List ((List UInt8) × (List Int))) (a1 : List ((List UInt8) × (List Int))) : Option (Bool) := cond ((List.length a0 : Int) != (List.length a1 : Int)) (some false) (obind (loopF (laws_eqAtomS_B1 a0 a1) fz 0) fun o1 => (match o1 with
  | .inl _ => (some true)
  | .inr r => some r))
theorem laws_eqAtomS_s {a0 : List ((List UInt8) × (List Int))} {a1 : List ((List UInt8) × (List Int))} {r : Bool} (h : laws_eqAtomS a0 a1 = some r) : SoundAt Try.prog 132 [.dat a0.length (a0.flatMap c195_d), .dat a1.length (a1.flatMap c195_d)] (.bool r) := by
  unfold laws_eqAtomS at h
  refine sound_lit tbOk lit132 (Nat.le_of_ble_eq_true rfl) rfl ?_
  unfold c132
  refine ls_keep [(0, .dat a0.length (a0.flatMap c195_d)), (1, .dat a1.length (a1.flatMap c195_d))] ⟨kr, kr, trivial⟩ rfl ?_
  refine ls_rs tbOk ?_
  refine evs (ev_ac rfl nofun rfl (evn ?_))
  refine ls_keep [(0, .dat a0.length (a0.flatMap c195_d)), (1, .dat a1.length (a1.flatMap c195_d))] ⟨kr, kr, trivial⟩ rfl ?_
  refine ls_seq_k fun K1 hK1 => ?_
  refine ls_rs tbOk ?_
  refine evs (ev_mv (c := .dat a0.length (a0.flatMap c195_d)) rfl rfl rfl (evs (ev_len (c1 := .dat a0.length (a0.flatMap c195_d)) rfl rfl rfl (evs (ev_mv (c := .dat a1.length (a1.flatMap c195_d)) rfl rfl rfl (evs (ev_len (c1 := .dat a1.length (a1.flatMap c195_d)) rfl rfl rfl (evs (ev_bin (c1 := .int .i64 (List.length a0 : Int)) (c2 := .int .i64 (List.length a1 : Int)) rfl rfl rfl (evn ?_))))))))))
  refine ls_keep [(0, .dat a0.length (a0.flatMap c195_d)), (1, .dat a1.length (a1.flatMap c195_d)), (10, .bool ((List.length a0 : Int) != (List.length a1 : Int)))] ⟨kr, kr, kr, trivial⟩ rfl ?_
  rcases cond_some h with ⟨g2, h⟩ | ⟨g2, h⟩
  · refine ls_cT rfl g2 ?_
    refine ls_rs tbOk ?_
    refine evs (ev_ac rfl nofun rfl (evn ?_))
    refine ls_keep [(4, .bool false)] ⟨kr, trivial⟩ rfl ?_
    refine ls_ret ?_
    have hr := Option.some.inj h
    rw [← hr]
    exact ⟨.inl rfl, rfl⟩
  · refine ls_cF rfl g2 ?_
    refine ls_skip ?_
    refine hK1 _ (ls_keep [(0, .dat a0.length (a0.flatMap c195_d)), (1, .dat a1.length (a1.flatMap c195_d))] ⟨kr, kr, trivial⟩ rfl ?_)
    refine ls_seq_k fun K3 hK3 => ?_
    refine ls_rs tbOk ?_
    refine evs (ev_ac rfl nofun rfl (evn ?_))
    refine ls_keep [(0, .dat a0.length (a0.flatMap c195_d)), (1, .dat a1.length (a1.flatMap c195_d)), (5, .int .i64 0)] ⟨kr, kr, kr, trivial⟩ rfl ?_
    obtain ⟨o1, hl, hr1⟩ := ob_some h
    clear h
    have kXlaws_eqAtomS_B1 : ∀ (_ : Unit), (some true) = some r → ∀ σ' : PS, okK σ' [] → K3 σ' := by
      intro _ h σ' hk
      refine hK3 _ (ls_keep [] hk rfl ?_)
      refine ls_rs tbOk ?_
      refine evs (ev_ac rfl nofun rfl (evn ?_))
      refine ls_keep [(4, .bool true)] ⟨kr, trivial⟩ rfl ?_
      refine ls_ret ?_
      have hr := Option.some.inj h
      rw [← hr]
      exact ⟨.inl rfl, rfl⟩
    refine ls_rec (fun (y1 : Int) => [(0, .dat a0.length (a0.flatMap c195_d)), (1, .dat a1.length (a1.flatMap c195_d)), (5, .int .i64 y1)]) (laws_eqAtomS_B1 a0 a1) fz 0 o1 hl ⟨kr, kr, kr, trivial⟩ (fun _ => rfl) ?_
    rintro m y1 N h hN
    unfold laws_eqAtomS_B1 at h
    refine ls_seq_k fun K4 hK4 => ?_
    refine ls_rs tbOk ?_
    refine evs (ev_mv (c := .int .i64 y1) rfl rfl rfl (evs (ev_mv (c := .dat a0.length (a0.flatMap c195_d)) rfl rfl rfl (evs (ev_len (c1 := .dat a0.length (a0.flatMap c195_d)) rfl rfl rfl (evs (ev_bin (c1 := .int .i64 y1) (c2 := .int .i64 (List.length a0 : Int)) rfl rfl rfl (evn ?_))))))))
    refine ls_keep [(0, .dat a0.length (a0.flatMap c195_d)), (1, .dat a1.length (a1.flatMap c195_d)), (5, .int .i64 y1), (14, .bool (decide (y1 < (List.length a0 : Int))))] ⟨kr, kr, kr, kr, trivial⟩ rfl ?_
    rcases cond_some h with ⟨g5, h⟩ | ⟨g5, h⟩
    · refine ls_cT rfl g5 ?_
      refine ls_skip ?_
      refine hK4 _ (ls_keep [(0, .dat a0.length (a0.flatMap c195_d)), (1, .dat a1.length (a1.flatMap c195_d)), (5, .int .i64 y1)] ⟨kr, kr, kr, trivial⟩ rfl ?_)
      refine ls_seq_k fun K6 hK6 => ?_
      refine ls_blk ?_
      refine ls_rd tbOk mixed (by kernel_rfl) ?_
      refine evd rfl rfl (ev_mv (c := .dat a0.length (a0.flatMap c195_d)) rfl rfl rfl (evd rfl rfl (ev_mv (c := .int .i64 y1) rfl rfl rfl (?_))))
      obtain ⟨e7, g8, h⟩ := ob_some h
      refine evd rfl rfl (ev_ia rfl rfl rfl ⟨(geti_some g8).1, (geti_some g8).2.1⟩ (evd rfl rfl (ev_ldE (i := y1) (n := 2) (off := 0) (v := .agg [.str e7.1, .dat e7.2.length (e7.2.flatMap ci64)]) rfl rfl zc195_d g8 rfl (Nat.le_of_ble_eq_true rfl) rfl (evd rfl rfl (ev_mv (c := .dat a1.length (a1.flatMap c195_d)) rfl rfl rfl (evd rfl rfl (ev_mv (c := .int .i64 y1) rfl rfl rfl (?_))))))))
      obtain ⟨e9, g10, h⟩ := ob_some h
      refine evd rfl rfl (ev_ia rfl rfl rfl ⟨(geti_some g10).1, (geti_some g10).2.1⟩ (evd rfl rfl (ev_ldE (i := y1) (n := 2) (off := 0) (v := .agg [.str e9.1, .dat e9.2.length (e9.2.flatMap ci64)]) rfl rfl zc195_d g10 rfl (Nat.le_of_ble_eq_true rfl) rfl (?_))))
      obtain ⟨v11, g12, h⟩ := ob_some h
      refine evd rfl rfl (ev_call (era rfl (erg (erc rfl (erc (erD eci64 _) rfl))) (era rfl (erg (erc rfl (erc (erD eci64 _) rfl))) eran)) (laws_eqAtom_s g12) (evd rfl rfl (ev_un (c1 := .bool v11) rfl trivial (evdn ?_))))
      refine ls_keep [(0, .dat a0.length (a0.flatMap c195_d)), (1, .dat a1.length (a1.flatMap c195_d)), (5, .int .i64 y1), (26, .bool (!v11))] ⟨kr, kr, kr, kr, trivial⟩ rfl ?_
      rcases cond_some h with ⟨g13, h⟩ | ⟨g13, h⟩
      · refine ls_cT rfl g13 ?_
        refine ls_rs tbOk ?_
        refine evs (ev_ac rfl nofun rfl (evn ?_))
        refine ls_keep [(4, .bool false)] ⟨kr, trivial⟩ rfl ?_
        refine ls_ret ?_
        have q0 := (Option.some.inj h).symm
        have r0 := hr1
        rw [q0] at r0
        have hr := Option.some.inj r0
        rw [← hr]
        exact ⟨.inl rfl, rfl⟩
      · refine ls_cF rfl g13 ?_
        refine ls_skip ?_
        refine hK6 _ (ls_keep [(0, .dat a0.length (a0.flatMap c195_d)), (1, .dat a1.length (a1.flatMap c195_d)), (5, .int .i64 y1)] ⟨kr, kr, kr, trivial⟩ rfl ?_)
        refine ls_rgn tbOk ?_
        refine evs (ev_mv (c := .int .i64 y1) rfl rfl rfl (evs (ev_bin (c1 := .int .i64 y1) (c2 := .int .i64 1) rfl rfl rfl (evs (ev_as (c := .int .i64 (IntKind.i64.wrap (y1 + 1))) rfl rfl rfl (evn ?_))))))
        exact hN _ (IntKind.i64.wrap (y1 + 1)) h ⟨kr, kr, kr, trivial⟩
    · refine ls_cF rfl g5 ?_
      refine ls_exit ?_
      have q0 := (Option.some.inj h).symm
      have r0 := hr1
      rw [q0] at r0
      exact kXlaws_eqAtomS_B1 () r0 _ trivial
def laws_eqQuery (a0 : Int × (List ((List UInt8) × (List Int))) × (List Int)) (a1 : Int × (List ((List UInt8) × (List Int))) × (List Int)) : Option (Bool) := cond (a0.1 != a1.1) (some false) (obind (laws_eqAtomS a0.2.1 a1.2.1) fun v4 => cond (!v4) (some false) (obind (laws_eqIntS a0.2.2 a1.2.2) fun v8 => cond (!v8) (some false) (some true)))
theorem laws_eqQuery_s {a0 : Int × (List ((List UInt8) × (List Int))) × (List Int)} {a1 : Int × (List ((List UInt8) × (List Int))) × (List Int)} {r : Bool} (h : laws_eqQuery a0 a1 = some r) : SoundAt Try.prog 49 [.agg [.int .i64 a0.1, .dat a0.2.1.length (a0.2.1.flatMap c195_d), .dat a0.2.2.length (a0.2.2.flatMap ci64)], .agg [.int .i64 a1.1, .dat a1.2.1.length (a1.2.1.flatMap c195_d), .dat a1.2.2.length (a1.2.2.flatMap ci64)]] (.bool r) := by
  unfold laws_eqQuery at h
  refine sound_lit tbOk lit49 (Nat.le_of_ble_eq_true rfl) rfl ?_
  unfold c49
  refine ls_keep [(0, .agg [.int .i64 a0.1, .dat a0.2.1.length (a0.2.1.flatMap c195_d), .dat a0.2.2.length (a0.2.2.flatMap ci64)]), (1, .agg [.int .i64 a1.1, .dat a1.2.1.length (a1.2.1.flatMap c195_d), .dat a1.2.2.length (a1.2.2.flatMap ci64)])] ⟨kr, kr, trivial⟩ rfl ?_
  refine ls_rs tbOk ?_
  refine evs (ev_bx (c1 := .agg [.int .i64 a0.1, .dat a0.2.1.length (a0.2.1.flatMap c195_d), .dat a0.2.2.length (a0.2.2.flatMap ci64)]) rfl rfl rfl (evs (ev_bx (c1 := .agg [.int .i64 a1.1, .dat a1.2.1.length (a1.2.1.flatMap c195_d), .dat a1.2.2.length (a1.2.2.flatMap ci64)]) rfl rfl rfl (evs (ev_ac rfl nofun rfl (evn ?_))))))
  refine ls_keep [(2, .box [.int .i64 a0.1, .dat a0.2.1.length (a0.2.1.flatMap c195_d), .dat a0.2.2.length (a0.2.2.flatMap ci64)]), (3, .box [.int .i64 a1.1, .dat a1.2.1.length (a1.2.1.flatMap c195_d), .dat a1.2.2.length (a1.2.2.flatMap ci64)])] ⟨kr, kr, trivial⟩ rfl ?_
  refine ls_seq_k fun K1 hK1 => ?_
  refine ls_rs tbOk ?_
  refine evs (ev_fa (c1 := .cref 2 0) (v := .cref 2 0) rfl rfl rfl ⟨_, rfl⟩ rfl (evs (ev_ldB (off := 0) (v := .int .i64 a0.1) rfl rfl rfl rfl (Nat.le_of_ble_eq_true rfl) rfl (evs (ev_fa (c1 := .cref 3 0) (v := .cref 3 0) rfl rfl rfl ⟨_, rfl⟩ rfl (evs (ev_ldB (off := 0) (v := .int .i64 a1.1) rfl rfl rfl rfl (Nat.le_of_ble_eq_true rfl) rfl (evs (ev_bin (c1 := .int .i64 a0.1) (c2 := .int .i64 a1.1) rfl rfl rfl (evn ?_))))))))))
  refine ls_keep [(2, .box [.int .i64 a0.1, .dat a0.2.1.length (a0.2.1.flatMap c195_d), .dat a0.2.2.length (a0.2.2.flatMap ci64)]), (3, .box [.int .i64 a1.1, .dat a1.2.1.length (a1.2.1.flatMap c195_d), .dat a1.2.2.length (a1.2.2.flatMap ci64)]), (9, .bool (a0.1 != a1.1))] ⟨kr, kr, kr, trivial⟩ rfl ?_
  rcases cond_some h with ⟨g2, h⟩ | ⟨g2, h⟩
  · refine ls_cT rfl g2 ?_
    refine ls_rs tbOk ?_
    refine evs (ev_ac rfl nofun rfl (evn ?_))
    refine ls_keep [(4, .bool false)] ⟨kr, trivial⟩ rfl ?_
    refine ls_ret ?_
    have hr := Option.some.inj h
    rw [← hr]
    exact ⟨.inl rfl, rfl⟩
  · refine ls_cF rfl g2 ?_
    refine ls_skip ?_
    refine hK1 _ (ls_keep [(2, .box [.int .i64 a0.1, .dat a0.2.1.length (a0.2.1.flatMap c195_d), .dat a0.2.2.length (a0.2.2.flatMap ci64)]), (3, .box [.int .i64 a1.1, .dat a1.2.1.length (a1.2.1.flatMap c195_d), .dat a1.2.2.length (a1.2.2.flatMap ci64)])] ⟨kr, kr, trivial⟩ rfl ?_)
    refine ls_seq_k fun K3 hK3 => ?_
    refine ls_rs tbOk ?_
    refine evs (ev_fa (c1 := .cref 2 0) (v := .cref 2 1) rfl rfl rfl ⟨_, rfl⟩ rfl (evs (ev_ldB (off := 1) (v := .dat a0.2.1.length (a0.2.1.flatMap c195_d)) rfl rfl rfl rfl (Nat.le_of_ble_eq_true rfl) rfl (evs (ev_fa (c1 := .cref 3 0) (v := .cref 3 1) rfl rfl rfl ⟨_, rfl⟩ rfl (evs (ev_ldB (off := 1) (v := .dat a1.2.1.length (a1.2.1.flatMap c195_d)) rfl rfl rfl rfl (Nat.le_of_ble_eq_true rfl) rfl (?_))))))))
    obtain ⟨v4, g5, h⟩ := ob_some h
    refine evs (ev_call (era rfl (erD ec195_d _) (era rfl (erD ec195_d _) eran)) (laws_eqAtomS_s g5) (evs (ev_un (c1 := .bool v4) rfl trivial (evn ?_))))
    refine ls_keep [(2, .box [.int .i64 a0.1, .dat a0.2.1.length (a0.2.1.flatMap c195_d), .dat a0.2.2.length (a0.2.2.flatMap ci64)]), (3, .box [.int .i64 a1.1, .dat a1.2.1.length (a1.2.1.flatMap c195_d), .dat a1.2.2.length (a1.2.2.flatMap ci64)]), (15, .bool (!v4))] ⟨kr, kr, kr, trivial⟩ rfl ?_
    rcases cond_some h with ⟨g6, h⟩ | ⟨g6, h⟩
    · refine ls_cT rfl g6 ?_
      refine ls_rs tbOk ?_
      refine evs (ev_ac rfl nofun rfl (evn ?_))
      refine ls_keep [(4, .bool false)] ⟨kr, trivial⟩ rfl ?_
      refine ls_ret ?_
      have hr := Option.some.inj h
      rw [← hr]
      exact ⟨.inl rfl, rfl⟩
    · refine ls_cF rfl g6 ?_
      refine ls_skip ?_
      refine hK3 _ (ls_keep [(2, .box [.int .i64 a0.1, .dat a0.2.1.length (a0.2.1.flatMap c195_d), .dat a0.2.2.length (a0.2.2.flatMap ci64)]), (3, .box [.int .i64 a1.1, .dat a1.2.1.length (a1.2.1.flatMap c195_d), .dat a1.2.2.length (a1.2.2.flatMap ci64)])] ⟨kr, kr, trivial⟩ rfl ?_)
      refine ls_seq_k fun K7 hK7 => ?_
      refine ls_rs tbOk ?_
      refine evs (ev_fa (c1 := .cref 2 0) (v := .cref 2 2) rfl rfl rfl ⟨_, rfl⟩ rfl (evs (ev_ldB (off := 2) (v := .dat a0.2.2.length (a0.2.2.flatMap ci64)) rfl rfl rfl rfl (Nat.le_of_ble_eq_true rfl) rfl (evs (ev_fa (c1 := .cref 3 0) (v := .cref 3 2) rfl rfl rfl ⟨_, rfl⟩ rfl (evs (ev_ldB (off := 2) (v := .dat a1.2.2.length (a1.2.2.flatMap ci64)) rfl rfl rfl rfl (Nat.le_of_ble_eq_true rfl) rfl (?_))))))))
      obtain ⟨v8, g9, h⟩ := ob_some h
      refine evs (ev_call (era rfl (erD eci64 _) (era rfl (erD eci64 _) eran)) (laws_eqIntS_s g9) (evs (ev_un (c1 := .bool v8) rfl trivial (evn ?_))))
      refine ls_keep [(21, .bool (!v8))] ⟨kr, trivial⟩ rfl ?_
      rcases cond_some h with ⟨g10, h⟩ | ⟨g10, h⟩
      · refine ls_cT rfl g10 ?_
        refine ls_rs tbOk ?_
        refine evs (ev_ac rfl nofun rfl (evn ?_))
        refine ls_keep [(4, .bool false)] ⟨kr, trivial⟩ rfl ?_
        refine ls_ret ?_
        have hr := Option.some.inj h
        rw [← hr]
        exact ⟨.inl rfl, rfl⟩
      · refine ls_cF rfl g10 ?_
        refine ls_skip ?_
        refine hK7 _ (ls_keep [] trivial rfl ?_)
        refine ls_rs tbOk ?_
        refine evs (ev_ac rfl nofun rfl (evn ?_))
        refine ls_keep [(4, .bool true)] ⟨kr, trivial⟩ rfl ?_
        refine ls_ret ?_
        have hr := Option.some.inj h
        rw [← hr]
        exact ⟨.inl rfl, rfl⟩
def laws_eqCountedRelation (a0 : Int × (List (List Int)) × (List Int)) (a1 : Int × (List (List Int)) × (List Int)) : Option (Bool) := cond (a0.1 != a1.1) (some false) (obind (laws_eqIntSS a0.2.1 a1.2.1) fun v4 => cond (!v4) (some false) (obind (laws_eqIntS a0.2.2 a1.2.2) fun v8 => cond (!v8) (some false) (some true)))
theorem laws_eqCountedRelation_s {a0 : Int × (List (List Int)) × (List Int)} {a1 : Int × (List (List Int)) × (List Int)} {r : Bool} (h : laws_eqCountedRelation a0 a1 = some r) : SoundAt Try.prog 197 [.agg [.int .i64 a0.1, .dat a0.2.1.length (a0.2.1.flatMap c25_d), .dat a0.2.2.length (a0.2.2.flatMap ci64)], .agg [.int .i64 a1.1, .dat a1.2.1.length (a1.2.1.flatMap c25_d), .dat a1.2.2.length (a1.2.2.flatMap ci64)]] (.bool r) := by
  unfold laws_eqCountedRelation at h
  refine sound_lit tbOk lit197 (Nat.le_of_ble_eq_true rfl) rfl ?_
  unfold c197
  refine ls_keep [(0, .agg [.int .i64 a0.1, .dat a0.2.1.length (a0.2.1.flatMap c25_d), .dat a0.2.2.length (a0.2.2.flatMap ci64)]), (1, .agg [.int .i64 a1.1, .dat a1.2.1.length (a1.2.1.flatMap c25_d), .dat a1.2.2.length (a1.2.2.flatMap ci64)])] ⟨kr, kr, trivial⟩ rfl ?_
  refine ls_rs tbOk ?_
  refine evs (ev_bx (c1 := .agg [.int .i64 a0.1, .dat a0.2.1.length (a0.2.1.flatMap c25_d), .dat a0.2.2.length (a0.2.2.flatMap ci64)]) rfl rfl rfl (evs (ev_bx (c1 := .agg [.int .i64 a1.1, .dat a1.2.1.length (a1.2.1.flatMap c25_d), .dat a1.2.2.length (a1.2.2.flatMap ci64)]) rfl rfl rfl (evs (ev_ac rfl nofun rfl (evn ?_))))))
  refine ls_keep [(2, .box [.int .i64 a0.1, .dat a0.2.1.length (a0.2.1.flatMap c25_d), .dat a0.2.2.length (a0.2.2.flatMap ci64)]), (3, .box [.int .i64 a1.1, .dat a1.2.1.length (a1.2.1.flatMap c25_d), .dat a1.2.2.length (a1.2.2.flatMap ci64)])] ⟨kr, kr, trivial⟩ rfl ?_
  refine ls_seq_k fun K1 hK1 => ?_
  refine ls_rs tbOk ?_
  refine evs (ev_fa (c1 := .cref 2 0) (v := .cref 2 0) rfl rfl rfl ⟨_, rfl⟩ rfl (evs (ev_ldB (off := 0) (v := .int .i64 a0.1) rfl rfl rfl rfl (Nat.le_of_ble_eq_true rfl) rfl (evs (ev_fa (c1 := .cref 3 0) (v := .cref 3 0) rfl rfl rfl ⟨_, rfl⟩ rfl (evs (ev_ldB (off := 0) (v := .int .i64 a1.1) rfl rfl rfl rfl (Nat.le_of_ble_eq_true rfl) rfl (evs (ev_bin (c1 := .int .i64 a0.1) (c2 := .int .i64 a1.1) rfl rfl rfl (evn ?_))))))))))
  refine ls_keep [(2, .box [.int .i64 a0.1, .dat a0.2.1.length (a0.2.1.flatMap c25_d), .dat a0.2.2.length (a0.2.2.flatMap ci64)]), (3, .box [.int .i64 a1.1, .dat a1.2.1.length (a1.2.1.flatMap c25_d), .dat a1.2.2.length (a1.2.2.flatMap ci64)]), (9, .bool (a0.1 != a1.1))] ⟨kr, kr, kr, trivial⟩ rfl ?_
  rcases cond_some h with ⟨g2, h⟩ | ⟨g2, h⟩
  · refine ls_cT rfl g2 ?_
    refine ls_rs tbOk ?_
    refine evs (ev_ac rfl nofun rfl (evn ?_))
    refine ls_keep [(4, .bool false)] ⟨kr, trivial⟩ rfl ?_
    refine ls_ret ?_
    have hr := Option.some.inj h
    rw [← hr]
    exact ⟨.inl rfl, rfl⟩
  · refine ls_cF rfl g2 ?_
    refine ls_skip ?_
    refine hK1 _ (ls_keep [(2, .box [.int .i64 a0.1, .dat a0.2.1.length (a0.2.1.flatMap c25_d), .dat a0.2.2.length (a0.2.2.flatMap ci64)]), (3, .box [.int .i64 a1.1, .dat a1.2.1.length (a1.2.1.flatMap c25_d), .dat a1.2.2.length (a1.2.2.flatMap ci64)])] ⟨kr, kr, trivial⟩ rfl ?_)
    refine ls_seq_k fun K3 hK3 => ?_
    refine ls_rs tbOk ?_
    refine evs (ev_fa (c1 := .cref 2 0) (v := .cref 2 1) rfl rfl rfl ⟨_, rfl⟩ rfl (evs (ev_ldB (off := 1) (v := .dat a0.2.1.length (a0.2.1.flatMap c25_d)) rfl rfl rfl rfl (Nat.le_of_ble_eq_true rfl) rfl (evs (ev_fa (c1 := .cref 3 0) (v := .cref 3 1) rfl rfl rfl ⟨_, rfl⟩ rfl (evs (ev_ldB (off := 1) (v := .dat a1.2.1.length (a1.2.1.flatMap c25_d)) rfl rfl rfl rfl (Nat.le_of_ble_eq_true rfl) rfl (?_))))))))
    obtain ⟨v4, g5, h⟩ := ob_some h
    refine evs (ev_call (era rfl (erD ec25_d _) (era rfl (erD ec25_d _) eran)) (laws_eqIntSS_s g5) (evs (ev_un (c1 := .bool v4) rfl trivial (evn ?_))))
    refine ls_keep [(2, .box [.int .i64 a0.1, .dat a0.2.1.length (a0.2.1.flatMap c25_d), .dat a0.2.2.length (a0.2.2.flatMap ci64)]), (3, .box [.int .i64 a1.1, .dat a1.2.1.length (a1.2.1.flatMap c25_d), .dat a1.2.2.length (a1.2.2.flatMap ci64)]), (15, .bool (!v4))] ⟨kr, kr, kr, trivial⟩ rfl ?_
    rcases cond_some h with ⟨g6, h⟩ | ⟨g6, h⟩
    · refine ls_cT rfl g6 ?_
      refine ls_rs tbOk ?_
      refine evs (ev_ac rfl nofun rfl (evn ?_))
      refine ls_keep [(4, .bool false)] ⟨kr, trivial⟩ rfl ?_
      refine ls_ret ?_
      have hr := Option.some.inj h
      rw [← hr]
      exact ⟨.inl rfl, rfl⟩
    · refine ls_cF rfl g6 ?_
      refine ls_skip ?_
      refine hK3 _ (ls_keep [(2, .box [.int .i64 a0.1, .dat a0.2.1.length (a0.2.1.flatMap c25_d), .dat a0.2.2.length (a0.2.2.flatMap ci64)]), (3, .box [.int .i64 a1.1, .dat a1.2.1.length (a1.2.1.flatMap c25_d), .dat a1.2.2.length (a1.2.2.flatMap ci64)])] ⟨kr, kr, trivial⟩ rfl ?_)
      refine ls_seq_k fun K7 hK7 => ?_
      refine ls_rs tbOk ?_
      refine evs (ev_fa (c1 := .cref 2 0) (v := .cref 2 2) rfl rfl rfl ⟨_, rfl⟩ rfl (evs (ev_ldB (off := 2) (v := .dat a0.2.2.length (a0.2.2.flatMap ci64)) rfl rfl rfl rfl (Nat.le_of_ble_eq_true rfl) rfl (evs (ev_fa (c1 := .cref 3 0) (v := .cref 3 2) rfl rfl rfl ⟨_, rfl⟩ rfl (evs (ev_ldB (off := 2) (v := .dat a1.2.2.length (a1.2.2.flatMap ci64)) rfl rfl rfl rfl (Nat.le_of_ble_eq_true rfl) rfl (?_))))))))
      obtain ⟨v8, g9, h⟩ := ob_some h
      refine evs (ev_call (era rfl (erD eci64 _) (era rfl (erD eci64 _) eran)) (laws_eqIntS_s g9) (evs (ev_un (c1 := .bool v8) rfl trivial (evn ?_))))
      refine ls_keep [(21, .bool (!v8))] ⟨kr, trivial⟩ rfl ?_
      rcases cond_some h with ⟨g10, h⟩ | ⟨g10, h⟩
      · refine ls_cT rfl g10 ?_
        refine ls_rs tbOk ?_
        refine evs (ev_ac rfl nofun rfl (evn ?_))
        refine ls_keep [(4, .bool false)] ⟨kr, trivial⟩ rfl ?_
        refine ls_ret ?_
        have hr := Option.some.inj h
        rw [← hr]
        exact ⟨.inl rfl, rfl⟩
      · refine ls_cF rfl g10 ?_
        refine ls_skip ?_
        refine hK7 _ (ls_keep [] trivial rfl ?_)
        refine ls_rs tbOk ?_
        refine evs (ev_ac rfl nofun rfl (evn ?_))
        refine ls_keep [(4, .bool true)] ⟨kr, trivial⟩ rfl ?_
        refine ls_ret ?_
        have hr := Option.some.inj h
        rw [← hr]
        exact ⟨.inl rfl, rfl⟩
def laws_eqView (a0 : (Int × (List ((List UInt8) × (List Int))) × (List Int)) × (Int × (List (List Int)) × (List Int))) (a1 : (Int × (List ((List UInt8) × (List Int))) × (List Int)) × (Int × (List (List Int)) × (List Int))) : Option (Bool) := obind (laws_eqQuery a0.1 a1.1) fun v2 => cond (!v2) (some false) (obind (laws_eqCountedRelation a0.2 a1.2) fun v6 => cond (!v6) (some false) (some true))
theorem laws_eqView_s {a0 : (Int × (List ((List UInt8) × (List Int))) × (List Int)) × (Int × (List (List Int)) × (List Int))} {a1 : (Int × (List ((List UInt8) × (List Int))) × (List Int)) × (Int × (List (List Int)) × (List Int))} {r : Bool} (h : laws_eqView a0 a1 = some r) : SoundAt Try.prog 196 [.agg [.int .i64 a0.1.1, .dat a0.1.2.1.length (a0.1.2.1.flatMap c195_d), .dat a0.1.2.2.length (a0.1.2.2.flatMap ci64), .int .i64 a0.2.1, .dat a0.2.2.1.length (a0.2.2.1.flatMap c25_d), .dat a0.2.2.2.length (a0.2.2.2.flatMap ci64)], .agg [.int .i64 a1.1.1, .dat a1.1.2.1.length (a1.1.2.1.flatMap c195_d), .dat a1.1.2.2.length (a1.1.2.2.flatMap ci64), .int .i64 a1.2.1, .dat a1.2.2.1.length (a1.2.2.1.flatMap c25_d), .dat a1.2.2.2.length (a1.2.2.2.flatMap ci64)]] (.bool r) := by
  unfold laws_eqView at h
  refine sound_lit tbOk lit196 (Nat.le_of_ble_eq_true rfl) rfl ?_
  unfold c196
  refine ls_keep [(0, .agg [.int .i64 a0.1.1, .dat a0.1.2.1.length (a0.1.2.1.flatMap c195_d), .dat a0.1.2.2.length (a0.1.2.2.flatMap ci64), .int .i64 a0.2.1, .dat a0.2.2.1.length (a0.2.2.1.flatMap c25_d), .dat a0.2.2.2.length (a0.2.2.2.flatMap ci64)]), (1, .agg [.int .i64 a1.1.1, .dat a1.1.2.1.length (a1.1.2.1.flatMap c195_d), .dat a1.1.2.2.length (a1.1.2.2.flatMap ci64), .int .i64 a1.2.1, .dat a1.2.2.1.length (a1.2.2.1.flatMap c25_d), .dat a1.2.2.2.length (a1.2.2.2.flatMap ci64)])] ⟨kr, kr, trivial⟩ rfl ?_
  refine ls_rs tbOk ?_
  refine evs (ev_bx (c1 := .agg [.int .i64 a0.1.1, .dat a0.1.2.1.length (a0.1.2.1.flatMap c195_d), .dat a0.1.2.2.length (a0.1.2.2.flatMap ci64), .int .i64 a0.2.1, .dat a0.2.2.1.length (a0.2.2.1.flatMap c25_d), .dat a0.2.2.2.length (a0.2.2.2.flatMap ci64)]) rfl rfl rfl (evs (ev_bx (c1 := .agg [.int .i64 a1.1.1, .dat a1.1.2.1.length (a1.1.2.1.flatMap c195_d), .dat a1.1.2.2.length (a1.1.2.2.flatMap ci64), .int .i64 a1.2.1, .dat a1.2.2.1.length (a1.2.2.1.flatMap c25_d), .dat a1.2.2.2.length (a1.2.2.2.flatMap ci64)]) rfl rfl rfl (evs (ev_ac rfl nofun rfl (evn ?_))))))
  refine ls_keep [(2, .box [.int .i64 a0.1.1, .dat a0.1.2.1.length (a0.1.2.1.flatMap c195_d), .dat a0.1.2.2.length (a0.1.2.2.flatMap ci64), .int .i64 a0.2.1, .dat a0.2.2.1.length (a0.2.2.1.flatMap c25_d), .dat a0.2.2.2.length (a0.2.2.2.flatMap ci64)]), (3, .box [.int .i64 a1.1.1, .dat a1.1.2.1.length (a1.1.2.1.flatMap c195_d), .dat a1.1.2.2.length (a1.1.2.2.flatMap ci64), .int .i64 a1.2.1, .dat a1.2.2.1.length (a1.2.2.1.flatMap c25_d), .dat a1.2.2.2.length (a1.2.2.2.flatMap ci64)])] ⟨kr, kr, trivial⟩ rfl ?_
  refine ls_seq_k fun K1 hK1 => ?_
  refine ls_rs tbOk ?_
  refine evs (ev_fa (c1 := .cref 2 0) (v := .cref 2 0) rfl rfl rfl ⟨_, rfl⟩ rfl (evs (ev_ldB (off := 0) (v := .agg [.int .i64 a0.1.1, .dat a0.1.2.1.length (a0.1.2.1.flatMap c195_d), .dat a0.1.2.2.length (a0.1.2.2.flatMap ci64)]) rfl rfl rfl rfl (Nat.le_of_ble_eq_true rfl) rfl (evs (ev_fa (c1 := .cref 3 0) (v := .cref 3 0) rfl rfl rfl ⟨_, rfl⟩ rfl (evs (ev_ldB (off := 0) (v := .agg [.int .i64 a1.1.1, .dat a1.1.2.1.length (a1.1.2.1.flatMap c195_d), .dat a1.1.2.2.length (a1.1.2.2.flatMap ci64)]) rfl rfl rfl rfl (Nat.le_of_ble_eq_true rfl) rfl (?_))))))))
  obtain ⟨v2, g3, h⟩ := ob_some h
  refine evs (ev_call (era rfl (erg (erc rfl (erc (erD ec195_d _) (erc (erD eci64 _) rfl)))) (era rfl (erg (erc rfl (erc (erD ec195_d _) (erc (erD eci64 _) rfl)))) eran)) (laws_eqQuery_s g3) (evs (ev_un (c1 := .bool v2) rfl trivial (evn ?_))))
  refine ls_keep [(2, .box [.int .i64 a0.1.1, .dat a0.1.2.1.length (a0.1.2.1.flatMap c195_d), .dat a0.1.2.2.length (a0.1.2.2.flatMap ci64), .int .i64 a0.2.1, .dat a0.2.2.1.length (a0.2.2.1.flatMap c25_d), .dat a0.2.2.2.length (a0.2.2.2.flatMap ci64)]), (3, .box [.int .i64 a1.1.1, .dat a1.1.2.1.length (a1.1.2.1.flatMap c195_d), .dat a1.1.2.2.length (a1.1.2.2.flatMap ci64), .int .i64 a1.2.1, .dat a1.2.2.1.length (a1.2.2.1.flatMap c25_d), .dat a1.2.2.2.length (a1.2.2.2.flatMap ci64)]), (10, .bool (!v2))] ⟨kr, kr, kr, trivial⟩ rfl ?_
  rcases cond_some h with ⟨g4, h⟩ | ⟨g4, h⟩
  · refine ls_cT rfl g4 ?_
    refine ls_rs tbOk ?_
    refine evs (ev_ac rfl nofun rfl (evn ?_))
    refine ls_keep [(4, .bool false)] ⟨kr, trivial⟩ rfl ?_
    refine ls_ret ?_
    have hr := Option.some.inj h
    rw [← hr]
    exact ⟨.inl rfl, rfl⟩
  · refine ls_cF rfl g4 ?_
    refine ls_skip ?_
    refine hK1 _ (ls_keep [(2, .box [.int .i64 a0.1.1, .dat a0.1.2.1.length (a0.1.2.1.flatMap c195_d), .dat a0.1.2.2.length (a0.1.2.2.flatMap ci64), .int .i64 a0.2.1, .dat a0.2.2.1.length (a0.2.2.1.flatMap c25_d), .dat a0.2.2.2.length (a0.2.2.2.flatMap ci64)]), (3, .box [.int .i64 a1.1.1, .dat a1.1.2.1.length (a1.1.2.1.flatMap c195_d), .dat a1.1.2.2.length (a1.1.2.2.flatMap ci64), .int .i64 a1.2.1, .dat a1.2.2.1.length (a1.2.2.1.flatMap c25_d), .dat a1.2.2.2.length (a1.2.2.2.flatMap ci64)])] ⟨kr, kr, trivial⟩ rfl ?_)
    refine ls_seq_k fun K5 hK5 => ?_
    refine ls_rs tbOk ?_
    refine evs (ev_fa (c1 := .cref 2 0) (v := .cref 2 3) rfl rfl rfl ⟨_, rfl⟩ rfl (evs (ev_ldB (off := 3) (v := .agg [.int .i64 a0.2.1, .dat a0.2.2.1.length (a0.2.2.1.flatMap c25_d), .dat a0.2.2.2.length (a0.2.2.2.flatMap ci64)]) rfl rfl rfl rfl (Nat.le_of_ble_eq_true rfl) rfl (evs (ev_fa (c1 := .cref 3 0) (v := .cref 3 3) rfl rfl rfl ⟨_, rfl⟩ rfl (evs (ev_ldB (off := 3) (v := .agg [.int .i64 a1.2.1, .dat a1.2.2.1.length (a1.2.2.1.flatMap c25_d), .dat a1.2.2.2.length (a1.2.2.2.flatMap ci64)]) rfl rfl rfl rfl (Nat.le_of_ble_eq_true rfl) rfl (?_))))))))
    obtain ⟨v6, g7, h⟩ := ob_some h
    refine evs (ev_call (era rfl (erg (erc rfl (erc (erD ec25_d _) (erc (erD eci64 _) rfl)))) (era rfl (erg (erc rfl (erc (erD ec25_d _) (erc (erD eci64 _) rfl)))) eran)) (laws_eqCountedRelation_s g7) (evs (ev_un (c1 := .bool v6) rfl trivial (evn ?_))))
    refine ls_keep [(16, .bool (!v6))] ⟨kr, trivial⟩ rfl ?_
    rcases cond_some h with ⟨g8, h⟩ | ⟨g8, h⟩
    · refine ls_cT rfl g8 ?_
      refine ls_rs tbOk ?_
      refine evs (ev_ac rfl nofun rfl (evn ?_))
      refine ls_keep [(4, .bool false)] ⟨kr, trivial⟩ rfl ?_
      refine ls_ret ?_
      have hr := Option.some.inj h
      rw [← hr]
      exact ⟨.inl rfl, rfl⟩
    · refine ls_cF rfl g8 ?_
      refine ls_skip ?_
      refine hK5 _ (ls_keep [] trivial rfl ?_)
      refine ls_rs tbOk ?_
      refine evs (ev_ac rfl nofun rfl (evn ?_))
      refine ls_keep [(4, .bool true)] ⟨kr, trivial⟩ rfl ?_
      refine ls_ret ?_
      have hr := Option.some.inj h
      rw [← hr]
      exact ⟨.inl rfl, rfl⟩
def laws_eqViewS_B1 (a0 : List ((Int × (List ((List UInt8) × (List Int))) × (List Int)) × (Int × (List (List Int)) × (List Int)))) (a1 : List ((Int × (List ((List UInt8) × (List Int))) × (List Int)) × (Int × (List (List Int)) × (List Int)))) (rec : Int → Option (Sum (Unit) (Bool))) (y1 : Int) : Option (Sum (Unit) (Bool)) := cond (decide (y1 < (List.length a0 : Int))) (obind (geti a0 y1) fun e7 => obind (geti a1 y1) fun e9 => obind (laws_eqView e7 e9) fun v11 => cond (!v11) (some (.inr false)) (rec (IntKind.i64.wrap (y1 + 1)))) (some (.inl ()))
def laws_eqViewS (a0 : List ((Int × (List ((List UInt8) × (List Int))) × (List Int)) × (Int × (List (List Int)) × (List Int)))) (a1 : List ((Int × (List ((List UInt8) × (List Int))) × (List Int)) × (Int × (List (List Int)) × (List Int)))) : Option (Bool) := cond ((List.length a0 : Int) != (List.length a1 : Int)) (some false) (obind (loopF (laws_eqViewS_B1 a0 a1) fz 0) fun o1 => (match o1 with
  | .inl _ => (some true)
  | .inr r => some r))
theorem laws_eqViewS_s {a0 : List ((Int × (List ((List UInt8) × (List Int))) × (List Int)) × (Int × (List (List Int)) × (List Int)))} {a1 : List ((Int × (List ((List UInt8) × (List Int))) × (List Int)) × (Int × (List (List Int)) × (List Int)))} {r : Bool} (h : laws_eqViewS a0 a1 = some r) : SoundAt Try.prog 118 [.dat a0.length (a0.flatMap c161_dddddd), .dat a1.length (a1.flatMap c161_dddddd)] (.bool r) := by
  unfold laws_eqViewS at h
  refine sound_lit tbOk lit118 (Nat.le_of_ble_eq_true rfl) rfl ?_
  unfold c118
  refine ls_keep [(0, .dat a0.length (a0.flatMap c161_dddddd)), (1, .dat a1.length (a1.flatMap c161_dddddd))] ⟨kr, kr, trivial⟩ rfl ?_
  refine ls_rs tbOk ?_
  refine evs (ev_ac rfl nofun rfl (evn ?_))
  refine ls_keep [(0, .dat a0.length (a0.flatMap c161_dddddd)), (1, .dat a1.length (a1.flatMap c161_dddddd))] ⟨kr, kr, trivial⟩ rfl ?_
  refine ls_seq_k fun K1 hK1 => ?_
  refine ls_rs tbOk ?_
  refine evs (ev_mv (c := .dat a0.length (a0.flatMap c161_dddddd)) rfl rfl rfl (evs (ev_len (c1 := .dat a0.length (a0.flatMap c161_dddddd)) rfl rfl rfl (evs (ev_mv (c := .dat a1.length (a1.flatMap c161_dddddd)) rfl rfl rfl (evs (ev_len (c1 := .dat a1.length (a1.flatMap c161_dddddd)) rfl rfl rfl (evs (ev_bin (c1 := .int .i64 (List.length a0 : Int)) (c2 := .int .i64 (List.length a1 : Int)) rfl rfl rfl (evn ?_))))))))))
  refine ls_keep [(0, .dat a0.length (a0.flatMap c161_dddddd)), (1, .dat a1.length (a1.flatMap c161_dddddd)), (10, .bool ((List.length a0 : Int) != (List.length a1 : Int)))] ⟨kr, kr, kr, trivial⟩ rfl ?_
  rcases cond_some h with ⟨g2, h⟩ | ⟨g2, h⟩
  · refine ls_cT rfl g2 ?_
    refine ls_rs tbOk ?_
    refine evs (ev_ac rfl nofun rfl (evn ?_))
    refine ls_keep [(4, .bool false)] ⟨kr, trivial⟩ rfl ?_
    refine ls_ret ?_
    have hr := Option.some.inj h
    rw [← hr]
    exact ⟨.inl rfl, rfl⟩
  · refine ls_cF rfl g2 ?_
    refine ls_skip ?_
    refine hK1 _ (ls_keep [(0, .dat a0.length (a0.flatMap c161_dddddd)), (1, .dat a1.length (a1.flatMap c161_dddddd))] ⟨kr, kr, trivial⟩ rfl ?_)
    refine ls_seq_k fun K3 hK3 => ?_
    refine ls_rs tbOk ?_
    refine evs (ev_ac rfl nofun rfl (evn ?_))
    refine ls_keep [(0, .dat a0.length (a0.flatMap c161_dddddd)), (1, .dat a1.length (a1.flatMap c161_dddddd)), (5, .int .i64 0)] ⟨kr, kr, kr, trivial⟩ rfl ?_
    obtain ⟨o1, hl, hr1⟩ := ob_some h
    clear h
    have kXlaws_eqViewS_B1 : ∀ (_ : Unit), (some true) = some r → ∀ σ' : PS, okK σ' [] → K3 σ' := by
      intro _ h σ' hk
      refine hK3 _ (ls_keep [] hk rfl ?_)
      refine ls_rs tbOk ?_
      refine evs (ev_ac rfl nofun rfl (evn ?_))
      refine ls_keep [(4, .bool true)] ⟨kr, trivial⟩ rfl ?_
      refine ls_ret ?_
      have hr := Option.some.inj h
      rw [← hr]
      exact ⟨.inl rfl, rfl⟩
    refine ls_rec (fun (y1 : Int) => [(0, .dat a0.length (a0.flatMap c161_dddddd)), (1, .dat a1.length (a1.flatMap c161_dddddd)), (5, .int .i64 y1)]) (laws_eqViewS_B1 a0 a1) fz 0 o1 hl ⟨kr, kr, kr, trivial⟩ (fun _ => rfl) ?_
    rintro m y1 N h hN
    unfold laws_eqViewS_B1 at h
    refine ls_seq_k fun K4 hK4 => ?_
    refine ls_rs tbOk ?_
    refine evs (ev_mv (c := .int .i64 y1) rfl rfl rfl (evs (ev_mv (c := .dat a0.length (a0.flatMap c161_dddddd)) rfl rfl rfl (evs (ev_len (c1 := .dat a0.length (a0.flatMap c161_dddddd)) rfl rfl rfl (evs (ev_bin (c1 := .int .i64 y1) (c2 := .int .i64 (List.length a0 : Int)) rfl rfl rfl (evn ?_))))))))
    refine ls_keep [(0, .dat a0.length (a0.flatMap c161_dddddd)), (1, .dat a1.length (a1.flatMap c161_dddddd)), (5, .int .i64 y1), (14, .bool (decide (y1 < (List.length a0 : Int))))] ⟨kr, kr, kr, kr, trivial⟩ rfl ?_
    rcases cond_some h with ⟨g5, h⟩ | ⟨g5, h⟩
    · refine ls_cT rfl g5 ?_
      refine ls_skip ?_
      refine hK4 _ (ls_keep [(0, .dat a0.length (a0.flatMap c161_dddddd)), (1, .dat a1.length (a1.flatMap c161_dddddd)), (5, .int .i64 y1)] ⟨kr, kr, kr, trivial⟩ rfl ?_)
      refine ls_seq_k fun K6 hK6 => ?_
      refine ls_blk ?_
      refine ls_rd tbOk mixed (by kernel_rfl) ?_
      refine evd rfl rfl (ev_mv (c := .dat a0.length (a0.flatMap c161_dddddd)) rfl rfl rfl (evd rfl rfl (ev_mv (c := .int .i64 y1) rfl rfl rfl (?_))))
      obtain ⟨e7, g8, h⟩ := ob_some h
      refine evd rfl rfl (ev_ia rfl rfl rfl ⟨(geti_some g8).1, (geti_some g8).2.1⟩ (evd rfl rfl (ev_ldE (i := y1) (n := 6) (off := 0) (v := .agg [.int .i64 e7.1.1, .dat e7.1.2.1.length (e7.1.2.1.flatMap c195_d), .dat e7.1.2.2.length (e7.1.2.2.flatMap ci64), .int .i64 e7.2.1, .dat e7.2.2.1.length (e7.2.2.1.flatMap c25_d), .dat e7.2.2.2.length (e7.2.2.2.flatMap ci64)]) rfl rfl zc161_dddddd g8 rfl (Nat.le_of_ble_eq_true rfl) rfl (evd rfl rfl (ev_mv (c := .dat a1.length (a1.flatMap c161_dddddd)) rfl rfl rfl (evd rfl rfl (ev_mv (c := .int .i64 y1) rfl rfl rfl (?_))))))))
      obtain ⟨e9, g10, h⟩ := ob_some h
      refine evd rfl rfl (ev_ia rfl rfl rfl ⟨(geti_some g10).1, (geti_some g10).2.1⟩ (evd rfl rfl (ev_ldE (i := y1) (n := 6) (off := 0) (v := .agg [.int .i64 e9.1.1, .dat e9.1.2.1.length (e9.1.2.1.flatMap c195_d), .dat e9.1.2.2.length (e9.1.2.2.flatMap ci64), .int .i64 e9.2.1, .dat e9.2.2.1.length (e9.2.2.1.flatMap c25_d), .dat e9.2.2.2.length (e9.2.2.2.flatMap ci64)]) rfl rfl zc161_dddddd g10 rfl (Nat.le_of_ble_eq_true rfl) rfl (?_))))
      obtain ⟨v11, g12, h⟩ := ob_some h
      refine evd rfl rfl (ev_call (era rfl (erg (erc rfl (erc (erD ec195_d _) (erc (erD eci64 _) (erc rfl (erc (erD ec25_d _) (erc (erD eci64 _) rfl))))))) (era rfl (erg (erc rfl (erc (erD ec195_d _) (erc (erD eci64 _) (erc rfl (erc (erD ec25_d _) (erc (erD eci64 _) rfl))))))) eran)) (laws_eqView_s g12) (evd rfl rfl (ev_un (c1 := .bool v11) rfl trivial (evdn ?_))))
      refine ls_keep [(0, .dat a0.length (a0.flatMap c161_dddddd)), (1, .dat a1.length (a1.flatMap c161_dddddd)), (5, .int .i64 y1), (26, .bool (!v11))] ⟨kr, kr, kr, kr, trivial⟩ rfl ?_
      rcases cond_some h with ⟨g13, h⟩ | ⟨g13, h⟩
      · refine ls_cT rfl g13 ?_
        refine ls_rs tbOk ?_
        refine evs (ev_ac rfl nofun rfl (evn ?_))
        refine ls_keep [(4, .bool false)] ⟨kr, trivial⟩ rfl ?_
        refine ls_ret ?_
        have q0 := (Option.some.inj h).symm
        have r0 := hr1
        rw [q0] at r0
        have hr := Option.some.inj r0
        rw [← hr]
        exact ⟨.inl rfl, rfl⟩
      · refine ls_cF rfl g13 ?_
        refine ls_skip ?_
        refine hK6 _ (ls_keep [(0, .dat a0.length (a0.flatMap c161_dddddd)), (1, .dat a1.length (a1.flatMap c161_dddddd)), (5, .int .i64 y1)] ⟨kr, kr, kr, trivial⟩ rfl ?_)
        refine ls_rgn tbOk ?_
        refine evs (ev_mv (c := .int .i64 y1) rfl rfl rfl (evs (ev_bin (c1 := .int .i64 y1) (c2 := .int .i64 1) rfl rfl rfl (evs (ev_as (c := .int .i64 (IntKind.i64.wrap (y1 + 1))) rfl rfl rfl (evn ?_))))))
        exact hN _ (IntKind.i64.wrap (y1 + 1)) h ⟨kr, kr, kr, trivial⟩
    · refine ls_cF rfl g5 ?_
      refine ls_exit ?_
      have q0 := (Option.some.inj h).symm
      have r0 := hr1
      rw [q0] at r0
      exact kXlaws_eqViewS_B1 () r0 _ trivial
def laws_eqCountedRelationS_B1 (a0 : List (Int × (List (List Int)) × (List Int))) (a1 : List (Int × (List (List Int)) × (List Int))) (rec : Int → Option (Sum (Unit) (Bool))) (y1 : Int) : Option (Sum (Unit) (Bool)) := cond (decide (y1 < (List.length a0 : Int))) (obind (geti a0 y1) fun e7 => obind (geti a1 y1) fun e9 => obind (laws_eqCountedRelation e7 e9) fun v11 => cond (!v11) (some (.inr false)) (rec (IntKind.i64.wrap (y1 + 1)))) (some (.inl ()))
def laws_eqCountedRelationS (a0 : List (Int × (List (List Int)) × (List Int))) (a1 : List (Int × (List (List Int)) × (List Int))) : Option (Bool) := cond ((List.length a0 : Int) != (List.length a1 : Int)) (some false) (obind (loopF (laws_eqCountedRelationS_B1 a0 a1) fz 0) fun o1 => (match o1 with
  | .inl _ => (some true)
  | .inr r => some r))
theorem laws_eqCountedRelationS_s {a0 : List (Int × (List (List Int)) × (List Int))} {a1 : List (Int × (List (List Int)) × (List Int))} {r : Bool} (h : laws_eqCountedRelationS a0 a1 = some r) : SoundAt Try.prog 119 [.dat a0.length (a0.flatMap c159_ddd), .dat a1.length (a1.flatMap c159_ddd)] (.bool r) := by
  unfold laws_eqCountedRelationS at h
  refine sound_lit tbOk lit119 (Nat.le_of_ble_eq_true rfl) rfl ?_
  unfold c119
  refine ls_keep [(0, .dat a0.length (a0.flatMap c159_ddd)), (1, .dat a1.length (a1.flatMap c159_ddd))] ⟨kr, kr, trivial⟩ rfl ?_
  refine ls_rs tbOk ?_
  refine evs (ev_ac rfl nofun rfl (evn ?_))
  refine ls_keep [(0, .dat a0.length (a0.flatMap c159_ddd)), (1, .dat a1.length (a1.flatMap c159_ddd))] ⟨kr, kr, trivial⟩ rfl ?_
  refine ls_seq_k fun K1 hK1 => ?_
  refine ls_rs tbOk ?_
  refine evs (ev_mv (c := .dat a0.length (a0.flatMap c159_ddd)) rfl rfl rfl (evs (ev_len (c1 := .dat a0.length (a0.flatMap c159_ddd)) rfl rfl rfl (evs (ev_mv (c := .dat a1.length (a1.flatMap c159_ddd)) rfl rfl rfl (evs (ev_len (c1 := .dat a1.length (a1.flatMap c159_ddd)) rfl rfl rfl (evs (ev_bin (c1 := .int .i64 (List.length a0 : Int)) (c2 := .int .i64 (List.length a1 : Int)) rfl rfl rfl (evn ?_))))))))))
  refine ls_keep [(0, .dat a0.length (a0.flatMap c159_ddd)), (1, .dat a1.length (a1.flatMap c159_ddd)), (10, .bool ((List.length a0 : Int) != (List.length a1 : Int)))] ⟨kr, kr, kr, trivial⟩ rfl ?_
  rcases cond_some h with ⟨g2, h⟩ | ⟨g2, h⟩
  · refine ls_cT rfl g2 ?_
    refine ls_rs tbOk ?_
    refine evs (ev_ac rfl nofun rfl (evn ?_))
    refine ls_keep [(4, .bool false)] ⟨kr, trivial⟩ rfl ?_
    refine ls_ret ?_
    have hr := Option.some.inj h
    rw [← hr]
    exact ⟨.inl rfl, rfl⟩
  · refine ls_cF rfl g2 ?_
    refine ls_skip ?_
    refine hK1 _ (ls_keep [(0, .dat a0.length (a0.flatMap c159_ddd)), (1, .dat a1.length (a1.flatMap c159_ddd))] ⟨kr, kr, trivial⟩ rfl ?_)
    refine ls_seq_k fun K3 hK3 => ?_
    refine ls_rs tbOk ?_
    refine evs (ev_ac rfl nofun rfl (evn ?_))
    refine ls_keep [(0, .dat a0.length (a0.flatMap c159_ddd)), (1, .dat a1.length (a1.flatMap c159_ddd)), (5, .int .i64 0)] ⟨kr, kr, kr, trivial⟩ rfl ?_
    obtain ⟨o1, hl, hr1⟩ := ob_some h
    clear h
    have kXlaws_eqCountedRelationS_B1 : ∀ (_ : Unit), (some true) = some r → ∀ σ' : PS, okK σ' [] → K3 σ' := by
      intro _ h σ' hk
      refine hK3 _ (ls_keep [] hk rfl ?_)
      refine ls_rs tbOk ?_
      refine evs (ev_ac rfl nofun rfl (evn ?_))
      refine ls_keep [(4, .bool true)] ⟨kr, trivial⟩ rfl ?_
      refine ls_ret ?_
      have hr := Option.some.inj h
      rw [← hr]
      exact ⟨.inl rfl, rfl⟩
    refine ls_rec (fun (y1 : Int) => [(0, .dat a0.length (a0.flatMap c159_ddd)), (1, .dat a1.length (a1.flatMap c159_ddd)), (5, .int .i64 y1)]) (laws_eqCountedRelationS_B1 a0 a1) fz 0 o1 hl ⟨kr, kr, kr, trivial⟩ (fun _ => rfl) ?_
    rintro m y1 N h hN
    unfold laws_eqCountedRelationS_B1 at h
    refine ls_seq_k fun K4 hK4 => ?_
    refine ls_rs tbOk ?_
    refine evs (ev_mv (c := .int .i64 y1) rfl rfl rfl (evs (ev_mv (c := .dat a0.length (a0.flatMap c159_ddd)) rfl rfl rfl (evs (ev_len (c1 := .dat a0.length (a0.flatMap c159_ddd)) rfl rfl rfl (evs (ev_bin (c1 := .int .i64 y1) (c2 := .int .i64 (List.length a0 : Int)) rfl rfl rfl (evn ?_))))))))
    refine ls_keep [(0, .dat a0.length (a0.flatMap c159_ddd)), (1, .dat a1.length (a1.flatMap c159_ddd)), (5, .int .i64 y1), (14, .bool (decide (y1 < (List.length a0 : Int))))] ⟨kr, kr, kr, kr, trivial⟩ rfl ?_
    rcases cond_some h with ⟨g5, h⟩ | ⟨g5, h⟩
    · refine ls_cT rfl g5 ?_
      refine ls_skip ?_
      refine hK4 _ (ls_keep [(0, .dat a0.length (a0.flatMap c159_ddd)), (1, .dat a1.length (a1.flatMap c159_ddd)), (5, .int .i64 y1)] ⟨kr, kr, kr, trivial⟩ rfl ?_)
      refine ls_seq_k fun K6 hK6 => ?_
      refine ls_blk ?_
      refine ls_rd tbOk mixed (by kernel_rfl) ?_
      refine evd rfl rfl (ev_mv (c := .dat a0.length (a0.flatMap c159_ddd)) rfl rfl rfl (evd rfl rfl (ev_mv (c := .int .i64 y1) rfl rfl rfl (?_))))
      obtain ⟨e7, g8, h⟩ := ob_some h
      refine evd rfl rfl (ev_ia rfl rfl rfl ⟨(geti_some g8).1, (geti_some g8).2.1⟩ (evd rfl rfl (ev_ldE (i := y1) (n := 3) (off := 0) (v := .agg [.int .i64 e7.1, .dat e7.2.1.length (e7.2.1.flatMap c25_d), .dat e7.2.2.length (e7.2.2.flatMap ci64)]) rfl rfl zc159_ddd g8 rfl (Nat.le_of_ble_eq_true rfl) rfl (evd rfl rfl (ev_mv (c := .dat a1.length (a1.flatMap c159_ddd)) rfl rfl rfl (evd rfl rfl (ev_mv (c := .int .i64 y1) rfl rfl rfl (?_))))))))
      obtain ⟨e9, g10, h⟩ := ob_some h
      refine evd rfl rfl (ev_ia rfl rfl rfl ⟨(geti_some g10).1, (geti_some g10).2.1⟩ (evd rfl rfl (ev_ldE (i := y1) (n := 3) (off := 0) (v := .agg [.int .i64 e9.1, .dat e9.2.1.length (e9.2.1.flatMap c25_d), .dat e9.2.2.length (e9.2.2.flatMap ci64)]) rfl rfl zc159_ddd g10 rfl (Nat.le_of_ble_eq_true rfl) rfl (?_))))
      obtain ⟨v11, g12, h⟩ := ob_some h
      refine evd rfl rfl (ev_call (era rfl (erg (erc rfl (erc (erD ec25_d _) (erc (erD eci64 _) rfl)))) (era rfl (erg (erc rfl (erc (erD ec25_d _) (erc (erD eci64 _) rfl)))) eran)) (laws_eqCountedRelation_s g12) (evd rfl rfl (ev_un (c1 := .bool v11) rfl trivial (evdn ?_))))
      refine ls_keep [(0, .dat a0.length (a0.flatMap c159_ddd)), (1, .dat a1.length (a1.flatMap c159_ddd)), (5, .int .i64 y1), (26, .bool (!v11))] ⟨kr, kr, kr, kr, trivial⟩ rfl ?_
      rcases cond_some h with ⟨g13, h⟩ | ⟨g13, h⟩
      · refine ls_cT rfl g13 ?_
        refine ls_rs tbOk ?_
        refine evs (ev_ac rfl nofun rfl (evn ?_))
        refine ls_keep [(4, .bool false)] ⟨kr, trivial⟩ rfl ?_
        refine ls_ret ?_
        have q0 := (Option.some.inj h).symm
        have r0 := hr1
        rw [q0] at r0
        have hr := Option.some.inj r0
        rw [← hr]
        exact ⟨.inl rfl, rfl⟩
      · refine ls_cF rfl g13 ?_
        refine ls_skip ?_
        refine hK6 _ (ls_keep [(0, .dat a0.length (a0.flatMap c159_ddd)), (1, .dat a1.length (a1.flatMap c159_ddd)), (5, .int .i64 y1)] ⟨kr, kr, kr, trivial⟩ rfl ?_)
        refine ls_rgn tbOk ?_
        refine evs (ev_mv (c := .int .i64 y1) rfl rfl rfl (evs (ev_bin (c1 := .int .i64 y1) (c2 := .int .i64 1) rfl rfl rfl (evs (ev_as (c := .int .i64 (IntKind.i64.wrap (y1 + 1))) rfl rfl rfl (evn ?_))))))
        exact hN _ (IntKind.i64.wrap (y1 + 1)) h ⟨kr, kr, kr, trivial⟩
    · refine ls_cF rfl g5 ?_
      refine ls_exit ?_
      have q0 := (Option.some.inj h).symm
      have r0 := hr1
      rw [q0] at r0
      exact kXlaws_eqCountedRelationS_B1 () r0 _ trivial
def laws_eqNotifier (a0 : ((List ((List UInt8) × (Int × (List (List Int)))))) × (List ((Int × (List ((List UInt8) × (List Int))) × (List Int)) × (Int × (List (List Int)) × (List Int)))) × (List (Int × (List (List Int)) × (List Int)))) (a1 : ((List ((List UInt8) × (Int × (List (List Int)))))) × (List ((Int × (List ((List UInt8) × (List Int))) × (List Int)) × (Int × (List (List Int)) × (List Int)))) × (List (Int × (List (List Int)) × (List Int)))) : Option (Bool) := obind (laws_eqDatabase a0.1 a1.1) fun v2 => cond (!v2) (some false) (obind (laws_eqViewS a0.2.1 a1.2.1) fun v6 => cond (!v6) (some false) (obind (laws_eqCountedRelationS a0.2.2 a1.2.2) fun v10 => cond (!v10) (some false) (some true)))
theorem laws_eqNotifier_s {a0 : ((List ((List UInt8) × (Int × (List (List Int)))))) × (List ((Int × (List ((List UInt8) × (List Int))) × (List Int)) × (Int × (List (List Int)) × (List Int)))) × (List (Int × (List (List Int)) × (List Int)))} {a1 : ((List ((List UInt8) × (Int × (List (List Int)))))) × (List ((Int × (List ((List UInt8) × (List Int))) × (List Int)) × (Int × (List (List Int)) × (List Int)))) × (List (Int × (List (List Int)) × (List Int)))} {r : Bool} (h : laws_eqNotifier a0 a1 = some r) : SoundAt Try.prog 42 [.agg [.dat a0.1.length (a0.1.flatMap c208_dd), .dat a0.2.1.length (a0.2.1.flatMap c161_dddddd), .dat a0.2.2.length (a0.2.2.flatMap c159_ddd)], .agg [.dat a1.1.length (a1.1.flatMap c208_dd), .dat a1.2.1.length (a1.2.1.flatMap c161_dddddd), .dat a1.2.2.length (a1.2.2.flatMap c159_ddd)]] (.bool r) := by
  unfold laws_eqNotifier at h
  refine sound_lit tbOk lit42 (Nat.le_of_ble_eq_true rfl) rfl ?_
  unfold c42
  refine ls_keep [(0, .agg [.dat a0.1.length (a0.1.flatMap c208_dd), .dat a0.2.1.length (a0.2.1.flatMap c161_dddddd), .dat a0.2.2.length (a0.2.2.flatMap c159_ddd)]), (1, .agg [.dat a1.1.length (a1.1.flatMap c208_dd), .dat a1.2.1.length (a1.2.1.flatMap c161_dddddd), .dat a1.2.2.length (a1.2.2.flatMap c159_ddd)])] ⟨kr, kr, trivial⟩ rfl ?_
  refine ls_rs tbOk ?_
  refine evs (ev_bx (c1 := .agg [.dat a0.1.length (a0.1.flatMap c208_dd), .dat a0.2.1.length (a0.2.1.flatMap c161_dddddd), .dat a0.2.2.length (a0.2.2.flatMap c159_ddd)]) rfl rfl rfl (evs (ev_bx (c1 := .agg [.dat a1.1.length (a1.1.flatMap c208_dd), .dat a1.2.1.length (a1.2.1.flatMap c161_dddddd), .dat a1.2.2.length (a1.2.2.flatMap c159_ddd)]) rfl rfl rfl (evs (ev_ac rfl nofun rfl (evn ?_))))))
  refine ls_keep [(2, .box [.dat a0.1.length (a0.1.flatMap c208_dd), .dat a0.2.1.length (a0.2.1.flatMap c161_dddddd), .dat a0.2.2.length (a0.2.2.flatMap c159_ddd)]), (3, .box [.dat a1.1.length (a1.1.flatMap c208_dd), .dat a1.2.1.length (a1.2.1.flatMap c161_dddddd), .dat a1.2.2.length (a1.2.2.flatMap c159_ddd)])] ⟨kr, kr, trivial⟩ rfl ?_
  refine ls_seq_k fun K1 hK1 => ?_
  refine ls_rs tbOk ?_
  refine evs (ev_fa (c1 := .cref 2 0) (v := .cref 2 0) rfl rfl rfl ⟨_, rfl⟩ rfl (evs (ev_ldB (off := 0) (v := .agg [.dat a0.1.length (a0.1.flatMap c208_dd)]) rfl rfl rfl rfl (Nat.le_of_ble_eq_true rfl) rfl (evs (ev_fa (c1 := .cref 3 0) (v := .cref 3 0) rfl rfl rfl ⟨_, rfl⟩ rfl (evs (ev_ldB (off := 0) (v := .agg [.dat a1.1.length (a1.1.flatMap c208_dd)]) rfl rfl rfl rfl (Nat.le_of_ble_eq_true rfl) rfl (?_))))))))
  obtain ⟨v2, g3, h⟩ := ob_some h
  refine evs (ev_call (era rfl (erg (erc (erD ec208_dd _) rfl)) (era rfl (erg (erc (erD ec208_dd _) rfl)) eran)) (laws_eqDatabase_s g3) (evs (ev_un (c1 := .bool v2) rfl trivial (evn ?_))))
  refine ls_keep [(2, .box [.dat a0.1.length (a0.1.flatMap c208_dd), .dat a0.2.1.length (a0.2.1.flatMap c161_dddddd), .dat a0.2.2.length (a0.2.2.flatMap c159_ddd)]), (3, .box [.dat a1.1.length (a1.1.flatMap c208_dd), .dat a1.2.1.length (a1.2.1.flatMap c161_dddddd), .dat a1.2.2.length (a1.2.2.flatMap c159_ddd)]), (10, .bool (!v2))] ⟨kr, kr, kr, trivial⟩ rfl ?_
  rcases cond_some h with ⟨g4, h⟩ | ⟨g4, h⟩
  · refine ls_cT rfl g4 ?_
    refine ls_rs tbOk ?_
    refine evs (ev_ac rfl nofun rfl (evn ?_))
    refine ls_keep [(4, .bool false)] ⟨kr, trivial⟩ rfl ?_
    refine ls_ret ?_
    have hr := Option.some.inj h
    rw [← hr]
    exact ⟨.inl rfl, rfl⟩
  · refine ls_cF rfl g4 ?_
    refine ls_skip ?_
    refine hK1 _ (ls_keep [(2, .box [.dat a0.1.length (a0.1.flatMap c208_dd), .dat a0.2.1.length (a0.2.1.flatMap c161_dddddd), .dat a0.2.2.length (a0.2.2.flatMap c159_ddd)]), (3, .box [.dat a1.1.length (a1.1.flatMap c208_dd), .dat a1.2.1.length (a1.2.1.flatMap c161_dddddd), .dat a1.2.2.length (a1.2.2.flatMap c159_ddd)])] ⟨kr, kr, trivial⟩ rfl ?_)
    refine ls_seq_k fun K5 hK5 => ?_
    refine ls_rs tbOk ?_
    refine evs (ev_fa (c1 := .cref 2 0) (v := .cref 2 1) rfl rfl rfl ⟨_, rfl⟩ rfl (evs (ev_ldB (off := 1) (v := .dat a0.2.1.length (a0.2.1.flatMap c161_dddddd)) rfl rfl rfl rfl (Nat.le_of_ble_eq_true rfl) rfl (evs (ev_fa (c1 := .cref 3 0) (v := .cref 3 1) rfl rfl rfl ⟨_, rfl⟩ rfl (evs (ev_ldB (off := 1) (v := .dat a1.2.1.length (a1.2.1.flatMap c161_dddddd)) rfl rfl rfl rfl (Nat.le_of_ble_eq_true rfl) rfl (?_))))))))
    obtain ⟨v6, g7, h⟩ := ob_some h
    refine evs (ev_call (era rfl (erD ec161_dddddd _) (era rfl (erD ec161_dddddd _) eran)) (laws_eqViewS_s g7) (evs (ev_un (c1 := .bool v6) rfl trivial (evn ?_))))
    refine ls_keep [(2, .box [.dat a0.1.length (a0.1.flatMap c208_dd), .dat a0.2.1.length (a0.2.1.flatMap c161_dddddd), .dat a0.2.2.length (a0.2.2.flatMap c159_ddd)]), (3, .box [.dat a1.1.length (a1.1.flatMap c208_dd), .dat a1.2.1.length (a1.2.1.flatMap c161_dddddd), .dat a1.2.2.length (a1.2.2.flatMap c159_ddd)]), (16, .bool (!v6))] ⟨kr, kr, kr, trivial⟩ rfl ?_
    rcases cond_some h with ⟨g8, h⟩ | ⟨g8, h⟩
    · refine ls_cT rfl g8 ?_
      refine ls_rs tbOk ?_
      refine evs (ev_ac rfl nofun rfl (evn ?_))
      refine ls_keep [(4, .bool false)] ⟨kr, trivial⟩ rfl ?_
      refine ls_ret ?_
      have hr := Option.some.inj h
      rw [← hr]
      exact ⟨.inl rfl, rfl⟩
    · refine ls_cF rfl g8 ?_
      refine ls_skip ?_
      refine hK5 _ (ls_keep [(2, .box [.dat a0.1.length (a0.1.flatMap c208_dd), .dat a0.2.1.length (a0.2.1.flatMap c161_dddddd), .dat a0.2.2.length (a0.2.2.flatMap c159_ddd)]), (3, .box [.dat a1.1.length (a1.1.flatMap c208_dd), .dat a1.2.1.length (a1.2.1.flatMap c161_dddddd), .dat a1.2.2.length (a1.2.2.flatMap c159_ddd)])] ⟨kr, kr, trivial⟩ rfl ?_)
      refine ls_seq_k fun K9 hK9 => ?_
      refine ls_rs tbOk ?_
      refine evs (ev_fa (c1 := .cref 2 0) (v := .cref 2 2) rfl rfl rfl ⟨_, rfl⟩ rfl (evs (ev_ldB (off := 2) (v := .dat a0.2.2.length (a0.2.2.flatMap c159_ddd)) rfl rfl rfl rfl (Nat.le_of_ble_eq_true rfl) rfl (evs (ev_fa (c1 := .cref 3 0) (v := .cref 3 2) rfl rfl rfl ⟨_, rfl⟩ rfl (evs (ev_ldB (off := 2) (v := .dat a1.2.2.length (a1.2.2.flatMap c159_ddd)) rfl rfl rfl rfl (Nat.le_of_ble_eq_true rfl) rfl (?_))))))))
      obtain ⟨v10, g11, h⟩ := ob_some h
      refine evs (ev_call (era rfl (erD ec159_ddd _) (era rfl (erD ec159_ddd _) eran)) (laws_eqCountedRelationS_s g11) (evs (ev_un (c1 := .bool v10) rfl trivial (evn ?_))))
      refine ls_keep [(22, .bool (!v10))] ⟨kr, trivial⟩ rfl ?_
      rcases cond_some h with ⟨g12, h⟩ | ⟨g12, h⟩
      · refine ls_cT rfl g12 ?_
        refine ls_rs tbOk ?_
        refine evs (ev_ac rfl nofun rfl (evn ?_))
        refine ls_keep [(4, .bool false)] ⟨kr, trivial⟩ rfl ?_
        refine ls_ret ?_
        have hr := Option.some.inj h
        rw [← hr]
        exact ⟨.inl rfl, rfl⟩
      · refine ls_cF rfl g12 ?_
        refine ls_skip ?_
        refine hK9 _ (ls_keep [] trivial rfl ?_)
        refine ls_rs tbOk ?_
        refine evs (ev_ac rfl nofun rfl (evn ?_))
        refine ls_keep [(4, .bool true)] ⟨kr, trivial⟩ rfl ?_
        refine ls_ret ?_
        have hr := Option.some.inj h
        rw [← hr]
        exact ⟨.inl rfl, rfl⟩
def spec_l5Copy_B1 (a0 : Int × (List (List Int))) (rec : ((List (List Int)) × Int) → Option ((List (List Int)))) (s : (List (List Int)) × Int) : Option ((List (List Int))) := match s with
  | (y1, y2) => cond (decide (y2 < (List.length a0.2 : Int))) (obind (geti a0.2 y2) fun e6 => chk (List.length ([] : List Int) + List.length e6 ≤ lim) (chk (List.length y1 + List.length ([([] : List Int) ++ e6]) ≤ lim) (rec ((y1 ++ ([([] : List Int) ++ e6])), (IntKind.i64.wrap (y2 + 1)))))) (some y1)
def spec_l5Copy (a0 : Int × (List (List Int))) : Option ((Int × (List (List Int)))) := obind (loopF (spec_l5Copy_B1 a0) fz (([] : List (List Int)), 0)) fun z2 => some (a0.1, z2)
theorem spec_l5Copy_s {a0 : Int × (List (List Int))} {r : (Int × (List (List Int)))} (h : spec_l5Copy a0 = some r) : SoundAt Try.prog 172 [.agg [.int .i64 a0.1, .dat a0.2.length (a0.2.flatMap c25_d)]] (.agg [.int .i64 r.1, .own 25 r.2.length (r.2.flatMap c25_o)]) := by
  unfold spec_l5Copy at h
  refine sound_lit tbOk lit172 (Nat.le_of_ble_eq_true rfl) rfl ?_
  unfold c172
  refine ls_keep [(0, .agg [.int .i64 a0.1, .dat a0.2.length (a0.2.flatMap c25_d)])] ⟨kr, trivial⟩ rfl ?_
  refine ls_rs tbOk ?_
  refine evs (ev_bx (c1 := .agg [.int .i64 a0.1, .dat a0.2.length (a0.2.flatMap c25_d)]) rfl rfl rfl (evs (ev_al rfl rfl (evn ?_))))
  refine ls_keep [(1, .box [.int .i64 a0.1, .dat a0.2.length (a0.2.flatMap c25_d)]), (2, .box [.int .i64 0, .own 25 ([] : List (List Int)).length (([] : List (List Int)).flatMap c25_o)])] ⟨kr, kr, trivial⟩ rfl ?_
  refine ls_rs tbOk ?_
  refine evs (ev_fa (c1 := .cref 1 0) (v := .cref 1 0) rfl rfl rfl ⟨_, rfl⟩ rfl (evs (ev_ldB (off := 0) (v := .int .i64 a0.1) rfl rfl rfl rfl (Nat.le_of_ble_eq_true rfl) rfl (evs (ev_bd [.int .i64 a0.1] (cs := [.int .i64 a0.1, .own 25 ([] : List (List Int)).length (([] : List (List Int)).flatMap c25_o)]) rfl ⟨rfl, trivial⟩ rfl (evs (ev_al rfl rfl (evs (ev_st (off := 0) (c1 := .agg [.int .i64 a0.1, .own 25 ([] : List (List Int)).length (([] : List (List Int)).flatMap c25_o)]) (cs' := [.int .i64 a0.1, .own 25 ([] : List (List Int)).length (([] : List (List Int)).flatMap c25_o)]) rfl rfl rfl rfl rfl rfl (Nat.le_of_ble_eq_true rfl) rfl (evn ?_))))))))))
  refine ls_keep [(1, .box [.int .i64 a0.1, .dat a0.2.length (a0.2.flatMap c25_d)]), (2, .box [.int .i64 0, .own 25 ([] : List (List Int)).length (([] : List (List Int)).flatMap c25_o)]), (3, .box [.int .i64 a0.1, .own 25 ([] : List (List Int)).length (([] : List (List Int)).flatMap c25_o)])] ⟨kr, kr, kr, trivial⟩ rfl ?_
  refine ls_seq_k fun K1 hK1 => ?_
  refine ls_rs tbOk ?_
  refine evs (ev_ac rfl nofun rfl (evn ?_))
  refine ls_keep [(1, .box [.int .i64 a0.1, .dat a0.2.length (a0.2.flatMap c25_d)]), (2, .box [.int .i64 0, .own 25 ([] : List (List Int)).length (([] : List (List Int)).flatMap c25_o)]), (3, .box [.int .i64 a0.1, .own 25 ([] : List (List Int)).length (([] : List (List Int)).flatMap c25_o)]), (4, .int .i64 0)] ⟨kr, kr, kr, kr, trivial⟩ rfl ?_
  obtain ⟨o1, hl, hr1⟩ := ob_some h
  clear h
  have kXspec_l5Copy_B1 : ∀ (z2 : List (List Int)), (some (a0.1, z2)) = some r → ∀ σ' : PS, okK σ' [(2, .box [.int .i64 0, .own 25 ([] : List (List Int)).length (([] : List (List Int)).flatMap c25_o)]), (3, .box [.int .i64 a0.1, .own 25 z2.length (z2.flatMap c25_o)])] → K1 σ' := by
    intro z2 h σ' hk
    refine hK1 _ (ls_keep [(2, .box [.int .i64 0, .own 25 ([] : List (List Int)).length (([] : List (List Int)).flatMap c25_o)]), (3, .box [.int .i64 a0.1, .own 25 z2.length (z2.flatMap c25_o)])] hk rfl ?_)
    refine ls_rs tbOk ?_
    refine evs (ev_ldBt (off := 0) (v := .agg [.int .i64 a0.1, .own 25 z2.length (z2.flatMap c25_o)]) (c' := .box [.int .i64 a0.1, .dat z2.length (z2.flatMap c25_o)]) rfl rfl rfl rfl (Nat.le_of_ble_eq_true rfl) rfl rfl (evs (ev_st (off := 0) (c1 := .agg [.int .i64 a0.1, .own 25 z2.length (z2.flatMap c25_o)]) (cs' := [.int .i64 a0.1, .own 25 z2.length (z2.flatMap c25_o)]) rfl rfl rfl rfl rfl rfl (Nat.le_of_ble_eq_true rfl) rfl (evn ?_))))
    refine ls_keep [(2, .box [.int .i64 a0.1, .own 25 z2.length (z2.flatMap c25_o)])] ⟨kr, trivial⟩ rfl ?_
    refine ls_ret ?_
    have hr := Option.some.inj h
    rw [← hr]
    exact ⟨.inl rfl, rfl⟩
  refine ls_rec (fun (s : (List (List Int)) × Int) => match s with | (y1, y2) => [(1, .box [.int .i64 a0.1, .dat a0.2.length (a0.2.flatMap c25_d)]), (2, .box [.int .i64 0, .own 25 ([] : List (List Int)).length (([] : List (List Int)).flatMap c25_o)]), (3, .box [.int .i64 a0.1, .own 25 y1.length (y1.flatMap c25_o)]), (4, .int .i64 y2)]) (spec_l5Copy_B1 a0) fz (([] : List (List Int)), 0) o1 hl ⟨kr, kr, kr, kr, trivial⟩ (fun _ => rfl) ?_
  rintro m ⟨y1, y2⟩ N h hN
  unfold spec_l5Copy_B1 at h
  dsimp only at h
  refine ls_seq_k fun K3 hK3 => ?_
  refine ls_rs tbOk ?_
  refine evs (ev_mv (c := .int .i64 y2) rfl rfl rfl (evs (ev_fa (c1 := .cref 1 0) (v := .cref 1 1) rfl rfl rfl ⟨_, rfl⟩ rfl (evs (ev_ldB (off := 1) (v := .dat a0.2.length (a0.2.flatMap c25_d)) rfl rfl rfl rfl (Nat.le_of_ble_eq_true rfl) rfl (evs (ev_len (c1 := .dat a0.2.length (a0.2.flatMap c25_d)) rfl rfl rfl (evs (ev_bin (c1 := .int .i64 y2) (c2 := .int .i64 (List.length a0.2 : Int)) rfl rfl rfl (evn ?_))))))))))
  refine ls_keep [(1, .box [.int .i64 a0.1, .dat a0.2.length (a0.2.flatMap c25_d)]), (2, .box [.int .i64 0, .own 25 ([] : List (List Int)).length (([] : List (List Int)).flatMap c25_o)]), (3, .box [.int .i64 a0.1, .own 25 y1.length (y1.flatMap c25_o)]), (4, .int .i64 y2), (12, .bool (decide (y2 < (List.length a0.2 : Int))))] ⟨kr, kr, kr, kr, kr, trivial⟩ rfl ?_
  rcases cond_some h with ⟨g4, h⟩ | ⟨g4, h⟩
  · refine ls_cT rfl g4 ?_
    refine ls_skip ?_
    refine hK3 _ (ls_keep [(1, .box [.int .i64 a0.1, .dat a0.2.length (a0.2.flatMap c25_d)]), (2, .box [.int .i64 0, .own 25 ([] : List (List Int)).length (([] : List (List Int)).flatMap c25_o)]), (3, .box [.int .i64 a0.1, .own 25 y1.length (y1.flatMap c25_o)]), (4, .int .i64 y2)] ⟨kr, kr, kr, kr, trivial⟩ rfl ?_)
    refine ls_seq_k fun K5 hK5 => ?_
    refine ls_blk ?_
    refine ls_drw tbOk mixed (by kernel_rfl) ?_
    refine evd rfl rfl (ev_fa (c1 := .cref 3 0) (v := .cref 3 1) rfl rfl rfl ⟨_, rfl⟩ rfl (evd rfl rfl (ev_ldBt (off := 1) (v := .own 25 y1.length (y1.flatMap c25_o)) (c' := .box [.int .i64 a0.1, .dat y1.length (y1.flatMap c25_o)]) rfl rfl rfl rfl (Nat.le_of_ble_eq_true rfl) rfl rfl (evd rfl rfl (ev_bs [] (cs := []) rfl trivial rfl (Nat.le_of_ble_eq_true rfl) rfl (evd rfl rfl (ev_fa (c1 := .cref 1 0) (v := .cref 1 1) rfl rfl rfl ⟨_, rfl⟩ rfl (evd rfl rfl (ev_ldB (off := 1) (v := .dat a0.2.length (a0.2.flatMap c25_d)) rfl rfl rfl rfl (Nat.le_of_ble_eq_true rfl) rfl (evd rfl rfl (ev_mv (c := .int .i64 y2) rfl rfl rfl (?_))))))))))))
    obtain ⟨e6, g7, h⟩ := ob_some h
    refine evd rfl rfl (ev_ia rfl rfl rfl ⟨(geti_some g7).1, (geti_some g7).2.1⟩ (evd rfl rfl (ev_ldEt (i := y2) (n := 1) (off := 0) (v := .dat e6.length (e6.flatMap ci64)) rfl rfl zc25_d g7 rfl (Nat.le_of_ble_eq_true rfl) rfl (?_))))
    obtain ⟨g8, h⟩ := chk_some h
    refine evd rfl rfl (ev_app (f := ci64) (l := ([] : List Int)) (m := e6) (c2 := .dat e6.length (e6.flatMap ci64)) rfl rfl rfl (flat_len zci64 e6) rfl (map_dg (fun _ => rfl) _) g8 rfl (evd rfl rfl (ev_bs [.own 3 (([] : List Int) ++ e6).length ((([] : List Int) ++ e6).flatMap ci64)] (cs := [.own 3 (([] : List Int) ++ e6).length ((([] : List Int) ++ e6).flatMap ci64)]) rfl ⟨rfl, trivial⟩ rfl (Nat.le_of_ble_eq_true rfl) rfl (?_))))
    obtain ⟨g9, h⟩ := chk_some h
    refine evd rfl rfl (ev_app (f := c25_o) (l := y1) (m := ([([] : List Int) ++ e6])) (c2 := .own 25 ([([] : List Int) ++ e6]).length (([([] : List Int) ++ e6]).flatMap c25_o)) rfl rfl rfl (flat_len zc25_o ([([] : List Int) ++ e6])) rfl rfl g9 rfl (evd rfl rfl (ev_fa (c1 := .cref 3 0) (v := .cref 3 1) rfl rfl rfl ⟨_, rfl⟩ rfl (evd rfl rfl (ev_st (off := 1) (c1 := .own 25 (y1 ++ ([([] : List Int) ++ e6])).length ((y1 ++ ([([] : List Int) ++ e6])).flatMap c25_o)) (cs' := [.int .i64 a0.1, .own 25 (y1 ++ ([([] : List Int) ++ e6])).length ((y1 ++ ([([] : List Int) ++ e6])).flatMap c25_o)]) rfl rfl rfl rfl rfl rfl (Nat.le_of_ble_eq_true rfl) rfl (evdn ?_))))))
    refine hK5 _ (ls_keep [(1, .box [.int .i64 a0.1, .dat a0.2.length (a0.2.flatMap c25_d)]), (2, .box [.int .i64 0, .own 25 ([] : List (List Int)).length (([] : List (List Int)).flatMap c25_o)]), (3, .box [.int .i64 a0.1, .own 25 (y1 ++ ([([] : List Int) ++ e6])).length ((y1 ++ ([([] : List Int) ++ e6])).flatMap c25_o)]), (4, .int .i64 y2)] ⟨kr, kr, kr, kr, trivial⟩ rfl ?_)
    refine ls_rgn tbOk ?_
    refine evs (ev_mv (c := .int .i64 y2) rfl rfl rfl (evs (ev_bin (c1 := .int .i64 y2) (c2 := .int .i64 1) rfl rfl rfl (evs (ev_as (c := .int .i64 (IntKind.i64.wrap (y2 + 1))) rfl rfl rfl (evn ?_))))))
    exact hN _ ((y1 ++ ([([] : List Int) ++ e6])), (IntKind.i64.wrap (y2 + 1))) h ⟨kr, kr, kr, kr, trivial⟩
  · refine ls_cF rfl g4 ?_
    refine ls_exit ?_
    have q0 := (Option.some.inj h).symm
    have r0 := hr1
    rw [q0] at r0
    exact kXspec_l5Copy_B1 y1 r0 _ ⟨kr, kr, trivial⟩
def spec_l6Copy_B1 (a0 : (List ((List UInt8) × (Int × (List (List Int)))))) (rec : ((List ((List UInt8) × (Int × (List (List Int))))) × Int) → Option ((List ((List UInt8) × (Int × (List (List Int))))))) (s : (List ((List UInt8) × (Int × (List (List Int))))) × Int) : Option ((List ((List UInt8) × (Int × (List (List Int)))))) := match s with
  | (y1, y2) => cond (decide (y2 < (List.length a0 : Int))) (obind (geti a0 y2) fun e6 => obind (spec_l5Copy e6.2) fun v8 => obind (geti a0 y2) fun e10 => chk (List.length y1 + List.length [(e10.1, v8)] ≤ lim) (rec ((y1 ++ [(e10.1, v8)]), (IntKind.i64.wrap (y2 + 1))))) (some y1)
def spec_l6Copy (a0 : (List ((List UInt8) × (Int × (List (List Int)))))) : Option (((List ((List UInt8) × (Int × (List (List Int))))))) := obind (loopF (spec_l6Copy_B1 a0) fz (([] : List ((List UInt8) × (Int × (List (List Int))))), 0)) fun z2 => some z2
theorem spec_l6Copy_s {a0 : (List ((List UInt8) × (Int × (List (List Int)))))} {r : ((List ((List UInt8) × (Int × (List (List Int))))))} (h : spec_l6Copy a0 = some r) : SoundAt Try.prog 87 [.agg [.dat a0.length (a0.flatMap c208_dd)]] (.agg [.own 208 r.length (r.flatMap c208_oo)]) := by
  unfold spec_l6Copy at h
  refine sound_lit tbOk lit87 (Nat.le_of_ble_eq_true rfl) rfl ?_
  unfold c87
  refine ls_keep [(0, .agg [.dat a0.length (a0.flatMap c208_dd)])] ⟨kr, trivial⟩ rfl ?_
  refine ls_rs tbOk ?_
  refine evs (ev_bx (c1 := .agg [.dat a0.length (a0.flatMap c208_dd)]) rfl rfl rfl (evs (ev_al rfl rfl (evn ?_))))
  refine ls_keep [(1, .box [.dat a0.length (a0.flatMap c208_dd)]), (2, .box [.own 208 ([] : List ((List UInt8) × (Int × (List (List Int))))).length (([] : List ((List UInt8) × (Int × (List (List Int))))).flatMap c208_oo)])] ⟨kr, kr, trivial⟩ rfl ?_
  refine ls_rs tbOk ?_
  refine evs (ev_bd [] (cs := [.own 208 ([] : List ((List UInt8) × (Int × (List (List Int))))).length (([] : List ((List UInt8) × (Int × (List (List Int))))).flatMap c208_oo)]) rfl trivial rfl (evs (ev_al rfl rfl (evs (ev_st (off := 0) (c1 := .agg [.own 208 ([] : List ((List UInt8) × (Int × (List (List Int))))).length (([] : List ((List UInt8) × (Int × (List (List Int))))).flatMap c208_oo)]) (cs' := [.own 208 ([] : List ((List UInt8) × (Int × (List (List Int))))).length (([] : List ((List UInt8) × (Int × (List (List Int))))).flatMap c208_oo)]) rfl rfl rfl rfl rfl rfl (Nat.le_of_ble_eq_true rfl) rfl (evn ?_))))))
  refine ls_keep [(1, .box [.dat a0.length (a0.flatMap c208_dd)]), (2, .box [.own 208 ([] : List ((List UInt8) × (Int × (List (List Int))))).length (([] : List ((List UInt8) × (Int × (List (List Int))))).flatMap c208_oo)]), (3, .box [.own 208 ([] : List ((List UInt8) × (Int × (List (List Int))))).length (([] : List ((List UInt8) × (Int × (List (List Int))))).flatMap c208_oo)])] ⟨kr, kr, kr, trivial⟩ rfl ?_
  refine ls_seq_k fun K1 hK1 => ?_
  refine ls_rs tbOk ?_
  refine evs (ev_ac rfl nofun rfl (evn ?_))
  refine ls_keep [(1, .box [.dat a0.length (a0.flatMap c208_dd)]), (2, .box [.own 208 ([] : List ((List UInt8) × (Int × (List (List Int))))).length (([] : List ((List UInt8) × (Int × (List (List Int))))).flatMap c208_oo)]), (3, .box [.own 208 ([] : List ((List UInt8) × (Int × (List (List Int))))).length (([] : List ((List UInt8) × (Int × (List (List Int))))).flatMap c208_oo)]), (4, .int .i64 0)] ⟨kr, kr, kr, kr, trivial⟩ rfl ?_
  obtain ⟨o1, hl, hr1⟩ := ob_some h
  clear h
  have kXspec_l6Copy_B1 : ∀ (z2 : List ((List UInt8) × (Int × (List (List Int))))), (some z2) = some r → ∀ σ' : PS, okK σ' [(2, .box [.own 208 ([] : List ((List UInt8) × (Int × (List (List Int))))).length (([] : List ((List UInt8) × (Int × (List (List Int))))).flatMap c208_oo)]), (3, .box [.own 208 z2.length (z2.flatMap c208_oo)])] → K1 σ' := by
    intro z2 h σ' hk
    refine hK1 _ (ls_keep [(2, .box [.own 208 ([] : List ((List UInt8) × (Int × (List (List Int))))).length (([] : List ((List UInt8) × (Int × (List (List Int))))).flatMap c208_oo)]), (3, .box [.own 208 z2.length (z2.flatMap c208_oo)])] hk rfl ?_)
    refine ls_rs tbOk ?_
    refine evs (ev_ldBt (off := 0) (v := .agg [.own 208 z2.length (z2.flatMap c208_oo)]) (c' := .box [.dat z2.length (z2.flatMap c208_oo)]) rfl rfl rfl rfl (Nat.le_of_ble_eq_true rfl) rfl rfl (evs (ev_st (off := 0) (c1 := .agg [.own 208 z2.length (z2.flatMap c208_oo)]) (cs' := [.own 208 z2.length (z2.flatMap c208_oo)]) rfl rfl rfl rfl rfl rfl (Nat.le_of_ble_eq_true rfl) rfl (evn ?_))))
    refine ls_keep [(2, .box [.own 208 z2.length (z2.flatMap c208_oo)])] ⟨kr, trivial⟩ rfl ?_
    refine ls_ret ?_
    have hr := Option.some.inj h
    rw [← hr]
    exact ⟨.inl rfl, rfl⟩
  refine ls_rec (fun (s : (List ((List UInt8) × (Int × (List (List Int))))) × Int) => match s with | (y1, y2) => [(1, .box [.dat a0.length (a0.flatMap c208_dd)]), (2, .box [.own 208 ([] : List ((List UInt8) × (Int × (List (List Int))))).length (([] : List ((List UInt8) × (Int × (List (List Int))))).flatMap c208_oo)]), (3, .box [.own 208 y1.length (y1.flatMap c208_oo)]), (4, .int .i64 y2)]) (spec_l6Copy_B1 a0) fz (([] : List ((List UInt8) × (Int × (List (List Int))))), 0) o1 hl ⟨kr, kr, kr, kr, trivial⟩ (fun _ => rfl) ?_
  rintro m ⟨y1, y2⟩ N h hN
  unfold spec_l6Copy_B1 at h
  dsimp only at h
  refine ls_seq_k fun K3 hK3 => ?_
  refine ls_rs tbOk ?_
  refine evs (ev_mv (c := .int .i64 y2) rfl rfl rfl (evs (ev_fa (c1 := .cref 1 0) (v := .cref 1 0) rfl rfl rfl ⟨_, rfl⟩ rfl (evs (ev_ldB (off := 0) (v := .dat a0.length (a0.flatMap c208_dd)) rfl rfl rfl rfl (Nat.le_of_ble_eq_true rfl) rfl (evs (ev_len (c1 := .dat a0.length (a0.flatMap c208_dd)) rfl rfl rfl (evs (ev_bin (c1 := .int .i64 y2) (c2 := .int .i64 (List.length a0 : Int)) rfl rfl rfl (evn ?_))))))))))
  refine ls_keep [(1, .box [.dat a0.length (a0.flatMap c208_dd)]), (2, .box [.own 208 ([] : List ((List UInt8) × (Int × (List (List Int))))).length (([] : List ((List UInt8) × (Int × (List (List Int))))).flatMap c208_oo)]), (3, .box [.own 208 y1.length (y1.flatMap c208_oo)]), (4, .int .i64 y2), (11, .bool (decide (y2 < (List.length a0 : Int))))] ⟨kr, kr, kr, kr, kr, trivial⟩ rfl ?_
  rcases cond_some h with ⟨g4, h⟩ | ⟨g4, h⟩
  · refine ls_cT rfl g4 ?_
    refine ls_skip ?_
    refine hK3 _ (ls_keep [(1, .box [.dat a0.length (a0.flatMap c208_dd)]), (2, .box [.own 208 ([] : List ((List UInt8) × (Int × (List (List Int))))).length (([] : List ((List UInt8) × (Int × (List (List Int))))).flatMap c208_oo)]), (3, .box [.own 208 y1.length (y1.flatMap c208_oo)]), (4, .int .i64 y2)] ⟨kr, kr, kr, kr, trivial⟩ rfl ?_)
    refine ls_seq_k fun K5 hK5 => ?_
    refine ls_blk ?_
    refine ls_rs tbOk ?_
    refine evs (ev_fa (c1 := .cref 1 0) (v := .cref 1 0) rfl rfl rfl ⟨_, rfl⟩ rfl (evs (ev_ldB (off := 0) (v := .dat a0.length (a0.flatMap c208_dd)) rfl rfl rfl rfl (Nat.le_of_ble_eq_true rfl) rfl (evs (ev_mv (c := .int .i64 y2) rfl rfl rfl (?_))))))
    obtain ⟨e6, g7, h⟩ := ob_some h
    refine evs (ev_ia rfl rfl rfl ⟨(geti_some g7).1, (geti_some g7).2.1⟩ (evs (ev_fa (c1 := .adr (a0.flatMap c208_dd) (Int.toNat y2 * 3)) (v := .adr (a0.flatMap c208_dd) (Int.toNat y2 * 3 + 1)) rfl rfl rfl trivial rfl (evs (ev_ldE (i := y2) (n := 3) (off := 1) (v := .agg [.int .i64 e6.2.1, .dat e6.2.2.length (e6.2.2.flatMap c25_d)]) rfl rfl zc208_dd g7 rfl (Nat.le_of_ble_eq_true rfl) rfl (?_))))))
    obtain ⟨v8, g9, h⟩ := ob_some h
    refine evs (ev_call (era rfl (erg (erc rfl (erc (erD ec25_d _) rfl))) eran) (spec_l5Copy_s g9) (evs (ev_al rfl rfl (evs (ev_st (off := 0) (c1 := .agg [.int .i64 v8.1, .own 25 v8.2.length (v8.2.flatMap c25_o)]) (cs' := [.int .i64 v8.1, .own 25 v8.2.length (v8.2.flatMap c25_o)]) rfl rfl rfl rfl rfl rfl (Nat.le_of_ble_eq_true rfl) rfl (evn ?_))))))
    refine ls_keep [(1, .box [.dat a0.length (a0.flatMap c208_dd)]), (2, .box [.own 208 ([] : List ((List UInt8) × (Int × (List (List Int))))).length (([] : List ((List UInt8) × (Int × (List (List Int))))).flatMap c208_oo)]), (3, .box [.own 208 y1.length (y1.flatMap c208_oo)]), (4, .int .i64 y2), (5, .box [.int .i64 v8.1, .own 25 v8.2.length (v8.2.flatMap c25_o)])] ⟨kr, kr, kr, kr, kr, trivial⟩ rfl ?_
    refine ls_drw tbOk mixed (by kernel_rfl) ?_
    refine evd rfl rfl (ev_fa (c1 := .cref 3 0) (v := .cref 3 0) rfl rfl rfl ⟨_, rfl⟩ rfl (evd rfl rfl (ev_ldBt (off := 0) (v := .own 208 y1.length (y1.flatMap c208_oo)) (c' := .box [.dat y1.length (y1.flatMap c208_oo)]) rfl rfl rfl rfl (Nat.le_of_ble_eq_true rfl) rfl rfl (evd rfl rfl (ev_fa (c1 := .cref 1 0) (v := .cref 1 0) rfl rfl rfl ⟨_, rfl⟩ rfl (evd rfl rfl (ev_ldB (off := 0) (v := .dat a0.length (a0.flatMap c208_dd)) rfl rfl rfl rfl (Nat.le_of_ble_eq_true rfl) rfl (evd rfl rfl (ev_mv (c := .int .i64 y2) rfl rfl rfl (?_))))))))))
    obtain ⟨e10, g11, h⟩ := ob_some h
    refine evd rfl rfl (ev_ia rfl rfl rfl ⟨(geti_some g11).1, (geti_some g11).2.1⟩ (evd rfl rfl (ev_fa (c1 := .adr (a0.flatMap c208_dd) (Int.toNat y2 * 3)) (v := .adr (a0.flatMap c208_dd) (Int.toNat y2 * 3)) rfl rfl rfl trivial rfl (evd rfl rfl (ev_ldE (i := y2) (n := 3) (off := 0) (v := .str e10.1) rfl rfl zc208_dd g11 rfl (Nat.le_of_ble_eq_true rfl) rfl (evd rfl rfl (ev_ldBt (off := 0) (v := .agg [.int .i64 v8.1, .own 25 v8.2.length (v8.2.flatMap c25_o)]) (c' := .box [.int .i64 v8.1, .dat v8.2.length (v8.2.flatMap c25_o)]) rfl rfl rfl rfl (Nat.le_of_ble_eq_true rfl) rfl rfl (evd rfl rfl (ev_bd [.str e10.1, .agg [.int .i64 v8.1, .own 25 v8.2.length (v8.2.flatMap c25_o)]] (cs := [.str e10.1, .int .i64 v8.1, .own 25 v8.2.length (v8.2.flatMap c25_o)]) rfl ⟨rfl, rfl, trivial⟩ rfl (evd rfl rfl (ev_bs [.agg [.str e10.1, .int .i64 v8.1, .own 25 v8.2.length (v8.2.flatMap c25_o)]] (cs := [.str e10.1, .int .i64 v8.1, .own 25 v8.2.length (v8.2.flatMap c25_o)]) rfl ⟨rfl, trivial⟩ rfl (Nat.le_of_ble_eq_true rfl) rfl (?_))))))))))))
    obtain ⟨g12, h⟩ := chk_some h
    refine evd rfl rfl (ev_app (f := c208_oo) (l := y1) (m := [(e10.1, v8)]) (c2 := .own 208 [(e10.1, v8)].length ([(e10.1, v8)].flatMap c208_oo)) rfl rfl rfl (flat_len zc208_oo [(e10.1, v8)]) rfl rfl g12 rfl (evd rfl rfl (ev_fa (c1 := .cref 3 0) (v := .cref 3 0) rfl rfl rfl ⟨_, rfl⟩ rfl (evd rfl rfl (ev_st (off := 0) (c1 := .own 208 (y1 ++ [(e10.1, v8)]).length ((y1 ++ [(e10.1, v8)]).flatMap c208_oo)) (cs' := [.own 208 (y1 ++ [(e10.1, v8)]).length ((y1 ++ [(e10.1, v8)]).flatMap c208_oo)]) rfl rfl rfl rfl rfl rfl (Nat.le_of_ble_eq_true rfl) rfl (evdn ?_))))))
    refine hK5 _ (ls_keep [(1, .box [.dat a0.length (a0.flatMap c208_dd)]), (2, .box [.own 208 ([] : List ((List UInt8) × (Int × (List (List Int))))).length (([] : List ((List UInt8) × (Int × (List (List Int))))).flatMap c208_oo)]), (3, .box [.own 208 (y1 ++ [(e10.1, v8)]).length ((y1 ++ [(e10.1, v8)]).flatMap c208_oo)]), (4, .int .i64 y2)] ⟨kr, kr, kr, kr, trivial⟩ rfl ?_)
    refine ls_rgn tbOk ?_
    refine evs (ev_mv (c := .int .i64 y2) rfl rfl rfl (evs (ev_bin (c1 := .int .i64 y2) (c2 := .int .i64 1) rfl rfl rfl (evs (ev_as (c := .int .i64 (IntKind.i64.wrap (y2 + 1))) rfl rfl rfl (evn ?_))))))
    exact hN _ ((y1 ++ [(e10.1, v8)]), (IntKind.i64.wrap (y2 + 1))) h ⟨kr, kr, kr, kr, trivial⟩
  · refine ls_cF rfl g4 ?_
    refine ls_exit ?_
    have q0 := (Option.some.inj h).symm
    have r0 := hr1
    rw [q0] at r0
    exact kXspec_l6Copy_B1 y1 r0 _ ⟨kr, kr, trivial⟩
def spec_l1In_J1 (x2 : Bool) : Option (Bool) := some x2
def spec_l1In (a0 : Int) (a1 : Int) (a2 : Int) : Option (Bool) := cond (decide (a1 ≤ a0)) (spec_l1In_J1 (decide (a0 ≤ a2))) (spec_l1In_J1 false)
theorem spec_l1In_s {a0 : Int} {a1 : Int} {a2 : Int} {r : Bool} (h : spec_l1In a0 a1 a2 = some r) : SoundAt Try.prog 86 [.int .i64 a0, .int .i64 a1, .int .i64 a2] (.bool r) := by
  unfold spec_l1In at h
  refine sound_lit tbOk lit86 (Nat.le_of_ble_eq_true rfl) rfl ?_
  unfold c86
  refine ls_keep [(0, .int .i64 a0), (1, .int .i64 a1), (2, .int .i64 a2)] ⟨kr, kr, kr, trivial⟩ rfl ?_
  refine ls_rs tbOk ?_
  refine evs (ev_ac rfl nofun rfl (evn ?_))
  refine ls_keep [(0, .int .i64 a0), (1, .int .i64 a1), (2, .int .i64 a2)] ⟨kr, kr, kr, trivial⟩ rfl ?_
  refine ls_rs_k tbOk fun K1 hK1 => ?_
  have kspec_l1In_J1 : ∀ (x2 : Bool), spec_l1In_J1 x2 = some r → ∀ σ' : PS, okK σ' [(6, .bool x2)] → K1 σ' := by
    intro x2 h σ' hk
    unfold spec_l1In_J1 at h
    refine hK1 _ (ls_keep [(6, .bool x2)] hk rfl ?_)
    refine ls_ret ?_
    have hr := Option.some.inj h
    rw [← hr]
    exact ⟨.inl rfl, rfl⟩
  refine evs (ev_mv (c := .int .i64 a0) rfl rfl rfl (evs (ev_mv (c := .int .i64 a1) rfl rfl rfl (evs (ev_bin (c1 := .int .i64 a0) (c2 := .int .i64 a1) rfl rfl rfl (evs (ev_mv (c := .bool (decide (a1 ≤ a0))) rfl rfl rfl (?_))))))))
  rcases cond_some h with ⟨g3, h⟩ | ⟨g3, h⟩
  · refine evs (ev_gr rfl (congrArg V.bool g3) (ev_mv (c := .int .i64 a0) rfl rfl rfl (evs (ev_gr rfl (congrArg V.bool g3) (ev_mv (c := .int .i64 a2) rfl rfl rfl (evs (ev_gr rfl (congrArg V.bool g3) (ev_bin (c1 := .int .i64 a0) (c2 := .int .i64 a2) rfl rfl rfl (evs (ev_pkT (c1 := .bool (decide (a0 ≤ a2))) rfl g3 rfl rfl (evs (ev_as (c := .bool (decide (a0 ≤ a2))) rfl rfl rfl (evn ?_)))))))))))))
    exact kspec_l1In_J1 (decide (a0 ≤ a2)) h _ ⟨kr, trivial⟩
  · refine evs (ev_gs rfl rfl (isb_F g3) (evs (ev_gs rfl rfl (isb_F g3) (evs (ev_gs rfl rfl (isb_F g3) (evs (ev_pkF (c1 := .bool false) rfl g3 rfl rfl (evs (ev_as (c := .bool false) rfl rfl rfl (evn ?_))))))))))
    exact kspec_l1In_J1 false h _ ⟨kr, trivial⟩
def spec_IsValidName_B1 (a0 : List UInt8) (rec : Int → Option (Sum (Unit) (Bool))) (y1 : Int) : Option (Sum (Unit) (Bool)) := cond (decide (y1 < (List.length a0 : Int))) (obind (geti a0 y1) fun b5 => cond (decide ((UInt8.toNat b5 : Int) < 97)) (some (.inr false)) (obind (geti a0 y1) fun b8 => cond (decide (122 < (UInt8.toNat b8 : Int))) (some (.inr false)) (rec (IntKind.i64.wrap (y1 + 1))))) (some (.inl ()))
def spec_IsValidName (a0 : List UInt8) : Option (Bool) := obind (loopF (spec_IsValidName_B1 a0) fz 0) fun o1 => (match o1 with
  | .inl _ => (obind (spec_l1In (List.length a0 : Int) 1 4) fun v11 => some v11)
  | .inr r => some r)
theorem spec_IsValidName_s {a0 : List UInt8} {r : Bool} (h : spec_IsValidName a0 = some r) : SoundAt Try.prog 216 [.str a0] (.bool r) := by
  unfold spec_IsValidName at h
  refine sound_lit tbOk lit216 (Nat.le_of_ble_eq_true rfl) rfl ?_
  unfold c216
  refine ls_keep [(0, .str a0)] ⟨kr, trivial⟩ rfl ?_
  refine ls_rs tbOk ?_
  refine evs (ev_ac rfl nofun rfl (evn ?_))
  refine ls_keep [(0, .str a0)] ⟨kr, trivial⟩ rfl ?_
  refine ls_seq_k fun K1 hK1 => ?_
  refine ls_rs tbOk ?_
  refine evs (ev_ac rfl nofun rfl (evn ?_))
  refine ls_keep [(0, .str a0), (3, .int .i64 0)] ⟨kr, kr, trivial⟩ rfl ?_
  obtain ⟨o1, hl, hr1⟩ := ob_some h
  clear h
  have kXspec_IsValidName_B1 : ∀ (_ : Unit), (obind (spec_l1In (List.length a0 : Int) 1 4) fun v11 => some v11) = some r → ∀ σ' : PS, okK σ' [(0, .str a0)] → K1 σ' := by
    intro _ h σ' hk
    refine hK1 _ (ls_keep [(0, .str a0)] hk rfl ?_)
    refine ls_rs tbOk ?_
    refine evs (ev_mv (c := .str a0) rfl rfl rfl (evs (ev_lens (z := []) rfl rfl (?_))))
    obtain ⟨v11, g12, h⟩ := ob_some h
    refine evs (ev_call (era rfl rfl (era rfl rfl (era rfl rfl eran))) (spec_l1In_s g12) (evs (ev_as (c := .bool v11) rfl rfl rfl (evn ?_))))
    refine ls_keep [(2, .bool v11)] ⟨kr, trivial⟩ rfl ?_
    refine ls_ret ?_
    have hr := Option.some.inj h
    rw [← hr]
    exact ⟨.inl rfl, rfl⟩
  refine ls_rec (fun (y1 : Int) => [(0, .str a0), (3, .int .i64 y1)]) (spec_IsValidName_B1 a0) fz 0 o1 hl ⟨kr, kr, trivial⟩ (fun _ => rfl) ?_
  rintro m y1 N h hN
  unfold spec_IsValidName_B1 at h
  refine ls_seq_k fun K2 hK2 => ?_
  refine ls_rs tbOk ?_
  refine evs (ev_mv (c := .int .i64 y1) rfl rfl rfl (evs (ev_mv (c := .str a0) rfl rfl rfl (evs (ev_lens (z := []) rfl rfl (evs (ev_bin (c1 := .int .i64 y1) (c2 := .int .i64 (List.length a0 : Int)) rfl rfl rfl (evn ?_))))))))
  refine ls_keep [(0, .str a0), (3, .int .i64 y1), (7, .bool (decide (y1 < (List.length a0 : Int))))] ⟨kr, kr, kr, trivial⟩ rfl ?_
  rcases cond_some h with ⟨g3, h⟩ | ⟨g3, h⟩
  · refine ls_cT rfl g3 ?_
    refine ls_skip ?_
    refine hK2 _ (ls_keep [(0, .str a0), (3, .int .i64 y1)] ⟨kr, kr, trivial⟩ rfl ?_)
    refine ls_seq_k fun K4 hK4 => ?_
    refine ls_blk ?_
    refine ls_rs tbOk ?_
    refine evs (ev_mv (c := .str a0) rfl rfl rfl (evs (ev_mv (c := .int .i64 y1) rfl rfl rfl (?_))))
    obtain ⟨b5, g6, h⟩ := ob_some h
    refine evs (ev_six rfl rfl rfl g6 (evs (ev_bin (c1 := .int .u8 (UInt8.toNat b5 : Int)) (c2 := .int .u8 97) rfl rfl rfl (evs (ev_mv (c := .bool (decide ((UInt8.toNat b5 : Int) < 97))) rfl rfl rfl (?_))))))
    rcases cond_some h with ⟨g7, h⟩ | ⟨g7, h⟩
    · refine evs (ev_gs rfl rfl (isb_T g7) (evs (ev_gs rfl rfl (isb_T g7) (evs (ev_gs rfl rfl (isb_T g7) (evs (ev_gs rfl rfl (isb_T g7) (evs (ev_pkT (c1 := .bool true) rfl g7 rfl rfl (evn ?_))))))))))
      refine ls_keep [(0, .str a0), (3, .int .i64 y1), (19, .bool true)] ⟨kr, kr, kr, trivial⟩ rfl ?_
      refine ls_cT rfl rfl ?_
      refine ls_rs tbOk ?_
      refine evs (ev_ac rfl nofun rfl (evn ?_))
      refine ls_keep [(2, .bool false)] ⟨kr, trivial⟩ rfl ?_
      refine ls_ret ?_
      have q0 := (Option.some.inj h).symm
      have r0 := hr1
      rw [q0] at r0
      have hr := Option.some.inj r0
      rw [← hr]
      exact ⟨.inl rfl, rfl⟩
    · refine evs (ev_gr rfl (congrArg V.bool g7) (ev_mv (c := .str a0) rfl rfl rfl (evs (ev_gr rfl (congrArg V.bool g7) (ev_mv (c := .int .i64 y1) rfl rfl rfl (?_))))))
      obtain ⟨b8, g9, h⟩ := ob_some h
      refine evs (ev_gr rfl (congrArg V.bool g7) (ev_six rfl rfl rfl g9 (evs (ev_gr rfl (congrArg V.bool g7) (ev_bin (c1 := .int .u8 (UInt8.toNat b8 : Int)) (c2 := .int .u8 122) rfl rfl rfl (evs (ev_pkF (c1 := .bool (decide (122 < (UInt8.toNat b8 : Int)))) rfl g7 rfl rfl (evn ?_))))))))
      refine ls_keep [(0, .str a0), (3, .int .i64 y1), (19, .bool (decide (122 < (UInt8.toNat b8 : Int))))] ⟨kr, kr, kr, trivial⟩ rfl ?_
      rcases cond_some h with ⟨g10, h⟩ | ⟨g10, h⟩
      · refine ls_cT rfl g10 ?_
        refine ls_rs tbOk ?_
        refine evs (ev_ac rfl nofun rfl (evn ?_))
        refine ls_keep [(2, .bool false)] ⟨kr, trivial⟩ rfl ?_
        refine ls_ret ?_
        have q0 := (Option.some.inj h).symm
        have r0 := hr1
        rw [q0] at r0
        have hr := Option.some.inj r0
        rw [← hr]
        exact ⟨.inl rfl, rfl⟩
      · refine ls_cF rfl g10 ?_
        refine ls_skip ?_
        refine hK4 _ (ls_keep [(0, .str a0), (3, .int .i64 y1)] ⟨kr, kr, trivial⟩ rfl ?_)
        refine ls_rgn tbOk ?_
        refine evs (ev_mv (c := .int .i64 y1) rfl rfl rfl (evs (ev_bin (c1 := .int .i64 y1) (c2 := .int .i64 1) rfl rfl rfl (evs (ev_as (c := .int .i64 (IntKind.i64.wrap (y1 + 1))) rfl rfl rfl (evn ?_))))))
        exact hN _ (IntKind.i64.wrap (y1 + 1)) h ⟨kr, kr, trivial⟩
  · refine ls_cF rfl g3 ?_
    refine ls_exit ?_
    have q0 := (Option.some.inj h).symm
    have r0 := hr1
    rw [q0] at r0
    exact kXspec_IsValidName_B1 () r0 _ ⟨kr, trivial⟩
def spec_CompareRows_B1 (a0 : List Int) (a1 : List Int) (rec : Int → Option (Sum (Unit) (Int))) (y1 : Int) : Option (Sum (Unit) (Int)) := cond (decide (y1 < (List.length a0 : Int))) (cond (decide (y1 < (List.length a1 : Int))) (obind (geti a0 y1) fun e7 => obind (geti a1 y1) fun e9 => cond (decide (e7 < e9)) (some (.inr (-1))) (obind (geti a0 y1) fun e12 => obind (geti a1 y1) fun e14 => cond (decide (e14 < e12)) (some (.inr 1)) (rec (IntKind.i64.wrap (y1 + 1))))) (some (.inl ()))) (some (.inl ()))
def spec_CompareRows (a0 : List Int) (a1 : List Int) : Option (Int) := obind (loopF (spec_CompareRows_B1 a0 a1) fz 0) fun o1 => (match o1 with
  | .inl _ => (cond (decide ((List.length a0 : Int) < (List.length a1 : Int))) (some (-1)) (cond (decide ((List.length a1 : Int) < (List.length a0 : Int))) (some 1) (some 0)))
  | .inr r => some r)
theorem spec_CompareRows_s {a0 : List Int} {a1 : List Int} {r : Int} (h : spec_CompareRows a0 a1 = some r) : SoundAt Try.prog 75 [.dat a0.length (a0.flatMap ci64), .dat a1.length (a1.flatMap ci64)] (.int .i64 r) := by
  unfold spec_CompareRows at h
  refine sound_lit tbOk lit75 (Nat.le_of_ble_eq_true rfl) rfl ?_
  unfold c75
  refine ls_keep [(0, .dat a0.length (a0.flatMap ci64)), (1, .dat a1.length (a1.flatMap ci64))] ⟨kr, kr, trivial⟩ rfl ?_
  refine ls_rs tbOk ?_
  refine evs (ev_ac rfl nofun rfl (evn ?_))
  refine ls_keep [(0, .dat a0.length (a0.flatMap ci64)), (1, .dat a1.length (a1.flatMap ci64))] ⟨kr, kr, trivial⟩ rfl ?_
  refine ls_seq_k fun K1 hK1 => ?_
  refine ls_rs tbOk ?_
  refine evs (ev_ac rfl nofun rfl (evn ?_))
  refine ls_keep [(0, .dat a0.length (a0.flatMap ci64)), (1, .dat a1.length (a1.flatMap ci64)), (5, .int .i64 0)] ⟨kr, kr, kr, trivial⟩ rfl ?_
  obtain ⟨o1, hl, hr1⟩ := ob_some h
  clear h
  have kXspec_CompareRows_B1 : ∀ (_ : Unit), (cond (decide ((List.length a0 : Int) < (List.length a1 : Int))) (some (-1)) (cond (decide ((List.length a1 : Int) < (List.length a0 : Int))) (some 1) (some 0))) = some r → ∀ σ' : PS, okK σ' [(0, .dat a0.length (a0.flatMap ci64)), (1, .dat a1.length (a1.flatMap ci64))] → K1 σ' := by
    intro _ h σ' hk
    refine hK1 _ (ls_keep [(0, .dat a0.length (a0.flatMap ci64)), (1, .dat a1.length (a1.flatMap ci64))] hk rfl ?_)
    refine ls_seq_k fun K17 hK17 => ?_
    refine ls_rs tbOk ?_
    refine evs (ev_mv (c := .dat a0.length (a0.flatMap ci64)) rfl rfl rfl (evs (ev_len (c1 := .dat a0.length (a0.flatMap ci64)) rfl rfl rfl (evs (ev_mv (c := .dat a1.length (a1.flatMap ci64)) rfl rfl rfl (evs (ev_len (c1 := .dat a1.length (a1.flatMap ci64)) rfl rfl rfl (evs (ev_bin (c1 := .int .i64 (List.length a0 : Int)) (c2 := .int .i64 (List.length a1 : Int)) rfl rfl rfl (evn ?_))))))))))
    refine ls_keep [(0, .dat a0.length (a0.flatMap ci64)), (1, .dat a1.length (a1.flatMap ci64)), (40, .bool (decide ((List.length a0 : Int) < (List.length a1 : Int))))] ⟨kr, kr, kr, trivial⟩ rfl ?_
    rcases cond_some h with ⟨g18, h⟩ | ⟨g18, h⟩
    · refine ls_cT rfl g18 ?_
      refine ls_rs tbOk ?_
      refine evs (ev_ac rfl nofun rfl (evn ?_))
      refine ls_keep [(4, .int .i64 (-1))] ⟨kr, trivial⟩ rfl ?_
      refine ls_ret ?_
      have hr := Option.some.inj h
      rw [← hr]
      exact ⟨.inl rfl, rfl⟩
    · refine ls_cF rfl g18 ?_
      refine ls_skip ?_
      refine hK17 _ (ls_keep [(0, .dat a0.length (a0.flatMap ci64)), (1, .dat a1.length (a1.flatMap ci64))] ⟨kr, kr, trivial⟩ rfl ?_)
      refine ls_seq_k fun K19 hK19 => ?_
      refine ls_rs tbOk ?_
      refine evs (ev_mv (c := .dat a0.length (a0.flatMap ci64)) rfl rfl rfl (evs (ev_len (c1 := .dat a0.length (a0.flatMap ci64)) rfl rfl rfl (evs (ev_mv (c := .dat a1.length (a1.flatMap ci64)) rfl rfl rfl (evs (ev_len (c1 := .dat a1.length (a1.flatMap ci64)) rfl rfl rfl (evs (ev_bin (c1 := .int .i64 (List.length a0 : Int)) (c2 := .int .i64 (List.length a1 : Int)) rfl rfl rfl (evn ?_))))))))))
      refine ls_keep [(45, .bool (decide ((List.length a1 : Int) < (List.length a0 : Int))))] ⟨kr, trivial⟩ rfl ?_
      rcases cond_some h with ⟨g20, h⟩ | ⟨g20, h⟩
      · refine ls_cT rfl g20 ?_
        refine ls_rs tbOk ?_
        refine evs (ev_ac rfl nofun rfl (evn ?_))
        refine ls_keep [(4, .int .i64 1)] ⟨kr, trivial⟩ rfl ?_
        refine ls_ret ?_
        have hr := Option.some.inj h
        rw [← hr]
        exact ⟨.inl rfl, rfl⟩
      · refine ls_cF rfl g20 ?_
        refine ls_skip ?_
        refine hK19 _ (ls_keep [] trivial rfl ?_)
        refine ls_rs tbOk ?_
        refine evs (ev_ac rfl nofun rfl (evn ?_))
        refine ls_keep [(4, .int .i64 0)] ⟨kr, trivial⟩ rfl ?_
        refine ls_ret ?_
        have hr := Option.some.inj h
        rw [← hr]
        exact ⟨.inl rfl, rfl⟩
  refine ls_rec (fun (y1 : Int) => [(0, .dat a0.length (a0.flatMap ci64)), (1, .dat a1.length (a1.flatMap ci64)), (5, .int .i64 y1)]) (spec_CompareRows_B1 a0 a1) fz 0 o1 hl ⟨kr, kr, kr, trivial⟩ (fun _ => rfl) ?_
  rintro m y1 N h hN
  unfold spec_CompareRows_B1 at h
  refine ls_seq_k fun K2 hK2 => ?_
  refine ls_rs tbOk ?_
  refine evs (ev_mv (c := .int .i64 y1) rfl rfl rfl (evs (ev_mv (c := .dat a0.length (a0.flatMap ci64)) rfl rfl rfl (evs (ev_len (c1 := .dat a0.length (a0.flatMap ci64)) rfl rfl rfl (evs (ev_bin (c1 := .int .i64 y1) (c2 := .int .i64 (List.length a0 : Int)) rfl rfl rfl (evs (ev_mv (c := .bool (decide (y1 < (List.length a0 : Int)))) rfl rfl rfl (?_))))))))))
  rcases cond_some h with ⟨g3, h⟩ | ⟨g3, h⟩
  · refine evs (ev_gr rfl (congrArg V.bool g3) (ev_mv (c := .int .i64 y1) rfl rfl rfl (evs (ev_gr rfl (congrArg V.bool g3) (ev_mv (c := .dat a1.length (a1.flatMap ci64)) rfl rfl rfl (evs (ev_gr rfl (congrArg V.bool g3) (ev_len (c1 := .dat a1.length (a1.flatMap ci64)) rfl rfl rfl (evs (ev_gr rfl (congrArg V.bool g3) (ev_bin (c1 := .int .i64 y1) (c2 := .int .i64 (List.length a1 : Int)) rfl rfl rfl (evs (ev_pkT (c1 := .bool (decide (y1 < (List.length a1 : Int)))) rfl g3 rfl rfl (evn ?_))))))))))))))
    refine ls_keep [(0, .dat a0.length (a0.flatMap ci64)), (1, .dat a1.length (a1.flatMap ci64)), (5, .int .i64 y1), (15, .bool (decide (y1 < (List.length a1 : Int))))] ⟨kr, kr, kr, kr, trivial⟩ rfl ?_
    rcases cond_some h with ⟨g4, h⟩ | ⟨g4, h⟩
    · refine ls_cT rfl g4 ?_
      refine ls_skip ?_
      refine hK2 _ (ls_keep [(0, .dat a0.length (a0.flatMap ci64)), (1, .dat a1.length (a1.flatMap ci64)), (5, .int .i64 y1)] ⟨kr, kr, kr, trivial⟩ rfl ?_)
      refine ls_seq_k fun K5 hK5 => ?_
      refine ls_blk ?_
      refine ls_seq_k fun K6 hK6 => ?_
      refine ls_rd tbOk mixed (by kernel_rfl) ?_
      refine evd rfl rfl (ev_mv (c := .dat a0.length (a0.flatMap ci64)) rfl rfl rfl (evd rfl rfl (ev_mv (c := .int .i64 y1) rfl rfl rfl (?_))))
      obtain ⟨e7, g8, h⟩ := ob_some h
      refine evd rfl rfl (ev_ia rfl rfl rfl ⟨(geti_some g8).1, (geti_some g8).2.1⟩ (evd rfl rfl (ev_ldE (i := y1) (n := 1) (off := 0) (v := .int .i64 e7) rfl rfl zci64 g8 rfl (Nat.le_of_ble_eq_true rfl) rfl (evd rfl rfl (ev_mv (c := .dat a1.length (a1.flatMap ci64)) rfl rfl rfl (evd rfl rfl (ev_mv (c := .int .i64 y1) rfl rfl rfl (?_))))))))
      obtain ⟨e9, g10, h⟩ := ob_some h
      refine evd rfl rfl (ev_ia rfl rfl rfl ⟨(geti_some g10).1, (geti_some g10).2.1⟩ (evd rfl rfl (ev_ldE (i := y1) (n := 1) (off := 0) (v := .int .i64 e9) rfl rfl zci64 g10 rfl (Nat.le_of_ble_eq_true rfl) rfl (evd rfl rfl (ev_bin (c1 := .int .i64 e7) (c2 := .int .i64 e9) rfl rfl rfl (evdn ?_))))))
      refine ls_keep [(0, .dat a0.length (a0.flatMap ci64)), (1, .dat a1.length (a1.flatMap ci64)), (5, .int .i64 y1), (26, .bool (decide (e7 < e9)))] ⟨kr, kr, kr, kr, trivial⟩ rfl ?_
      rcases cond_some h with ⟨g11, h⟩ | ⟨g11, h⟩
      · refine ls_cT rfl g11 ?_
        refine ls_rs tbOk ?_
        refine evs (ev_ac rfl nofun rfl (evn ?_))
        refine ls_keep [(4, .int .i64 (-1))] ⟨kr, trivial⟩ rfl ?_
        refine ls_ret ?_
        have q0 := (Option.some.inj h).symm
        have r0 := hr1
        rw [q0] at r0
        have hr := Option.some.inj r0
        rw [← hr]
        exact ⟨.inl rfl, rfl⟩
      · refine ls_cF rfl g11 ?_
        refine ls_skip ?_
        refine hK6 _ (ls_keep [(0, .dat a0.length (a0.flatMap ci64)), (1, .dat a1.length (a1.flatMap ci64)), (5, .int .i64 y1)] ⟨kr, kr, kr, trivial⟩ rfl ?_)
        refine ls_rd tbOk mixed (by kernel_rfl) ?_
        refine evd rfl rfl (ev_mv (c := .dat a0.length (a0.flatMap ci64)) rfl rfl rfl (evd rfl rfl (ev_mv (c := .int .i64 y1) rfl rfl rfl (?_))))
        obtain ⟨e12, g13, h⟩ := ob_some h
        refine evd rfl rfl (ev_ia rfl rfl rfl ⟨(geti_some g13).1, (geti_some g13).2.1⟩ (evd rfl rfl (ev_ldE (i := y1) (n := 1) (off := 0) (v := .int .i64 e12) rfl rfl zci64 g13 rfl (Nat.le_of_ble_eq_true rfl) rfl (evd rfl rfl (ev_mv (c := .dat a1.length (a1.flatMap ci64)) rfl rfl rfl (evd rfl rfl (ev_mv (c := .int .i64 y1) rfl rfl rfl (?_))))))))
        obtain ⟨e14, g15, h⟩ := ob_some h
        refine evd rfl rfl (ev_ia rfl rfl rfl ⟨(geti_some g15).1, (geti_some g15).2.1⟩ (evd rfl rfl (ev_ldE (i := y1) (n := 1) (off := 0) (v := .int .i64 e14) rfl rfl zci64 g15 rfl (Nat.le_of_ble_eq_true rfl) rfl (evd rfl rfl (ev_bin (c1 := .int .i64 e12) (c2 := .int .i64 e14) rfl rfl rfl (evdn ?_))))))
        refine ls_keep [(0, .dat a0.length (a0.flatMap ci64)), (1, .dat a1.length (a1.flatMap ci64)), (5, .int .i64 y1), (35, .bool (decide (e14 < e12)))] ⟨kr, kr, kr, kr, trivial⟩ rfl ?_
        rcases cond_some h with ⟨g16, h⟩ | ⟨g16, h⟩
        · refine ls_cT rfl g16 ?_
          refine ls_rs tbOk ?_
          refine evs (ev_ac rfl nofun rfl (evn ?_))
          refine ls_keep [(4, .int .i64 1)] ⟨kr, trivial⟩ rfl ?_
          refine ls_ret ?_
          have q0 := (Option.some.inj h).symm
          have r0 := hr1
          rw [q0] at r0
          have hr := Option.some.inj r0
          rw [← hr]
          exact ⟨.inl rfl, rfl⟩
        · refine ls_cF rfl g16 ?_
          refine ls_skip ?_
          refine hK5 _ (ls_keep [(0, .dat a0.length (a0.flatMap ci64)), (1, .dat a1.length (a1.flatMap ci64)), (5, .int .i64 y1)] ⟨kr, kr, kr, trivial⟩ rfl ?_)
          refine ls_rgn tbOk ?_
          refine evs (ev_mv (c := .int .i64 y1) rfl rfl rfl (evs (ev_bin (c1 := .int .i64 y1) (c2 := .int .i64 1) rfl rfl rfl (evs (ev_as (c := .int .i64 (IntKind.i64.wrap (y1 + 1))) rfl rfl rfl (evn ?_))))))
          exact hN _ (IntKind.i64.wrap (y1 + 1)) h ⟨kr, kr, kr, trivial⟩
    · refine ls_cF rfl g4 ?_
      refine ls_exit ?_
      have q0 := (Option.some.inj h).symm
      have r0 := hr1
      rw [q0] at r0
      exact kXspec_CompareRows_B1 () r0 _ ⟨kr, kr, trivial⟩
  · refine evs (ev_gs rfl rfl (isb_F g3) (evs (ev_gs rfl rfl (isb_F g3) (evs (ev_gs rfl rfl (isb_F g3) (evs (ev_gs rfl rfl (isb_F g3) (evs (ev_pkF (c1 := .bool false) rfl g3 rfl rfl (evn ?_))))))))))
    refine ls_keep [(0, .dat a0.length (a0.flatMap ci64)), (1, .dat a1.length (a1.flatMap ci64)), (5, .int .i64 y1), (15, .bool false)] ⟨kr, kr, kr, kr, trivial⟩ rfl ?_
    refine ls_cF rfl rfl ?_
    refine ls_exit ?_
    have q0 := (Option.some.inj h).symm
    have r0 := hr1
    rw [q0] at r0
    exact kXspec_CompareRows_B1 () r0 _ ⟨kr, kr, trivial⟩
def spec_AreValidValues_B1 (a0 : List Int) (rec : Int → Option (Sum (Unit) (Bool))) (y1 : Int) : Option (Sum (Unit) (Bool)) := cond (decide (y1 < (List.length a0 : Int))) (obind (geti a0 y1) fun e5 => obind (spec_l1In e5 0 99) fun v7 => cond (!v7) (some (.inr false)) (rec (IntKind.i64.wrap (y1 + 1)))) (some (.inl ()))
def spec_AreValidValues (a0 : List Int) : Option (Bool) := obind (loopF (spec_AreValidValues_B1 a0) fz 0) fun o1 => (match o1 with
  | .inl _ => (some true)
  | .inr r => some r)
theorem spec_AreValidValues_s {a0 : List Int} {r : Bool} (h : spec_AreValidValues a0 = some r) : SoundAt Try.prog 242 [.dat a0.length (a0.flatMap ci64)] (.bool r) := by
  unfold spec_AreValidValues at h
  refine sound_lit tbOk lit242 (Nat.le_of_ble_eq_true rfl) rfl ?_
  unfold c242
  refine ls_keep [(0, .dat a0.length (a0.flatMap ci64))] ⟨kr, trivial⟩ rfl ?_
  refine ls_rs tbOk ?_
  refine evs (ev_ac rfl nofun rfl (evn ?_))
  refine ls_keep [(0, .dat a0.length (a0.flatMap ci64))] ⟨kr, trivial⟩ rfl ?_
  refine ls_seq_k fun K1 hK1 => ?_
  refine ls_rs tbOk ?_
  refine evs (ev_ac rfl nofun rfl (evn ?_))
  refine ls_keep [(0, .dat a0.length (a0.flatMap ci64)), (3, .int .i64 0)] ⟨kr, kr, trivial⟩ rfl ?_
  obtain ⟨o1, hl, hr1⟩ := ob_some h
  clear h
  have kXspec_AreValidValues_B1 : ∀ (_ : Unit), (some true) = some r → ∀ σ' : PS, okK σ' [] → K1 σ' := by
    intro _ h σ' hk
    refine hK1 _ (ls_keep [] hk rfl ?_)
    refine ls_rs tbOk ?_
    refine evs (ev_ac rfl nofun rfl (evn ?_))
    refine ls_keep [(2, .bool true)] ⟨kr, trivial⟩ rfl ?_
    refine ls_ret ?_
    have hr := Option.some.inj h
    rw [← hr]
    exact ⟨.inl rfl, rfl⟩
  refine ls_rec (fun (y1 : Int) => [(0, .dat a0.length (a0.flatMap ci64)), (3, .int .i64 y1)]) (spec_AreValidValues_B1 a0) fz 0 o1 hl ⟨kr, kr, trivial⟩ (fun _ => rfl) ?_
  rintro m y1 N h hN
  unfold spec_AreValidValues_B1 at h
  refine ls_seq_k fun K2 hK2 => ?_
  refine ls_rs tbOk ?_
  refine evs (ev_mv (c := .int .i64 y1) rfl rfl rfl (evs (ev_mv (c := .dat a0.length (a0.flatMap ci64)) rfl rfl rfl (evs (ev_len (c1 := .dat a0.length (a0.flatMap ci64)) rfl rfl rfl (evs (ev_bin (c1 := .int .i64 y1) (c2 := .int .i64 (List.length a0 : Int)) rfl rfl rfl (evn ?_))))))))
  refine ls_keep [(0, .dat a0.length (a0.flatMap ci64)), (3, .int .i64 y1), (7, .bool (decide (y1 < (List.length a0 : Int))))] ⟨kr, kr, kr, trivial⟩ rfl ?_
  rcases cond_some h with ⟨g3, h⟩ | ⟨g3, h⟩
  · refine ls_cT rfl g3 ?_
    refine ls_skip ?_
    refine hK2 _ (ls_keep [(0, .dat a0.length (a0.flatMap ci64)), (3, .int .i64 y1)] ⟨kr, kr, trivial⟩ rfl ?_)
    refine ls_seq_k fun K4 hK4 => ?_
    refine ls_blk ?_
    refine ls_rs tbOk ?_
    refine evs (ev_mv (c := .dat a0.length (a0.flatMap ci64)) rfl rfl rfl (evs (ev_mv (c := .int .i64 y1) rfl rfl rfl (?_))))
    obtain ⟨e5, g6, h⟩ := ob_some h
    refine evs (ev_ia rfl rfl rfl ⟨(geti_some g6).1, (geti_some g6).2.1⟩ (evs (ev_ldE (i := y1) (n := 1) (off := 0) (v := .int .i64 e5) rfl rfl zci64 g6 rfl (Nat.le_of_ble_eq_true rfl) rfl (?_))))
    obtain ⟨v7, g8, h⟩ := ob_some h
    refine evs (ev_call (era rfl rfl (era rfl rfl (era rfl rfl eran))) (spec_l1In_s g8) (evs (ev_un (c1 := .bool v7) rfl trivial (evn ?_))))
    refine ls_keep [(0, .dat a0.length (a0.flatMap ci64)), (3, .int .i64 y1), (15, .bool (!v7))] ⟨kr, kr, kr, trivial⟩ rfl ?_
    rcases cond_some h with ⟨g9, h⟩ | ⟨g9, h⟩
    · refine ls_cT rfl g9 ?_
      refine ls_rs tbOk ?_
      refine evs (ev_ac rfl nofun rfl (evn ?_))
      refine ls_keep [(2, .bool false)] ⟨kr, trivial⟩ rfl ?_
      refine ls_ret ?_
      have q0 := (Option.some.inj h).symm
      have r0 := hr1
      rw [q0] at r0
      have hr := Option.some.inj r0
      rw [← hr]
      exact ⟨.inl rfl, rfl⟩
    · refine ls_cF rfl g9 ?_
      refine ls_skip ?_
      refine hK4 _ (ls_keep [(0, .dat a0.length (a0.flatMap ci64)), (3, .int .i64 y1)] ⟨kr, kr, trivial⟩ rfl ?_)
      refine ls_rgn tbOk ?_
      refine evs (ev_mv (c := .int .i64 y1) rfl rfl rfl (evs (ev_bin (c1 := .int .i64 y1) (c2 := .int .i64 1) rfl rfl rfl (evs (ev_as (c := .int .i64 (IntKind.i64.wrap (y1 + 1))) rfl rfl rfl (evn ?_))))))
      exact hN _ (IntKind.i64.wrap (y1 + 1)) h ⟨kr, kr, trivial⟩
  · refine ls_cF rfl g3 ?_
    refine ls_exit ?_
    have q0 := (Option.some.inj h).symm
    have r0 := hr1
    rw [q0] at r0
    exact kXspec_AreValidValues_B1 () r0 _ trivial
def spec_IsValidRelation_J2 (rec : Int → Option (Sum (Unit) (Bool))) (y1 : Int) (x11 : Bool) : Option (Sum (Unit) (Bool)) := cond x11 (some (.inr false)) (rec (IntKind.i64.wrap (y1 + 1)))
def spec_IsValidRelation_B1 (a0 : Int × (List (List Int))) (rec : Int → Option (Sum (Unit) (Bool))) (y1 : Int) : Option (Sum (Unit) (Bool)) := cond (decide (y1 < (List.length a0.2 : Int))) (obind (geti a0.2 y1) fun e13 => cond ((List.length e13 : Int) != a0.1) (spec_IsValidRelation_J2 rec y1 true) (obind (geti a0.2 y1) fun e16 => obind (spec_AreValidValues e16) fun v18 => cond (!v18) (spec_IsValidRelation_J2 rec y1 true) (cond (decide (0 < y1)) (obind (geti a0.2 (IntKind.i64.wrap (y1 - 1))) fun e22 => obind (geti a0.2 y1) fun e24 => obind (spec_CompareRows e22 e24) fun v26 => spec_IsValidRelation_J2 rec y1 (decide (0 ≤ v26))) (spec_IsValidRelation_J2 rec y1 false)))) (some (.inl ()))
def spec_IsValidRelation (a0 : Int × (List (List Int))) : Option (Bool) := obind (spec_l1In a0.1 0 5) fun v2 => cond (!v2) (some false) (cond (decide (4000 < (List.length a0.2 : Int))) (some false) (obind (loopF (spec_IsValidRelation_B1 a0) fz 0) fun o1 => (match o1 with
  | .inl _ => (some true)
  | .inr r => some r)))
theorem spec_IsValidRelation_s {a0 : Int × (List (List Int))} {r : Bool} (h : spec_IsValidRelation a0 = some r) : SoundAt Try.prog 217 [.agg [.int .i64 a0.1, .dat a0.2.length (a0.2.flatMap c25_d)]] (.bool r) := by
  unfold spec_IsValidRelation at h
  refine sound_lit tbOk lit217 (Nat.le_of_ble_eq_true rfl) rfl ?_
  unfold c217
  refine ls_keep [(0, .agg [.int .i64 a0.1, .dat a0.2.length (a0.2.flatMap c25_d)])] ⟨kr, trivial⟩ rfl ?_
  refine ls_rs tbOk ?_
  refine evs (ev_bx (c1 := .agg [.int .i64 a0.1, .dat a0.2.length (a0.2.flatMap c25_d)]) rfl rfl rfl (evs (ev_ac rfl nofun rfl (evn ?_))))
  refine ls_keep [(1, .box [.int .i64 a0.1, .dat a0.2.length (a0.2.flatMap c25_d)])] ⟨kr, trivial⟩ rfl ?_
  refine ls_seq_k fun K1 hK1 => ?_
  refine ls_rs tbOk ?_
  refine evs (ev_fa (c1 := .cref 1 0) (v := .cref 1 0) rfl rfl rfl ⟨_, rfl⟩ rfl (evs (ev_ldB (off := 0) (v := .int .i64 a0.1) rfl rfl rfl rfl (Nat.le_of_ble_eq_true rfl) rfl (?_))))
  obtain ⟨v2, g3, h⟩ := ob_some h
  refine evs (ev_call (era rfl rfl (era rfl rfl (era rfl rfl eran))) (spec_l1In_s g3) (evs (ev_un (c1 := .bool v2) rfl trivial (evs (ev_mv (c := .bool (!v2)) rfl rfl rfl (?_))))))
  rcases cond_some h with ⟨g4, h⟩ | ⟨g4, h⟩
  · refine evs (ev_gs rfl rfl (isb_T g4) (evs (ev_gs rfl rfl (isb_T g4) (evs (ev_gs rfl rfl (isb_T g4) (evs (ev_gs rfl rfl (isb_T g4) (evs (ev_pkT (c1 := .bool true) rfl g4 rfl rfl (evn ?_))))))))))
    refine ls_keep [(1, .box [.int .i64 a0.1, .dat a0.2.length (a0.2.flatMap c25_d)]), (13, .bool true)] ⟨kr, kr, trivial⟩ rfl ?_
    refine ls_cT rfl rfl ?_
    refine ls_rs tbOk ?_
    refine evs (ev_ac rfl nofun rfl (evn ?_))
    refine ls_keep [(2, .bool false)] ⟨kr, trivial⟩ rfl ?_
    refine ls_ret ?_
    have hr := Option.some.inj h
    rw [← hr]
    exact ⟨.inl rfl, rfl⟩
  · refine evs (ev_gr rfl (congrArg V.bool g4) (ev_fa (c1 := .cref 1 0) (v := .cref 1 1) rfl rfl rfl ⟨_, rfl⟩ rfl (evs (ev_gr rfl (congrArg V.bool g4) (ev_ldB (off := 1) (v := .dat a0.2.length (a0.2.flatMap c25_d)) rfl rfl rfl rfl (Nat.le_of_ble_eq_true rfl) rfl (evs (ev_gr rfl (congrArg V.bool g4) (ev_len (c1 := .dat a0.2.length (a0.2.flatMap c25_d)) rfl rfl rfl (evs (ev_gr rfl (congrArg V.bool g4) (ev_bin (c1 := .int .i64 (List.length a0.2 : Int)) (c2 := .int .i64 4000) rfl rfl rfl (evs (ev_pkF (c1 := .bool (decide (4000 < (List.length a0.2 : Int)))) rfl g4 rfl rfl (evn ?_))))))))))))))
    refine ls_keep [(1, .box [.int .i64 a0.1, .dat a0.2.length (a0.2.flatMap c25_d)]), (13, .bool (decide (4000 < (List.length a0.2 : Int))))] ⟨kr, kr, trivial⟩ rfl ?_
    rcases cond_some h with ⟨g5, h⟩ | ⟨g5, h⟩
    · refine ls_cT rfl g5 ?_
      refine ls_rs tbOk ?_
      refine evs (ev_ac rfl nofun rfl (evn ?_))
      refine ls_keep [(2, .bool false)] ⟨kr, trivial⟩ rfl ?_
      refine ls_ret ?_
      have hr := Option.some.inj h
      rw [← hr]
      exact ⟨.inl rfl, rfl⟩
    · refine ls_cF rfl g5 ?_
      refine ls_skip ?_
      refine hK1 _ (ls_keep [(1, .box [.int .i64 a0.1, .dat a0.2.length (a0.2.flatMap c25_d)])] ⟨kr, trivial⟩ rfl ?_)
      refine ls_seq_k fun K6 hK6 => ?_
      refine ls_rs tbOk ?_
      refine evs (ev_ac rfl nofun rfl (evn ?_))
      refine ls_keep [(1, .box [.int .i64 a0.1, .dat a0.2.length (a0.2.flatMap c25_d)]), (3, .int .i64 0)] ⟨kr, kr, trivial⟩ rfl ?_
      obtain ⟨o1, hl, hr1⟩ := ob_some h
      clear h
      have kXspec_IsValidRelation_B1 : ∀ (_ : Unit), (some true) = some r → ∀ σ' : PS, okK σ' [] → K6 σ' := by
        intro _ h σ' hk
        refine hK6 _ (ls_keep [] hk rfl ?_)
        refine ls_rs tbOk ?_
        refine evs (ev_ac rfl nofun rfl (evn ?_))
        refine ls_keep [(2, .bool true)] ⟨kr, trivial⟩ rfl ?_
        refine ls_ret ?_
        have hr := Option.some.inj h
        rw [← hr]
        exact ⟨.inl rfl, rfl⟩
      refine ls_rec (fun (y1 : Int) => [(1, .box [.int .i64 a0.1, .dat a0.2.length (a0.2.flatMap c25_d)]), (3, .int .i64 y1)]) (spec_IsValidRelation_B1 a0) fz 0 o1 hl ⟨kr, kr, trivial⟩ (fun _ => rfl) ?_
      rintro m y1 N h hN
      unfold spec_IsValidRelation_B1 at h
      refine ls_seq_k fun K7 hK7 => ?_
      refine ls_rs tbOk ?_
      refine evs (ev_mv (c := .int .i64 y1) rfl rfl rfl (evs (ev_fa (c1 := .cref 1 0) (v := .cref 1 1) rfl rfl rfl ⟨_, rfl⟩ rfl (evs (ev_ldB (off := 1) (v := .dat a0.2.length (a0.2.flatMap c25_d)) rfl rfl rfl rfl (Nat.le_of_ble_eq_true rfl) rfl (evs (ev_len (c1 := .dat a0.2.length (a0.2.flatMap c25_d)) rfl rfl rfl (evs (ev_bin (c1 := .int .i64 y1) (c2 := .int .i64 (List.length a0.2 : Int)) rfl rfl rfl (evn ?_))))))))))
      refine ls_keep [(1, .box [.int .i64 a0.1, .dat a0.2.length (a0.2.flatMap c25_d)]), (3, .int .i64 y1), (18, .bool (decide (y1 < (List.length a0.2 : Int))))] ⟨kr, kr, kr, trivial⟩ rfl ?_
      rcases cond_some h with ⟨g8, h⟩ | ⟨g8, h⟩
      · refine ls_cT rfl g8 ?_
        refine ls_skip ?_
        refine hK7 _ (ls_keep [(1, .box [.int .i64 a0.1, .dat a0.2.length (a0.2.flatMap c25_d)]), (3, .int .i64 y1)] ⟨kr, kr, trivial⟩ rfl ?_)
        refine ls_seq_k fun K9 hK9 => ?_
        refine ls_blk ?_
        refine ls_rd_k tbOk mixed (by kernel_rfl) fun K10 hK10 => ?_
        have kspec_IsValidRelation_J2 : ∀ (x11 : Bool), spec_IsValidRelation_J2 (loopF (spec_IsValidRelation_B1 a0) m) y1 x11 = some o1 → ∀ σ' : PS, okK σ' [(1, .box [.int .i64 a0.1, .dat a0.2.length (a0.2.flatMap c25_d)]), (3, .int .i64 y1), (57, .bool x11)] → K10 σ' := by
          intro x11 h σ' hk
          unfold spec_IsValidRelation_J2 at h
          refine hK10 _ (ls_keep [(1, .box [.int .i64 a0.1, .dat a0.2.length (a0.2.flatMap c25_d)]), (3, .int .i64 y1), (57, .bool x11)] hk rfl ?_)
          rcases cond_some h with ⟨g12, h⟩ | ⟨g12, h⟩
          · refine ls_cT rfl g12 ?_
            refine ls_rs tbOk ?_
            refine evs (ev_ac rfl nofun rfl (evn ?_))
            refine ls_keep [(2, .bool false)] ⟨kr, trivial⟩ rfl ?_
            refine ls_ret ?_
            have q0 := (Option.some.inj h).symm
            have r0 := hr1
            rw [q0] at r0
            have hr := Option.some.inj r0
            rw [← hr]
            exact ⟨.inl rfl, rfl⟩
          · refine ls_cF rfl g12 ?_
            refine ls_skip ?_
            refine hK9 _ (ls_keep [(1, .box [.int .i64 a0.1, .dat a0.2.length (a0.2.flatMap c25_d)]), (3, .int .i64 y1)] ⟨kr, kr, trivial⟩ rfl ?_)
            refine ls_rgn tbOk ?_
            refine evs (ev_mv (c := .int .i64 y1) rfl rfl rfl (evs (ev_bin (c1 := .int .i64 y1) (c2 := .int .i64 1) rfl rfl rfl (evs (ev_as (c := .int .i64 (IntKind.i64.wrap (y1 + 1))) rfl rfl rfl (evn ?_))))))
            exact hN _ (IntKind.i64.wrap (y1 + 1)) h ⟨kr, kr, trivial⟩
        refine evd rfl rfl (ev_fa (c1 := .cref 1 0) (v := .cref 1 1) rfl rfl rfl ⟨_, rfl⟩ rfl (evd rfl rfl (ev_ldB (off := 1) (v := .dat a0.2.length (a0.2.flatMap c25_d)) rfl rfl rfl rfl (Nat.le_of_ble_eq_true rfl) rfl (evd rfl rfl (ev_mv (c := .int .i64 y1) rfl rfl rfl (?_))))))
        obtain ⟨e13, g14, h⟩ := ob_some h
        refine evd rfl rfl (ev_ia rfl rfl rfl ⟨(geti_some g14).1, (geti_some g14).2.1⟩ (evd rfl rfl (ev_ldE (i := y1) (n := 1) (off := 0) (v := .dat e13.length (e13.flatMap ci64)) rfl rfl zc25_d g14 rfl (Nat.le_of_ble_eq_true rfl) rfl (evd rfl rfl (ev_len (c1 := .dat e13.length (e13.flatMap ci64)) rfl rfl rfl (evd rfl rfl (ev_fa (c1 := .cref 1 0) (v := .cref 1 0) rfl rfl rfl ⟨_, rfl⟩ rfl (evd rfl rfl (ev_ldB (off := 0) (v := .int .i64 a0.1) rfl rfl rfl rfl (Nat.le_of_ble_eq_true rfl) rfl (evd rfl rfl (ev_bin (c1 := .int .i64 (List.length e13 : Int)) (c2 := .int .i64 a0.1) rfl rfl rfl (evd rfl rfl (ev_mv (c := .bool ((List.length e13 : Int) != a0.1)) rfl rfl rfl (?_))))))))))))))
        rcases cond_some h with ⟨g15, h⟩ | ⟨g15, h⟩
        · refine evd rfl rfl (ev_gs rfl rfl (isb_T g15) (evd rfl rfl (ev_gs rfl rfl (isb_T g15) (evd rfl rfl (ev_gs rfl rfl (isb_T g15) (evd rfl rfl (ev_gs rfl rfl (isb_T g15) (evd rfl rfl (ev_gs rfl rfl (isb_T g15) (evd rfl rfl (ev_gs rfl rfl (isb_T g15) (evd rfl rfl (ev_gs rfl rfl (isb_T g15) (evd rfl rfl (ev_pkT (c1 := .bool true) rfl g15 rfl rfl (evd rfl rfl (ev_mv (c := .bool true) rfl rfl rfl (evd rfl rfl (ev_gs rfl rfl rfl (evd rfl rfl (ev_gs rfl rfl rfl (evd rfl rfl (ev_gs rfl rfl rfl (evd rfl rfl (ev_gs rfl rfl rfl (evd rfl rfl (ev_gs rfl rfl rfl (evd rfl rfl (ev_gs rfl rfl rfl (evd rfl rfl (ev_gs rfl rfl rfl (evd rfl rfl (ev_gs rfl rfl rfl (evd rfl rfl (ev_gs rfl rfl rfl (evd rfl rfl (ev_gs rfl rfl rfl (evd rfl rfl (ev_gs rfl rfl rfl (evd rfl rfl (ev_gs rfl rfl rfl (evd rfl rfl (ev_gs rfl rfl rfl (evd rfl rfl (ev_gs rfl rfl rfl (evd rfl rfl (ev_gs rfl rfl rfl (evd rfl rfl (ev_gs rfl rfl rfl (evd rfl rfl (ev_gs rfl rfl rfl (evd rfl rfl (ev_pkT (c1 := .bool true) rfl rfl rfl rfl (evdn ?_))))))))))))))))))))))))))))))))))))))))))))))))))))))
          exact kspec_IsValidRelation_J2 true h _ ⟨kr, kr, kr, trivial⟩
        · refine evd rfl rfl (ev_gr rfl (congrArg V.bool g15) (ev_fa (c1 := .cref 1 0) (v := .cref 1 1) rfl rfl rfl ⟨_, rfl⟩ rfl (evd rfl rfl (ev_gr rfl (congrArg V.bool g15) (ev_ldB (off := 1) (v := .dat a0.2.length (a0.2.flatMap c25_d)) rfl rfl rfl rfl (Nat.le_of_ble_eq_true rfl) rfl (evd rfl rfl (ev_gr rfl (congrArg V.bool g15) (ev_mv (c := .int .i64 y1) rfl rfl rfl (?_)))))))))
          obtain ⟨e16, g17, h⟩ := ob_some h
          refine evd rfl rfl (ev_gr rfl (congrArg V.bool g15) (ev_ia rfl rfl rfl ⟨(geti_some g17).1, (geti_some g17).2.1⟩ (evd rfl rfl (ev_gr rfl (congrArg V.bool g15) (ev_ldE (i := y1) (n := 1) (off := 0) (v := .dat e16.length (e16.flatMap ci64)) rfl rfl zc25_d g17 rfl (Nat.le_of_ble_eq_true rfl) rfl (?_))))))
          obtain ⟨v18, g19, h⟩ := ob_some h
          refine evd rfl rfl (ev_gr rfl (congrArg V.bool g15) (ev_call (era rfl (erD eci64 _) eran) (spec_AreValidValues_s g19) (evd rfl rfl (ev_gr rfl (congrArg V.bool g15) (ev_un (c1 := .bool v18) rfl trivial (evd rfl rfl (ev_pkF (c1 := .bool (!v18)) rfl g15 rfl rfl (evd rfl rfl (ev_mv (c := .bool (!v18)) rfl rfl rfl (?_))))))))))
          rcases cond_some h with ⟨g20, h⟩ | ⟨g20, h⟩
          · refine evd rfl rfl (ev_gs rfl rfl (isb_T g20) (evd rfl rfl (ev_gs rfl rfl (isb_T g20) (evd rfl rfl (ev_gs rfl rfl (isb_T g20) (evd rfl rfl (ev_gs rfl rfl rfl (evd rfl rfl (ev_gs rfl rfl rfl (evd rfl rfl (ev_gs rfl rfl rfl (evd rfl rfl (ev_gs rfl rfl rfl (evd rfl rfl (ev_gs rfl rfl rfl (evd rfl rfl (ev_gs rfl rfl rfl (evd rfl rfl (ev_gs rfl rfl rfl (evd rfl rfl (ev_gs rfl rfl rfl (evd rfl rfl (ev_gs rfl rfl rfl (evd rfl rfl (ev_gs rfl rfl rfl (evd rfl rfl (ev_gs rfl rfl rfl (evd rfl rfl (ev_gs rfl rfl rfl (evd rfl rfl (ev_gs rfl rfl rfl (evd rfl rfl (ev_gs rfl rfl (isb_T g20) (evd rfl rfl (ev_pkT (c1 := .bool true) rfl g20 rfl rfl (evdn ?_))))))))))))))))))))))))))))))))))))
            exact kspec_IsValidRelation_J2 true h _ ⟨kr, kr, kr, trivial⟩
          · refine evd rfl rfl (ev_gr rfl (congrArg V.bool g20) (ev_mv (c := .int .i64 y1) rfl rfl rfl (evd rfl rfl (ev_gr rfl (congrArg V.bool g20) (ev_bin (c1 := .int .i64 y1) (c2 := .int .i64 0) rfl rfl rfl (evd rfl rfl (ev_gr rfl (congrArg V.bool g20) (ev_mv (c := .bool (decide (0 < y1))) rfl rfl rfl (?_)))))))))
            rcases cond_some h with ⟨g21, h⟩ | ⟨g21, h⟩
            · refine evd rfl rfl (ev_gr rfl (congrArg V.bool g21) (ev_fa (c1 := .cref 1 0) (v := .cref 1 1) rfl rfl rfl ⟨_, rfl⟩ rfl (evd rfl rfl (ev_gr rfl (congrArg V.bool g21) (ev_ldB (off := 1) (v := .dat a0.2.length (a0.2.flatMap c25_d)) rfl rfl rfl rfl (Nat.le_of_ble_eq_true rfl) rfl (evd rfl rfl (ev_gr rfl (congrArg V.bool g21) (ev_mv (c := .int .i64 y1) rfl rfl rfl (evd rfl rfl (ev_gr rfl (congrArg V.bool g21) (ev_bin (c1 := .int .i64 y1) (c2 := .int .i64 1) rfl rfl rfl (?_))))))))))))
              obtain ⟨e22, g23, h⟩ := ob_some h
              refine evd rfl rfl (ev_gr rfl (congrArg V.bool g21) (ev_ia rfl rfl rfl ⟨(geti_some g23).1, (geti_some g23).2.1⟩ (evd rfl rfl (ev_gr rfl (congrArg V.bool g21) (ev_ldE (i := (IntKind.i64.wrap (y1 - 1))) (n := 1) (off := 0) (v := .dat e22.length (e22.flatMap ci64)) rfl rfl zc25_d g23 rfl (Nat.le_of_ble_eq_true rfl) rfl (evd rfl rfl (ev_gr rfl (congrArg V.bool g21) (ev_fa (c1 := .cref 1 0) (v := .cref 1 1) rfl rfl rfl ⟨_, rfl⟩ rfl (evd rfl rfl (ev_gr rfl (congrArg V.bool g21) (ev_ldB (off := 1) (v := .dat a0.2.length (a0.2.flatMap c25_d)) rfl rfl rfl rfl (Nat.le_of_ble_eq_true rfl) rfl (evd rfl rfl (ev_gr rfl (congrArg V.bool g21) (ev_mv (c := .int .i64 y1) rfl rfl rfl (?_)))))))))))))))
              obtain ⟨e24, g25, h⟩ := ob_some h
              refine evd rfl rfl (ev_gr rfl (congrArg V.bool g21) (ev_ia rfl rfl rfl ⟨(geti_some g25).1, (geti_some g25).2.1⟩ (evd rfl rfl (ev_gr rfl (congrArg V.bool g21) (ev_ldE (i := y1) (n := 1) (off := 0) (v := .dat e24.length (e24.flatMap ci64)) rfl rfl zc25_d g25 rfl (Nat.le_of_ble_eq_true rfl) rfl (?_))))))
              obtain ⟨v26, g27, h⟩ := ob_some h
              refine evd rfl rfl (ev_gr rfl (congrArg V.bool g21) (ev_call (era rfl (erD eci64 _) (era rfl (erD eci64 _) eran)) (spec_CompareRows_s g27) (evd rfl rfl (ev_gr rfl (congrArg V.bool g21) (ev_bin (c1 := .int .i64 v26) (c2 := .int .i64 0) rfl rfl rfl (evd rfl rfl (ev_gr rfl (congrArg V.bool g20) (ev_pkT (c1 := .bool (decide (0 ≤ v26))) rfl g21 rfl rfl (evd rfl rfl (ev_pkF (c1 := .bool (decide (0 ≤ v26))) rfl g20 rfl rfl (evdn ?_)))))))))))
              exact kspec_IsValidRelation_J2 (decide (0 ≤ v26)) h _ ⟨kr, kr, kr, trivial⟩
            · refine evd rfl rfl (ev_gs rfl rfl (isb_F g21) (evd rfl rfl (ev_gs rfl rfl (isb_F g21) (evd rfl rfl (ev_gs rfl rfl (isb_F g21) (evd rfl rfl (ev_gs rfl rfl (isb_F g21) (evd rfl rfl (ev_gs rfl rfl (isb_F g21) (evd rfl rfl (ev_gs rfl rfl (isb_F g21) (evd rfl rfl (ev_gs rfl rfl (isb_F g21) (evd rfl rfl (ev_gs rfl rfl (isb_F g21) (evd rfl rfl (ev_gs rfl rfl (isb_F g21) (evd rfl rfl (ev_gs rfl rfl (isb_F g21) (evd rfl rfl (ev_gs rfl rfl (isb_F g21) (evd rfl rfl (ev_gs rfl rfl (isb_F g21) (evd rfl rfl (ev_gs rfl rfl (isb_F g21) (evd rfl rfl (ev_gr rfl (congrArg V.bool g20) (ev_pkF (c1 := .bool false) rfl g21 rfl rfl (evd rfl rfl (ev_pkF (c1 := .bool false) rfl g20 rfl rfl (evdn ?_)))))))))))))))))))))))))))))))
              exact kspec_IsValidRelation_J2 false h _ ⟨kr, kr, kr, trivial⟩
      · refine ls_cF rfl g8 ?_
        refine ls_exit ?_
        have q0 := (Option.some.inj h).symm
        have r0 := hr1
        rw [q0] at r0
        exact kXspec_IsValidRelation_B1 () r0 _ trivial
def spec_IsValidDatabase_J2 (rec : Int → Option (Sum (Unit) (Bool))) (y1 : Int) (x8 : Bool) : Option (Sum (Unit) (Bool)) := cond x8 (some (.inr false)) (rec (IntKind.i64.wrap (y1 + 1)))
def spec_IsValidDatabase_B1 (a0 : (List ((List UInt8) × (Int × (List (List Int)))))) (rec : Int → Option (Sum (Unit) (Bool))) (y1 : Int) : Option (Sum (Unit) (Bool)) := cond (decide (y1 < (List.length a0 : Int))) (obind (geti a0 y1) fun e5 => obind (spec_IsValidName e5.1) fun v10 => cond (!v10) (spec_IsValidDatabase_J2 rec y1 true) (cond (decide (0 < y1)) (obind (geti a0 (IntKind.i64.wrap (y1 - 1))) fun e14 => cond (!Op.bytesLess e14.1 e5.1) (spec_IsValidDatabase_J2 rec y1 true) (obind (spec_IsValidRelation e5.2) fun v17 => cond (!v17) (spec_IsValidDatabase_J2 rec y1 true) (cond (decide (16 < (List.length e5.2.2 : Int))) (spec_IsValidDatabase_J2 rec y1 true) (spec_IsValidDatabase_J2 rec y1 (decide (e5.2.1 < 1)))))) (obind (spec_IsValidRelation e5.2) fun v21 => cond (!v21) (spec_IsValidDatabase_J2 rec y1 true) (cond (decide (16 < (List.length e5.2.2 : Int))) (spec_IsValidDatabase_J2 rec y1 true) (spec_IsValidDatabase_J2 rec y1 (decide (e5.2.1 < 1))))))) (some (.inl ()))
def spec_IsValidDatabase (a0 : (List ((List UInt8) × (Int × (List (List Int)))))) : Option (Bool) := obind (loopF (spec_IsValidDatabase_B1 a0) fz 0) fun o1 => (match o1 with
  | .inl _ => (some (decide ((List.length a0 : Int) ≤ 6)))
  | .inr r => some r)
theorem spec_IsValidDatabase_s {a0 : (List ((List UInt8) × (Int × (List (List Int)))))} {r : Bool} (h : spec_IsValidDatabase a0 = some r) : SoundAt Try.prog 135 [.agg [.dat a0.length (a0.flatMap c208_dd)]] (.bool r) := by
  unfold spec_IsValidDatabase at h
  refine sound_lit tbOk lit135 (Nat.le_of_ble_eq_true rfl) rfl ?_
  unfold c135
  refine ls_keep [(0, .agg [.dat a0.length (a0.flatMap c208_dd)])] ⟨kr, trivial⟩ rfl ?_
  refine ls_rs tbOk ?_
  refine evs (ev_bx (c1 := .agg [.dat a0.length (a0.flatMap c208_dd)]) rfl rfl rfl (evs (ev_ac rfl nofun rfl (evn ?_))))
  refine ls_keep [(1, .box [.dat a0.length (a0.flatMap c208_dd)])] ⟨kr, trivial⟩ rfl ?_
  refine ls_seq_k fun K1 hK1 => ?_
  refine ls_rs tbOk ?_
  refine evs (ev_ac rfl nofun rfl (evn ?_))
  refine ls_keep [(1, .box [.dat a0.length (a0.flatMap c208_dd)]), (3, .int .i64 0)] ⟨kr, kr, trivial⟩ rfl ?_
  obtain ⟨o1, hl, hr1⟩ := ob_some h
  clear h
  have kXspec_IsValidDatabase_B1 : ∀ (_ : Unit), (some (decide ((List.length a0 : Int) ≤ 6))) = some r → ∀ σ' : PS, okK σ' [(1, .box [.dat a0.length (a0.flatMap c208_dd)])] → K1 σ' := by
    intro _ h σ' hk
    refine hK1 _ (ls_keep [(1, .box [.dat a0.length (a0.flatMap c208_dd)])] hk rfl ?_)
    refine ls_rs tbOk ?_
    refine evs (ev_fa (c1 := .cref 1 0) (v := .cref 1 0) rfl rfl rfl ⟨_, rfl⟩ rfl (evs (ev_ldB (off := 0) (v := .dat a0.length (a0.flatMap c208_dd)) rfl rfl rfl rfl (Nat.le_of_ble_eq_true rfl) rfl (evs (ev_len (c1 := .dat a0.length (a0.flatMap c208_dd)) rfl rfl rfl (evs (ev_bin (c1 := .int .i64 (List.length a0 : Int)) (c2 := .int .i64 6) rfl rfl rfl (evs (ev_as (c := .bool (decide ((List.length a0 : Int) ≤ 6))) rfl rfl rfl (evn ?_))))))))))
    refine ls_keep [(2, .bool (decide ((List.length a0 : Int) ≤ 6)))] ⟨kr, trivial⟩ rfl ?_
    refine ls_ret ?_
    have hr := Option.some.inj h
    rw [← hr]
    exact ⟨.inl rfl, rfl⟩
  refine ls_rec (fun (y1 : Int) => [(1, .box [.dat a0.length (a0.flatMap c208_dd)]), (3, .int .i64 y1)]) (spec_IsValidDatabase_B1 a0) fz 0 o1 hl ⟨kr, kr, trivial⟩ (fun _ => rfl) ?_
  rintro m y1 N h hN
  unfold spec_IsValidDatabase_B1 at h
  refine ls_seq_k fun K2 hK2 => ?_
  refine ls_rs tbOk ?_
  refine evs (ev_mv (c := .int .i64 y1) rfl rfl rfl (evs (ev_fa (c1 := .cref 1 0) (v := .cref 1 0) rfl rfl rfl ⟨_, rfl⟩ rfl (evs (ev_ldB (off := 0) (v := .dat a0.length (a0.flatMap c208_dd)) rfl rfl rfl rfl (Nat.le_of_ble_eq_true rfl) rfl (evs (ev_len (c1 := .dat a0.length (a0.flatMap c208_dd)) rfl rfl rfl (evs (ev_bin (c1 := .int .i64 y1) (c2 := .int .i64 (List.length a0 : Int)) rfl rfl rfl (evn ?_))))))))))
  refine ls_keep [(1, .box [.dat a0.length (a0.flatMap c208_dd)]), (3, .int .i64 y1), (9, .bool (decide (y1 < (List.length a0 : Int))))] ⟨kr, kr, kr, trivial⟩ rfl ?_
  rcases cond_some h with ⟨g3, h⟩ | ⟨g3, h⟩
  · refine ls_cT rfl g3 ?_
    refine ls_skip ?_
    refine hK2 _ (ls_keep [(1, .box [.dat a0.length (a0.flatMap c208_dd)]), (3, .int .i64 y1)] ⟨kr, kr, trivial⟩ rfl ?_)
    refine ls_seq_k fun K4 hK4 => ?_
    refine ls_blk ?_
    refine ls_rs tbOk ?_
    refine evs (ev_fa (c1 := .cref 1 0) (v := .cref 1 0) rfl rfl rfl ⟨_, rfl⟩ rfl (evs (ev_ldB (off := 0) (v := .dat a0.length (a0.flatMap c208_dd)) rfl rfl rfl rfl (Nat.le_of_ble_eq_true rfl) rfl (evs (ev_mv (c := .int .i64 y1) rfl rfl rfl (?_))))))
    obtain ⟨e5, g6, h⟩ := ob_some h
    refine evs (ev_ia rfl rfl rfl ⟨(geti_some g6).1, (geti_some g6).2.1⟩ (evs (ev_ldEt (i := y1) (n := 3) (off := 0) (v := .agg [.str e5.1, .int .i64 e5.2.1, .dat e5.2.2.length (e5.2.2.flatMap c25_d)]) rfl rfl zc208_dd g6 rfl (Nat.le_of_ble_eq_true rfl) rfl (evs (ev_al rfl rfl (evs (ev_st (off := 0) (c1 := .agg [.str e5.1, .int .i64 e5.2.1, .dat e5.2.2.length (e5.2.2.flatMap c25_d)]) (cs' := [.str e5.1, .int .i64 e5.2.1, .dat e5.2.2.length (e5.2.2.flatMap c25_d)]) rfl rfl rfl rfl rfl rfl (Nat.le_of_ble_eq_true rfl) rfl (evn ?_))))))))
    refine ls_keep [(1, .box [.dat a0.length (a0.flatMap c208_dd)]), (3, .int .i64 y1), (4, .box [.str e5.1, .int .i64 e5.2.1, .dat e5.2.2.length (e5.2.2.flatMap c25_d)])] ⟨kr, kr, kr, trivial⟩ rfl ?_
    refine ls_rd_k tbOk mixed (by kernel_rfl) fun K7 hK7 => ?_
    have kspec_IsValidDatabase_J2 : ∀ (x8 : Bool), spec_IsValidDatabase_J2 (loopF (spec_IsValidDatabase_B1 a0) m) y1 x8 = some o1 → ∀ σ' : PS, okK σ' [(1, .box [.dat a0.length (a0.flatMap c208_dd)]), (3, .int .i64 y1), (55, .bool x8)] → K7 σ' := by
      intro x8 h σ' hk
      unfold spec_IsValidDatabase_J2 at h
      refine hK7 _ (ls_keep [(1, .box [.dat a0.length (a0.flatMap c208_dd)]), (3, .int .i64 y1), (55, .bool x8)] hk rfl ?_)
      rcases cond_some h with ⟨g9, h⟩ | ⟨g9, h⟩
      · refine ls_cT rfl g9 ?_
        refine ls_rs tbOk ?_
        refine evs (ev_ac rfl nofun rfl (evn ?_))
        refine ls_keep [(2, .bool false)] ⟨kr, trivial⟩ rfl ?_
        refine ls_ret ?_
        have q0 := (Option.some.inj h).symm
        have r0 := hr1
        rw [q0] at r0
        have hr := Option.some.inj r0
        rw [← hr]
        exact ⟨.inl rfl, rfl⟩
      · refine ls_cF rfl g9 ?_
        refine ls_skip ?_
        refine hK4 _ (ls_keep [(1, .box [.dat a0.length (a0.flatMap c208_dd)]), (3, .int .i64 y1)] ⟨kr, kr, trivial⟩ rfl ?_)
        refine ls_rgn tbOk ?_
        refine evs (ev_mv (c := .int .i64 y1) rfl rfl rfl (evs (ev_bin (c1 := .int .i64 y1) (c2 := .int .i64 1) rfl rfl rfl (evs (ev_as (c := .int .i64 (IntKind.i64.wrap (y1 + 1))) rfl rfl rfl (evn ?_))))))
        exact hN _ (IntKind.i64.wrap (y1 + 1)) h ⟨kr, kr, trivial⟩
    refine evd rfl rfl (ev_fa (c1 := .cref 4 0) (v := .cref 4 0) rfl rfl rfl ⟨_, rfl⟩ rfl (evd rfl rfl (ev_ldB (off := 0) (v := .str e5.1) rfl rfl rfl rfl (Nat.le_of_ble_eq_true rfl) rfl (?_))))
    obtain ⟨v10, g11, h⟩ := ob_some h
    refine evd rfl rfl (ev_call (era rfl rfl eran) (spec_IsValidName_s g11) (evd rfl rfl (ev_un (c1 := .bool v10) rfl trivial (evd rfl rfl (ev_mv (c := .bool (!v10)) rfl rfl rfl (?_))))))
    rcases cond_some h with ⟨g12, h⟩ | ⟨g12, h⟩
    · refine evd rfl rfl (ev_gs rfl rfl (isb_T g12) (evd rfl rfl (ev_gs rfl rfl (isb_T g12) (evd rfl rfl (ev_gs rfl rfl (isb_T g12) (evd rfl rfl (ev_gs rfl rfl rfl (evd rfl rfl (ev_gs rfl rfl rfl (evd rfl rfl (ev_gs rfl rfl rfl (evd rfl rfl (ev_gs rfl rfl rfl (evd rfl rfl (ev_gs rfl rfl rfl (evd rfl rfl (ev_gs rfl rfl rfl (evd rfl rfl (ev_gs rfl rfl rfl (evd rfl rfl (ev_gs rfl rfl rfl (evd rfl rfl (ev_gs rfl rfl rfl (evd rfl rfl (ev_gs rfl rfl rfl (evd rfl rfl (ev_gs rfl rfl (isb_T g12) (evd rfl rfl (ev_pkT (c1 := .bool true) rfl g12 rfl rfl (evd rfl rfl (ev_mv (c := .bool true) rfl rfl rfl (evd rfl rfl (ev_gs rfl rfl rfl (evd rfl rfl (ev_gs rfl rfl rfl (evd rfl rfl (ev_gs rfl rfl rfl (evd rfl rfl (ev_gs rfl rfl rfl (evd rfl rfl (ev_pkT (c1 := .bool true) rfl rfl rfl rfl (evd rfl rfl (ev_mv (c := .bool true) rfl rfl rfl (evd rfl rfl (ev_gs rfl rfl rfl (evd rfl rfl (ev_gs rfl rfl rfl (evd rfl rfl (ev_gs rfl rfl rfl (evd rfl rfl (ev_gs rfl rfl rfl (evd rfl rfl (ev_gs rfl rfl rfl (evd rfl rfl (ev_pkT (c1 := .bool true) rfl rfl rfl rfl (evd rfl rfl (ev_mv (c := .bool true) rfl rfl rfl (evd rfl rfl (ev_gs rfl rfl rfl (evd rfl rfl (ev_gs rfl rfl rfl (evd rfl rfl (ev_gs rfl rfl rfl (evd rfl rfl (ev_gs rfl rfl rfl (evd rfl rfl (ev_pkT (c1 := .bool true) rfl rfl rfl rfl (evdn ?_))))))))))))))))))))))))))))))))))))))))))))))))))))))))))))))))))))
      exact kspec_IsValidDatabase_J2 true h _ ⟨kr, kr, kr, trivial⟩
    · refine evd rfl rfl (ev_gr rfl (congrArg V.bool g12) (ev_mv (c := .int .i64 y1) rfl rfl rfl (evd rfl rfl (ev_gr rfl (congrArg V.bool g12) (ev_bin (c1 := .int .i64 y1) (c2 := .int .i64 0) rfl rfl rfl (evd rfl rfl (ev_gr rfl (congrArg V.bool g12) (ev_mv (c := .bool (decide (0 < y1))) rfl rfl rfl (?_)))))))))
      rcases cond_some h with ⟨g13, h⟩ | ⟨g13, h⟩
      · refine evd rfl rfl (ev_gr rfl (congrArg V.bool g13) (ev_fa (c1 := .cref 1 0) (v := .cref 1 0) rfl rfl rfl ⟨_, rfl⟩ rfl (evd rfl rfl (ev_gr rfl (congrArg V.bool g13) (ev_ldB (off := 0) (v := .dat a0.length (a0.flatMap c208_dd)) rfl rfl rfl rfl (Nat.le_of_ble_eq_true rfl) rfl (evd rfl rfl (ev_gr rfl (congrArg V.bool g13) (ev_mv (c := .int .i64 y1) rfl rfl rfl (evd rfl rfl (ev_gr rfl (congrArg V.bool g13) (ev_bin (c1 := .int .i64 y1) (c2 := .int .i64 1) rfl rfl rfl (?_))))))))))))
        obtain ⟨e14, g15, h⟩ := ob_some h
        refine evd rfl rfl (ev_gr rfl (congrArg V.bool g13) (ev_ia rfl rfl rfl ⟨(geti_some g15).1, (geti_some g15).2.1⟩ (evd rfl rfl (ev_gr rfl (congrArg V.bool g13) (ev_fa (c1 := .adr (a0.flatMap c208_dd) (Int.toNat (IntKind.i64.wrap (y1 - 1)) * 3)) (v := .adr (a0.flatMap c208_dd) (Int.toNat (IntKind.i64.wrap (y1 - 1)) * 3)) rfl rfl rfl trivial rfl (evd rfl rfl (ev_gr rfl (congrArg V.bool g13) (ev_ldE (i := (IntKind.i64.wrap (y1 - 1))) (n := 3) (off := 0) (v := .str e14.1) rfl rfl zc208_dd g15 rfl (Nat.le_of_ble_eq_true rfl) rfl (evd rfl rfl (ev_gr rfl (congrArg V.bool g13) (ev_fa (c1 := .cref 4 0) (v := .cref 4 0) rfl rfl rfl ⟨_, rfl⟩ rfl (evd rfl rfl (ev_gr rfl (congrArg V.bool g13) (ev_ldB (off := 0) (v := .str e5.1) rfl rfl rfl rfl (Nat.le_of_ble_eq_true rfl) rfl (evd rfl rfl (ev_gr rfl (congrArg V.bool g13) (ev_bin (c1 := .str e14.1) (c2 := .str e5.1) rfl rfl trivial (evd rfl rfl (ev_gr rfl (congrArg V.bool g12) (ev_pkT (c1 := .bool (!Op.bytesLess e14.1 e5.1)) rfl g13 rfl rfl (evd rfl rfl (ev_pkF (c1 := .bool (!Op.bytesLess e14.1 e5.1)) rfl g12 rfl rfl (evd rfl rfl (ev_mv (c := .bool (!Op.bytesLess e14.1 e5.1)) rfl rfl rfl (?_)))))))))))))))))))))))))
        rcases cond_some h with ⟨g16, h⟩ | ⟨g16, h⟩
        · refine evd rfl rfl (ev_gs rfl rfl (isb_T g16) (evd rfl rfl (ev_gs rfl rfl (isb_T g16) (evd rfl rfl (ev_gs rfl rfl (isb_T g16) (evd rfl rfl (ev_gs rfl rfl (isb_T g16) (evd rfl rfl (ev_pkT (c1 := .bool true) rfl g16 rfl rfl (evd rfl rfl (ev_mv (c := .bool true) rfl rfl rfl (evd rfl rfl (ev_gs rfl rfl rfl (evd rfl rfl (ev_gs rfl rfl rfl (evd rfl rfl (ev_gs rfl rfl rfl (evd rfl rfl (ev_gs rfl rfl rfl (evd rfl rfl (ev_gs rfl rfl rfl (evd rfl rfl (ev_pkT (c1 := .bool true) rfl rfl rfl rfl (evd rfl rfl (ev_mv (c := .bool true) rfl rfl rfl (evd rfl rfl (ev_gs rfl rfl rfl (evd rfl rfl (ev_gs rfl rfl rfl (evd rfl rfl (ev_gs rfl rfl rfl (evd rfl rfl (ev_gs rfl rfl rfl (evd rfl rfl (ev_pkT (c1 := .bool true) rfl rfl rfl rfl (evdn ?_))))))))))))))))))))))))))))))))))))
          exact kspec_IsValidDatabase_J2 true h _ ⟨kr, kr, kr, trivial⟩
        · refine evd rfl rfl (ev_gr rfl (congrArg V.bool g16) (ev_fa (c1 := .cref 4 0) (v := .cref 4 1) rfl rfl rfl ⟨_, rfl⟩ rfl (evd rfl rfl (ev_gr rfl (congrArg V.bool g16) (ev_ldB (off := 1) (v := .agg [.int .i64 e5.2.1, .dat e5.2.2.length (e5.2.2.flatMap c25_d)]) rfl rfl rfl rfl (Nat.le_of_ble_eq_true rfl) rfl (?_))))))
          obtain ⟨v17, g18, h⟩ := ob_some h
          refine evd rfl rfl (ev_gr rfl (congrArg V.bool g16) (ev_call (era rfl (erg (erc rfl (erc (erD ec25_d _) rfl))) eran) (spec_IsValidRelation_s g18) (evd rfl rfl (ev_gr rfl (congrArg V.bool g16) (ev_un (c1 := .bool v17) rfl trivial (evd rfl rfl (ev_pkF (c1 := .bool (!v17)) rfl g16 rfl rfl (evd rfl rfl (ev_mv (c := .bool (!v17)) rfl rfl rfl (?_))))))))))
          rcases cond_some h with ⟨g19, h⟩ | ⟨g19, h⟩
          · refine evd rfl rfl (ev_gs rfl rfl (isb_T g19) (evd rfl rfl (ev_gs rfl rfl (isb_T g19) (evd rfl rfl (ev_gs rfl rfl (isb_T g19) (evd rfl rfl (ev_gs rfl rfl (isb_T g19) (evd rfl rfl (ev_gs rfl rfl (isb_T g19) (evd rfl rfl (ev_pkT (c1 := .bool true) rfl g19 rfl rfl (evd rfl rfl (ev_mv (c := .bool true) rfl rfl rfl (evd rfl rfl (ev_gs rfl rfl rfl (evd rfl rfl (ev_gs rfl rfl rfl (evd rfl rfl (ev_gs rfl rfl rfl (evd rfl rfl (ev_gs rfl rfl rfl (evd rfl rfl (ev_pkT (c1 := .bool true) rfl rfl rfl rfl (evdn ?_))))))))))))))))))))))))
            exact kspec_IsValidDatabase_J2 true h _ ⟨kr, kr, kr, trivial⟩
          · refine evd rfl rfl (ev_gr rfl (congrArg V.bool g19) (ev_fa (c1 := .cref 4 0) (v := .cref 4 1) rfl rfl rfl ⟨_, rfl⟩ rfl (evd rfl rfl (ev_gr rfl (congrArg V.bool g19) (ev_fa (c1 := .cref 4 1) (v := .cref 4 2) rfl rfl rfl ⟨_, rfl⟩ rfl (evd rfl rfl (ev_gr rfl (congrArg V.bool g19) (ev_ldB (off := 2) (v := .dat e5.2.2.length (e5.2.2.flatMap c25_d)) rfl rfl rfl rfl (Nat.le_of_ble_eq_true rfl) rfl (evd rfl rfl (ev_gr rfl (congrArg V.bool g19) (ev_len (c1 := .dat e5.2.2.length (e5.2.2.flatMap c25_d)) rfl rfl rfl (evd rfl rfl (ev_gr rfl (congrArg V.bool g19) (ev_bin (c1 := .int .i64 (List.length e5.2.2 : Int)) (c2 := .int .i64 16) rfl rfl rfl (evd rfl rfl (ev_pkF (c1 := .bool (decide (16 < (List.length e5.2.2 : Int)))) rfl g19 rfl rfl (evd rfl rfl (ev_mv (c := .bool (decide (16 < (List.length e5.2.2 : Int)))) rfl rfl rfl (?_)))))))))))))))))))
            rcases cond_some h with ⟨g20, h⟩ | ⟨g20, h⟩
            · refine evd rfl rfl (ev_gs rfl rfl (isb_T g20) (evd rfl rfl (ev_gs rfl rfl (isb_T g20) (evd rfl rfl (ev_gs rfl rfl (isb_T g20) (evd rfl rfl (ev_gs rfl rfl (isb_T g20) (evd rfl rfl (ev_pkT (c1 := .bool true) rfl g20 rfl rfl (evdn ?_))))))))))
              exact kspec_IsValidDatabase_J2 true h _ ⟨kr, kr, kr, trivial⟩
            · refine evd rfl rfl (ev_gr rfl (congrArg V.bool g20) (ev_fa (c1 := .cref 4 0) (v := .cref 4 1) rfl rfl rfl ⟨_, rfl⟩ rfl (evd rfl rfl (ev_gr rfl (congrArg V.bool g20) (ev_fa (c1 := .cref 4 1) (v := .cref 4 1) rfl rfl rfl ⟨_, rfl⟩ rfl (evd rfl rfl (ev_gr rfl (congrArg V.bool g20) (ev_ldB (off := 1) (v := .int .i64 e5.2.1) rfl rfl rfl rfl (Nat.le_of_ble_eq_true rfl) rfl (evd rfl rfl (ev_gr rfl (congrArg V.bool g20) (ev_bin (c1 := .int .i64 e5.2.1) (c2 := .int .i64 1) rfl rfl rfl (evd rfl rfl (ev_pkF (c1 := .bool (decide (e5.2.1 < 1))) rfl g20 rfl rfl (evdn ?_))))))))))))))
              exact kspec_IsValidDatabase_J2 (decide (e5.2.1 < 1)) h _ ⟨kr, kr, kr, trivial⟩
      · refine evd rfl rfl (ev_gs rfl rfl (isb_F g13) (evd rfl rfl (ev_gs rfl rfl (isb_F g13) (evd rfl rfl (ev_gs rfl rfl (isb_F g13) (evd rfl rfl (ev_gs rfl rfl (isb_F g13) (evd rfl rfl (ev_gs rfl rfl (isb_F g13) (evd rfl rfl (ev_gs rfl rfl (isb_F g13) (evd rfl rfl (ev_gs rfl rfl (isb_F g13) (evd rfl rfl (ev_gs rfl rfl (isb_F g13) (evd rfl rfl (ev_gs rfl rfl (isb_F g13) (evd rfl rfl (ev_gs rfl rfl (isb_F g13) (evd rfl rfl (ev_gr rfl (congrArg V.bool g12) (ev_pkF (c1 := .bool false) rfl g13 rfl rfl (evd rfl rfl (ev_pkF (c1 := .bool false) rfl g12 rfl rfl (evd rfl rfl (ev_mv (c := .bool false) rfl rfl rfl (evd rfl rfl (ev_gr rfl rfl (ev_fa (c1 := .cref 4 0) (v := .cref 4 1) rfl rfl rfl ⟨_, rfl⟩ rfl (evd rfl rfl (ev_gr rfl rfl (ev_ldB (off := 1) (v := .agg [.int .i64 e5.2.1, .dat e5.2.2.length (e5.2.2.flatMap c25_d)]) rfl rfl rfl rfl (Nat.le_of_ble_eq_true rfl) rfl (?_)))))))))))))))))))))))))))))))))
        obtain ⟨v21, g22, h⟩ := ob_some h
        refine evd rfl rfl (ev_gr rfl rfl (ev_call (era rfl (erg (erc rfl (erc (erD ec25_d _) rfl))) eran) (spec_IsValidRelation_s g22) (evd rfl rfl (ev_gr rfl rfl (ev_un (c1 := .bool v21) rfl trivial (evd rfl rfl (ev_pkF (c1 := .bool (!v21)) rfl rfl rfl rfl (evd rfl rfl (ev_mv (c := .bool (!v21)) rfl rfl rfl (?_))))))))))
        rcases cond_some h with ⟨g23, h⟩ | ⟨g23, h⟩
        · refine evd rfl rfl (ev_gs rfl rfl (isb_T g23) (evd rfl rfl (ev_gs rfl rfl (isb_T g23) (evd rfl rfl (ev_gs rfl rfl (isb_T g23) (evd rfl rfl (ev_gs rfl rfl (isb_T g23) (evd rfl rfl (ev_gs rfl rfl (isb_T g23) (evd rfl rfl (ev_pkT (c1 := .bool true) rfl g23 rfl rfl (evd rfl rfl (ev_mv (c := .bool true) rfl rfl rfl (evd rfl rfl (ev_gs rfl rfl rfl (evd rfl rfl (ev_gs rfl rfl rfl (evd rfl rfl (ev_gs rfl rfl rfl (evd rfl rfl (ev_gs rfl rfl rfl (evd rfl rfl (ev_pkT (c1 := .bool true) rfl rfl rfl rfl (evdn ?_))))))))))))))))))))))))
          exact kspec_IsValidDatabase_J2 true h _ ⟨kr, kr, kr, trivial⟩
        · refine evd rfl rfl (ev_gr rfl (congrArg V.bool g23) (ev_fa (c1 := .cref 4 0) (v := .cref 4 1) rfl rfl rfl ⟨_, rfl⟩ rfl (evd rfl rfl (ev_gr rfl (congrArg V.bool g23) (ev_fa (c1 := .cref 4 1) (v := .cref 4 2) rfl rfl rfl ⟨_, rfl⟩ rfl (evd rfl rfl (ev_gr rfl (congrArg V.bool g23) (ev_ldB (off := 2) (v := .dat e5.2.2.length (e5.2.2.flatMap c25_d)) rfl rfl rfl rfl (Nat.le_of_ble_eq_true rfl) rfl (evd rfl rfl (ev_gr rfl (congrArg V.bool g23) (ev_len (c1 := .dat e5.2.2.length (e5.2.2.flatMap c25_d)) rfl rfl rfl (evd rfl rfl (ev_gr rfl (congrArg V.bool g23) (ev_bin (c1 := .int .i64 (List.length e5.2.2 : Int)) (c2 := .int .i64 16) rfl rfl rfl (evd rfl rfl (ev_pkF (c1 := .bool (decide (16 < (List.length e5.2.2 : Int)))) rfl g23 rfl rfl (evd rfl rfl (ev_mv (c := .bool (decide (16 < (List.length e5.2.2 : Int)))) rfl rfl rfl (?_)))))))))))))))))))
          rcases cond_some h with ⟨g24, h⟩ | ⟨g24, h⟩
          · refine evd rfl rfl (ev_gs rfl rfl (isb_T g24) (evd rfl rfl (ev_gs rfl rfl (isb_T g24) (evd rfl rfl (ev_gs rfl rfl (isb_T g24) (evd rfl rfl (ev_gs rfl rfl (isb_T g24) (evd rfl rfl (ev_pkT (c1 := .bool true) rfl g24 rfl rfl (evdn ?_))))))))))
            exact kspec_IsValidDatabase_J2 true h _ ⟨kr, kr, kr, trivial⟩
          · refine evd rfl rfl (ev_gr rfl (congrArg V.bool g24) (ev_fa (c1 := .cref 4 0) (v := .cref 4 1) rfl rfl rfl ⟨_, rfl⟩ rfl (evd rfl rfl (ev_gr rfl (congrArg V.bool g24) (ev_fa (c1 := .cref 4 1) (v := .cref 4 1) rfl rfl rfl ⟨_, rfl⟩ rfl (evd rfl rfl (ev_gr rfl (congrArg V.bool g24) (ev_ldB (off := 1) (v := .int .i64 e5.2.1) rfl rfl rfl rfl (Nat.le_of_ble_eq_true rfl) rfl (evd rfl rfl (ev_gr rfl (congrArg V.bool g24) (ev_bin (c1 := .int .i64 e5.2.1) (c2 := .int .i64 1) rfl rfl rfl (evd rfl rfl (ev_pkF (c1 := .bool (decide (e5.2.1 < 1))) rfl g24 rfl rfl (evdn ?_))))))))))))))
            exact kspec_IsValidDatabase_J2 (decide (e5.2.1 < 1)) h _ ⟨kr, kr, kr, trivial⟩
  · refine ls_cF rfl g3 ?_
    refine ls_exit ?_
    have q0 := (Option.some.inj h).symm
    have r0 := hr1
    rw [q0] at r0
    exact kXspec_IsValidDatabase_B1 () r0 _ ⟨kr, trivial⟩
def spec_NewNotifier (a0 : (List ((List UInt8) × (Int × (List (List Int)))))) : Option ((((List ((List UInt8) × (Int × (List (List Int)))))) × (List ((Int × (List ((List UInt8) × (List Int))) × (List Int)) × (Int × (List (List Int)) × (List Int)))) × (List (Int × (List (List Int)) × (List Int)))) × Bool) := obind (spec_IsValidDatabase a0) fun v2 => cond (!v2) (some (([], [], []), false)) (obind (spec_l6Copy a0) fun v5 => some ((v5, [], []), true))
theorem spec_NewNotifier_s {a0 : (List ((List UInt8) × (Int × (List (List Int)))))} {r : (((List ((List UInt8) × (Int × (List (List Int)))))) × (List ((Int × (List ((List UInt8) × (List Int))) × (List Int)) × (Int × (List (List Int)) × (List Int)))) × (List (Int × (List (List Int)) × (List Int)))) × Bool} (h : spec_NewNotifier a0 = some r) : SoundAt Try.prog 51 [.agg [.dat a0.length (a0.flatMap c208_dd)]] (.tup [.agg [.own 208 r.1.1.length (r.1.1.flatMap c208_oo), .own 161 r.1.2.1.length (r.1.2.1.flatMap c161_oooooo), .own 159 r.1.2.2.length (r.1.2.2.flatMap c159_ooo)], .bool r.2]) := by
  unfold spec_NewNotifier at h
  refine sound_lit tbOk lit51 (Nat.le_of_ble_eq_true rfl) rfl ?_
  unfold c51
  refine ls_keep [(0, .agg [.dat a0.length (a0.flatMap c208_dd)])] ⟨kr, trivial⟩ rfl ?_
  refine ls_rs tbOk ?_
  refine evs (ev_bx (c1 := .agg [.dat a0.length (a0.flatMap c208_dd)]) rfl rfl rfl (evs (ev_al rfl rfl (evs (ev_ac rfl nofun rfl (evn ?_))))))
  refine ls_keep [(1, .box [.dat a0.length (a0.flatMap c208_dd)]), (2, .box [.own 208 ([] : List ((List UInt8) × (Int × (List (List Int))))).length (([] : List ((List UInt8) × (Int × (List (List Int))))).flatMap c208_oo), .own 161 ([] : List ((Int × (List ((List UInt8) × (List Int))) × (List Int)) × (Int × (List (List Int)) × (List Int)))).length (([] : List ((Int × (List ((List UInt8) × (List Int))) × (List Int)) × (Int × (List (List Int)) × (List Int)))).flatMap c161_oooooo), .own 159 ([] : List (Int × (List (List Int)) × (List Int))).length (([] : List (Int × (List (List Int)) × (List Int))).flatMap c159_ooo)])] ⟨kr, kr, trivial⟩ rfl ?_
  refine ls_seq_k fun K1 hK1 => ?_
  refine ls_rs tbOk ?_
  refine evs (ev_ldB (off := 0) (v := .agg [.dat a0.length (a0.flatMap c208_dd)]) rfl rfl rfl rfl (Nat.le_of_ble_eq_true rfl) rfl (?_))
  obtain ⟨v2, g3, h⟩ := ob_some h
  refine evs (ev_call (era rfl (erg (erc (erD ec208_dd _) rfl)) eran) (spec_IsValidDatabase_s g3) (evs (ev_un (c1 := .bool v2) rfl trivial (evn ?_))))
  refine ls_keep [(1, .box [.dat a0.length (a0.flatMap c208_dd)]), (2, .box [.own 208 ([] : List ((List UInt8) × (Int × (List (List Int))))).length (([] : List ((List UInt8) × (Int × (List (List Int))))).flatMap c208_oo), .own 161 ([] : List ((Int × (List ((List UInt8) × (List Int))) × (List Int)) × (Int × (List (List Int)) × (List Int)))).length (([] : List ((Int × (List ((List UInt8) × (List Int))) × (List Int)) × (Int × (List (List Int)) × (List Int)))).flatMap c161_oooooo), .own 159 ([] : List (Int × (List (List Int)) × (List Int))).length (([] : List (Int × (List (List Int)) × (List Int))).flatMap c159_ooo)]), (7, .bool (!v2))] ⟨kr, kr, kr, trivial⟩ rfl ?_
  rcases cond_some h with ⟨g4, h⟩ | ⟨g4, h⟩
  · refine ls_cT rfl g4 ?_
    refine ls_rs tbOk ?_
    refine evs (ev_bd [] (cs := [.own 208 ([] : List ((List UInt8) × (Int × (List (List Int))))).length (([] : List ((List UInt8) × (Int × (List (List Int))))).flatMap c208_oo), .own 161 ([] : List ((Int × (List ((List UInt8) × (List Int))) × (List Int)) × (Int × (List (List Int)) × (List Int)))).length (([] : List ((Int × (List ((List UInt8) × (List Int))) × (List Int)) × (Int × (List (List Int)) × (List Int)))).flatMap c161_oooooo), .own 159 ([] : List (Int × (List (List Int)) × (List Int))).length (([] : List (Int × (List (List Int)) × (List Int))).flatMap c159_ooo)]) rfl trivial rfl (evs (ev_st (off := 0) (c1 := .agg [.own 208 ([] : List ((List UInt8) × (Int × (List (List Int))))).length (([] : List ((List UInt8) × (Int × (List (List Int))))).flatMap c208_oo), .own 161 ([] : List ((Int × (List ((List UInt8) × (List Int))) × (List Int)) × (Int × (List (List Int)) × (List Int)))).length (([] : List ((Int × (List ((List UInt8) × (List Int))) × (List Int)) × (Int × (List (List Int)) × (List Int)))).flatMap c161_oooooo), .own 159 ([] : List (Int × (List (List Int)) × (List Int))).length (([] : List (Int × (List (List Int)) × (List Int))).flatMap c159_ooo)]) (cs' := [.own 208 ([] : List ((List UInt8) × (Int × (List (List Int))))).length (([] : List ((List UInt8) × (Int × (List (List Int))))).flatMap c208_oo), .own 161 ([] : List ((Int × (List ((List UInt8) × (List Int))) × (List Int)) × (Int × (List (List Int)) × (List Int)))).length (([] : List ((Int × (List ((List UInt8) × (List Int))) × (List Int)) × (Int × (List (List Int)) × (List Int)))).flatMap c161_oooooo), .own 159 ([] : List (Int × (List (List Int)) × (List Int))).length (([] : List (Int × (List (List Int)) × (List Int))).flatMap c159_ooo)]) rfl rfl rfl rfl rfl rfl (Nat.le_of_ble_eq_true rfl) rfl (evs (ev_ac rfl nofun rfl (evn ?_))))))
    refine ls_keep [(2, .box [.own 208 ([] : List ((List UInt8) × (Int × (List (List Int))))).length (([] : List ((List UInt8) × (Int × (List (List Int))))).flatMap c208_oo), .own 161 ([] : List ((Int × (List ((List UInt8) × (List Int))) × (List Int)) × (Int × (List (List Int)) × (List Int)))).length (([] : List ((Int × (List ((List UInt8) × (List Int))) × (List Int)) × (Int × (List (List Int)) × (List Int)))).flatMap c161_oooooo), .own 159 ([] : List (Int × (List (List Int)) × (List Int))).length (([] : List (Int × (List (List Int)) × (List Int))).flatMap c159_ooo)]), (3, .bool false)] ⟨kr, kr, trivial⟩ rfl ?_
    refine ls_ret ?_
    have hr := Option.some.inj h
    rw [← hr]
    exact ⟨.inl rfl, rfl⟩
  · refine ls_cF rfl g4 ?_
    refine ls_skip ?_
    refine hK1 _ (ls_keep [(1, .box [.dat a0.length (a0.flatMap c208_dd)]), (2, .box [.own 208 ([] : List ((List UInt8) × (Int × (List (List Int))))).length (([] : List ((List UInt8) × (Int × (List (List Int))))).flatMap c208_oo), .own 161 ([] : List ((Int × (List ((List UInt8) × (List Int))) × (List Int)) × (Int × (List (List Int)) × (List Int)))).length (([] : List ((Int × (List ((List UInt8) × (List Int))) × (List Int)) × (Int × (List (List Int)) × (List Int)))).flatMap c161_oooooo), .own 159 ([] : List (Int × (List (List Int)) × (List Int))).length (([] : List (Int × (List (List Int)) × (List Int))).flatMap c159_ooo)])] ⟨kr, kr, trivial⟩ rfl ?_)
    refine ls_rs tbOk ?_
    refine evs (ev_ldB (off := 0) (v := .agg [.dat a0.length (a0.flatMap c208_dd)]) rfl rfl rfl rfl (Nat.le_of_ble_eq_true rfl) rfl (?_))
    obtain ⟨v5, g6, h⟩ := ob_some h
    refine evs (ev_call (era rfl (erg (erc (erD ec208_dd _) rfl)) eran) (spec_l6Copy_s g6) (evs (ev_al rfl rfl (evs (ev_st (off := 0) (c1 := .agg [.own 208 v5.length (v5.flatMap c208_oo)]) (cs' := [.own 208 v5.length (v5.flatMap c208_oo)]) rfl rfl rfl rfl rfl rfl (Nat.le_of_ble_eq_true rfl) rfl (evn ?_))))))
    refine ls_keep [(2, .box [.own 208 ([] : List ((List UInt8) × (Int × (List (List Int))))).length (([] : List ((List UInt8) × (Int × (List (List Int))))).flatMap c208_oo), .own 161 ([] : List ((Int × (List ((List UInt8) × (List Int))) × (List Int)) × (Int × (List (List Int)) × (List Int)))).length (([] : List ((Int × (List ((List UInt8) × (List Int))) × (List Int)) × (Int × (List (List Int)) × (List Int)))).flatMap c161_oooooo), .own 159 ([] : List (Int × (List (List Int)) × (List Int))).length (([] : List (Int × (List (List Int)) × (List Int))).flatMap c159_ooo)]), (4, .box [.own 208 v5.length (v5.flatMap c208_oo)])] ⟨kr, kr, trivial⟩ rfl ?_
    refine ls_rs tbOk ?_
    refine evs (ev_ldBt (off := 0) (v := .agg [.own 208 v5.length (v5.flatMap c208_oo)]) (c' := .box [.dat v5.length (v5.flatMap c208_oo)]) rfl rfl rfl rfl (Nat.le_of_ble_eq_true rfl) rfl rfl (evs (ev_bd [.agg [.own 208 v5.length (v5.flatMap c208_oo)]] (cs := [.own 208 v5.length (v5.flatMap c208_oo), .own 161 ([] : List ((Int × (List ((List UInt8) × (List Int))) × (List Int)) × (Int × (List (List Int)) × (List Int)))).length (([] : List ((Int × (List ((List UInt8) × (List Int))) × (List Int)) × (Int × (List (List Int)) × (List Int)))).flatMap c161_oooooo), .own 159 ([] : List (Int × (List (List Int)) × (List Int))).length (([] : List (Int × (List (List Int)) × (List Int))).flatMap c159_ooo)]) rfl ⟨rfl, trivial⟩ rfl (evs (ev_st (off := 0) (c1 := .agg [.own 208 v5.length (v5.flatMap c208_oo), .own 161 ([] : List ((Int × (List ((List UInt8) × (List Int))) × (List Int)) × (Int × (List (List Int)) × (List Int)))).length (([] : List ((Int × (List ((List UInt8) × (List Int))) × (List Int)) × (Int × (List (List Int)) × (List Int)))).flatMap c161_oooooo), .own 159 ([] : List (Int × (List (List Int)) × (List Int))).length (([] : List (Int × (List (List Int)) × (List Int))).flatMap c159_ooo)]) (cs' := [.own 208 v5.length (v5.flatMap c208_oo), .own 161 ([] : List ((Int × (List ((List UInt8) × (List Int))) × (List Int)) × (Int × (List (List Int)) × (List Int)))).length (([] : List ((Int × (List ((List UInt8) × (List Int))) × (List Int)) × (Int × (List (List Int)) × (List Int)))).flatMap c161_oooooo), .own 159 ([] : List (Int × (List (List Int)) × (List Int))).length (([] : List (Int × (List (List Int)) × (List Int))).flatMap c159_ooo)]) rfl rfl rfl rfl rfl rfl (Nat.le_of_ble_eq_true rfl) rfl (evs (ev_ac rfl nofun rfl (evn ?_))))))))
    refine ls_keep [(2, .box [.own 208 v5.length (v5.flatMap c208_oo), .own 161 ([] : List ((Int × (List ((List UInt8) × (List Int))) × (List Int)) × (Int × (List (List Int)) × (List Int)))).length (([] : List ((Int × (List ((List UInt8) × (List Int))) × (List Int)) × (Int × (List (List Int)) × (List Int)))).flatMap c161_oooooo), .own 159 ([] : List (Int × (List (List Int)) × (List Int))).length (([] : List (Int × (List (List Int)) × (List Int))).flatMap c159_ooo)]), (3, .bool true)] ⟨kr, kr, trivial⟩ rfl ?_
    refine ls_ret ?_
    have hr := Option.some.inj h
    rw [← hr]
    exact ⟨.inl rfl, rfl⟩
def impl_copyInts (a0 : List Int) : Option ((List Int)) := chk (List.length ([] : List Int) + List.length a0 ≤ lim) (some (([] : List Int) ++ a0))
theorem impl_copyInts_s {a0 : List Int} {r : (List Int)} (h : impl_copyInts a0 = some r) : SoundAt Try.prog 151 [.dat a0.length (a0.flatMap ci64)] (.own 3 r.length (r.flatMap ci64)) := by
  unfold impl_copyInts at h
  refine sound_lit tbOk lit151 (Nat.le_of_ble_eq_true rfl) rfl ?_
  unfold c151
  refine ls_keep [(0, .dat a0.length (a0.flatMap ci64))] ⟨kr, trivial⟩ rfl ?_
  refine ls_rs tbOk ?_
  refine evs (ev_an rfl rfl (evn ?_))
  refine ls_keep [(0, .dat a0.length (a0.flatMap ci64))] ⟨kr, trivial⟩ rfl ?_
  refine ls_rs tbOk ?_
  refine evs (ev_bs [] (cs := []) rfl trivial rfl (Nat.le_of_ble_eq_true rfl) rfl (evs (ev_mvt (c := .dat a0.length (a0.flatMap ci64)) rfl rfl rfl (?_))))
  obtain ⟨g1, h⟩ := chk_some h
  refine evs (ev_app (f := ci64) (l := ([] : List Int)) (m := a0) (c2 := .dat a0.length (a0.flatMap ci64)) rfl rfl rfl (flat_len zci64 a0) rfl (map_dg (fun _ => rfl) _) g1 rfl (evs (ev_as (c := .own 3 (([] : List Int) ++ a0).length ((([] : List Int) ++ a0).flatMap ci64)) rfl rfl rfl (evn ?_))))
  refine ls_keep [(2, .own 3 (([] : List Int) ++ a0).length ((([] : List Int) ++ a0).flatMap ci64))] ⟨kr, trivial⟩ rfl ?_
  refine ls_ret ?_
  have hr := Option.some.inj h
  rw [← hr]
  exact ⟨.inl rfl, rfl⟩
def impl_copyRows_B1 (a0 : List (List Int)) (rec : ((List (List Int)) × Int) → Option ((List (List Int)))) (s : (List (List Int)) × Int) : Option ((List (List Int))) := match s with
  | (y1, y2) => cond (decide (y2 < (List.length a0 : Int))) (obind (geti a0 y2) fun e6 => obind (impl_copyInts e6) fun v8 => chk (List.length y1 + List.length [v8] ≤ lim) (rec ((y1 ++ [v8]), (IntKind.i64.wrap (y2 + 1))))) (some y1)
def impl_copyRows (a0 : List (List Int)) : Option ((List (List Int))) := obind (loopF (impl_copyRows_B1 a0) fz (([] : List (List Int)), 0)) fun z2 => some z2
theorem impl_copyRows_s {a0 : List (List Int)} {r : (List (List Int))} (h : impl_copyRows a0 = some r) : SoundAt Try.prog 237 [.dat a0.length (a0.flatMap c25_d)] (.own 25 r.length (r.flatMap c25_o)) := by
  unfold impl_copyRows at h
  refine sound_lit tbOk lit237 (Nat.le_of_ble_eq_true rfl) rfl ?_
  unfold c237
  refine ls_keep [(0, .dat a0.length (a0.flatMap c25_d))] ⟨kr, trivial⟩ rfl ?_
  refine ls_rs tbOk ?_
  refine evs (ev_an rfl rfl (evn ?_))
  refine ls_keep [(0, .dat a0.length (a0.flatMap c25_d))] ⟨kr, trivial⟩ rfl ?_
  refine ls_rs tbOk ?_
  refine evs (ev_an rfl rfl (evn ?_))
  refine ls_keep [(0, .dat a0.length (a0.flatMap c25_d)), (3, .own 25 ([] : List (List Int)).length (([] : List (List Int)).flatMap c25_o))] ⟨kr, kr, trivial⟩ rfl ?_
  refine ls_seq_k fun K1 hK1 => ?_
  refine ls_rs tbOk ?_
  refine evs (ev_mv (c := .dat a0.length (a0.flatMap c25_d)) rfl rfl rfl (evs (ev_len (c1 := .dat a0.length (a0.flatMap c25_d)) rfl rfl rfl (evs (ev_mc rfl rfl (evn ?_))))))
  refine ls_keep [(3, .own 25 ([] : List (List Int)).length (([] : List (List Int)).flatMap c25_o)), (6, .dat a0.length (a0.flatMap c25_d)), (7, .int .i64 (List.length a0 : Int)), (8, .int .i64 0)] ⟨kr, kr, kr, kr, trivial⟩ rfl ?_
  obtain ⟨o1, hl, hr1⟩ := ob_some h
  clear h
  have kXimpl_copyRows_B1 : ∀ (z2 : List (List Int)), (some z2) = some r → ∀ σ' : PS, okK σ' [(3, .own 25 z2.length (z2.flatMap c25_o))] → K1 σ' := by
    intro z2 h σ' hk
    refine hK1 _ (ls_keep [(3, .own 25 z2.length (z2.flatMap c25_o))] hk rfl ?_)
    refine ls_rs tbOk ?_
    refine evs (ev_mvt (c := .own 25 z2.length (z2.flatMap c25_o)) rfl rfl rfl (evs (ev_as (c := .own 25 z2.length (z2.flatMap c25_o)) rfl rfl rfl (evn ?_))))
    refine ls_keep [(2, .own 25 z2.length (z2.flatMap c25_o))] ⟨kr, trivial⟩ rfl ?_
    refine ls_ret ?_
    have hr := Option.some.inj h
    rw [← hr]
    exact ⟨.inl rfl, rfl⟩
  refine ls_rec (fun (s : (List (List Int)) × Int) => match s with | (y1, y2) => [(3, .own 25 y1.length (y1.flatMap c25_o)), (6, .dat a0.length (a0.flatMap c25_d)), (7, .int .i64 (List.length a0 : Int)), (8, .int .i64 y2)]) (impl_copyRows_B1 a0) fz (([] : List (List Int)), 0) o1 hl ⟨kr, kr, kr, kr, trivial⟩ (fun _ => rfl) ?_
  rintro m ⟨y1, y2⟩ N h hN
  unfold impl_copyRows_B1 at h
  dsimp only at h
  refine ls_rs tbOk ?_
  refine evs (ev_bin (c1 := .int .i64 y2) (c2 := .int .i64 (List.length a0 : Int)) rfl rfl rfl (evn ?_))
  refine ls_keep [(3, .own 25 y1.length (y1.flatMap c25_o)), (6, .dat a0.length (a0.flatMap c25_d)), (7, .int .i64 (List.length a0 : Int)), (8, .int .i64 y2), (9, .bool (decide (y2 < (List.length a0 : Int))))] ⟨kr, kr, kr, kr, kr, trivial⟩ rfl ?_
  refine ls_seq_k fun K3 hK3 => ?_
  rcases cond_some h with ⟨g4, h⟩ | ⟨g4, h⟩
  · refine ls_cT rfl g4 ?_
    refine ls_skip ?_
    refine hK3 _ (ls_keep [(3, .own 25 y1.length (y1.flatMap c25_o)), (6, .dat a0.length (a0.flatMap c25_d)), (7, .int .i64 (List.length a0 : Int)), (8, .int .i64 y2)] ⟨kr, kr, kr, kr, trivial⟩ rfl ?_)
    refine ls_seq_k fun K5 hK5 => ?_
    refine ls_blk ?_
    refine ls_rs tbOk ?_
    obtain ⟨e6, g7, h⟩ := ob_some h
    refine evs (ev_ia rfl rfl rfl ⟨(geti_some g7).1, (geti_some g7).2.1⟩ (evs (ev_ldEt (i := y2) (n := 1) (off := 0) (v := .dat e6.length (e6.flatMap ci64)) rfl rfl zc25_d g7 rfl (Nat.le_of_ble_eq_true rfl) rfl (evs (ev_as (c := .dat e6.length (e6.flatMap ci64)) rfl rfl rfl (evn ?_))))))
    refine ls_keep [(3, .own 25 y1.length (y1.flatMap c25_o)), (5, .dat e6.length (e6.flatMap ci64)), (6, .dat a0.length (a0.flatMap c25_d)), (7, .int .i64 (List.length a0 : Int)), (8, .int .i64 y2)] ⟨kr, kr, kr, kr, kr, trivial⟩ rfl ?_
    refine ls_rgn tbOk ?_
    refine evs (ev_mvt (c := .own 25 y1.length (y1.flatMap c25_o)) rfl rfl rfl (evs (ev_mv (c := .dat e6.length (e6.flatMap ci64)) rfl rfl rfl (?_))))
    obtain ⟨v8, g9, h⟩ := ob_some h
    refine evs (ev_call (era rfl (erD eci64 _) eran) (impl_copyInts_s g9) (evs (ev_bs [.own 3 v8.length (v8.flatMap ci64)] (cs := [.own 3 v8.length (v8.flatMap ci64)]) rfl ⟨rfl, trivial⟩ rfl (Nat.le_of_ble_eq_true rfl) rfl (?_))))
    obtain ⟨g10, h⟩ := chk_some h
    refine evs (ev_app (f := c25_o) (l := y1) (m := [v8]) (c2 := .own 25 [v8].length ([v8].flatMap c25_o)) rfl rfl rfl (flat_len zc25_o [v8]) rfl rfl g10 rfl (evs (ev_as (c := .own 25 (y1 ++ [v8]).length ((y1 ++ [v8]).flatMap c25_o)) rfl rfl rfl (evn ?_))))
    refine hK5 _ (ls_keep [(3, .own 25 (y1 ++ [v8]).length ((y1 ++ [v8]).flatMap c25_o)), (6, .dat a0.length (a0.flatMap c25_d)), (7, .int .i64 (List.length a0 : Int)), (8, .int .i64 y2)] ⟨kr, kr, kr, kr, trivial⟩ rfl ?_)
    refine ls_rgn tbOk ?_
    refine evs (ev_bin (c1 := .int .i64 y2) (c2 := .int .i64 1) rfl rfl rfl (evs (ev_mv (c := .int .i64 (IntKind.i64.wrap (y2 + 1))) rfl rfl rfl (evn ?_))))
    exact hN _ ((y1 ++ [v8]), (IntKind.i64.wrap (y2 + 1))) h ⟨kr, kr, kr, kr, trivial⟩
  · refine ls_cF rfl g4 ?_
    refine ls_exit ?_
    have q0 := (Option.some.inj h).symm
    have r0 := hr1
    rw [q0] at r0
    exact kXimpl_copyRows_B1 y1 r0 _ ⟨kr, trivial⟩
def impl_copyRelation (a0 : Int × (List (List Int))) : Option ((Int × (List (List Int)))) := obind (impl_copyRows a0.2) fun v1 => some (a0.1, v1)
theorem impl_copyRelation_s {a0 : Int × (List (List Int))} {r : (Int × (List (List Int)))} (h : impl_copyRelation a0 = some r) : SoundAt Try.prog 175 [.agg [.int .i64 a0.1, .dat a0.2.length (a0.2.flatMap c25_d)]] (.agg [.int .i64 r.1, .own 25 r.2.length (r.2.flatMap c25_o)]) := by
  unfold impl_copyRelation at h
  refine sound_lit tbOk lit175 (Nat.le_of_ble_eq_true rfl) rfl ?_
  unfold c175
  refine ls_keep [(0, .agg [.int .i64 a0.1, .dat a0.2.length (a0.2.flatMap c25_d)])] ⟨kr, trivial⟩ rfl ?_
  refine ls_rs tbOk ?_
  refine evs (ev_bx (c1 := .agg [.int .i64 a0.1, .dat a0.2.length (a0.2.flatMap c25_d)]) rfl rfl rfl (evs (ev_al rfl rfl (evn ?_))))
  refine ls_keep [(1, .box [.int .i64 a0.1, .dat a0.2.length (a0.2.flatMap c25_d)]), (2, .box [.int .i64 0, .own 25 ([] : List (List Int)).length (([] : List (List Int)).flatMap c25_o)])] ⟨kr, kr, trivial⟩ rfl ?_
  refine ls_rd tbOk mixed (by kernel_rfl) ?_
  refine evd rfl rfl (ev_fa (c1 := .cref 1 0) (v := .cref 1 0) rfl rfl rfl ⟨_, rfl⟩ rfl (evd rfl rfl (ev_ldB (off := 0) (v := .int .i64 a0.1) rfl rfl rfl rfl (Nat.le_of_ble_eq_true rfl) rfl (evd rfl rfl (ev_fa (c1 := .cref 1 0) (v := .cref 1 1) rfl rfl rfl ⟨_, rfl⟩ rfl (evd rfl rfl (ev_ldB (off := 1) (v := .dat a0.2.length (a0.2.flatMap c25_d)) rfl rfl rfl rfl (Nat.le_of_ble_eq_true rfl) rfl (?_))))))))
  obtain ⟨v1, g2, h⟩ := ob_some h
  refine evd rfl rfl (ev_call (era rfl (erD ec25_d _) eran) (impl_copyRows_s g2) (evd rfl rfl (ev_bd [.int .i64 a0.1, .own 25 v1.length (v1.flatMap c25_o)] (cs := [.int .i64 a0.1, .own 25 v1.length (v1.flatMap c25_o)]) rfl ⟨rfl, rfl, trivial⟩ rfl (evd rfl rfl (ev_st (off := 0) (c1 := .agg [.int .i64 a0.1, .own 25 v1.length (v1.flatMap c25_o)]) (cs' := [.int .i64 a0.1, .own 25 v1.length (v1.flatMap c25_o)]) rfl rfl rfl rfl rfl rfl (Nat.le_of_ble_eq_true rfl) rfl (evdn ?_))))))
  refine ls_keep [(2, .box [.int .i64 a0.1, .own 25 v1.length (v1.flatMap c25_o)])] ⟨kr, trivial⟩ rfl ?_
  refine ls_ret ?_
  have hr := Option.some.inj h
  rw [← hr]
  exact ⟨.inl rfl, rfl⟩
def impl_copyDatabase_B1 (a0 : (List ((List UInt8) × (Int × (List (List Int)))))) (rec : ((List ((List UInt8) × (Int × (List (List Int))))) × Int) → Option ((List ((List UInt8) × (Int × (List (List Int))))))) (s : (List ((List UInt8) × (Int × (List (List Int))))) × Int) : Option ((List ((List UInt8) × (Int × (List (List Int)))))) := match s with
  | (y1, y2) => cond (decide (y2 < (List.length a0 : Int))) (obind (geti a0 y2) fun e6 => obind (impl_copyRelation e6.2) fun v8 => chk (List.length y1 + List.length [(e6.1, v8)] ≤ lim) (rec ((y1 ++ [(e6.1, v8)]), (IntKind.i64.wrap (y2 + 1))))) (some y1)
def impl_copyDatabase (a0 : (List ((List UInt8) × (Int × (List (List Int)))))) : Option (((List ((List UInt8) × (Int × (List (List Int))))))) := obind (loopF (impl_copyDatabase_B1 a0) fz (([] : List ((List UInt8) × (Int × (List (List Int))))), 0)) fun z2 => some z2
theorem impl_copyDatabase_s {a0 : (List ((List UInt8) × (Int × (List (List Int)))))} {r : ((List ((List UInt8) × (Int × (List (List Int))))))} (h : impl_copyDatabase a0 = some r) : SoundAt Try.prog 91 [.agg [.dat a0.length (a0.flatMap c208_dd)]] (.agg [.own 208 r.length (r.flatMap c208_oo)]) := by
  unfold impl_copyDatabase at h
  refine sound_lit tbOk lit91 (Nat.le_of_ble_eq_true rfl) rfl ?_
  unfold c91
  refine ls_keep [(0, .agg [.dat a0.length (a0.flatMap c208_dd)])] ⟨kr, trivial⟩ rfl ?_
  refine ls_rs tbOk ?_
  refine evs (ev_bx (c1 := .agg [.dat a0.length (a0.flatMap c208_dd)]) rfl rfl rfl (evs (ev_al rfl rfl (evn ?_))))
  refine ls_keep [(1, .box [.dat a0.length (a0.flatMap c208_dd)]), (2, .box [.own 208 ([] : List ((List UInt8) × (Int × (List (List Int))))).length (([] : List ((List UInt8) × (Int × (List (List Int))))).flatMap c208_oo)])] ⟨kr, kr, trivial⟩ rfl ?_
  refine ls_rs tbOk ?_
  refine evs (ev_al rfl rfl (evn ?_))
  refine ls_keep [(1, .box [.dat a0.length (a0.flatMap c208_dd)]), (2, .box [.own 208 ([] : List ((List UInt8) × (Int × (List (List Int))))).length (([] : List ((List UInt8) × (Int × (List (List Int))))).flatMap c208_oo)]), (3, .box [.own 208 ([] : List ((List UInt8) × (Int × (List (List Int))))).length (([] : List ((List UInt8) × (Int × (List (List Int))))).flatMap c208_oo)])] ⟨kr, kr, kr, trivial⟩ rfl ?_
  refine ls_seq_k fun K1 hK1 => ?_
  refine ls_rs tbOk ?_
  refine evs (ev_fa (c1 := .cref 1 0) (v := .cref 1 0) rfl rfl rfl ⟨_, rfl⟩ rfl (evs (ev_ldB (off := 0) (v := .dat a0.length (a0.flatMap c208_dd)) rfl rfl rfl rfl (Nat.le_of_ble_eq_true rfl) rfl (evs (ev_len (c1 := .dat a0.length (a0.flatMap c208_dd)) rfl rfl rfl (evs (ev_mc rfl rfl (evn ?_))))))))
  refine ls_keep [(2, .box [.own 208 ([] : List ((List UInt8) × (Int × (List (List Int))))).length (([] : List ((List UInt8) × (Int × (List (List Int))))).flatMap c208_oo)]), (3, .box [.own 208 ([] : List ((List UInt8) × (Int × (List (List Int))))).length (([] : List ((List UInt8) × (Int × (List (List Int))))).flatMap c208_oo)]), (7, .dat a0.length (a0.flatMap c208_dd)), (8, .int .i64 (List.length a0 : Int)), (9, .int .i64 0)] ⟨kr, kr, kr, kr, kr, trivial⟩ rfl ?_
  obtain ⟨o1, hl, hr1⟩ := ob_some h
  clear h
  have kXimpl_copyDatabase_B1 : ∀ (z2 : List ((List UInt8) × (Int × (List (List Int))))), (some z2) = some r → ∀ σ' : PS, okK σ' [(2, .box [.own 208 ([] : List ((List UInt8) × (Int × (List (List Int))))).length (([] : List ((List UInt8) × (Int × (List (List Int))))).flatMap c208_oo)]), (3, .box [.own 208 z2.length (z2.flatMap c208_oo)])] → K1 σ' := by
    intro z2 h σ' hk
    refine hK1 _ (ls_keep [(2, .box [.own 208 ([] : List ((List UInt8) × (Int × (List (List Int))))).length (([] : List ((List UInt8) × (Int × (List (List Int))))).flatMap c208_oo)]), (3, .box [.own 208 z2.length (z2.flatMap c208_oo)])] hk rfl ?_)
    refine ls_rs tbOk ?_
    refine evs (ev_ldBt (off := 0) (v := .agg [.own 208 z2.length (z2.flatMap c208_oo)]) (c' := .box [.dat z2.length (z2.flatMap c208_oo)]) rfl rfl rfl rfl (Nat.le_of_ble_eq_true rfl) rfl rfl (evs (ev_st (off := 0) (c1 := .agg [.own 208 z2.length (z2.flatMap c208_oo)]) (cs' := [.own 208 z2.length (z2.flatMap c208_oo)]) rfl rfl rfl rfl rfl rfl (Nat.le_of_ble_eq_true rfl) rfl (evn ?_))))
    refine ls_keep [(2, .box [.own 208 z2.length (z2.flatMap c208_oo)])] ⟨kr, trivial⟩ rfl ?_
    refine ls_ret ?_
    have hr := Option.some.inj h
    rw [← hr]
    exact ⟨.inl rfl, rfl⟩
  refine ls_rec (fun (s : (List ((List UInt8) × (Int × (List (List Int))))) × Int) => match s with | (y1, y2) => [(2, .box [.own 208 ([] : List ((List UInt8) × (Int × (List (List Int))))).length (([] : List ((List UInt8) × (Int × (List (List Int))))).flatMap c208_oo)]), (3, .box [.own 208 y1.length (y1.flatMap c208_oo)]), (7, .dat a0.length (a0.flatMap c208_dd)), (8, .int .i64 (List.length a0 : Int)), (9, .int .i64 y2)]) (impl_copyDatabase_B1 a0) fz (([] : List ((List UInt8) × (Int × (List (List Int))))), 0) o1 hl ⟨kr, kr, kr, kr, kr, trivial⟩ (fun _ => rfl) ?_
  rintro m ⟨y1, y2⟩ N h hN
  unfold impl_copyDatabase_B1 at h
  dsimp only at h
  refine ls_rs tbOk ?_
  refine evs (ev_bin (c1 := .int .i64 y2) (c2 := .int .i64 (List.length a0 : Int)) rfl rfl rfl (evn ?_))
  refine ls_keep [(2, .box [.own 208 ([] : List ((List UInt8) × (Int × (List (List Int))))).length (([] : List ((List UInt8) × (Int × (List (List Int))))).flatMap c208_oo)]), (3, .box [.own 208 y1.length (y1.flatMap c208_oo)]), (7, .dat a0.length (a0.flatMap c208_dd)), (8, .int .i64 (List.length a0 : Int)), (9, .int .i64 y2), (10, .bool (decide (y2 < (List.length a0 : Int))))] ⟨kr, kr, kr, kr, kr, kr, trivial⟩ rfl ?_
  refine ls_seq_k fun K3 hK3 => ?_
  rcases cond_some h with ⟨g4, h⟩ | ⟨g4, h⟩
  · refine ls_cT rfl g4 ?_
    refine ls_skip ?_
    refine hK3 _ (ls_keep [(2, .box [.own 208 ([] : List ((List UInt8) × (Int × (List (List Int))))).length (([] : List ((List UInt8) × (Int × (List (List Int))))).flatMap c208_oo)]), (3, .box [.own 208 y1.length (y1.flatMap c208_oo)]), (7, .dat a0.length (a0.flatMap c208_dd)), (8, .int .i64 (List.length a0 : Int)), (9, .int .i64 y2)] ⟨kr, kr, kr, kr, kr, trivial⟩ rfl ?_)
    refine ls_seq_k fun K5 hK5 => ?_
    refine ls_blk ?_
    refine ls_rs tbOk ?_
    obtain ⟨e6, g7, h⟩ := ob_some h
    refine evs (ev_ia rfl rfl rfl ⟨(geti_some g7).1, (geti_some g7).2.1⟩ (evs (ev_ldEt (i := y2) (n := 3) (off := 0) (v := .agg [.str e6.1, .int .i64 e6.2.1, .dat e6.2.2.length (e6.2.2.flatMap c25_d)]) rfl rfl zc208_dd g7 rfl (Nat.le_of_ble_eq_true rfl) rfl (evs (ev_al rfl rfl (evs (ev_st (off := 0) (c1 := .agg [.str e6.1, .int .i64 e6.2.1, .dat e6.2.2.length (e6.2.2.flatMap c25_d)]) (cs' := [.str e6.1, .int .i64 e6.2.1, .dat e6.2.2.length (e6.2.2.flatMap c25_d)]) rfl rfl rfl rfl rfl rfl (Nat.le_of_ble_eq_true rfl) rfl (evn ?_))))))))
    refine ls_keep [(2, .box [.own 208 ([] : List ((List UInt8) × (Int × (List (List Int))))).length (([] : List ((List UInt8) × (Int × (List (List Int))))).flatMap c208_oo)]), (3, .box [.own 208 y1.length (y1.flatMap c208_oo)]), (5, .box [.str e6.1, .int .i64 e6.2.1, .dat e6.2.2.length (e6.2.2.flatMap c25_d)]), (7, .dat a0.length (a0.flatMap c208_dd)), (8, .int .i64 (List.length a0 : Int)), (9, .int .i64 y2)] ⟨kr, kr, kr, kr, kr, kr, trivial⟩ rfl ?_
    refine ls_drw tbOk mixed (by kernel_rfl) ?_
    refine evd rfl rfl (ev_fa (c1 := .cref 3 0) (v := .cref 3 0) rfl rfl rfl ⟨_, rfl⟩ rfl (evd rfl rfl (ev_ldBt (off := 0) (v := .own 208 y1.length (y1.flatMap c208_oo)) (c' := .box [.dat y1.length (y1.flatMap c208_oo)]) rfl rfl rfl rfl (Nat.le_of_ble_eq_true rfl) rfl rfl (evd rfl rfl (ev_fa (c1 := .cref 5 0) (v := .cref 5 0) rfl rfl rfl ⟨_, rfl⟩ rfl (evd rfl rfl (ev_ldB (off := 0) (v := .str e6.1) rfl rfl rfl rfl (Nat.le_of_ble_eq_true rfl) rfl (evd rfl rfl (ev_fa (c1 := .cref 5 0) (v := .cref 5 1) rfl rfl rfl ⟨_, rfl⟩ rfl (evd rfl rfl (ev_ldB (off := 1) (v := .agg [.int .i64 e6.2.1, .dat e6.2.2.length (e6.2.2.flatMap c25_d)]) rfl rfl rfl rfl (Nat.le_of_ble_eq_true rfl) rfl (?_))))))))))))
    obtain ⟨v8, g9, h⟩ := ob_some h
    refine evd rfl rfl (ev_call (era rfl (erg (erc rfl (erc (erD ec25_d _) rfl))) eran) (impl_copyRelation_s g9) (evd rfl rfl (ev_bd [.str e6.1, .agg [.int .i64 v8.1, .own 25 v8.2.length (v8.2.flatMap c25_o)]] (cs := [.str e6.1, .int .i64 v8.1, .own 25 v8.2.length (v8.2.flatMap c25_o)]) rfl ⟨rfl, rfl, trivial⟩ rfl (evd rfl rfl (ev_bs [.agg [.str e6.1, .int .i64 v8.1, .own 25 v8.2.length (v8.2.flatMap c25_o)]] (cs := [.str e6.1, .int .i64 v8.1, .own 25 v8.2.length (v8.2.flatMap c25_o)]) rfl ⟨rfl, trivial⟩ rfl (Nat.le_of_ble_eq_true rfl) rfl (?_))))))
    obtain ⟨g10, h⟩ := chk_some h
    refine evd rfl rfl (ev_app (f := c208_oo) (l := y1) (m := [(e6.1, v8)]) (c2 := .own 208 [(e6.1, v8)].length ([(e6.1, v8)].flatMap c208_oo)) rfl rfl rfl (flat_len zc208_oo [(e6.1, v8)]) rfl rfl g10 rfl (evd rfl rfl (ev_fa (c1 := .cref 3 0) (v := .cref 3 0) rfl rfl rfl ⟨_, rfl⟩ rfl (evd rfl rfl (ev_st (off := 0) (c1 := .own 208 (y1 ++ [(e6.1, v8)]).length ((y1 ++ [(e6.1, v8)]).flatMap c208_oo)) (cs' := [.own 208 (y1 ++ [(e6.1, v8)]).length ((y1 ++ [(e6.1, v8)]).flatMap c208_oo)]) rfl rfl rfl rfl rfl rfl (Nat.le_of_ble_eq_true rfl) rfl (evdn ?_))))))
    refine hK5 _ (ls_keep [(2, .box [.own 208 ([] : List ((List UInt8) × (Int × (List (List Int))))).length (([] : List ((List UInt8) × (Int × (List (List Int))))).flatMap c208_oo)]), (3, .box [.own 208 (y1 ++ [(e6.1, v8)]).length ((y1 ++ [(e6.1, v8)]).flatMap c208_oo)]), (7, .dat a0.length (a0.flatMap c208_dd)), (8, .int .i64 (List.length a0 : Int)), (9, .int .i64 y2)] ⟨kr, kr, kr, kr, kr, trivial⟩ rfl ?_)
    refine ls_rgn tbOk ?_
    refine evs (ev_bin (c1 := .int .i64 y2) (c2 := .int .i64 1) rfl rfl rfl (evs (ev_mv (c := .int .i64 (IntKind.i64.wrap (y2 + 1))) rfl rfl rfl (evn ?_))))
    exact hN _ ((y1 ++ [(e6.1, v8)]), (IntKind.i64.wrap (y2 + 1))) h ⟨kr, kr, kr, kr, kr, trivial⟩
  · refine ls_cF rfl g4 ?_
    refine ls_exit ?_
    have q0 := (Option.some.inj h).symm
    have r0 := hr1
    rw [q0] at r0
    exact kXimpl_copyDatabase_B1 y1 r0 _ ⟨kr, kr, trivial⟩
def impl_isLetters_B1 (a0 : List UInt8) (rec : Int → Option (Sum (Unit) (Bool))) (y1 : Int) : Option (Sum (Unit) (Bool)) := cond (decide (y1 < (List.length a0 : Int))) (obind (geti a0 y1) fun b8 => cond (decide ((UInt8.toNat b8 : Int) < 97)) (some (.inr false)) (obind (geti a0 y1) fun b11 => cond (decide (122 < (UInt8.toNat b11 : Int))) (some (.inr false)) (rec (IntKind.i64.wrap (y1 + 1))))) (some (.inl ()))
def impl_isLetters (a0 : List UInt8) (a1 : Int) : Option (Bool) := cond (decide ((List.length a0 : Int) < 1)) (some false) (cond (decide (a1 < (List.length a0 : Int))) (some false) (obind (loopF (impl_isLetters_B1 a0) fz 0) fun o1 => (match o1 with
  | .inl _ => (some true)
  | .inr r => some r)))
theorem impl_isLetters_s {a0 : List UInt8} {a1 : Int} {r : Bool} (h : impl_isLetters a0 a1 = some r) : SoundAt Try.prog 243 [.str a0, .int .i64 a1] (.bool r) := by
  unfold impl_isLetters at h
  refine sound_lit tbOk lit243 (Nat.le_of_ble_eq_true rfl) rfl ?_
  unfold c243
  refine ls_keep [(0, .str a0), (1, .int .i64 a1)] ⟨kr, kr, trivial⟩ rfl ?_
  refine ls_rs tbOk ?_
  refine evs (ev_ac rfl nofun rfl (evn ?_))
  refine ls_keep [(0, .str a0), (1, .int .i64 a1)] ⟨kr, kr, trivial⟩ rfl ?_
  refine ls_seq_k fun K1 hK1 => ?_
  refine ls_rs tbOk ?_
  refine evs (ev_mv (c := .str a0) rfl rfl rfl (evs (ev_lens (z := []) rfl rfl (evs (ev_bin (c1 := .int .i64 (List.length a0 : Int)) (c2 := .int .i64 1) rfl rfl rfl (evs (ev_mv (c := .bool (decide ((List.length a0 : Int) < 1))) rfl rfl rfl (?_))))))))
  rcases cond_some h with ⟨g2, h⟩ | ⟨g2, h⟩
  · refine evs (ev_gs rfl rfl (isb_T g2) (evs (ev_gs rfl rfl (isb_T g2) (evs (ev_gs rfl rfl (isb_T g2) (evs (ev_gs rfl rfl (isb_T g2) (evs (ev_pkT (c1 := .bool true) rfl g2 rfl rfl (evn ?_))))))))))
    refine ls_keep [(0, .str a0), (14, .bool true)] ⟨kr, kr, trivial⟩ rfl ?_
    refine ls_cT rfl rfl ?_
    refine ls_rs tbOk ?_
    refine evs (ev_ac rfl nofun rfl (evn ?_))
    refine ls_keep [(4, .bool false)] ⟨kr, trivial⟩ rfl ?_
    refine ls_ret ?_
    have hr := Option.some.inj h
    rw [← hr]
    exact ⟨.inl rfl, rfl⟩
  · refine evs (ev_gr rfl (congrArg V.bool g2) (ev_mv (c := .str a0) rfl rfl rfl (evs (ev_gr rfl (congrArg V.bool g2) (ev_lens (z := []) rfl rfl (evs (ev_gr rfl (congrArg V.bool g2) (ev_mv (c := .int .i64 a1) rfl rfl rfl (evs (ev_gr rfl (congrArg V.bool g2) (ev_bin (c1 := .int .i64 (List.length a0 : Int)) (c2 := .int .i64 a1) rfl rfl rfl (evs (ev_pkF (c1 := .bool (decide (a1 < (List.length a0 : Int)))) rfl g2 rfl rfl (evn ?_))))))))))))))
    refine ls_keep [(0, .str a0), (14, .bool (decide (a1 < (List.length a0 : Int))))] ⟨kr, kr, trivial⟩ rfl ?_
    rcases cond_some h with ⟨g3, h⟩ | ⟨g3, h⟩
    · refine ls_cT rfl g3 ?_
      refine ls_rs tbOk ?_
      refine evs (ev_ac rfl nofun rfl (evn ?_))
      refine ls_keep [(4, .bool false)] ⟨kr, trivial⟩ rfl ?_
      refine ls_ret ?_
      have hr := Option.some.inj h
      rw [← hr]
      exact ⟨.inl rfl, rfl⟩
    · refine ls_cF rfl g3 ?_
      refine ls_skip ?_
      refine hK1 _ (ls_keep [(0, .str a0)] ⟨kr, trivial⟩ rfl ?_)
      refine ls_seq_k fun K4 hK4 => ?_
      refine ls_rs tbOk ?_
      refine evs (ev_ac rfl nofun rfl (evn ?_))
      refine ls_keep [(0, .str a0), (5, .int .i64 0)] ⟨kr, kr, trivial⟩ rfl ?_
      obtain ⟨o1, hl, hr1⟩ := ob_some h
      clear h
      have kXimpl_isLetters_B1 : ∀ (_ : Unit), (some true) = some r → ∀ σ' : PS, okK σ' [] → K4 σ' := by
        intro _ h σ' hk
        refine hK4 _ (ls_keep [] hk rfl ?_)
        refine ls_rs tbOk ?_
        refine evs (ev_ac rfl nofun rfl (evn ?_))
        refine ls_keep [(4, .bool true)] ⟨kr, trivial⟩ rfl ?_
        refine ls_ret ?_
        have hr := Option.some.inj h
        rw [← hr]
        exact ⟨.inl rfl, rfl⟩
      refine ls_rec (fun (y1 : Int) => [(0, .str a0), (5, .int .i64 y1)]) (impl_isLetters_B1 a0) fz 0 o1 hl ⟨kr, kr, trivial⟩ (fun _ => rfl) ?_
      rintro m y1 N h hN
      unfold impl_isLetters_B1 at h
      refine ls_seq_k fun K5 hK5 => ?_
      refine ls_rs tbOk ?_
      refine evs (ev_mv (c := .int .i64 y1) rfl rfl rfl (evs (ev_mv (c := .str a0) rfl rfl rfl (evs (ev_lens (z := []) rfl rfl (evs (ev_bin (c1 := .int .i64 y1) (c2 := .int .i64 (List.length a0 : Int)) rfl rfl rfl (evn ?_))))))))
      refine ls_keep [(0, .str a0), (5, .int .i64 y1), (18, .bool (decide (y1 < (List.length a0 : Int))))] ⟨kr, kr, kr, trivial⟩ rfl ?_
      rcases cond_some h with ⟨g6, h⟩ | ⟨g6, h⟩
      · refine ls_cT rfl g6 ?_
        refine ls_skip ?_
        refine hK5 _ (ls_keep [(0, .str a0), (5, .int .i64 y1)] ⟨kr, kr, trivial⟩ rfl ?_)
        refine ls_seq_k fun K7 hK7 => ?_
        refine ls_blk ?_
        refine ls_rs tbOk ?_
        refine evs (ev_mv (c := .str a0) rfl rfl rfl (evs (ev_mv (c := .int .i64 y1) rfl rfl rfl (?_))))
        obtain ⟨b8, g9, h⟩ := ob_some h
        refine evs (ev_six rfl rfl rfl g9 (evs (ev_bin (c1 := .int .u8 (UInt8.toNat b8 : Int)) (c2 := .int .u8 97) rfl rfl rfl (evs (ev_mv (c := .bool (decide ((UInt8.toNat b8 : Int) < 97))) rfl rfl rfl (?_))))))
        rcases cond_some h with ⟨g10, h⟩ | ⟨g10, h⟩
        · refine evs (ev_gs rfl rfl (isb_T g10) (evs (ev_gs rfl rfl (isb_T g10) (evs (ev_gs rfl rfl (isb_T g10) (evs (ev_gs rfl rfl (isb_T g10) (evs (ev_pkT (c1 := .bool true) rfl g10 rfl rfl (evn ?_))))))))))
          refine ls_keep [(0, .str a0), (5, .int .i64 y1), (30, .bool true)] ⟨kr, kr, kr, trivial⟩ rfl ?_
          refine ls_cT rfl rfl ?_
          refine ls_rs tbOk ?_
          refine evs (ev_ac rfl nofun rfl (evn ?_))
          refine ls_keep [(4, .bool false)] ⟨kr, trivial⟩ rfl ?_
          refine ls_ret ?_
          have q0 := (Option.some.inj h).symm
          have r0 := hr1
          rw [q0] at r0
          have hr := Option.some.inj r0
          rw [← hr]
          exact ⟨.inl rfl, rfl⟩
        · refine evs (ev_gr rfl (congrArg V.bool g10) (ev_mv (c := .str a0) rfl rfl rfl (evs (ev_gr rfl (congrArg V.bool g10) (ev_mv (c := .int .i64 y1) rfl rfl rfl (?_))))))
          obtain ⟨b11, g12, h⟩ := ob_some h
          refine evs (ev_gr rfl (congrArg V.bool g10) (ev_six rfl rfl rfl g12 (evs (ev_gr rfl (congrArg V.bool g10) (ev_bin (c1 := .int .u8 (UInt8.toNat b11 : Int)) (c2 := .int .u8 122) rfl rfl rfl (evs (ev_pkF (c1 := .bool (decide (122 < (UInt8.toNat b11 : Int)))) rfl g10 rfl rfl (evn ?_))))))))
          refine ls_keep [(0, .str a0), (5, .int .i64 y1), (30, .bool (decide (122 < (UInt8.toNat b11 : Int))))] ⟨kr, kr, kr, trivial⟩ rfl ?_
          rcases cond_some h with ⟨g13, h⟩ | ⟨g13, h⟩
          · refine ls_cT rfl g13 ?_
            refine ls_rs tbOk ?_
            refine evs (ev_ac rfl nofun rfl (evn ?_))
            refine ls_keep [(4, .bool false)] ⟨kr, trivial⟩ rfl ?_
            refine ls_ret ?_
            have q0 := (Option.some.inj h).symm
            have r0 := hr1
            rw [q0] at r0
            have hr := Option.some.inj r0
            rw [← hr]
            exact ⟨.inl rfl, rfl⟩
          · refine ls_cF rfl g13 ?_
            refine ls_skip ?_
            refine hK7 _ (ls_keep [(0, .str a0), (5, .int .i64 y1)] ⟨kr, kr, trivial⟩ rfl ?_)
            refine ls_rgn tbOk ?_
            refine evs (ev_mv (c := .int .i64 y1) rfl rfl rfl (evs (ev_bin (c1 := .int .i64 y1) (c2 := .int .i64 1) rfl rfl rfl (evs (ev_as (c := .int .i64 (IntKind.i64.wrap (y1 + 1))) rfl rfl rfl (evn ?_))))))
            exact hN _ (IntKind.i64.wrap (y1 + 1)) h ⟨kr, kr, trivial⟩
      · refine ls_cF rfl g6 ?_
        refine ls_exit ?_
        have q0 := (Option.some.inj h).symm
        have r0 := hr1
        rw [q0] at r0
        exact kXimpl_isLetters_B1 () r0 _ trivial
def impl_IsValidName (a0 : List UInt8) : Option (Bool) := obind (impl_isLetters a0 4) fun v1 => some v1
theorem impl_IsValidName_s {a0 : List UInt8} {r : Bool} (h : impl_IsValidName a0 = some r) : SoundAt Try.prog 218 [.str a0] (.bool r) := by
  unfold impl_IsValidName at h
  refine sound_lit tbOk lit218 (Nat.le_of_ble_eq_true rfl) rfl ?_
  unfold c218
  refine ls_keep [(0, .str a0)] ⟨kr, trivial⟩ rfl ?_
  refine ls_rs tbOk ?_
  refine evs (ev_ac rfl nofun rfl (evn ?_))
  refine ls_keep [(0, .str a0)] ⟨kr, trivial⟩ rfl ?_
  refine ls_rs tbOk ?_
  refine evs (ev_mv (c := .str a0) rfl rfl rfl (?_))
  obtain ⟨v1, g2, h⟩ := ob_some h
  refine evs (ev_call (era rfl rfl (era rfl rfl eran)) (impl_isLetters_s g2) (evs (ev_as (c := .bool v1) rfl rfl rfl (evn ?_))))
  refine ls_keep [(2, .bool v1)] ⟨kr, trivial⟩ rfl ?_
  refine ls_ret ?_
  have hr := Option.some.inj h
  rw [← hr]
  exact ⟨.inl rfl, rfl⟩
def impl_within_J1 (x2 : Bool) : Option (Bool) := some x2
def impl_within (a0 : Int) (a1 : Int) (a2 : Int) : Option (Bool) := cond (decide (a1 ≤ a0)) (impl_within_J1 (decide (a0 ≤ a2))) (impl_within_J1 false)
theorem impl_within_s {a0 : Int} {a1 : Int} {a2 : Int} {r : Bool} (h : impl_within a0 a1 a2 = some r) : SoundAt Try.prog 90 [.int .i64 a0, .int .i64 a1, .int .i64 a2] (.bool r) := by
  unfold impl_within at h
  refine sound_lit tbOk lit90 (Nat.le_of_ble_eq_true rfl) rfl ?_
  unfold c90
  refine ls_keep [(0, .int .i64 a0), (1, .int .i64 a1), (2, .int .i64 a2)] ⟨kr, kr, kr, trivial⟩ rfl ?_
  refine ls_rs tbOk ?_
  refine evs (ev_ac rfl nofun rfl (evn ?_))
  refine ls_keep [(0, .int .i64 a0), (1, .int .i64 a1), (2, .int .i64 a2)] ⟨kr, kr, kr, trivial⟩ rfl ?_
  refine ls_rs_k tbOk fun K1 hK1 => ?_
  have kimpl_within_J1 : ∀ (x2 : Bool), impl_within_J1 x2 = some r → ∀ σ' : PS, okK σ' [(6, .bool x2)] → K1 σ' := by
    intro x2 h σ' hk
    unfold impl_within_J1 at h
    refine hK1 _ (ls_keep [(6, .bool x2)] hk rfl ?_)
    refine ls_ret ?_
    have hr := Option.some.inj h
    rw [← hr]
    exact ⟨.inl rfl, rfl⟩
  refine evs (ev_mv (c := .int .i64 a0) rfl rfl rfl (evs (ev_mv (c := .int .i64 a1) rfl rfl rfl (evs (ev_bin (c1 := .int .i64 a0) (c2 := .int .i64 a1) rfl rfl rfl (evs (ev_mv (c := .bool (decide (a1 ≤ a0))) rfl rfl rfl (?_))))))))
  rcases cond_some h with ⟨g3, h⟩ | ⟨g3, h⟩
  · refine evs (ev_gr rfl (congrArg V.bool g3) (ev_mv (c := .int .i64 a0) rfl rfl rfl (evs (ev_gr rfl (congrArg V.bool g3) (ev_mv (c := .int .i64 a2) rfl rfl rfl (evs (ev_gr rfl (congrArg V.bool g3) (ev_bin (c1 := .int .i64 a0) (c2 := .int .i64 a2) rfl rfl rfl (evs (ev_pkT (c1 := .bool (decide (a0 ≤ a2))) rfl g3 rfl rfl (evs (ev_as (c := .bool (decide (a0 ≤ a2))) rfl rfl rfl (evn ?_)))))))))))))
    exact kimpl_within_J1 (decide (a0 ≤ a2)) h _ ⟨kr, trivial⟩
  · refine evs (ev_gs rfl rfl (isb_F g3) (evs (ev_gs rfl rfl (isb_F g3) (evs (ev_gs rfl rfl (isb_F g3) (evs (ev_pkF (c1 := .bool false) rfl g3 rfl rfl (evs (ev_as (c := .bool false) rfl rfl rfl (evn ?_))))))))))
    exact kimpl_within_J1 false h _ ⟨kr, trivial⟩
def impl_compareInts (a0 : Int) (a1 : Int) : Option (Int) := cond (decide (a0 < a1)) (some (-1)) (cond (decide (a1 < a0)) (some 1) (some 0))
theorem impl_compareInts_s {a0 : Int} {a1 : Int} {r : Int} (h : impl_compareInts a0 a1 = some r) : SoundAt Try.prog 262 [.int .i64 a0, .int .i64 a1] (.int .i64 r) := by
  unfold impl_compareInts at h
  refine sound_lit tbOk lit262 (Nat.le_of_ble_eq_true rfl) rfl ?_
  unfold c262
  refine ls_keep [(0, .int .i64 a0), (1, .int .i64 a1)] ⟨kr, kr, trivial⟩ rfl ?_
  refine ls_rs tbOk ?_
  refine evs (ev_ac rfl nofun rfl (evn ?_))
  refine ls_keep [(0, .int .i64 a0), (1, .int .i64 a1)] ⟨kr, kr, trivial⟩ rfl ?_
  refine ls_seq_k fun K1 hK1 => ?_
  refine ls_blk ?_
  refine ls_rs tbOk ?_
  refine evs (ev_mv (c := .int .i64 a0) rfl rfl rfl (evs (ev_mv (c := .int .i64 a1) rfl rfl rfl (evs (ev_bin (c1 := .int .i64 a0) (c2 := .int .i64 a1) rfl rfl rfl (evs (ev_as (c := .bool (decide (a0 < a1))) rfl rfl rfl (evn ?_))))))))
  refine ls_keep [(0, .int .i64 a0), (1, .int .i64 a1), (5, .bool (decide (a0 < a1)))] ⟨kr, kr, kr, trivial⟩ rfl ?_
  rcases cond_some h with ⟨g2, h⟩ | ⟨g2, h⟩
  · refine ls_cT rfl g2 ?_
    refine ls_rs tbOk ?_
    refine evs (ev_ac rfl nofun rfl (evn ?_))
    refine ls_keep [(4, .int .i64 (-1))] ⟨kr, trivial⟩ rfl ?_
    refine ls_ret ?_
    have hr := Option.some.inj h
    rw [← hr]
    exact ⟨.inl rfl, rfl⟩
  · refine ls_cF rfl g2 ?_
    refine ls_rs tbOk ?_
    refine evs (ev_mv (c := .int .i64 a0) rfl rfl rfl (evs (ev_mv (c := .int .i64 a1) rfl rfl rfl (evs (ev_bin (c1 := .int .i64 a0) (c2 := .int .i64 a1) rfl rfl rfl (evs (ev_as (c := .bool (decide (a1 < a0))) rfl rfl rfl (evn ?_))))))))
    refine ls_keep [(9, .bool (decide (a1 < a0)))] ⟨kr, trivial⟩ rfl ?_
    rcases cond_some h with ⟨g3, h⟩ | ⟨g3, h⟩
    · refine ls_cT rfl g3 ?_
      refine ls_rs tbOk ?_
      refine evs (ev_ac rfl nofun rfl (evn ?_))
      refine ls_keep [(4, .int .i64 1)] ⟨kr, trivial⟩ rfl ?_
      refine ls_ret ?_
      have hr := Option.some.inj h
      rw [← hr]
      exact ⟨.inl rfl, rfl⟩
    · refine ls_cF rfl g3 ?_
      refine ls_skip ?_
      refine hK1 _ (ls_keep [] trivial rfl ?_)
      refine ls_rs tbOk ?_
      refine evs (ev_ac rfl nofun rfl (evn ?_))
      refine ls_keep [(4, .int .i64 0)] ⟨kr, trivial⟩ rfl ?_
      refine ls_ret ?_
      have hr := Option.some.inj h
      rw [← hr]
      exact ⟨.inl rfl, rfl⟩
end Go.Proofs.Ytkcfahfladikkaa
