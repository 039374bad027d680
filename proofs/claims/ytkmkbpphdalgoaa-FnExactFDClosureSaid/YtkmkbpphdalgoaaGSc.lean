/-
  Functions of the program as typed functions, printed by gen.py, and that the program's functions do what they say. No conditions.
-/
import Derived.Test.YtkmkbpphdalgoaaUpc
import Derived.Test.YtkmkbpphdalgoaaLit2c
namespace Go.Proofs.Ytkmkbpphdalgoaa
open Go.RowKit
set_option linter.unusedVariables false
set_option maxRecDepth 100000
set_option maxHeartbeats 1000000
def laws_szIntS (a0 : List Int) (a1 : Int) : Option (Int) := cond (decide ((IntKind.i64.wrap (a1 - (List.length a0 : Int))) < 0)) (some (-1)) (some (IntKind.i64.wrap (a1 - (List.length a0 : Int))))
theorem laws_szIntS_s {a0 : List Int} {a1 : Int} {r : Int} (h : laws_szIntS a0 a1 = some r) : SoundAt Try.prog 87 [.dat a0.length (a0.flatMap ci64), .int .i64 a1] (.int .i64 r) := by
  unfold laws_szIntS at h
  refine sound_lit tbOk lit87 (Nat.le_of_ble_eq_true rfl) rfl ?_
  unfold c87
  refine ls_keep [(0, .dat a0.length (a0.flatMap ci64)), (1, .int .i64 a1)] ⟨kr, kr, trivial⟩ rfl ?_
  refine ls_rs tbOk ?_
  refine evs (ev_ac rfl nofun rfl (evn ?_))
  refine ls_keep [(0, .dat a0.length (a0.flatMap ci64)), (1, .int .i64 a1)] ⟨kr, kr, trivial⟩ rfl ?_
  refine ls_rs tbOk ?_
  refine evs (ev_mv (c := .int .i64 a1) rfl rfl rfl (evs (ev_mv (c := .dat a0.length (a0.flatMap ci64)) rfl rfl rfl (evs (ev_len (c1 := .dat a0.length (a0.flatMap ci64)) rfl rfl rfl (evs (ev_bin (c1 := .int .i64 a1) (c2 := .int .i64 (List.length a0 : Int)) rfl rfl rfl (evs (ev_as (c := .int .i64 (IntKind.i64.wrap (a1 - (List.length a0 : Int)))) rfl rfl rfl (evn ?_))))))))))
  refine ls_keep [(1, .int .i64 (IntKind.i64.wrap (a1 - (List.length a0 : Int))))] ⟨kr, trivial⟩ rfl ?_
  refine ls_seq_k fun K1 hK1 => ?_
  refine ls_rs tbOk ?_
  refine evs (ev_mv (c := .int .i64 (IntKind.i64.wrap (a1 - (List.length a0 : Int)))) rfl rfl rfl (evs (ev_bin (c1 := .int .i64 (IntKind.i64.wrap (a1 - (List.length a0 : Int)))) (c2 := .int .i64 0) rfl rfl rfl (evn ?_))))
  refine ls_keep [(1, .int .i64 (IntKind.i64.wrap (a1 - (List.length a0 : Int)))), (10, .bool (decide ((IntKind.i64.wrap (a1 - (List.length a0 : Int))) < 0)))] ⟨kr, kr, trivial⟩ rfl ?_
  rcases cond_some h with ⟨g2, h⟩ | ⟨g2, h⟩
  · refine ls_cT rfl g2 ?_
    refine ls_rs tbOk ?_
    refine evs (ev_ac rfl nofun rfl (evn ?_))
    refine ls_keep [(4, .int .i64 (-1))] ⟨kr, trivial⟩ rfl ?_
    refine ls_ret ?_
    have hr := Option.some.inj h
    rw [← hr]
    exact ⟨.inl rfl, rfl⟩
  · refine ls_cF rfl g2 ?_
    refine ls_skip ?_
    refine hK1 _ (ls_keep [(1, .int .i64 (IntKind.i64.wrap (a1 - (List.length a0 : Int))))] ⟨kr, trivial⟩ rfl ?_)
    refine ls_rs tbOk ?_
    refine evs (ev_mv (c := .int .i64 (IntKind.i64.wrap (a1 - (List.length a0 : Int)))) rfl rfl rfl (evs (ev_as (c := .int .i64 (IntKind.i64.wrap (a1 - (List.length a0 : Int)))) rfl rfl rfl (evn ?_))))
    refine ls_keep [(4, .int .i64 (IntKind.i64.wrap (a1 - (List.length a0 : Int))))] ⟨kr, trivial⟩ rfl ?_
    refine ls_ret ?_
    have hr := Option.some.inj h
    rw [← hr]
    exact ⟨.inl rfl, rfl⟩
def laws_szAtom (a0 : (List UInt8) × (List Int)) (a1 : Int) : Option (Int) := cond (decide ((IntKind.i64.wrap (a1 - (List.length a0.1 : Int))) < 0)) (some (-1)) (obind (laws_szIntS a0.2 (IntKind.i64.wrap (a1 - (List.length a0.1 : Int)))) fun v3 => cond (decide (v3 < 0)) (some (-1)) (some v3))
theorem laws_szAtom_s {a0 : (List UInt8) × (List Int)} {a1 : Int} {r : Int} (h : laws_szAtom a0 a1 = some r) : SoundAt Try.prog 150 [.agg [.str a0.1, .dat a0.2.length (a0.2.flatMap ci64)], .int .i64 a1] (.int .i64 r) := by
  unfold laws_szAtom at h
  refine sound_lit tbOk lit150 (Nat.le_of_ble_eq_true rfl) rfl ?_
  unfold c150
  refine ls_keep [(0, .agg [.str a0.1, .dat a0.2.length (a0.2.flatMap ci64)]), (1, .int .i64 a1)] ⟨kr, kr, trivial⟩ rfl ?_
  refine ls_rs tbOk ?_
  refine evs (ev_bx (c1 := .agg [.str a0.1, .dat a0.2.length (a0.2.flatMap ci64)]) rfl rfl rfl (evs (ev_ac rfl nofun rfl (evn ?_))))
  refine ls_keep [(1, .int .i64 a1), (2, .box [.str a0.1, .dat a0.2.length (a0.2.flatMap ci64)])] ⟨kr, kr, trivial⟩ rfl ?_
  refine ls_rs tbOk ?_
  refine evs (ev_mv (c := .int .i64 a1) rfl rfl rfl (evs (ev_fa (c1 := .cref 2 0) (v := .cref 2 0) rfl rfl rfl ⟨_, rfl⟩ rfl (evs (ev_ldB (off := 0) (v := .str a0.1) rfl rfl rfl rfl (Nat.le_of_ble_eq_true rfl) rfl (evs (ev_lens (z := []) rfl rfl (evs (ev_bin (c1 := .int .i64 a1) (c2 := .int .i64 (List.length a0.1 : Int)) rfl rfl rfl (evs (ev_as (c := .int .i64 (IntKind.i64.wrap (a1 - (List.length a0.1 : Int)))) rfl rfl rfl (evn ?_))))))))))))
  refine ls_keep [(1, .int .i64 (IntKind.i64.wrap (a1 - (List.length a0.1 : Int)))), (2, .box [.str a0.1, .dat a0.2.length (a0.2.flatMap ci64)])] ⟨kr, kr, trivial⟩ rfl ?_
  refine ls_seq_k fun K1 hK1 => ?_
  refine ls_rs tbOk ?_
  refine evs (ev_mv (c := .int .i64 (IntKind.i64.wrap (a1 - (List.length a0.1 : Int)))) rfl rfl rfl (evs (ev_bin (c1 := .int .i64 (IntKind.i64.wrap (a1 - (List.length a0.1 : Int)))) (c2 := .int .i64 0) rfl rfl rfl (evn ?_))))
  refine ls_keep [(1, .int .i64 (IntKind.i64.wrap (a1 - (List.length a0.1 : Int)))), (2, .box [.str a0.1, .dat a0.2.length (a0.2.flatMap ci64)]), (11, .bool (decide ((IntKind.i64.wrap (a1 - (List.length a0.1 : Int))) < 0)))] ⟨kr, kr, kr, trivial⟩ rfl ?_
  rcases cond_some h with ⟨g2, h⟩ | ⟨g2, h⟩
  · refine ls_cT rfl g2 ?_
    refine ls_rs tbOk ?_
    refine evs (ev_ac rfl nofun rfl (evn ?_))
    refine ls_keep [(4, .int .i64 (-1))] ⟨kr, trivial⟩ rfl ?_
    refine ls_ret ?_
    have hr := Option.some.inj h
    rw [← hr]
    exact ⟨.inl rfl, rfl⟩
  · refine ls_cF rfl g2 ?_
    refine ls_skip ?_
    refine hK1 _ (ls_keep [(1, .int .i64 (IntKind.i64.wrap (a1 - (List.length a0.1 : Int)))), (2, .box [.str a0.1, .dat a0.2.length (a0.2.flatMap ci64)])] ⟨kr, kr, trivial⟩ rfl ?_)
    refine ls_rs tbOk ?_
    refine evs (ev_fa (c1 := .cref 2 0) (v := .cref 2 1) rfl rfl rfl ⟨_, rfl⟩ rfl (evs (ev_ldB (off := 1) (v := .dat a0.2.length (a0.2.flatMap ci64)) rfl rfl rfl rfl (Nat.le_of_ble_eq_true rfl) rfl (evs (ev_mv (c := .int .i64 (IntKind.i64.wrap (a1 - (List.length a0.1 : Int)))) rfl rfl rfl (?_))))))
    obtain ⟨v3, g4, h⟩ := ob_some h
    refine evs (ev_call (era rfl (erD eci64 _) (era rfl rfl eran)) (laws_szIntS_s g4) (evs (ev_as (c := .int .i64 v3) rfl rfl rfl (evn ?_))))
    refine ls_keep [(1, .int .i64 v3)] ⟨kr, trivial⟩ rfl ?_
    refine ls_seq_k fun K5 hK5 => ?_
    refine ls_rs tbOk ?_
    refine evs (ev_mv (c := .int .i64 v3) rfl rfl rfl (evs (ev_bin (c1 := .int .i64 v3) (c2 := .int .i64 0) rfl rfl rfl (evn ?_))))
    refine ls_keep [(1, .int .i64 v3), (17, .bool (decide (v3 < 0)))] ⟨kr, kr, trivial⟩ rfl ?_
    rcases cond_some h with ⟨g6, h⟩ | ⟨g6, h⟩
    · refine ls_cT rfl g6 ?_
      refine ls_rs tbOk ?_
      refine evs (ev_ac rfl nofun rfl (evn ?_))
      refine ls_keep [(4, .int .i64 (-1))] ⟨kr, trivial⟩ rfl ?_
      refine ls_ret ?_
      have hr := Option.some.inj h
      rw [← hr]
      exact ⟨.inl rfl, rfl⟩
    · refine ls_cF rfl g6 ?_
      refine ls_skip ?_
      refine hK5 _ (ls_keep [(1, .int .i64 v3)] ⟨kr, trivial⟩ rfl ?_)
      refine ls_rs tbOk ?_
      refine evs (ev_mv (c := .int .i64 v3) rfl rfl rfl (evs (ev_as (c := .int .i64 v3) rfl rfl rfl (evn ?_))))
      refine ls_keep [(4, .int .i64 v3)] ⟨kr, trivial⟩ rfl ?_
      refine ls_ret ?_
      have hr := Option.some.inj h
      rw [← hr]
      exact ⟨.inl rfl, rfl⟩
def laws_szAtomS_B1 (a0 : List ((List UInt8) × (List Int))) (rec : (Int × Int) → Option (Sum (Int) (Int))) (s : Int × Int) : Option (Sum (Int) (Int)) := match s with
  | (y1, y2) => cond (decide (y2 < (List.length a0 : Int))) (obind (geti a0 y2) fun e8 => obind (laws_szAtom e8 y1) fun v10 => cond (decide (v10 < 0)) (some (.inr (-1))) (rec (v10, (IntKind.i64.wrap (y2 + 1))))) (some (.inl y1))
def laws_szAtomS (a0 : List ((List UInt8) × (List Int))) (a1 : Int) : Option (Int) := cond (decide ((IntKind.i64.wrap (a1 - (List.length a0 : Int))) < 0)) (some (-1)) (obind (loopF (laws_szAtomS_B1 a0) fz ((IntKind.i64.wrap (a1 - (List.length a0 : Int))), 0)) fun o1 => (match o1 with
  | .inl z4 => (some z4)
  | .inr r => some r))
theorem laws_szAtomS_s {a0 : List ((List UInt8) × (List Int))} {a1 : Int} {r : Int} (h : laws_szAtomS a0 a1 = some r) : SoundAt Try.prog 106 [.dat a0.length (a0.flatMap c171_d), .int .i64 a1] (.int .i64 r) := by
  unfold laws_szAtomS at h
  refine sound_lit tbOk lit106 (Nat.le_of_ble_eq_true rfl) rfl ?_
  unfold c106
  refine ls_keep [(0, .dat a0.length (a0.flatMap c171_d)), (1, .int .i64 a1)] ⟨kr, kr, trivial⟩ rfl ?_
  refine ls_rs tbOk ?_
  refine evs (ev_ac rfl nofun rfl (evn ?_))
  refine ls_keep [(0, .dat a0.length (a0.flatMap c171_d)), (1, .int .i64 a1)] ⟨kr, kr, trivial⟩ rfl ?_
  refine ls_rs tbOk ?_
  refine evs (ev_mv (c := .int .i64 a1) rfl rfl rfl (evs (ev_mv (c := .dat a0.length (a0.flatMap c171_d)) rfl rfl rfl (evs (ev_len (c1 := .dat a0.length (a0.flatMap c171_d)) rfl rfl rfl (evs (ev_bin (c1 := .int .i64 a1) (c2 := .int .i64 (List.length a0 : Int)) rfl rfl rfl (evs (ev_as (c := .int .i64 (IntKind.i64.wrap (a1 - (List.length a0 : Int)))) rfl rfl rfl (evn ?_))))))))))
  refine ls_keep [(0, .dat a0.length (a0.flatMap c171_d)), (1, .int .i64 (IntKind.i64.wrap (a1 - (List.length a0 : Int))))] ⟨kr, kr, trivial⟩ rfl ?_
  refine ls_seq_k fun K1 hK1 => ?_
  refine ls_rs tbOk ?_
  refine evs (ev_mv (c := .int .i64 (IntKind.i64.wrap (a1 - (List.length a0 : Int)))) rfl rfl rfl (evs (ev_bin (c1 := .int .i64 (IntKind.i64.wrap (a1 - (List.length a0 : Int)))) (c2 := .int .i64 0) rfl rfl rfl (evn ?_))))
  refine ls_keep [(0, .dat a0.length (a0.flatMap c171_d)), (1, .int .i64 (IntKind.i64.wrap (a1 - (List.length a0 : Int)))), (11, .bool (decide ((IntKind.i64.wrap (a1 - (List.length a0 : Int))) < 0)))] ⟨kr, kr, kr, trivial⟩ rfl ?_
  rcases cond_some h with ⟨g2, h⟩ | ⟨g2, h⟩
  · refine ls_cT rfl g2 ?_
    refine ls_rs tbOk ?_
    refine evs (ev_ac rfl nofun rfl (evn ?_))
    refine ls_keep [(4, .int .i64 (-1))] ⟨kr, trivial⟩ rfl ?_
    refine ls_ret ?_
    have hr := Option.some.inj h
    rw [← hr]
    exact ⟨.inl rfl, rfl⟩
  · refine ls_cF rfl g2 ?_
    refine ls_skip ?_
    refine hK1 _ (ls_keep [(0, .dat a0.length (a0.flatMap c171_d)), (1, .int .i64 (IntKind.i64.wrap (a1 - (List.length a0 : Int))))] ⟨kr, kr, trivial⟩ rfl ?_)
    refine ls_seq_k fun K3 hK3 => ?_
    refine ls_rs tbOk ?_
    refine evs (ev_ac rfl nofun rfl (evn ?_))
    refine ls_keep [(0, .dat a0.length (a0.flatMap c171_d)), (1, .int .i64 (IntKind.i64.wrap (a1 - (List.length a0 : Int)))), (5, .int .i64 0)] ⟨kr, kr, kr, trivial⟩ rfl ?_
    obtain ⟨o1, hl, hr1⟩ := ob_some h
    clear h
    have kXlaws_szAtomS_B1 : ∀ (z4 : Int), (some z4) = some r → ∀ σ' : PS, okK σ' [(1, .int .i64 z4)] → K3 σ' := by
      intro z4 h σ' hk
      refine hK3 _ (ls_keep [(1, .int .i64 z4)] hk rfl ?_)
      refine ls_rs tbOk ?_
      refine evs (ev_mv (c := .int .i64 z4) rfl rfl rfl (evs (ev_as (c := .int .i64 z4) rfl rfl rfl (evn ?_))))
      refine ls_keep [(4, .int .i64 z4)] ⟨kr, trivial⟩ rfl ?_
      refine ls_ret ?_
      have hr := Option.some.inj h
      rw [← hr]
      exact ⟨.inl rfl, rfl⟩
    refine ls_rec (fun (s : Int × Int) => match s with | (y1, y2) => [(0, .dat a0.length (a0.flatMap c171_d)), (1, .int .i64 y1), (5, .int .i64 y2)]) (laws_szAtomS_B1 a0) fz ((IntKind.i64.wrap (a1 - (List.length a0 : Int))), 0) o1 hl ⟨kr, kr, kr, trivial⟩ (fun _ => rfl) ?_
    rintro m ⟨y1, y2⟩ N h hN
    unfold laws_szAtomS_B1 at h
    dsimp only at h
    refine ls_seq_k fun K5 hK5 => ?_
    refine ls_rs tbOk ?_
    refine evs (ev_mv (c := .int .i64 y2) rfl rfl rfl (evs (ev_mv (c := .dat a0.length (a0.flatMap c171_d)) rfl rfl rfl (evs (ev_len (c1 := .dat a0.length (a0.flatMap c171_d)) rfl rfl rfl (evs (ev_bin (c1 := .int .i64 y2) (c2 := .int .i64 (List.length a0 : Int)) rfl rfl rfl (evn ?_))))))))
    refine ls_keep [(0, .dat a0.length (a0.flatMap c171_d)), (1, .int .i64 y1), (5, .int .i64 y2), (15, .bool (decide (y2 < (List.length a0 : Int))))] ⟨kr, kr, kr, kr, trivial⟩ rfl ?_
    rcases cond_some h with ⟨g6, h⟩ | ⟨g6, h⟩
    · refine ls_cT rfl g6 ?_
      refine ls_skip ?_
      refine hK5 _ (ls_keep [(0, .dat a0.length (a0.flatMap c171_d)), (1, .int .i64 y1), (5, .int .i64 y2)] ⟨kr, kr, kr, trivial⟩ rfl ?_)
      refine ls_seq_k fun K7 hK7 => ?_
      refine ls_blk ?_
      refine ls_rs tbOk ?_
      refine evs (ev_mv (c := .dat a0.length (a0.flatMap c171_d)) rfl rfl rfl (evs (ev_mv (c := .int .i64 y2) rfl rfl rfl (?_))))
      obtain ⟨e8, g9, h⟩ := ob_some h
      refine evs (ev_ia rfl rfl rfl ⟨(geti_some g9).1, (geti_some g9).2.1⟩ (evs (ev_ldE (off := 0) (v := .agg [.str e8.1, .dat e8.2.length (e8.2.flatMap ci64)]) rfl rfl zc171_d g9 rfl (Nat.le_of_ble_eq_true rfl) rfl (evs (ev_mv (c := .int .i64 y1) rfl rfl rfl (?_))))))
      obtain ⟨v10, g11, h⟩ := ob_some h
      refine evs (ev_call (era rfl (erg (erc rfl (erc (erD eci64 _) rfl))) (era rfl rfl eran)) (laws_szAtom_s g11) (evs (ev_as (c := .int .i64 v10) rfl rfl rfl (evn ?_))))
      refine ls_keep [(0, .dat a0.length (a0.flatMap c171_d)), (1, .int .i64 v10), (5, .int .i64 y2)] ⟨kr, kr, kr, trivial⟩ rfl ?_
      refine ls_rs tbOk ?_
      refine evs (ev_mv (c := .int .i64 v10) rfl rfl rfl (evs (ev_bin (c1 := .int .i64 v10) (c2 := .int .i64 0) rfl rfl rfl (evn ?_))))
      refine ls_keep [(0, .dat a0.length (a0.flatMap c171_d)), (1, .int .i64 v10), (5, .int .i64 y2), (25, .bool (decide (v10 < 0)))] ⟨kr, kr, kr, kr, trivial⟩ rfl ?_
      rcases cond_some h with ⟨g12, h⟩ | ⟨g12, h⟩
      · refine ls_cT rfl g12 ?_
        refine ls_rs tbOk ?_
        refine evs (ev_ac rfl nofun rfl (evn ?_))
        refine ls_keep [(4, .int .i64 (-1))] ⟨kr, trivial⟩ rfl ?_
        refine ls_ret ?_
        have q0 := (Option.some.inj h).symm
        have r0 := hr1
        rw [q0] at r0
        have hr := Option.some.inj r0
        rw [← hr]
        exact ⟨.inl rfl, rfl⟩
      · refine ls_cF rfl g12 ?_
        refine ls_skip ?_
        refine hK7 _ (ls_keep [(0, .dat a0.length (a0.flatMap c171_d)), (1, .int .i64 v10), (5, .int .i64 y2)] ⟨kr, kr, kr, trivial⟩ rfl ?_)
        refine ls_rgn tbOk ?_
        refine evs (ev_mv (c := .int .i64 y2) rfl rfl rfl (evs (ev_bin (c1 := .int .i64 y2) (c2 := .int .i64 1) rfl rfl rfl (evs (ev_as (c := .int .i64 (IntKind.i64.wrap (y2 + 1))) rfl rfl rfl (evn ?_))))))
        exact hN _ (v10, (IntKind.i64.wrap (y2 + 1))) h ⟨kr, kr, kr, trivial⟩
    · refine ls_cF rfl g6 ?_
      refine ls_exit ?_
      have q0 := (Option.some.inj h).symm
      have r0 := hr1
      rw [q0] at r0
      exact kXlaws_szAtomS_B1 y1 r0 _ ⟨kr, trivial⟩
def laws_szQuery (a0 : Int × (List ((List UInt8) × (List Int))) × (List Int)) (a1 : Int) : Option (Int) := obind (laws_szAtomS a0.2.1 a1) fun v1 => cond (decide (v1 < 0)) (some (-1)) (obind (laws_szIntS a0.2.2 v1) fun v5 => cond (decide (v5 < 0)) (some (-1)) (some v5))
theorem laws_szQuery_s {a0 : Int × (List ((List UInt8) × (List Int))) × (List Int)} {a1 : Int} {r : Int} (h : laws_szQuery a0 a1 = some r) : SoundAt Try.prog 29 [.agg [.int .i64 a0.1, .dat a0.2.1.length (a0.2.1.flatMap c171_d), .dat a0.2.2.length (a0.2.2.flatMap ci64)], .int .i64 a1] (.int .i64 r) := by
  unfold laws_szQuery at h
  refine sound_lit tbOk lit29 (Nat.le_of_ble_eq_true rfl) rfl ?_
  unfold c29
  refine ls_keep [(0, .agg [.int .i64 a0.1, .dat a0.2.1.length (a0.2.1.flatMap c171_d), .dat a0.2.2.length (a0.2.2.flatMap ci64)]), (1, .int .i64 a1)] ⟨kr, kr, trivial⟩ rfl ?_
  refine ls_rs tbOk ?_
  refine evs (ev_bx (c1 := .agg [.int .i64 a0.1, .dat a0.2.1.length (a0.2.1.flatMap c171_d), .dat a0.2.2.length (a0.2.2.flatMap ci64)]) rfl rfl rfl (evs (ev_ac rfl nofun rfl (evn ?_))))
  refine ls_keep [(1, .int .i64 a1), (2, .box [.int .i64 a0.1, .dat a0.2.1.length (a0.2.1.flatMap c171_d), .dat a0.2.2.length (a0.2.2.flatMap ci64)])] ⟨kr, kr, trivial⟩ rfl ?_
  refine ls_rs tbOk ?_
  refine evs (ev_fa (c1 := .cref 2 0) (v := .cref 2 1) rfl rfl rfl ⟨_, rfl⟩ rfl (evs (ev_ldB (off := 1) (v := .dat a0.2.1.length (a0.2.1.flatMap c171_d)) rfl rfl rfl rfl (Nat.le_of_ble_eq_true rfl) rfl (evs (ev_mv (c := .int .i64 a1) rfl rfl rfl (?_))))))
  obtain ⟨v1, g2, h⟩ := ob_some h
  refine evs (ev_call (era rfl (erD ec171_d _) (era rfl rfl eran)) (laws_szAtomS_s g2) (evs (ev_as (c := .int .i64 v1) rfl rfl rfl (evn ?_))))
  refine ls_keep [(1, .int .i64 v1), (2, .box [.int .i64 a0.1, .dat a0.2.1.length (a0.2.1.flatMap c171_d), .dat a0.2.2.length (a0.2.2.flatMap ci64)])] ⟨kr, kr, trivial⟩ rfl ?_
  refine ls_seq_k fun K3 hK3 => ?_
  refine ls_rs tbOk ?_
  refine evs (ev_mv (c := .int .i64 v1) rfl rfl rfl (evs (ev_bin (c1 := .int .i64 v1) (c2 := .int .i64 0) rfl rfl rfl (evn ?_))))
  refine ls_keep [(1, .int .i64 v1), (2, .box [.int .i64 a0.1, .dat a0.2.1.length (a0.2.1.flatMap c171_d), .dat a0.2.2.length (a0.2.2.flatMap ci64)]), (10, .bool (decide (v1 < 0)))] ⟨kr, kr, kr, trivial⟩ rfl ?_
  rcases cond_some h with ⟨g4, h⟩ | ⟨g4, h⟩
  · refine ls_cT rfl g4 ?_
    refine ls_rs tbOk ?_
    refine evs (ev_ac rfl nofun rfl (evn ?_))
    refine ls_keep [(4, .int .i64 (-1))] ⟨kr, trivial⟩ rfl ?_
    refine ls_ret ?_
    have hr := Option.some.inj h
    rw [← hr]
    exact ⟨.inl rfl, rfl⟩
  · refine ls_cF rfl g4 ?_
    refine ls_skip ?_
    refine hK3 _ (ls_keep [(1, .int .i64 v1), (2, .box [.int .i64 a0.1, .dat a0.2.1.length (a0.2.1.flatMap c171_d), .dat a0.2.2.length (a0.2.2.flatMap ci64)])] ⟨kr, kr, trivial⟩ rfl ?_)
    refine ls_rs tbOk ?_
    refine evs (ev_fa (c1 := .cref 2 0) (v := .cref 2 2) rfl rfl rfl ⟨_, rfl⟩ rfl (evs (ev_ldB (off := 2) (v := .dat a0.2.2.length (a0.2.2.flatMap ci64)) rfl rfl rfl rfl (Nat.le_of_ble_eq_true rfl) rfl (evs (ev_mv (c := .int .i64 v1) rfl rfl rfl (?_))))))
    obtain ⟨v5, g6, h⟩ := ob_some h
    refine evs (ev_call (era rfl (erD eci64 _) (era rfl rfl eran)) (laws_szIntS_s g6) (evs (ev_as (c := .int .i64 v5) rfl rfl rfl (evn ?_))))
    refine ls_keep [(1, .int .i64 v5)] ⟨kr, trivial⟩ rfl ?_
    refine ls_seq_k fun K7 hK7 => ?_
    refine ls_rs tbOk ?_
    refine evs (ev_mv (c := .int .i64 v5) rfl rfl rfl (evs (ev_bin (c1 := .int .i64 v5) (c2 := .int .i64 0) rfl rfl rfl (evn ?_))))
    refine ls_keep [(1, .int .i64 v5), (16, .bool (decide (v5 < 0)))] ⟨kr, kr, trivial⟩ rfl ?_
    rcases cond_some h with ⟨g8, h⟩ | ⟨g8, h⟩
    · refine ls_cT rfl g8 ?_
      refine ls_rs tbOk ?_
      refine evs (ev_ac rfl nofun rfl (evn ?_))
      refine ls_keep [(4, .int .i64 (-1))] ⟨kr, trivial⟩ rfl ?_
      refine ls_ret ?_
      have hr := Option.some.inj h
      rw [← hr]
      exact ⟨.inl rfl, rfl⟩
    · refine ls_cF rfl g8 ?_
      refine ls_skip ?_
      refine hK7 _ (ls_keep [(1, .int .i64 v5)] ⟨kr, trivial⟩ rfl ?_)
      refine ls_rs tbOk ?_
      refine evs (ev_mv (c := .int .i64 v5) rfl rfl rfl (evs (ev_as (c := .int .i64 v5) rfl rfl rfl (evn ?_))))
      refine ls_keep [(4, .int .i64 v5)] ⟨kr, trivial⟩ rfl ?_
      refine ls_ret ?_
      have hr := Option.some.inj h
      rw [← hr]
      exact ⟨.inl rfl, rfl⟩
def laws_toIntS_B1 (a0 : List Int) (rec : ((List Int) × Int) → Option ((List Int))) (s : (List Int) × Int) : Option ((List Int)) := match s with
  | (y1, y2) => cond (decide (y2 < (List.length a0 : Int))) (obind (geti a0 y2) fun e7 => obind (geti y1 y2) fun e9 => rec ((seti y1 y2 e7), (IntKind.i64.wrap (y2 + 1)))) (some y1)
def laws_toIntS (a0 : List Int) : Option ((List Int)) := chk ((0 : Int) ≤ (List.length a0 : Int) ∧ Int.toNat (List.length a0 : Int) ≤ lim) (obind (loopF (laws_toIntS_B1 a0) fz ((List.replicate (Int.toNat (List.length a0 : Int)) (0 : Int)), 0)) fun z3 => some z3)
theorem laws_toIntS_s {a0 : List Int} {r : (List Int)} (h : laws_toIntS a0 = some r) : SoundAt Try.prog 32 [.dat a0.length (a0.flatMap ci64)] (.own 3 r.length (r.flatMap ci64)) := by
  unfold laws_toIntS at h
  refine sound_lit tbOk lit32 (Nat.le_of_ble_eq_true rfl) rfl ?_
  unfold c32
  refine ls_keep [(0, .dat a0.length (a0.flatMap ci64))] ⟨kr, trivial⟩ rfl ?_
  refine ls_rs tbOk ?_
  refine evs (ev_an rfl rfl (evn ?_))
  refine ls_keep [(0, .dat a0.length (a0.flatMap ci64))] ⟨kr, trivial⟩ rfl ?_
  refine ls_rs tbOk ?_
  refine evs (ev_mv (c := .dat a0.length (a0.flatMap ci64)) rfl rfl rfl (evs (ev_len (c1 := .dat a0.length (a0.flatMap ci64)) rfl rfl rfl (?_))))
  obtain ⟨g1, h⟩ := chk_some h
  refine evs (ev_mku (f := ci64) (z := (0 : Int)) rfl rfl rfl rfl rfl rfl g1 rfl (evs (ev_asu rfl rfl rfl (evn ?_))))
  refine ls_keep [(0, .dat a0.length (a0.flatMap ci64)), (3, .uni 3 (List.replicate (Int.toNat (List.length a0 : Int)) (0 : Int)).length ((List.replicate (Int.toNat (List.length a0 : Int)) (0 : Int)).flatMap ci64))] ⟨kr, kr, trivial⟩ rfl ?_
  refine ls_seq_k fun K2 hK2 => ?_
  refine ls_rs tbOk ?_
  refine evs (ev_ac rfl nofun rfl (evn ?_))
  refine ls_keep [(0, .dat a0.length (a0.flatMap ci64)), (3, .uni 3 (List.replicate (Int.toNat (List.length a0 : Int)) (0 : Int)).length ((List.replicate (Int.toNat (List.length a0 : Int)) (0 : Int)).flatMap ci64)), (4, .int .i64 0)] ⟨kr, kr, kr, trivial⟩ rfl ?_
  obtain ⟨o1, hl, hr1⟩ := ob_some h
  clear h
  have kXlaws_toIntS_B1 : ∀ (z3 : List Int), (some z3) = some r → ∀ σ' : PS, okK σ' [(3, .uni 3 z3.length (z3.flatMap ci64))] → K2 σ' := by
    intro z3 h σ' hk
    refine hK2 _ (ls_keep [(3, .uni 3 z3.length (z3.flatMap ci64))] hk rfl ?_)
    refine ls_rs tbOk ?_
    refine evs (ev_mvtu rfl rfl (evs (ev_as (c := .own 3 z3.length (z3.flatMap ci64)) rfl rfl rfl (evn ?_))))
    refine ls_keep [(2, .own 3 z3.length (z3.flatMap ci64))] ⟨kr, trivial⟩ rfl ?_
    refine ls_ret ?_
    have hr := Option.some.inj h
    rw [← hr]
    exact ⟨.inl rfl, rfl⟩
  refine ls_rec (fun (s : (List Int) × Int) => match s with | (y1, y2) => [(0, .dat a0.length (a0.flatMap ci64)), (3, .uni 3 y1.length (y1.flatMap ci64)), (4, .int .i64 y2)]) (laws_toIntS_B1 a0) fz ((List.replicate (Int.toNat (List.length a0 : Int)) (0 : Int)), 0) o1 hl ⟨kr, kr, kr, trivial⟩ (fun _ => rfl) ?_
  rintro m ⟨y1, y2⟩ N h hN
  unfold laws_toIntS_B1 at h
  dsimp only at h
  refine ls_seq_k fun K4 hK4 => ?_
  refine ls_rs tbOk ?_
  refine evs (ev_mv (c := .int .i64 y2) rfl rfl rfl (evs (ev_mv (c := .dat a0.length (a0.flatMap ci64)) rfl rfl rfl (evs (ev_len (c1 := .dat a0.length (a0.flatMap ci64)) rfl rfl rfl (evs (ev_bin (c1 := .int .i64 y2) (c2 := .int .i64 (List.length a0 : Int)) rfl rfl rfl (evn ?_))))))))
  refine ls_keep [(0, .dat a0.length (a0.flatMap ci64)), (3, .uni 3 y1.length (y1.flatMap ci64)), (4, .int .i64 y2), (11, .bool (decide (y2 < (List.length a0 : Int))))] ⟨kr, kr, kr, kr, trivial⟩ rfl ?_
  rcases cond_some h with ⟨g5, h⟩ | ⟨g5, h⟩
  · refine ls_cT rfl g5 ?_
    refine ls_skip ?_
    refine hK4 _ (ls_keep [(0, .dat a0.length (a0.flatMap ci64)), (3, .uni 3 y1.length (y1.flatMap ci64)), (4, .int .i64 y2)] ⟨kr, kr, kr, trivial⟩ rfl ?_)
    refine ls_seq_k fun K6 hK6 => ?_
    refine ls_blk ?_
    refine ls_rgn tbOk ?_
    refine evs (ev_mvu rfl rfl (evs (ev_mv (c := .int .i64 y2) rfl rfl rfl (evs (ev_mv (c := .dat a0.length (a0.flatMap ci64)) rfl rfl rfl (evs (ev_mv (c := .int .i64 y2) rfl rfl rfl (?_))))))))
    obtain ⟨e7, g8, h⟩ := ob_some h
    refine evs (ev_ia rfl rfl rfl ⟨(geti_some g8).1, (geti_some g8).2.1⟩ (evs (ev_ldE (off := 0) (v := .int .i64 e7) rfl rfl zci64 g8 rfl (Nat.le_of_ble_eq_true rfl) rfl (?_))))
    obtain ⟨e9, g10, h⟩ := ob_some h
    refine evs (ev_iau rfl rfl rfl rfl ⟨(geti_some g10).1, (geti_some g10).2.1⟩ (evs (ev_stu (e := e7) (c1 := .int .i64 e7) rfl rfl zci64 ⟨(geti_some g10).1, (geti_some g10).2.1⟩ rfl rfl rfl rfl rfl (evn ?_))))
    refine hK6 _ (ls_keep [(0, .dat a0.length (a0.flatMap ci64)), (3, .uni 3 (seti y1 y2 e7).length ((seti y1 y2 e7).flatMap ci64)), (4, .int .i64 y2)] ⟨kr, kr, kr, trivial⟩ rfl ?_)
    refine ls_rgn tbOk ?_
    refine evs (ev_mv (c := .int .i64 y2) rfl rfl rfl (evs (ev_bin (c1 := .int .i64 y2) (c2 := .int .i64 1) rfl rfl rfl (evs (ev_as (c := .int .i64 (IntKind.i64.wrap (y2 + 1))) rfl rfl rfl (evn ?_))))))
    exact hN _ ((seti y1 y2 e7), (IntKind.i64.wrap (y2 + 1))) h ⟨kr, kr, kr, trivial⟩
  · refine ls_cF rfl g5 ?_
    refine ls_exit ?_
    have q0 := (Option.some.inj h).symm
    have r0 := hr1
    rw [q0] at r0
    exact kXlaws_toIntS_B1 y1 r0 _ ⟨kr, trivial⟩
def laws_toAtom (a0 : (List UInt8) × (List Int)) : Option (((List UInt8) × (List Int))) := obind (laws_toIntS a0.2) fun v1 => some (a0.1, v1)
theorem laws_toAtom_s {a0 : (List UInt8) × (List Int)} {r : ((List UInt8) × (List Int))} (h : laws_toAtom a0 = some r) : SoundAt Try.prog 151 [.agg [.str a0.1, .dat a0.2.length (a0.2.flatMap ci64)]] (.agg [.str r.1, .own 3 r.2.length (r.2.flatMap ci64)]) := by
  unfold laws_toAtom at h
  refine sound_lit tbOk lit151 (Nat.le_of_ble_eq_true rfl) rfl ?_
  unfold c151
  refine ls_keep [(0, .agg [.str a0.1, .dat a0.2.length (a0.2.flatMap ci64)])] ⟨kr, trivial⟩ rfl ?_
  refine ls_rs tbOk ?_
  refine evs (ev_bx (c1 := .agg [.str a0.1, .dat a0.2.length (a0.2.flatMap ci64)]) rfl rfl rfl (evs (ev_al rfl rfl (evn ?_))))
  refine ls_keep [(1, .box [.str a0.1, .dat a0.2.length (a0.2.flatMap ci64)]), (2, .box [.str [], .own 3 ([] : List Int).length (([] : List Int).flatMap ci64)])] ⟨kr, kr, trivial⟩ rfl ?_
  refine ls_rs tbOk ?_
  refine evs (ev_al rfl rfl (evn ?_))
  refine ls_keep [(1, .box [.str a0.1, .dat a0.2.length (a0.2.flatMap ci64)]), (2, .box [.str [], .own 3 ([] : List Int).length (([] : List Int).flatMap ci64)]), (3, .box [.str [], .own 3 ([] : List Int).length (([] : List Int).flatMap ci64)])] ⟨kr, kr, kr, trivial⟩ rfl ?_
  refine ls_rs tbOk ?_
  refine evs (ev_fa (c1 := .cref 1 0) (v := .cref 1 0) rfl rfl rfl ⟨_, rfl⟩ rfl (evs (ev_ldB (off := 0) (v := .str a0.1) rfl rfl rfl rfl (Nat.le_of_ble_eq_true rfl) rfl (evs (ev_fa (c1 := .cref 3 0) (v := .cref 3 0) rfl rfl rfl ⟨_, rfl⟩ rfl (evs (ev_st (off := 0) (c1 := .str a0.1) (cs' := [.str a0.1, .own 3 ([] : List Int).length (([] : List Int).flatMap ci64)]) rfl rfl rfl rfl rfl rfl (Nat.le_of_ble_eq_true rfl) rfl (evn ?_))))))))
  refine ls_keep [(1, .box [.str a0.1, .dat a0.2.length (a0.2.flatMap ci64)]), (2, .box [.str [], .own 3 ([] : List Int).length (([] : List Int).flatMap ci64)]), (3, .box [.str a0.1, .own 3 ([] : List Int).length (([] : List Int).flatMap ci64)])] ⟨kr, kr, kr, trivial⟩ rfl ?_
  refine ls_rs tbOk ?_
  refine evs (ev_fa (c1 := .cref 1 0) (v := .cref 1 1) rfl rfl rfl ⟨_, rfl⟩ rfl (evs (ev_ldB (off := 1) (v := .dat a0.2.length (a0.2.flatMap ci64)) rfl rfl rfl rfl (Nat.le_of_ble_eq_true rfl) rfl (?_))))
  obtain ⟨v1, g2, h⟩ := ob_some h
  refine evs (ev_call (era rfl (erD eci64 _) eran) (laws_toIntS_s g2) (evs (ev_fa (c1 := .cref 3 0) (v := .cref 3 1) rfl rfl rfl ⟨_, rfl⟩ rfl (evs (ev_st (off := 1) (c1 := .own 3 v1.length (v1.flatMap ci64)) (cs' := [.str a0.1, .own 3 v1.length (v1.flatMap ci64)]) rfl rfl rfl rfl rfl rfl (Nat.le_of_ble_eq_true rfl) rfl (evn ?_))))))
  refine ls_keep [(2, .box [.str [], .own 3 ([] : List Int).length (([] : List Int).flatMap ci64)]), (3, .box [.str a0.1, .own 3 v1.length (v1.flatMap ci64)])] ⟨kr, kr, trivial⟩ rfl ?_
  refine ls_rs tbOk ?_
  refine evs (ev_ldBt (off := 0) (v := .agg [.str a0.1, .own 3 v1.length (v1.flatMap ci64)]) (c' := .box [.str a0.1, .dat v1.length (v1.flatMap ci64)]) rfl rfl rfl rfl (Nat.le_of_ble_eq_true rfl) rfl rfl (evs (ev_st (off := 0) (c1 := .agg [.str a0.1, .own 3 v1.length (v1.flatMap ci64)]) (cs' := [.str a0.1, .own 3 v1.length (v1.flatMap ci64)]) rfl rfl rfl rfl rfl rfl (Nat.le_of_ble_eq_true rfl) rfl (evn ?_))))
  refine ls_keep [(2, .box [.str a0.1, .own 3 v1.length (v1.flatMap ci64)])] ⟨kr, trivial⟩ rfl ?_
  refine ls_ret ?_
  have hr := Option.some.inj h
  rw [← hr]
  exact ⟨.inl rfl, rfl⟩
def laws_toAtomS_B1 (a0 : List ((List UInt8) × (List Int))) (rec : ((List ((List UInt8) × (List Int))) × Int) → Option ((List ((List UInt8) × (List Int))))) (s : (List ((List UInt8) × (List Int))) × Int) : Option ((List ((List UInt8) × (List Int)))) := match s with
  | (y1, y2) => cond (decide (y2 < (List.length a0 : Int))) (obind (geti a0 y2) fun e7 => obind (laws_toAtom e7) fun v9 => obind (geti y1 y2) fun e11 => rec ((seti y1 y2 v9), (IntKind.i64.wrap (y2 + 1)))) (some y1)
def laws_toAtomS (a0 : List ((List UInt8) × (List Int))) : Option ((List ((List UInt8) × (List Int)))) := chk ((0 : Int) ≤ (List.length a0 : Int) ∧ Int.toNat (List.length a0 : Int) ≤ lim) (obind (loopF (laws_toAtomS_B1 a0) fz ((List.replicate (Int.toNat (List.length a0 : Int)) (([], []) : (List UInt8) × (List Int))), 0)) fun z3 => some z3)
theorem laws_toAtomS_s {a0 : List ((List UInt8) × (List Int))} {r : (List ((List UInt8) × (List Int)))} (h : laws_toAtomS a0 = some r) : SoundAt Try.prog 109 [.dat a0.length (a0.flatMap c171_d)] (.own 150 r.length (r.flatMap c150_o)) := by
  unfold laws_toAtomS at h
  refine sound_lit tbOk lit109 (Nat.le_of_ble_eq_true rfl) rfl ?_
  unfold c109
  refine ls_keep [(0, .dat a0.length (a0.flatMap c171_d))] ⟨kr, trivial⟩ rfl ?_
  refine ls_rs tbOk ?_
  refine evs (ev_an rfl rfl (evn ?_))
  refine ls_keep [(0, .dat a0.length (a0.flatMap c171_d))] ⟨kr, trivial⟩ rfl ?_
  refine ls_rs tbOk ?_
  refine evs (ev_mv (c := .dat a0.length (a0.flatMap c171_d)) rfl rfl rfl (evs (ev_len (c1 := .dat a0.length (a0.flatMap c171_d)) rfl rfl rfl (?_))))
  obtain ⟨g1, h⟩ := chk_some h
  refine evs (ev_mku (f := c150_o) (z := (([], []) : (List UInt8) × (List Int))) rfl rfl rfl rfl rfl rfl g1 rfl (evs (ev_asu rfl rfl rfl (evn ?_))))
  refine ls_keep [(0, .dat a0.length (a0.flatMap c171_d)), (3, .uni 150 (List.replicate (Int.toNat (List.length a0 : Int)) (([], []) : (List UInt8) × (List Int))).length ((List.replicate (Int.toNat (List.length a0 : Int)) (([], []) : (List UInt8) × (List Int))).flatMap c150_o))] ⟨kr, kr, trivial⟩ rfl ?_
  refine ls_seq_k fun K2 hK2 => ?_
  refine ls_rs tbOk ?_
  refine evs (ev_ac rfl nofun rfl (evn ?_))
  refine ls_keep [(0, .dat a0.length (a0.flatMap c171_d)), (3, .uni 150 (List.replicate (Int.toNat (List.length a0 : Int)) (([], []) : (List UInt8) × (List Int))).length ((List.replicate (Int.toNat (List.length a0 : Int)) (([], []) : (List UInt8) × (List Int))).flatMap c150_o)), (4, .int .i64 0)] ⟨kr, kr, kr, trivial⟩ rfl ?_
  obtain ⟨o1, hl, hr1⟩ := ob_some h
  clear h
  have kXlaws_toAtomS_B1 : ∀ (z3 : List ((List UInt8) × (List Int))), (some z3) = some r → ∀ σ' : PS, okK σ' [(3, .uni 150 z3.length (z3.flatMap c150_o))] → K2 σ' := by
    intro z3 h σ' hk
    refine hK2 _ (ls_keep [(3, .uni 150 z3.length (z3.flatMap c150_o))] hk rfl ?_)
    refine ls_rs tbOk ?_
    refine evs (ev_mvtu rfl rfl (evs (ev_as (c := .own 150 z3.length (z3.flatMap c150_o)) rfl rfl rfl (evn ?_))))
    refine ls_keep [(2, .own 150 z3.length (z3.flatMap c150_o))] ⟨kr, trivial⟩ rfl ?_
    refine ls_ret ?_
    have hr := Option.some.inj h
    rw [← hr]
    exact ⟨.inl rfl, rfl⟩
  refine ls_rec (fun (s : (List ((List UInt8) × (List Int))) × Int) => match s with | (y1, y2) => [(0, .dat a0.length (a0.flatMap c171_d)), (3, .uni 150 y1.length (y1.flatMap c150_o)), (4, .int .i64 y2)]) (laws_toAtomS_B1 a0) fz ((List.replicate (Int.toNat (List.length a0 : Int)) (([], []) : (List UInt8) × (List Int))), 0) o1 hl ⟨kr, kr, kr, trivial⟩ (fun _ => rfl) ?_
  rintro m ⟨y1, y2⟩ N h hN
  unfold laws_toAtomS_B1 at h
  dsimp only at h
  refine ls_seq_k fun K4 hK4 => ?_
  refine ls_rs tbOk ?_
  refine evs (ev_mv (c := .int .i64 y2) rfl rfl rfl (evs (ev_mv (c := .dat a0.length (a0.flatMap c171_d)) rfl rfl rfl (evs (ev_len (c1 := .dat a0.length (a0.flatMap c171_d)) rfl rfl rfl (evs (ev_bin (c1 := .int .i64 y2) (c2 := .int .i64 (List.length a0 : Int)) rfl rfl rfl (evn ?_))))))))
  refine ls_keep [(0, .dat a0.length (a0.flatMap c171_d)), (3, .uni 150 y1.length (y1.flatMap c150_o)), (4, .int .i64 y2), (11, .bool (decide (y2 < (List.length a0 : Int))))] ⟨kr, kr, kr, kr, trivial⟩ rfl ?_
  rcases cond_some h with ⟨g5, h⟩ | ⟨g5, h⟩
  · refine ls_cT rfl g5 ?_
    refine ls_skip ?_
    refine hK4 _ (ls_keep [(0, .dat a0.length (a0.flatMap c171_d)), (3, .uni 150 y1.length (y1.flatMap c150_o)), (4, .int .i64 y2)] ⟨kr, kr, kr, trivial⟩ rfl ?_)
    refine ls_seq_k fun K6 hK6 => ?_
    refine ls_blk ?_
    refine ls_rgn tbOk ?_
    refine evs (ev_mvu rfl rfl (evs (ev_mv (c := .int .i64 y2) rfl rfl rfl (evs (ev_mv (c := .dat a0.length (a0.flatMap c171_d)) rfl rfl rfl (evs (ev_mv (c := .int .i64 y2) rfl rfl rfl (?_))))))))
    obtain ⟨e7, g8, h⟩ := ob_some h
    refine evs (ev_ia rfl rfl rfl ⟨(geti_some g8).1, (geti_some g8).2.1⟩ (evs (ev_ldE (off := 0) (v := .agg [.str e7.1, .dat e7.2.length (e7.2.flatMap ci64)]) rfl rfl zc171_d g8 rfl (Nat.le_of_ble_eq_true rfl) rfl (?_))))
    obtain ⟨v9, g10, h⟩ := ob_some h
    refine evs (ev_call (era rfl (erg (erc rfl (erc (erD eci64 _) rfl))) eran) (laws_toAtom_s g10) (?_))
    obtain ⟨e11, g12, h⟩ := ob_some h
    refine evs (ev_iau rfl rfl rfl rfl ⟨(geti_some g12).1, (geti_some g12).2.1⟩ (evs (ev_stu (e := v9) (c1 := .agg [.str v9.1, .own 3 v9.2.length (v9.2.flatMap ci64)]) rfl rfl zc150_o ⟨(geti_some g12).1, (geti_some g12).2.1⟩ rfl rfl rfl rfl rfl (evn ?_))))
    refine hK6 _ (ls_keep [(0, .dat a0.length (a0.flatMap c171_d)), (3, .uni 150 (seti y1 y2 v9).length ((seti y1 y2 v9).flatMap c150_o)), (4, .int .i64 y2)] ⟨kr, kr, kr, trivial⟩ rfl ?_)
    refine ls_rgn tbOk ?_
    refine evs (ev_mv (c := .int .i64 y2) rfl rfl rfl (evs (ev_bin (c1 := .int .i64 y2) (c2 := .int .i64 1) rfl rfl rfl (evs (ev_as (c := .int .i64 (IntKind.i64.wrap (y2 + 1))) rfl rfl rfl (evn ?_))))))
    exact hN _ ((seti y1 y2 v9), (IntKind.i64.wrap (y2 + 1))) h ⟨kr, kr, kr, trivial⟩
  · refine ls_cF rfl g5 ?_
    refine ls_exit ?_
    have q0 := (Option.some.inj h).symm
    have r0 := hr1
    rw [q0] at r0
    exact kXlaws_toAtomS_B1 y1 r0 _ ⟨kr, trivial⟩
def laws_toQuery (a0 : Int × (List ((List UInt8) × (List Int))) × (List Int)) : Option ((Int × (List ((List UInt8) × (List Int))) × (List Int))) := obind (laws_toAtomS a0.2.1) fun v1 => obind (laws_toIntS a0.2.2) fun v3 => some (a0.1, v1, v3)
theorem laws_toQuery_s {a0 : Int × (List ((List UInt8) × (List Int))) × (List Int)} {r : (Int × (List ((List UInt8) × (List Int))) × (List Int))} (h : laws_toQuery a0 = some r) : SoundAt Try.prog 31 [.agg [.int .i64 a0.1, .dat a0.2.1.length (a0.2.1.flatMap c171_d), .dat a0.2.2.length (a0.2.2.flatMap ci64)]] (.agg [.int .i64 r.1, .own 150 r.2.1.length (r.2.1.flatMap c150_o), .own 3 r.2.2.length (r.2.2.flatMap ci64)]) := by
  unfold laws_toQuery at h
  refine sound_lit tbOk lit31 (Nat.le_of_ble_eq_true rfl) rfl ?_
  unfold c31
  refine ls_keep [(0, .agg [.int .i64 a0.1, .dat a0.2.1.length (a0.2.1.flatMap c171_d), .dat a0.2.2.length (a0.2.2.flatMap ci64)])] ⟨kr, trivial⟩ rfl ?_
  refine ls_rs tbOk ?_
  refine evs (ev_bx (c1 := .agg [.int .i64 a0.1, .dat a0.2.1.length (a0.2.1.flatMap c171_d), .dat a0.2.2.length (a0.2.2.flatMap ci64)]) rfl rfl rfl (evs (ev_al rfl rfl (evn ?_))))
  refine ls_keep [(1, .box [.int .i64 a0.1, .dat a0.2.1.length (a0.2.1.flatMap c171_d), .dat a0.2.2.length (a0.2.2.flatMap ci64)]), (2, .box [.int .i64 0, .own 150 ([] : List ((List UInt8) × (List Int))).length (([] : List ((List UInt8) × (List Int))).flatMap c150_o), .own 3 ([] : List Int).length (([] : List Int).flatMap ci64)])] ⟨kr, kr, trivial⟩ rfl ?_
  refine ls_rs tbOk ?_
  refine evs (ev_al rfl rfl (evn ?_))
  refine ls_keep [(1, .box [.int .i64 a0.1, .dat a0.2.1.length (a0.2.1.flatMap c171_d), .dat a0.2.2.length (a0.2.2.flatMap ci64)]), (2, .box [.int .i64 0, .own 150 ([] : List ((List UInt8) × (List Int))).length (([] : List ((List UInt8) × (List Int))).flatMap c150_o), .own 3 ([] : List Int).length (([] : List Int).flatMap ci64)]), (3, .box [.int .i64 0, .own 150 ([] : List ((List UInt8) × (List Int))).length (([] : List ((List UInt8) × (List Int))).flatMap c150_o), .own 3 ([] : List Int).length (([] : List Int).flatMap ci64)])] ⟨kr, kr, kr, trivial⟩ rfl ?_
  refine ls_rs tbOk ?_
  refine evs (ev_fa (c1 := .cref 1 0) (v := .cref 1 0) rfl rfl rfl ⟨_, rfl⟩ rfl (evs (ev_ldB (off := 0) (v := .int .i64 a0.1) rfl rfl rfl rfl (Nat.le_of_ble_eq_true rfl) rfl (evs (ev_fa (c1 := .cref 3 0) (v := .cref 3 0) rfl rfl rfl ⟨_, rfl⟩ rfl (evs (ev_st (off := 0) (c1 := .int .i64 a0.1) (cs' := [.int .i64 a0.1, .own 150 ([] : List ((List UInt8) × (List Int))).length (([] : List ((List UInt8) × (List Int))).flatMap c150_o), .own 3 ([] : List Int).length (([] : List Int).flatMap ci64)]) rfl rfl rfl rfl rfl rfl (Nat.le_of_ble_eq_true rfl) rfl (evn ?_))))))))
  refine ls_keep [(1, .box [.int .i64 a0.1, .dat a0.2.1.length (a0.2.1.flatMap c171_d), .dat a0.2.2.length (a0.2.2.flatMap ci64)]), (2, .box [.int .i64 0, .own 150 ([] : List ((List UInt8) × (List Int))).length (([] : List ((List UInt8) × (List Int))).flatMap c150_o), .own 3 ([] : List Int).length (([] : List Int).flatMap ci64)]), (3, .box [.int .i64 a0.1, .own 150 ([] : List ((List UInt8) × (List Int))).length (([] : List ((List UInt8) × (List Int))).flatMap c150_o), .own 3 ([] : List Int).length (([] : List Int).flatMap ci64)])] ⟨kr, kr, kr, trivial⟩ rfl ?_
  refine ls_rs tbOk ?_
  refine evs (ev_fa (c1 := .cref 1 0) (v := .cref 1 1) rfl rfl rfl ⟨_, rfl⟩ rfl (evs (ev_ldB (off := 1) (v := .dat a0.2.1.length (a0.2.1.flatMap c171_d)) rfl rfl rfl rfl (Nat.le_of_ble_eq_true rfl) rfl (?_))))
  obtain ⟨v1, g2, h⟩ := ob_some h
  refine evs (ev_call (era rfl (erD ec171_d _) eran) (laws_toAtomS_s g2) (evs (ev_fa (c1 := .cref 3 0) (v := .cref 3 1) rfl rfl rfl ⟨_, rfl⟩ rfl (evs (ev_st (off := 1) (c1 := .own 150 v1.length (v1.flatMap c150_o)) (cs' := [.int .i64 a0.1, .own 150 v1.length (v1.flatMap c150_o), .own 3 ([] : List Int).length (([] : List Int).flatMap ci64)]) rfl rfl rfl rfl rfl rfl (Nat.le_of_ble_eq_true rfl) rfl (evn ?_))))))
  refine ls_keep [(1, .box [.int .i64 a0.1, .dat a0.2.1.length (a0.2.1.flatMap c171_d), .dat a0.2.2.length (a0.2.2.flatMap ci64)]), (2, .box [.int .i64 0, .own 150 ([] : List ((List UInt8) × (List Int))).length (([] : List ((List UInt8) × (List Int))).flatMap c150_o), .own 3 ([] : List Int).length (([] : List Int).flatMap ci64)]), (3, .box [.int .i64 a0.1, .own 150 v1.length (v1.flatMap c150_o), .own 3 ([] : List Int).length (([] : List Int).flatMap ci64)])] ⟨kr, kr, kr, trivial⟩ rfl ?_
  refine ls_rs tbOk ?_
  refine evs (ev_fa (c1 := .cref 1 0) (v := .cref 1 2) rfl rfl rfl ⟨_, rfl⟩ rfl (evs (ev_ldB (off := 2) (v := .dat a0.2.2.length (a0.2.2.flatMap ci64)) rfl rfl rfl rfl (Nat.le_of_ble_eq_true rfl) rfl (?_))))
  obtain ⟨v3, g4, h⟩ := ob_some h
  refine evs (ev_call (era rfl (erD eci64 _) eran) (laws_toIntS_s g4) (evs (ev_fa (c1 := .cref 3 0) (v := .cref 3 2) rfl rfl rfl ⟨_, rfl⟩ rfl (evs (ev_st (off := 2) (c1 := .own 3 v3.length (v3.flatMap ci64)) (cs' := [.int .i64 a0.1, .own 150 v1.length (v1.flatMap c150_o), .own 3 v3.length (v3.flatMap ci64)]) rfl rfl rfl rfl rfl rfl (Nat.le_of_ble_eq_true rfl) rfl (evn ?_))))))
  refine ls_keep [(2, .box [.int .i64 0, .own 150 ([] : List ((List UInt8) × (List Int))).length (([] : List ((List UInt8) × (List Int))).flatMap c150_o), .own 3 ([] : List Int).length (([] : List Int).flatMap ci64)]), (3, .box [.int .i64 a0.1, .own 150 v1.length (v1.flatMap c150_o), .own 3 v3.length (v3.flatMap ci64)])] ⟨kr, kr, trivial⟩ rfl ?_
  refine ls_rs tbOk ?_
  refine evs (ev_ldBt (off := 0) (v := .agg [.int .i64 a0.1, .own 150 v1.length (v1.flatMap c150_o), .own 3 v3.length (v3.flatMap ci64)]) (c' := .box [.int .i64 a0.1, .dat v1.length (v1.flatMap c150_o), .dat v3.length (v3.flatMap ci64)]) rfl rfl rfl rfl (Nat.le_of_ble_eq_true rfl) rfl rfl (evs (ev_st (off := 0) (c1 := .agg [.int .i64 a0.1, .own 150 v1.length (v1.flatMap c150_o), .own 3 v3.length (v3.flatMap ci64)]) (cs' := [.int .i64 a0.1, .own 150 v1.length (v1.flatMap c150_o), .own 3 v3.length (v3.flatMap ci64)]) rfl rfl rfl rfl rfl rfl (Nat.le_of_ble_eq_true rfl) rfl (evn ?_))))
  refine ls_keep [(2, .box [.int .i64 a0.1, .own 150 v1.length (v1.flatMap c150_o), .own 3 v3.length (v3.flatMap ci64)])] ⟨kr, trivial⟩ rfl ?_
  refine ls_ret ?_
  have hr := Option.some.inj h
  rw [← hr]
  exact ⟨.inl rfl, rfl⟩
def laws_eqIntS_B1 (a0 : List Int) (a1 : List Int) (rec : Int → Option (Sum (Unit) (Bool))) (y1 : Int) : Option (Sum (Unit) (Bool)) := cond (decide (y1 < (List.length a0 : Int))) (obind (geti a0 y1) fun e7 => obind (geti a1 y1) fun e9 => cond (e7 != e9) (some (.inr false)) (rec (IntKind.i64.wrap (y1 + 1)))) (some (.inl ()))
def laws_eqIntS (a0 : List Int) (a1 : List Int) : Option (Bool) := cond ((List.length a0 : Int) != (List.length a1 : Int)) (some false) (obind (loopF (laws_eqIntS_B1 a0 a1) fz 0) fun o1 => (match o1 with
  | .inl _ => (some true)
  | .inr r => some r))
theorem laws_eqIntS_s {a0 : List Int} {a1 : List Int} {r : Bool} (h : laws_eqIntS a0 a1 = some r) : SoundAt Try.prog 35 [.dat a0.length (a0.flatMap ci64), .dat a1.length (a1.flatMap ci64)] (.bool r) := by
  unfold laws_eqIntS at h
  refine sound_lit tbOk lit35 (Nat.le_of_ble_eq_true rfl) rfl ?_
  unfold c35
  refine ls_keep [(0, .dat a0.length (a0.flatMap ci64)), (1, .dat a1.length (a1.flatMap ci64))] ⟨kr, kr, trivial⟩ rfl ?_
  refine ls_rs tbOk ?_
  refine evs (ev_ac rfl nofun rfl (evn ?_))
  refine ls_keep [(0, .dat a0.length (a0.flatMap ci64)), (1, .dat a1.length (a1.flatMap ci64))] ⟨kr, kr, trivial⟩ rfl ?_
  refine ls_seq_k fun K1 hK1 => ?_
  refine ls_rs tbOk ?_
  refine evs (ev_mv (c := .dat a0.length (a0.flatMap ci64)) rfl rfl rfl (evs (ev_len (c1 := .dat a0.length (a0.flatMap ci64)) rfl rfl rfl (evs (ev_mv (c := .dat a1.length (a1.flatMap ci64)) rfl rfl rfl (evs (ev_len (c1 := .dat a1.length (a1.flatMap ci64)) rfl rfl rfl (evs (ev_bin (c1 := .int .i64 (List.length a0 : Int)) (c2 := .int .i64 (List.length a1 : Int)) rfl rfl rfl (evn ?_))))))))))
  refine ls_keep [(0, .dat a0.length (a0.flatMap ci64)), (1, .dat a1.length (a1.flatMap ci64)), (10, .bool ((List.length a0 : Int) != (List.length a1 : Int)))] ⟨kr, kr, kr, trivial⟩ rfl ?_
  rcases cond_some h with ⟨g2, h⟩ | ⟨g2, h⟩
  · refine ls_cT rfl g2 ?_
    refine ls_rs tbOk ?_
    refine evs (ev_ac rfl nofun rfl (evn ?_))
    refine ls_keep [(4, .bool false)] ⟨kr, trivial⟩ rfl ?_
    refine ls_ret ?_
    have hr := Option.some.inj h
    rw [← hr]
    exact ⟨.inl rfl, rfl⟩
  · refine ls_cF rfl g2 ?_
    refine ls_skip ?_
    refine hK1 _ (ls_keep [(0, .dat a0.length (a0.flatMap ci64)), (1, .dat a1.length (a1.flatMap ci64))] ⟨kr, kr, trivial⟩ rfl ?_)
    refine ls_seq_k fun K3 hK3 => ?_
    refine ls_rs tbOk ?_
    refine evs (ev_ac rfl nofun rfl (evn ?_))
    refine ls_keep [(0, .dat a0.length (a0.flatMap ci64)), (1, .dat a1.length (a1.flatMap ci64)), (5, .int .i64 0)] ⟨kr, kr, kr, trivial⟩ rfl ?_
    obtain ⟨o1, hl, hr1⟩ := ob_some h
    clear h
    have kXlaws_eqIntS_B1 : ∀ (_ : Unit), (some true) = some r → ∀ σ' : PS, okK σ' [] → K3 σ' := by
      intro _ h σ' hk
      refine hK3 _ (ls_keep [] hk rfl ?_)
      refine ls_rs tbOk ?_
      refine evs (ev_ac rfl nofun rfl (evn ?_))
      refine ls_keep [(4, .bool true)] ⟨kr, trivial⟩ rfl ?_
      refine ls_ret ?_
      have hr := Option.some.inj h
      rw [← hr]
      exact ⟨.inl rfl, rfl⟩
    refine ls_rec (fun (y1 : Int) => [(0, .dat a0.length (a0.flatMap ci64)), (1, .dat a1.length (a1.flatMap ci64)), (5, .int .i64 y1)]) (laws_eqIntS_B1 a0 a1) fz 0 o1 hl ⟨kr, kr, kr, trivial⟩ (fun _ => rfl) ?_
    rintro m y1 N h hN
    unfold laws_eqIntS_B1 at h
    refine ls_seq_k fun K4 hK4 => ?_
    refine ls_rs tbOk ?_
    refine evs (ev_mv (c := .int .i64 y1) rfl rfl rfl (evs (ev_mv (c := .dat a0.length (a0.flatMap ci64)) rfl rfl rfl (evs (ev_len (c1 := .dat a0.length (a0.flatMap ci64)) rfl rfl rfl (evs (ev_bin (c1 := .int .i64 y1) (c2 := .int .i64 (List.length a0 : Int)) rfl rfl rfl (evn ?_))))))))
    refine ls_keep [(0, .dat a0.length (a0.flatMap ci64)), (1, .dat a1.length (a1.flatMap ci64)), (5, .int .i64 y1), (14, .bool (decide (y1 < (List.length a0 : Int))))] ⟨kr, kr, kr, kr, trivial⟩ rfl ?_
    rcases cond_some h with ⟨g5, h⟩ | ⟨g5, h⟩
    · refine ls_cT rfl g5 ?_
      refine ls_skip ?_
      refine hK4 _ (ls_keep [(0, .dat a0.length (a0.flatMap ci64)), (1, .dat a1.length (a1.flatMap ci64)), (5, .int .i64 y1)] ⟨kr, kr, kr, trivial⟩ rfl ?_)
      refine ls_seq_k fun K6 hK6 => ?_
      refine ls_blk ?_
      refine ls_rd tbOk mixed (by kernel_rfl) ?_
      refine evd rfl rfl (ev_mv (c := .dat a0.length (a0.flatMap ci64)) rfl rfl rfl (evd rfl rfl (ev_mv (c := .int .i64 y1) rfl rfl rfl (?_))))
      obtain ⟨e7, g8, h⟩ := ob_some h
      refine evd rfl rfl (ev_ia rfl rfl rfl ⟨(geti_some g8).1, (geti_some g8).2.1⟩ (evd rfl rfl (ev_ldE (off := 0) (v := .int .i64 e7) rfl rfl zci64 g8 rfl (Nat.le_of_ble_eq_true rfl) rfl (evd rfl rfl (ev_mv (c := .dat a1.length (a1.flatMap ci64)) rfl rfl rfl (evd rfl rfl (ev_mv (c := .int .i64 y1) rfl rfl rfl (?_))))))))
      obtain ⟨e9, g10, h⟩ := ob_some h
      refine evd rfl rfl (ev_ia rfl rfl rfl ⟨(geti_some g10).1, (geti_some g10).2.1⟩ (evd rfl rfl (ev_ldE (off := 0) (v := .int .i64 e9) rfl rfl zci64 g10 rfl (Nat.le_of_ble_eq_true rfl) rfl (evd rfl rfl (ev_bin (c1 := .int .i64 e7) (c2 := .int .i64 e9) rfl rfl rfl (evdn ?_))))))
      refine ls_keep [(0, .dat a0.length (a0.flatMap ci64)), (1, .dat a1.length (a1.flatMap ci64)), (5, .int .i64 y1), (25, .bool (e7 != e9))] ⟨kr, kr, kr, kr, trivial⟩ rfl ?_
      rcases cond_some h with ⟨g11, h⟩ | ⟨g11, h⟩
      · refine ls_cT rfl g11 ?_
        refine ls_rs tbOk ?_
        refine evs (ev_ac rfl nofun rfl (evn ?_))
        refine ls_keep [(4, .bool false)] ⟨kr, trivial⟩ rfl ?_
        refine ls_ret ?_
        have q0 := (Option.some.inj h).symm
        have r0 := hr1
        rw [q0] at r0
        have hr := Option.some.inj r0
        rw [← hr]
        exact ⟨.inl rfl, rfl⟩
      · refine ls_cF rfl g11 ?_
        refine ls_skip ?_
        refine hK6 _ (ls_keep [(0, .dat a0.length (a0.flatMap ci64)), (1, .dat a1.length (a1.flatMap ci64)), (5, .int .i64 y1)] ⟨kr, kr, kr, trivial⟩ rfl ?_)
        refine ls_rgn tbOk ?_
        refine evs (ev_mv (c := .int .i64 y1) rfl rfl rfl (evs (ev_bin (c1 := .int .i64 y1) (c2 := .int .i64 1) rfl rfl rfl (evs (ev_as (c := .int .i64 (IntKind.i64.wrap (y1 + 1))) rfl rfl rfl (evn ?_))))))
        exact hN _ (IntKind.i64.wrap (y1 + 1)) h ⟨kr, kr, kr, trivial⟩
    · refine ls_cF rfl g5 ?_
      refine ls_exit ?_
      have q0 := (Option.some.inj h).symm
      have r0 := hr1
      rw [q0] at r0
      exact kXlaws_eqIntS_B1 () r0 _ trivial
def laws_eqAtom (a0 : (List UInt8) × (List Int)) (a1 : (List UInt8) × (List Int)) : Option (Bool) := cond (!(a0.1 == a1.1)) (some false) (obind (laws_eqIntS a0.2 a1.2) fun v4 => cond (!v4) (some false) (some true))
theorem laws_eqAtom_s {a0 : (List UInt8) × (List Int)} {a1 : (List UInt8) × (List Int)} {r : Bool} (h : laws_eqAtom a0 a1 = some r) : SoundAt Try.prog 152 [.agg [.str a0.1, .dat a0.2.length (a0.2.flatMap ci64)], .agg [.str a1.1, .dat a1.2.length (a1.2.flatMap ci64)]] (.bool r) := by
  unfold laws_eqAtom at h
  refine sound_lit tbOk lit152 (Nat.le_of_ble_eq_true rfl) rfl ?_
  unfold c152
  refine ls_keep [(0, .agg [.str a0.1, .dat a0.2.length (a0.2.flatMap ci64)]), (1, .agg [.str a1.1, .dat a1.2.length (a1.2.flatMap ci64)])] ⟨kr, kr, trivial⟩ rfl ?_
  refine ls_rs tbOk ?_
  refine evs (ev_bx (c1 := .agg [.str a0.1, .dat a0.2.length (a0.2.flatMap ci64)]) rfl rfl rfl (evs (ev_bx (c1 := .agg [.str a1.1, .dat a1.2.length (a1.2.flatMap ci64)]) rfl rfl rfl (evs (ev_ac rfl nofun rfl (evn ?_))))))
  refine ls_keep [(2, .box [.str a0.1, .dat a0.2.length (a0.2.flatMap ci64)]), (3, .box [.str a1.1, .dat a1.2.length (a1.2.flatMap ci64)])] ⟨kr, kr, trivial⟩ rfl ?_
  refine ls_seq_k fun K1 hK1 => ?_
  refine ls_rs tbOk ?_
  refine evs (ev_fa (c1 := .cref 2 0) (v := .cref 2 0) rfl rfl rfl ⟨_, rfl⟩ rfl (evs (ev_ldB (off := 0) (v := .str a0.1) rfl rfl rfl rfl (Nat.le_of_ble_eq_true rfl) rfl (evs (ev_fa (c1 := .cref 3 0) (v := .cref 3 0) rfl rfl rfl ⟨_, rfl⟩ rfl (evs (ev_ldB (off := 0) (v := .str a1.1) rfl rfl rfl rfl (Nat.le_of_ble_eq_true rfl) rfl (evs (ev_bin (c1 := .str a0.1) (c2 := .str a1.1) rfl rfl trivial (evn ?_))))))))))
  refine ls_keep [(2, .box [.str a0.1, .dat a0.2.length (a0.2.flatMap ci64)]), (3, .box [.str a1.1, .dat a1.2.length (a1.2.flatMap ci64)]), (9, .bool (!(a0.1 == a1.1)))] ⟨kr, kr, kr, trivial⟩ rfl ?_
  rcases cond_some h with ⟨g2, h⟩ | ⟨g2, h⟩
  · refine ls_cT rfl g2 ?_
    refine ls_rs tbOk ?_
    refine evs (ev_ac rfl nofun rfl (evn ?_))
    refine ls_keep [(4, .bool false)] ⟨kr, trivial⟩ rfl ?_
    refine ls_ret ?_
    have hr := Option.some.inj h
    rw [← hr]
    exact ⟨.inl rfl, rfl⟩
  · refine ls_cF rfl g2 ?_
    refine ls_skip ?_
    refine hK1 _ (ls_keep [(2, .box [.str a0.1, .dat a0.2.length (a0.2.flatMap ci64)]), (3, .box [.str a1.1, .dat a1.2.length (a1.2.flatMap ci64)])] ⟨kr, kr, trivial⟩ rfl ?_)
    refine ls_seq_k fun K3 hK3 => ?_
    refine ls_rs tbOk ?_
    refine evs (ev_fa (c1 := .cref 2 0) (v := .cref 2 1) rfl rfl rfl ⟨_, rfl⟩ rfl (evs (ev_ldB (off := 1) (v := .dat a0.2.length (a0.2.flatMap ci64)) rfl rfl rfl rfl (Nat.le_of_ble_eq_true rfl) rfl (evs (ev_fa (c1 := .cref 3 0) (v := .cref 3 1) rfl rfl rfl ⟨_, rfl⟩ rfl (evs (ev_ldB (off := 1) (v := .dat a1.2.length (a1.2.flatMap ci64)) rfl rfl rfl rfl (Nat.le_of_ble_eq_true rfl) rfl (?_))))))))
    obtain ⟨v4, g5, h⟩ := ob_some h
    refine evs (ev_call (era rfl (erD eci64 _) (era rfl (erD eci64 _) eran)) (laws_eqIntS_s g5) (evs (ev_un (c1 := .bool v4) rfl trivial (evn ?_))))
    refine ls_keep [(15, .bool (!v4))] ⟨kr, trivial⟩ rfl ?_
    rcases cond_some h with ⟨g6, h⟩ | ⟨g6, h⟩
    · refine ls_cT rfl g6 ?_
      refine ls_rs tbOk ?_
      refine evs (ev_ac rfl nofun rfl (evn ?_))
      refine ls_keep [(4, .bool false)] ⟨kr, trivial⟩ rfl ?_
      refine ls_ret ?_
      have hr := Option.some.inj h
      rw [← hr]
      exact ⟨.inl rfl, rfl⟩
    · refine ls_cF rfl g6 ?_
      refine ls_skip ?_
      refine hK3 _ (ls_keep [] trivial rfl ?_)
      refine ls_rs tbOk ?_
      refine evs (ev_ac rfl nofun rfl (evn ?_))
      refine ls_keep [(4, .bool true)] ⟨kr, trivial⟩ rfl ?_
      refine ls_ret ?_
      have hr := Option.some.inj h
      rw [← hr]
      exact ⟨.inl rfl, rfl⟩
def laws_eqAtomS_B1 (a0 : List ((List UInt8) × (List Int))) (a1 : List ((List UInt8) × (List Int))) (rec : Int → Option (Sum (Unit) (Bool))) (y1 : Int) : Option (Sum (Unit) (Bool)) := cond (decide (y1 < (List.length a0 : Int))) (obind (geti a0 y1) fun e7 => obind (geti a1 y1) fun e9 => obind (laws_eqAtom e7 e9) fun v11 => cond (!v11) (some (.inr false)) (rec (IntKind.i64.wrap (y1 + 1)))) (some (.inl ()))
def laws_eqAtomS (a0 : List ((List UInt8) × (List Int))) (a1 : List ((List UInt8) × (List Int))) : Option (Bool) := cond ((List.length a0 : Int) != (List.length a1 : Int)) (some false) (obind (loopF (laws_eqAtomS_B1 a0 a1) fz 0) fun o1 => (match o1 with
  | .inl _ => (some true)
  | .inr r => some r))
theorem laws_eqAtomS_s {a0 : List ((List UInt8) × (List Int))} {a1 : List ((List UInt8) × (List Int))} {r : Bool} (h : laws_eqAtomS a0 a1 = some r) : SoundAt Try.prog 111 [.dat a0.length (a0.flatMap c150_d), .dat a1.length (a1.flatMap c150_d)] (.bool r) := by
  unfold laws_eqAtomS at h
  refine sound_lit tbOk lit111 (Nat.le_of_ble_eq_true rfl) rfl ?_
  unfold c111
  refine ls_keep [(0, .dat a0.length (a0.flatMap c150_d)), (1, .dat a1.length (a1.flatMap c150_d))] ⟨kr, kr, trivial⟩ rfl ?_
  refine ls_rs tbOk ?_
  refine evs (ev_ac rfl nofun rfl (evn ?_))
  refine ls_keep [(0, .dat a0.length (a0.flatMap c150_d)), (1, .dat a1.length (a1.flatMap c150_d))] ⟨kr, kr, trivial⟩ rfl ?_
  refine ls_seq_k fun K1 hK1 => ?_
  refine ls_rs tbOk ?_
  refine evs (ev_mv (c := .dat a0.length (a0.flatMap c150_d)) rfl rfl rfl (evs (ev_len (c1 := .dat a0.length (a0.flatMap c150_d)) rfl rfl rfl (evs (ev_mv (c := .dat a1.length (a1.flatMap c150_d)) rfl rfl rfl (evs (ev_len (c1 := .dat a1.length (a1.flatMap c150_d)) rfl rfl rfl (evs (ev_bin (c1 := .int .i64 (List.length a0 : Int)) (c2 := .int .i64 (List.length a1 : Int)) rfl rfl rfl (evn ?_))))))))))
  refine ls_keep [(0, .dat a0.length (a0.flatMap c150_d)), (1, .dat a1.length (a1.flatMap c150_d)), (10, .bool ((List.length a0 : Int) != (List.length a1 : Int)))] ⟨kr, kr, kr, trivial⟩ rfl ?_
  rcases cond_some h with ⟨g2, h⟩ | ⟨g2, h⟩
  · refine ls_cT rfl g2 ?_
    refine ls_rs tbOk ?_
    refine evs (ev_ac rfl nofun rfl (evn ?_))
    refine ls_keep [(4, .bool false)] ⟨kr, trivial⟩ rfl ?_
    refine ls_ret ?_
    have hr := Option.some.inj h
    rw [← hr]
    exact ⟨.inl rfl, rfl⟩
  · refine ls_cF rfl g2 ?_
    refine ls_skip ?_
    refine hK1 _ (ls_keep [(0, .dat a0.length (a0.flatMap c150_d)), (1, .dat a1.length (a1.flatMap c150_d))] ⟨kr, kr, trivial⟩ rfl ?_)
    refine ls_seq_k fun K3 hK3 => ?_
    refine ls_rs tbOk ?_
    refine evs (ev_ac rfl nofun rfl (evn ?_))
    refine ls_keep [(0, .dat a0.length (a0.flatMap c150_d)), (1, .dat a1.length (a1.flatMap c150_d)), (5, .int .i64 0)] ⟨kr, kr, kr, trivial⟩ rfl ?_
    obtain ⟨o1, hl, hr1⟩ := ob_some h
    clear h
    have kXlaws_eqAtomS_B1 : ∀ (_ : Unit), (some true) = some r → ∀ σ' : PS, okK σ' [] → K3 σ' := by
      intro _ h σ' hk
      refine hK3 _ (ls_keep [] hk rfl ?_)
      refine ls_rs tbOk ?_
      refine evs (ev_ac rfl nofun rfl (evn ?_))
      refine ls_keep [(4, .bool true)] ⟨kr, trivial⟩ rfl ?_
      refine ls_ret ?_
      have hr := Option.some.inj h
      rw [← hr]
      exact ⟨.inl rfl, rfl⟩
    refine ls_rec (fun (y1 : Int) => [(0, .dat a0.length (a0.flatMap c150_d)), (1, .dat a1.length (a1.flatMap c150_d)), (5, .int .i64 y1)]) (laws_eqAtomS_B1 a0 a1) fz 0 o1 hl ⟨kr, kr, kr, trivial⟩ (fun _ => rfl) ?_
    rintro m y1 N h hN
    unfold laws_eqAtomS_B1 at h
    refine ls_seq_k fun K4 hK4 => ?_
    refine ls_rs tbOk ?_
    refine evs (ev_mv (c := .int .i64 y1) rfl rfl rfl (evs (ev_mv (c := .dat a0.length (a0.flatMap c150_d)) rfl rfl rfl (evs (ev_len (c1 := .dat a0.length (a0.flatMap c150_d)) rfl rfl rfl (evs (ev_bin (c1 := .int .i64 y1) (c2 := .int .i64 (List.length a0 : Int)) rfl rfl rfl (evn ?_))))))))
    refine ls_keep [(0, .dat a0.length (a0.flatMap c150_d)), (1, .dat a1.length (a1.flatMap c150_d)), (5, .int .i64 y1), (14, .bool (decide (y1 < (List.length a0 : Int))))] ⟨kr, kr, kr, kr, trivial⟩ rfl ?_
    rcases cond_some h with ⟨g5, h⟩ | ⟨g5, h⟩
    · refine ls_cT rfl g5 ?_
      refine ls_skip ?_
      refine hK4 _ (ls_keep [(0, .dat a0.length (a0.flatMap c150_d)), (1, .dat a1.length (a1.flatMap c150_d)), (5, .int .i64 y1)] ⟨kr, kr, kr, trivial⟩ rfl ?_)
      refine ls_seq_k fun K6 hK6 => ?_
      refine ls_blk ?_
      refine ls_rd tbOk mixed (by kernel_rfl) ?_
      refine evd rfl rfl (ev_mv (c := .dat a0.length (a0.flatMap c150_d)) rfl rfl rfl (evd rfl rfl (ev_mv (c := .int .i64 y1) rfl rfl rfl (?_))))
      obtain ⟨e7, g8, h⟩ := ob_some h
      refine evd rfl rfl (ev_ia rfl rfl rfl ⟨(geti_some g8).1, (geti_some g8).2.1⟩ (evd rfl rfl (ev_ldE (off := 0) (v := .agg [.str e7.1, .dat e7.2.length (e7.2.flatMap ci64)]) rfl rfl zc150_d g8 rfl (Nat.le_of_ble_eq_true rfl) rfl (evd rfl rfl (ev_mv (c := .dat a1.length (a1.flatMap c150_d)) rfl rfl rfl (evd rfl rfl (ev_mv (c := .int .i64 y1) rfl rfl rfl (?_))))))))
      obtain ⟨e9, g10, h⟩ := ob_some h
      refine evd rfl rfl (ev_ia rfl rfl rfl ⟨(geti_some g10).1, (geti_some g10).2.1⟩ (evd rfl rfl (ev_ldE (off := 0) (v := .agg [.str e9.1, .dat e9.2.length (e9.2.flatMap ci64)]) rfl rfl zc150_d g10 rfl (Nat.le_of_ble_eq_true rfl) rfl (?_))))
      obtain ⟨v11, g12, h⟩ := ob_some h
      refine evd rfl rfl (ev_call (era rfl (erg (erc rfl (erc (erD eci64 _) rfl))) (era rfl (erg (erc rfl (erc (erD eci64 _) rfl))) eran)) (laws_eqAtom_s g12) (evd rfl rfl (ev_un (c1 := .bool v11) rfl trivial (evdn ?_))))
      refine ls_keep [(0, .dat a0.length (a0.flatMap c150_d)), (1, .dat a1.length (a1.flatMap c150_d)), (5, .int .i64 y1), (26, .bool (!v11))] ⟨kr, kr, kr, kr, trivial⟩ rfl ?_
      rcases cond_some h with ⟨g13, h⟩ | ⟨g13, h⟩
      · refine ls_cT rfl g13 ?_
        refine ls_rs tbOk ?_
        refine evs (ev_ac rfl nofun rfl (evn ?_))
        refine ls_keep [(4, .bool false)] ⟨kr, trivial⟩ rfl ?_
        refine ls_ret ?_
        have q0 := (Option.some.inj h).symm
        have r0 := hr1
        rw [q0] at r0
        have hr := Option.some.inj r0
        rw [← hr]
        exact ⟨.inl rfl, rfl⟩
      · refine ls_cF rfl g13 ?_
        refine ls_skip ?_
        refine hK6 _ (ls_keep [(0, .dat a0.length (a0.flatMap c150_d)), (1, .dat a1.length (a1.flatMap c150_d)), (5, .int .i64 y1)] ⟨kr, kr, kr, trivial⟩ rfl ?_)
        refine ls_rgn tbOk ?_
        refine evs (ev_mv (c := .int .i64 y1) rfl rfl rfl (evs (ev_bin (c1 := .int .i64 y1) (c2 := .int .i64 1) rfl rfl rfl (evs (ev_as (c := .int .i64 (IntKind.i64.wrap (y1 + 1))) rfl rfl rfl (evn ?_))))))
        exact hN _ (IntKind.i64.wrap (y1 + 1)) h ⟨kr, kr, kr, trivial⟩
    · refine ls_cF rfl g5 ?_
      refine ls_exit ?_
      have q0 := (Option.some.inj h).symm
      have r0 := hr1
      rw [q0] at r0
      exact kXlaws_eqAtomS_B1 () r0 _ trivial
def laws_eqQuery (a0 : Int × (List ((List UInt8) × (List Int))) × (List Int)) (a1 : Int × (List ((List UInt8) × (List Int))) × (List Int)) : Option (Bool) := cond (a0.1 != a1.1) (some false) (obind (laws_eqAtomS a0.2.1 a1.2.1) fun v4 => cond (!v4) (some false) (obind (laws_eqIntS a0.2.2 a1.2.2) fun v8 => cond (!v8) (some false) (some true)))
theorem laws_eqQuery_s {a0 : Int × (List ((List UInt8) × (List Int))) × (List Int)} {a1 : Int × (List ((List UInt8) × (List Int))) × (List Int)} {r : Bool} (h : laws_eqQuery a0 a1 = some r) : SoundAt Try.prog 34 [.agg [.int .i64 a0.1, .dat a0.2.1.length (a0.2.1.flatMap c150_d), .dat a0.2.2.length (a0.2.2.flatMap ci64)], .agg [.int .i64 a1.1, .dat a1.2.1.length (a1.2.1.flatMap c150_d), .dat a1.2.2.length (a1.2.2.flatMap ci64)]] (.bool r) := by
  unfold laws_eqQuery at h
  refine sound_lit tbOk lit34 (Nat.le_of_ble_eq_true rfl) rfl ?_
  unfold c34
  refine ls_keep [(0, .agg [.int .i64 a0.1, .dat a0.2.1.length (a0.2.1.flatMap c150_d), .dat a0.2.2.length (a0.2.2.flatMap ci64)]), (1, .agg [.int .i64 a1.1, .dat a1.2.1.length (a1.2.1.flatMap c150_d), .dat a1.2.2.length (a1.2.2.flatMap ci64)])] ⟨kr, kr, trivial⟩ rfl ?_
  refine ls_rs tbOk ?_
  refine evs (ev_bx (c1 := .agg [.int .i64 a0.1, .dat a0.2.1.length (a0.2.1.flatMap c150_d), .dat a0.2.2.length (a0.2.2.flatMap ci64)]) rfl rfl rfl (evs (ev_bx (c1 := .agg [.int .i64 a1.1, .dat a1.2.1.length (a1.2.1.flatMap c150_d), .dat a1.2.2.length (a1.2.2.flatMap ci64)]) rfl rfl rfl (evs (ev_ac rfl nofun rfl (evn ?_))))))
  refine ls_keep [(2, .box [.int .i64 a0.1, .dat a0.2.1.length (a0.2.1.flatMap c150_d), .dat a0.2.2.length (a0.2.2.flatMap ci64)]), (3, .box [.int .i64 a1.1, .dat a1.2.1.length (a1.2.1.flatMap c150_d), .dat a1.2.2.length (a1.2.2.flatMap ci64)])] ⟨kr, kr, trivial⟩ rfl ?_
  refine ls_seq_k fun K1 hK1 => ?_
  refine ls_rs tbOk ?_
  refine evs (ev_fa (c1 := .cref 2 0) (v := .cref 2 0) rfl rfl rfl ⟨_, rfl⟩ rfl (evs (ev_ldB (off := 0) (v := .int .i64 a0.1) rfl rfl rfl rfl (Nat.le_of_ble_eq_true rfl) rfl (evs (ev_fa (c1 := .cref 3 0) (v := .cref 3 0) rfl rfl rfl ⟨_, rfl⟩ rfl (evs (ev_ldB (off := 0) (v := .int .i64 a1.1) rfl rfl rfl rfl (Nat.le_of_ble_eq_true rfl) rfl (evs (ev_bin (c1 := .int .i64 a0.1) (c2 := .int .i64 a1.1) rfl rfl rfl (evn ?_))))))))))
  refine ls_keep [(2, .box [.int .i64 a0.1, .dat a0.2.1.length (a0.2.1.flatMap c150_d), .dat a0.2.2.length (a0.2.2.flatMap ci64)]), (3, .box [.int .i64 a1.1, .dat a1.2.1.length (a1.2.1.flatMap c150_d), .dat a1.2.2.length (a1.2.2.flatMap ci64)]), (9, .bool (a0.1 != a1.1))] ⟨kr, kr, kr, trivial⟩ rfl ?_
  rcases cond_some h with ⟨g2, h⟩ | ⟨g2, h⟩
  · refine ls_cT rfl g2 ?_
    refine ls_rs tbOk ?_
    refine evs (ev_ac rfl nofun rfl (evn ?_))
    refine ls_keep [(4, .bool false)] ⟨kr, trivial⟩ rfl ?_
    refine ls_ret ?_
    have hr := Option.some.inj h
    rw [← hr]
    exact ⟨.inl rfl, rfl⟩
  · refine ls_cF rfl g2 ?_
    refine ls_skip ?_
    refine hK1 _ (ls_keep [(2, .box [.int .i64 a0.1, .dat a0.2.1.length (a0.2.1.flatMap c150_d), .dat a0.2.2.length (a0.2.2.flatMap ci64)]), (3, .box [.int .i64 a1.1, .dat a1.2.1.length (a1.2.1.flatMap c150_d), .dat a1.2.2.length (a1.2.2.flatMap ci64)])] ⟨kr, kr, trivial⟩ rfl ?_)
    refine ls_seq_k fun K3 hK3 => ?_
    refine ls_rs tbOk ?_
    refine evs (ev_fa (c1 := .cref 2 0) (v := .cref 2 1) rfl rfl rfl ⟨_, rfl⟩ rfl (evs (ev_ldB (off := 1) (v := .dat a0.2.1.length (a0.2.1.flatMap c150_d)) rfl rfl rfl rfl (Nat.le_of_ble_eq_true rfl) rfl (evs (ev_fa (c1 := .cref 3 0) (v := .cref 3 1) rfl rfl rfl ⟨_, rfl⟩ rfl (evs (ev_ldB (off := 1) (v := .dat a1.2.1.length (a1.2.1.flatMap c150_d)) rfl rfl rfl rfl (Nat.le_of_ble_eq_true rfl) rfl (?_))))))))
    obtain ⟨v4, g5, h⟩ := ob_some h
    refine evs (ev_call (era rfl (erD ec150_d _) (era rfl (erD ec150_d _) eran)) (laws_eqAtomS_s g5) (evs (ev_un (c1 := .bool v4) rfl trivial (evn ?_))))
    refine ls_keep [(2, .box [.int .i64 a0.1, .dat a0.2.1.length (a0.2.1.flatMap c150_d), .dat a0.2.2.length (a0.2.2.flatMap ci64)]), (3, .box [.int .i64 a1.1, .dat a1.2.1.length (a1.2.1.flatMap c150_d), .dat a1.2.2.length (a1.2.2.flatMap ci64)]), (15, .bool (!v4))] ⟨kr, kr, kr, trivial⟩ rfl ?_
    rcases cond_some h with ⟨g6, h⟩ | ⟨g6, h⟩
    · refine ls_cT rfl g6 ?_
      refine ls_rs tbOk ?_
      refine evs (ev_ac rfl nofun rfl (evn ?_))
      refine ls_keep [(4, .bool false)] ⟨kr, trivial⟩ rfl ?_
      refine ls_ret ?_
      have hr := Option.some.inj h
      rw [← hr]
      exact ⟨.inl rfl, rfl⟩
    · refine ls_cF rfl g6 ?_
      refine ls_skip ?_
      refine hK3 _ (ls_keep [(2, .box [.int .i64 a0.1, .dat a0.2.1.length (a0.2.1.flatMap c150_d), .dat a0.2.2.length (a0.2.2.flatMap ci64)]), (3, .box [.int .i64 a1.1, .dat a1.2.1.length (a1.2.1.flatMap c150_d), .dat a1.2.2.length (a1.2.2.flatMap ci64)])] ⟨kr, kr, trivial⟩ rfl ?_)
      refine ls_seq_k fun K7 hK7 => ?_
      refine ls_rs tbOk ?_
      refine evs (ev_fa (c1 := .cref 2 0) (v := .cref 2 2) rfl rfl rfl ⟨_, rfl⟩ rfl (evs (ev_ldB (off := 2) (v := .dat a0.2.2.length (a0.2.2.flatMap ci64)) rfl rfl rfl rfl (Nat.le_of_ble_eq_true rfl) rfl (evs (ev_fa (c1 := .cref 3 0) (v := .cref 3 2) rfl rfl rfl ⟨_, rfl⟩ rfl (evs (ev_ldB (off := 2) (v := .dat a1.2.2.length (a1.2.2.flatMap ci64)) rfl rfl rfl rfl (Nat.le_of_ble_eq_true rfl) rfl (?_))))))))
      obtain ⟨v8, g9, h⟩ := ob_some h
      refine evs (ev_call (era rfl (erD eci64 _) (era rfl (erD eci64 _) eran)) (laws_eqIntS_s g9) (evs (ev_un (c1 := .bool v8) rfl trivial (evn ?_))))
      refine ls_keep [(21, .bool (!v8))] ⟨kr, trivial⟩ rfl ?_
      rcases cond_some h with ⟨g10, h⟩ | ⟨g10, h⟩
      · refine ls_cT rfl g10 ?_
        refine ls_rs tbOk ?_
        refine evs (ev_ac rfl nofun rfl (evn ?_))
        refine ls_keep [(4, .bool false)] ⟨kr, trivial⟩ rfl ?_
        refine ls_ret ?_
        have hr := Option.some.inj h
        rw [← hr]
        exact ⟨.inl rfl, rfl⟩
      · refine ls_cF rfl g10 ?_
        refine ls_skip ?_
        refine hK7 _ (ls_keep [] trivial rfl ?_)
        refine ls_rs tbOk ?_
        refine evs (ev_ac rfl nofun rfl (evn ?_))
        refine ls_keep [(4, .bool true)] ⟨kr, trivial⟩ rfl ?_
        refine ls_ret ?_
        have hr := Option.some.inj h
        rw [← hr]
        exact ⟨.inl rfl, rfl⟩
def laws_heldIntS_B1 (a0 : List Int) (rec : (Int × Int) → Option (Sum (Int) (Int))) (s : Int × Int) : Option (Sum (Int) (Int)) := match s with
  | (y1, y2) => cond (decide (y2 < (List.length a0 : Int))) (obind (geti a0 y2) fun e7 => cond (e7 != y1) (some (.inr (-1))) (rec ((IntKind.i64.wrap (y1 + 1)), (IntKind.i64.wrap (y2 + 1))))) (some (.inl y1))
def laws_heldIntS (a0 : List Int) (a1 : Int) : Option (Int) := obind (loopF (laws_heldIntS_B1 a0) fz (a1, 0)) fun o1 => (match o1 with
  | .inl z2 => (some z2)
  | .inr r => some r)
theorem laws_heldIntS_s {a0 : List Int} {a1 : Int} {r : Int} (h : laws_heldIntS a0 a1 = some r) : SoundAt Try.prog 58 [.dat a0.length (a0.flatMap ci64), .int .i64 a1] (.int .i64 r) := by
  unfold laws_heldIntS at h
  refine sound_lit tbOk lit58 (Nat.le_of_ble_eq_true rfl) rfl ?_
  unfold c58
  refine ls_keep [(0, .dat a0.length (a0.flatMap ci64)), (1, .int .i64 a1)] ⟨kr, kr, trivial⟩ rfl ?_
  refine ls_rs tbOk ?_
  refine evs (ev_ac rfl nofun rfl (evn ?_))
  refine ls_keep [(0, .dat a0.length (a0.flatMap ci64)), (1, .int .i64 a1)] ⟨kr, kr, trivial⟩ rfl ?_
  refine ls_seq_k fun K1 hK1 => ?_
  refine ls_rs tbOk ?_
  refine evs (ev_ac rfl nofun rfl (evn ?_))
  refine ls_keep [(0, .dat a0.length (a0.flatMap ci64)), (1, .int .i64 a1), (5, .int .i64 0)] ⟨kr, kr, kr, trivial⟩ rfl ?_
  obtain ⟨o1, hl, hr1⟩ := ob_some h
  clear h
  have kXlaws_heldIntS_B1 : ∀ (z2 : Int), (some z2) = some r → ∀ σ' : PS, okK σ' [(1, .int .i64 z2)] → K1 σ' := by
    intro z2 h σ' hk
    refine hK1 _ (ls_keep [(1, .int .i64 z2)] hk rfl ?_)
    refine ls_rs tbOk ?_
    refine evs (ev_mv (c := .int .i64 z2) rfl rfl rfl (evs (ev_as (c := .int .i64 z2) rfl rfl rfl (evn ?_))))
    refine ls_keep [(4, .int .i64 z2)] ⟨kr, trivial⟩ rfl ?_
    refine ls_ret ?_
    have hr := Option.some.inj h
    rw [← hr]
    exact ⟨.inl rfl, rfl⟩
  refine ls_rec (fun (s : Int × Int) => match s with | (y1, y2) => [(0, .dat a0.length (a0.flatMap ci64)), (1, .int .i64 y1), (5, .int .i64 y2)]) (laws_heldIntS_B1 a0) fz (a1, 0) o1 hl ⟨kr, kr, kr, trivial⟩ (fun _ => rfl) ?_
  rintro m ⟨y1, y2⟩ N h hN
  unfold laws_heldIntS_B1 at h
  dsimp only at h
  refine ls_seq_k fun K3 hK3 => ?_
  refine ls_rs tbOk ?_
  refine evs (ev_mv (c := .int .i64 y2) rfl rfl rfl (evs (ev_mv (c := .dat a0.length (a0.flatMap ci64)) rfl rfl rfl (evs (ev_len (c1 := .dat a0.length (a0.flatMap ci64)) rfl rfl rfl (evs (ev_bin (c1 := .int .i64 y2) (c2 := .int .i64 (List.length a0 : Int)) rfl rfl rfl (evn ?_))))))))
  refine ls_keep [(0, .dat a0.length (a0.flatMap ci64)), (1, .int .i64 y1), (5, .int .i64 y2), (9, .bool (decide (y2 < (List.length a0 : Int))))] ⟨kr, kr, kr, kr, trivial⟩ rfl ?_
  rcases cond_some h with ⟨g4, h⟩ | ⟨g4, h⟩
  · refine ls_cT rfl g4 ?_
    refine ls_skip ?_
    refine hK3 _ (ls_keep [(0, .dat a0.length (a0.flatMap ci64)), (1, .int .i64 y1), (5, .int .i64 y2)] ⟨kr, kr, kr, trivial⟩ rfl ?_)
    refine ls_seq_k fun K5 hK5 => ?_
    refine ls_blk ?_
    refine ls_seq_k fun K6 hK6 => ?_
    refine ls_rs tbOk ?_
    refine evs (ev_mv (c := .dat a0.length (a0.flatMap ci64)) rfl rfl rfl (evs (ev_mv (c := .int .i64 y2) rfl rfl rfl (?_))))
    obtain ⟨e7, g8, h⟩ := ob_some h
    refine evs (ev_ia rfl rfl rfl ⟨(geti_some g8).1, (geti_some g8).2.1⟩ (evs (ev_ldE (off := 0) (v := .int .i64 e7) rfl rfl zci64 g8 rfl (Nat.le_of_ble_eq_true rfl) rfl (evs (ev_mv (c := .int .i64 y1) rfl rfl rfl (evs (ev_bin (c1 := .int .i64 e7) (c2 := .int .i64 y1) rfl rfl rfl (evn ?_))))))))
    refine ls_keep [(0, .dat a0.length (a0.flatMap ci64)), (1, .int .i64 y1), (5, .int .i64 y2), (17, .bool (e7 != y1))] ⟨kr, kr, kr, kr, trivial⟩ rfl ?_
    rcases cond_some h with ⟨g9, h⟩ | ⟨g9, h⟩
    · refine ls_cT rfl g9 ?_
      refine ls_rs tbOk ?_
      refine evs (ev_ac rfl nofun rfl (evn ?_))
      refine ls_keep [(4, .int .i64 (-1))] ⟨kr, trivial⟩ rfl ?_
      refine ls_ret ?_
      have q0 := (Option.some.inj h).symm
      have r0 := hr1
      rw [q0] at r0
      have hr := Option.some.inj r0
      rw [← hr]
      exact ⟨.inl rfl, rfl⟩
    · refine ls_cF rfl g9 ?_
      refine ls_skip ?_
      refine hK6 _ (ls_keep [(0, .dat a0.length (a0.flatMap ci64)), (1, .int .i64 y1), (5, .int .i64 y2)] ⟨kr, kr, kr, trivial⟩ rfl ?_)
      refine ls_rgn tbOk ?_
      refine evs (ev_mv (c := .int .i64 y1) rfl rfl rfl (evs (ev_bin (c1 := .int .i64 y1) (c2 := .int .i64 1) rfl rfl rfl (evs (ev_as (c := .int .i64 (IntKind.i64.wrap (y1 + 1))) rfl rfl rfl (evn ?_))))))
      refine hK5 _ (ls_keep [(0, .dat a0.length (a0.flatMap ci64)), (1, .int .i64 (IntKind.i64.wrap (y1 + 1))), (5, .int .i64 y2)] ⟨kr, kr, kr, trivial⟩ rfl ?_)
      refine ls_rgn tbOk ?_
      refine evs (ev_mv (c := .int .i64 y2) rfl rfl rfl (evs (ev_bin (c1 := .int .i64 y2) (c2 := .int .i64 1) rfl rfl rfl (evs (ev_as (c := .int .i64 (IntKind.i64.wrap (y2 + 1))) rfl rfl rfl (evn ?_))))))
      exact hN _ ((IntKind.i64.wrap (y1 + 1)), (IntKind.i64.wrap (y2 + 1))) h ⟨kr, kr, kr, trivial⟩
  · refine ls_cF rfl g4 ?_
    refine ls_exit ?_
    have q0 := (Option.some.inj h).symm
    have r0 := hr1
    rw [q0] at r0
    exact kXlaws_heldIntS_B1 y1 r0 _ ⟨kr, trivial⟩
def laws_szFunctionalDependency (a0 : (List UInt8) × (List Int) × Int) (a1 : Int) : Option (Int) := cond (decide ((IntKind.i64.wrap (a1 - (List.length a0.1 : Int))) < 0)) (some (-1)) (obind (laws_szIntS a0.2.1 (IntKind.i64.wrap (a1 - (List.length a0.1 : Int)))) fun v3 => cond (decide (v3 < 0)) (some (-1)) (some v3))
theorem laws_szFunctionalDependency_s {a0 : (List UInt8) × (List Int) × Int} {a1 : Int} {r : Int} (h : laws_szFunctionalDependency a0 a1 = some r) : SoundAt Try.prog 50 [.agg [.str a0.1, .dat a0.2.1.length (a0.2.1.flatMap ci64), .int .i64 a0.2.2], .int .i64 a1] (.int .i64 r) := by
  unfold laws_szFunctionalDependency at h
  refine sound_lit tbOk lit50 (Nat.le_of_ble_eq_true rfl) rfl ?_
  unfold c50
  refine ls_keep [(0, .agg [.str a0.1, .dat a0.2.1.length (a0.2.1.flatMap ci64), .int .i64 a0.2.2]), (1, .int .i64 a1)] ⟨kr, kr, trivial⟩ rfl ?_
  refine ls_rs tbOk ?_
  refine evs (ev_bx (c1 := .agg [.str a0.1, .dat a0.2.1.length (a0.2.1.flatMap ci64), .int .i64 a0.2.2]) rfl rfl rfl (evs (ev_ac rfl nofun rfl (evn ?_))))
  refine ls_keep [(1, .int .i64 a1), (2, .box [.str a0.1, .dat a0.2.1.length (a0.2.1.flatMap ci64), .int .i64 a0.2.2])] ⟨kr, kr, trivial⟩ rfl ?_
  refine ls_rs tbOk ?_
  refine evs (ev_mv (c := .int .i64 a1) rfl rfl rfl (evs (ev_fa (c1 := .cref 2 0) (v := .cref 2 0) rfl rfl rfl ⟨_, rfl⟩ rfl (evs (ev_ldB (off := 0) (v := .str a0.1) rfl rfl rfl rfl (Nat.le_of_ble_eq_true rfl) rfl (evs (ev_lens (z := []) rfl rfl (evs (ev_bin (c1 := .int .i64 a1) (c2 := .int .i64 (List.length a0.1 : Int)) rfl rfl rfl (evs (ev_as (c := .int .i64 (IntKind.i64.wrap (a1 - (List.length a0.1 : Int)))) rfl rfl rfl (evn ?_))))))))))))
  refine ls_keep [(1, .int .i64 (IntKind.i64.wrap (a1 - (List.length a0.1 : Int)))), (2, .box [.str a0.1, .dat a0.2.1.length (a0.2.1.flatMap ci64), .int .i64 a0.2.2])] ⟨kr, kr, trivial⟩ rfl ?_
  refine ls_seq_k fun K1 hK1 => ?_
  refine ls_rs tbOk ?_
  refine evs (ev_mv (c := .int .i64 (IntKind.i64.wrap (a1 - (List.length a0.1 : Int)))) rfl rfl rfl (evs (ev_bin (c1 := .int .i64 (IntKind.i64.wrap (a1 - (List.length a0.1 : Int)))) (c2 := .int .i64 0) rfl rfl rfl (evn ?_))))
  refine ls_keep [(1, .int .i64 (IntKind.i64.wrap (a1 - (List.length a0.1 : Int)))), (2, .box [.str a0.1, .dat a0.2.1.length (a0.2.1.flatMap ci64), .int .i64 a0.2.2]), (11, .bool (decide ((IntKind.i64.wrap (a1 - (List.length a0.1 : Int))) < 0)))] ⟨kr, kr, kr, trivial⟩ rfl ?_
  rcases cond_some h with ⟨g2, h⟩ | ⟨g2, h⟩
  · refine ls_cT rfl g2 ?_
    refine ls_rs tbOk ?_
    refine evs (ev_ac rfl nofun rfl (evn ?_))
    refine ls_keep [(4, .int .i64 (-1))] ⟨kr, trivial⟩ rfl ?_
    refine ls_ret ?_
    have hr := Option.some.inj h
    rw [← hr]
    exact ⟨.inl rfl, rfl⟩
  · refine ls_cF rfl g2 ?_
    refine ls_skip ?_
    refine hK1 _ (ls_keep [(1, .int .i64 (IntKind.i64.wrap (a1 - (List.length a0.1 : Int)))), (2, .box [.str a0.1, .dat a0.2.1.length (a0.2.1.flatMap ci64), .int .i64 a0.2.2])] ⟨kr, kr, trivial⟩ rfl ?_)
    refine ls_rs tbOk ?_
    refine evs (ev_fa (c1 := .cref 2 0) (v := .cref 2 1) rfl rfl rfl ⟨_, rfl⟩ rfl (evs (ev_ldB (off := 1) (v := .dat a0.2.1.length (a0.2.1.flatMap ci64)) rfl rfl rfl rfl (Nat.le_of_ble_eq_true rfl) rfl (evs (ev_mv (c := .int .i64 (IntKind.i64.wrap (a1 - (List.length a0.1 : Int)))) rfl rfl rfl (?_))))))
    obtain ⟨v3, g4, h⟩ := ob_some h
    refine evs (ev_call (era rfl (erD eci64 _) (era rfl rfl eran)) (laws_szIntS_s g4) (evs (ev_as (c := .int .i64 v3) rfl rfl rfl (evn ?_))))
    refine ls_keep [(1, .int .i64 v3)] ⟨kr, trivial⟩ rfl ?_
    refine ls_seq_k fun K5 hK5 => ?_
    refine ls_rs tbOk ?_
    refine evs (ev_mv (c := .int .i64 v3) rfl rfl rfl (evs (ev_bin (c1 := .int .i64 v3) (c2 := .int .i64 0) rfl rfl rfl (evn ?_))))
    refine ls_keep [(1, .int .i64 v3), (17, .bool (decide (v3 < 0)))] ⟨kr, kr, trivial⟩ rfl ?_
    rcases cond_some h with ⟨g6, h⟩ | ⟨g6, h⟩
    · refine ls_cT rfl g6 ?_
      refine ls_rs tbOk ?_
      refine evs (ev_ac rfl nofun rfl (evn ?_))
      refine ls_keep [(4, .int .i64 (-1))] ⟨kr, trivial⟩ rfl ?_
      refine ls_ret ?_
      have hr := Option.some.inj h
      rw [← hr]
      exact ⟨.inl rfl, rfl⟩
    · refine ls_cF rfl g6 ?_
      refine ls_skip ?_
      refine hK5 _ (ls_keep [(1, .int .i64 v3)] ⟨kr, trivial⟩ rfl ?_)
      refine ls_rs tbOk ?_
      refine evs (ev_mv (c := .int .i64 v3) rfl rfl rfl (evs (ev_as (c := .int .i64 v3) rfl rfl rfl (evn ?_))))
      refine ls_keep [(4, .int .i64 v3)] ⟨kr, trivial⟩ rfl ?_
      refine ls_ret ?_
      have hr := Option.some.inj h
      rw [← hr]
      exact ⟨.inl rfl, rfl⟩
def laws_szFunctionalDependencyS_B1 (a0 : List ((List UInt8) × (List Int) × Int)) (rec : (Int × Int) → Option (Sum (Int) (Int))) (s : Int × Int) : Option (Sum (Int) (Int)) := match s with
  | (y1, y2) => cond (decide (y2 < (List.length a0 : Int))) (obind (geti a0 y2) fun e8 => obind (laws_szFunctionalDependency e8 y1) fun v10 => cond (decide (v10 < 0)) (some (.inr (-1))) (rec (v10, (IntKind.i64.wrap (y2 + 1))))) (some (.inl y1))
def laws_szFunctionalDependencyS (a0 : List ((List UInt8) × (List Int) × Int)) (a1 : Int) : Option (Int) := cond (decide ((IntKind.i64.wrap (a1 - (List.length a0 : Int))) < 0)) (some (-1)) (obind (loopF (laws_szFunctionalDependencyS_B1 a0) fz ((IntKind.i64.wrap (a1 - (List.length a0 : Int))), 0)) fun o1 => (match o1 with
  | .inl z4 => (some z4)
  | .inr r => some r))
theorem laws_szFunctionalDependencyS_s {a0 : List ((List UInt8) × (List Int) × Int)} {a1 : Int} {r : Int} (h : laws_szFunctionalDependencyS a0 a1 = some r) : SoundAt Try.prog 74 [.dat a0.length (a0.flatMap c83_d), .int .i64 a1] (.int .i64 r) := by
  unfold laws_szFunctionalDependencyS at h
  refine sound_lit tbOk lit74 (Nat.le_of_ble_eq_true rfl) rfl ?_
  unfold c74
  refine ls_keep [(0, .dat a0.length (a0.flatMap c83_d)), (1, .int .i64 a1)] ⟨kr, kr, trivial⟩ rfl ?_
  refine ls_rs tbOk ?_
  refine evs (ev_ac rfl nofun rfl (evn ?_))
  refine ls_keep [(0, .dat a0.length (a0.flatMap c83_d)), (1, .int .i64 a1)] ⟨kr, kr, trivial⟩ rfl ?_
  refine ls_rs tbOk ?_
  refine evs (ev_mv (c := .int .i64 a1) rfl rfl rfl (evs (ev_mv (c := .dat a0.length (a0.flatMap c83_d)) rfl rfl rfl (evs (ev_len (c1 := .dat a0.length (a0.flatMap c83_d)) rfl rfl rfl (evs (ev_bin (c1 := .int .i64 a1) (c2 := .int .i64 (List.length a0 : Int)) rfl rfl rfl (evs (ev_as (c := .int .i64 (IntKind.i64.wrap (a1 - (List.length a0 : Int)))) rfl rfl rfl (evn ?_))))))))))
  refine ls_keep [(0, .dat a0.length (a0.flatMap c83_d)), (1, .int .i64 (IntKind.i64.wrap (a1 - (List.length a0 : Int))))] ⟨kr, kr, trivial⟩ rfl ?_
  refine ls_seq_k fun K1 hK1 => ?_
  refine ls_rs tbOk ?_
  refine evs (ev_mv (c := .int .i64 (IntKind.i64.wrap (a1 - (List.length a0 : Int)))) rfl rfl rfl (evs (ev_bin (c1 := .int .i64 (IntKind.i64.wrap (a1 - (List.length a0 : Int)))) (c2 := .int .i64 0) rfl rfl rfl (evn ?_))))
  refine ls_keep [(0, .dat a0.length (a0.flatMap c83_d)), (1, .int .i64 (IntKind.i64.wrap (a1 - (List.length a0 : Int)))), (11, .bool (decide ((IntKind.i64.wrap (a1 - (List.length a0 : Int))) < 0)))] ⟨kr, kr, kr, trivial⟩ rfl ?_
  rcases cond_some h with ⟨g2, h⟩ | ⟨g2, h⟩
  · refine ls_cT rfl g2 ?_
    refine ls_rs tbOk ?_
    refine evs (ev_ac rfl nofun rfl (evn ?_))
    refine ls_keep [(4, .int .i64 (-1))] ⟨kr, trivial⟩ rfl ?_
    refine ls_ret ?_
    have hr := Option.some.inj h
    rw [← hr]
    exact ⟨.inl rfl, rfl⟩
  · refine ls_cF rfl g2 ?_
    refine ls_skip ?_
    refine hK1 _ (ls_keep [(0, .dat a0.length (a0.flatMap c83_d)), (1, .int .i64 (IntKind.i64.wrap (a1 - (List.length a0 : Int))))] ⟨kr, kr, trivial⟩ rfl ?_)
    refine ls_seq_k fun K3 hK3 => ?_
    refine ls_rs tbOk ?_
    refine evs (ev_ac rfl nofun rfl (evn ?_))
    refine ls_keep [(0, .dat a0.length (a0.flatMap c83_d)), (1, .int .i64 (IntKind.i64.wrap (a1 - (List.length a0 : Int)))), (5, .int .i64 0)] ⟨kr, kr, kr, trivial⟩ rfl ?_
    obtain ⟨o1, hl, hr1⟩ := ob_some h
    clear h
    have kXlaws_szFunctionalDependencyS_B1 : ∀ (z4 : Int), (some z4) = some r → ∀ σ' : PS, okK σ' [(1, .int .i64 z4)] → K3 σ' := by
      intro z4 h σ' hk
      refine hK3 _ (ls_keep [(1, .int .i64 z4)] hk rfl ?_)
      refine ls_rs tbOk ?_
      refine evs (ev_mv (c := .int .i64 z4) rfl rfl rfl (evs (ev_as (c := .int .i64 z4) rfl rfl rfl (evn ?_))))
      refine ls_keep [(4, .int .i64 z4)] ⟨kr, trivial⟩ rfl ?_
      refine ls_ret ?_
      have hr := Option.some.inj h
      rw [← hr]
      exact ⟨.inl rfl, rfl⟩
    refine ls_rec (fun (s : Int × Int) => match s with | (y1, y2) => [(0, .dat a0.length (a0.flatMap c83_d)), (1, .int .i64 y1), (5, .int .i64 y2)]) (laws_szFunctionalDependencyS_B1 a0) fz ((IntKind.i64.wrap (a1 - (List.length a0 : Int))), 0) o1 hl ⟨kr, kr, kr, trivial⟩ (fun _ => rfl) ?_
    rintro m ⟨y1, y2⟩ N h hN
    unfold laws_szFunctionalDependencyS_B1 at h
    dsimp only at h
    refine ls_seq_k fun K5 hK5 => ?_
    refine ls_rs tbOk ?_
    refine evs (ev_mv (c := .int .i64 y2) rfl rfl rfl (evs (ev_mv (c := .dat a0.length (a0.flatMap c83_d)) rfl rfl rfl (evs (ev_len (c1 := .dat a0.length (a0.flatMap c83_d)) rfl rfl rfl (evs (ev_bin (c1 := .int .i64 y2) (c2 := .int .i64 (List.length a0 : Int)) rfl rfl rfl (evn ?_))))))))
    refine ls_keep [(0, .dat a0.length (a0.flatMap c83_d)), (1, .int .i64 y1), (5, .int .i64 y2), (15, .bool (decide (y2 < (List.length a0 : Int))))] ⟨kr, kr, kr, kr, trivial⟩ rfl ?_
    rcases cond_some h with ⟨g6, h⟩ | ⟨g6, h⟩
    · refine ls_cT rfl g6 ?_
      refine ls_skip ?_
      refine hK5 _ (ls_keep [(0, .dat a0.length (a0.flatMap c83_d)), (1, .int .i64 y1), (5, .int .i64 y2)] ⟨kr, kr, kr, trivial⟩ rfl ?_)
      refine ls_seq_k fun K7 hK7 => ?_
      refine ls_blk ?_
      refine ls_rs tbOk ?_
      refine evs (ev_mv (c := .dat a0.length (a0.flatMap c83_d)) rfl rfl rfl (evs (ev_mv (c := .int .i64 y2) rfl rfl rfl (?_))))
      obtain ⟨e8, g9, h⟩ := ob_some h
      refine evs (ev_ia rfl rfl rfl ⟨(geti_some g9).1, (geti_some g9).2.1⟩ (evs (ev_ldE (off := 0) (v := .agg [.str e8.1, .dat e8.2.1.length (e8.2.1.flatMap ci64), .int .i64 e8.2.2]) rfl rfl zc83_d g9 rfl (Nat.le_of_ble_eq_true rfl) rfl (evs (ev_mv (c := .int .i64 y1) rfl rfl rfl (?_))))))
      obtain ⟨v10, g11, h⟩ := ob_some h
      refine evs (ev_call (era rfl (erg (erc rfl (erc (erD eci64 _) (erc rfl rfl)))) (era rfl rfl eran)) (laws_szFunctionalDependency_s g11) (evs (ev_as (c := .int .i64 v10) rfl rfl rfl (evn ?_))))
      refine ls_keep [(0, .dat a0.length (a0.flatMap c83_d)), (1, .int .i64 v10), (5, .int .i64 y2)] ⟨kr, kr, kr, trivial⟩ rfl ?_
      refine ls_rs tbOk ?_
      refine evs (ev_mv (c := .int .i64 v10) rfl rfl rfl (evs (ev_bin (c1 := .int .i64 v10) (c2 := .int .i64 0) rfl rfl rfl (evn ?_))))
      refine ls_keep [(0, .dat a0.length (a0.flatMap c83_d)), (1, .int .i64 v10), (5, .int .i64 y2), (25, .bool (decide (v10 < 0)))] ⟨kr, kr, kr, kr, trivial⟩ rfl ?_
      rcases cond_some h with ⟨g12, h⟩ | ⟨g12, h⟩
      · refine ls_cT rfl g12 ?_
        refine ls_rs tbOk ?_
        refine evs (ev_ac rfl nofun rfl (evn ?_))
        refine ls_keep [(4, .int .i64 (-1))] ⟨kr, trivial⟩ rfl ?_
        refine ls_ret ?_
        have q0 := (Option.some.inj h).symm
        have r0 := hr1
        rw [q0] at r0
        have hr := Option.some.inj r0
        rw [← hr]
        exact ⟨.inl rfl, rfl⟩
      · refine ls_cF rfl g12 ?_
        refine ls_skip ?_
        refine hK7 _ (ls_keep [(0, .dat a0.length (a0.flatMap c83_d)), (1, .int .i64 v10), (5, .int .i64 y2)] ⟨kr, kr, kr, trivial⟩ rfl ?_)
        refine ls_rgn tbOk ?_
        refine evs (ev_mv (c := .int .i64 y2) rfl rfl rfl (evs (ev_bin (c1 := .int .i64 y2) (c2 := .int .i64 1) rfl rfl rfl (evs (ev_as (c := .int .i64 (IntKind.i64.wrap (y2 + 1))) rfl rfl rfl (evn ?_))))))
        exact hN _ (v10, (IntKind.i64.wrap (y2 + 1))) h ⟨kr, kr, kr, trivial⟩
    · refine ls_cF rfl g6 ?_
      refine ls_exit ?_
      have q0 := (Option.some.inj h).symm
      have r0 := hr1
      rw [q0] at r0
      exact kXlaws_szFunctionalDependencyS_B1 y1 r0 _ ⟨kr, trivial⟩
def spec_l1In_J1 (x2 : Bool) : Option (Bool) := some x2
def spec_l1In (a0 : Int) (a1 : Int) (a2 : Int) : Option (Bool) := cond (decide (a1 ≤ a0)) (spec_l1In_J1 (decide (a0 ≤ a2))) (spec_l1In_J1 false)
theorem spec_l1In_s {a0 : Int} {a1 : Int} {a2 : Int} {r : Bool} (h : spec_l1In a0 a1 a2 = some r) : SoundAt Try.prog 80 [.int .i64 a0, .int .i64 a1, .int .i64 a2] (.bool r) := by
  unfold spec_l1In at h
  refine sound_lit tbOk lit80 (Nat.le_of_ble_eq_true rfl) rfl ?_
  unfold c80
  refine ls_keep [(0, .int .i64 a0), (1, .int .i64 a1), (2, .int .i64 a2)] ⟨kr, kr, kr, trivial⟩ rfl ?_
  refine ls_rs tbOk ?_
  refine evs (ev_ac rfl nofun rfl (evn ?_))
  refine ls_keep [(0, .int .i64 a0), (1, .int .i64 a1), (2, .int .i64 a2)] ⟨kr, kr, kr, trivial⟩ rfl ?_
  refine ls_rs_k tbOk fun K1 hK1 => ?_
  have kspec_l1In_J1 : ∀ (x2 : Bool), spec_l1In_J1 x2 = some r → ∀ σ' : PS, okK σ' [(6, .bool x2)] → K1 σ' := by
    intro x2 h σ' hk
    unfold spec_l1In_J1 at h
    refine hK1 _ (ls_keep [(6, .bool x2)] hk rfl ?_)
    refine ls_ret ?_
    have hr := Option.some.inj h
    rw [← hr]
    exact ⟨.inl rfl, rfl⟩
  refine evs (ev_mv (c := .int .i64 a0) rfl rfl rfl (evs (ev_mv (c := .int .i64 a1) rfl rfl rfl (evs (ev_bin (c1 := .int .i64 a0) (c2 := .int .i64 a1) rfl rfl rfl (evs (ev_mv (c := .bool (decide (a1 ≤ a0))) rfl rfl rfl (?_))))))))
  rcases cond_some h with ⟨g3, h⟩ | ⟨g3, h⟩
  · refine evs (ev_gr rfl (congrArg V.bool g3) (ev_mv (c := .int .i64 a0) rfl rfl rfl (evs (ev_gr rfl (congrArg V.bool g3) (ev_mv (c := .int .i64 a2) rfl rfl rfl (evs (ev_gr rfl (congrArg V.bool g3) (ev_bin (c1 := .int .i64 a0) (c2 := .int .i64 a2) rfl rfl rfl (evs (ev_pkT (c1 := .bool (decide (a0 ≤ a2))) rfl g3 rfl rfl (evs (ev_as (c := .bool (decide (a0 ≤ a2))) rfl rfl rfl (evn ?_)))))))))))))
    exact kspec_l1In_J1 (decide (a0 ≤ a2)) h _ ⟨kr, trivial⟩
  · refine evs (ev_gs rfl rfl (isb_F g3) (evs (ev_gs rfl rfl (isb_F g3) (evs (ev_gs rfl rfl (isb_F g3) (evs (ev_pkF (c1 := .bool false) rfl g3 rfl rfl (evs (ev_as (c := .bool false) rfl rfl rfl (evn ?_))))))))))
    exact kspec_l1In_J1 false h _ ⟨kr, trivial⟩
def spec_l7Find_B1 (a0 : List Int) (a1 : Int) (rec : Int → Option (Sum (Unit) (Int))) (y1 : Int) : Option (Sum (Unit) (Int)) := cond (decide (y1 < (List.length a0 : Int))) (obind (geti a0 y1) fun e5 => cond (e5 == a1) (some (.inr y1)) (rec (IntKind.i64.wrap (y1 + 1)))) (some (.inl ()))
def spec_l7Find (a0 : List Int) (a1 : Int) : Option (Int) := obind (loopF (spec_l7Find_B1 a0 a1) fz 0) fun o1 => (match o1 with
  | .inl _ => (some (-1))
  | .inr r => some r)
theorem spec_l7Find_s {a0 : List Int} {a1 : Int} {r : Int} (h : spec_l7Find a0 a1 = some r) : SoundAt Try.prog 101 [.dat a0.length (a0.flatMap ci64), .int .i64 a1] (.int .i64 r) := by
  unfold spec_l7Find at h
  refine sound_lit tbOk lit101 (Nat.le_of_ble_eq_true rfl) rfl ?_
  unfold c101
  refine ls_keep [(0, .dat a0.length (a0.flatMap ci64)), (1, .int .i64 a1)] ⟨kr, kr, trivial⟩ rfl ?_
  refine ls_rs tbOk ?_
  refine evs (ev_ac rfl nofun rfl (evn ?_))
  refine ls_keep [(0, .dat a0.length (a0.flatMap ci64)), (1, .int .i64 a1)] ⟨kr, kr, trivial⟩ rfl ?_
  refine ls_seq_k fun K1 hK1 => ?_
  refine ls_rs tbOk ?_
  refine evs (ev_ac rfl nofun rfl (evn ?_))
  refine ls_keep [(0, .dat a0.length (a0.flatMap ci64)), (1, .int .i64 a1), (5, .int .i64 0)] ⟨kr, kr, kr, trivial⟩ rfl ?_
  obtain ⟨o1, hl, hr1⟩ := ob_some h
  clear h
  have kXspec_l7Find_B1 : ∀ (_ : Unit), (some (-1)) = some r → ∀ σ' : PS, okK σ' [] → K1 σ' := by
    intro _ h σ' hk
    refine hK1 _ (ls_keep [] hk rfl ?_)
    refine ls_rs tbOk ?_
    refine evs (ev_ac rfl nofun rfl (evn ?_))
    refine ls_keep [(4, .int .i64 (-1))] ⟨kr, trivial⟩ rfl ?_
    refine ls_ret ?_
    have hr := Option.some.inj h
    rw [← hr]
    exact ⟨.inl rfl, rfl⟩
  refine ls_rec (fun (y1 : Int) => [(0, .dat a0.length (a0.flatMap ci64)), (1, .int .i64 a1), (5, .int .i64 y1)]) (spec_l7Find_B1 a0 a1) fz 0 o1 hl ⟨kr, kr, kr, trivial⟩ (fun _ => rfl) ?_
  rintro m y1 N h hN
  unfold spec_l7Find_B1 at h
  refine ls_seq_k fun K2 hK2 => ?_
  refine ls_rs tbOk ?_
  refine evs (ev_mv (c := .int .i64 y1) rfl rfl rfl (evs (ev_mv (c := .dat a0.length (a0.flatMap ci64)) rfl rfl rfl (evs (ev_len (c1 := .dat a0.length (a0.flatMap ci64)) rfl rfl rfl (evs (ev_bin (c1 := .int .i64 y1) (c2 := .int .i64 (List.length a0 : Int)) rfl rfl rfl (evn ?_))))))))
  refine ls_keep [(0, .dat a0.length (a0.flatMap ci64)), (1, .int .i64 a1), (5, .int .i64 y1), (9, .bool (decide (y1 < (List.length a0 : Int))))] ⟨kr, kr, kr, kr, trivial⟩ rfl ?_
  rcases cond_some h with ⟨g3, h⟩ | ⟨g3, h⟩
  · refine ls_cT rfl g3 ?_
    refine ls_skip ?_
    refine hK2 _ (ls_keep [(0, .dat a0.length (a0.flatMap ci64)), (1, .int .i64 a1), (5, .int .i64 y1)] ⟨kr, kr, kr, trivial⟩ rfl ?_)
    refine ls_seq_k fun K4 hK4 => ?_
    refine ls_blk ?_
    refine ls_rs tbOk ?_
    refine evs (ev_mv (c := .dat a0.length (a0.flatMap ci64)) rfl rfl rfl (evs (ev_mv (c := .int .i64 y1) rfl rfl rfl (?_))))
    obtain ⟨e5, g6, h⟩ := ob_some h
    refine evs (ev_ia rfl rfl rfl ⟨(geti_some g6).1, (geti_some g6).2.1⟩ (evs (ev_ldE (off := 0) (v := .int .i64 e5) rfl rfl zci64 g6 rfl (Nat.le_of_ble_eq_true rfl) rfl (evs (ev_mv (c := .int .i64 a1) rfl rfl rfl (evs (ev_bin (c1 := .int .i64 e5) (c2 := .int .i64 a1) rfl rfl rfl (evn ?_))))))))
    refine ls_keep [(0, .dat a0.length (a0.flatMap ci64)), (1, .int .i64 a1), (5, .int .i64 y1), (17, .bool (e5 == a1))] ⟨kr, kr, kr, kr, trivial⟩ rfl ?_
    rcases cond_some h with ⟨g7, h⟩ | ⟨g7, h⟩
    · refine ls_cT rfl g7 ?_
      refine ls_rs tbOk ?_
      refine evs (ev_mv (c := .int .i64 y1) rfl rfl rfl (evs (ev_as (c := .int .i64 y1) rfl rfl rfl (evn ?_))))
      refine ls_keep [(4, .int .i64 y1)] ⟨kr, trivial⟩ rfl ?_
      refine ls_ret ?_
      have q0 := (Option.some.inj h).symm
      have r0 := hr1
      rw [q0] at r0
      have hr := Option.some.inj r0
      rw [← hr]
      exact ⟨.inl rfl, rfl⟩
    · refine ls_cF rfl g7 ?_
      refine ls_skip ?_
      refine hK4 _ (ls_keep [(0, .dat a0.length (a0.flatMap ci64)), (1, .int .i64 a1), (5, .int .i64 y1)] ⟨kr, kr, kr, trivial⟩ rfl ?_)
      refine ls_rgn tbOk ?_
      refine evs (ev_mv (c := .int .i64 y1) rfl rfl rfl (evs (ev_bin (c1 := .int .i64 y1) (c2 := .int .i64 1) rfl rfl rfl (evs (ev_as (c := .int .i64 (IntKind.i64.wrap (y1 + 1))) rfl rfl rfl (evn ?_))))))
      exact hN _ (IntKind.i64.wrap (y1 + 1)) h ⟨kr, kr, kr, trivial⟩
  · refine ls_cF rfl g3 ?_
    refine ls_exit ?_
    have q0 := (Option.some.inj h).symm
    have r0 := hr1
    rw [q0] at r0
    exact kXspec_l7Find_B1 () r0 _ trivial
def spec_IsValidName_B1 (a0 : List UInt8) (rec : Int → Option (Sum (Unit) (Bool))) (y1 : Int) : Option (Sum (Unit) (Bool)) := cond (decide (y1 < (List.length a0 : Int))) (obind (geti a0 y1) fun b5 => cond (decide ((UInt8.toNat b5 : Int) < 97)) (some (.inr false)) (obind (geti a0 y1) fun b8 => cond (decide (122 < (UInt8.toNat b8 : Int))) (some (.inr false)) (rec (IntKind.i64.wrap (y1 + 1))))) (some (.inl ()))
def spec_IsValidName (a0 : List UInt8) : Option (Bool) := obind (loopF (spec_IsValidName_B1 a0) fz 0) fun o1 => (match o1 with
  | .inl _ => (obind (spec_l1In (List.length a0 : Int) 1 4) fun v11 => some v11)
  | .inr r => some r)
theorem spec_IsValidName_s {a0 : List UInt8} {r : Bool} (h : spec_IsValidName a0 = some r) : SoundAt Try.prog 158 [.str a0] (.bool r) := by
  unfold spec_IsValidName at h
  refine sound_lit tbOk lit158 (Nat.le_of_ble_eq_true rfl) rfl ?_
  unfold c158
  refine ls_keep [(0, .str a0)] ⟨kr, trivial⟩ rfl ?_
  refine ls_rs tbOk ?_
  refine evs (ev_ac rfl nofun rfl (evn ?_))
  refine ls_keep [(0, .str a0)] ⟨kr, trivial⟩ rfl ?_
  refine ls_seq_k fun K1 hK1 => ?_
  refine ls_rs tbOk ?_
  refine evs (ev_ac rfl nofun rfl (evn ?_))
  refine ls_keep [(0, .str a0), (3, .int .i64 0)] ⟨kr, kr, trivial⟩ rfl ?_
  obtain ⟨o1, hl, hr1⟩ := ob_some h
  clear h
  have kXspec_IsValidName_B1 : ∀ (_ : Unit), (obind (spec_l1In (List.length a0 : Int) 1 4) fun v11 => some v11) = some r → ∀ σ' : PS, okK σ' [(0, .str a0)] → K1 σ' := by
    intro _ h σ' hk
    refine hK1 _ (ls_keep [(0, .str a0)] hk rfl ?_)
    refine ls_rs tbOk ?_
    refine evs (ev_mv (c := .str a0) rfl rfl rfl (evs (ev_lens (z := []) rfl rfl (?_))))
    obtain ⟨v11, g12, h⟩ := ob_some h
    refine evs (ev_call (era rfl rfl (era rfl rfl (era rfl rfl eran))) (spec_l1In_s g12) (evs (ev_as (c := .bool v11) rfl rfl rfl (evn ?_))))
    refine ls_keep [(2, .bool v11)] ⟨kr, trivial⟩ rfl ?_
    refine ls_ret ?_
    have hr := Option.some.inj h
    rw [← hr]
    exact ⟨.inl rfl, rfl⟩
  refine ls_rec (fun (y1 : Int) => [(0, .str a0), (3, .int .i64 y1)]) (spec_IsValidName_B1 a0) fz 0 o1 hl ⟨kr, kr, trivial⟩ (fun _ => rfl) ?_
  rintro m y1 N h hN
  unfold spec_IsValidName_B1 at h
  refine ls_seq_k fun K2 hK2 => ?_
  refine ls_rs tbOk ?_
  refine evs (ev_mv (c := .int .i64 y1) rfl rfl rfl (evs (ev_mv (c := .str a0) rfl rfl rfl (evs (ev_lens (z := []) rfl rfl (evs (ev_bin (c1 := .int .i64 y1) (c2 := .int .i64 (List.length a0 : Int)) rfl rfl rfl (evn ?_))))))))
  refine ls_keep [(0, .str a0), (3, .int .i64 y1), (7, .bool (decide (y1 < (List.length a0 : Int))))] ⟨kr, kr, kr, trivial⟩ rfl ?_
  rcases cond_some h with ⟨g3, h⟩ | ⟨g3, h⟩
  · refine ls_cT rfl g3 ?_
    refine ls_skip ?_
    refine hK2 _ (ls_keep [(0, .str a0), (3, .int .i64 y1)] ⟨kr, kr, trivial⟩ rfl ?_)
    refine ls_seq_k fun K4 hK4 => ?_
    refine ls_blk ?_
    refine ls_rs tbOk ?_
    refine evs (ev_mv (c := .str a0) rfl rfl rfl (evs (ev_mv (c := .int .i64 y1) rfl rfl rfl (?_))))
    obtain ⟨b5, g6, h⟩ := ob_some h
    refine evs (ev_six rfl rfl rfl g6 (evs (ev_bin (c1 := .int .u8 (UInt8.toNat b5 : Int)) (c2 := .int .u8 97) rfl rfl rfl (evs (ev_mv (c := .bool (decide ((UInt8.toNat b5 : Int) < 97))) rfl rfl rfl (?_))))))
    rcases cond_some h with ⟨g7, h⟩ | ⟨g7, h⟩
    · refine evs (ev_gs rfl rfl (isb_T g7) (evs (ev_gs rfl rfl (isb_T g7) (evs (ev_gs rfl rfl (isb_T g7) (evs (ev_gs rfl rfl (isb_T g7) (evs (ev_pkT (c1 := .bool true) rfl g7 rfl rfl (evn ?_))))))))))
      refine ls_keep [(0, .str a0), (3, .int .i64 y1), (19, .bool true)] ⟨kr, kr, kr, trivial⟩ rfl ?_
      refine ls_cT rfl rfl ?_
      refine ls_rs tbOk ?_
      refine evs (ev_ac rfl nofun rfl (evn ?_))
      refine ls_keep [(2, .bool false)] ⟨kr, trivial⟩ rfl ?_
      refine ls_ret ?_
      have q0 := (Option.some.inj h).symm
      have r0 := hr1
      rw [q0] at r0
      have hr := Option.some.inj r0
      rw [← hr]
      exact ⟨.inl rfl, rfl⟩
    · refine evs (ev_gr rfl (congrArg V.bool g7) (ev_mv (c := .str a0) rfl rfl rfl (evs (ev_gr rfl (congrArg V.bool g7) (ev_mv (c := .int .i64 y1) rfl rfl rfl (?_))))))
      obtain ⟨b8, g9, h⟩ := ob_some h
      refine evs (ev_gr rfl (congrArg V.bool g7) (ev_six rfl rfl rfl g9 (evs (ev_gr rfl (congrArg V.bool g7) (ev_bin (c1 := .int .u8 (UInt8.toNat b8 : Int)) (c2 := .int .u8 122) rfl rfl rfl (evs (ev_pkF (c1 := .bool (decide (122 < (UInt8.toNat b8 : Int)))) rfl g7 rfl rfl (evn ?_))))))))
      refine ls_keep [(0, .str a0), (3, .int .i64 y1), (19, .bool (decide (122 < (UInt8.toNat b8 : Int))))] ⟨kr, kr, kr, trivial⟩ rfl ?_
      rcases cond_some h with ⟨g10, h⟩ | ⟨g10, h⟩
      · refine ls_cT rfl g10 ?_
        refine ls_rs tbOk ?_
        refine evs (ev_ac rfl nofun rfl (evn ?_))
        refine ls_keep [(2, .bool false)] ⟨kr, trivial⟩ rfl ?_
        refine ls_ret ?_
        have q0 := (Option.some.inj h).symm
        have r0 := hr1
        rw [q0] at r0
        have hr := Option.some.inj r0
        rw [← hr]
        exact ⟨.inl rfl, rfl⟩
      · refine ls_cF rfl g10 ?_
        refine ls_skip ?_
        refine hK4 _ (ls_keep [(0, .str a0), (3, .int .i64 y1)] ⟨kr, kr, trivial⟩ rfl ?_)
        refine ls_rgn tbOk ?_
        refine evs (ev_mv (c := .int .i64 y1) rfl rfl rfl (evs (ev_bin (c1 := .int .i64 y1) (c2 := .int .i64 1) rfl rfl rfl (evs (ev_as (c := .int .i64 (IntKind.i64.wrap (y1 + 1))) rfl rfl rfl (evn ?_))))))
        exact hN _ (IntKind.i64.wrap (y1 + 1)) h ⟨kr, kr, trivial⟩
  · refine ls_cF rfl g3 ?_
    refine ls_exit ?_
    have q0 := (Option.some.inj h).symm
    have r0 := hr1
    rw [q0] at r0
    exact kXspec_IsValidName_B1 () r0 _ ⟨kr, trivial⟩
def spec_ContainsVariable_B1 (a0 : (List UInt8) × (List Int)) (a1 : Int) (rec : Int → Option (Sum (Unit) (Bool))) (y1 : Int) : Option (Sum (Unit) (Bool)) := cond (decide (y1 < (List.length a0.2 : Int))) (obind (geti a0.2 y1) fun e5 => cond (e5 == a1) (some (.inr true)) (rec (IntKind.i64.wrap (y1 + 1)))) (some (.inl ()))
def spec_ContainsVariable (a0 : (List UInt8) × (List Int)) (a1 : Int) : Option (Bool) := obind (loopF (spec_ContainsVariable_B1 a0 a1) fz 0) fun o1 => (match o1 with
  | .inl _ => (some false)
  | .inr r => some r)
theorem spec_ContainsVariable_s {a0 : (List UInt8) × (List Int)} {a1 : Int} {r : Bool} (h : spec_ContainsVariable a0 a1 = some r) : SoundAt Try.prog 160 [.agg [.str a0.1, .dat a0.2.length (a0.2.flatMap ci64)], .int .i64 a1] (.bool r) := by
  unfold spec_ContainsVariable at h
  refine sound_lit tbOk lit160 (Nat.le_of_ble_eq_true rfl) rfl ?_
  unfold c160
  refine ls_keep [(0, .agg [.str a0.1, .dat a0.2.length (a0.2.flatMap ci64)]), (1, .int .i64 a1)] ⟨kr, kr, trivial⟩ rfl ?_
  refine ls_rs tbOk ?_
  refine evs (ev_bx (c1 := .agg [.str a0.1, .dat a0.2.length (a0.2.flatMap ci64)]) rfl rfl rfl (evs (ev_ac rfl nofun rfl (evn ?_))))
  refine ls_keep [(1, .int .i64 a1), (2, .box [.str a0.1, .dat a0.2.length (a0.2.flatMap ci64)])] ⟨kr, kr, trivial⟩ rfl ?_
  refine ls_seq_k fun K1 hK1 => ?_
  refine ls_rs tbOk ?_
  refine evs (ev_ac rfl nofun rfl (evn ?_))
  refine ls_keep [(1, .int .i64 a1), (2, .box [.str a0.1, .dat a0.2.length (a0.2.flatMap ci64)]), (5, .int .i64 0)] ⟨kr, kr, kr, trivial⟩ rfl ?_
  obtain ⟨o1, hl, hr1⟩ := ob_some h
  clear h
  have kXspec_ContainsVariable_B1 : ∀ (_ : Unit), (some false) = some r → ∀ σ' : PS, okK σ' [] → K1 σ' := by
    intro _ h σ' hk
    refine hK1 _ (ls_keep [] hk rfl ?_)
    refine ls_rs tbOk ?_
    refine evs (ev_ac rfl nofun rfl (evn ?_))
    refine ls_keep [(4, .bool false)] ⟨kr, trivial⟩ rfl ?_
    refine ls_ret ?_
    have hr := Option.some.inj h
    rw [← hr]
    exact ⟨.inl rfl, rfl⟩
  refine ls_rec (fun (y1 : Int) => [(1, .int .i64 a1), (2, .box [.str a0.1, .dat a0.2.length (a0.2.flatMap ci64)]), (5, .int .i64 y1)]) (spec_ContainsVariable_B1 a0 a1) fz 0 o1 hl ⟨kr, kr, kr, trivial⟩ (fun _ => rfl) ?_
  rintro m y1 N h hN
  unfold spec_ContainsVariable_B1 at h
  refine ls_seq_k fun K2 hK2 => ?_
  refine ls_rs tbOk ?_
  refine evs (ev_mv (c := .int .i64 y1) rfl rfl rfl (evs (ev_fa (c1 := .cref 2 0) (v := .cref 2 1) rfl rfl rfl ⟨_, rfl⟩ rfl (evs (ev_ldB (off := 1) (v := .dat a0.2.length (a0.2.flatMap ci64)) rfl rfl rfl rfl (Nat.le_of_ble_eq_true rfl) rfl (evs (ev_len (c1 := .dat a0.2.length (a0.2.flatMap ci64)) rfl rfl rfl (evs (ev_bin (c1 := .int .i64 y1) (c2 := .int .i64 (List.length a0.2 : Int)) rfl rfl rfl (evn ?_))))))))))
  refine ls_keep [(1, .int .i64 a1), (2, .box [.str a0.1, .dat a0.2.length (a0.2.flatMap ci64)]), (5, .int .i64 y1), (10, .bool (decide (y1 < (List.length a0.2 : Int))))] ⟨kr, kr, kr, kr, trivial⟩ rfl ?_
  rcases cond_some h with ⟨g3, h⟩ | ⟨g3, h⟩
  · refine ls_cT rfl g3 ?_
    refine ls_skip ?_
    refine hK2 _ (ls_keep [(1, .int .i64 a1), (2, .box [.str a0.1, .dat a0.2.length (a0.2.flatMap ci64)]), (5, .int .i64 y1)] ⟨kr, kr, kr, trivial⟩ rfl ?_)
    refine ls_seq_k fun K4 hK4 => ?_
    refine ls_blk ?_
    refine ls_rs tbOk ?_
    refine evs (ev_fa (c1 := .cref 2 0) (v := .cref 2 1) rfl rfl rfl ⟨_, rfl⟩ rfl (evs (ev_ldB (off := 1) (v := .dat a0.2.length (a0.2.flatMap ci64)) rfl rfl rfl rfl (Nat.le_of_ble_eq_true rfl) rfl (evs (ev_mv (c := .int .i64 y1) rfl rfl rfl (?_))))))
    obtain ⟨e5, g6, h⟩ := ob_some h
    refine evs (ev_ia rfl rfl rfl ⟨(geti_some g6).1, (geti_some g6).2.1⟩ (evs (ev_ldE (off := 0) (v := .int .i64 e5) rfl rfl zci64 g6 rfl (Nat.le_of_ble_eq_true rfl) rfl (evs (ev_mv (c := .int .i64 a1) rfl rfl rfl (evs (ev_bin (c1 := .int .i64 e5) (c2 := .int .i64 a1) rfl rfl rfl (evn ?_))))))))
    refine ls_keep [(1, .int .i64 a1), (2, .box [.str a0.1, .dat a0.2.length (a0.2.flatMap ci64)]), (5, .int .i64 y1), (19, .bool (e5 == a1))] ⟨kr, kr, kr, kr, trivial⟩ rfl ?_
    rcases cond_some h with ⟨g7, h⟩ | ⟨g7, h⟩
    · refine ls_cT rfl g7 ?_
      refine ls_rs tbOk ?_
      refine evs (ev_ac rfl nofun rfl (evn ?_))
      refine ls_keep [(4, .bool true)] ⟨kr, trivial⟩ rfl ?_
      refine ls_ret ?_
      have q0 := (Option.some.inj h).symm
      have r0 := hr1
      rw [q0] at r0
      have hr := Option.some.inj r0
      rw [← hr]
      exact ⟨.inl rfl, rfl⟩
    · refine ls_cF rfl g7 ?_
      refine ls_skip ?_
      refine hK4 _ (ls_keep [(1, .int .i64 a1), (2, .box [.str a0.1, .dat a0.2.length (a0.2.flatMap ci64)]), (5, .int .i64 y1)] ⟨kr, kr, kr, trivial⟩ rfl ?_)
      refine ls_rgn tbOk ?_
      refine evs (ev_mv (c := .int .i64 y1) rfl rfl rfl (evs (ev_bin (c1 := .int .i64 y1) (c2 := .int .i64 1) rfl rfl rfl (evs (ev_as (c := .int .i64 (IntKind.i64.wrap (y1 + 1))) rfl rfl rfl (evn ?_))))))
      exact hN _ (IntKind.i64.wrap (y1 + 1)) h ⟨kr, kr, kr, trivial⟩
  · refine ls_cF rfl g3 ?_
    refine ls_exit ?_
    have q0 := (Option.some.inj h).symm
    have r0 := hr1
    rw [q0] at r0
    exact kXspec_ContainsVariable_B1 () r0 _ trivial
def spec_IsValidQuery_B2 (a0 : Int × (List ((List UInt8) × (List Int))) × (List Int)) (y2 : Int) (rec : Int → Option (Sum (Unit) (Bool))) (y4 : Int) : Option (Sum (Unit) (Bool)) := obind (geti a0.2.1 y2) fun e25 => cond (decide (y4 < (List.length e25.2 : Int))) (obind (geti a0.2.1 y2) fun e29 => obind (geti e29.2 y4) fun e31 => obind (spec_l1In e31 0 (IntKind.i64.wrap (a0.1 - 1))) fun v33 => cond (!v33) (some (.inr false)) (rec (IntKind.i64.wrap (y4 + 1)))) (some (.inl ()))
def spec_IsValidQuery_B1 (a0 : Int × (List ((List UInt8) × (List Int))) × (List Int)) (rec : Int → Option (Sum (Unit) (Bool))) (y2 : Int) : Option (Sum (Unit) (Bool)) := cond (decide (y2 < (List.length a0.2.1 : Int))) (obind (geti a0.2.1 y2) fun e14 => obind (spec_IsValidName e14.1) fun v16 => cond (!v16) (some (.inr false)) (obind (geti a0.2.1 y2) fun e19 => obind (spec_l1In (List.length e19.2 : Int) 1 5) fun v21 => cond (!v21) (some (.inr false)) (obind (loopF (spec_IsValidQuery_B2 a0 y2) fz 0) fun o2 => (match o2 with
  | .inl _ => (rec (IntKind.i64.wrap (y2 + 1)))
  | .inr r => some (.inr r))))) (some (.inl ()))
def spec_IsValidQuery_J5 (rec : (Bool × Int) → Option (Bool)) (y11 : Int) (x45 : Bool) : Option (Bool) := rec (x45, (IntKind.i64.wrap (y11 + 1)))
def spec_IsValidQuery_B4 (a0 : Int × (List ((List UInt8) × (List Int))) × (List Int)) (y7 : Int) (rec : (Bool × Int) → Option (Bool)) (s : Bool × Int) : Option (Bool) := match s with
  | (y10, y11) => cond (decide (y11 < (List.length a0.2.1 : Int))) (cond y10 (spec_IsValidQuery_J5 rec y11 true) (obind (geti a0.2.1 y11) fun e47 => obind (spec_ContainsVariable e47 y7) fun v49 => spec_IsValidQuery_J5 rec y11 v49)) (some y10)
def spec_IsValidQuery_B3 (a0 : Int × (List ((List UInt8) × (List Int))) × (List Int)) (rec : Int → Option (Sum (Unit) (Bool))) (y7 : Int) : Option (Sum (Unit) (Bool)) := cond (decide (y7 < a0.1)) (obind (loopF (spec_IsValidQuery_B4 a0 y7) fz (false, 0)) fun z41 => cond (!z41) (some (.inr false)) (rec (IntKind.i64.wrap (y7 + 1)))) (some (.inl ()))
def spec_IsValidQuery_B6 (a0 : Int × (List ((List UInt8) × (List Int))) × (List Int)) (rec : Int → Option (Sum (Unit) (Bool))) (y12 : Int) : Option (Sum (Unit) (Bool)) := cond (decide (y12 < (List.length a0.2.2 : Int))) (obind (geti a0.2.2 y12) fun e56 => obind (spec_l1In e56 0 (IntKind.i64.wrap (a0.1 - 1))) fun v58 => cond (!v58) (some (.inr false)) (chk ((0 : Int) ≤ 0 ∧ 0 ≤ y12 ∧ y12 ≤ (List.length a0.2.2 : Int)) (obind (geti a0.2.2 y12) fun e62 => obind (spec_l7Find (subl a0.2.2 0 y12) e62) fun v64 => cond (decide (0 ≤ v64)) (some (.inr false)) (rec (IntKind.i64.wrap (y12 + 1)))))) (some (.inl ()))
def spec_IsValidQuery (a0 : Int × (List ((List UInt8) × (List Int))) × (List Int)) : Option (Bool) := obind (spec_l1In a0.1 1 5) fun v2 => cond (!v2) (some false) (obind (spec_l1In (List.length a0.2.1 : Int) 1 4) fun v5 => cond (!v5) (some false) (cond (decide (a0.1 < (List.length a0.2.2 : Int))) (some false) (obind (loopF (spec_IsValidQuery_B1 a0) fz 0) fun o1 => (match o1 with
  | .inl _ => (obind (loopF (spec_IsValidQuery_B3 a0) fz 0) fun o3 => (match o3 with
  | .inl _ => (obind (loopF (spec_IsValidQuery_B6 a0) fz 0) fun o6 => (match o6 with
  | .inl _ => (some true)
  | .inr r => some r))
  | .inr r => some r))
  | .inr r => some r))))
theorem spec_IsValidQuery_s {a0 : Int × (List ((List UInt8) × (List Int))) × (List Int)} {r : Bool} (h : spec_IsValidQuery a0 = some r) : SoundAt Try.prog 124 [.agg [.int .i64 a0.1, .dat a0.2.1.length (a0.2.1.flatMap c150_d), .dat a0.2.2.length (a0.2.2.flatMap ci64)]] (.bool r) := by
  unfold spec_IsValidQuery at h
  refine sound_lit tbOk lit124 (Nat.le_of_ble_eq_true rfl) rfl ?_
  unfold c124
  refine ls_keep [(0, .agg [.int .i64 a0.1, .dat a0.2.1.length (a0.2.1.flatMap c150_d), .dat a0.2.2.length (a0.2.2.flatMap ci64)])] ⟨kr, trivial⟩ rfl ?_
  refine ls_rs tbOk ?_
  refine evs (ev_bx (c1 := .agg [.int .i64 a0.1, .dat a0.2.1.length (a0.2.1.flatMap c150_d), .dat a0.2.2.length (a0.2.2.flatMap ci64)]) rfl rfl rfl (evs (ev_ac rfl nofun rfl (evn ?_))))
  refine ls_keep [(1, .box [.int .i64 a0.1, .dat a0.2.1.length (a0.2.1.flatMap c150_d), .dat a0.2.2.length (a0.2.2.flatMap ci64)])] ⟨kr, trivial⟩ rfl ?_
  refine ls_seq_k fun K1 hK1 => ?_
  refine ls_rs tbOk ?_
  refine evs (ev_fa (c1 := .cref 1 0) (v := .cref 1 0) rfl rfl rfl ⟨_, rfl⟩ rfl (evs (ev_ldB (off := 0) (v := .int .i64 a0.1) rfl rfl rfl rfl (Nat.le_of_ble_eq_true rfl) rfl (?_))))
  obtain ⟨v2, g3, h⟩ := ob_some h
  refine evs (ev_call (era rfl rfl (era rfl rfl (era rfl rfl eran))) (spec_l1In_s g3) (evs (ev_un (c1 := .bool v2) rfl trivial (evs (ev_mv (c := .bool (!v2)) rfl rfl rfl (?_))))))
  rcases cond_some h with ⟨g4, h⟩ | ⟨g4, h⟩
  · refine evs (ev_gs rfl rfl (isb_T g4) (evs (ev_gs rfl rfl (isb_T g4) (evs (ev_gs rfl rfl (isb_T g4) (evs (ev_gs rfl rfl (isb_T g4) (evs (ev_gs rfl rfl (isb_T g4) (evs (ev_pkT (c1 := .bool true) rfl g4 rfl rfl (evs (ev_mv (c := .bool true) rfl rfl rfl (evs (ev_gs rfl rfl rfl (evs (ev_gs rfl rfl rfl (evs (ev_gs rfl rfl rfl (evs (ev_gs rfl rfl rfl (evs (ev_gs rfl rfl rfl (evs (ev_gs rfl rfl rfl (evs (ev_pkT (c1 := .bool true) rfl rfl rfl rfl (evn ?_))))))))))))))))))))))))))))
    refine ls_keep [(1, .box [.int .i64 a0.1, .dat a0.2.1.length (a0.2.1.flatMap c150_d), .dat a0.2.2.length (a0.2.2.flatMap ci64)]), (27, .bool true)] ⟨kr, kr, trivial⟩ rfl ?_
    refine ls_cT rfl rfl ?_
    refine ls_rs tbOk ?_
    refine evs (ev_ac rfl nofun rfl (evn ?_))
    refine ls_keep [(2, .bool false)] ⟨kr, trivial⟩ rfl ?_
    refine ls_ret ?_
    have hr := Option.some.inj h
    rw [← hr]
    exact ⟨.inl rfl, rfl⟩
  · refine evs (ev_gr rfl (congrArg V.bool g4) (ev_fa (c1 := .cref 1 0) (v := .cref 1 1) rfl rfl rfl ⟨_, rfl⟩ rfl (evs (ev_gr rfl (congrArg V.bool g4) (ev_ldB (off := 1) (v := .dat a0.2.1.length (a0.2.1.flatMap c150_d)) rfl rfl rfl rfl (Nat.le_of_ble_eq_true rfl) rfl (evs (ev_gr rfl (congrArg V.bool g4) (ev_len (c1 := .dat a0.2.1.length (a0.2.1.flatMap c150_d)) rfl rfl rfl (?_)))))))))
    obtain ⟨v5, g6, h⟩ := ob_some h
    refine evs (ev_gr rfl (congrArg V.bool g4) (ev_call (era rfl rfl (era rfl rfl (era rfl rfl eran))) (spec_l1In_s g6) (evs (ev_gr rfl (congrArg V.bool g4) (ev_un (c1 := .bool v5) rfl trivial (evs (ev_pkF (c1 := .bool (!v5)) rfl g4 rfl rfl (evs (ev_mv (c := .bool (!v5)) rfl rfl rfl (?_))))))))))
    rcases cond_some h with ⟨g7, h⟩ | ⟨g7, h⟩
    · refine evs (ev_gs rfl rfl (isb_T g7) (evs (ev_gs rfl rfl (isb_T g7) (evs (ev_gs rfl rfl (isb_T g7) (evs (ev_gs rfl rfl (isb_T g7) (evs (ev_gs rfl rfl (isb_T g7) (evs (ev_gs rfl rfl (isb_T g7) (evs (ev_pkT (c1 := .bool true) rfl g7 rfl rfl (evn ?_))))))))))))))
      refine ls_keep [(1, .box [.int .i64 a0.1, .dat a0.2.1.length (a0.2.1.flatMap c150_d), .dat a0.2.2.length (a0.2.2.flatMap ci64)]), (27, .bool true)] ⟨kr, kr, trivial⟩ rfl ?_
      refine ls_cT rfl rfl ?_
      refine ls_rs tbOk ?_
      refine evs (ev_ac rfl nofun rfl (evn ?_))
      refine ls_keep [(2, .bool false)] ⟨kr, trivial⟩ rfl ?_
      refine ls_ret ?_
      have hr := Option.some.inj h
      rw [← hr]
      exact ⟨.inl rfl, rfl⟩
    · refine evs (ev_gr rfl (congrArg V.bool g7) (ev_fa (c1 := .cref 1 0) (v := .cref 1 2) rfl rfl rfl ⟨_, rfl⟩ rfl (evs (ev_gr rfl (congrArg V.bool g7) (ev_ldB (off := 2) (v := .dat a0.2.2.length (a0.2.2.flatMap ci64)) rfl rfl rfl rfl (Nat.le_of_ble_eq_true rfl) rfl (evs (ev_gr rfl (congrArg V.bool g7) (ev_len (c1 := .dat a0.2.2.length (a0.2.2.flatMap ci64)) rfl rfl rfl (evs (ev_gr rfl (congrArg V.bool g7) (ev_fa (c1 := .cref 1 0) (v := .cref 1 0) rfl rfl rfl ⟨_, rfl⟩ rfl (evs (ev_gr rfl (congrArg V.bool g7) (ev_ldB (off := 0) (v := .int .i64 a0.1) rfl rfl rfl rfl (Nat.le_of_ble_eq_true rfl) rfl (evs (ev_gr rfl (congrArg V.bool g7) (ev_bin (c1 := .int .i64 (List.length a0.2.2 : Int)) (c2 := .int .i64 a0.1) rfl rfl rfl (evs (ev_pkF (c1 := .bool (decide (a0.1 < (List.length a0.2.2 : Int)))) rfl g7 rfl rfl (evn ?_))))))))))))))))))))
      refine ls_keep [(1, .box [.int .i64 a0.1, .dat a0.2.1.length (a0.2.1.flatMap c150_d), .dat a0.2.2.length (a0.2.2.flatMap ci64)]), (27, .bool (decide (a0.1 < (List.length a0.2.2 : Int))))] ⟨kr, kr, trivial⟩ rfl ?_
      rcases cond_some h with ⟨g8, h⟩ | ⟨g8, h⟩
      · refine ls_cT rfl g8 ?_
        refine ls_rs tbOk ?_
        refine evs (ev_ac rfl nofun rfl (evn ?_))
        refine ls_keep [(2, .bool false)] ⟨kr, trivial⟩ rfl ?_
        refine ls_ret ?_
        have hr := Option.some.inj h
        rw [← hr]
        exact ⟨.inl rfl, rfl⟩
      · refine ls_cF rfl g8 ?_
        refine ls_skip ?_
        refine hK1 _ (ls_keep [(1, .box [.int .i64 a0.1, .dat a0.2.1.length (a0.2.1.flatMap c150_d), .dat a0.2.2.length (a0.2.2.flatMap ci64)])] ⟨kr, trivial⟩ rfl ?_)
        refine ls_seq_k fun K9 hK9 => ?_
        refine ls_rs tbOk ?_
        refine evs (ev_ac rfl nofun rfl (evn ?_))
        refine ls_keep [(1, .box [.int .i64 a0.1, .dat a0.2.1.length (a0.2.1.flatMap c150_d), .dat a0.2.2.length (a0.2.2.flatMap ci64)]), (3, .int .i64 0)] ⟨kr, kr, trivial⟩ rfl ?_
        obtain ⟨o1, hl, hr1⟩ := ob_some h
        clear h
        have kXspec_IsValidQuery_B1 : ∀ (_ : Unit), (obind (loopF (spec_IsValidQuery_B3 a0) fz 0) fun o3 => (match o3 with
  | .inl _ => (obind (loopF (spec_IsValidQuery_B6 a0) fz 0) fun o6 => (match o6 with
  | .inl _ => (some true)
  | .inr r => some r))
  | .inr r => some r)) = some r → ∀ σ' : PS, okK σ' [(1, .box [.int .i64 a0.1, .dat a0.2.1.length (a0.2.1.flatMap c150_d), .dat a0.2.2.length (a0.2.2.flatMap ci64)])] → K9 σ' := by
          intro _ h σ' hk
          refine hK9 _ (ls_keep [(1, .box [.int .i64 a0.1, .dat a0.2.1.length (a0.2.1.flatMap c150_d), .dat a0.2.2.length (a0.2.2.flatMap ci64)])] hk rfl ?_)
          refine ls_seq_k fun K36 hK36 => ?_
          refine ls_rs tbOk ?_
          refine evs (ev_ac rfl nofun rfl (evn ?_))
          refine ls_keep [(1, .box [.int .i64 a0.1, .dat a0.2.1.length (a0.2.1.flatMap c150_d), .dat a0.2.2.length (a0.2.2.flatMap ci64)]), (5, .int .i64 0)] ⟨kr, kr, trivial⟩ rfl ?_
          obtain ⟨o3, hl, hr3⟩ := ob_some h
          clear h
          have kXspec_IsValidQuery_B3 : ∀ (_ : Unit), (obind (loopF (spec_IsValidQuery_B6 a0) fz 0) fun o6 => (match o6 with
  | .inl _ => (some true)
  | .inr r => some r)) = some r → ∀ σ' : PS, okK σ' [(1, .box [.int .i64 a0.1, .dat a0.2.1.length (a0.2.1.flatMap c150_d), .dat a0.2.2.length (a0.2.2.flatMap ci64)])] → K36 σ' := by
            intro _ h σ' hk
            refine hK36 _ (ls_keep [(1, .box [.int .i64 a0.1, .dat a0.2.1.length (a0.2.1.flatMap c150_d), .dat a0.2.2.length (a0.2.2.flatMap ci64)])] hk rfl ?_)
            refine ls_seq_k fun K52 hK52 => ?_
            refine ls_rs tbOk ?_
            refine evs (ev_ac rfl nofun rfl (evn ?_))
            refine ls_keep [(1, .box [.int .i64 a0.1, .dat a0.2.1.length (a0.2.1.flatMap c150_d), .dat a0.2.2.length (a0.2.2.flatMap ci64)]), (8, .int .i64 0)] ⟨kr, kr, trivial⟩ rfl ?_
            obtain ⟨o6, hl, hr6⟩ := ob_some h
            clear h
            have kXspec_IsValidQuery_B6 : ∀ (_ : Unit), (some true) = some r → ∀ σ' : PS, okK σ' [] → K52 σ' := by
              intro _ h σ' hk
              refine hK52 _ (ls_keep [] hk rfl ?_)
              refine ls_rs tbOk ?_
              refine evs (ev_ac rfl nofun rfl (evn ?_))
              refine ls_keep [(2, .bool true)] ⟨kr, trivial⟩ rfl ?_
              refine ls_ret ?_
              have hr := Option.some.inj h
              rw [← hr]
              exact ⟨.inl rfl, rfl⟩
            refine ls_rec (fun (y12 : Int) => [(1, .box [.int .i64 a0.1, .dat a0.2.1.length (a0.2.1.flatMap c150_d), .dat a0.2.2.length (a0.2.2.flatMap ci64)]), (8, .int .i64 y12)]) (spec_IsValidQuery_B6 a0) fz 0 o6 hl ⟨kr, kr, trivial⟩ (fun _ => rfl) ?_
            rintro m y12 N h hN
            unfold spec_IsValidQuery_B6 at h
            refine ls_seq_k fun K53 hK53 => ?_
            refine ls_rs tbOk ?_
            refine evs (ev_mv (c := .int .i64 y12) rfl rfl rfl (evs (ev_fa (c1 := .cref 1 0) (v := .cref 1 2) rfl rfl rfl ⟨_, rfl⟩ rfl (evs (ev_ldB (off := 2) (v := .dat a0.2.2.length (a0.2.2.flatMap ci64)) rfl rfl rfl rfl (Nat.le_of_ble_eq_true rfl) rfl (evs (ev_len (c1 := .dat a0.2.2.length (a0.2.2.flatMap ci64)) rfl rfl rfl (evs (ev_bin (c1 := .int .i64 y12) (c2 := .int .i64 (List.length a0.2.2 : Int)) rfl rfl rfl (evn ?_))))))))))
            refine ls_keep [(1, .box [.int .i64 a0.1, .dat a0.2.1.length (a0.2.1.flatMap c150_d), .dat a0.2.2.length (a0.2.2.flatMap ci64)]), (8, .int .i64 y12), (108, .bool (decide (y12 < (List.length a0.2.2 : Int))))] ⟨kr, kr, kr, trivial⟩ rfl ?_
            rcases cond_some h with ⟨g54, h⟩ | ⟨g54, h⟩
            · refine ls_cT rfl g54 ?_
              refine ls_skip ?_
              refine hK53 _ (ls_keep [(1, .box [.int .i64 a0.1, .dat a0.2.1.length (a0.2.1.flatMap c150_d), .dat a0.2.2.length (a0.2.2.flatMap ci64)]), (8, .int .i64 y12)] ⟨kr, kr, trivial⟩ rfl ?_)
              refine ls_seq_k fun K55 hK55 => ?_
              refine ls_blk ?_
              refine ls_rd tbOk mixed (by kernel_rfl) ?_
              refine evd rfl rfl (ev_fa (c1 := .cref 1 0) (v := .cref 1 2) rfl rfl rfl ⟨_, rfl⟩ rfl (evd rfl rfl (ev_ldB (off := 2) (v := .dat a0.2.2.length (a0.2.2.flatMap ci64)) rfl rfl rfl rfl (Nat.le_of_ble_eq_true rfl) rfl (evd rfl rfl (ev_mv (c := .int .i64 y12) rfl rfl rfl (?_))))))
              obtain ⟨e56, g57, h⟩ := ob_some h
              refine evd rfl rfl (ev_ia rfl rfl rfl ⟨(geti_some g57).1, (geti_some g57).2.1⟩ (evd rfl rfl (ev_ldE (off := 0) (v := .int .i64 e56) rfl rfl zci64 g57 rfl (Nat.le_of_ble_eq_true rfl) rfl (evd rfl rfl (ev_fa (c1 := .cref 1 0) (v := .cref 1 0) rfl rfl rfl ⟨_, rfl⟩ rfl (evd rfl rfl (ev_ldB (off := 0) (v := .int .i64 a0.1) rfl rfl rfl rfl (Nat.le_of_ble_eq_true rfl) rfl (evd rfl rfl (ev_bin (c1 := .int .i64 a0.1) (c2 := .int .i64 1) rfl rfl rfl (?_))))))))))
              obtain ⟨v58, g59, h⟩ := ob_some h
              refine evd rfl rfl (ev_call (era rfl rfl (era rfl rfl (era rfl rfl eran))) (spec_l1In_s g59) (evd rfl rfl (ev_un (c1 := .bool v58) rfl trivial (evd rfl rfl (ev_mv (c := .bool (!v58)) rfl rfl rfl (?_))))))
              rcases cond_some h with ⟨g60, h⟩ | ⟨g60, h⟩
              · refine evd rfl rfl (ev_gs rfl rfl (isb_T g60) (evd rfl rfl (ev_gs rfl rfl (isb_T g60) (evd rfl rfl (ev_gs rfl rfl (isb_T g60) (evd rfl rfl (ev_gs rfl rfl (isb_T g60) (evd rfl rfl (ev_gs rfl rfl (isb_T g60) (evd rfl rfl (ev_gs rfl rfl (isb_T g60) (evd rfl rfl (ev_gs rfl rfl (isb_T g60) (evd rfl rfl (ev_gs rfl rfl (isb_T g60) (evd rfl rfl (ev_gs rfl rfl (isb_T g60) (evd rfl rfl (ev_gs rfl rfl (isb_T g60) (evd rfl rfl (ev_gs rfl rfl (isb_T g60) (evd rfl rfl (ev_pkT (c1 := .bool true) rfl g60 rfl rfl (evdn ?_))))))))))))))))))))))))
                refine ls_keep [(1, .box [.int .i64 a0.1, .dat a0.2.1.length (a0.2.1.flatMap c150_d), .dat a0.2.2.length (a0.2.2.flatMap ci64)]), (8, .int .i64 y12), (133, .bool true)] ⟨kr, kr, kr, trivial⟩ rfl ?_
                refine ls_cT rfl rfl ?_
                refine ls_rs tbOk ?_
                refine evs (ev_ac rfl nofun rfl (evn ?_))
                refine ls_keep [(2, .bool false)] ⟨kr, trivial⟩ rfl ?_
                refine ls_ret ?_
                have q0 := (Option.some.inj h).symm
                have r0 := hr6
                rw [q0] at r0
                have hr := Option.some.inj r0
                rw [← hr]
                exact ⟨.inl rfl, rfl⟩
              · refine evd rfl rfl (ev_gr rfl (congrArg V.bool g60) (ev_fa (c1 := .cref 1 0) (v := .cref 1 2) rfl rfl rfl ⟨_, rfl⟩ rfl (evd rfl rfl (ev_gr rfl (congrArg V.bool g60) (ev_ldB (off := 2) (v := .dat a0.2.2.length (a0.2.2.flatMap ci64)) rfl rfl rfl rfl (Nat.le_of_ble_eq_true rfl) rfl (evd rfl rfl (ev_gr rfl (congrArg V.bool g60) (ev_mv (c := .int .i64 y12) rfl rfl rfl (?_)))))))))
                obtain ⟨g61, h⟩ := chk_some h
                refine evd rfl rfl (ev_gr rfl (congrArg V.bool g60) (ev_sle (lst := a0.2.2) rfl rfl zci64 rfl rfl g61 (evd rfl rfl (ev_gr rfl (congrArg V.bool g60) (ev_fa (c1 := .cref 1 0) (v := .cref 1 2) rfl rfl rfl ⟨_, rfl⟩ rfl (evd rfl rfl (ev_gr rfl (congrArg V.bool g60) (ev_ldB (off := 2) (v := .dat a0.2.2.length (a0.2.2.flatMap ci64)) rfl rfl rfl rfl (Nat.le_of_ble_eq_true rfl) rfl (evd rfl rfl (ev_gr rfl (congrArg V.bool g60) (ev_mv (c := .int .i64 y12) rfl rfl rfl (?_))))))))))))
                obtain ⟨e62, g63, h⟩ := ob_some h
                refine evd rfl rfl (ev_gr rfl (congrArg V.bool g60) (ev_ia rfl rfl rfl ⟨(geti_some g63).1, (geti_some g63).2.1⟩ (evd rfl rfl (ev_gr rfl (congrArg V.bool g60) (ev_ldE (off := 0) (v := .int .i64 e62) rfl rfl zci64 g63 rfl (Nat.le_of_ble_eq_true rfl) rfl (?_))))))
                obtain ⟨v64, g65, h⟩ := ob_some h
                refine evd rfl rfl (ev_gr rfl (congrArg V.bool g60) (ev_call (era rfl (erD eci64 _) (era rfl rfl eran)) (spec_l7Find_s g65) (evd rfl rfl (ev_gr rfl (congrArg V.bool g60) (ev_bin (c1 := .int .i64 v64) (c2 := .int .i64 0) rfl rfl rfl (evd rfl rfl (ev_pkF (c1 := .bool (decide (0 ≤ v64))) rfl g60 rfl rfl (evdn ?_))))))))
                refine ls_keep [(1, .box [.int .i64 a0.1, .dat a0.2.1.length (a0.2.1.flatMap c150_d), .dat a0.2.2.length (a0.2.2.flatMap ci64)]), (8, .int .i64 y12), (133, .bool (decide (0 ≤ v64)))] ⟨kr, kr, kr, trivial⟩ rfl ?_
                rcases cond_some h with ⟨g66, h⟩ | ⟨g66, h⟩
                · refine ls_cT rfl g66 ?_
                  refine ls_rs tbOk ?_
                  refine evs (ev_ac rfl nofun rfl (evn ?_))
                  refine ls_keep [(2, .bool false)] ⟨kr, trivial⟩ rfl ?_
                  refine ls_ret ?_
                  have q0 := (Option.some.inj h).symm
                  have r0 := hr6
                  rw [q0] at r0
                  have hr := Option.some.inj r0
                  rw [← hr]
                  exact ⟨.inl rfl, rfl⟩
                · refine ls_cF rfl g66 ?_
                  refine ls_skip ?_
                  refine hK55 _ (ls_keep [(1, .box [.int .i64 a0.1, .dat a0.2.1.length (a0.2.1.flatMap c150_d), .dat a0.2.2.length (a0.2.2.flatMap ci64)]), (8, .int .i64 y12)] ⟨kr, kr, trivial⟩ rfl ?_)
                  refine ls_rgn tbOk ?_
                  refine evs (ev_mv (c := .int .i64 y12) rfl rfl rfl (evs (ev_bin (c1 := .int .i64 y12) (c2 := .int .i64 1) rfl rfl rfl (evs (ev_as (c := .int .i64 (IntKind.i64.wrap (y12 + 1))) rfl rfl rfl (evn ?_))))))
                  exact hN _ (IntKind.i64.wrap (y12 + 1)) h ⟨kr, kr, trivial⟩
            · refine ls_cF rfl g54 ?_
              refine ls_exit ?_
              have q0 := (Option.some.inj h).symm
              have r0 := hr6
              rw [q0] at r0
              exact kXspec_IsValidQuery_B6 () r0 _ trivial
          refine ls_rec (fun (y7 : Int) => [(1, .box [.int .i64 a0.1, .dat a0.2.1.length (a0.2.1.flatMap c150_d), .dat a0.2.2.length (a0.2.2.flatMap ci64)]), (5, .int .i64 y7)]) (spec_IsValidQuery_B3 a0) fz 0 o3 hl ⟨kr, kr, trivial⟩ (fun _ => rfl) ?_
          rintro m y7 N h hN
          unfold spec_IsValidQuery_B3 at h
          refine ls_seq_k fun K37 hK37 => ?_
          refine ls_rs tbOk ?_
          refine evs (ev_mv (c := .int .i64 y7) rfl rfl rfl (evs (ev_fa (c1 := .cref 1 0) (v := .cref 1 0) rfl rfl rfl ⟨_, rfl⟩ rfl (evs (ev_ldB (off := 0) (v := .int .i64 a0.1) rfl rfl rfl rfl (Nat.le_of_ble_eq_true rfl) rfl (evs (ev_bin (c1 := .int .i64 y7) (c2 := .int .i64 a0.1) rfl rfl rfl (evn ?_))))))))
          refine ls_keep [(1, .box [.int .i64 a0.1, .dat a0.2.1.length (a0.2.1.flatMap c150_d), .dat a0.2.2.length (a0.2.2.flatMap ci64)]), (5, .int .i64 y7), (82, .bool (decide (y7 < a0.1)))] ⟨kr, kr, kr, trivial⟩ rfl ?_
          rcases cond_some h with ⟨g38, h⟩ | ⟨g38, h⟩
          · refine ls_cT rfl g38 ?_
            refine ls_skip ?_
            refine hK37 _ (ls_keep [(1, .box [.int .i64 a0.1, .dat a0.2.1.length (a0.2.1.flatMap c150_d), .dat a0.2.2.length (a0.2.2.flatMap ci64)]), (5, .int .i64 y7)] ⟨kr, kr, trivial⟩ rfl ?_)
            refine ls_seq_k fun K39 hK39 => ?_
            refine ls_blk ?_
            refine ls_rs tbOk ?_
            refine evs (ev_ac rfl nofun rfl (evn ?_))
            refine ls_keep [(1, .box [.int .i64 a0.1, .dat a0.2.1.length (a0.2.1.flatMap c150_d), .dat a0.2.2.length (a0.2.2.flatMap ci64)]), (5, .int .i64 y7), (6, .bool false)] ⟨kr, kr, kr, trivial⟩ rfl ?_
            refine ls_seq_k fun K40 hK40 => ?_
            refine ls_rs tbOk ?_
            refine evs (ev_ac rfl nofun rfl (evn ?_))
            refine ls_keep [(1, .box [.int .i64 a0.1, .dat a0.2.1.length (a0.2.1.flatMap c150_d), .dat a0.2.2.length (a0.2.2.flatMap ci64)]), (5, .int .i64 y7), (6, .bool false), (7, .int .i64 0)] ⟨kr, kr, kr, kr, trivial⟩ rfl ?_
            obtain ⟨o4, hl, hr4⟩ := ob_some h
            clear h
            have kXspec_IsValidQuery_B4 : ∀ (z41 : Bool), (cond (!z41) (some (.inr false)) ((loopF (spec_IsValidQuery_B3 a0) m) (IntKind.i64.wrap (y7 + 1)))) = some o3 → ∀ σ' : PS, okK σ' [(1, .box [.int .i64 a0.1, .dat a0.2.1.length (a0.2.1.flatMap c150_d), .dat a0.2.2.length (a0.2.2.flatMap ci64)]), (5, .int .i64 y7), (6, .bool z41)] → K40 σ' := by
              intro z41 h σ' hk
              refine hK40 _ (ls_keep [(1, .box [.int .i64 a0.1, .dat a0.2.1.length (a0.2.1.flatMap c150_d), .dat a0.2.2.length (a0.2.2.flatMap ci64)]), (5, .int .i64 y7), (6, .bool z41)] hk rfl ?_)
              refine ls_rs tbOk ?_
              refine evs (ev_mv (c := .bool z41) rfl rfl rfl (evs (ev_un (c1 := .bool z41) rfl trivial (evn ?_))))
              refine ls_keep [(1, .box [.int .i64 a0.1, .dat a0.2.1.length (a0.2.1.flatMap c150_d), .dat a0.2.2.length (a0.2.2.flatMap ci64)]), (5, .int .i64 y7), (103, .bool (!z41))] ⟨kr, kr, kr, trivial⟩ rfl ?_
              rcases cond_some h with ⟨g51, h⟩ | ⟨g51, h⟩
              · refine ls_cT rfl g51 ?_
                refine ls_rs tbOk ?_
                refine evs (ev_ac rfl nofun rfl (evn ?_))
                refine ls_keep [(2, .bool false)] ⟨kr, trivial⟩ rfl ?_
                refine ls_ret ?_
                have q0 := (Option.some.inj h).symm
                have r0 := hr3
                rw [q0] at r0
                have hr := Option.some.inj r0
                rw [← hr]
                exact ⟨.inl rfl, rfl⟩
              · refine ls_cF rfl g51 ?_
                refine ls_skip ?_
                refine hK39 _ (ls_keep [(1, .box [.int .i64 a0.1, .dat a0.2.1.length (a0.2.1.flatMap c150_d), .dat a0.2.2.length (a0.2.2.flatMap ci64)]), (5, .int .i64 y7)] ⟨kr, kr, trivial⟩ rfl ?_)
                refine ls_rgn tbOk ?_
                refine evs (ev_mv (c := .int .i64 y7) rfl rfl rfl (evs (ev_bin (c1 := .int .i64 y7) (c2 := .int .i64 1) rfl rfl rfl (evs (ev_as (c := .int .i64 (IntKind.i64.wrap (y7 + 1))) rfl rfl rfl (evn ?_))))))
                exact hN _ (IntKind.i64.wrap (y7 + 1)) h ⟨kr, kr, trivial⟩
            refine ls_rec (fun (s : Bool × Int) => match s with | (y10, y11) => [(1, .box [.int .i64 a0.1, .dat a0.2.1.length (a0.2.1.flatMap c150_d), .dat a0.2.2.length (a0.2.2.flatMap ci64)]), (5, .int .i64 y7), (6, .bool y10), (7, .int .i64 y11)]) (spec_IsValidQuery_B4 a0 y7) fz (false, 0) o4 hl ⟨kr, kr, kr, kr, trivial⟩ (fun _ => rfl) ?_
            rintro m ⟨y10, y11⟩ N h hN
            unfold spec_IsValidQuery_B4 at h
            dsimp only at h
            refine ls_seq_k fun K42 hK42 => ?_
            refine ls_rs tbOk ?_
            refine evs (ev_mv (c := .int .i64 y11) rfl rfl rfl (evs (ev_fa (c1 := .cref 1 0) (v := .cref 1 1) rfl rfl rfl ⟨_, rfl⟩ rfl (evs (ev_ldB (off := 1) (v := .dat a0.2.1.length (a0.2.1.flatMap c150_d)) rfl rfl rfl rfl (Nat.le_of_ble_eq_true rfl) rfl (evs (ev_len (c1 := .dat a0.2.1.length (a0.2.1.flatMap c150_d)) rfl rfl rfl (evs (ev_bin (c1 := .int .i64 y11) (c2 := .int .i64 (List.length a0.2.1 : Int)) rfl rfl rfl (evn ?_))))))))))
            refine ls_keep [(1, .box [.int .i64 a0.1, .dat a0.2.1.length (a0.2.1.flatMap c150_d), .dat a0.2.2.length (a0.2.2.flatMap ci64)]), (5, .int .i64 y7), (6, .bool y10), (7, .int .i64 y11), (89, .bool (decide (y11 < (List.length a0.2.1 : Int))))] ⟨kr, kr, kr, kr, kr, trivial⟩ rfl ?_
            rcases cond_some h with ⟨g43, h⟩ | ⟨g43, h⟩
            · refine ls_cT rfl g43 ?_
              refine ls_skip ?_
              refine hK42 _ (ls_keep [(1, .box [.int .i64 a0.1, .dat a0.2.1.length (a0.2.1.flatMap c150_d), .dat a0.2.2.length (a0.2.2.flatMap ci64)]), (5, .int .i64 y7), (6, .bool y10), (7, .int .i64 y11)] ⟨kr, kr, kr, kr, trivial⟩ rfl ?_)
              refine ls_seq_k fun K44 hK44 => ?_
              refine ls_blk ?_
              have kspec_IsValidQuery_J5 : ∀ (x45 : Bool), spec_IsValidQuery_J5 (loopF (spec_IsValidQuery_B4 a0 y7) m) y11 x45 = some o4 → ∀ σ' : PS, okK σ' [(1, .box [.int .i64 a0.1, .dat a0.2.1.length (a0.2.1.flatMap c150_d), .dat a0.2.2.length (a0.2.2.flatMap ci64)]), (5, .int .i64 y7), (6, .bool x45), (7, .int .i64 y11)] → K44 σ' := by
                intro x45 h σ' hk
                unfold spec_IsValidQuery_J5 at h
                refine hK44 _ (ls_keep [(1, .box [.int .i64 a0.1, .dat a0.2.1.length (a0.2.1.flatMap c150_d), .dat a0.2.2.length (a0.2.2.flatMap ci64)]), (5, .int .i64 y7), (6, .bool x45), (7, .int .i64 y11)] hk rfl ?_)
                refine ls_rgn tbOk ?_
                refine evs (ev_mv (c := .int .i64 y11) rfl rfl rfl (evs (ev_bin (c1 := .int .i64 y11) (c2 := .int .i64 1) rfl rfl rfl (evs (ev_as (c := .int .i64 (IntKind.i64.wrap (y11 + 1))) rfl rfl rfl (evn ?_))))))
                exact hN _ (x45, (IntKind.i64.wrap (y11 + 1))) h ⟨kr, kr, kr, kr, trivial⟩
              refine ls_rgn tbOk ?_
              refine evs (ev_mv (c := .bool y10) rfl rfl rfl (evs (ev_mv (c := .bool y10) rfl rfl rfl (?_))))
              rcases cond_some h with ⟨g46, h⟩ | ⟨g46, h⟩
              · refine evs (ev_gs rfl rfl (isb_T g46) (evs (ev_gs rfl rfl (isb_T g46) (evs (ev_gs rfl rfl (isb_T g46) (evs (ev_gs rfl rfl (isb_T g46) (evs (ev_gs rfl rfl (isb_T g46) (evs (ev_gs rfl rfl (isb_T g46) (evs (ev_gs rfl rfl (isb_T g46) (evs (ev_pkT (c1 := .bool true) rfl g46 rfl rfl (evs (ev_as (c := .bool true) rfl rfl rfl (evn ?_))))))))))))))))))
                exact kspec_IsValidQuery_J5 true h _ ⟨kr, kr, kr, kr, trivial⟩
              · refine evs (ev_gr rfl (congrArg V.bool g46) (ev_fa (c1 := .cref 1 0) (v := .cref 1 1) rfl rfl rfl ⟨_, rfl⟩ rfl (evs (ev_gr rfl (congrArg V.bool g46) (ev_ldB (off := 1) (v := .dat a0.2.1.length (a0.2.1.flatMap c150_d)) rfl rfl rfl rfl (Nat.le_of_ble_eq_true rfl) rfl (evs (ev_gr rfl (congrArg V.bool g46) (ev_mv (c := .int .i64 y11) rfl rfl rfl (?_)))))))))
                obtain ⟨e47, g48, h⟩ := ob_some h
                refine evs (ev_gr rfl (congrArg V.bool g46) (ev_ia rfl rfl rfl ⟨(geti_some g48).1, (geti_some g48).2.1⟩ (evs (ev_gr rfl (congrArg V.bool g46) (ev_ldE (off := 0) (v := .agg [.str e47.1, .dat e47.2.length (e47.2.flatMap ci64)]) rfl rfl zc150_d g48 rfl (Nat.le_of_ble_eq_true rfl) rfl (evs (ev_gr rfl (congrArg V.bool g46) (ev_mv (c := .int .i64 y7) rfl rfl rfl (?_)))))))))
                obtain ⟨v49, g50, h⟩ := ob_some h
                refine evs (ev_gr rfl (congrArg V.bool g46) (ev_call (era rfl (erg (erc rfl (erc (erD eci64 _) rfl))) (era rfl rfl eran)) (spec_ContainsVariable_s g50) (evs (ev_pkF (c1 := .bool v49) rfl g46 rfl rfl (evs (ev_as (c := .bool v49) rfl rfl rfl (evn ?_)))))))
                exact kspec_IsValidQuery_J5 v49 h _ ⟨kr, kr, kr, kr, trivial⟩
            · refine ls_cF rfl g43 ?_
              refine ls_exit ?_
              have q0 := (Option.some.inj h).symm
              have r0 := hr4
              rw [q0] at r0
              exact kXspec_IsValidQuery_B4 y10 r0 _ ⟨kr, kr, kr, trivial⟩
          · refine ls_cF rfl g38 ?_
            refine ls_exit ?_
            have q0 := (Option.some.inj h).symm
            have r0 := hr3
            rw [q0] at r0
            exact kXspec_IsValidQuery_B3 () r0 _ ⟨kr, trivial⟩
        refine ls_rec (fun (y2 : Int) => [(1, .box [.int .i64 a0.1, .dat a0.2.1.length (a0.2.1.flatMap c150_d), .dat a0.2.2.length (a0.2.2.flatMap ci64)]), (3, .int .i64 y2)]) (spec_IsValidQuery_B1 a0) fz 0 o1 hl ⟨kr, kr, trivial⟩ (fun _ => rfl) ?_
        rintro m y2 N h hN
        unfold spec_IsValidQuery_B1 at h
        refine ls_seq_k fun K10 hK10 => ?_
        refine ls_rs tbOk ?_
        refine evs (ev_mv (c := .int .i64 y2) rfl rfl rfl (evs (ev_fa (c1 := .cref 1 0) (v := .cref 1 1) rfl rfl rfl ⟨_, rfl⟩ rfl (evs (ev_ldB (off := 1) (v := .dat a0.2.1.length (a0.2.1.flatMap c150_d)) rfl rfl rfl rfl (Nat.le_of_ble_eq_true rfl) rfl (evs (ev_len (c1 := .dat a0.2.1.length (a0.2.1.flatMap c150_d)) rfl rfl rfl (evs (ev_bin (c1 := .int .i64 y2) (c2 := .int .i64 (List.length a0.2.1 : Int)) rfl rfl rfl (evn ?_))))))))))
        refine ls_keep [(1, .box [.int .i64 a0.1, .dat a0.2.1.length (a0.2.1.flatMap c150_d), .dat a0.2.2.length (a0.2.2.flatMap ci64)]), (3, .int .i64 y2), (32, .bool (decide (y2 < (List.length a0.2.1 : Int))))] ⟨kr, kr, kr, trivial⟩ rfl ?_
        rcases cond_some h with ⟨g11, h⟩ | ⟨g11, h⟩
        · refine ls_cT rfl g11 ?_
          refine ls_skip ?_
          refine hK10 _ (ls_keep [(1, .box [.int .i64 a0.1, .dat a0.2.1.length (a0.2.1.flatMap c150_d), .dat a0.2.2.length (a0.2.2.flatMap ci64)]), (3, .int .i64 y2)] ⟨kr, kr, trivial⟩ rfl ?_)
          refine ls_seq_k fun K12 hK12 => ?_
          refine ls_blk ?_
          refine ls_seq_k fun K13 hK13 => ?_
          refine ls_rs tbOk ?_
          refine evs (ev_fa (c1 := .cref 1 0) (v := .cref 1 1) rfl rfl rfl ⟨_, rfl⟩ rfl (evs (ev_ldB (off := 1) (v := .dat a0.2.1.length (a0.2.1.flatMap c150_d)) rfl rfl rfl rfl (Nat.le_of_ble_eq_true rfl) rfl (evs (ev_mv (c := .int .i64 y2) rfl rfl rfl (?_))))))
          obtain ⟨e14, g15, h⟩ := ob_some h
          refine evs (ev_ia rfl rfl rfl ⟨(geti_some g15).1, (geti_some g15).2.1⟩ (evs (ev_fa (c1 := .adr (a0.2.1.flatMap c150_d) (Int.toNat y2 * 2)) (v := .adr (a0.2.1.flatMap c150_d) (Int.toNat y2 * 2)) rfl rfl rfl trivial rfl (evs (ev_ldE (off := 0) (v := .str e14.1) rfl rfl zc150_d g15 rfl (Nat.le_of_ble_eq_true rfl) rfl (?_))))))
          obtain ⟨v16, g17, h⟩ := ob_some h
          refine evs (ev_call (era rfl rfl eran) (spec_IsValidName_s g17) (evs (ev_un (c1 := .bool v16) rfl trivial (evs (ev_mv (c := .bool (!v16)) rfl rfl rfl (?_))))))
          rcases cond_some h with ⟨g18, h⟩ | ⟨g18, h⟩
          · refine evs (ev_gs rfl rfl (isb_T g18) (evs (ev_gs rfl rfl (isb_T g18) (evs (ev_gs rfl rfl (isb_T g18) (evs (ev_gs rfl rfl (isb_T g18) (evs (ev_gs rfl rfl (isb_T g18) (evs (ev_gs rfl rfl (isb_T g18) (evs (ev_gs rfl rfl (isb_T g18) (evs (ev_gs rfl rfl (isb_T g18) (evs (ev_gs rfl rfl (isb_T g18) (evs (ev_pkT (c1 := .bool true) rfl g18 rfl rfl (evn ?_))))))))))))))))))))
            refine ls_keep [(1, .box [.int .i64 a0.1, .dat a0.2.1.length (a0.2.1.flatMap c150_d), .dat a0.2.2.length (a0.2.2.flatMap ci64)]), (3, .int .i64 y2), (53, .bool true)] ⟨kr, kr, kr, trivial⟩ rfl ?_
            refine ls_cT rfl rfl ?_
            refine ls_rs tbOk ?_
            refine evs (ev_ac rfl nofun rfl (evn ?_))
            refine ls_keep [(2, .bool false)] ⟨kr, trivial⟩ rfl ?_
            refine ls_ret ?_
            have q0 := (Option.some.inj h).symm
            have r0 := hr1
            rw [q0] at r0
            have hr := Option.some.inj r0
            rw [← hr]
            exact ⟨.inl rfl, rfl⟩
          · refine evs (ev_gr rfl (congrArg V.bool g18) (ev_fa (c1 := .cref 1 0) (v := .cref 1 1) rfl rfl rfl ⟨_, rfl⟩ rfl (evs (ev_gr rfl (congrArg V.bool g18) (ev_ldB (off := 1) (v := .dat a0.2.1.length (a0.2.1.flatMap c150_d)) rfl rfl rfl rfl (Nat.le_of_ble_eq_true rfl) rfl (evs (ev_gr rfl (congrArg V.bool g18) (ev_mv (c := .int .i64 y2) rfl rfl rfl (?_)))))))))
            obtain ⟨e19, g20, h⟩ := ob_some h
            refine evs (ev_gr rfl (congrArg V.bool g18) (ev_ia rfl rfl rfl ⟨(geti_some g20).1, (geti_some g20).2.1⟩ (evs (ev_gr rfl (congrArg V.bool g18) (ev_fa (c1 := .adr (a0.2.1.flatMap c150_d) (Int.toNat y2 * 2)) (v := .adr (a0.2.1.flatMap c150_d) (Int.toNat y2 * 2 + 1)) rfl rfl rfl trivial rfl (evs (ev_gr rfl (congrArg V.bool g18) (ev_ldE (off := 1) (v := .dat e19.2.length (e19.2.flatMap ci64)) rfl rfl zc150_d g20 rfl (Nat.le_of_ble_eq_true rfl) rfl (evs (ev_gr rfl (congrArg V.bool g18) (ev_len (c1 := .dat e19.2.length (e19.2.flatMap ci64)) rfl rfl rfl (?_))))))))))))
            obtain ⟨v21, g22, h⟩ := ob_some h
            refine evs (ev_gr rfl (congrArg V.bool g18) (ev_call (era rfl rfl (era rfl rfl (era rfl rfl eran))) (spec_l1In_s g22) (evs (ev_gr rfl (congrArg V.bool g18) (ev_un (c1 := .bool v21) rfl trivial (evs (ev_pkF (c1 := .bool (!v21)) rfl g18 rfl rfl (evn ?_))))))))
            refine ls_keep [(1, .box [.int .i64 a0.1, .dat a0.2.1.length (a0.2.1.flatMap c150_d), .dat a0.2.2.length (a0.2.2.flatMap ci64)]), (3, .int .i64 y2), (53, .bool (!v21))] ⟨kr, kr, kr, trivial⟩ rfl ?_
            rcases cond_some h with ⟨g23, h⟩ | ⟨g23, h⟩
            · refine ls_cT rfl g23 ?_
              refine ls_rs tbOk ?_
              refine evs (ev_ac rfl nofun rfl (evn ?_))
              refine ls_keep [(2, .bool false)] ⟨kr, trivial⟩ rfl ?_
              refine ls_ret ?_
              have q0 := (Option.some.inj h).symm
              have r0 := hr1
              rw [q0] at r0
              have hr := Option.some.inj r0
              rw [← hr]
              exact ⟨.inl rfl, rfl⟩
            · refine ls_cF rfl g23 ?_
              refine ls_skip ?_
              refine hK13 _ (ls_keep [(1, .box [.int .i64 a0.1, .dat a0.2.1.length (a0.2.1.flatMap c150_d), .dat a0.2.2.length (a0.2.2.flatMap ci64)]), (3, .int .i64 y2)] ⟨kr, kr, trivial⟩ rfl ?_)
              refine ls_rs tbOk ?_
              refine evs (ev_ac rfl nofun rfl (evn ?_))
              refine ls_keep [(1, .box [.int .i64 a0.1, .dat a0.2.1.length (a0.2.1.flatMap c150_d), .dat a0.2.2.length (a0.2.2.flatMap ci64)]), (3, .int .i64 y2), (4, .int .i64 0)] ⟨kr, kr, kr, trivial⟩ rfl ?_
              obtain ⟨o2, hl, hr2⟩ := ob_some h
              clear h
              have kXspec_IsValidQuery_B2 : ∀ (_ : Unit), ((loopF (spec_IsValidQuery_B1 a0) m) (IntKind.i64.wrap (y2 + 1))) = some o1 → ∀ σ' : PS, okK σ' [(1, .box [.int .i64 a0.1, .dat a0.2.1.length (a0.2.1.flatMap c150_d), .dat a0.2.2.length (a0.2.2.flatMap ci64)]), (3, .int .i64 y2)] → K12 σ' := by
                intro _ h σ' hk
                refine hK12 _ (ls_keep [(1, .box [.int .i64 a0.1, .dat a0.2.1.length (a0.2.1.flatMap c150_d), .dat a0.2.2.length (a0.2.2.flatMap ci64)]), (3, .int .i64 y2)] hk rfl ?_)
                refine ls_rgn tbOk ?_
                refine evs (ev_mv (c := .int .i64 y2) rfl rfl rfl (evs (ev_bin (c1 := .int .i64 y2) (c2 := .int .i64 1) rfl rfl rfl (evs (ev_as (c := .int .i64 (IntKind.i64.wrap (y2 + 1))) rfl rfl rfl (evn ?_))))))
                exact hN _ (IntKind.i64.wrap (y2 + 1)) h ⟨kr, kr, trivial⟩
              refine ls_rec (fun (y4 : Int) => [(1, .box [.int .i64 a0.1, .dat a0.2.1.length (a0.2.1.flatMap c150_d), .dat a0.2.2.length (a0.2.2.flatMap ci64)]), (3, .int .i64 y2), (4, .int .i64 y4)]) (spec_IsValidQuery_B2 a0 y2) fz 0 o2 hl ⟨kr, kr, kr, trivial⟩ (fun _ => rfl) ?_
              rintro m y4 N h hN
              unfold spec_IsValidQuery_B2 at h
              refine ls_seq_k fun K24 hK24 => ?_
              refine ls_rs tbOk ?_
              refine evs (ev_mv (c := .int .i64 y4) rfl rfl rfl (evs (ev_fa (c1 := .cref 1 0) (v := .cref 1 1) rfl rfl rfl ⟨_, rfl⟩ rfl (evs (ev_ldB (off := 1) (v := .dat a0.2.1.length (a0.2.1.flatMap c150_d)) rfl rfl rfl rfl (Nat.le_of_ble_eq_true rfl) rfl (evs (ev_mv (c := .int .i64 y2) rfl rfl rfl (?_))))))))
              obtain ⟨e25, g26, h⟩ := ob_some h
              refine evs (ev_ia rfl rfl rfl ⟨(geti_some g26).1, (geti_some g26).2.1⟩ (evs (ev_fa (c1 := .adr (a0.2.1.flatMap c150_d) (Int.toNat y2 * 2)) (v := .adr (a0.2.1.flatMap c150_d) (Int.toNat y2 * 2 + 1)) rfl rfl rfl trivial rfl (evs (ev_ldE (off := 1) (v := .dat e25.2.length (e25.2.flatMap ci64)) rfl rfl zc150_d g26 rfl (Nat.le_of_ble_eq_true rfl) rfl (evs (ev_len (c1 := .dat e25.2.length (e25.2.flatMap ci64)) rfl rfl rfl (evs (ev_bin (c1 := .int .i64 y4) (c2 := .int .i64 (List.length e25.2 : Int)) rfl rfl rfl (evn ?_))))))))))
              refine ls_keep [(1, .box [.int .i64 a0.1, .dat a0.2.1.length (a0.2.1.flatMap c150_d), .dat a0.2.2.length (a0.2.2.flatMap ci64)]), (3, .int .i64 y2), (4, .int .i64 y4), (62, .bool (decide (y4 < (List.length e25.2 : Int))))] ⟨kr, kr, kr, kr, trivial⟩ rfl ?_
              rcases cond_some h with ⟨g27, h⟩ | ⟨g27, h⟩
              · refine ls_cT rfl g27 ?_
                refine ls_skip ?_
                refine hK24 _ (ls_keep [(1, .box [.int .i64 a0.1, .dat a0.2.1.length (a0.2.1.flatMap c150_d), .dat a0.2.2.length (a0.2.2.flatMap ci64)]), (3, .int .i64 y2), (4, .int .i64 y4)] ⟨kr, kr, kr, trivial⟩ rfl ?_)
                refine ls_seq_k fun K28 hK28 => ?_
                refine ls_blk ?_
                refine ls_rd tbOk mixed (by kernel_rfl) ?_
                refine evd rfl rfl (ev_fa (c1 := .cref 1 0) (v := .cref 1 1) rfl rfl rfl ⟨_, rfl⟩ rfl (evd rfl rfl (ev_ldB (off := 1) (v := .dat a0.2.1.length (a0.2.1.flatMap c150_d)) rfl rfl rfl rfl (Nat.le_of_ble_eq_true rfl) rfl (evd rfl rfl (ev_mv (c := .int .i64 y2) rfl rfl rfl (?_))))))
                obtain ⟨e29, g30, h⟩ := ob_some h
                refine evd rfl rfl (ev_ia rfl rfl rfl ⟨(geti_some g30).1, (geti_some g30).2.1⟩ (evd rfl rfl (ev_fa (c1 := .adr (a0.2.1.flatMap c150_d) (Int.toNat y2 * 2)) (v := .adr (a0.2.1.flatMap c150_d) (Int.toNat y2 * 2 + 1)) rfl rfl rfl trivial rfl (evd rfl rfl (ev_ldE (off := 1) (v := .dat e29.2.length (e29.2.flatMap ci64)) rfl rfl zc150_d g30 rfl (Nat.le_of_ble_eq_true rfl) rfl (evd rfl rfl (ev_mv (c := .int .i64 y4) rfl rfl rfl (?_))))))))
                obtain ⟨e31, g32, h⟩ := ob_some h
                refine evd rfl rfl (ev_ia rfl rfl rfl ⟨(geti_some g32).1, (geti_some g32).2.1⟩ (evd rfl rfl (ev_ldE (off := 0) (v := .int .i64 e31) rfl rfl zci64 g32 rfl (Nat.le_of_ble_eq_true rfl) rfl (evd rfl rfl (ev_fa (c1 := .cref 1 0) (v := .cref 1 0) rfl rfl rfl ⟨_, rfl⟩ rfl (evd rfl rfl (ev_ldB (off := 0) (v := .int .i64 a0.1) rfl rfl rfl rfl (Nat.le_of_ble_eq_true rfl) rfl (evd rfl rfl (ev_bin (c1 := .int .i64 a0.1) (c2 := .int .i64 1) rfl rfl rfl (?_))))))))))
                obtain ⟨v33, g34, h⟩ := ob_some h
                refine evd rfl rfl (ev_call (era rfl rfl (era rfl rfl (era rfl rfl eran))) (spec_l1In_s g34) (evd rfl rfl (ev_un (c1 := .bool v33) rfl trivial (evdn ?_))))
                refine ls_keep [(1, .box [.int .i64 a0.1, .dat a0.2.1.length (a0.2.1.flatMap c150_d), .dat a0.2.2.length (a0.2.2.flatMap ci64)]), (3, .int .i64 y2), (4, .int .i64 y4), (78, .bool (!v33))] ⟨kr, kr, kr, kr, trivial⟩ rfl ?_
                rcases cond_some h with ⟨g35, h⟩ | ⟨g35, h⟩
                · refine ls_cT rfl g35 ?_
                  refine ls_rs tbOk ?_
                  refine evs (ev_ac rfl nofun rfl (evn ?_))
                  refine ls_keep [(2, .bool false)] ⟨kr, trivial⟩ rfl ?_
                  refine ls_ret ?_
                  have q0 := (Option.some.inj h).symm
                  have r0 := hr2
                  rw [q0] at r0
                  have q1 := (Option.some.inj r0).symm
                  have r1 := hr1
                  rw [q1] at r1
                  have hr := Option.some.inj r1
                  rw [← hr]
                  exact ⟨.inl rfl, rfl⟩
                · refine ls_cF rfl g35 ?_
                  refine ls_skip ?_
                  refine hK28 _ (ls_keep [(1, .box [.int .i64 a0.1, .dat a0.2.1.length (a0.2.1.flatMap c150_d), .dat a0.2.2.length (a0.2.2.flatMap ci64)]), (3, .int .i64 y2), (4, .int .i64 y4)] ⟨kr, kr, kr, trivial⟩ rfl ?_)
                  refine ls_rgn tbOk ?_
                  refine evs (ev_mv (c := .int .i64 y4) rfl rfl rfl (evs (ev_bin (c1 := .int .i64 y4) (c2 := .int .i64 1) rfl rfl rfl (evs (ev_as (c := .int .i64 (IntKind.i64.wrap (y4 + 1))) rfl rfl rfl (evn ?_))))))
                  exact hN _ (IntKind.i64.wrap (y4 + 1)) h ⟨kr, kr, kr, trivial⟩
              · refine ls_cF rfl g27 ?_
                refine ls_exit ?_
                have q0 := (Option.some.inj h).symm
                have r0 := hr2
                rw [q0] at r0
                exact kXspec_IsValidQuery_B2 () r0 _ ⟨kr, kr, trivial⟩
        · refine ls_cF rfl g11 ?_
          refine ls_exit ?_
          have q0 := (Option.some.inj h).symm
          have r0 := hr1
          rw [q0] at r0
          exact kXspec_IsValidQuery_B1 () r0 _ ⟨kr, trivial⟩
def spec_FDVariables_J5 (rec : (Bool × Int × Int) → Option (Bool × Int)) (y12 : Int) (x21 : Bool) (x22 : Int) : Option (Bool × Int) := rec (x21, x22, (IntKind.i64.wrap (y12 + 1)))
def spec_FDVariables_J4 (rec : (Bool × Int × Int) → Option (Bool × Int)) (a1 : (List UInt8) × (List Int) × Int) (e10 : (List UInt8) × (List Int)) (y11 : Int) (y12 : Int) (x21 : Bool) : Option (Bool × Int) := cond x21 (obind (geti a1.2.1 y12) fun e24 => obind (geti e10.2 e24) fun e26 => chk ((0 : Int) ≤ e26) (spec_FDVariables_J5 rec y12 x21 (orI y11 (shlI 1 e26)))) (spec_FDVariables_J5 rec y12 x21 y11)
def spec_FDVariables_B3 (a1 : (List UInt8) × (List Int) × Int) (e10 : (List UInt8) × (List Int)) (rec : (Bool × Int × Int) → Option (Bool × Int)) (s : Bool × Int × Int) : Option (Bool × Int) := match s with
  | (y10, y11, y12) => cond (decide (y12 < (List.length a1.2.1 : Int))) (cond y10 (obind (geti a1.2.1 y12) fun e30 => obind (spec_l1In e30 0 (IntKind.i64.wrap ((List.length e10.2 : Int) - 1))) fun v32 => spec_FDVariables_J4 rec a1 e10 y11 y12 v32) (spec_FDVariables_J4 rec a1 e10 y11 y12 false)) (some (y10, y11))
def spec_FDVariables_J6 (rec : ((List Int) × (List Int) × Int) → Option ((List Int) × (List Int))) (y6 : Int) (x34 : List Int) (x35 : List Int) : Option ((List Int) × (List Int)) := rec (x34, x35, (IntKind.i64.wrap (y6 + 1)))
def spec_FDVariables_J2 (rec : ((List Int) × (List Int) × Int) → Option ((List Int) × (List Int))) (a1 : (List UInt8) × (List Int) × Int) (y4 : List Int) (y5 : List Int) (y6 : Int) (e10 : (List UInt8) × (List Int)) (x13 : Bool) : Option ((List Int) × (List Int)) := obind (loopF (spec_FDVariables_B3 a1 e10) fz (x13, 0, 0)) fun o3 => (match o3 with
  | (z15, z16) => (cond z15 (chk (List.length y4 + List.length [z16] ≤ lim) (obind (geti e10.2 a1.2.2) fun e38 => chk (List.length y5 + List.length [e38] ≤ lim) (spec_FDVariables_J6 rec y6 (y4 ++ [z16]) (y5 ++ [e38])))) (chk (List.length y4 + List.length [0] ≤ lim) (chk (List.length y5 + List.length [-1] ≤ lim) (spec_FDVariables_J6 rec y6 (y4 ++ [0]) (y5 ++ [-1]))))))
def spec_FDVariables_B1 (a0 : Int × (List ((List UInt8) × (List Int))) × (List Int)) (a1 : (List UInt8) × (List Int) × Int) (rec : ((List Int) × (List Int) × Int) → Option ((List Int) × (List Int))) (s : (List Int) × (List Int) × Int) : Option ((List Int) × (List Int)) := match s with
  | (y4, y5, y6) => cond (decide (y6 < (List.length a0.2.1 : Int))) (obind (spec_IsValidQuery a0) fun v6 => cond v6 (obind (geti a0.2.1 y6) fun e10 => cond (e10.1 == a1.1) (obind (spec_l1In a1.2.2 0 (IntKind.i64.wrap ((List.length e10.2 : Int) - 1))) fun v44 => spec_FDVariables_J2 rec a1 y4 y5 y6 e10 v44) (spec_FDVariables_J2 rec a1 y4 y5 y6 e10 false)) (some (y4, y5))) (some (y4, y5))
def spec_FDVariables (a0 : Int × (List ((List UInt8) × (List Int))) × (List Int)) (a1 : (List UInt8) × (List Int) × Int) : Option ((List Int) × (List Int)) := obind (loopF (spec_FDVariables_B1 a0 a1) fz (([] : List Int), ([] : List Int), 0)) fun o1 => (match o1 with
  | (z2, z3) => (some (z2, z3)))
theorem spec_FDVariables_s {a0 : Int × (List ((List UInt8) × (List Int))) × (List Int)} {a1 : (List UInt8) × (List Int) × Int} {r : (List Int) × (List Int)} (h : spec_FDVariables a0 a1 = some r) : SoundAt Try.prog 51 [.agg [.int .i64 a0.1, .dat a0.2.1.length (a0.2.1.flatMap c150_d), .dat a0.2.2.length (a0.2.2.flatMap ci64)], .agg [.str a1.1, .dat a1.2.1.length (a1.2.1.flatMap ci64), .int .i64 a1.2.2]] (.tup [.own 3 r.1.length (r.1.flatMap ci64), .own 3 r.2.length (r.2.flatMap ci64)]) := by
  unfold spec_FDVariables at h
  refine sound_lit tbOk lit51 (Nat.le_of_ble_eq_true rfl) rfl ?_
  unfold c51
  refine ls_keep [(0, .agg [.int .i64 a0.1, .dat a0.2.1.length (a0.2.1.flatMap c150_d), .dat a0.2.2.length (a0.2.2.flatMap ci64)]), (1, .agg [.str a1.1, .dat a1.2.1.length (a1.2.1.flatMap ci64), .int .i64 a1.2.2])] ⟨kr, kr, trivial⟩ rfl ?_
  refine ls_rs tbOk ?_
  refine evs (ev_bx (c1 := .agg [.int .i64 a0.1, .dat a0.2.1.length (a0.2.1.flatMap c150_d), .dat a0.2.2.length (a0.2.2.flatMap ci64)]) rfl rfl rfl (evs (ev_bx (c1 := .agg [.str a1.1, .dat a1.2.1.length (a1.2.1.flatMap ci64), .int .i64 a1.2.2]) rfl rfl rfl (evs (ev_an rfl rfl (evs (ev_an rfl rfl (evn ?_))))))))
  refine ls_keep [(2, .box [.int .i64 a0.1, .dat a0.2.1.length (a0.2.1.flatMap c150_d), .dat a0.2.2.length (a0.2.2.flatMap ci64)]), (3, .box [.str a1.1, .dat a1.2.1.length (a1.2.1.flatMap ci64), .int .i64 a1.2.2])] ⟨kr, kr, trivial⟩ rfl ?_
  refine ls_rs tbOk ?_
  refine evs (ev_bs [] (cs := []) rfl trivial rfl (Nat.le_of_ble_eq_true rfl) rfl (evs (ev_as (c := .own 3 ([] : List Int).length (([] : List Int).flatMap ci64)) rfl rfl rfl (evn ?_))))
  refine ls_keep [(2, .box [.int .i64 a0.1, .dat a0.2.1.length (a0.2.1.flatMap c150_d), .dat a0.2.2.length (a0.2.2.flatMap ci64)]), (3, .box [.str a1.1, .dat a1.2.1.length (a1.2.1.flatMap ci64), .int .i64 a1.2.2]), (6, .own 3 ([] : List Int).length (([] : List Int).flatMap ci64))] ⟨kr, kr, kr, trivial⟩ rfl ?_
  refine ls_rs tbOk ?_
  refine evs (ev_bs [] (cs := []) rfl trivial rfl (Nat.le_of_ble_eq_true rfl) rfl (evs (ev_as (c := .own 3 ([] : List Int).length (([] : List Int).flatMap ci64)) rfl rfl rfl (evn ?_))))
  refine ls_keep [(2, .box [.int .i64 a0.1, .dat a0.2.1.length (a0.2.1.flatMap c150_d), .dat a0.2.2.length (a0.2.2.flatMap ci64)]), (3, .box [.str a1.1, .dat a1.2.1.length (a1.2.1.flatMap ci64), .int .i64 a1.2.2]), (6, .own 3 ([] : List Int).length (([] : List Int).flatMap ci64)), (7, .own 3 ([] : List Int).length (([] : List Int).flatMap ci64))] ⟨kr, kr, kr, kr, trivial⟩ rfl ?_
  refine ls_seq_k fun K1 hK1 => ?_
  refine ls_rs tbOk ?_
  refine evs (ev_ac rfl nofun rfl (evn ?_))
  refine ls_keep [(2, .box [.int .i64 a0.1, .dat a0.2.1.length (a0.2.1.flatMap c150_d), .dat a0.2.2.length (a0.2.2.flatMap ci64)]), (3, .box [.str a1.1, .dat a1.2.1.length (a1.2.1.flatMap ci64), .int .i64 a1.2.2]), (6, .own 3 ([] : List Int).length (([] : List Int).flatMap ci64)), (7, .own 3 ([] : List Int).length (([] : List Int).flatMap ci64)), (8, .int .i64 0)] ⟨kr, kr, kr, kr, kr, trivial⟩ rfl ?_
  obtain ⟨o1, hl, hr1⟩ := ob_some h
  clear h
  have kXspec_FDVariables_B1 : ∀ (z2 : List Int) (z3 : List Int), (some (z2, z3)) = some r → ∀ σ' : PS, okK σ' [(6, .own 3 z2.length (z2.flatMap ci64)), (7, .own 3 z3.length (z3.flatMap ci64))] → K1 σ' := by
    intro z2 z3 h σ' hk
    refine hK1 _ (ls_keep [(6, .own 3 z2.length (z2.flatMap ci64)), (7, .own 3 z3.length (z3.flatMap ci64))] hk rfl ?_)
    refine ls_rs tbOk ?_
    refine evs (ev_mvt (c := .own 3 z2.length (z2.flatMap ci64)) rfl rfl rfl (evs (ev_mvt (c := .own 3 z3.length (z3.flatMap ci64)) rfl rfl rfl (evs (ev_as (c := .own 3 z2.length (z2.flatMap ci64)) rfl rfl rfl (evs (ev_as (c := .own 3 z3.length (z3.flatMap ci64)) rfl rfl rfl (evn ?_))))))))
    refine ls_keep [(4, .own 3 z2.length (z2.flatMap ci64)), (5, .own 3 z3.length (z3.flatMap ci64))] ⟨kr, kr, trivial⟩ rfl ?_
    refine ls_ret ?_
    have hr := Option.some.inj h
    rw [← hr]
    exact ⟨.inl rfl, rfl⟩
  refine ls_rec (fun (s : (List Int) × (List Int) × Int) => match s with | (y4, y5, y6) => [(2, .box [.int .i64 a0.1, .dat a0.2.1.length (a0.2.1.flatMap c150_d), .dat a0.2.2.length (a0.2.2.flatMap ci64)]), (3, .box [.str a1.1, .dat a1.2.1.length (a1.2.1.flatMap ci64), .int .i64 a1.2.2]), (6, .own 3 y4.length (y4.flatMap ci64)), (7, .own 3 y5.length (y5.flatMap ci64)), (8, .int .i64 y6)]) (spec_FDVariables_B1 a0 a1) fz (([] : List Int), ([] : List Int), 0) o1 hl ⟨kr, kr, kr, kr, kr, trivial⟩ (fun _ => rfl) ?_
  rintro m ⟨y4, y5, y6⟩ N h hN
  unfold spec_FDVariables_B1 at h
  dsimp only at h
  refine ls_seq_k fun K4 hK4 => ?_
  refine ls_rs tbOk ?_
  refine evs (ev_mv (c := .int .i64 y6) rfl rfl rfl (evs (ev_fa (c1 := .cref 2 0) (v := .cref 2 1) rfl rfl rfl ⟨_, rfl⟩ rfl (evs (ev_ldB (off := 1) (v := .dat a0.2.1.length (a0.2.1.flatMap c150_d)) rfl rfl rfl rfl (Nat.le_of_ble_eq_true rfl) rfl (evs (ev_len (c1 := .dat a0.2.1.length (a0.2.1.flatMap c150_d)) rfl rfl rfl (evs (ev_bin (c1 := .int .i64 y6) (c2 := .int .i64 (List.length a0.2.1 : Int)) rfl rfl rfl (evs (ev_mv (c := .bool (decide (y6 < (List.length a0.2.1 : Int)))) rfl rfl rfl (?_))))))))))))
  rcases cond_some h with ⟨g5, h⟩ | ⟨g5, h⟩
  · refine evs (ev_gr rfl (congrArg V.bool g5) (ev_ldB (off := 0) (v := .agg [.int .i64 a0.1, .dat a0.2.1.length (a0.2.1.flatMap c150_d), .dat a0.2.2.length (a0.2.2.flatMap ci64)]) rfl rfl rfl rfl (Nat.le_of_ble_eq_true rfl) rfl (?_)))
    obtain ⟨v6, g7, h⟩ := ob_some h
    refine evs (ev_gr rfl (congrArg V.bool g5) (ev_call (era rfl (erg (erc rfl (erc (erD ec150_d _) (erc (erD eci64 _) rfl)))) eran) (spec_IsValidQuery_s g7) (evs (ev_pkT (c1 := .bool v6) rfl g5 rfl rfl (evn ?_)))))
    refine ls_keep [(2, .box [.int .i64 a0.1, .dat a0.2.1.length (a0.2.1.flatMap c150_d), .dat a0.2.2.length (a0.2.2.flatMap ci64)]), (3, .box [.str a1.1, .dat a1.2.1.length (a1.2.1.flatMap ci64), .int .i64 a1.2.2]), (6, .own 3 y4.length (y4.flatMap ci64)), (7, .own 3 y5.length (y5.flatMap ci64)), (8, .int .i64 y6), (23, .bool v6)] ⟨kr, kr, kr, kr, kr, kr, trivial⟩ rfl ?_
    rcases cond_some h with ⟨g8, h⟩ | ⟨g8, h⟩
    · refine ls_cT rfl g8 ?_
      refine ls_skip ?_
      refine hK4 _ (ls_keep [(2, .box [.int .i64 a0.1, .dat a0.2.1.length (a0.2.1.flatMap c150_d), .dat a0.2.2.length (a0.2.2.flatMap ci64)]), (3, .box [.str a1.1, .dat a1.2.1.length (a1.2.1.flatMap ci64), .int .i64 a1.2.2]), (6, .own 3 y4.length (y4.flatMap ci64)), (7, .own 3 y5.length (y5.flatMap ci64)), (8, .int .i64 y6)] ⟨kr, kr, kr, kr, kr, trivial⟩ rfl ?_)
      refine ls_seq_k fun K9 hK9 => ?_
      refine ls_blk ?_
      refine ls_rs tbOk ?_
      refine evs (ev_fa (c1 := .cref 2 0) (v := .cref 2 1) rfl rfl rfl ⟨_, rfl⟩ rfl (evs (ev_ldB (off := 1) (v := .dat a0.2.1.length (a0.2.1.flatMap c150_d)) rfl rfl rfl rfl (Nat.le_of_ble_eq_true rfl) rfl (evs (ev_mv (c := .int .i64 y6) rfl rfl rfl (?_))))))
      obtain ⟨e10, g11, h⟩ := ob_some h
      refine evs (ev_ia rfl rfl rfl ⟨(geti_some g11).1, (geti_some g11).2.1⟩ (evs (ev_ldEt (off := 0) (v := .agg [.str e10.1, .dat e10.2.length (e10.2.flatMap ci64)]) rfl rfl zc150_d g11 rfl (Nat.le_of_ble_eq_true rfl) rfl (evs (ev_al rfl rfl (evs (ev_st (off := 0) (c1 := .agg [.str e10.1, .dat e10.2.length (e10.2.flatMap ci64)]) (cs' := [.str e10.1, .dat e10.2.length (e10.2.flatMap ci64)]) rfl rfl rfl rfl rfl rfl (Nat.le_of_ble_eq_true rfl) rfl (evn ?_))))))))
      refine ls_keep [(2, .box [.int .i64 a0.1, .dat a0.2.1.length (a0.2.1.flatMap c150_d), .dat a0.2.2.length (a0.2.2.flatMap ci64)]), (3, .box [.str a1.1, .dat a1.2.1.length (a1.2.1.flatMap ci64), .int .i64 a1.2.2]), (6, .own 3 y4.length (y4.flatMap ci64)), (7, .own 3 y5.length (y5.flatMap ci64)), (8, .int .i64 y6), (9, .box [.str e10.1, .dat e10.2.length (e10.2.flatMap ci64)])] ⟨kr, kr, kr, kr, kr, kr, trivial⟩ rfl ?_
      refine ls_rs_k tbOk fun K12 hK12 => ?_
      have kspec_FDVariables_J2 : ∀ (x13 : Bool), spec_FDVariables_J2 (loopF (spec_FDVariables_B1 a0 a1) m) a1 y4 y5 y6 e10 x13 = some o1 → ∀ σ' : PS, okK σ' [(2, .box [.int .i64 a0.1, .dat a0.2.1.length (a0.2.1.flatMap c150_d), .dat a0.2.2.length (a0.2.2.flatMap ci64)]), (3, .box [.str a1.1, .dat a1.2.1.length (a1.2.1.flatMap ci64), .int .i64 a1.2.2]), (6, .own 3 y4.length (y4.flatMap ci64)), (7, .own 3 y5.length (y5.flatMap ci64)), (8, .int .i64 y6), (9, .box [.str e10.1, .dat e10.2.length (e10.2.flatMap ci64)]), (10, .bool x13)] → K12 σ' := by
        intro x13 h σ' hk
        unfold spec_FDVariables_J2 at h
        refine hK12 _ (ls_keep [(2, .box [.int .i64 a0.1, .dat a0.2.1.length (a0.2.1.flatMap c150_d), .dat a0.2.2.length (a0.2.2.flatMap ci64)]), (3, .box [.str a1.1, .dat a1.2.1.length (a1.2.1.flatMap ci64), .int .i64 a1.2.2]), (6, .own 3 y4.length (y4.flatMap ci64)), (7, .own 3 y5.length (y5.flatMap ci64)), (8, .int .i64 y6), (9, .box [.str e10.1, .dat e10.2.length (e10.2.flatMap ci64)]), (10, .bool x13)] hk rfl ?_)
        refine ls_rs tbOk ?_
        refine evs (ev_ac rfl nofun rfl (evn ?_))
        refine ls_keep [(2, .box [.int .i64 a0.1, .dat a0.2.1.length (a0.2.1.flatMap c150_d), .dat a0.2.2.length (a0.2.2.flatMap ci64)]), (3, .box [.str a1.1, .dat a1.2.1.length (a1.2.1.flatMap ci64), .int .i64 a1.2.2]), (6, .own 3 y4.length (y4.flatMap ci64)), (7, .own 3 y5.length (y5.flatMap ci64)), (8, .int .i64 y6), (9, .box [.str e10.1, .dat e10.2.length (e10.2.flatMap ci64)]), (10, .bool x13), (11, .int .i64 0)] ⟨kr, kr, kr, kr, kr, kr, kr, kr, trivial⟩ rfl ?_
        refine ls_seq_k fun K14 hK14 => ?_
        refine ls_rs tbOk ?_
        refine evs (ev_ac rfl nofun rfl (evn ?_))
        refine ls_keep [(2, .box [.int .i64 a0.1, .dat a0.2.1.length (a0.2.1.flatMap c150_d), .dat a0.2.2.length (a0.2.2.flatMap ci64)]), (3, .box [.str a1.1, .dat a1.2.1.length (a1.2.1.flatMap ci64), .int .i64 a1.2.2]), (6, .own 3 y4.length (y4.flatMap ci64)), (7, .own 3 y5.length (y5.flatMap ci64)), (8, .int .i64 y6), (9, .box [.str e10.1, .dat e10.2.length (e10.2.flatMap ci64)]), (10, .bool x13), (11, .int .i64 0), (12, .int .i64 0)] ⟨kr, kr, kr, kr, kr, kr, kr, kr, kr, trivial⟩ rfl ?_
        obtain ⟨o3, hl, hr3⟩ := ob_some h
        clear h
        have kXspec_FDVariables_B3 : ∀ (z15 : Bool) (z16 : Int), (cond z15 (chk (List.length y4 + List.length [z16] ≤ lim) (obind (geti e10.2 a1.2.2) fun e38 => chk (List.length y5 + List.length [e38] ≤ lim) (spec_FDVariables_J6 (loopF (spec_FDVariables_B1 a0 a1) m) y6 (y4 ++ [z16]) (y5 ++ [e38])))) (chk (List.length y4 + List.length [0] ≤ lim) (chk (List.length y5 + List.length [-1] ≤ lim) (spec_FDVariables_J6 (loopF (spec_FDVariables_B1 a0 a1) m) y6 (y4 ++ [0]) (y5 ++ [-1]))))) = some o1 → ∀ σ' : PS, okK σ' [(2, .box [.int .i64 a0.1, .dat a0.2.1.length (a0.2.1.flatMap c150_d), .dat a0.2.2.length (a0.2.2.flatMap ci64)]), (3, .box [.str a1.1, .dat a1.2.1.length (a1.2.1.flatMap ci64), .int .i64 a1.2.2]), (6, .own 3 y4.length (y4.flatMap ci64)), (7, .own 3 y5.length (y5.flatMap ci64)), (8, .int .i64 y6), (9, .box [.str e10.1, .dat e10.2.length (e10.2.flatMap ci64)]), (10, .bool z15), (11, .int .i64 z16)] → K14 σ' := by
          intro z15 z16 h σ' hk
          refine hK14 _ (ls_keep [(2, .box [.int .i64 a0.1, .dat a0.2.1.length (a0.2.1.flatMap c150_d), .dat a0.2.2.length (a0.2.2.flatMap ci64)]), (3, .box [.str a1.1, .dat a1.2.1.length (a1.2.1.flatMap ci64), .int .i64 a1.2.2]), (6, .own 3 y4.length (y4.flatMap ci64)), (7, .own 3 y5.length (y5.flatMap ci64)), (8, .int .i64 y6), (9, .box [.str e10.1, .dat e10.2.length (e10.2.flatMap ci64)]), (10, .bool z15), (11, .int .i64 z16)] hk rfl ?_)
          refine ls_rs tbOk ?_
          refine evs (ev_mv (c := .bool z15) rfl rfl rfl (evn ?_))
          refine ls_keep [(2, .box [.int .i64 a0.1, .dat a0.2.1.length (a0.2.1.flatMap c150_d), .dat a0.2.2.length (a0.2.2.flatMap ci64)]), (3, .box [.str a1.1, .dat a1.2.1.length (a1.2.1.flatMap ci64), .int .i64 a1.2.2]), (6, .own 3 y4.length (y4.flatMap ci64)), (7, .own 3 y5.length (y5.flatMap ci64)), (8, .int .i64 y6), (9, .box [.str e10.1, .dat e10.2.length (e10.2.flatMap ci64)]), (11, .int .i64 z16), (78, .bool z15)] ⟨kr, kr, kr, kr, kr, kr, kr, kr, trivial⟩ rfl ?_
          have kspec_FDVariables_J6 : ∀ (x34 : List Int) (x35 : List Int), spec_FDVariables_J6 (loopF (spec_FDVariables_B1 a0 a1) m) y6 x34 x35 = some o1 → ∀ σ' : PS, okK σ' [(2, .box [.int .i64 a0.1, .dat a0.2.1.length (a0.2.1.flatMap c150_d), .dat a0.2.2.length (a0.2.2.flatMap ci64)]), (3, .box [.str a1.1, .dat a1.2.1.length (a1.2.1.flatMap ci64), .int .i64 a1.2.2]), (6, .own 3 x34.length (x34.flatMap ci64)), (7, .own 3 x35.length (x35.flatMap ci64)), (8, .int .i64 y6)] → K9 σ' := by
            intro x34 x35 h σ' hk
            unfold spec_FDVariables_J6 at h
            refine hK9 _ (ls_keep [(2, .box [.int .i64 a0.1, .dat a0.2.1.length (a0.2.1.flatMap c150_d), .dat a0.2.2.length (a0.2.2.flatMap ci64)]), (3, .box [.str a1.1, .dat a1.2.1.length (a1.2.1.flatMap ci64), .int .i64 a1.2.2]), (6, .own 3 x34.length (x34.flatMap ci64)), (7, .own 3 x35.length (x35.flatMap ci64)), (8, .int .i64 y6)] hk rfl ?_)
            refine ls_rgn tbOk ?_
            refine evs (ev_mv (c := .int .i64 y6) rfl rfl rfl (evs (ev_bin (c1 := .int .i64 y6) (c2 := .int .i64 1) rfl rfl rfl (evs (ev_as (c := .int .i64 (IntKind.i64.wrap (y6 + 1))) rfl rfl rfl (evn ?_))))))
            exact hN _ (x34, x35, (IntKind.i64.wrap (y6 + 1))) h ⟨kr, kr, kr, kr, kr, trivial⟩
          rcases cond_some h with ⟨g36, h⟩ | ⟨g36, h⟩
          · refine ls_cT rfl g36 ?_
            refine ls_rs tbOk ?_
            refine evs (ev_mvt (c := .own 3 y4.length (y4.flatMap ci64)) rfl rfl rfl (evs (ev_mv (c := .int .i64 z16) rfl rfl rfl (evs (ev_bs [.int .i64 z16] (cs := [.int .i64 z16]) rfl ⟨rfl, trivial⟩ rfl (Nat.le_of_ble_eq_true rfl) rfl (?_))))))
            obtain ⟨g37, h⟩ := chk_some h
            refine evs (ev_app (f := ci64) (l := y4) (m := [z16]) (c2 := .own 3 [z16].length ([z16].flatMap ci64)) rfl rfl rfl (flat_len zci64 [z16]) rfl rfl g37 rfl (evs (ev_as (c := .own 3 (y4 ++ [z16]).length ((y4 ++ [z16]).flatMap ci64)) rfl rfl rfl (evn ?_))))
            refine ls_keep [(2, .box [.int .i64 a0.1, .dat a0.2.1.length (a0.2.1.flatMap c150_d), .dat a0.2.2.length (a0.2.2.flatMap ci64)]), (3, .box [.str a1.1, .dat a1.2.1.length (a1.2.1.flatMap ci64), .int .i64 a1.2.2]), (6, .own 3 (y4 ++ [z16]).length ((y4 ++ [z16]).flatMap ci64)), (7, .own 3 y5.length (y5.flatMap ci64)), (8, .int .i64 y6), (9, .box [.str e10.1, .dat e10.2.length (e10.2.flatMap ci64)])] ⟨kr, kr, kr, kr, kr, kr, trivial⟩ rfl ?_
            refine ls_rgn tbOk ?_
            refine evs (ev_mvt (c := .own 3 y5.length (y5.flatMap ci64)) rfl rfl rfl (evs (ev_fa (c1 := .cref 9 0) (v := .cref 9 1) rfl rfl rfl ⟨_, rfl⟩ rfl (evs (ev_ldB (off := 1) (v := .dat e10.2.length (e10.2.flatMap ci64)) rfl rfl rfl rfl (Nat.le_of_ble_eq_true rfl) rfl (evs (ev_fa (c1 := .cref 3 0) (v := .cref 3 2) rfl rfl rfl ⟨_, rfl⟩ rfl (evs (ev_ldB (off := 2) (v := .int .i64 a1.2.2) rfl rfl rfl rfl (Nat.le_of_ble_eq_true rfl) rfl (?_))))))))))
            obtain ⟨e38, g39, h⟩ := ob_some h
            refine evs (ev_ia rfl rfl rfl ⟨(geti_some g39).1, (geti_some g39).2.1⟩ (evs (ev_ldE (off := 0) (v := .int .i64 e38) rfl rfl zci64 g39 rfl (Nat.le_of_ble_eq_true rfl) rfl (evs (ev_bs [.int .i64 e38] (cs := [.int .i64 e38]) rfl ⟨rfl, trivial⟩ rfl (Nat.le_of_ble_eq_true rfl) rfl (?_))))))
            obtain ⟨g40, h⟩ := chk_some h
            refine evs (ev_app (f := ci64) (l := y5) (m := [e38]) (c2 := .own 3 [e38].length ([e38].flatMap ci64)) rfl rfl rfl (flat_len zci64 [e38]) rfl rfl g40 rfl (evs (ev_as (c := .own 3 (y5 ++ [e38]).length ((y5 ++ [e38]).flatMap ci64)) rfl rfl rfl (evn ?_))))
            exact kspec_FDVariables_J6 (y4 ++ [z16]) (y5 ++ [e38]) h _ ⟨kr, kr, kr, kr, kr, trivial⟩
          · refine ls_cF rfl g36 ?_
            refine ls_rs tbOk ?_
            refine evs (ev_mvt (c := .own 3 y4.length (y4.flatMap ci64)) rfl rfl rfl (evs (ev_bs [.int .i64 0] (cs := [.int .i64 0]) rfl ⟨rfl, trivial⟩ rfl (Nat.le_of_ble_eq_true rfl) rfl (?_))))
            obtain ⟨g41, h⟩ := chk_some h
            refine evs (ev_app (f := ci64) (l := y4) (m := [0]) (c2 := .own 3 [0].length ([0].flatMap ci64)) rfl rfl rfl (flat_len zci64 [0]) rfl rfl g41 rfl (evs (ev_as (c := .own 3 (y4 ++ [0]).length ((y4 ++ [0]).flatMap ci64)) rfl rfl rfl (evn ?_))))
            refine ls_keep [(2, .box [.int .i64 a0.1, .dat a0.2.1.length (a0.2.1.flatMap c150_d), .dat a0.2.2.length (a0.2.2.flatMap ci64)]), (3, .box [.str a1.1, .dat a1.2.1.length (a1.2.1.flatMap ci64), .int .i64 a1.2.2]), (6, .own 3 (y4 ++ [0]).length ((y4 ++ [0]).flatMap ci64)), (7, .own 3 y5.length (y5.flatMap ci64)), (8, .int .i64 y6)] ⟨kr, kr, kr, kr, kr, trivial⟩ rfl ?_
            refine ls_rgn tbOk ?_
            refine evs (ev_mvt (c := .own 3 y5.length (y5.flatMap ci64)) rfl rfl rfl (evs (ev_bs [.int .i64 (-1)] (cs := [.int .i64 (-1)]) rfl ⟨rfl, trivial⟩ rfl (Nat.le_of_ble_eq_true rfl) rfl (?_))))
            obtain ⟨g42, h⟩ := chk_some h
            refine evs (ev_app (f := ci64) (l := y5) (m := [-1]) (c2 := .own 3 [-1].length ([-1].flatMap ci64)) rfl rfl rfl (flat_len zci64 [-1]) rfl rfl g42 rfl (evs (ev_as (c := .own 3 (y5 ++ [-1]).length ((y5 ++ [-1]).flatMap ci64)) rfl rfl rfl (evn ?_))))
            exact kspec_FDVariables_J6 (y4 ++ [0]) (y5 ++ [-1]) h _ ⟨kr, kr, kr, kr, kr, trivial⟩
        refine ls_rec (fun (s : Bool × Int × Int) => match s with | (y10, y11, y12) => [(2, .box [.int .i64 a0.1, .dat a0.2.1.length (a0.2.1.flatMap c150_d), .dat a0.2.2.length (a0.2.2.flatMap ci64)]), (3, .box [.str a1.1, .dat a1.2.1.length (a1.2.1.flatMap ci64), .int .i64 a1.2.2]), (6, .own 3 y4.length (y4.flatMap ci64)), (7, .own 3 y5.length (y5.flatMap ci64)), (8, .int .i64 y6), (9, .box [.str e10.1, .dat e10.2.length (e10.2.flatMap ci64)]), (10, .bool y10), (11, .int .i64 y11), (12, .int .i64 y12)]) (spec_FDVariables_B3 a1 e10) fz (x13, 0, 0) o3 hl ⟨kr, kr, kr, kr, kr, kr, kr, kr, kr, trivial⟩ (fun _ => rfl) ?_
        rintro m ⟨y10, y11, y12⟩ N h hN
        unfold spec_FDVariables_B3 at h
        dsimp only at h
        refine ls_seq_k fun K17 hK17 => ?_
        refine ls_rs tbOk ?_
        refine evs (ev_mv (c := .int .i64 y12) rfl rfl rfl (evs (ev_fa (c1 := .cref 3 0) (v := .cref 3 1) rfl rfl rfl ⟨_, rfl⟩ rfl (evs (ev_ldB (off := 1) (v := .dat a1.2.1.length (a1.2.1.flatMap ci64)) rfl rfl rfl rfl (Nat.le_of_ble_eq_true rfl) rfl (evs (ev_len (c1 := .dat a1.2.1.length (a1.2.1.flatMap ci64)) rfl rfl rfl (evs (ev_bin (c1 := .int .i64 y12) (c2 := .int .i64 (List.length a1.2.1 : Int)) rfl rfl rfl (evn ?_))))))))))
        refine ls_keep [(2, .box [.int .i64 a0.1, .dat a0.2.1.length (a0.2.1.flatMap c150_d), .dat a0.2.2.length (a0.2.2.flatMap ci64)]), (3, .box [.str a1.1, .dat a1.2.1.length (a1.2.1.flatMap ci64), .int .i64 a1.2.2]), (6, .own 3 y4.length (y4.flatMap ci64)), (7, .own 3 y5.length (y5.flatMap ci64)), (8, .int .i64 y6), (9, .box [.str e10.1, .dat e10.2.length (e10.2.flatMap ci64)]), (10, .bool y10), (11, .int .i64 y11), (12, .int .i64 y12), (49, .bool (decide (y12 < (List.length a1.2.1 : Int))))] ⟨kr, kr, kr, kr, kr, kr, kr, kr, kr, kr, trivial⟩ rfl ?_
        rcases cond_some h with ⟨g18, h⟩ | ⟨g18, h⟩
        · refine ls_cT rfl g18 ?_
          refine ls_skip ?_
          refine hK17 _ (ls_keep [(2, .box [.int .i64 a0.1, .dat a0.2.1.length (a0.2.1.flatMap c150_d), .dat a0.2.2.length (a0.2.2.flatMap ci64)]), (3, .box [.str a1.1, .dat a1.2.1.length (a1.2.1.flatMap ci64), .int .i64 a1.2.2]), (6, .own 3 y4.length (y4.flatMap ci64)), (7, .own 3 y5.length (y5.flatMap ci64)), (8, .int .i64 y6), (9, .box [.str e10.1, .dat e10.2.length (e10.2.flatMap ci64)]), (10, .bool y10), (11, .int .i64 y11), (12, .int .i64 y12)] ⟨kr, kr, kr, kr, kr, kr, kr, kr, kr, trivial⟩ rfl ?_)
          refine ls_seq_k fun K19 hK19 => ?_
          refine ls_blk ?_
          refine ls_rd_k tbOk mixed (by kernel_rfl) fun K20 hK20 => ?_
          have kspec_FDVariables_J4 : ∀ (x21 : Bool), spec_FDVariables_J4 (loopF (spec_FDVariables_B3 a1 e10) m) a1 e10 y11 y12 x21 = some o3 → ∀ σ' : PS, okK σ' [(2, .box [.int .i64 a0.1, .dat a0.2.1.length (a0.2.1.flatMap c150_d), .dat a0.2.2.length (a0.2.2.flatMap ci64)]), (3, .box [.str a1.1, .dat a1.2.1.length (a1.2.1.flatMap ci64), .int .i64 a1.2.2]), (6, .own 3 y4.length (y4.flatMap ci64)), (7, .own 3 y5.length (y5.flatMap ci64)), (8, .int .i64 y6), (9, .box [.str e10.1, .dat e10.2.length (e10.2.flatMap ci64)]), (10, .bool x21), (11, .int .i64 y11), (12, .int .i64 y12)] → K20 σ' := by
            intro x21 h σ' hk
            unfold spec_FDVariables_J4 at h
            refine hK20 _ (ls_keep [(2, .box [.int .i64 a0.1, .dat a0.2.1.length (a0.2.1.flatMap c150_d), .dat a0.2.2.length (a0.2.2.flatMap ci64)]), (3, .box [.str a1.1, .dat a1.2.1.length (a1.2.1.flatMap ci64), .int .i64 a1.2.2]), (6, .own 3 y4.length (y4.flatMap ci64)), (7, .own 3 y5.length (y5.flatMap ci64)), (8, .int .i64 y6), (9, .box [.str e10.1, .dat e10.2.length (e10.2.flatMap ci64)]), (10, .bool x21), (11, .int .i64 y11), (12, .int .i64 y12)] hk rfl ?_)
            refine ls_rs tbOk ?_
            refine evs (ev_mv (c := .bool x21) rfl rfl rfl (evn ?_))
            refine ls_keep [(2, .box [.int .i64 a0.1, .dat a0.2.1.length (a0.2.1.flatMap c150_d), .dat a0.2.2.length (a0.2.2.flatMap ci64)]), (3, .box [.str a1.1, .dat a1.2.1.length (a1.2.1.flatMap ci64), .int .i64 a1.2.2]), (6, .own 3 y4.length (y4.flatMap ci64)), (7, .own 3 y5.length (y5.flatMap ci64)), (8, .int .i64 y6), (9, .box [.str e10.1, .dat e10.2.length (e10.2.flatMap ci64)]), (10, .bool x21), (11, .int .i64 y11), (12, .int .i64 y12), (65, .bool x21)] ⟨kr, kr, kr, kr, kr, kr, kr, kr, kr, kr, trivial⟩ rfl ?_
            have kspec_FDVariables_J5 : ∀ (x22 : Int), spec_FDVariables_J5 (loopF (spec_FDVariables_B3 a1 e10) m) y12 x21 x22 = some o3 → ∀ σ' : PS, okK σ' [(2, .box [.int .i64 a0.1, .dat a0.2.1.length (a0.2.1.flatMap c150_d), .dat a0.2.2.length (a0.2.2.flatMap ci64)]), (3, .box [.str a1.1, .dat a1.2.1.length (a1.2.1.flatMap ci64), .int .i64 a1.2.2]), (6, .own 3 y4.length (y4.flatMap ci64)), (7, .own 3 y5.length (y5.flatMap ci64)), (8, .int .i64 y6), (9, .box [.str e10.1, .dat e10.2.length (e10.2.flatMap ci64)]), (10, .bool x21), (11, .int .i64 x22), (12, .int .i64 y12)] → K19 σ' := by
              intro x22 h σ' hk
              unfold spec_FDVariables_J5 at h
              refine hK19 _ (ls_keep [(2, .box [.int .i64 a0.1, .dat a0.2.1.length (a0.2.1.flatMap c150_d), .dat a0.2.2.length (a0.2.2.flatMap ci64)]), (3, .box [.str a1.1, .dat a1.2.1.length (a1.2.1.flatMap ci64), .int .i64 a1.2.2]), (6, .own 3 y4.length (y4.flatMap ci64)), (7, .own 3 y5.length (y5.flatMap ci64)), (8, .int .i64 y6), (9, .box [.str e10.1, .dat e10.2.length (e10.2.flatMap ci64)]), (10, .bool x21), (11, .int .i64 x22), (12, .int .i64 y12)] hk rfl ?_)
              refine ls_rgn tbOk ?_
              refine evs (ev_mv (c := .int .i64 y12) rfl rfl rfl (evs (ev_bin (c1 := .int .i64 y12) (c2 := .int .i64 1) rfl rfl rfl (evs (ev_as (c := .int .i64 (IntKind.i64.wrap (y12 + 1))) rfl rfl rfl (evn ?_))))))
              exact hN _ (x21, x22, (IntKind.i64.wrap (y12 + 1))) h ⟨kr, kr, kr, kr, kr, kr, kr, kr, kr, trivial⟩
            rcases cond_some h with ⟨g23, h⟩ | ⟨g23, h⟩
            · refine ls_cT rfl g23 ?_
              refine ls_drw tbOk mixed (by kernel_rfl) ?_
              refine evd rfl rfl (ev_mv (c := .int .i64 y11) rfl rfl rfl (evd rfl rfl (ev_fa (c1 := .cref 9 0) (v := .cref 9 1) rfl rfl rfl ⟨_, rfl⟩ rfl (evd rfl rfl (ev_ldB (off := 1) (v := .dat e10.2.length (e10.2.flatMap ci64)) rfl rfl rfl rfl (Nat.le_of_ble_eq_true rfl) rfl (evd rfl rfl (ev_fa (c1 := .cref 3 0) (v := .cref 3 1) rfl rfl rfl ⟨_, rfl⟩ rfl (evd rfl rfl (ev_ldB (off := 1) (v := .dat a1.2.1.length (a1.2.1.flatMap ci64)) rfl rfl rfl rfl (Nat.le_of_ble_eq_true rfl) rfl (evd rfl rfl (ev_mv (c := .int .i64 y12) rfl rfl rfl (?_))))))))))))
              obtain ⟨e24, g25, h⟩ := ob_some h
              refine evd rfl rfl (ev_ia rfl rfl rfl ⟨(geti_some g25).1, (geti_some g25).2.1⟩ (evd rfl rfl (ev_ldE (off := 0) (v := .int .i64 e24) rfl rfl zci64 g25 rfl (Nat.le_of_ble_eq_true rfl) rfl (?_))))
              obtain ⟨e26, g27, h⟩ := ob_some h
              refine evd rfl rfl (ev_ia rfl rfl rfl ⟨(geti_some g27).1, (geti_some g27).2.1⟩ (evd rfl rfl (ev_ldE (off := 0) (v := .int .i64 e26) rfl rfl zci64 g27 rfl (Nat.le_of_ble_eq_true rfl) rfl (?_))))
              obtain ⟨g28, h⟩ := chk_some h
              refine evd rfl rfl (ev_bin (c1 := .int .i64 1) (c2 := .int .i64 e26) rfl rfl g28 (evd rfl rfl (ev_bin (c1 := .int .i64 y11) (c2 := .int .i64 (shlI 1 e26)) rfl rfl rfl (evd rfl rfl (ev_as (c := .int .i64 (orI y11 (shlI 1 e26))) rfl rfl rfl (evdn ?_))))))
              exact kspec_FDVariables_J5 (orI y11 (shlI 1 e26)) h _ ⟨kr, kr, kr, kr, kr, kr, kr, kr, kr, trivial⟩
            · refine ls_cF rfl g23 ?_
              refine ls_skip ?_
              exact kspec_FDVariables_J5 y11 h _ ⟨kr, kr, kr, kr, kr, kr, kr, kr, kr, trivial⟩
          refine evd rfl rfl (ev_mv (c := .bool y10) rfl rfl rfl (evd rfl rfl (ev_mv (c := .bool y10) rfl rfl rfl (?_))))
          rcases cond_some h with ⟨g29, h⟩ | ⟨g29, h⟩
          · refine evd rfl rfl (ev_gr rfl (congrArg V.bool g29) (ev_fa (c1 := .cref 3 0) (v := .cref 3 1) rfl rfl rfl ⟨_, rfl⟩ rfl (evd rfl rfl (ev_gr rfl (congrArg V.bool g29) (ev_ldB (off := 1) (v := .dat a1.2.1.length (a1.2.1.flatMap ci64)) rfl rfl rfl rfl (Nat.le_of_ble_eq_true rfl) rfl (evd rfl rfl (ev_gr rfl (congrArg V.bool g29) (ev_mv (c := .int .i64 y12) rfl rfl rfl (?_)))))))))
            obtain ⟨e30, g31, h⟩ := ob_some h
            refine evd rfl rfl (ev_gr rfl (congrArg V.bool g29) (ev_ia rfl rfl rfl ⟨(geti_some g31).1, (geti_some g31).2.1⟩ (evd rfl rfl (ev_gr rfl (congrArg V.bool g29) (ev_ldE (off := 0) (v := .int .i64 e30) rfl rfl zci64 g31 rfl (Nat.le_of_ble_eq_true rfl) rfl (evd rfl rfl (ev_gr rfl (congrArg V.bool g29) (ev_fa (c1 := .cref 9 0) (v := .cref 9 1) rfl rfl rfl ⟨_, rfl⟩ rfl (evd rfl rfl (ev_gr rfl (congrArg V.bool g29) (ev_ldB (off := 1) (v := .dat e10.2.length (e10.2.flatMap ci64)) rfl rfl rfl rfl (Nat.le_of_ble_eq_true rfl) rfl (evd rfl rfl (ev_gr rfl (congrArg V.bool g29) (ev_len (c1 := .dat e10.2.length (e10.2.flatMap ci64)) rfl rfl rfl (evd rfl rfl (ev_gr rfl (congrArg V.bool g29) (ev_bin (c1 := .int .i64 (List.length e10.2 : Int)) (c2 := .int .i64 1) rfl rfl rfl (?_))))))))))))))))))
            obtain ⟨v32, g33, h⟩ := ob_some h
            refine evd rfl rfl (ev_gr rfl (congrArg V.bool g29) (ev_call (era rfl rfl (era rfl rfl (era rfl rfl eran))) (spec_l1In_s g33) (evd rfl rfl (ev_pkT (c1 := .bool v32) rfl g29 rfl rfl (evd rfl rfl (ev_as (c := .bool v32) rfl rfl rfl (evdn ?_)))))))
            exact kspec_FDVariables_J4 v32 h _ ⟨kr, kr, kr, kr, kr, kr, kr, kr, kr, trivial⟩
          · refine evd rfl rfl (ev_gs rfl rfl (isb_F g29) (evd rfl rfl (ev_gs rfl rfl (isb_F g29) (evd rfl rfl (ev_gs rfl rfl (isb_F g29) (evd rfl rfl (ev_gs rfl rfl (isb_F g29) (evd rfl rfl (ev_gs rfl rfl (isb_F g29) (evd rfl rfl (ev_gs rfl rfl (isb_F g29) (evd rfl rfl (ev_gs rfl rfl (isb_F g29) (evd rfl rfl (ev_gs rfl rfl (isb_F g29) (evd rfl rfl (ev_gs rfl rfl (isb_F g29) (evd rfl rfl (ev_gs rfl rfl (isb_F g29) (evd rfl rfl (ev_pkF (c1 := .bool false) rfl g29 rfl rfl (evd rfl rfl (ev_as (c := .bool false) rfl rfl rfl (evdn ?_))))))))))))))))))))))))
            exact kspec_FDVariables_J4 false h _ ⟨kr, kr, kr, kr, kr, kr, kr, kr, kr, trivial⟩
        · refine ls_cF rfl g18 ?_
          refine ls_exit ?_
          have q0 := (Option.some.inj h).symm
          have r0 := hr3
          rw [q0] at r0
          exact kXspec_FDVariables_B3 y10 y11 r0 _ ⟨kr, kr, kr, kr, kr, kr, kr, kr, trivial⟩
      refine evs (ev_fa (c1 := .cref 9 0) (v := .cref 9 0) rfl rfl rfl ⟨_, rfl⟩ rfl (evs (ev_ldB (off := 0) (v := .str e10.1) rfl rfl rfl rfl (Nat.le_of_ble_eq_true rfl) rfl (evs (ev_fa (c1 := .cref 3 0) (v := .cref 3 0) rfl rfl rfl ⟨_, rfl⟩ rfl (evs (ev_ldB (off := 0) (v := .str a1.1) rfl rfl rfl rfl (Nat.le_of_ble_eq_true rfl) rfl (evs (ev_bin (c1 := .str e10.1) (c2 := .str a1.1) rfl rfl trivial (evs (ev_mv (c := .bool (e10.1 == a1.1)) rfl rfl rfl (?_))))))))))))
      rcases cond_some h with ⟨g43, h⟩ | ⟨g43, h⟩
      · refine evs (ev_gr rfl (congrArg V.bool g43) (ev_fa (c1 := .cref 3 0) (v := .cref 3 2) rfl rfl rfl ⟨_, rfl⟩ rfl (evs (ev_gr rfl (congrArg V.bool g43) (ev_ldB (off := 2) (v := .int .i64 a1.2.2) rfl rfl rfl rfl (Nat.le_of_ble_eq_true rfl) rfl (evs (ev_gr rfl (congrArg V.bool g43) (ev_fa (c1 := .cref 9 0) (v := .cref 9 1) rfl rfl rfl ⟨_, rfl⟩ rfl (evs (ev_gr rfl (congrArg V.bool g43) (ev_ldB (off := 1) (v := .dat e10.2.length (e10.2.flatMap ci64)) rfl rfl rfl rfl (Nat.le_of_ble_eq_true rfl) rfl (evs (ev_gr rfl (congrArg V.bool g43) (ev_len (c1 := .dat e10.2.length (e10.2.flatMap ci64)) rfl rfl rfl (evs (ev_gr rfl (congrArg V.bool g43) (ev_bin (c1 := .int .i64 (List.length e10.2 : Int)) (c2 := .int .i64 1) rfl rfl rfl (?_))))))))))))))))))
        obtain ⟨v44, g45, h⟩ := ob_some h
        refine evs (ev_gr rfl (congrArg V.bool g43) (ev_call (era rfl rfl (era rfl rfl (era rfl rfl eran))) (spec_l1In_s g45) (evs (ev_pkT (c1 := .bool v44) rfl g43 rfl rfl (evs (ev_as (c := .bool v44) rfl rfl rfl (evn ?_)))))))
        exact kspec_FDVariables_J2 v44 h _ ⟨kr, kr, kr, kr, kr, kr, kr, trivial⟩
      · refine evs (ev_gs rfl rfl (isb_F g43) (evs (ev_gs rfl rfl (isb_F g43) (evs (ev_gs rfl rfl (isb_F g43) (evs (ev_gs rfl rfl (isb_F g43) (evs (ev_gs rfl rfl (isb_F g43) (evs (ev_gs rfl rfl (isb_F g43) (evs (ev_gs rfl rfl (isb_F g43) (evs (ev_pkF (c1 := .bool false) rfl g43 rfl rfl (evs (ev_as (c := .bool false) rfl rfl rfl (evn ?_))))))))))))))))))
        exact kspec_FDVariables_J2 false h _ ⟨kr, kr, kr, kr, kr, kr, kr, trivial⟩
    · refine ls_cF rfl g8 ?_
      refine ls_exit ?_
      have q0 := (Option.some.inj h).symm
      have r0 := hr1
      rw [q0] at r0
      exact kXspec_FDVariables_B1 y4 y5 r0 _ ⟨kr, kr, trivial⟩
  · refine evs (ev_gs rfl rfl (isb_F g5) (evs (ev_gs rfl rfl (isb_F g5) (evs (ev_pkF (c1 := .bool false) rfl g5 rfl rfl (evn ?_))))))
    refine ls_keep [(2, .box [.int .i64 a0.1, .dat a0.2.1.length (a0.2.1.flatMap c150_d), .dat a0.2.2.length (a0.2.2.flatMap ci64)]), (3, .box [.str a1.1, .dat a1.2.1.length (a1.2.1.flatMap ci64), .int .i64 a1.2.2]), (6, .own 3 y4.length (y4.flatMap ci64)), (7, .own 3 y5.length (y5.flatMap ci64)), (8, .int .i64 y6), (23, .bool false)] ⟨kr, kr, kr, kr, kr, kr, trivial⟩ rfl ?_
    refine ls_cF rfl rfl ?_
    refine ls_exit ?_
    have q0 := (Option.some.inj h).symm
    have r0 := hr1
    rw [q0] at r0
    exact kXspec_FDVariables_B1 y4 y5 r0 _ ⟨kr, kr, trivial⟩
def spec_FDClosure_J2 (rec : (Int × Int) → Option (Int)) (y2 : Int) (x14 : Int) : Option (Int) := rec (x14, (IntKind.i64.wrap (y2 + 1)))
def spec_FDClosure_B1 (a0 : Int × (List ((List UInt8) × (List Int))) × (List Int)) (a2 : List Int) (rec : (Int × Int) → Option (Int)) (s : Int × Int) : Option (Int) := match s with
  | (y1, y2) => cond (decide (y2 < (List.length a2 : Int))) (obind (geti a2 y2) fun e10 => obind (spec_l1In e10 0 (IntKind.i64.wrap (a0.1 - 1))) fun v12 => cond v12 (obind (geti a2 y2) fun e16 => chk ((0 : Int) ≤ e16) (spec_FDClosure_J2 rec y2 (orI y1 (shlI 1 e16)))) (spec_FDClosure_J2 rec y2 y1)) (some y1)
def spec_FDClosure_J7 (rec : (Int × Int) → Option (Int)) (y28 : Int) (x38 : Int) : Option (Int) := rec (x38, (IntKind.i64.wrap (y28 + 1)))
def spec_FDClosure_J6 (rec : (Int × Int) → Option (Int)) (v30 : (List Int) × (List Int)) (y27 : Int) (y28 : Int) (x37 : Bool) : Option (Int) := cond x37 (obind (geti v30.2 y28) fun e40 => chk ((0 : Int) ≤ e40) (spec_FDClosure_J7 rec y28 (orI y27 (shlI 1 e40)))) (spec_FDClosure_J7 rec y28 y27)
def spec_FDClosure_B5 (v30 : (List Int) × (List Int)) (rec : (Int × Int) → Option (Int)) (s : Int × Int) : Option (Int) := match s with
  | (y27, y28) => cond (decide (y28 < (List.length v30.1 : Int))) (obind (geti v30.2 y28) fun e43 => cond (decide (0 ≤ e43)) (obind (geti v30.1 y28) fun e46 => spec_FDClosure_J6 rec v30 y27 y28 ((andNotI e46 y27) == 0)) (spec_FDClosure_J6 rec v30 y27 y28 false)) (some y27)
def spec_FDClosure_B4 (a0 : Int × (List ((List UInt8) × (List Int))) × (List Int)) (a1 : List ((List UInt8) × (List Int) × Int)) (rec : (Int × Int) → Option (Int)) (s : Int × Int) : Option (Int) := match s with
  | (y23, y24) => cond (decide (y24 < (List.length a1 : Int))) (obind (geti a1 y24) fun e28 => obind (spec_FDVariables a0 e28) fun v30 => obind (loopF (spec_FDClosure_B5 v30) fz (y23, 0)) fun z32 => rec (z32, (IntKind.i64.wrap (y24 + 1)))) (some y23)
def spec_FDClosure_B3 (a0 : Int × (List ((List UInt8) × (List Int))) × (List Int)) (a1 : List ((List UInt8) × (List Int) × Int)) (rec : (Int × Int) → Option (Int)) (s : Int × Int) : Option (Int) := match s with
  | (y11, y12) => cond (decide (y12 < a0.1)) (obind (loopF (spec_FDClosure_B4 a0 a1) fz (y11, 0)) fun z24 => rec (z24, (IntKind.i64.wrap (y12 + 1)))) (some y11)
def spec_FDClosure_J9 (rec : ((List Int) × Int) → Option ((List Int))) (y30 : Int) (x54 : List Int) : Option ((List Int)) := rec (x54, (IntKind.i64.wrap (y30 + 1)))
def spec_FDClosure_B8 (a0 : Int × (List ((List UInt8) × (List Int))) × (List Int)) (z20 : Int) (rec : ((List Int) × Int) → Option ((List Int))) (s : (List Int) × Int) : Option ((List Int)) := match s with
  | (y29, y30) => cond (decide (y30 < a0.1)) (chk ((0 : Int) ≤ y30) (cond ((andI (shrI z20 y30) 1) == 1) (chk (List.length y29 + List.length [y30] ≤ lim) (spec_FDClosure_J9 rec y30 (y29 ++ [y30]))) (spec_FDClosure_J9 rec y30 y29))) (some y29)
def spec_FDClosure (a0 : Int × (List ((List UInt8) × (List Int))) × (List Int)) (a1 : List ((List UInt8) × (List Int) × Int)) (a2 : List Int) : Option ((List Int)) := obind (spec_IsValidQuery a0) fun v2 => cond (!v2) (some ([] : List Int)) (obind (loopF (spec_FDClosure_B1 a0 a2) fz (0, 0)) fun z6 => obind (loopF (spec_FDClosure_B3 a0 a1) fz (z6, 0)) fun z20 => obind (loopF (spec_FDClosure_B8 a0 z20) fz (([] : List Int), 0)) fun z49 => some z49)
theorem spec_FDClosure_s {a0 : Int × (List ((List UInt8) × (List Int))) × (List Int)} {a1 : List ((List UInt8) × (List Int) × Int)} {a2 : List Int} {r : (List Int)} (h : spec_FDClosure a0 a1 a2 = some r) : SoundAt Try.prog 75 [.agg [.int .i64 a0.1, .dat a0.2.1.length (a0.2.1.flatMap c150_d), .dat a0.2.2.length (a0.2.2.flatMap ci64)], .dat a1.length (a1.flatMap c86_d), .dat a2.length (a2.flatMap ci64)] (.own 3 r.length (r.flatMap ci64)) := by
  unfold spec_FDClosure at h
  refine sound_lit tbOk lit75 (Nat.le_of_ble_eq_true rfl) rfl ?_
  unfold c75
  refine ls_keep [(0, .agg [.int .i64 a0.1, .dat a0.2.1.length (a0.2.1.flatMap c150_d), .dat a0.2.2.length (a0.2.2.flatMap ci64)]), (1, .dat a1.length (a1.flatMap c86_d)), (2, .dat a2.length (a2.flatMap ci64))] ⟨kr, kr, kr, trivial⟩ rfl ?_
  refine ls_rs tbOk ?_
  refine evs (ev_bx (c1 := .agg [.int .i64 a0.1, .dat a0.2.1.length (a0.2.1.flatMap c150_d), .dat a0.2.2.length (a0.2.2.flatMap ci64)]) rfl rfl rfl (evs (ev_an rfl rfl (evn ?_))))
  refine ls_keep [(1, .dat a1.length (a1.flatMap c86_d)), (2, .dat a2.length (a2.flatMap ci64)), (3, .box [.int .i64 a0.1, .dat a0.2.1.length (a0.2.1.flatMap c150_d), .dat a0.2.2.length (a0.2.2.flatMap ci64)])] ⟨kr, kr, kr, trivial⟩ rfl ?_
  refine ls_rs tbOk ?_
  refine evs (ev_bs [] (cs := []) rfl trivial rfl (Nat.le_of_ble_eq_true rfl) rfl (evs (ev_as (c := .own 3 ([] : List Int).length (([] : List Int).flatMap ci64)) rfl rfl rfl (evn ?_))))
  refine ls_keep [(1, .dat a1.length (a1.flatMap c86_d)), (2, .dat a2.length (a2.flatMap ci64)), (3, .box [.int .i64 a0.1, .dat a0.2.1.length (a0.2.1.flatMap c150_d), .dat a0.2.2.length (a0.2.2.flatMap ci64)]), (7, .own 3 ([] : List Int).length (([] : List Int).flatMap ci64))] ⟨kr, kr, kr, kr, trivial⟩ rfl ?_
  refine ls_seq_k fun K1 hK1 => ?_
  refine ls_rs tbOk ?_
  refine evs (ev_ldB (off := 0) (v := .agg [.int .i64 a0.1, .dat a0.2.1.length (a0.2.1.flatMap c150_d), .dat a0.2.2.length (a0.2.2.flatMap ci64)]) rfl rfl rfl rfl (Nat.le_of_ble_eq_true rfl) rfl (?_))
  obtain ⟨v2, g3, h⟩ := ob_some h
  refine evs (ev_call (era rfl (erg (erc rfl (erc (erD ec150_d _) (erc (erD eci64 _) rfl)))) eran) (spec_IsValidQuery_s g3) (evs (ev_un (c1 := .bool v2) rfl trivial (evn ?_))))
  refine ls_keep [(1, .dat a1.length (a1.flatMap c86_d)), (2, .dat a2.length (a2.flatMap ci64)), (3, .box [.int .i64 a0.1, .dat a0.2.1.length (a0.2.1.flatMap c150_d), .dat a0.2.2.length (a0.2.2.flatMap ci64)]), (7, .own 3 ([] : List Int).length (([] : List Int).flatMap ci64)), (19, .bool (!v2))] ⟨kr, kr, kr, kr, kr, trivial⟩ rfl ?_
  rcases cond_some h with ⟨g4, h⟩ | ⟨g4, h⟩
  · refine ls_cT rfl g4 ?_
    refine ls_rs tbOk ?_
    refine evs (ev_mvt (c := .own 3 ([] : List Int).length (([] : List Int).flatMap ci64)) rfl rfl rfl (evs (ev_as (c := .own 3 ([] : List Int).length (([] : List Int).flatMap ci64)) rfl rfl rfl (evn ?_))))
    refine ls_keep [(6, .own 3 ([] : List Int).length (([] : List Int).flatMap ci64))] ⟨kr, trivial⟩ rfl ?_
    refine ls_ret ?_
    have hr := Option.some.inj h
    rw [← hr]
    exact ⟨.inl rfl, rfl⟩
  · refine ls_cF rfl g4 ?_
    refine ls_skip ?_
    refine hK1 _ (ls_keep [(1, .dat a1.length (a1.flatMap c86_d)), (2, .dat a2.length (a2.flatMap ci64)), (3, .box [.int .i64 a0.1, .dat a0.2.1.length (a0.2.1.flatMap c150_d), .dat a0.2.2.length (a0.2.2.flatMap ci64)]), (7, .own 3 ([] : List Int).length (([] : List Int).flatMap ci64))] ⟨kr, kr, kr, kr, trivial⟩ rfl ?_)
    refine ls_rs tbOk ?_
    refine evs (ev_ac rfl nofun rfl (evn ?_))
    refine ls_keep [(1, .dat a1.length (a1.flatMap c86_d)), (2, .dat a2.length (a2.flatMap ci64)), (3, .box [.int .i64 a0.1, .dat a0.2.1.length (a0.2.1.flatMap c150_d), .dat a0.2.2.length (a0.2.2.flatMap ci64)]), (7, .own 3 ([] : List Int).length (([] : List Int).flatMap ci64)), (8, .int .i64 0)] ⟨kr, kr, kr, kr, kr, trivial⟩ rfl ?_
    refine ls_seq_k fun K5 hK5 => ?_
    refine ls_rs tbOk ?_
    refine evs (ev_ac rfl nofun rfl (evn ?_))
    refine ls_keep [(1, .dat a1.length (a1.flatMap c86_d)), (2, .dat a2.length (a2.flatMap ci64)), (3, .box [.int .i64 a0.1, .dat a0.2.1.length (a0.2.1.flatMap c150_d), .dat a0.2.2.length (a0.2.2.flatMap ci64)]), (7, .own 3 ([] : List Int).length (([] : List Int).flatMap ci64)), (8, .int .i64 0), (9, .int .i64 0)] ⟨kr, kr, kr, kr, kr, kr, trivial⟩ rfl ?_
    obtain ⟨o1, hl, hr1⟩ := ob_some h
    clear h
    have kXspec_FDClosure_B1 : ∀ (z6 : Int), (obind (loopF (spec_FDClosure_B3 a0 a1) fz (z6, 0)) fun z20 => obind (loopF (spec_FDClosure_B8 a0 z20) fz (([] : List Int), 0)) fun z49 => some z49) = some r → ∀ σ' : PS, okK σ' [(1, .dat a1.length (a1.flatMap c86_d)), (3, .box [.int .i64 a0.1, .dat a0.2.1.length (a0.2.1.flatMap c150_d), .dat a0.2.2.length (a0.2.2.flatMap ci64)]), (7, .own 3 ([] : List Int).length (([] : List Int).flatMap ci64)), (8, .int .i64 z6)] → K5 σ' := by
      intro z6 h σ' hk
      refine hK5 _ (ls_keep [(1, .dat a1.length (a1.flatMap c86_d)), (3, .box [.int .i64 a0.1, .dat a0.2.1.length (a0.2.1.flatMap c150_d), .dat a0.2.2.length (a0.2.2.flatMap ci64)]), (7, .own 3 ([] : List Int).length (([] : List Int).flatMap ci64)), (8, .int .i64 z6)] hk rfl ?_)
      refine ls_seq_k fun K19 hK19 => ?_
      refine ls_rs tbOk ?_
      refine evs (ev_ac rfl nofun rfl (evn ?_))
      refine ls_keep [(1, .dat a1.length (a1.flatMap c86_d)), (3, .box [.int .i64 a0.1, .dat a0.2.1.length (a0.2.1.flatMap c150_d), .dat a0.2.2.length (a0.2.2.flatMap ci64)]), (7, .own 3 ([] : List Int).length (([] : List Int).flatMap ci64)), (8, .int .i64 z6), (10, .int .i64 0)] ⟨kr, kr, kr, kr, kr, trivial⟩ rfl ?_
      obtain ⟨o3, hl, hr3⟩ := ob_some h
      clear h
      have kXspec_FDClosure_B3 : ∀ (z20 : Int), (obind (loopF (spec_FDClosure_B8 a0 z20) fz (([] : List Int), 0)) fun z49 => some z49) = some r → ∀ σ' : PS, okK σ' [(3, .box [.int .i64 a0.1, .dat a0.2.1.length (a0.2.1.flatMap c150_d), .dat a0.2.2.length (a0.2.2.flatMap ci64)]), (7, .own 3 ([] : List Int).length (([] : List Int).flatMap ci64)), (8, .int .i64 z20)] → K19 σ' := by
        intro z20 h σ' hk
        refine hK19 _ (ls_keep [(3, .box [.int .i64 a0.1, .dat a0.2.1.length (a0.2.1.flatMap c150_d), .dat a0.2.2.length (a0.2.2.flatMap ci64)]), (7, .own 3 ([] : List Int).length (([] : List Int).flatMap ci64)), (8, .int .i64 z20)] hk rfl ?_)
        refine ls_seq_k fun K48 hK48 => ?_
        refine ls_rs tbOk ?_
        refine evs (ev_ac rfl nofun rfl (evn ?_))
        refine ls_keep [(3, .box [.int .i64 a0.1, .dat a0.2.1.length (a0.2.1.flatMap c150_d), .dat a0.2.2.length (a0.2.2.flatMap ci64)]), (7, .own 3 ([] : List Int).length (([] : List Int).flatMap ci64)), (8, .int .i64 z20), (15, .int .i64 0)] ⟨kr, kr, kr, kr, trivial⟩ rfl ?_
        obtain ⟨o8, hl, hr8⟩ := ob_some h
        clear h
        have kXspec_FDClosure_B8 : ∀ (z49 : List Int), (some z49) = some r → ∀ σ' : PS, okK σ' [(7, .own 3 z49.length (z49.flatMap ci64))] → K48 σ' := by
          intro z49 h σ' hk
          refine hK48 _ (ls_keep [(7, .own 3 z49.length (z49.flatMap ci64))] hk rfl ?_)
          refine ls_rs tbOk ?_
          refine evs (ev_mvt (c := .own 3 z49.length (z49.flatMap ci64)) rfl rfl rfl (evs (ev_as (c := .own 3 z49.length (z49.flatMap ci64)) rfl rfl rfl (evn ?_))))
          refine ls_keep [(6, .own 3 z49.length (z49.flatMap ci64))] ⟨kr, trivial⟩ rfl ?_
          refine ls_ret ?_
          have hr := Option.some.inj h
          rw [← hr]
          exact ⟨.inl rfl, rfl⟩
        refine ls_rec (fun (s : (List Int) × Int) => match s with | (y29, y30) => [(3, .box [.int .i64 a0.1, .dat a0.2.1.length (a0.2.1.flatMap c150_d), .dat a0.2.2.length (a0.2.2.flatMap ci64)]), (7, .own 3 y29.length (y29.flatMap ci64)), (8, .int .i64 z20), (15, .int .i64 y30)]) (spec_FDClosure_B8 a0 z20) fz (([] : List Int), 0) o8 hl ⟨kr, kr, kr, kr, trivial⟩ (fun _ => rfl) ?_
        rintro m ⟨y29, y30⟩ N h hN
        unfold spec_FDClosure_B8 at h
        dsimp only at h
        refine ls_seq_k fun K50 hK50 => ?_
        refine ls_rs tbOk ?_
        refine evs (ev_mv (c := .int .i64 y30) rfl rfl rfl (evs (ev_fa (c1 := .cref 3 0) (v := .cref 3 0) rfl rfl rfl ⟨_, rfl⟩ rfl (evs (ev_ldB (off := 0) (v := .int .i64 a0.1) rfl rfl rfl rfl (Nat.le_of_ble_eq_true rfl) rfl (evs (ev_bin (c1 := .int .i64 y30) (c2 := .int .i64 a0.1) rfl rfl rfl (evn ?_))))))))
        refine ls_keep [(3, .box [.int .i64 a0.1, .dat a0.2.1.length (a0.2.1.flatMap c150_d), .dat a0.2.2.length (a0.2.2.flatMap ci64)]), (7, .own 3 y29.length (y29.flatMap ci64)), (8, .int .i64 z20), (15, .int .i64 y30), (93, .bool (decide (y30 < a0.1)))] ⟨kr, kr, kr, kr, kr, trivial⟩ rfl ?_
        rcases cond_some h with ⟨g51, h⟩ | ⟨g51, h⟩
        · refine ls_cT rfl g51 ?_
          refine ls_skip ?_
          refine hK50 _ (ls_keep [(3, .box [.int .i64 a0.1, .dat a0.2.1.length (a0.2.1.flatMap c150_d), .dat a0.2.2.length (a0.2.2.flatMap ci64)]), (7, .own 3 y29.length (y29.flatMap ci64)), (8, .int .i64 z20), (15, .int .i64 y30)] ⟨kr, kr, kr, kr, trivial⟩ rfl ?_)
          refine ls_seq_k fun K52 hK52 => ?_
          refine ls_blk ?_
          refine ls_rs tbOk ?_
          refine evs (ev_mv (c := .int .i64 z20) rfl rfl rfl (evs (ev_mv (c := .int .i64 y30) rfl rfl rfl (?_))))
          obtain ⟨g53, h⟩ := chk_some h
          refine evs (ev_bin (c1 := .int .i64 z20) (c2 := .int .i64 y30) rfl rfl g53 (evs (ev_bin (c1 := .int .i64 (shrI z20 y30)) (c2 := .int .i64 1) rfl rfl rfl (evs (ev_bin (c1 := .int .i64 (andI (shrI z20 y30) 1)) (c2 := .int .i64 1) rfl rfl rfl (evn ?_))))))
          refine ls_keep [(3, .box [.int .i64 a0.1, .dat a0.2.1.length (a0.2.1.flatMap c150_d), .dat a0.2.2.length (a0.2.2.flatMap ci64)]), (7, .own 3 y29.length (y29.flatMap ci64)), (8, .int .i64 z20), (15, .int .i64 y30), (100, .bool ((andI (shrI z20 y30) 1) == 1))] ⟨kr, kr, kr, kr, kr, trivial⟩ rfl ?_
          have kspec_FDClosure_J9 : ∀ (x54 : List Int), spec_FDClosure_J9 (loopF (spec_FDClosure_B8 a0 z20) m) y30 x54 = some o8 → ∀ σ' : PS, okK σ' [(3, .box [.int .i64 a0.1, .dat a0.2.1.length (a0.2.1.flatMap c150_d), .dat a0.2.2.length (a0.2.2.flatMap ci64)]), (7, .own 3 x54.length (x54.flatMap ci64)), (8, .int .i64 z20), (15, .int .i64 y30)] → K52 σ' := by
            intro x54 h σ' hk
            unfold spec_FDClosure_J9 at h
            refine hK52 _ (ls_keep [(3, .box [.int .i64 a0.1, .dat a0.2.1.length (a0.2.1.flatMap c150_d), .dat a0.2.2.length (a0.2.2.flatMap ci64)]), (7, .own 3 x54.length (x54.flatMap ci64)), (8, .int .i64 z20), (15, .int .i64 y30)] hk rfl ?_)
            refine ls_rgn tbOk ?_
            refine evs (ev_mv (c := .int .i64 y30) rfl rfl rfl (evs (ev_bin (c1 := .int .i64 y30) (c2 := .int .i64 1) rfl rfl rfl (evs (ev_as (c := .int .i64 (IntKind.i64.wrap (y30 + 1))) rfl rfl rfl (evn ?_))))))
            exact hN _ (x54, (IntKind.i64.wrap (y30 + 1))) h ⟨kr, kr, kr, kr, trivial⟩
          rcases cond_some h with ⟨g55, h⟩ | ⟨g55, h⟩
          · refine ls_cT rfl g55 ?_
            refine ls_rgn tbOk ?_
            refine evs (ev_mvt (c := .own 3 y29.length (y29.flatMap ci64)) rfl rfl rfl (evs (ev_mv (c := .int .i64 y30) rfl rfl rfl (evs (ev_bs [.int .i64 y30] (cs := [.int .i64 y30]) rfl ⟨rfl, trivial⟩ rfl (Nat.le_of_ble_eq_true rfl) rfl (?_))))))
            obtain ⟨g56, h⟩ := chk_some h
            refine evs (ev_app (f := ci64) (l := y29) (m := [y30]) (c2 := .own 3 [y30].length ([y30].flatMap ci64)) rfl rfl rfl (flat_len zci64 [y30]) rfl rfl g56 rfl (evs (ev_as (c := .own 3 (y29 ++ [y30]).length ((y29 ++ [y30]).flatMap ci64)) rfl rfl rfl (evn ?_))))
            exact kspec_FDClosure_J9 (y29 ++ [y30]) h _ ⟨kr, kr, kr, kr, trivial⟩
          · refine ls_cF rfl g55 ?_
            refine ls_skip ?_
            exact kspec_FDClosure_J9 y29 h _ ⟨kr, kr, kr, kr, trivial⟩
        · refine ls_cF rfl g51 ?_
          refine ls_exit ?_
          have q0 := (Option.some.inj h).symm
          have r0 := hr8
          rw [q0] at r0
          exact kXspec_FDClosure_B8 y29 r0 _ ⟨kr, trivial⟩
      refine ls_rec (fun (s : Int × Int) => match s with | (y11, y12) => [(1, .dat a1.length (a1.flatMap c86_d)), (3, .box [.int .i64 a0.1, .dat a0.2.1.length (a0.2.1.flatMap c150_d), .dat a0.2.2.length (a0.2.2.flatMap ci64)]), (7, .own 3 ([] : List Int).length (([] : List Int).flatMap ci64)), (8, .int .i64 y11), (10, .int .i64 y12)]) (spec_FDClosure_B3 a0 a1) fz (z6, 0) o3 hl ⟨kr, kr, kr, kr, kr, trivial⟩ (fun _ => rfl) ?_
      rintro m ⟨y11, y12⟩ N h hN
      unfold spec_FDClosure_B3 at h
      dsimp only at h
      refine ls_seq_k fun K21 hK21 => ?_
      refine ls_rs tbOk ?_
      refine evs (ev_mv (c := .int .i64 y12) rfl rfl rfl (evs (ev_fa (c1 := .cref 3 0) (v := .cref 3 0) rfl rfl rfl ⟨_, rfl⟩ rfl (evs (ev_ldB (off := 0) (v := .int .i64 a0.1) rfl rfl rfl rfl (Nat.le_of_ble_eq_true rfl) rfl (evs (ev_bin (c1 := .int .i64 y12) (c2 := .int .i64 a0.1) rfl rfl rfl (evn ?_))))))))
      refine ls_keep [(1, .dat a1.length (a1.flatMap c86_d)), (3, .box [.int .i64 a0.1, .dat a0.2.1.length (a0.2.1.flatMap c150_d), .dat a0.2.2.length (a0.2.2.flatMap ci64)]), (7, .own 3 ([] : List Int).length (([] : List Int).flatMap ci64)), (8, .int .i64 y11), (10, .int .i64 y12), (45, .bool (decide (y12 < a0.1)))] ⟨kr, kr, kr, kr, kr, kr, trivial⟩ rfl ?_
      rcases cond_some h with ⟨g22, h⟩ | ⟨g22, h⟩
      · refine ls_cT rfl g22 ?_
        refine ls_skip ?_
        refine hK21 _ (ls_keep [(1, .dat a1.length (a1.flatMap c86_d)), (3, .box [.int .i64 a0.1, .dat a0.2.1.length (a0.2.1.flatMap c150_d), .dat a0.2.2.length (a0.2.2.flatMap ci64)]), (7, .own 3 ([] : List Int).length (([] : List Int).flatMap ci64)), (8, .int .i64 y11), (10, .int .i64 y12)] ⟨kr, kr, kr, kr, kr, trivial⟩ rfl ?_)
        refine ls_seq_k fun K23 hK23 => ?_
        refine ls_blk ?_
        refine ls_rs tbOk ?_
        refine evs (ev_ac rfl nofun rfl (evn ?_))
        refine ls_keep [(1, .dat a1.length (a1.flatMap c86_d)), (3, .box [.int .i64 a0.1, .dat a0.2.1.length (a0.2.1.flatMap c150_d), .dat a0.2.2.length (a0.2.2.flatMap ci64)]), (7, .own 3 ([] : List Int).length (([] : List Int).flatMap ci64)), (8, .int .i64 y11), (10, .int .i64 y12), (11, .int .i64 0)] ⟨kr, kr, kr, kr, kr, kr, trivial⟩ rfl ?_
        obtain ⟨o4, hl, hr4⟩ := ob_some h
        clear h
        have kXspec_FDClosure_B4 : ∀ (z24 : Int), ((loopF (spec_FDClosure_B3 a0 a1) m) (z24, (IntKind.i64.wrap (y12 + 1)))) = some o3 → ∀ σ' : PS, okK σ' [(1, .dat a1.length (a1.flatMap c86_d)), (3, .box [.int .i64 a0.1, .dat a0.2.1.length (a0.2.1.flatMap c150_d), .dat a0.2.2.length (a0.2.2.flatMap ci64)]), (7, .own 3 ([] : List Int).length (([] : List Int).flatMap ci64)), (8, .int .i64 z24), (10, .int .i64 y12)] → K23 σ' := by
          intro z24 h σ' hk
          refine hK23 _ (ls_keep [(1, .dat a1.length (a1.flatMap c86_d)), (3, .box [.int .i64 a0.1, .dat a0.2.1.length (a0.2.1.flatMap c150_d), .dat a0.2.2.length (a0.2.2.flatMap ci64)]), (7, .own 3 ([] : List Int).length (([] : List Int).flatMap ci64)), (8, .int .i64 z24), (10, .int .i64 y12)] hk rfl ?_)
          refine ls_rgn tbOk ?_
          refine evs (ev_mv (c := .int .i64 y12) rfl rfl rfl (evs (ev_bin (c1 := .int .i64 y12) (c2 := .int .i64 1) rfl rfl rfl (evs (ev_as (c := .int .i64 (IntKind.i64.wrap (y12 + 1))) rfl rfl rfl (evn ?_))))))
          exact hN _ (z24, (IntKind.i64.wrap (y12 + 1))) h ⟨kr, kr, kr, kr, kr, trivial⟩
        refine ls_rec (fun (s : Int × Int) => match s with | (y23, y24) => [(1, .dat a1.length (a1.flatMap c86_d)), (3, .box [.int .i64 a0.1, .dat a0.2.1.length (a0.2.1.flatMap c150_d), .dat a0.2.2.length (a0.2.2.flatMap ci64)]), (7, .own 3 ([] : List Int).length (([] : List Int).flatMap ci64)), (8, .int .i64 y23), (10, .int .i64 y12), (11, .int .i64 y24)]) (spec_FDClosure_B4 a0 a1) fz (y11, 0) o4 hl ⟨kr, kr, kr, kr, kr, kr, trivial⟩ (fun _ => rfl) ?_
        rintro m ⟨y23, y24⟩ N h hN
        unfold spec_FDClosure_B4 at h
        dsimp only at h
        refine ls_seq_k fun K25 hK25 => ?_
        refine ls_rs tbOk ?_
        refine evs (ev_mv (c := .int .i64 y24) rfl rfl rfl (evs (ev_mv (c := .dat a1.length (a1.flatMap c86_d)) rfl rfl rfl (evs (ev_len (c1 := .dat a1.length (a1.flatMap c86_d)) rfl rfl rfl (evs (ev_bin (c1 := .int .i64 y24) (c2 := .int .i64 (List.length a1 : Int)) rfl rfl rfl (evn ?_))))))))
        refine ls_keep [(1, .dat a1.length (a1.flatMap c86_d)), (3, .box [.int .i64 a0.1, .dat a0.2.1.length (a0.2.1.flatMap c150_d), .dat a0.2.2.length (a0.2.2.flatMap ci64)]), (7, .own 3 ([] : List Int).length (([] : List Int).flatMap ci64)), (8, .int .i64 y23), (10, .int .i64 y12), (11, .int .i64 y24), (51, .bool (decide (y24 < (List.length a1 : Int))))] ⟨kr, kr, kr, kr, kr, kr, kr, trivial⟩ rfl ?_
        rcases cond_some h with ⟨g26, h⟩ | ⟨g26, h⟩
        · refine ls_cT rfl g26 ?_
          refine ls_skip ?_
          refine hK25 _ (ls_keep [(1, .dat a1.length (a1.flatMap c86_d)), (3, .box [.int .i64 a0.1, .dat a0.2.1.length (a0.2.1.flatMap c150_d), .dat a0.2.2.length (a0.2.2.flatMap ci64)]), (7, .own 3 ([] : List Int).length (([] : List Int).flatMap ci64)), (8, .int .i64 y23), (10, .int .i64 y12), (11, .int .i64 y24)] ⟨kr, kr, kr, kr, kr, kr, trivial⟩ rfl ?_)
          refine ls_seq_k fun K27 hK27 => ?_
          refine ls_blk ?_
          refine ls_rd tbOk mixed (by kernel_rfl) ?_
          refine evd rfl rfl (ev_ldB (off := 0) (v := .agg [.int .i64 a0.1, .dat a0.2.1.length (a0.2.1.flatMap c150_d), .dat a0.2.2.length (a0.2.2.flatMap ci64)]) rfl rfl rfl rfl (Nat.le_of_ble_eq_true rfl) rfl (evd rfl rfl (ev_mv (c := .dat a1.length (a1.flatMap c86_d)) rfl rfl rfl (evd rfl rfl (ev_mv (c := .int .i64 y24) rfl rfl rfl (?_))))))
          obtain ⟨e28, g29, h⟩ := ob_some h
          refine evd rfl rfl (ev_ia rfl rfl rfl ⟨(geti_some g29).1, (geti_some g29).2.1⟩ (evd rfl rfl (ev_ldE (off := 0) (v := .agg [.str e28.1, .dat e28.2.1.length (e28.2.1.flatMap ci64), .int .i64 e28.2.2]) rfl rfl zc86_d g29 rfl (Nat.le_of_ble_eq_true rfl) rfl (?_))))
          obtain ⟨v30, g31, h⟩ := ob_some h
          refine evd rfl rfl (ev_call (era rfl (erg (erc rfl (erc (erD ec150_d _) (erc (erD eci64 _) rfl)))) (era rfl (erg (erc rfl (erc (erD eci64 _) (erc rfl rfl)))) eran)) (spec_FDVariables_s g31) (evd rfl rfl (ev_mvt (c := .tup [.own 3 v30.1.length (v30.1.flatMap ci64), .own 3 v30.2.length (v30.2.flatMap ci64)]) rfl rfl rfl (evd rfl rfl (ev_ext rfl rfl rfl rfl (evd rfl rfl (ev_ext rfl rfl rfl rfl (evd rfl rfl (ev_as (c := .own 3 v30.1.length (v30.1.flatMap ci64)) rfl rfl rfl (evd rfl rfl (ev_as (c := .own 3 v30.2.length (v30.2.flatMap ci64)) rfl rfl rfl (evdn ?_))))))))))))
          refine ls_keep [(1, .dat a1.length (a1.flatMap c86_d)), (3, .box [.int .i64 a0.1, .dat a0.2.1.length (a0.2.1.flatMap c150_d), .dat a0.2.2.length (a0.2.2.flatMap ci64)]), (7, .own 3 ([] : List Int).length (([] : List Int).flatMap ci64)), (8, .int .i64 y23), (10, .int .i64 y12), (11, .int .i64 y24), (12, .own 3 v30.1.length (v30.1.flatMap ci64)), (13, .own 3 v30.2.length (v30.2.flatMap ci64))] ⟨kr, kr, kr, kr, kr, kr, kr, kr, trivial⟩ rfl ?_
          refine ls_rs tbOk ?_
          refine evs (ev_ac rfl nofun rfl (evn ?_))
          refine ls_keep [(1, .dat a1.length (a1.flatMap c86_d)), (3, .box [.int .i64 a0.1, .dat a0.2.1.length (a0.2.1.flatMap c150_d), .dat a0.2.2.length (a0.2.2.flatMap ci64)]), (7, .own 3 ([] : List Int).length (([] : List Int).flatMap ci64)), (8, .int .i64 y23), (10, .int .i64 y12), (11, .int .i64 y24), (12, .own 3 v30.1.length (v30.1.flatMap ci64)), (13, .own 3 v30.2.length (v30.2.flatMap ci64)), (14, .int .i64 0)] ⟨kr, kr, kr, kr, kr, kr, kr, kr, kr, trivial⟩ rfl ?_
          obtain ⟨o5, hl, hr5⟩ := ob_some h
          clear h
          have kXspec_FDClosure_B5 : ∀ (z32 : Int), ((loopF (spec_FDClosure_B4 a0 a1) m) (z32, (IntKind.i64.wrap (y24 + 1)))) = some o4 → ∀ σ' : PS, okK σ' [(1, .dat a1.length (a1.flatMap c86_d)), (3, .box [.int .i64 a0.1, .dat a0.2.1.length (a0.2.1.flatMap c150_d), .dat a0.2.2.length (a0.2.2.flatMap ci64)]), (7, .own 3 ([] : List Int).length (([] : List Int).flatMap ci64)), (8, .int .i64 z32), (10, .int .i64 y12), (11, .int .i64 y24)] → K27 σ' := by
            intro z32 h σ' hk
            refine hK27 _ (ls_keep [(1, .dat a1.length (a1.flatMap c86_d)), (3, .box [.int .i64 a0.1, .dat a0.2.1.length (a0.2.1.flatMap c150_d), .dat a0.2.2.length (a0.2.2.flatMap ci64)]), (7, .own 3 ([] : List Int).length (([] : List Int).flatMap ci64)), (8, .int .i64 z32), (10, .int .i64 y12), (11, .int .i64 y24)] hk rfl ?_)
            refine ls_rgn tbOk ?_
            refine evs (ev_mv (c := .int .i64 y24) rfl rfl rfl (evs (ev_bin (c1 := .int .i64 y24) (c2 := .int .i64 1) rfl rfl rfl (evs (ev_as (c := .int .i64 (IntKind.i64.wrap (y24 + 1))) rfl rfl rfl (evn ?_))))))
            exact hN _ (z32, (IntKind.i64.wrap (y24 + 1))) h ⟨kr, kr, kr, kr, kr, kr, trivial⟩
          refine ls_rec (fun (s : Int × Int) => match s with | (y27, y28) => [(1, .dat a1.length (a1.flatMap c86_d)), (3, .box [.int .i64 a0.1, .dat a0.2.1.length (a0.2.1.flatMap c150_d), .dat a0.2.2.length (a0.2.2.flatMap ci64)]), (7, .own 3 ([] : List Int).length (([] : List Int).flatMap ci64)), (8, .int .i64 y27), (10, .int .i64 y12), (11, .int .i64 y24), (12, .own 3 v30.1.length (v30.1.flatMap ci64)), (13, .own 3 v30.2.length (v30.2.flatMap ci64)), (14, .int .i64 y28)]) (spec_FDClosure_B5 v30) fz (y23, 0) o5 hl ⟨kr, kr, kr, kr, kr, kr, kr, kr, kr, trivial⟩ (fun _ => rfl) ?_
          rintro m ⟨y27, y28⟩ N h hN
          unfold spec_FDClosure_B5 at h
          dsimp only at h
          refine ls_seq_k fun K33 hK33 => ?_
          refine ls_rs tbOk ?_
          refine evs (ev_mv (c := .int .i64 y28) rfl rfl rfl (evs (ev_mv (c := .own 3 v30.1.length (v30.1.flatMap ci64)) rfl rfl rfl (evs (ev_len (c1 := .dat v30.1.length (v30.1.flatMap ci64)) rfl rfl rfl (evs (ev_bin (c1 := .int .i64 y28) (c2 := .int .i64 (List.length v30.1 : Int)) rfl rfl rfl (evn ?_))))))))
          refine ls_keep [(1, .dat a1.length (a1.flatMap c86_d)), (3, .box [.int .i64 a0.1, .dat a0.2.1.length (a0.2.1.flatMap c150_d), .dat a0.2.2.length (a0.2.2.flatMap ci64)]), (7, .own 3 ([] : List Int).length (([] : List Int).flatMap ci64)), (8, .int .i64 y27), (10, .int .i64 y12), (11, .int .i64 y24), (12, .own 3 v30.1.length (v30.1.flatMap ci64)), (13, .own 3 v30.2.length (v30.2.flatMap ci64)), (14, .int .i64 y28), (66, .bool (decide (y28 < (List.length v30.1 : Int))))] ⟨kr, kr, kr, kr, kr, kr, kr, kr, kr, kr, trivial⟩ rfl ?_
          rcases cond_some h with ⟨g34, h⟩ | ⟨g34, h⟩
          · refine ls_cT rfl g34 ?_
            refine ls_skip ?_
            refine hK33 _ (ls_keep [(1, .dat a1.length (a1.flatMap c86_d)), (3, .box [.int .i64 a0.1, .dat a0.2.1.length (a0.2.1.flatMap c150_d), .dat a0.2.2.length (a0.2.2.flatMap ci64)]), (7, .own 3 ([] : List Int).length (([] : List Int).flatMap ci64)), (8, .int .i64 y27), (10, .int .i64 y12), (11, .int .i64 y24), (12, .own 3 v30.1.length (v30.1.flatMap ci64)), (13, .own 3 v30.2.length (v30.2.flatMap ci64)), (14, .int .i64 y28)] ⟨kr, kr, kr, kr, kr, kr, kr, kr, kr, trivial⟩ rfl ?_)
            refine ls_seq_k fun K35 hK35 => ?_
            refine ls_blk ?_
            refine ls_rs_k tbOk fun K36 hK36 => ?_
            have kspec_FDClosure_J6 : ∀ (x37 : Bool), spec_FDClosure_J6 (loopF (spec_FDClosure_B5 v30) m) v30 y27 y28 x37 = some o5 → ∀ σ' : PS, okK σ' [(1, .dat a1.length (a1.flatMap c86_d)), (3, .box [.int .i64 a0.1, .dat a0.2.1.length (a0.2.1.flatMap c150_d), .dat a0.2.2.length (a0.2.2.flatMap ci64)]), (7, .own 3 ([] : List Int).length (([] : List Int).flatMap ci64)), (8, .int .i64 y27), (10, .int .i64 y12), (11, .int .i64 y24), (12, .own 3 v30.1.length (v30.1.flatMap ci64)), (13, .own 3 v30.2.length (v30.2.flatMap ci64)), (14, .int .i64 y28), (82, .bool x37)] → K36 σ' := by
              intro x37 h σ' hk
              unfold spec_FDClosure_J6 at h
              refine hK36 _ (ls_keep [(1, .dat a1.length (a1.flatMap c86_d)), (3, .box [.int .i64 a0.1, .dat a0.2.1.length (a0.2.1.flatMap c150_d), .dat a0.2.2.length (a0.2.2.flatMap ci64)]), (7, .own 3 ([] : List Int).length (([] : List Int).flatMap ci64)), (8, .int .i64 y27), (10, .int .i64 y12), (11, .int .i64 y24), (12, .own 3 v30.1.length (v30.1.flatMap ci64)), (13, .own 3 v30.2.length (v30.2.flatMap ci64)), (14, .int .i64 y28), (82, .bool x37)] hk rfl ?_)
              have kspec_FDClosure_J7 : ∀ (x38 : Int), spec_FDClosure_J7 (loopF (spec_FDClosure_B5 v30) m) y28 x38 = some o5 → ∀ σ' : PS, okK σ' [(1, .dat a1.length (a1.flatMap c86_d)), (3, .box [.int .i64 a0.1, .dat a0.2.1.length (a0.2.1.flatMap c150_d), .dat a0.2.2.length (a0.2.2.flatMap ci64)]), (7, .own 3 ([] : List Int).length (([] : List Int).flatMap ci64)), (8, .int .i64 x38), (10, .int .i64 y12), (11, .int .i64 y24), (12, .own 3 v30.1.length (v30.1.flatMap ci64)), (13, .own 3 v30.2.length (v30.2.flatMap ci64)), (14, .int .i64 y28)] → K35 σ' := by
                intro x38 h σ' hk
                unfold spec_FDClosure_J7 at h
                refine hK35 _ (ls_keep [(1, .dat a1.length (a1.flatMap c86_d)), (3, .box [.int .i64 a0.1, .dat a0.2.1.length (a0.2.1.flatMap c150_d), .dat a0.2.2.length (a0.2.2.flatMap ci64)]), (7, .own 3 ([] : List Int).length (([] : List Int).flatMap ci64)), (8, .int .i64 x38), (10, .int .i64 y12), (11, .int .i64 y24), (12, .own 3 v30.1.length (v30.1.flatMap ci64)), (13, .own 3 v30.2.length (v30.2.flatMap ci64)), (14, .int .i64 y28)] hk rfl ?_)
                refine ls_rgn tbOk ?_
                refine evs (ev_mv (c := .int .i64 y28) rfl rfl rfl (evs (ev_bin (c1 := .int .i64 y28) (c2 := .int .i64 1) rfl rfl rfl (evs (ev_as (c := .int .i64 (IntKind.i64.wrap (y28 + 1))) rfl rfl rfl (evn ?_))))))
                exact hN _ (x38, (IntKind.i64.wrap (y28 + 1))) h ⟨kr, kr, kr, kr, kr, kr, kr, kr, kr, trivial⟩
              rcases cond_some h with ⟨g39, h⟩ | ⟨g39, h⟩
              · refine ls_cT rfl g39 ?_
                refine ls_rgn tbOk ?_
                refine evs (ev_mv (c := .int .i64 y27) rfl rfl rfl (evs (ev_mv (c := .own 3 v30.2.length (v30.2.flatMap ci64)) rfl rfl rfl (evs (ev_mv (c := .int .i64 y28) rfl rfl rfl (?_))))))
                obtain ⟨e40, g41, h⟩ := ob_some h
                refine evs (ev_ia rfl rfl rfl ⟨(geti_some g41).1, (geti_some g41).2.1⟩ (evs (ev_ldE (off := 0) (v := .int .i64 e40) rfl rfl zci64 g41 rfl (Nat.le_of_ble_eq_true rfl) rfl (?_))))
                obtain ⟨g42, h⟩ := chk_some h
                refine evs (ev_bin (c1 := .int .i64 1) (c2 := .int .i64 e40) rfl rfl g42 (evs (ev_bin (c1 := .int .i64 y27) (c2 := .int .i64 (shlI 1 e40)) rfl rfl rfl (evs (ev_as (c := .int .i64 (orI y27 (shlI 1 e40))) rfl rfl rfl (evn ?_))))))
                exact kspec_FDClosure_J7 (orI y27 (shlI 1 e40)) h _ ⟨kr, kr, kr, kr, kr, kr, kr, kr, kr, trivial⟩
              · refine ls_cF rfl g39 ?_
                refine ls_skip ?_
                exact kspec_FDClosure_J7 y27 h _ ⟨kr, kr, kr, kr, kr, kr, kr, kr, kr, trivial⟩
            refine evs (ev_mv (c := .own 3 v30.2.length (v30.2.flatMap ci64)) rfl rfl rfl (evs (ev_mv (c := .int .i64 y28) rfl rfl rfl (?_))))
            obtain ⟨e43, g44, h⟩ := ob_some h
            refine evs (ev_ia rfl rfl rfl ⟨(geti_some g44).1, (geti_some g44).2.1⟩ (evs (ev_ldE (off := 0) (v := .int .i64 e43) rfl rfl zci64 g44 rfl (Nat.le_of_ble_eq_true rfl) rfl (evs (ev_bin (c1 := .int .i64 e43) (c2 := .int .i64 0) rfl rfl rfl (evs (ev_mv (c := .bool (decide (0 ≤ e43))) rfl rfl rfl (?_))))))))
            rcases cond_some h with ⟨g45, h⟩ | ⟨g45, h⟩
            · refine evs (ev_gr rfl (congrArg V.bool g45) (ev_mv (c := .own 3 v30.1.length (v30.1.flatMap ci64)) rfl rfl rfl (evs (ev_gr rfl (congrArg V.bool g45) (ev_mv (c := .int .i64 y28) rfl rfl rfl (?_))))))
              obtain ⟨e46, g47, h⟩ := ob_some h
              refine evs (ev_gr rfl (congrArg V.bool g45) (ev_ia rfl rfl rfl ⟨(geti_some g47).1, (geti_some g47).2.1⟩ (evs (ev_gr rfl (congrArg V.bool g45) (ev_ldE (off := 0) (v := .int .i64 e46) rfl rfl zci64 g47 rfl (Nat.le_of_ble_eq_true rfl) rfl (evs (ev_gr rfl (congrArg V.bool g45) (ev_mv (c := .int .i64 y27) rfl rfl rfl (evs (ev_gr rfl (congrArg V.bool g45) (ev_bin (c1 := .int .i64 e46) (c2 := .int .i64 y27) rfl rfl rfl (evs (ev_gr rfl (congrArg V.bool g45) (ev_bin (c1 := .int .i64 (andNotI e46 y27)) (c2 := .int .i64 0) rfl rfl rfl (evs (ev_pkT (c1 := .bool ((andNotI e46 y27) == 0)) rfl g45 rfl rfl (evn ?_)))))))))))))))))
              exact kspec_FDClosure_J6 ((andNotI e46 y27) == 0) h _ ⟨kr, kr, kr, kr, kr, kr, kr, kr, kr, kr, trivial⟩
            · refine evs (ev_gs rfl rfl (isb_F g45) (evs (ev_gs rfl rfl (isb_F g45) (evs (ev_gs rfl rfl (isb_F g45) (evs (ev_gs rfl rfl (isb_F g45) (evs (ev_gs rfl rfl (isb_F g45) (evs (ev_gs rfl rfl (isb_F g45) (evs (ev_gs rfl rfl (isb_F g45) (evs (ev_pkF (c1 := .bool false) rfl g45 rfl rfl (evn ?_))))))))))))))))
              exact kspec_FDClosure_J6 false h _ ⟨kr, kr, kr, kr, kr, kr, kr, kr, kr, kr, trivial⟩
          · refine ls_cF rfl g34 ?_
            refine ls_exit ?_
            have q0 := (Option.some.inj h).symm
            have r0 := hr5
            rw [q0] at r0
            exact kXspec_FDClosure_B5 y27 r0 _ ⟨kr, kr, kr, kr, kr, kr, trivial⟩
        · refine ls_cF rfl g26 ?_
          refine ls_exit ?_
          have q0 := (Option.some.inj h).symm
          have r0 := hr4
          rw [q0] at r0
          exact kXspec_FDClosure_B4 y23 r0 _ ⟨kr, kr, kr, kr, kr, trivial⟩
      · refine ls_cF rfl g22 ?_
        refine ls_exit ?_
        have q0 := (Option.some.inj h).symm
        have r0 := hr3
        rw [q0] at r0
        exact kXspec_FDClosure_B3 y11 r0 _ ⟨kr, kr, kr, trivial⟩
    refine ls_rec (fun (s : Int × Int) => match s with | (y1, y2) => [(1, .dat a1.length (a1.flatMap c86_d)), (2, .dat a2.length (a2.flatMap ci64)), (3, .box [.int .i64 a0.1, .dat a0.2.1.length (a0.2.1.flatMap c150_d), .dat a0.2.2.length (a0.2.2.flatMap ci64)]), (7, .own 3 ([] : List Int).length (([] : List Int).flatMap ci64)), (8, .int .i64 y1), (9, .int .i64 y2)]) (spec_FDClosure_B1 a0 a2) fz (0, 0) o1 hl ⟨kr, kr, kr, kr, kr, kr, trivial⟩ (fun _ => rfl) ?_
    rintro m ⟨y1, y2⟩ N h hN
    unfold spec_FDClosure_B1 at h
    dsimp only at h
    refine ls_seq_k fun K7 hK7 => ?_
    refine ls_rs tbOk ?_
    refine evs (ev_mv (c := .int .i64 y2) rfl rfl rfl (evs (ev_mv (c := .dat a2.length (a2.flatMap ci64)) rfl rfl rfl (evs (ev_len (c1 := .dat a2.length (a2.flatMap ci64)) rfl rfl rfl (evs (ev_bin (c1 := .int .i64 y2) (c2 := .int .i64 (List.length a2 : Int)) rfl rfl rfl (evn ?_))))))))
    refine ls_keep [(1, .dat a1.length (a1.flatMap c86_d)), (2, .dat a2.length (a2.flatMap ci64)), (3, .box [.int .i64 a0.1, .dat a0.2.1.length (a0.2.1.flatMap c150_d), .dat a0.2.2.length (a0.2.2.flatMap ci64)]), (7, .own 3 ([] : List Int).length (([] : List Int).flatMap ci64)), (8, .int .i64 y1), (9, .int .i64 y2), (24, .bool (decide (y2 < (List.length a2 : Int))))] ⟨kr, kr, kr, kr, kr, kr, kr, trivial⟩ rfl ?_
    rcases cond_some h with ⟨g8, h⟩ | ⟨g8, h⟩
    · refine ls_cT rfl g8 ?_
      refine ls_skip ?_
      refine hK7 _ (ls_keep [(1, .dat a1.length (a1.flatMap c86_d)), (2, .dat a2.length (a2.flatMap ci64)), (3, .box [.int .i64 a0.1, .dat a0.2.1.length (a0.2.1.flatMap c150_d), .dat a0.2.2.length (a0.2.2.flatMap ci64)]), (7, .own 3 ([] : List Int).length (([] : List Int).flatMap ci64)), (8, .int .i64 y1), (9, .int .i64 y2)] ⟨kr, kr, kr, kr, kr, kr, trivial⟩ rfl ?_)
      refine ls_seq_k fun K9 hK9 => ?_
      refine ls_blk ?_
      refine ls_rd tbOk mixed (by kernel_rfl) ?_
      refine evd rfl rfl (ev_mv (c := .dat a2.length (a2.flatMap ci64)) rfl rfl rfl (evd rfl rfl (ev_mv (c := .int .i64 y2) rfl rfl rfl (?_))))
      obtain ⟨e10, g11, h⟩ := ob_some h
      refine evd rfl rfl (ev_ia rfl rfl rfl ⟨(geti_some g11).1, (geti_some g11).2.1⟩ (evd rfl rfl (ev_ldE (off := 0) (v := .int .i64 e10) rfl rfl zci64 g11 rfl (Nat.le_of_ble_eq_true rfl) rfl (evd rfl rfl (ev_fa (c1 := .cref 3 0) (v := .cref 3 0) rfl rfl rfl ⟨_, rfl⟩ rfl (evd rfl rfl (ev_ldB (off := 0) (v := .int .i64 a0.1) rfl rfl rfl rfl (Nat.le_of_ble_eq_true rfl) rfl (evd rfl rfl (ev_bin (c1 := .int .i64 a0.1) (c2 := .int .i64 1) rfl rfl rfl (?_))))))))))
      obtain ⟨v12, g13, h⟩ := ob_some h
      refine evd rfl rfl (ev_call (era rfl rfl (era rfl rfl (era rfl rfl eran))) (spec_l1In_s g13) (evdn ?_))
      refine ls_keep [(1, .dat a1.length (a1.flatMap c86_d)), (2, .dat a2.length (a2.flatMap ci64)), (3, .box [.int .i64 a0.1, .dat a0.2.1.length (a0.2.1.flatMap c150_d), .dat a0.2.2.length (a0.2.2.flatMap ci64)]), (7, .own 3 ([] : List Int).length (([] : List Int).flatMap ci64)), (8, .int .i64 y1), (9, .int .i64 y2), (34, .bool v12)] ⟨kr, kr, kr, kr, kr, kr, kr, trivial⟩ rfl ?_
      have kspec_FDClosure_J2 : ∀ (x14 : Int), spec_FDClosure_J2 (loopF (spec_FDClosure_B1 a0 a2) m) y2 x14 = some o1 → ∀ σ' : PS, okK σ' [(1, .dat a1.length (a1.flatMap c86_d)), (2, .dat a2.length (a2.flatMap ci64)), (3, .box [.int .i64 a0.1, .dat a0.2.1.length (a0.2.1.flatMap c150_d), .dat a0.2.2.length (a0.2.2.flatMap ci64)]), (7, .own 3 ([] : List Int).length (([] : List Int).flatMap ci64)), (8, .int .i64 x14), (9, .int .i64 y2)] → K9 σ' := by
        intro x14 h σ' hk
        unfold spec_FDClosure_J2 at h
        refine hK9 _ (ls_keep [(1, .dat a1.length (a1.flatMap c86_d)), (2, .dat a2.length (a2.flatMap ci64)), (3, .box [.int .i64 a0.1, .dat a0.2.1.length (a0.2.1.flatMap c150_d), .dat a0.2.2.length (a0.2.2.flatMap ci64)]), (7, .own 3 ([] : List Int).length (([] : List Int).flatMap ci64)), (8, .int .i64 x14), (9, .int .i64 y2)] hk rfl ?_)
        refine ls_rgn tbOk ?_
        refine evs (ev_mv (c := .int .i64 y2) rfl rfl rfl (evs (ev_bin (c1 := .int .i64 y2) (c2 := .int .i64 1) rfl rfl rfl (evs (ev_as (c := .int .i64 (IntKind.i64.wrap (y2 + 1))) rfl rfl rfl (evn ?_))))))
        exact hN _ (x14, (IntKind.i64.wrap (y2 + 1))) h ⟨kr, kr, kr, kr, kr, kr, trivial⟩
      rcases cond_some h with ⟨g15, h⟩ | ⟨g15, h⟩
      · refine ls_cT rfl g15 ?_
        refine ls_rgn tbOk ?_
        refine evs (ev_mv (c := .int .i64 y1) rfl rfl rfl (evs (ev_mv (c := .dat a2.length (a2.flatMap ci64)) rfl rfl rfl (evs (ev_mv (c := .int .i64 y2) rfl rfl rfl (?_))))))
        obtain ⟨e16, g17, h⟩ := ob_some h
        refine evs (ev_ia rfl rfl rfl ⟨(geti_some g17).1, (geti_some g17).2.1⟩ (evs (ev_ldE (off := 0) (v := .int .i64 e16) rfl rfl zci64 g17 rfl (Nat.le_of_ble_eq_true rfl) rfl (?_))))
        obtain ⟨g18, h⟩ := chk_some h
        refine evs (ev_bin (c1 := .int .i64 1) (c2 := .int .i64 e16) rfl rfl g18 (evs (ev_bin (c1 := .int .i64 y1) (c2 := .int .i64 (shlI 1 e16)) rfl rfl rfl (evs (ev_as (c := .int .i64 (orI y1 (shlI 1 e16))) rfl rfl rfl (evn ?_))))))
        exact kspec_FDClosure_J2 (orI y1 (shlI 1 e16)) h _ ⟨kr, kr, kr, kr, kr, kr, trivial⟩
      · refine ls_cF rfl g15 ?_
        refine ls_skip ?_
        exact kspec_FDClosure_J2 y1 h _ ⟨kr, kr, kr, kr, kr, kr, trivial⟩
    · refine ls_cF rfl g8 ?_
      refine ls_exit ?_
      have q0 := (Option.some.inj h).symm
      have r0 := hr1
      rw [q0] at r0
      exact kXspec_FDClosure_B1 y1 r0 _ ⟨kr, kr, kr, kr, trivial⟩
def laws_toFunctionalDependency (a0 : (List UInt8) × (List Int) × Int) : Option (((List UInt8) × (List Int) × Int)) := obind (laws_toIntS a0.2.1) fun v1 => some (a0.1, v1, a0.2.2)
theorem laws_toFunctionalDependency_s {a0 : (List UInt8) × (List Int) × Int} {r : ((List UInt8) × (List Int) × Int)} (h : laws_toFunctionalDependency a0 = some r) : SoundAt Try.prog 52 [.agg [.str a0.1, .dat a0.2.1.length (a0.2.1.flatMap ci64), .int .i64 a0.2.2]] (.agg [.str r.1, .own 3 r.2.1.length (r.2.1.flatMap ci64), .int .i64 r.2.2]) := by
  unfold laws_toFunctionalDependency at h
  refine sound_lit tbOk lit52 (Nat.le_of_ble_eq_true rfl) rfl ?_
  unfold c52
  refine ls_keep [(0, .agg [.str a0.1, .dat a0.2.1.length (a0.2.1.flatMap ci64), .int .i64 a0.2.2])] ⟨kr, trivial⟩ rfl ?_
  refine ls_rs tbOk ?_
  refine evs (ev_bx (c1 := .agg [.str a0.1, .dat a0.2.1.length (a0.2.1.flatMap ci64), .int .i64 a0.2.2]) rfl rfl rfl (evs (ev_al rfl rfl (evn ?_))))
  refine ls_keep [(1, .box [.str a0.1, .dat a0.2.1.length (a0.2.1.flatMap ci64), .int .i64 a0.2.2]), (2, .box [.str [], .own 3 ([] : List Int).length (([] : List Int).flatMap ci64), .int .i64 0])] ⟨kr, kr, trivial⟩ rfl ?_
  refine ls_rs tbOk ?_
  refine evs (ev_al rfl rfl (evn ?_))
  refine ls_keep [(1, .box [.str a0.1, .dat a0.2.1.length (a0.2.1.flatMap ci64), .int .i64 a0.2.2]), (2, .box [.str [], .own 3 ([] : List Int).length (([] : List Int).flatMap ci64), .int .i64 0]), (3, .box [.str [], .own 3 ([] : List Int).length (([] : List Int).flatMap ci64), .int .i64 0])] ⟨kr, kr, kr, trivial⟩ rfl ?_
  refine ls_rs tbOk ?_
  refine evs (ev_fa (c1 := .cref 1 0) (v := .cref 1 0) rfl rfl rfl ⟨_, rfl⟩ rfl (evs (ev_ldB (off := 0) (v := .str a0.1) rfl rfl rfl rfl (Nat.le_of_ble_eq_true rfl) rfl (evs (ev_fa (c1 := .cref 3 0) (v := .cref 3 0) rfl rfl rfl ⟨_, rfl⟩ rfl (evs (ev_st (off := 0) (c1 := .str a0.1) (cs' := [.str a0.1, .own 3 ([] : List Int).length (([] : List Int).flatMap ci64), .int .i64 0]) rfl rfl rfl rfl rfl rfl (Nat.le_of_ble_eq_true rfl) rfl (evn ?_))))))))
  refine ls_keep [(1, .box [.str a0.1, .dat a0.2.1.length (a0.2.1.flatMap ci64), .int .i64 a0.2.2]), (2, .box [.str [], .own 3 ([] : List Int).length (([] : List Int).flatMap ci64), .int .i64 0]), (3, .box [.str a0.1, .own 3 ([] : List Int).length (([] : List Int).flatMap ci64), .int .i64 0])] ⟨kr, kr, kr, trivial⟩ rfl ?_
  refine ls_rs tbOk ?_
  refine evs (ev_fa (c1 := .cref 1 0) (v := .cref 1 1) rfl rfl rfl ⟨_, rfl⟩ rfl (evs (ev_ldB (off := 1) (v := .dat a0.2.1.length (a0.2.1.flatMap ci64)) rfl rfl rfl rfl (Nat.le_of_ble_eq_true rfl) rfl (?_))))
  obtain ⟨v1, g2, h⟩ := ob_some h
  refine evs (ev_call (era rfl (erD eci64 _) eran) (laws_toIntS_s g2) (evs (ev_fa (c1 := .cref 3 0) (v := .cref 3 1) rfl rfl rfl ⟨_, rfl⟩ rfl (evs (ev_st (off := 1) (c1 := .own 3 v1.length (v1.flatMap ci64)) (cs' := [.str a0.1, .own 3 v1.length (v1.flatMap ci64), .int .i64 0]) rfl rfl rfl rfl rfl rfl (Nat.le_of_ble_eq_true rfl) rfl (evn ?_))))))
  refine ls_keep [(1, .box [.str a0.1, .dat a0.2.1.length (a0.2.1.flatMap ci64), .int .i64 a0.2.2]), (2, .box [.str [], .own 3 ([] : List Int).length (([] : List Int).flatMap ci64), .int .i64 0]), (3, .box [.str a0.1, .own 3 v1.length (v1.flatMap ci64), .int .i64 0])] ⟨kr, kr, kr, trivial⟩ rfl ?_
  refine ls_rs tbOk ?_
  refine evs (ev_fa (c1 := .cref 1 0) (v := .cref 1 2) rfl rfl rfl ⟨_, rfl⟩ rfl (evs (ev_ldB (off := 2) (v := .int .i64 a0.2.2) rfl rfl rfl rfl (Nat.le_of_ble_eq_true rfl) rfl (evs (ev_fa (c1 := .cref 3 0) (v := .cref 3 2) rfl rfl rfl ⟨_, rfl⟩ rfl (evs (ev_st (off := 2) (c1 := .int .i64 a0.2.2) (cs' := [.str a0.1, .own 3 v1.length (v1.flatMap ci64), .int .i64 a0.2.2]) rfl rfl rfl rfl rfl rfl (Nat.le_of_ble_eq_true rfl) rfl (evn ?_))))))))
  refine ls_keep [(2, .box [.str [], .own 3 ([] : List Int).length (([] : List Int).flatMap ci64), .int .i64 0]), (3, .box [.str a0.1, .own 3 v1.length (v1.flatMap ci64), .int .i64 a0.2.2])] ⟨kr, kr, trivial⟩ rfl ?_
  refine ls_rs tbOk ?_
  refine evs (ev_ldBt (off := 0) (v := .agg [.str a0.1, .own 3 v1.length (v1.flatMap ci64), .int .i64 a0.2.2]) (c' := .box [.str a0.1, .dat v1.length (v1.flatMap ci64), .int .i64 a0.2.2]) rfl rfl rfl rfl (Nat.le_of_ble_eq_true rfl) rfl rfl (evs (ev_st (off := 0) (c1 := .agg [.str a0.1, .own 3 v1.length (v1.flatMap ci64), .int .i64 a0.2.2]) (cs' := [.str a0.1, .own 3 v1.length (v1.flatMap ci64), .int .i64 a0.2.2]) rfl rfl rfl rfl rfl rfl (Nat.le_of_ble_eq_true rfl) rfl (evn ?_))))
  refine ls_keep [(2, .box [.str a0.1, .own 3 v1.length (v1.flatMap ci64), .int .i64 a0.2.2])] ⟨kr, trivial⟩ rfl ?_
  refine ls_ret ?_
  have hr := Option.some.inj h
  rw [← hr]
  exact ⟨.inl rfl, rfl⟩
def laws_toFunctionalDependencyS_B1 (a0 : List ((List UInt8) × (List Int) × Int)) (rec : ((List ((List UInt8) × (List Int) × Int)) × Int) → Option ((List ((List UInt8) × (List Int) × Int)))) (s : (List ((List UInt8) × (List Int) × Int)) × Int) : Option ((List ((List UInt8) × (List Int) × Int))) := match s with
  | (y1, y2) => cond (decide (y2 < (List.length a0 : Int))) (obind (geti a0 y2) fun e7 => obind (laws_toFunctionalDependency e7) fun v9 => obind (geti y1 y2) fun e11 => rec ((seti y1 y2 v9), (IntKind.i64.wrap (y2 + 1)))) (some y1)
def laws_toFunctionalDependencyS (a0 : List ((List UInt8) × (List Int) × Int)) : Option ((List ((List UInt8) × (List Int) × Int))) := chk ((0 : Int) ≤ (List.length a0 : Int) ∧ Int.toNat (List.length a0 : Int) ≤ lim) (obind (loopF (laws_toFunctionalDependencyS_B1 a0) fz ((List.replicate (Int.toNat (List.length a0 : Int)) (([], [], 0) : (List UInt8) × (List Int) × Int)), 0)) fun z3 => some z3)
theorem laws_toFunctionalDependencyS_s {a0 : List ((List UInt8) × (List Int) × Int)} {r : (List ((List UInt8) × (List Int) × Int))} (h : laws_toFunctionalDependencyS a0 = some r) : SoundAt Try.prog 76 [.dat a0.length (a0.flatMap c83_d)] (.own 86 r.length (r.flatMap c86_o)) := by
  unfold laws_toFunctionalDependencyS at h
  refine sound_lit tbOk lit76 (Nat.le_of_ble_eq_true rfl) rfl ?_
  unfold c76
  refine ls_keep [(0, .dat a0.length (a0.flatMap c83_d))] ⟨kr, trivial⟩ rfl ?_
  refine ls_rs tbOk ?_
  refine evs (ev_an rfl rfl (evn ?_))
  refine ls_keep [(0, .dat a0.length (a0.flatMap c83_d))] ⟨kr, trivial⟩ rfl ?_
  refine ls_rs tbOk ?_
  refine evs (ev_mv (c := .dat a0.length (a0.flatMap c83_d)) rfl rfl rfl (evs (ev_len (c1 := .dat a0.length (a0.flatMap c83_d)) rfl rfl rfl (?_))))
  obtain ⟨g1, h⟩ := chk_some h
  refine evs (ev_mku (f := c86_o) (z := (([], [], 0) : (List UInt8) × (List Int) × Int)) rfl rfl rfl rfl rfl rfl g1 rfl (evs (ev_asu rfl rfl rfl (evn ?_))))
  refine ls_keep [(0, .dat a0.length (a0.flatMap c83_d)), (3, .uni 86 (List.replicate (Int.toNat (List.length a0 : Int)) (([], [], 0) : (List UInt8) × (List Int) × Int)).length ((List.replicate (Int.toNat (List.length a0 : Int)) (([], [], 0) : (List UInt8) × (List Int) × Int)).flatMap c86_o))] ⟨kr, kr, trivial⟩ rfl ?_
  refine ls_seq_k fun K2 hK2 => ?_
  refine ls_rs tbOk ?_
  refine evs (ev_ac rfl nofun rfl (evn ?_))
  refine ls_keep [(0, .dat a0.length (a0.flatMap c83_d)), (3, .uni 86 (List.replicate (Int.toNat (List.length a0 : Int)) (([], [], 0) : (List UInt8) × (List Int) × Int)).length ((List.replicate (Int.toNat (List.length a0 : Int)) (([], [], 0) : (List UInt8) × (List Int) × Int)).flatMap c86_o)), (4, .int .i64 0)] ⟨kr, kr, kr, trivial⟩ rfl ?_
  obtain ⟨o1, hl, hr1⟩ := ob_some h
  clear h
  have kXlaws_toFunctionalDependencyS_B1 : ∀ (z3 : List ((List UInt8) × (List Int) × Int)), (some z3) = some r → ∀ σ' : PS, okK σ' [(3, .uni 86 z3.length (z3.flatMap c86_o))] → K2 σ' := by
    intro z3 h σ' hk
    refine hK2 _ (ls_keep [(3, .uni 86 z3.length (z3.flatMap c86_o))] hk rfl ?_)
    refine ls_rs tbOk ?_
    refine evs (ev_mvtu rfl rfl (evs (ev_as (c := .own 86 z3.length (z3.flatMap c86_o)) rfl rfl rfl (evn ?_))))
    refine ls_keep [(2, .own 86 z3.length (z3.flatMap c86_o))] ⟨kr, trivial⟩ rfl ?_
    refine ls_ret ?_
    have hr := Option.some.inj h
    rw [← hr]
    exact ⟨.inl rfl, rfl⟩
  refine ls_rec (fun (s : (List ((List UInt8) × (List Int) × Int)) × Int) => match s with | (y1, y2) => [(0, .dat a0.length (a0.flatMap c83_d)), (3, .uni 86 y1.length (y1.flatMap c86_o)), (4, .int .i64 y2)]) (laws_toFunctionalDependencyS_B1 a0) fz ((List.replicate (Int.toNat (List.length a0 : Int)) (([], [], 0) : (List UInt8) × (List Int) × Int)), 0) o1 hl ⟨kr, kr, kr, trivial⟩ (fun _ => rfl) ?_
  rintro m ⟨y1, y2⟩ N h hN
  unfold laws_toFunctionalDependencyS_B1 at h
  dsimp only at h
  refine ls_seq_k fun K4 hK4 => ?_
  refine ls_rs tbOk ?_
  refine evs (ev_mv (c := .int .i64 y2) rfl rfl rfl (evs (ev_mv (c := .dat a0.length (a0.flatMap c83_d)) rfl rfl rfl (evs (ev_len (c1 := .dat a0.length (a0.flatMap c83_d)) rfl rfl rfl (evs (ev_bin (c1 := .int .i64 y2) (c2 := .int .i64 (List.length a0 : Int)) rfl rfl rfl (evn ?_))))))))
  refine ls_keep [(0, .dat a0.length (a0.flatMap c83_d)), (3, .uni 86 y1.length (y1.flatMap c86_o)), (4, .int .i64 y2), (11, .bool (decide (y2 < (List.length a0 : Int))))] ⟨kr, kr, kr, kr, trivial⟩ rfl ?_
  rcases cond_some h with ⟨g5, h⟩ | ⟨g5, h⟩
  · refine ls_cT rfl g5 ?_
    refine ls_skip ?_
    refine hK4 _ (ls_keep [(0, .dat a0.length (a0.flatMap c83_d)), (3, .uni 86 y1.length (y1.flatMap c86_o)), (4, .int .i64 y2)] ⟨kr, kr, kr, trivial⟩ rfl ?_)
    refine ls_seq_k fun K6 hK6 => ?_
    refine ls_blk ?_
    refine ls_rgn tbOk ?_
    refine evs (ev_mvu rfl rfl (evs (ev_mv (c := .int .i64 y2) rfl rfl rfl (evs (ev_mv (c := .dat a0.length (a0.flatMap c83_d)) rfl rfl rfl (evs (ev_mv (c := .int .i64 y2) rfl rfl rfl (?_))))))))
    obtain ⟨e7, g8, h⟩ := ob_some h
    refine evs (ev_ia rfl rfl rfl ⟨(geti_some g8).1, (geti_some g8).2.1⟩ (evs (ev_ldE (off := 0) (v := .agg [.str e7.1, .dat e7.2.1.length (e7.2.1.flatMap ci64), .int .i64 e7.2.2]) rfl rfl zc83_d g8 rfl (Nat.le_of_ble_eq_true rfl) rfl (?_))))
    obtain ⟨v9, g10, h⟩ := ob_some h
    refine evs (ev_call (era rfl (erg (erc rfl (erc (erD eci64 _) (erc rfl rfl)))) eran) (laws_toFunctionalDependency_s g10) (?_))
    obtain ⟨e11, g12, h⟩ := ob_some h
    refine evs (ev_iau rfl rfl rfl rfl ⟨(geti_some g12).1, (geti_some g12).2.1⟩ (evs (ev_stu (e := v9) (c1 := .agg [.str v9.1, .own 3 v9.2.1.length (v9.2.1.flatMap ci64), .int .i64 v9.2.2]) rfl rfl zc86_o ⟨(geti_some g12).1, (geti_some g12).2.1⟩ rfl rfl rfl rfl rfl (evn ?_))))
    refine hK6 _ (ls_keep [(0, .dat a0.length (a0.flatMap c83_d)), (3, .uni 86 (seti y1 y2 v9).length ((seti y1 y2 v9).flatMap c86_o)), (4, .int .i64 y2)] ⟨kr, kr, kr, trivial⟩ rfl ?_)
    refine ls_rgn tbOk ?_
    refine evs (ev_mv (c := .int .i64 y2) rfl rfl rfl (evs (ev_bin (c1 := .int .i64 y2) (c2 := .int .i64 1) rfl rfl rfl (evs (ev_as (c := .int .i64 (IntKind.i64.wrap (y2 + 1))) rfl rfl rfl (evn ?_))))))
    exact hN _ ((seti y1 y2 v9), (IntKind.i64.wrap (y2 + 1))) h ⟨kr, kr, kr, trivial⟩
  · refine ls_cF rfl g5 ?_
    refine ls_exit ?_
    have q0 := (Option.some.inj h).symm
    have r0 := hr1
    rw [q0] at r0
    exact kXlaws_toFunctionalDependencyS_B1 y1 r0 _ ⟨kr, trivial⟩
def impl_within_J1 (x2 : Bool) : Option (Bool) := some x2
def impl_within (a0 : Int) (a1 : Int) (a2 : Int) : Option (Bool) := cond (decide (a1 ≤ a0)) (impl_within_J1 (decide (a0 ≤ a2))) (impl_within_J1 false)
theorem impl_within_s {a0 : Int} {a1 : Int} {a2 : Int} {r : Bool} (h : impl_within a0 a1 a2 = some r) : SoundAt Try.prog 82 [.int .i64 a0, .int .i64 a1, .int .i64 a2] (.bool r) := by
  unfold impl_within at h
  refine sound_lit tbOk lit82 (Nat.le_of_ble_eq_true rfl) rfl ?_
  unfold c82
  refine ls_keep [(0, .int .i64 a0), (1, .int .i64 a1), (2, .int .i64 a2)] ⟨kr, kr, kr, trivial⟩ rfl ?_
  refine ls_rs tbOk ?_
  refine evs (ev_ac rfl nofun rfl (evn ?_))
  refine ls_keep [(0, .int .i64 a0), (1, .int .i64 a1), (2, .int .i64 a2)] ⟨kr, kr, kr, trivial⟩ rfl ?_
  refine ls_rs_k tbOk fun K1 hK1 => ?_
  have kimpl_within_J1 : ∀ (x2 : Bool), impl_within_J1 x2 = some r → ∀ σ' : PS, okK σ' [(6, .bool x2)] → K1 σ' := by
    intro x2 h σ' hk
    unfold impl_within_J1 at h
    refine hK1 _ (ls_keep [(6, .bool x2)] hk rfl ?_)
    refine ls_ret ?_
    have hr := Option.some.inj h
    rw [← hr]
    exact ⟨.inl rfl, rfl⟩
  refine evs (ev_mv (c := .int .i64 a0) rfl rfl rfl (evs (ev_mv (c := .int .i64 a1) rfl rfl rfl (evs (ev_bin (c1 := .int .i64 a0) (c2 := .int .i64 a1) rfl rfl rfl (evs (ev_mv (c := .bool (decide (a1 ≤ a0))) rfl rfl rfl (?_))))))))
  rcases cond_some h with ⟨g3, h⟩ | ⟨g3, h⟩
  · refine evs (ev_gr rfl (congrArg V.bool g3) (ev_mv (c := .int .i64 a0) rfl rfl rfl (evs (ev_gr rfl (congrArg V.bool g3) (ev_mv (c := .int .i64 a2) rfl rfl rfl (evs (ev_gr rfl (congrArg V.bool g3) (ev_bin (c1 := .int .i64 a0) (c2 := .int .i64 a2) rfl rfl rfl (evs (ev_pkT (c1 := .bool (decide (a0 ≤ a2))) rfl g3 rfl rfl (evs (ev_as (c := .bool (decide (a0 ≤ a2))) rfl rfl rfl (evn ?_)))))))))))))
    exact kimpl_within_J1 (decide (a0 ≤ a2)) h _ ⟨kr, trivial⟩
  · refine evs (ev_gs rfl rfl (isb_F g3) (evs (ev_gs rfl rfl (isb_F g3) (evs (ev_gs rfl rfl (isb_F g3) (evs (ev_pkF (c1 := .bool false) rfl g3 rfl rfl (evs (ev_as (c := .bool false) rfl rfl rfl (evn ?_))))))))))
    exact kimpl_within_J1 false h _ ⟨kr, trivial⟩
def impl_isLetters_B1 (a0 : List UInt8) (rec : Int → Option (Sum (Unit) (Bool))) (y1 : Int) : Option (Sum (Unit) (Bool)) := cond (decide (y1 < (List.length a0 : Int))) (obind (geti a0 y1) fun b8 => cond (decide ((UInt8.toNat b8 : Int) < 97)) (some (.inr false)) (obind (geti a0 y1) fun b11 => cond (decide (122 < (UInt8.toNat b11 : Int))) (some (.inr false)) (rec (IntKind.i64.wrap (y1 + 1))))) (some (.inl ()))
def impl_isLetters (a0 : List UInt8) (a1 : Int) : Option (Bool) := cond (decide ((List.length a0 : Int) < 1)) (some false) (cond (decide (a1 < (List.length a0 : Int))) (some false) (obind (loopF (impl_isLetters_B1 a0) fz 0) fun o1 => (match o1 with
  | .inl _ => (some true)
  | .inr r => some r)))
theorem impl_isLetters_s {a0 : List UInt8} {a1 : Int} {r : Bool} (h : impl_isLetters a0 a1 = some r) : SoundAt Try.prog 171 [.str a0, .int .i64 a1] (.bool r) := by
  unfold impl_isLetters at h
  refine sound_lit tbOk lit171 (Nat.le_of_ble_eq_true rfl) rfl ?_
  unfold c171
  refine ls_keep [(0, .str a0), (1, .int .i64 a1)] ⟨kr, kr, trivial⟩ rfl ?_
  refine ls_rs tbOk ?_
  refine evs (ev_ac rfl nofun rfl (evn ?_))
  refine ls_keep [(0, .str a0), (1, .int .i64 a1)] ⟨kr, kr, trivial⟩ rfl ?_
  refine ls_seq_k fun K1 hK1 => ?_
  refine ls_rs tbOk ?_
  refine evs (ev_mv (c := .str a0) rfl rfl rfl (evs (ev_lens (z := []) rfl rfl (evs (ev_bin (c1 := .int .i64 (List.length a0 : Int)) (c2 := .int .i64 1) rfl rfl rfl (evs (ev_mv (c := .bool (decide ((List.length a0 : Int) < 1))) rfl rfl rfl (?_))))))))
  rcases cond_some h with ⟨g2, h⟩ | ⟨g2, h⟩
  · refine evs (ev_gs rfl rfl (isb_T g2) (evs (ev_gs rfl rfl (isb_T g2) (evs (ev_gs rfl rfl (isb_T g2) (evs (ev_gs rfl rfl (isb_T g2) (evs (ev_pkT (c1 := .bool true) rfl g2 rfl rfl (evn ?_))))))))))
    refine ls_keep [(0, .str a0), (14, .bool true)] ⟨kr, kr, trivial⟩ rfl ?_
    refine ls_cT rfl rfl ?_
    refine ls_rs tbOk ?_
    refine evs (ev_ac rfl nofun rfl (evn ?_))
    refine ls_keep [(4, .bool false)] ⟨kr, trivial⟩ rfl ?_
    refine ls_ret ?_
    have hr := Option.some.inj h
    rw [← hr]
    exact ⟨.inl rfl, rfl⟩
  · refine evs (ev_gr rfl (congrArg V.bool g2) (ev_mv (c := .str a0) rfl rfl rfl (evs (ev_gr rfl (congrArg V.bool g2) (ev_lens (z := []) rfl rfl (evs (ev_gr rfl (congrArg V.bool g2) (ev_mv (c := .int .i64 a1) rfl rfl rfl (evs (ev_gr rfl (congrArg V.bool g2) (ev_bin (c1 := .int .i64 (List.length a0 : Int)) (c2 := .int .i64 a1) rfl rfl rfl (evs (ev_pkF (c1 := .bool (decide (a1 < (List.length a0 : Int)))) rfl g2 rfl rfl (evn ?_))))))))))))))
    refine ls_keep [(0, .str a0), (14, .bool (decide (a1 < (List.length a0 : Int))))] ⟨kr, kr, trivial⟩ rfl ?_
    rcases cond_some h with ⟨g3, h⟩ | ⟨g3, h⟩
    · refine ls_cT rfl g3 ?_
      refine ls_rs tbOk ?_
      refine evs (ev_ac rfl nofun rfl (evn ?_))
      refine ls_keep [(4, .bool false)] ⟨kr, trivial⟩ rfl ?_
      refine ls_ret ?_
      have hr := Option.some.inj h
      rw [← hr]
      exact ⟨.inl rfl, rfl⟩
    · refine ls_cF rfl g3 ?_
      refine ls_skip ?_
      refine hK1 _ (ls_keep [(0, .str a0)] ⟨kr, trivial⟩ rfl ?_)
      refine ls_seq_k fun K4 hK4 => ?_
      refine ls_rs tbOk ?_
      refine evs (ev_ac rfl nofun rfl (evn ?_))
      refine ls_keep [(0, .str a0), (5, .int .i64 0)] ⟨kr, kr, trivial⟩ rfl ?_
      obtain ⟨o1, hl, hr1⟩ := ob_some h
      clear h
      have kXimpl_isLetters_B1 : ∀ (_ : Unit), (some true) = some r → ∀ σ' : PS, okK σ' [] → K4 σ' := by
        intro _ h σ' hk
        refine hK4 _ (ls_keep [] hk rfl ?_)
        refine ls_rs tbOk ?_
        refine evs (ev_ac rfl nofun rfl (evn ?_))
        refine ls_keep [(4, .bool true)] ⟨kr, trivial⟩ rfl ?_
        refine ls_ret ?_
        have hr := Option.some.inj h
        rw [← hr]
        exact ⟨.inl rfl, rfl⟩
      refine ls_rec (fun (y1 : Int) => [(0, .str a0), (5, .int .i64 y1)]) (impl_isLetters_B1 a0) fz 0 o1 hl ⟨kr, kr, trivial⟩ (fun _ => rfl) ?_
      rintro m y1 N h hN
      unfold impl_isLetters_B1 at h
      refine ls_seq_k fun K5 hK5 => ?_
      refine ls_rs tbOk ?_
      refine evs (ev_mv (c := .int .i64 y1) rfl rfl rfl (evs (ev_mv (c := .str a0) rfl rfl rfl (evs (ev_lens (z := []) rfl rfl (evs (ev_bin (c1 := .int .i64 y1) (c2 := .int .i64 (List.length a0 : Int)) rfl rfl rfl (evn ?_))))))))
      refine ls_keep [(0, .str a0), (5, .int .i64 y1), (18, .bool (decide (y1 < (List.length a0 : Int))))] ⟨kr, kr, kr, trivial⟩ rfl ?_
      rcases cond_some h with ⟨g6, h⟩ | ⟨g6, h⟩
      · refine ls_cT rfl g6 ?_
        refine ls_skip ?_
        refine hK5 _ (ls_keep [(0, .str a0), (5, .int .i64 y1)] ⟨kr, kr, trivial⟩ rfl ?_)
        refine ls_seq_k fun K7 hK7 => ?_
        refine ls_blk ?_
        refine ls_rs tbOk ?_
        refine evs (ev_mv (c := .str a0) rfl rfl rfl (evs (ev_mv (c := .int .i64 y1) rfl rfl rfl (?_))))
        obtain ⟨b8, g9, h⟩ := ob_some h
        refine evs (ev_six rfl rfl rfl g9 (evs (ev_bin (c1 := .int .u8 (UInt8.toNat b8 : Int)) (c2 := .int .u8 97) rfl rfl rfl (evs (ev_mv (c := .bool (decide ((UInt8.toNat b8 : Int) < 97))) rfl rfl rfl (?_))))))
        rcases cond_some h with ⟨g10, h⟩ | ⟨g10, h⟩
        · refine evs (ev_gs rfl rfl (isb_T g10) (evs (ev_gs rfl rfl (isb_T g10) (evs (ev_gs rfl rfl (isb_T g10) (evs (ev_gs rfl rfl (isb_T g10) (evs (ev_pkT (c1 := .bool true) rfl g10 rfl rfl (evn ?_))))))))))
          refine ls_keep [(0, .str a0), (5, .int .i64 y1), (30, .bool true)] ⟨kr, kr, kr, trivial⟩ rfl ?_
          refine ls_cT rfl rfl ?_
          refine ls_rs tbOk ?_
          refine evs (ev_ac rfl nofun rfl (evn ?_))
          refine ls_keep [(4, .bool false)] ⟨kr, trivial⟩ rfl ?_
          refine ls_ret ?_
          have q0 := (Option.some.inj h).symm
          have r0 := hr1
          rw [q0] at r0
          have hr := Option.some.inj r0
          rw [← hr]
          exact ⟨.inl rfl, rfl⟩
        · refine evs (ev_gr rfl (congrArg V.bool g10) (ev_mv (c := .str a0) rfl rfl rfl (evs (ev_gr rfl (congrArg V.bool g10) (ev_mv (c := .int .i64 y1) rfl rfl rfl (?_))))))
          obtain ⟨b11, g12, h⟩ := ob_some h
          refine evs (ev_gr rfl (congrArg V.bool g10) (ev_six rfl rfl rfl g12 (evs (ev_gr rfl (congrArg V.bool g10) (ev_bin (c1 := .int .u8 (UInt8.toNat b11 : Int)) (c2 := .int .u8 122) rfl rfl rfl (evs (ev_pkF (c1 := .bool (decide (122 < (UInt8.toNat b11 : Int)))) rfl g10 rfl rfl (evn ?_))))))))
          refine ls_keep [(0, .str a0), (5, .int .i64 y1), (30, .bool (decide (122 < (UInt8.toNat b11 : Int))))] ⟨kr, kr, kr, trivial⟩ rfl ?_
          rcases cond_some h with ⟨g13, h⟩ | ⟨g13, h⟩
          · refine ls_cT rfl g13 ?_
            refine ls_rs tbOk ?_
            refine evs (ev_ac rfl nofun rfl (evn ?_))
            refine ls_keep [(4, .bool false)] ⟨kr, trivial⟩ rfl ?_
            refine ls_ret ?_
            have q0 := (Option.some.inj h).symm
            have r0 := hr1
            rw [q0] at r0
            have hr := Option.some.inj r0
            rw [← hr]
            exact ⟨.inl rfl, rfl⟩
          · refine ls_cF rfl g13 ?_
            refine ls_skip ?_
            refine hK7 _ (ls_keep [(0, .str a0), (5, .int .i64 y1)] ⟨kr, kr, trivial⟩ rfl ?_)
            refine ls_rgn tbOk ?_
            refine evs (ev_mv (c := .int .i64 y1) rfl rfl rfl (evs (ev_bin (c1 := .int .i64 y1) (c2 := .int .i64 1) rfl rfl rfl (evs (ev_as (c := .int .i64 (IntKind.i64.wrap (y1 + 1))) rfl rfl rfl (evn ?_))))))
            exact hN _ (IntKind.i64.wrap (y1 + 1)) h ⟨kr, kr, trivial⟩
      · refine ls_cF rfl g6 ?_
        refine ls_exit ?_
        have q0 := (Option.some.inj h).symm
        have r0 := hr1
        rw [q0] at r0
        exact kXimpl_isLetters_B1 () r0 _ trivial
def impl_IsValidName (a0 : List UInt8) : Option (Bool) := obind (impl_isLetters a0 4) fun v1 => some v1
theorem impl_IsValidName_s {a0 : List UInt8} {r : Bool} (h : impl_IsValidName a0 = some r) : SoundAt Try.prog 159 [.str a0] (.bool r) := by
  unfold impl_IsValidName at h
  refine sound_lit tbOk lit159 (Nat.le_of_ble_eq_true rfl) rfl ?_
  unfold c159
  refine ls_keep [(0, .str a0)] ⟨kr, trivial⟩ rfl ?_
  refine ls_rs tbOk ?_
  refine evs (ev_ac rfl nofun rfl (evn ?_))
  refine ls_keep [(0, .str a0)] ⟨kr, trivial⟩ rfl ?_
  refine ls_rs tbOk ?_
  refine evs (ev_mv (c := .str a0) rfl rfl rfl (?_))
  obtain ⟨v1, g2, h⟩ := ob_some h
  refine evs (ev_call (era rfl rfl (era rfl rfl eran)) (impl_isLetters_s g2) (evs (ev_as (c := .bool v1) rfl rfl rfl (evn ?_))))
  refine ls_keep [(2, .bool v1)] ⟨kr, trivial⟩ rfl ?_
  refine ls_ret ?_
  have hr := Option.some.inj h
  rw [← hr]
  exact ⟨.inl rfl, rfl⟩
def impl_indexOf_B1 (a0 : List Int) (a1 : Int) (rec : Int → Option (Sum (Unit) (Int))) (y1 : Int) : Option (Sum (Unit) (Int)) := cond (decide (y1 < (List.length a0 : Int))) (obind (geti a0 y1) fun e5 => cond (e5 == a1) (some (.inr y1)) (rec (IntKind.i64.wrap (y1 + 1)))) (some (.inl ()))
def impl_indexOf (a0 : List Int) (a1 : Int) : Option (Int) := obind (loopF (impl_indexOf_B1 a0 a1) fz 0) fun o1 => (match o1 with
  | .inl _ => (some (-1))
  | .inr r => some r)
theorem impl_indexOf_s {a0 : List Int} {a1 : Int} {r : Int} (h : impl_indexOf a0 a1 = some r) : SoundAt Try.prog 104 [.dat a0.length (a0.flatMap ci64), .int .i64 a1] (.int .i64 r) := by
  unfold impl_indexOf at h
  refine sound_lit tbOk lit104 (Nat.le_of_ble_eq_true rfl) rfl ?_
  unfold c104
  refine ls_keep [(0, .dat a0.length (a0.flatMap ci64)), (1, .int .i64 a1)] ⟨kr, kr, trivial⟩ rfl ?_
  refine ls_rs tbOk ?_
  refine evs (ev_ac rfl nofun rfl (evn ?_))
  refine ls_keep [(0, .dat a0.length (a0.flatMap ci64)), (1, .int .i64 a1)] ⟨kr, kr, trivial⟩ rfl ?_
  refine ls_seq_k fun K1 hK1 => ?_
  refine ls_rs tbOk ?_
  refine evs (ev_mv (c := .dat a0.length (a0.flatMap ci64)) rfl rfl rfl (evs (ev_len (c1 := .dat a0.length (a0.flatMap ci64)) rfl rfl rfl (evs (ev_mc rfl rfl (evn ?_))))))
  refine ls_keep [(1, .int .i64 a1), (7, .dat a0.length (a0.flatMap ci64)), (8, .int .i64 (List.length a0 : Int)), (9, .int .i64 0)] ⟨kr, kr, kr, kr, trivial⟩ rfl ?_
  obtain ⟨o1, hl, hr1⟩ := ob_some h
  clear h
  have kXimpl_indexOf_B1 : ∀ (_ : Unit), (some (-1)) = some r → ∀ σ' : PS, okK σ' [] → K1 σ' := by
    intro _ h σ' hk
    refine hK1 _ (ls_keep [] hk rfl ?_)
    refine ls_rs tbOk ?_
    refine evs (ev_ac rfl nofun rfl (evn ?_))
    refine ls_keep [(4, .int .i64 (-1))] ⟨kr, trivial⟩ rfl ?_
    refine ls_ret ?_
    have hr := Option.some.inj h
    rw [← hr]
    exact ⟨.inl rfl, rfl⟩
  refine ls_rec (fun (y1 : Int) => [(1, .int .i64 a1), (7, .dat a0.length (a0.flatMap ci64)), (8, .int .i64 (List.length a0 : Int)), (9, .int .i64 y1)]) (impl_indexOf_B1 a0 a1) fz 0 o1 hl ⟨kr, kr, kr, kr, trivial⟩ (fun _ => rfl) ?_
  rintro m y1 N h hN
  unfold impl_indexOf_B1 at h
  refine ls_rs tbOk ?_
  refine evs (ev_bin (c1 := .int .i64 y1) (c2 := .int .i64 (List.length a0 : Int)) rfl rfl rfl (evn ?_))
  refine ls_keep [(1, .int .i64 a1), (7, .dat a0.length (a0.flatMap ci64)), (8, .int .i64 (List.length a0 : Int)), (9, .int .i64 y1), (10, .bool (decide (y1 < (List.length a0 : Int))))] ⟨kr, kr, kr, kr, kr, trivial⟩ rfl ?_
  refine ls_seq_k fun K2 hK2 => ?_
  rcases cond_some h with ⟨g3, h⟩ | ⟨g3, h⟩
  · refine ls_cT rfl g3 ?_
    refine ls_skip ?_
    refine hK2 _ (ls_keep [(1, .int .i64 a1), (7, .dat a0.length (a0.flatMap ci64)), (8, .int .i64 (List.length a0 : Int)), (9, .int .i64 y1)] ⟨kr, kr, kr, kr, trivial⟩ rfl ?_)
    refine ls_seq_k fun K4 hK4 => ?_
    refine ls_blk ?_
    refine ls_rs tbOk ?_
    refine evs (ev_mv (c := .int .i64 y1) rfl rfl rfl (?_))
    obtain ⟨e5, g6, h⟩ := ob_some h
    refine evs (ev_ia rfl rfl rfl ⟨(geti_some g6).1, (geti_some g6).2.1⟩ (evs (ev_ldE (off := 0) (v := .int .i64 e5) rfl rfl zci64 g6 rfl (Nat.le_of_ble_eq_true rfl) rfl (evs (ev_as (c := .int .i64 y1) rfl rfl rfl (evs (ev_as (c := .int .i64 e5) rfl rfl rfl (evn ?_))))))))
    refine ls_keep [(1, .int .i64 a1), (5, .int .i64 y1), (6, .int .i64 e5), (7, .dat a0.length (a0.flatMap ci64)), (8, .int .i64 (List.length a0 : Int)), (9, .int .i64 y1)] ⟨kr, kr, kr, kr, kr, kr, trivial⟩ rfl ?_
    refine ls_rs tbOk ?_
    refine evs (ev_mv (c := .int .i64 e5) rfl rfl rfl (evs (ev_mv (c := .int .i64 a1) rfl rfl rfl (evs (ev_bin (c1 := .int .i64 e5) (c2 := .int .i64 a1) rfl rfl rfl (evn ?_))))))
    refine ls_keep [(1, .int .i64 a1), (5, .int .i64 y1), (7, .dat a0.length (a0.flatMap ci64)), (8, .int .i64 (List.length a0 : Int)), (9, .int .i64 y1), (16, .bool (e5 == a1))] ⟨kr, kr, kr, kr, kr, kr, trivial⟩ rfl ?_
    rcases cond_some h with ⟨g7, h⟩ | ⟨g7, h⟩
    · refine ls_cT rfl g7 ?_
      refine ls_rs tbOk ?_
      refine evs (ev_mv (c := .int .i64 y1) rfl rfl rfl (evs (ev_as (c := .int .i64 y1) rfl rfl rfl (evn ?_))))
      refine ls_keep [(4, .int .i64 y1)] ⟨kr, trivial⟩ rfl ?_
      refine ls_ret ?_
      have q0 := (Option.some.inj h).symm
      have r0 := hr1
      rw [q0] at r0
      have hr := Option.some.inj r0
      rw [← hr]
      exact ⟨.inl rfl, rfl⟩
    · refine ls_cF rfl g7 ?_
      refine ls_skip ?_
      refine hK4 _ (ls_keep [(1, .int .i64 a1), (7, .dat a0.length (a0.flatMap ci64)), (8, .int .i64 (List.length a0 : Int)), (9, .int .i64 y1)] ⟨kr, kr, kr, kr, trivial⟩ rfl ?_)
      refine ls_rgn tbOk ?_
      refine evs (ev_bin (c1 := .int .i64 y1) (c2 := .int .i64 1) rfl rfl rfl (evs (ev_mv (c := .int .i64 (IntKind.i64.wrap (y1 + 1))) rfl rfl rfl (evn ?_))))
      exact hN _ (IntKind.i64.wrap (y1 + 1)) h ⟨kr, kr, kr, kr, trivial⟩
  · refine ls_cF rfl g3 ?_
    refine ls_exit ?_
    have q0 := (Option.some.inj h).symm
    have r0 := hr1
    rw [q0] at r0
    exact kXimpl_indexOf_B1 () r0 _ trivial
def impl_hasInt (a0 : List Int) (a1 : Int) : Option (Bool) := obind (impl_indexOf a0 a1) fun v1 => some (decide (0 ≤ v1))
theorem impl_hasInt_s {a0 : List Int} {a1 : Int} {r : Bool} (h : impl_hasInt a0 a1 = some r) : SoundAt Try.prog 172 [.dat a0.length (a0.flatMap ci64), .int .i64 a1] (.bool r) := by
  unfold impl_hasInt at h
  refine sound_lit tbOk lit172 (Nat.le_of_ble_eq_true rfl) rfl ?_
  unfold c172
  refine ls_keep [(0, .dat a0.length (a0.flatMap ci64)), (1, .int .i64 a1)] ⟨kr, kr, trivial⟩ rfl ?_
  refine ls_rs tbOk ?_
  refine evs (ev_ac rfl nofun rfl (evn ?_))
  refine ls_keep [(0, .dat a0.length (a0.flatMap ci64)), (1, .int .i64 a1)] ⟨kr, kr, trivial⟩ rfl ?_
  refine ls_rs tbOk ?_
  refine evs (ev_mv (c := .dat a0.length (a0.flatMap ci64)) rfl rfl rfl (evs (ev_mv (c := .int .i64 a1) rfl rfl rfl (?_))))
  obtain ⟨v1, g2, h⟩ := ob_some h
  refine evs (ev_call (era rfl (erD eci64 _) (era rfl rfl eran)) (impl_indexOf_s g2) (evs (ev_bin (c1 := .int .i64 v1) (c2 := .int .i64 0) rfl rfl rfl (evs (ev_as (c := .bool (decide (0 ≤ v1))) rfl rfl rfl (evn ?_))))))
  refine ls_keep [(4, .bool (decide (0 ≤ v1)))] ⟨kr, trivial⟩ rfl ?_
  refine ls_ret ?_
  have hr := Option.some.inj h
  rw [← hr]
  exact ⟨.inl rfl, rfl⟩
def impl_isSetOf_B1 (a0 : List Int) (a1 : Int) (rec : Int → Option (Sum (Unit) (Bool))) (y1 : Int) : Option (Sum (Unit) (Bool)) := cond (decide (y1 < (List.length a0 : Int))) (obind (geti a0 y1) fun e5 => obind (impl_within e5 0 (IntKind.i64.wrap (a1 - 1))) fun v7 => cond (!v7) (some (.inr false)) (chk ((0 : Int) ≤ 0 ∧ 0 ≤ y1 ∧ y1 ≤ (List.length a0 : Int)) (obind (impl_hasInt (subl a0 0 y1) e5) fun v11 => cond v11 (some (.inr false)) (rec (IntKind.i64.wrap (y1 + 1)))))) (some (.inl ()))
def impl_isSetOf (a0 : List Int) (a1 : Int) : Option (Bool) := obind (loopF (impl_isSetOf_B1 a0 a1) fz 0) fun o1 => (match o1 with
  | .inl _ => (some true)
  | .inr r => some r)
theorem impl_isSetOf_s {a0 : List Int} {a1 : Int} {r : Bool} (h : impl_isSetOf a0 a1 = some r) : SoundAt Try.prog 161 [.dat a0.length (a0.flatMap ci64), .int .i64 a1] (.bool r) := by
  unfold impl_isSetOf at h
  refine sound_lit tbOk lit161 (Nat.le_of_ble_eq_true rfl) rfl ?_
  unfold c161
  refine ls_keep [(0, .dat a0.length (a0.flatMap ci64)), (1, .int .i64 a1)] ⟨kr, kr, trivial⟩ rfl ?_
  refine ls_rs tbOk ?_
  refine evs (ev_ac rfl nofun rfl (evn ?_))
  refine ls_keep [(0, .dat a0.length (a0.flatMap ci64)), (1, .int .i64 a1)] ⟨kr, kr, trivial⟩ rfl ?_
  refine ls_seq_k fun K1 hK1 => ?_
  refine ls_rs tbOk ?_
  refine evs (ev_mv (c := .dat a0.length (a0.flatMap ci64)) rfl rfl rfl (evs (ev_len (c1 := .dat a0.length (a0.flatMap ci64)) rfl rfl rfl (evs (ev_mc rfl rfl (evn ?_))))))
  refine ls_keep [(0, .dat a0.length (a0.flatMap ci64)), (1, .int .i64 a1), (7, .dat a0.length (a0.flatMap ci64)), (8, .int .i64 (List.length a0 : Int)), (9, .int .i64 0)] ⟨kr, kr, kr, kr, kr, trivial⟩ rfl ?_
  obtain ⟨o1, hl, hr1⟩ := ob_some h
  clear h
  have kXimpl_isSetOf_B1 : ∀ (_ : Unit), (some true) = some r → ∀ σ' : PS, okK σ' [] → K1 σ' := by
    intro _ h σ' hk
    refine hK1 _ (ls_keep [] hk rfl ?_)
    refine ls_rs tbOk ?_
    refine evs (ev_ac rfl nofun rfl (evn ?_))
    refine ls_keep [(4, .bool true)] ⟨kr, trivial⟩ rfl ?_
    refine ls_ret ?_
    have hr := Option.some.inj h
    rw [← hr]
    exact ⟨.inl rfl, rfl⟩
  refine ls_rec (fun (y1 : Int) => [(0, .dat a0.length (a0.flatMap ci64)), (1, .int .i64 a1), (7, .dat a0.length (a0.flatMap ci64)), (8, .int .i64 (List.length a0 : Int)), (9, .int .i64 y1)]) (impl_isSetOf_B1 a0 a1) fz 0 o1 hl ⟨kr, kr, kr, kr, kr, trivial⟩ (fun _ => rfl) ?_
  rintro m y1 N h hN
  unfold impl_isSetOf_B1 at h
  refine ls_rs tbOk ?_
  refine evs (ev_bin (c1 := .int .i64 y1) (c2 := .int .i64 (List.length a0 : Int)) rfl rfl rfl (evn ?_))
  refine ls_keep [(0, .dat a0.length (a0.flatMap ci64)), (1, .int .i64 a1), (7, .dat a0.length (a0.flatMap ci64)), (8, .int .i64 (List.length a0 : Int)), (9, .int .i64 y1), (10, .bool (decide (y1 < (List.length a0 : Int))))] ⟨kr, kr, kr, kr, kr, kr, trivial⟩ rfl ?_
  refine ls_seq_k fun K2 hK2 => ?_
  rcases cond_some h with ⟨g3, h⟩ | ⟨g3, h⟩
  · refine ls_cT rfl g3 ?_
    refine ls_skip ?_
    refine hK2 _ (ls_keep [(0, .dat a0.length (a0.flatMap ci64)), (1, .int .i64 a1), (7, .dat a0.length (a0.flatMap ci64)), (8, .int .i64 (List.length a0 : Int)), (9, .int .i64 y1)] ⟨kr, kr, kr, kr, kr, trivial⟩ rfl ?_)
    refine ls_seq_k fun K4 hK4 => ?_
    refine ls_blk ?_
    refine ls_rs tbOk ?_
    refine evs (ev_mv (c := .int .i64 y1) rfl rfl rfl (?_))
    obtain ⟨e5, g6, h⟩ := ob_some h
    refine evs (ev_ia rfl rfl rfl ⟨(geti_some g6).1, (geti_some g6).2.1⟩ (evs (ev_ldE (off := 0) (v := .int .i64 e5) rfl rfl zci64 g6 rfl (Nat.le_of_ble_eq_true rfl) rfl (evs (ev_as (c := .int .i64 y1) rfl rfl rfl (evs (ev_as (c := .int .i64 e5) rfl rfl rfl (evn ?_))))))))
    refine ls_keep [(0, .dat a0.length (a0.flatMap ci64)), (1, .int .i64 a1), (5, .int .i64 y1), (6, .int .i64 e5), (7, .dat a0.length (a0.flatMap ci64)), (8, .int .i64 (List.length a0 : Int)), (9, .int .i64 y1)] ⟨kr, kr, kr, kr, kr, kr, kr, trivial⟩ rfl ?_
    refine ls_rs tbOk ?_
    refine evs (ev_mv (c := .int .i64 e5) rfl rfl rfl (evs (ev_mv (c := .int .i64 a1) rfl rfl rfl (evs (ev_bin (c1 := .int .i64 a1) (c2 := .int .i64 1) rfl rfl rfl (?_))))))
    obtain ⟨v7, g8, h⟩ := ob_some h
    refine evs (ev_call (era rfl rfl (era rfl rfl (era rfl rfl eran))) (impl_within_s g8) (evs (ev_un (c1 := .bool v7) rfl trivial (evs (ev_mv (c := .bool (!v7)) rfl rfl rfl (?_))))))
    rcases cond_some h with ⟨g9, h⟩ | ⟨g9, h⟩
    · refine evs (ev_gs rfl rfl (isb_T g9) (evs (ev_gs rfl rfl (isb_T g9) (evs (ev_gs rfl rfl (isb_T g9) (evs (ev_gs rfl rfl (isb_T g9) (evs (ev_gs rfl rfl (isb_T g9) (evs (ev_pkT (c1 := .bool true) rfl g9 rfl rfl (evn ?_))))))))))))
      refine ls_keep [(0, .dat a0.length (a0.flatMap ci64)), (1, .int .i64 a1), (7, .dat a0.length (a0.flatMap ci64)), (8, .int .i64 (List.length a0 : Int)), (9, .int .i64 y1), (25, .bool true)] ⟨kr, kr, kr, kr, kr, kr, trivial⟩ rfl ?_
      refine ls_cT rfl rfl ?_
      refine ls_rs tbOk ?_
      refine evs (ev_ac rfl nofun rfl (evn ?_))
      refine ls_keep [(4, .bool false)] ⟨kr, trivial⟩ rfl ?_
      refine ls_ret ?_
      have q0 := (Option.some.inj h).symm
      have r0 := hr1
      rw [q0] at r0
      have hr := Option.some.inj r0
      rw [← hr]
      exact ⟨.inl rfl, rfl⟩
    · refine evs (ev_gr rfl (congrArg V.bool g9) (ev_mv (c := .dat a0.length (a0.flatMap ci64)) rfl rfl rfl (evs (ev_gr rfl (congrArg V.bool g9) (ev_mv (c := .int .i64 y1) rfl rfl rfl (?_))))))
      obtain ⟨g10, h⟩ := chk_some h
      refine evs (ev_gr rfl (congrArg V.bool g9) (ev_sle (lst := a0) rfl rfl zci64 rfl rfl g10 (evs (ev_gr rfl (congrArg V.bool g9) (ev_mv (c := .int .i64 e5) rfl rfl rfl (?_))))))
      obtain ⟨v11, g12, h⟩ := ob_some h
      refine evs (ev_gr rfl (congrArg V.bool g9) (ev_call (era rfl (erD eci64 _) (era rfl rfl eran)) (impl_hasInt_s g12) (evs (ev_pkF (c1 := .bool v11) rfl g9 rfl rfl (evn ?_)))))
      refine ls_keep [(0, .dat a0.length (a0.flatMap ci64)), (1, .int .i64 a1), (7, .dat a0.length (a0.flatMap ci64)), (8, .int .i64 (List.length a0 : Int)), (9, .int .i64 y1), (25, .bool v11)] ⟨kr, kr, kr, kr, kr, kr, trivial⟩ rfl ?_
      rcases cond_some h with ⟨g13, h⟩ | ⟨g13, h⟩
      · refine ls_cT rfl g13 ?_
        refine ls_rs tbOk ?_
        refine evs (ev_ac rfl nofun rfl (evn ?_))
        refine ls_keep [(4, .bool false)] ⟨kr, trivial⟩ rfl ?_
        refine ls_ret ?_
        have q0 := (Option.some.inj h).symm
        have r0 := hr1
        rw [q0] at r0
        have hr := Option.some.inj r0
        rw [← hr]
        exact ⟨.inl rfl, rfl⟩
      · refine ls_cF rfl g13 ?_
        refine ls_skip ?_
        refine hK4 _ (ls_keep [(0, .dat a0.length (a0.flatMap ci64)), (1, .int .i64 a1), (7, .dat a0.length (a0.flatMap ci64)), (8, .int .i64 (List.length a0 : Int)), (9, .int .i64 y1)] ⟨kr, kr, kr, kr, kr, trivial⟩ rfl ?_)
        refine ls_rgn tbOk ?_
        refine evs (ev_bin (c1 := .int .i64 y1) (c2 := .int .i64 1) rfl rfl rfl (evs (ev_mv (c := .int .i64 (IntKind.i64.wrap (y1 + 1))) rfl rfl rfl (evn ?_))))
        exact hN _ (IntKind.i64.wrap (y1 + 1)) h ⟨kr, kr, kr, kr, kr, trivial⟩
  · refine ls_cF rfl g3 ?_
    refine ls_exit ?_
    have q0 := (Option.some.inj h).symm
    have r0 := hr1
    rw [q0] at r0
    exact kXimpl_isSetOf_B1 () r0 _ trivial
end Go.Proofs.Ytkmkbpphdalgoaa
