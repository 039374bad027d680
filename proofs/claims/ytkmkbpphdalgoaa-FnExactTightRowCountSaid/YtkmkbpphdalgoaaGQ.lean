/-
  Functions of the program as typed functions, printed by gen.py, and that the program's functions do what they say. No conditions.
-/
import Derived.Test.YtkmkbpphdalgoaaGF
namespace Go.Proofs.Ytkmkbpphdalgoaa
open Go.RowKit
set_option linter.unusedVariables false
set_option maxRecDepth 100000
set_option maxHeartbeats 1000000
def laws_szAtom (a0 : (List UInt8) × (List Int)) (a1 : Int) : Option (Int) := cond (decide ((IntKind.i64.wrap (a1 - (List.length a0.1 : Int))) < 0)) (some (-1)) (obind (laws_szIntS a0.2 (IntKind.i64.wrap (a1 - (List.length a0.1 : Int)))) fun v3 => cond (decide (v3 < 0)) (some (-1)) (some v3))
theorem laws_szAtom_s {a0 : (List UInt8) × (List Int)} {a1 : Int} {r : Int} (h : laws_szAtom a0 a1 = some r) : SoundAt Try.prog 150 [.agg [.str a0.1, .dat a0.2.length (a0.2.flatMap ci64)], .int .i64 a1] (.int .i64 r) := by
  unfold laws_szAtom at h
  refine sound_lit tbOk lit150 (Nat.le_of_ble_eq_true rfl) rfl ?_
  unfold c150
  refine ls_keep [(0, .agg [.str a0.1, .dat a0.2.length (a0.2.flatMap ci64)]), (1, .int .i64 a1)] ⟨kr, kr, trivial⟩ rfl ?_
  refine ls_rs tbOk ?_
  refine evs (ev_bx (c1 := .agg [.str a0.1, .dat a0.2.length (a0.2.flatMap ci64)]) rfl rfl rfl (evs (ev_ac rfl nofun rfl (evn ?_))))
  refine ls_keep [(1, .int .i64 a1), (2, .box [.str a0.1, .dat a0.2.length (a0.2.flatMap ci64)])] ⟨kr, kr, trivial⟩ rfl ?_
  refine ls_rs tbOk ?_
  refine evs (ev_mv (c := .int .i64 a1) rfl rfl rfl (evs (ev_fa (c1 := .cref 2 0) (v := .cref 2 0) rfl rfl rfl ⟨_, rfl⟩ rfl (evs (ev_ldB (off := 0) (v := .str a0.1) rfl rfl rfl rfl (Nat.le_of_ble_eq_true rfl) rfl (evs (ev_lens (z := []) rfl rfl (evs (ev_bin (c1 := .int .i64 a1) (c2 := .int .i64 (List.length a0.1 : Int)) rfl rfl rfl (evs (ev_as (c := .int .i64 (IntKind.i64.wrap (a1 - (List.length a0.1 : Int)))) rfl rfl rfl (evn ?_))))))))))))
  refine ls_keep [(1, .int .i64 (IntKind.i64.wrap (a1 - (List.length a0.1 : Int)))), (2, .box [.str a0.1, .dat a0.2.length (a0.2.flatMap ci64)])] ⟨kr, kr, trivial⟩ rfl ?_
  refine ls_seq_k fun K1 hK1 => ?_
  refine ls_rs tbOk ?_
  refine evs (ev_mv (c := .int .i64 (IntKind.i64.wrap (a1 - (List.length a0.1 : Int)))) rfl rfl rfl (evs (ev_bin (c1 := .int .i64 (IntKind.i64.wrap (a1 - (List.length a0.1 : Int)))) (c2 := .int .i64 0) rfl rfl rfl (evn ?_))))
  refine ls_keep [(1, .int .i64 (IntKind.i64.wrap (a1 - (List.length a0.1 : Int)))), (2, .box [.str a0.1, .dat a0.2.length (a0.2.flatMap ci64)]), (11, .bool (decide ((IntKind.i64.wrap (a1 - (List.length a0.1 : Int))) < 0)))] ⟨kr, kr, kr, trivial⟩ rfl ?_
  rcases cond_some h with ⟨g2, h⟩ | ⟨g2, h⟩
  · refine ls_cT rfl g2 ?_
    refine ls_rs tbOk ?_
    refine evs (ev_ac rfl nofun rfl (evn ?_))
    refine ls_keep [(4, .int .i64 (-1))] ⟨kr, trivial⟩ rfl ?_
    refine ls_ret ?_
    have hr := Option.some.inj h
    rw [← hr]
    exact ⟨.inl rfl, rfl⟩
  · refine ls_cF rfl g2 ?_
    refine ls_skip ?_
    refine hK1 _ (ls_keep [(1, .int .i64 (IntKind.i64.wrap (a1 - (List.length a0.1 : Int)))), (2, .box [.str a0.1, .dat a0.2.length (a0.2.flatMap ci64)])] ⟨kr, kr, trivial⟩ rfl ?_)
    refine ls_rs tbOk ?_
    refine evs (ev_fa (c1 := .cref 2 0) (v := .cref 2 1) rfl rfl rfl ⟨_, rfl⟩ rfl (evs (ev_ldB (off := 1) (v := .dat a0.2.length (a0.2.flatMap ci64)) rfl rfl rfl rfl (Nat.le_of_ble_eq_true rfl) rfl (evs (ev_mv (c := .int .i64 (IntKind.i64.wrap (a1 - (List.length a0.1 : Int)))) rfl rfl rfl (?_))))))
    obtain ⟨v3, g4, h⟩ := ob_some h
    refine evs (ev_call (era rfl (erD eci64 _) (era rfl rfl eran)) (laws_szIntS_s g4) (evs (ev_as (c := .int .i64 v3) rfl rfl rfl (evn ?_))))
    refine ls_keep [(1, .int .i64 v3)] ⟨kr, trivial⟩ rfl ?_
    refine ls_seq_k fun K5 hK5 => ?_
    refine ls_rs tbOk ?_
    refine evs (ev_mv (c := .int .i64 v3) rfl rfl rfl (evs (ev_bin (c1 := .int .i64 v3) (c2 := .int .i64 0) rfl rfl rfl (evn ?_))))
    refine ls_keep [(1, .int .i64 v3), (17, .bool (decide (v3 < 0)))] ⟨kr, kr, trivial⟩ rfl ?_
    rcases cond_some h with ⟨g6, h⟩ | ⟨g6, h⟩
    · refine ls_cT rfl g6 ?_
      refine ls_rs tbOk ?_
      refine evs (ev_ac rfl nofun rfl (evn ?_))
      refine ls_keep [(4, .int .i64 (-1))] ⟨kr, trivial⟩ rfl ?_
      refine ls_ret ?_
      have hr := Option.some.inj h
      rw [← hr]
      exact ⟨.inl rfl, rfl⟩
    · refine ls_cF rfl g6 ?_
      refine ls_skip ?_
      refine hK5 _ (ls_keep [(1, .int .i64 v3)] ⟨kr, trivial⟩ rfl ?_)
      refine ls_rs tbOk ?_
      refine evs (ev_mv (c := .int .i64 v3) rfl rfl rfl (evs (ev_as (c := .int .i64 v3) rfl rfl rfl (evn ?_))))
      refine ls_keep [(4, .int .i64 v3)] ⟨kr, trivial⟩ rfl ?_
      refine ls_ret ?_
      have hr := Option.some.inj h
      rw [← hr]
      exact ⟨.inl rfl, rfl⟩
def c171_d (x : (List UInt8) × (List Int)) : List V := [.str x.1, .dat x.2.length (x.2.flatMap ci64)]
theorem zc171_d (x : (List UInt8) × (List Int)) : (c171_d x).length = 2 := rfl
theorem ec171_d (x : (List UInt8) × (List Int)) : erL (c171_d x) = c171_d x := (erc rfl (erc (erD eci64 _) rfl))
def laws_szAtomS_B1 (a0 : List ((List UInt8) × (List Int))) (rec : (Int × Int) → Option (Sum (Int) (Int))) (s : Int × Int) : Option (Sum (Int) (Int)) := match s with
  | (y1, y2) => cond (decide (y2 < (List.length a0 : Int))) (obind (geti a0 y2) fun e8 => obind (laws_szAtom e8 y1) fun v10 => cond (decide (v10 < 0)) (some (.inr (-1))) (rec (v10, (IntKind.i64.wrap (y2 + 1))))) (some (.inl y1))
def laws_szAtomS (a0 : List ((List UInt8) × (List Int))) (a1 : Int) : Option (Int) := cond (decide ((IntKind.i64.wrap (a1 - (List.length a0 : Int))) < 0)) (some (-1)) (obind (loopF (laws_szAtomS_B1 a0) fz ((IntKind.i64.wrap (a1 - (List.length a0 : Int))), 0)) fun o1 => (match o1 with
  | .inl z4 => (some z4)
  | .inr r => some r))
theorem laws_szAtomS_s {a0 : List ((List UInt8) × (List Int))} {a1 : Int} {r : Int} (h : laws_szAtomS a0 a1 = some r) : SoundAt Try.prog 106 [.dat a0.length (a0.flatMap c171_d), .int .i64 a1] (.int .i64 r) := by
  unfold laws_szAtomS at h
  refine sound_lit tbOk lit106 (Nat.le_of_ble_eq_true rfl) rfl ?_
  unfold c106
  refine ls_keep [(0, .dat a0.length (a0.flatMap c171_d)), (1, .int .i64 a1)] ⟨kr, kr, trivial⟩ rfl ?_
  refine ls_rs tbOk ?_
  refine evs (ev_ac rfl nofun rfl (evn ?_))
  refine ls_keep [(0, .dat a0.length (a0.flatMap c171_d)), (1, .int .i64 a1)] ⟨kr, kr, trivial⟩ rfl ?_
  refine ls_rs tbOk ?_
  refine evs (ev_mv (c := .int .i64 a1) rfl rfl rfl (evs (ev_mv (c := .dat a0.length (a0.flatMap c171_d)) rfl rfl rfl (evs (ev_len (c1 := .dat a0.length (a0.flatMap c171_d)) rfl rfl rfl (evs (ev_bin (c1 := .int .i64 a1) (c2 := .int .i64 (List.length a0 : Int)) rfl rfl rfl (evs (ev_as (c := .int .i64 (IntKind.i64.wrap (a1 - (List.length a0 : Int)))) rfl rfl rfl (evn ?_))))))))))
  refine ls_keep [(0, .dat a0.length (a0.flatMap c171_d)), (1, .int .i64 (IntKind.i64.wrap (a1 - (List.length a0 : Int))))] ⟨kr, kr, trivial⟩ rfl ?_
  refine ls_seq_k fun K1 hK1 => ?_
  refine ls_rs tbOk ?_
  refine evs (ev_mv (c := .int .i64 (IntKind.i64.wrap (a1 - (List.length a0 : Int)))) rfl rfl rfl (evs (ev_bin (c1 := .int .i64 (IntKind.i64.wrap (a1 - (List.length a0 : Int)))) (c2 := .int .i64 0) rfl rfl rfl (evn ?_))))
  refine ls_keep [(0, .dat a0.length (a0.flatMap c171_d)), (1, .int .i64 (IntKind.i64.wrap (a1 - (List.length a0 : Int)))), (11, .bool (decide ((IntKind.i64.wrap (a1 - (List.length a0 : Int))) < 0)))] ⟨kr, kr, kr, trivial⟩ rfl ?_
  rcases cond_some h with ⟨g2, h⟩ | ⟨g2, h⟩
  · refine ls_cT rfl g2 ?_
    refine ls_rs tbOk ?_
    refine evs (ev_ac rfl nofun rfl (evn ?_))
    refine ls_keep [(4, .int .i64 (-1))] ⟨kr, trivial⟩ rfl ?_
    refine ls_ret ?_
    have hr := Option.some.inj h
    rw [← hr]
    exact ⟨.inl rfl, rfl⟩
  · refine ls_cF rfl g2 ?_
    refine ls_skip ?_
    refine hK1 _ (ls_keep [(0, .dat a0.length (a0.flatMap c171_d)), (1, .int .i64 (IntKind.i64.wrap (a1 - (List.length a0 : Int))))] ⟨kr, kr, trivial⟩ rfl ?_)
    refine ls_seq_k fun K3 hK3 => ?_
    refine ls_rs tbOk ?_
    refine evs (ev_ac rfl nofun rfl (evn ?_))
    refine ls_keep [(0, .dat a0.length (a0.flatMap c171_d)), (1, .int .i64 (IntKind.i64.wrap (a1 - (List.length a0 : Int)))), (5, .int .i64 0)] ⟨kr, kr, kr, trivial⟩ rfl ?_
    obtain ⟨o1, hl, hr1⟩ := ob_some h
    clear h
    have kXlaws_szAtomS_B1 : ∀ (z4 : Int), (some z4) = some r → ∀ σ' : PS, okK σ' [(1, .int .i64 z4)] → K3 σ' := by
      intro z4 h σ' hk
      refine hK3 _ (ls_keep [(1, .int .i64 z4)] hk rfl ?_)
      refine ls_rs tbOk ?_
      refine evs (ev_mv (c := .int .i64 z4) rfl rfl rfl (evs (ev_as (c := .int .i64 z4) rfl rfl rfl (evn ?_))))
      refine ls_keep [(4, .int .i64 z4)] ⟨kr, trivial⟩ rfl ?_
      refine ls_ret ?_
      have hr := Option.some.inj h
      rw [← hr]
      exact ⟨.inl rfl, rfl⟩
    refine ls_rec (fun (s : Int × Int) => match s with | (y1, y2) => [(0, .dat a0.length (a0.flatMap c171_d)), (1, .int .i64 y1), (5, .int .i64 y2)]) (laws_szAtomS_B1 a0) fz ((IntKind.i64.wrap (a1 - (List.length a0 : Int))), 0) o1 hl ⟨kr, kr, kr, trivial⟩ (fun _ => rfl) ?_
    rintro m ⟨y1, y2⟩ N h hN
    unfold laws_szAtomS_B1 at h
    dsimp only at h
    refine ls_seq_k fun K5 hK5 => ?_
    refine ls_rs tbOk ?_
    refine evs (ev_mv (c := .int .i64 y2) rfl rfl rfl (evs (ev_mv (c := .dat a0.length (a0.flatMap c171_d)) rfl rfl rfl (evs (ev_len (c1 := .dat a0.length (a0.flatMap c171_d)) rfl rfl rfl (evs (ev_bin (c1 := .int .i64 y2) (c2 := .int .i64 (List.length a0 : Int)) rfl rfl rfl (evn ?_))))))))
    refine ls_keep [(0, .dat a0.length (a0.flatMap c171_d)), (1, .int .i64 y1), (5, .int .i64 y2), (15, .bool (decide (y2 < (List.length a0 : Int))))] ⟨kr, kr, kr, kr, trivial⟩ rfl ?_
    rcases cond_some h with ⟨g6, h⟩ | ⟨g6, h⟩
    · refine ls_cT rfl g6 ?_
      refine ls_skip ?_
      refine hK5 _ (ls_keep [(0, .dat a0.length (a0.flatMap c171_d)), (1, .int .i64 y1), (5, .int .i64 y2)] ⟨kr, kr, kr, trivial⟩ rfl ?_)
      refine ls_seq_k fun K7 hK7 => ?_
      refine ls_blk ?_
      refine ls_rs tbOk ?_
      refine evs (ev_mv (c := .dat a0.length (a0.flatMap c171_d)) rfl rfl rfl (evs (ev_mv (c := .int .i64 y2) rfl rfl rfl (?_))))
      obtain ⟨e8, g9, h⟩ := ob_some h
      refine evs (ev_ia rfl rfl rfl ⟨(geti_some g9).1, (geti_some g9).2.1⟩ (evs (ev_ldE (off := 0) (v := .agg [.str e8.1, .dat e8.2.length (e8.2.flatMap ci64)]) rfl rfl zc171_d g9 rfl (Nat.le_of_ble_eq_true rfl) rfl (evs (ev_mv (c := .int .i64 y1) rfl rfl rfl (?_))))))
      obtain ⟨v10, g11, h⟩ := ob_some h
      refine evs (ev_call (era rfl (erg (erc rfl (erc (erD eci64 _) rfl))) (era rfl rfl eran)) (laws_szAtom_s g11) (evs (ev_as (c := .int .i64 v10) rfl rfl rfl (evn ?_))))
      refine ls_keep [(0, .dat a0.length (a0.flatMap c171_d)), (1, .int .i64 v10), (5, .int .i64 y2)] ⟨kr, kr, kr, trivial⟩ rfl ?_
      refine ls_rs tbOk ?_
      refine evs (ev_mv (c := .int .i64 v10) rfl rfl rfl (evs (ev_bin (c1 := .int .i64 v10) (c2 := .int .i64 0) rfl rfl rfl (evn ?_))))
      refine ls_keep [(0, .dat a0.length (a0.flatMap c171_d)), (1, .int .i64 v10), (5, .int .i64 y2), (25, .bool (decide (v10 < 0)))] ⟨kr, kr, kr, kr, trivial⟩ rfl ?_
      rcases cond_some h with ⟨g12, h⟩ | ⟨g12, h⟩
      · refine ls_cT rfl g12 ?_
        refine ls_rs tbOk ?_
        refine evs (ev_ac rfl nofun rfl (evn ?_))
        refine ls_keep [(4, .int .i64 (-1))] ⟨kr, trivial⟩ rfl ?_
        refine ls_ret ?_
        have q0 := (Option.some.inj h).symm
        have r0 := hr1
        rw [q0] at r0
        have hr := Option.some.inj r0
        rw [← hr]
        exact ⟨.inl rfl, rfl⟩
      · refine ls_cF rfl g12 ?_
        refine ls_skip ?_
        refine hK7 _ (ls_keep [(0, .dat a0.length (a0.flatMap c171_d)), (1, .int .i64 v10), (5, .int .i64 y2)] ⟨kr, kr, kr, trivial⟩ rfl ?_)
        refine ls_rgn tbOk ?_
        refine evs (ev_mv (c := .int .i64 y2) rfl rfl rfl (evs (ev_bin (c1 := .int .i64 y2) (c2 := .int .i64 1) rfl rfl rfl (evs (ev_as (c := .int .i64 (IntKind.i64.wrap (y2 + 1))) rfl rfl rfl (evn ?_))))))
        exact hN _ (v10, (IntKind.i64.wrap (y2 + 1))) h ⟨kr, kr, kr, trivial⟩
    · refine ls_cF rfl g6 ?_
      refine ls_exit ?_
      have q0 := (Option.some.inj h).symm
      have r0 := hr1
      rw [q0] at r0
      exact kXlaws_szAtomS_B1 y1 r0 _ ⟨kr, trivial⟩
def laws_szQuery (a0 : Int × (List ((List UInt8) × (List Int))) × (List Int)) (a1 : Int) : Option (Int) := obind (laws_szAtomS a0.2.1 a1) fun v1 => cond (decide (v1 < 0)) (some (-1)) (obind (laws_szIntS a0.2.2 v1) fun v5 => cond (decide (v5 < 0)) (some (-1)) (some v5))
theorem laws_szQuery_s {a0 : Int × (List ((List UInt8) × (List Int))) × (List Int)} {a1 : Int} {r : Int} (h : laws_szQuery a0 a1 = some r) : SoundAt Try.prog 29 [.agg [.int .i64 a0.1, .dat a0.2.1.length (a0.2.1.flatMap c171_d), .dat a0.2.2.length (a0.2.2.flatMap ci64)], .int .i64 a1] (.int .i64 r) := by
  unfold laws_szQuery at h
  refine sound_lit tbOk lit29 (Nat.le_of_ble_eq_true rfl) rfl ?_
  unfold c29
  refine ls_keep [(0, .agg [.int .i64 a0.1, .dat a0.2.1.length (a0.2.1.flatMap c171_d), .dat a0.2.2.length (a0.2.2.flatMap ci64)]), (1, .int .i64 a1)] ⟨kr, kr, trivial⟩ rfl ?_
  refine ls_rs tbOk ?_
  refine evs (ev_bx (c1 := .agg [.int .i64 a0.1, .dat a0.2.1.length (a0.2.1.flatMap c171_d), .dat a0.2.2.length (a0.2.2.flatMap ci64)]) rfl rfl rfl (evs (ev_ac rfl nofun rfl (evn ?_))))
  refine ls_keep [(1, .int .i64 a1), (2, .box [.int .i64 a0.1, .dat a0.2.1.length (a0.2.1.flatMap c171_d), .dat a0.2.2.length (a0.2.2.flatMap ci64)])] ⟨kr, kr, trivial⟩ rfl ?_
  refine ls_rs tbOk ?_
  refine evs (ev_fa (c1 := .cref 2 0) (v := .cref 2 1) rfl rfl rfl ⟨_, rfl⟩ rfl (evs (ev_ldB (off := 1) (v := .dat a0.2.1.length (a0.2.1.flatMap c171_d)) rfl rfl rfl rfl (Nat.le_of_ble_eq_true rfl) rfl (evs (ev_mv (c := .int .i64 a1) rfl rfl rfl (?_))))))
  obtain ⟨v1, g2, h⟩ := ob_some h
  refine evs (ev_call (era rfl (erD ec171_d _) (era rfl rfl eran)) (laws_szAtomS_s g2) (evs (ev_as (c := .int .i64 v1) rfl rfl rfl (evn ?_))))
  refine ls_keep [(1, .int .i64 v1), (2, .box [.int .i64 a0.1, .dat a0.2.1.length (a0.2.1.flatMap c171_d), .dat a0.2.2.length (a0.2.2.flatMap ci64)])] ⟨kr, kr, trivial⟩ rfl ?_
  refine ls_seq_k fun K3 hK3 => ?_
  refine ls_rs tbOk ?_
  refine evs (ev_mv (c := .int .i64 v1) rfl rfl rfl (evs (ev_bin (c1 := .int .i64 v1) (c2 := .int .i64 0) rfl rfl rfl (evn ?_))))
  refine ls_keep [(1, .int .i64 v1), (2, .box [.int .i64 a0.1, .dat a0.2.1.length (a0.2.1.flatMap c171_d), .dat a0.2.2.length (a0.2.2.flatMap ci64)]), (10, .bool (decide (v1 < 0)))] ⟨kr, kr, kr, trivial⟩ rfl ?_
  rcases cond_some h with ⟨g4, h⟩ | ⟨g4, h⟩
  · refine ls_cT rfl g4 ?_
    refine ls_rs tbOk ?_
    refine evs (ev_ac rfl nofun rfl (evn ?_))
    refine ls_keep [(4, .int .i64 (-1))] ⟨kr, trivial⟩ rfl ?_
    refine ls_ret ?_
    have hr := Option.some.inj h
    rw [← hr]
    exact ⟨.inl rfl, rfl⟩
  · refine ls_cF rfl g4 ?_
    refine ls_skip ?_
    refine hK3 _ (ls_keep [(1, .int .i64 v1), (2, .box [.int .i64 a0.1, .dat a0.2.1.length (a0.2.1.flatMap c171_d), .dat a0.2.2.length (a0.2.2.flatMap ci64)])] ⟨kr, kr, trivial⟩ rfl ?_)
    refine ls_rs tbOk ?_
    refine evs (ev_fa (c1 := .cref 2 0) (v := .cref 2 2) rfl rfl rfl ⟨_, rfl⟩ rfl (evs (ev_ldB (off := 2) (v := .dat a0.2.2.length (a0.2.2.flatMap ci64)) rfl rfl rfl rfl (Nat.le_of_ble_eq_true rfl) rfl (evs (ev_mv (c := .int .i64 v1) rfl rfl rfl (?_))))))
    obtain ⟨v5, g6, h⟩ := ob_some h
    refine evs (ev_call (era rfl (erD eci64 _) (era rfl rfl eran)) (laws_szIntS_s g6) (evs (ev_as (c := .int .i64 v5) rfl rfl rfl (evn ?_))))
    refine ls_keep [(1, .int .i64 v5)] ⟨kr, trivial⟩ rfl ?_
    refine ls_seq_k fun K7 hK7 => ?_
    refine ls_rs tbOk ?_
    refine evs (ev_mv (c := .int .i64 v5) rfl rfl rfl (evs (ev_bin (c1 := .int .i64 v5) (c2 := .int .i64 0) rfl rfl rfl (evn ?_))))
    refine ls_keep [(1, .int .i64 v5), (16, .bool (decide (v5 < 0)))] ⟨kr, kr, trivial⟩ rfl ?_
    rcases cond_some h with ⟨g8, h⟩ | ⟨g8, h⟩
    · refine ls_cT rfl g8 ?_
      refine ls_rs tbOk ?_
      refine evs (ev_ac rfl nofun rfl (evn ?_))
      refine ls_keep [(4, .int .i64 (-1))] ⟨kr, trivial⟩ rfl ?_
      refine ls_ret ?_
      have hr := Option.some.inj h
      rw [← hr]
      exact ⟨.inl rfl, rfl⟩
    · refine ls_cF rfl g8 ?_
      refine ls_skip ?_
      refine hK7 _ (ls_keep [(1, .int .i64 v5)] ⟨kr, trivial⟩ rfl ?_)
      refine ls_rs tbOk ?_
      refine evs (ev_mv (c := .int .i64 v5) rfl rfl rfl (evs (ev_as (c := .int .i64 v5) rfl rfl rfl (evn ?_))))
      refine ls_keep [(4, .int .i64 v5)] ⟨kr, trivial⟩ rfl ?_
      refine ls_ret ?_
      have hr := Option.some.inj h
      rw [← hr]
      exact ⟨.inl rfl, rfl⟩
def spec_l7Find_B1 (a0 : List Int) (a1 : Int) (rec : Int → Option (Sum (Unit) (Int))) (y1 : Int) : Option (Sum (Unit) (Int)) := cond (decide (y1 < (List.length a0 : Int))) (obind (geti a0 y1) fun e5 => cond (e5 == a1) (some (.inr y1)) (rec (IntKind.i64.wrap (y1 + 1)))) (some (.inl ()))
def spec_l7Find (a0 : List Int) (a1 : Int) : Option (Int) := obind (loopF (spec_l7Find_B1 a0 a1) fz 0) fun o1 => (match o1 with
  | .inl _ => (some (-1))
  | .inr r => some r)
theorem spec_l7Find_s {a0 : List Int} {a1 : Int} {r : Int} (h : spec_l7Find a0 a1 = some r) : SoundAt Try.prog 101 [.dat a0.length (a0.flatMap ci64), .int .i64 a1] (.int .i64 r) := by
  unfold spec_l7Find at h
  refine sound_lit tbOk lit101 (Nat.le_of_ble_eq_true rfl) rfl ?_
  unfold c101
  refine ls_keep [(0, .dat a0.length (a0.flatMap ci64)), (1, .int .i64 a1)] ⟨kr, kr, trivial⟩ rfl ?_
  refine ls_rs tbOk ?_
  refine evs (ev_ac rfl nofun rfl (evn ?_))
  refine ls_keep [(0, .dat a0.length (a0.flatMap ci64)), (1, .int .i64 a1)] ⟨kr, kr, trivial⟩ rfl ?_
  refine ls_seq_k fun K1 hK1 => ?_
  refine ls_rs tbOk ?_
  refine evs (ev_ac rfl nofun rfl (evn ?_))
  refine ls_keep [(0, .dat a0.length (a0.flatMap ci64)), (1, .int .i64 a1), (5, .int .i64 0)] ⟨kr, kr, kr, trivial⟩ rfl ?_
  obtain ⟨o1, hl, hr1⟩ := ob_some h
  clear h
  have kXspec_l7Find_B1 : ∀ (_ : Unit), (some (-1)) = some r → ∀ σ' : PS, okK σ' [] → K1 σ' := by
    intro _ h σ' hk
    refine hK1 _ (ls_keep [] hk rfl ?_)
    refine ls_rs tbOk ?_
    refine evs (ev_ac rfl nofun rfl (evn ?_))
    refine ls_keep [(4, .int .i64 (-1))] ⟨kr, trivial⟩ rfl ?_
    refine ls_ret ?_
    have hr := Option.some.inj h
    rw [← hr]
    exact ⟨.inl rfl, rfl⟩
  refine ls_rec (fun (y1 : Int) => [(0, .dat a0.length (a0.flatMap ci64)), (1, .int .i64 a1), (5, .int .i64 y1)]) (spec_l7Find_B1 a0 a1) fz 0 o1 hl ⟨kr, kr, kr, trivial⟩ (fun _ => rfl) ?_
  rintro m y1 N h hN
  unfold spec_l7Find_B1 at h
  refine ls_seq_k fun K2 hK2 => ?_
  refine ls_rs tbOk ?_
  refine evs (ev_mv (c := .int .i64 y1) rfl rfl rfl (evs (ev_mv (c := .dat a0.length (a0.flatMap ci64)) rfl rfl rfl (evs (ev_len (c1 := .dat a0.length (a0.flatMap ci64)) rfl rfl rfl (evs (ev_bin (c1 := .int .i64 y1) (c2 := .int .i64 (List.length a0 : Int)) rfl rfl rfl (evn ?_))))))))
  refine ls_keep [(0, .dat a0.length (a0.flatMap ci64)), (1, .int .i64 a1), (5, .int .i64 y1), (9, .bool (decide (y1 < (List.length a0 : Int))))] ⟨kr, kr, kr, kr, trivial⟩ rfl ?_
  rcases cond_some h with ⟨g3, h⟩ | ⟨g3, h⟩
  · refine ls_cT rfl g3 ?_
    refine ls_skip ?_
    refine hK2 _ (ls_keep [(0, .dat a0.length (a0.flatMap ci64)), (1, .int .i64 a1), (5, .int .i64 y1)] ⟨kr, kr, kr, trivial⟩ rfl ?_)
    refine ls_seq_k fun K4 hK4 => ?_
    refine ls_blk ?_
    refine ls_rs tbOk ?_
    refine evs (ev_mv (c := .dat a0.length (a0.flatMap ci64)) rfl rfl rfl (evs (ev_mv (c := .int .i64 y1) rfl rfl rfl (?_))))
    obtain ⟨e5, g6, h⟩ := ob_some h
    refine evs (ev_ia rfl rfl rfl ⟨(geti_some g6).1, (geti_some g6).2.1⟩ (evs (ev_ldE (off := 0) (v := .int .i64 e5) rfl rfl zci64 g6 rfl (Nat.le_of_ble_eq_true rfl) rfl (evs (ev_mv (c := .int .i64 a1) rfl rfl rfl (evs (ev_bin (c1 := .int .i64 e5) (c2 := .int .i64 a1) rfl rfl rfl (evn ?_))))))))
    refine ls_keep [(0, .dat a0.length (a0.flatMap ci64)), (1, .int .i64 a1), (5, .int .i64 y1), (17, .bool (e5 == a1))] ⟨kr, kr, kr, kr, trivial⟩ rfl ?_
    rcases cond_some h with ⟨g7, h⟩ | ⟨g7, h⟩
    · refine ls_cT rfl g7 ?_
      refine ls_rs tbOk ?_
      refine evs (ev_mv (c := .int .i64 y1) rfl rfl rfl (evs (ev_as (c := .int .i64 y1) rfl rfl rfl (evn ?_))))
      refine ls_keep [(4, .int .i64 y1)] ⟨kr, trivial⟩ rfl ?_
      refine ls_ret ?_
      have q0 := (Option.some.inj h).symm
      have r0 := hr1
      rw [q0] at r0
      have hr := Option.some.inj r0
      rw [← hr]
      exact ⟨.inl rfl, rfl⟩
    · refine ls_cF rfl g7 ?_
      refine ls_skip ?_
      refine hK4 _ (ls_keep [(0, .dat a0.length (a0.flatMap ci64)), (1, .int .i64 a1), (5, .int .i64 y1)] ⟨kr, kr, kr, trivial⟩ rfl ?_)
      refine ls_rgn tbOk ?_
      refine evs (ev_mv (c := .int .i64 y1) rfl rfl rfl (evs (ev_bin (c1 := .int .i64 y1) (c2 := .int .i64 1) rfl rfl rfl (evs (ev_as (c := .int .i64 (IntKind.i64.wrap (y1 + 1))) rfl rfl rfl (evn ?_))))))
      exact hN _ (IntKind.i64.wrap (y1 + 1)) h ⟨kr, kr, kr, trivial⟩
  · refine ls_cF rfl g3 ?_
    refine ls_exit ?_
    have q0 := (Option.some.inj h).symm
    have r0 := hr1
    rw [q0] at r0
    exact kXspec_l7Find_B1 () r0 _ trivial
def spec_ContainsVariable_B1 (a0 : (List UInt8) × (List Int)) (a1 : Int) (rec : Int → Option (Sum (Unit) (Bool))) (y1 : Int) : Option (Sum (Unit) (Bool)) := cond (decide (y1 < (List.length a0.2 : Int))) (obind (geti a0.2 y1) fun e5 => cond (e5 == a1) (some (.inr true)) (rec (IntKind.i64.wrap (y1 + 1)))) (some (.inl ()))
def spec_ContainsVariable (a0 : (List UInt8) × (List Int)) (a1 : Int) : Option (Bool) := obind (loopF (spec_ContainsVariable_B1 a0 a1) fz 0) fun o1 => (match o1 with
  | .inl _ => (some false)
  | .inr r => some r)
theorem spec_ContainsVariable_s {a0 : (List UInt8) × (List Int)} {a1 : Int} {r : Bool} (h : spec_ContainsVariable a0 a1 = some r) : SoundAt Try.prog 160 [.agg [.str a0.1, .dat a0.2.length (a0.2.flatMap ci64)], .int .i64 a1] (.bool r) := by
  unfold spec_ContainsVariable at h
  refine sound_lit tbOk lit160 (Nat.le_of_ble_eq_true rfl) rfl ?_
  unfold c160
  refine ls_keep [(0, .agg [.str a0.1, .dat a0.2.length (a0.2.flatMap ci64)]), (1, .int .i64 a1)] ⟨kr, kr, trivial⟩ rfl ?_
  refine ls_rs tbOk ?_
  refine evs (ev_bx (c1 := .agg [.str a0.1, .dat a0.2.length (a0.2.flatMap ci64)]) rfl rfl rfl (evs (ev_ac rfl nofun rfl (evn ?_))))
  refine ls_keep [(1, .int .i64 a1), (2, .box [.str a0.1, .dat a0.2.length (a0.2.flatMap ci64)])] ⟨kr, kr, trivial⟩ rfl ?_
  refine ls_seq_k fun K1 hK1 => ?_
  refine ls_rs tbOk ?_
  refine evs (ev_ac rfl nofun rfl (evn ?_))
  refine ls_keep [(1, .int .i64 a1), (2, .box [.str a0.1, .dat a0.2.length (a0.2.flatMap ci64)]), (5, .int .i64 0)] ⟨kr, kr, kr, trivial⟩ rfl ?_
  obtain ⟨o1, hl, hr1⟩ := ob_some h
  clear h
  have kXspec_ContainsVariable_B1 : ∀ (_ : Unit), (some false) = some r → ∀ σ' : PS, okK σ' [] → K1 σ' := by
    intro _ h σ' hk
    refine hK1 _ (ls_keep [] hk rfl ?_)
    refine ls_rs tbOk ?_
    refine evs (ev_ac rfl nofun rfl (evn ?_))
    refine ls_keep [(4, .bool false)] ⟨kr, trivial⟩ rfl ?_
    refine ls_ret ?_
    have hr := Option.some.inj h
    rw [← hr]
    exact ⟨.inl rfl, rfl⟩
  refine ls_rec (fun (y1 : Int) => [(1, .int .i64 a1), (2, .box [.str a0.1, .dat a0.2.length (a0.2.flatMap ci64)]), (5, .int .i64 y1)]) (spec_ContainsVariable_B1 a0 a1) fz 0 o1 hl ⟨kr, kr, kr, trivial⟩ (fun _ => rfl) ?_
  rintro m y1 N h hN
  unfold spec_ContainsVariable_B1 at h
  refine ls_seq_k fun K2 hK2 => ?_
  refine ls_rs tbOk ?_
  refine evs (ev_mv (c := .int .i64 y1) rfl rfl rfl (evs (ev_fa (c1 := .cref 2 0) (v := .cref 2 1) rfl rfl rfl ⟨_, rfl⟩ rfl (evs (ev_ldB (off := 1) (v := .dat a0.2.length (a0.2.flatMap ci64)) rfl rfl rfl rfl (Nat.le_of_ble_eq_true rfl) rfl (evs (ev_len (c1 := .dat a0.2.length (a0.2.flatMap ci64)) rfl rfl rfl (evs (ev_bin (c1 := .int .i64 y1) (c2 := .int .i64 (List.length a0.2 : Int)) rfl rfl rfl (evn ?_))))))))))
  refine ls_keep [(1, .int .i64 a1), (2, .box [.str a0.1, .dat a0.2.length (a0.2.flatMap ci64)]), (5, .int .i64 y1), (10, .bool (decide (y1 < (List.length a0.2 : Int))))] ⟨kr, kr, kr, kr, trivial⟩ rfl ?_
  rcases cond_some h with ⟨g3, h⟩ | ⟨g3, h⟩
  · refine ls_cT rfl g3 ?_
    refine ls_skip ?_
    refine hK2 _ (ls_keep [(1, .int .i64 a1), (2, .box [.str a0.1, .dat a0.2.length (a0.2.flatMap ci64)]), (5, .int .i64 y1)] ⟨kr, kr, kr, trivial⟩ rfl ?_)
    refine ls_seq_k fun K4 hK4 => ?_
    refine ls_blk ?_
    refine ls_rs tbOk ?_
    refine evs (ev_fa (c1 := .cref 2 0) (v := .cref 2 1) rfl rfl rfl ⟨_, rfl⟩ rfl (evs (ev_ldB (off := 1) (v := .dat a0.2.length (a0.2.flatMap ci64)) rfl rfl rfl rfl (Nat.le_of_ble_eq_true rfl) rfl (evs (ev_mv (c := .int .i64 y1) rfl rfl rfl (?_))))))
    obtain ⟨e5, g6, h⟩ := ob_some h
    refine evs (ev_ia rfl rfl rfl ⟨(geti_some g6).1, (geti_some g6).2.1⟩ (evs (ev_ldE (off := 0) (v := .int .i64 e5) rfl rfl zci64 g6 rfl (Nat.le_of_ble_eq_true rfl) rfl (evs (ev_mv (c := .int .i64 a1) rfl rfl rfl (evs (ev_bin (c1 := .int .i64 e5) (c2 := .int .i64 a1) rfl rfl rfl (evn ?_))))))))
    refine ls_keep [(1, .int .i64 a1), (2, .box [.str a0.1, .dat a0.2.length (a0.2.flatMap ci64)]), (5, .int .i64 y1), (19, .bool (e5 == a1))] ⟨kr, kr, kr, kr, trivial⟩ rfl ?_
    rcases cond_some h with ⟨g7, h⟩ | ⟨g7, h⟩
    · refine ls_cT rfl g7 ?_
      refine ls_rs tbOk ?_
      refine evs (ev_ac rfl nofun rfl (evn ?_))
      refine ls_keep [(4, .bool true)] ⟨kr, trivial⟩ rfl ?_
      refine ls_ret ?_
      have q0 := (Option.some.inj h).symm
      have r0 := hr1
      rw [q0] at r0
      have hr := Option.some.inj r0
      rw [← hr]
      exact ⟨.inl rfl, rfl⟩
    · refine ls_cF rfl g7 ?_
      refine ls_skip ?_
      refine hK4 _ (ls_keep [(1, .int .i64 a1), (2, .box [.str a0.1, .dat a0.2.length (a0.2.flatMap ci64)]), (5, .int .i64 y1)] ⟨kr, kr, kr, trivial⟩ rfl ?_)
      refine ls_rgn tbOk ?_
      refine evs (ev_mv (c := .int .i64 y1) rfl rfl rfl (evs (ev_bin (c1 := .int .i64 y1) (c2 := .int .i64 1) rfl rfl rfl (evs (ev_as (c := .int .i64 (IntKind.i64.wrap (y1 + 1))) rfl rfl rfl (evn ?_))))))
      exact hN _ (IntKind.i64.wrap (y1 + 1)) h ⟨kr, kr, kr, trivial⟩
  · refine ls_cF rfl g3 ?_
    refine ls_exit ?_
    have q0 := (Option.some.inj h).symm
    have r0 := hr1
    rw [q0] at r0
    exact kXspec_ContainsVariable_B1 () r0 _ trivial
def c150_d (x : (List UInt8) × (List Int)) : List V := [.str x.1, .dat x.2.length (x.2.flatMap ci64)]
theorem zc150_d (x : (List UInt8) × (List Int)) : (c150_d x).length = 2 := rfl
theorem ec150_d (x : (List UInt8) × (List Int)) : erL (c150_d x) = c150_d x := (erc rfl (erc (erD eci64 _) rfl))
def spec_IsValidQuery_B2 (a0 : Int × (List ((List UInt8) × (List Int))) × (List Int)) (y2 : Int) (rec : Int → Option (Sum (Unit) (Bool))) (y4 : Int) : Option (Sum (Unit) (Bool)) := obind (geti a0.2.1 y2) fun e25 => cond (decide (y4 < (List.length e25.2 : Int))) (obind (geti a0.2.1 y2) fun e29 => obind (geti e29.2 y4) fun e31 => obind (spec_l1In e31 0 (IntKind.i64.wrap (a0.1 - 1))) fun v33 => cond (!v33) (some (.inr false)) (rec (IntKind.i64.wrap (y4 + 1)))) (some (.inl ()))
def spec_IsValidQuery_B1 (a0 : Int × (List ((List UInt8) × (List Int))) × (List Int)) (rec : Int → Option (Sum (Unit) (Bool))) (y2 : Int) : Option (Sum (Unit) (Bool)) := cond (decide (y2 < (List.length a0.2.1 : Int))) (obind (geti a0.2.1 y2) fun e14 => obind (spec_IsValidName e14.1) fun v16 => cond (!v16) (some (.inr false)) (obind (geti a0.2.1 y2) fun e19 => obind (spec_l1In (List.length e19.2 : Int) 1 5) fun v21 => cond (!v21) (some (.inr false)) (obind (loopF (spec_IsValidQuery_B2 a0 y2) fz 0) fun o2 => (match o2 with
  | .inl _ => (rec (IntKind.i64.wrap (y2 + 1)))
  | .inr r => some (.inr r))))) (some (.inl ()))
def spec_IsValidQuery_J5 (rec : (Bool × Int) → Option (Bool)) (y11 : Int) (x45 : Bool) : Option (Bool) := rec (x45, (IntKind.i64.wrap (y11 + 1)))
def spec_IsValidQuery_B4 (a0 : Int × (List ((List UInt8) × (List Int))) × (List Int)) (y7 : Int) (rec : (Bool × Int) → Option (Bool)) (s : Bool × Int) : Option (Bool) := match s with
  | (y10, y11) => cond (decide (y11 < (List.length a0.2.1 : Int))) (cond y10 (spec_IsValidQuery_J5 rec y11 true) (obind (geti a0.2.1 y11) fun e47 => obind (spec_ContainsVariable e47 y7) fun v49 => spec_IsValidQuery_J5 rec y11 v49)) (some y10)
def spec_IsValidQuery_B3 (a0 : Int × (List ((List UInt8) × (List Int))) × (List Int)) (rec : Int → Option (Sum (Unit) (Bool))) (y7 : Int) : Option (Sum (Unit) (Bool)) := cond (decide (y7 < a0.1)) (obind (loopF (spec_IsValidQuery_B4 a0 y7) fz (false, 0)) fun z41 => cond (!z41) (some (.inr false)) (rec (IntKind.i64.wrap (y7 + 1)))) (some (.inl ()))
def spec_IsValidQuery_B6 (a0 : Int × (List ((List UInt8) × (List Int))) × (List Int)) (rec : Int → Option (Sum (Unit) (Bool))) (y12 : Int) : Option (Sum (Unit) (Bool)) := cond (decide (y12 < (List.length a0.2.2 : Int))) (obind (geti a0.2.2 y12) fun e56 => obind (spec_l1In e56 0 (IntKind.i64.wrap (a0.1 - 1))) fun v58 => cond (!v58) (some (.inr false)) (chk ((0 : Int) ≤ 0 ∧ 0 ≤ y12 ∧ y12 ≤ (List.length a0.2.2 : Int)) (obind (geti a0.2.2 y12) fun e62 => obind (spec_l7Find (subl a0.2.2 0 y12) e62) fun v64 => cond (decide (0 ≤ v64)) (some (.inr false)) (rec (IntKind.i64.wrap (y12 + 1)))))) (some (.inl ()))
def spec_IsValidQuery (a0 : Int × (List ((List UInt8) × (List Int))) × (List Int)) : Option (Bool) := obind (spec_l1In a0.1 1 5) fun v2 => cond (!v2) (some false) (obind (spec_l1In (List.length a0.2.1 : Int) 1 4) fun v5 => cond (!v5) (some false) (cond (decide (a0.1 < (List.length a0.2.2 : Int))) (some false) (obind (loopF (spec_IsValidQuery_B1 a0) fz 0) fun o1 => (match o1 with
  | .inl _ => (obind (loopF (spec_IsValidQuery_B3 a0) fz 0) fun o3 => (match o3 with
  | .inl _ => (obind (loopF (spec_IsValidQuery_B6 a0) fz 0) fun o6 => (match o6 with
  | .inl _ => (some true)
  | .inr r => some r))
  | .inr r => some r))
  | .inr r => some r))))
theorem spec_IsValidQuery_s {a0 : Int × (List ((List UInt8) × (List Int))) × (List Int)} {r : Bool} (h : spec_IsValidQuery a0 = some r) : SoundAt Try.prog 124 [.agg [.int .i64 a0.1, .dat a0.2.1.length (a0.2.1.flatMap c150_d), .dat a0.2.2.length (a0.2.2.flatMap ci64)]] (.bool r) := by
  unfold spec_IsValidQuery at h
  refine sound_lit tbOk lit124 (Nat.le_of_ble_eq_true rfl) rfl ?_
  unfold c124
  refine ls_keep [(0, .agg [.int .i64 a0.1, .dat a0.2.1.length (a0.2.1.flatMap c150_d), .dat a0.2.2.length (a0.2.2.flatMap ci64)])] ⟨kr, trivial⟩ rfl ?_
  refine ls_rs tbOk ?_
  refine evs (ev_bx (c1 := .agg [.int .i64 a0.1, .dat a0.2.1.length (a0.2.1.flatMap c150_d), .dat a0.2.2.length (a0.2.2.flatMap ci64)]) rfl rfl rfl (evs (ev_ac rfl nofun rfl (evn ?_))))
  refine ls_keep [(1, .box [.int .i64 a0.1, .dat a0.2.1.length (a0.2.1.flatMap c150_d), .dat a0.2.2.length (a0.2.2.flatMap ci64)])] ⟨kr, trivial⟩ rfl ?_
  refine ls_seq_k fun K1 hK1 => ?_
  refine ls_rs tbOk ?_
  refine evs (ev_fa (c1 := .cref 1 0) (v := .cref 1 0) rfl rfl rfl ⟨_, rfl⟩ rfl (evs (ev_ldB (off := 0) (v := .int .i64 a0.1) rfl rfl rfl rfl (Nat.le_of_ble_eq_true rfl) rfl (?_))))
  obtain ⟨v2, g3, h⟩ := ob_some h
  refine evs (ev_call (era rfl rfl (era rfl rfl (era rfl rfl eran))) (spec_l1In_s g3) (evs (ev_un (c1 := .bool v2) rfl trivial (evs (ev_mv (c := .bool (!v2)) rfl rfl rfl (?_))))))
  rcases cond_some h with ⟨g4, h⟩ | ⟨g4, h⟩
  · refine evs (ev_gs rfl rfl (isb_T g4) (evs (ev_gs rfl rfl (isb_T g4) (evs (ev_gs rfl rfl (isb_T g4) (evs (ev_gs rfl rfl (isb_T g4) (evs (ev_gs rfl rfl (isb_T g4) (evs (ev_pkT (c1 := .bool true) rfl g4 rfl rfl (evs (ev_mv (c := .bool true) rfl rfl rfl (evs (ev_gs rfl rfl rfl (evs (ev_gs rfl rfl rfl (evs (ev_gs rfl rfl rfl (evs (ev_gs rfl rfl rfl (evs (ev_gs rfl rfl rfl (evs (ev_gs rfl rfl rfl (evs (ev_pkT (c1 := .bool true) rfl rfl rfl rfl (evn ?_))))))))))))))))))))))))))))
    refine ls_keep [(1, .box [.int .i64 a0.1, .dat a0.2.1.length (a0.2.1.flatMap c150_d), .dat a0.2.2.length (a0.2.2.flatMap ci64)]), (27, .bool true)] ⟨kr, kr, trivial⟩ rfl ?_
    refine ls_cT rfl rfl ?_
    refine ls_rs tbOk ?_
    refine evs (ev_ac rfl nofun rfl (evn ?_))
    refine ls_keep [(2, .bool false)] ⟨kr, trivial⟩ rfl ?_
    refine ls_ret ?_
    have hr := Option.some.inj h
    rw [← hr]
    exact ⟨.inl rfl, rfl⟩
  · refine evs (ev_gr rfl (congrArg V.bool g4) (ev_fa (c1 := .cref 1 0) (v := .cref 1 1) rfl rfl rfl ⟨_, rfl⟩ rfl (evs (ev_gr rfl (congrArg V.bool g4) (ev_ldB (off := 1) (v := .dat a0.2.1.length (a0.2.1.flatMap c150_d)) rfl rfl rfl rfl (Nat.le_of_ble_eq_true rfl) rfl (evs (ev_gr rfl (congrArg V.bool g4) (ev_len (c1 := .dat a0.2.1.length (a0.2.1.flatMap c150_d)) rfl rfl rfl (?_)))))))))
    obtain ⟨v5, g6, h⟩ := ob_some h
    refine evs (ev_gr rfl (congrArg V.bool g4) (ev_call (era rfl rfl (era rfl rfl (era rfl rfl eran))) (spec_l1In_s g6) (evs (ev_gr rfl (congrArg V.bool g4) (ev_un (c1 := .bool v5) rfl trivial (evs (ev_pkF (c1 := .bool (!v5)) rfl g4 rfl rfl (evs (ev_mv (c := .bool (!v5)) rfl rfl rfl (?_))))))))))
    rcases cond_some h with ⟨g7, h⟩ | ⟨g7, h⟩
    · refine evs (ev_gs rfl rfl (isb_T g7) (evs (ev_gs rfl rfl (isb_T g7) (evs (ev_gs rfl rfl (isb_T g7) (evs (ev_gs rfl rfl (isb_T g7) (evs (ev_gs rfl rfl (isb_T g7) (evs (ev_gs rfl rfl (isb_T g7) (evs (ev_pkT (c1 := .bool true) rfl g7 rfl rfl (evn ?_))))))))))))))
      refine ls_keep [(1, .box [.int .i64 a0.1, .dat a0.2.1.length (a0.2.1.flatMap c150_d), .dat a0.2.2.length (a0.2.2.flatMap ci64)]), (27, .bool true)] ⟨kr, kr, trivial⟩ rfl ?_
      refine ls_cT rfl rfl ?_
      refine ls_rs tbOk ?_
      refine evs (ev_ac rfl nofun rfl (evn ?_))
      refine ls_keep [(2, .bool false)] ⟨kr, trivial⟩ rfl ?_
      refine ls_ret ?_
      have hr := Option.some.inj h
      rw [← hr]
      exact ⟨.inl rfl, rfl⟩
    · refine evs (ev_gr rfl (congrArg V.bool g7) (ev_fa (c1 := .cref 1 0) (v := .cref 1 2) rfl rfl rfl ⟨_, rfl⟩ rfl (evs (ev_gr rfl (congrArg V.bool g7) (ev_ldB (off := 2) (v := .dat a0.2.2.length (a0.2.2.flatMap ci64)) rfl rfl rfl rfl (Nat.le_of_ble_eq_true rfl) rfl (evs (ev_gr rfl (congrArg V.bool g7) (ev_len (c1 := .dat a0.2.2.length (a0.2.2.flatMap ci64)) rfl rfl rfl (evs (ev_gr rfl (congrArg V.bool g7) (ev_fa (c1 := .cref 1 0) (v := .cref 1 0) rfl rfl rfl ⟨_, rfl⟩ rfl (evs (ev_gr rfl (congrArg V.bool g7) (ev_ldB (off := 0) (v := .int .i64 a0.1) rfl rfl rfl rfl (Nat.le_of_ble_eq_true rfl) rfl (evs (ev_gr rfl (congrArg V.bool g7) (ev_bin (c1 := .int .i64 (List.length a0.2.2 : Int)) (c2 := .int .i64 a0.1) rfl rfl rfl (evs (ev_pkF (c1 := .bool (decide (a0.1 < (List.length a0.2.2 : Int)))) rfl g7 rfl rfl (evn ?_))))))))))))))))))))
      refine ls_keep [(1, .box [.int .i64 a0.1, .dat a0.2.1.length (a0.2.1.flatMap c150_d), .dat a0.2.2.length (a0.2.2.flatMap ci64)]), (27, .bool (decide (a0.1 < (List.length a0.2.2 : Int))))] ⟨kr, kr, trivial⟩ rfl ?_
      rcases cond_some h with ⟨g8, h⟩ | ⟨g8, h⟩
      · refine ls_cT rfl g8 ?_
        refine ls_rs tbOk ?_
        refine evs (ev_ac rfl nofun rfl (evn ?_))
        refine ls_keep [(2, .bool false)] ⟨kr, trivial⟩ rfl ?_
        refine ls_ret ?_
        have hr := Option.some.inj h
        rw [← hr]
        exact ⟨.inl rfl, rfl⟩
      · refine ls_cF rfl g8 ?_
        refine ls_skip ?_
        refine hK1 _ (ls_keep [(1, .box [.int .i64 a0.1, .dat a0.2.1.length (a0.2.1.flatMap c150_d), .dat a0.2.2.length (a0.2.2.flatMap ci64)])] ⟨kr, trivial⟩ rfl ?_)
        refine ls_seq_k fun K9 hK9 => ?_
        refine ls_rs tbOk ?_
        refine evs (ev_ac rfl nofun rfl (evn ?_))
        refine ls_keep [(1, .box [.int .i64 a0.1, .dat a0.2.1.length (a0.2.1.flatMap c150_d), .dat a0.2.2.length (a0.2.2.flatMap ci64)]), (3, .int .i64 0)] ⟨kr, kr, trivial⟩ rfl ?_
        obtain ⟨o1, hl, hr1⟩ := ob_some h
        clear h
        have kXspec_IsValidQuery_B1 : ∀ (_ : Unit), (obind (loopF (spec_IsValidQuery_B3 a0) fz 0) fun o3 => (match o3 with
  | .inl _ => (obind (loopF (spec_IsValidQuery_B6 a0) fz 0) fun o6 => (match o6 with
  | .inl _ => (some true)
  | .inr r => some r))
  | .inr r => some r)) = some r → ∀ σ' : PS, okK σ' [(1, .box [.int .i64 a0.1, .dat a0.2.1.length (a0.2.1.flatMap c150_d), .dat a0.2.2.length (a0.2.2.flatMap ci64)])] → K9 σ' := by
          intro _ h σ' hk
          refine hK9 _ (ls_keep [(1, .box [.int .i64 a0.1, .dat a0.2.1.length (a0.2.1.flatMap c150_d), .dat a0.2.2.length (a0.2.2.flatMap ci64)])] hk rfl ?_)
          refine ls_seq_k fun K36 hK36 => ?_
          refine ls_rs tbOk ?_
          refine evs (ev_ac rfl nofun rfl (evn ?_))
          refine ls_keep [(1, .box [.int .i64 a0.1, .dat a0.2.1.length (a0.2.1.flatMap c150_d), .dat a0.2.2.length (a0.2.2.flatMap ci64)]), (5, .int .i64 0)] ⟨kr, kr, trivial⟩ rfl ?_
          obtain ⟨o3, hl, hr3⟩ := ob_some h
          clear h
          have kXspec_IsValidQuery_B3 : ∀ (_ : Unit), (obind (loopF (spec_IsValidQuery_B6 a0) fz 0) fun o6 => (match o6 with
  | .inl _ => (some true)
  | .inr r => some r)) = some r → ∀ σ' : PS, okK σ' [(1, .box [.int .i64 a0.1, .dat a0.2.1.length (a0.2.1.flatMap c150_d), .dat a0.2.2.length (a0.2.2.flatMap ci64)])] → K36 σ' := by
            intro _ h σ' hk
            refine hK36 _ (ls_keep [(1, .box [.int .i64 a0.1, .dat a0.2.1.length (a0.2.1.flatMap c150_d), .dat a0.2.2.length (a0.2.2.flatMap ci64)])] hk rfl ?_)
            refine ls_seq_k fun K52 hK52 => ?_
            refine ls_rs tbOk ?_
            refine evs (ev_ac rfl nofun rfl (evn ?_))
            refine ls_keep [(1, .box [.int .i64 a0.1, .dat a0.2.1.length (a0.2.1.flatMap c150_d), .dat a0.2.2.length (a0.2.2.flatMap ci64)]), (8, .int .i64 0)] ⟨kr, kr, trivial⟩ rfl ?_
            obtain ⟨o6, hl, hr6⟩ := ob_some h
            clear h
            have kXspec_IsValidQuery_B6 : ∀ (_ : Unit), (some true) = some r → ∀ σ' : PS, okK σ' [] → K52 σ' := by
              intro _ h σ' hk
              refine hK52 _ (ls_keep [] hk rfl ?_)
              refine ls_rs tbOk ?_
              refine evs (ev_ac rfl nofun rfl (evn ?_))
              refine ls_keep [(2, .bool true)] ⟨kr, trivial⟩ rfl ?_
              refine ls_ret ?_
              have hr := Option.some.inj h
              rw [← hr]
              exact ⟨.inl rfl, rfl⟩
            refine ls_rec (fun (y12 : Int) => [(1, .box [.int .i64 a0.1, .dat a0.2.1.length (a0.2.1.flatMap c150_d), .dat a0.2.2.length (a0.2.2.flatMap ci64)]), (8, .int .i64 y12)]) (spec_IsValidQuery_B6 a0) fz 0 o6 hl ⟨kr, kr, trivial⟩ (fun _ => rfl) ?_
            rintro m y12 N h hN
            unfold spec_IsValidQuery_B6 at h
            refine ls_seq_k fun K53 hK53 => ?_
            refine ls_rs tbOk ?_
            refine evs (ev_mv (c := .int .i64 y12) rfl rfl rfl (evs (ev_fa (c1 := .cref 1 0) (v := .cref 1 2) rfl rfl rfl ⟨_, rfl⟩ rfl (evs (ev_ldB (off := 2) (v := .dat a0.2.2.length (a0.2.2.flatMap ci64)) rfl rfl rfl rfl (Nat.le_of_ble_eq_true rfl) rfl (evs (ev_len (c1 := .dat a0.2.2.length (a0.2.2.flatMap ci64)) rfl rfl rfl (evs (ev_bin (c1 := .int .i64 y12) (c2 := .int .i64 (List.length a0.2.2 : Int)) rfl rfl rfl (evn ?_))))))))))
            refine ls_keep [(1, .box [.int .i64 a0.1, .dat a0.2.1.length (a0.2.1.flatMap c150_d), .dat a0.2.2.length (a0.2.2.flatMap ci64)]), (8, .int .i64 y12), (108, .bool (decide (y12 < (List.length a0.2.2 : Int))))] ⟨kr, kr, kr, trivial⟩ rfl ?_
            rcases cond_some h with ⟨g54, h⟩ | ⟨g54, h⟩
            · refine ls_cT rfl g54 ?_
              refine ls_skip ?_
              refine hK53 _ (ls_keep [(1, .box [.int .i64 a0.1, .dat a0.2.1.length (a0.2.1.flatMap c150_d), .dat a0.2.2.length (a0.2.2.flatMap ci64)]), (8, .int .i64 y12)] ⟨kr, kr, trivial⟩ rfl ?_)
              refine ls_seq_k fun K55 hK55 => ?_
              refine ls_blk ?_
              refine ls_rd tbOk mixed (by kernel_rfl) ?_
              refine evd rfl rfl (ev_fa (c1 := .cref 1 0) (v := .cref 1 2) rfl rfl rfl ⟨_, rfl⟩ rfl (evd rfl rfl (ev_ldB (off := 2) (v := .dat a0.2.2.length (a0.2.2.flatMap ci64)) rfl rfl rfl rfl (Nat.le_of_ble_eq_true rfl) rfl (evd rfl rfl (ev_mv (c := .int .i64 y12) rfl rfl rfl (?_))))))
              obtain ⟨e56, g57, h⟩ := ob_some h
              refine evd rfl rfl (ev_ia rfl rfl rfl ⟨(geti_some g57).1, (geti_some g57).2.1⟩ (evd rfl rfl (ev_ldE (off := 0) (v := .int .i64 e56) rfl rfl zci64 g57 rfl (Nat.le_of_ble_eq_true rfl) rfl (evd rfl rfl (ev_fa (c1 := .cref 1 0) (v := .cref 1 0) rfl rfl rfl ⟨_, rfl⟩ rfl (evd rfl rfl (ev_ldB (off := 0) (v := .int .i64 a0.1) rfl rfl rfl rfl (Nat.le_of_ble_eq_true rfl) rfl (evd rfl rfl (ev_bin (c1 := .int .i64 a0.1) (c2 := .int .i64 1) rfl rfl rfl (?_))))))))))
              obtain ⟨v58, g59, h⟩ := ob_some h
              refine evd rfl rfl (ev_call (era rfl rfl (era rfl rfl (era rfl rfl eran))) (spec_l1In_s g59) (evd rfl rfl (ev_un (c1 := .bool v58) rfl trivial (evd rfl rfl (ev_mv (c := .bool (!v58)) rfl rfl rfl (?_))))))
              rcases cond_some h with ⟨g60, h⟩ | ⟨g60, h⟩
              · refine evd rfl rfl (ev_gs rfl rfl (isb_T g60) (evd rfl rfl (ev_gs rfl rfl (isb_T g60) (evd rfl rfl (ev_gs rfl rfl (isb_T g60) (evd rfl rfl (ev_gs rfl rfl (isb_T g60) (evd rfl rfl (ev_gs rfl rfl (isb_T g60) (evd rfl rfl (ev_gs rfl rfl (isb_T g60) (evd rfl rfl (ev_gs rfl rfl (isb_T g60) (evd rfl rfl (ev_gs rfl rfl (isb_T g60) (evd rfl rfl (ev_gs rfl rfl (isb_T g60) (evd rfl rfl (ev_gs rfl rfl (isb_T g60) (evd rfl rfl (ev_gs rfl rfl (isb_T g60) (evd rfl rfl (ev_pkT (c1 := .bool true) rfl g60 rfl rfl (evdn ?_))))))))))))))))))))))))
                refine ls_keep [(1, .box [.int .i64 a0.1, .dat a0.2.1.length (a0.2.1.flatMap c150_d), .dat a0.2.2.length (a0.2.2.flatMap ci64)]), (8, .int .i64 y12), (133, .bool true)] ⟨kr, kr, kr, trivial⟩ rfl ?_
                refine ls_cT rfl rfl ?_
                refine ls_rs tbOk ?_
                refine evs (ev_ac rfl nofun rfl (evn ?_))
                refine ls_keep [(2, .bool false)] ⟨kr, trivial⟩ rfl ?_
                refine ls_ret ?_
                have q0 := (Option.some.inj h).symm
                have r0 := hr6
                rw [q0] at r0
                have hr := Option.some.inj r0
                rw [← hr]
                exact ⟨.inl rfl, rfl⟩
              · refine evd rfl rfl (ev_gr rfl (congrArg V.bool g60) (ev_fa (c1 := .cref 1 0) (v := .cref 1 2) rfl rfl rfl ⟨_, rfl⟩ rfl (evd rfl rfl (ev_gr rfl (congrArg V.bool g60) (ev_ldB (off := 2) (v := .dat a0.2.2.length (a0.2.2.flatMap ci64)) rfl rfl rfl rfl (Nat.le_of_ble_eq_true rfl) rfl (evd rfl rfl (ev_gr rfl (congrArg V.bool g60) (ev_mv (c := .int .i64 y12) rfl rfl rfl (?_)))))))))
                obtain ⟨g61, h⟩ := chk_some h
                refine evd rfl rfl (ev_gr rfl (congrArg V.bool g60) (ev_sle (lst := a0.2.2) rfl rfl zci64 rfl rfl g61 (evd rfl rfl (ev_gr rfl (congrArg V.bool g60) (ev_fa (c1 := .cref 1 0) (v := .cref 1 2) rfl rfl rfl ⟨_, rfl⟩ rfl (evd rfl rfl (ev_gr rfl (congrArg V.bool g60) (ev_ldB (off := 2) (v := .dat a0.2.2.length (a0.2.2.flatMap ci64)) rfl rfl rfl rfl (Nat.le_of_ble_eq_true rfl) rfl (evd rfl rfl (ev_gr rfl (congrArg V.bool g60) (ev_mv (c := .int .i64 y12) rfl rfl rfl (?_))))))))))))
                obtain ⟨e62, g63, h⟩ := ob_some h
                refine evd rfl rfl (ev_gr rfl (congrArg V.bool g60) (ev_ia rfl rfl rfl ⟨(geti_some g63).1, (geti_some g63).2.1⟩ (evd rfl rfl (ev_gr rfl (congrArg V.bool g60) (ev_ldE (off := 0) (v := .int .i64 e62) rfl rfl zci64 g63 rfl (Nat.le_of_ble_eq_true rfl) rfl (?_))))))
                obtain ⟨v64, g65, h⟩ := ob_some h
                refine evd rfl rfl (ev_gr rfl (congrArg V.bool g60) (ev_call (era rfl (erD eci64 _) (era rfl rfl eran)) (spec_l7Find_s g65) (evd rfl rfl (ev_gr rfl (congrArg V.bool g60) (ev_bin (c1 := .int .i64 v64) (c2 := .int .i64 0) rfl rfl rfl (evd rfl rfl (ev_pkF (c1 := .bool (decide (0 ≤ v64))) rfl g60 rfl rfl (evdn ?_))))))))
                refine ls_keep [(1, .box [.int .i64 a0.1, .dat a0.2.1.length (a0.2.1.flatMap c150_d), .dat a0.2.2.length (a0.2.2.flatMap ci64)]), (8, .int .i64 y12), (133, .bool (decide (0 ≤ v64)))] ⟨kr, kr, kr, trivial⟩ rfl ?_
                rcases cond_some h with ⟨g66, h⟩ | ⟨g66, h⟩
                · refine ls_cT rfl g66 ?_
                  refine ls_rs tbOk ?_
                  refine evs (ev_ac rfl nofun rfl (evn ?_))
                  refine ls_keep [(2, .bool false)] ⟨kr, trivial⟩ rfl ?_
                  refine ls_ret ?_
                  have q0 := (Option.some.inj h).symm
                  have r0 := hr6
                  rw [q0] at r0
                  have hr := Option.some.inj r0
                  rw [← hr]
                  exact ⟨.inl rfl, rfl⟩
                · refine ls_cF rfl g66 ?_
                  refine ls_skip ?_
                  refine hK55 _ (ls_keep [(1, .box [.int .i64 a0.1, .dat a0.2.1.length (a0.2.1.flatMap c150_d), .dat a0.2.2.length (a0.2.2.flatMap ci64)]), (8, .int .i64 y12)] ⟨kr, kr, trivial⟩ rfl ?_)
                  refine ls_rgn tbOk ?_
                  refine evs (ev_mv (c := .int .i64 y12) rfl rfl rfl (evs (ev_bin (c1 := .int .i64 y12) (c2 := .int .i64 1) rfl rfl rfl (evs (ev_as (c := .int .i64 (IntKind.i64.wrap (y12 + 1))) rfl rfl rfl (evn ?_))))))
                  exact hN _ (IntKind.i64.wrap (y12 + 1)) h ⟨kr, kr, trivial⟩
            · refine ls_cF rfl g54 ?_
              refine ls_exit ?_
              have q0 := (Option.some.inj h).symm
              have r0 := hr6
              rw [q0] at r0
              exact kXspec_IsValidQuery_B6 () r0 _ trivial
          refine ls_rec (fun (y7 : Int) => [(1, .box [.int .i64 a0.1, .dat a0.2.1.length (a0.2.1.flatMap c150_d), .dat a0.2.2.length (a0.2.2.flatMap ci64)]), (5, .int .i64 y7)]) (spec_IsValidQuery_B3 a0) fz 0 o3 hl ⟨kr, kr, trivial⟩ (fun _ => rfl) ?_
          rintro m y7 N h hN
          unfold spec_IsValidQuery_B3 at h
          refine ls_seq_k fun K37 hK37 => ?_
          refine ls_rs tbOk ?_
          refine evs (ev_mv (c := .int .i64 y7) rfl rfl rfl (evs (ev_fa (c1 := .cref 1 0) (v := .cref 1 0) rfl rfl rfl ⟨_, rfl⟩ rfl (evs (ev_ldB (off := 0) (v := .int .i64 a0.1) rfl rfl rfl rfl (Nat.le_of_ble_eq_true rfl) rfl (evs (ev_bin (c1 := .int .i64 y7) (c2 := .int .i64 a0.1) rfl rfl rfl (evn ?_))))))))
          refine ls_keep [(1, .box [.int .i64 a0.1, .dat a0.2.1.length (a0.2.1.flatMap c150_d), .dat a0.2.2.length (a0.2.2.flatMap ci64)]), (5, .int .i64 y7), (82, .bool (decide (y7 < a0.1)))] ⟨kr, kr, kr, trivial⟩ rfl ?_
          rcases cond_some h with ⟨g38, h⟩ | ⟨g38, h⟩
          · refine ls_cT rfl g38 ?_
            refine ls_skip ?_
            refine hK37 _ (ls_keep [(1, .box [.int .i64 a0.1, .dat a0.2.1.length (a0.2.1.flatMap c150_d), .dat a0.2.2.length (a0.2.2.flatMap ci64)]), (5, .int .i64 y7)] ⟨kr, kr, trivial⟩ rfl ?_)
            refine ls_seq_k fun K39 hK39 => ?_
            refine ls_blk ?_
            refine ls_rs tbOk ?_
            refine evs (ev_ac rfl nofun rfl (evn ?_))
            refine ls_keep [(1, .box [.int .i64 a0.1, .dat a0.2.1.length (a0.2.1.flatMap c150_d), .dat a0.2.2.length (a0.2.2.flatMap ci64)]), (5, .int .i64 y7), (6, .bool false)] ⟨kr, kr, kr, trivial⟩ rfl ?_
            refine ls_seq_k fun K40 hK40 => ?_
            refine ls_rs tbOk ?_
            refine evs (ev_ac rfl nofun rfl (evn ?_))
            refine ls_keep [(1, .box [.int .i64 a0.1, .dat a0.2.1.length (a0.2.1.flatMap c150_d), .dat a0.2.2.length (a0.2.2.flatMap ci64)]), (5, .int .i64 y7), (6, .bool false), (7, .int .i64 0)] ⟨kr, kr, kr, kr, trivial⟩ rfl ?_
            obtain ⟨o4, hl, hr4⟩ := ob_some h
            clear h
            have kXspec_IsValidQuery_B4 : ∀ (z41 : Bool), (cond (!z41) (some (.inr false)) ((loopF (spec_IsValidQuery_B3 a0) m) (IntKind.i64.wrap (y7 + 1)))) = some o3 → ∀ σ' : PS, okK σ' [(1, .box [.int .i64 a0.1, .dat a0.2.1.length (a0.2.1.flatMap c150_d), .dat a0.2.2.length (a0.2.2.flatMap ci64)]), (5, .int .i64 y7), (6, .bool z41)] → K40 σ' := by
              intro z41 h σ' hk
              refine hK40 _ (ls_keep [(1, .box [.int .i64 a0.1, .dat a0.2.1.length (a0.2.1.flatMap c150_d), .dat a0.2.2.length (a0.2.2.flatMap ci64)]), (5, .int .i64 y7), (6, .bool z41)] hk rfl ?_)
              refine ls_rs tbOk ?_
              refine evs (ev_mv (c := .bool z41) rfl rfl rfl (evs (ev_un (c1 := .bool z41) rfl trivial (evn ?_))))
              refine ls_keep [(1, .box [.int .i64 a0.1, .dat a0.2.1.length (a0.2.1.flatMap c150_d), .dat a0.2.2.length (a0.2.2.flatMap ci64)]), (5, .int .i64 y7), (103, .bool (!z41))] ⟨kr, kr, kr, trivial⟩ rfl ?_
              rcases cond_some h with ⟨g51, h⟩ | ⟨g51, h⟩
              · refine ls_cT rfl g51 ?_
                refine ls_rs tbOk ?_
                refine evs (ev_ac rfl nofun rfl (evn ?_))
                refine ls_keep [(2, .bool false)] ⟨kr, trivial⟩ rfl ?_
                refine ls_ret ?_
                have q0 := (Option.some.inj h).symm
                have r0 := hr3
                rw [q0] at r0
                have hr := Option.some.inj r0
                rw [← hr]
                exact ⟨.inl rfl, rfl⟩
              · refine ls_cF rfl g51 ?_
                refine ls_skip ?_
                refine hK39 _ (ls_keep [(1, .box [.int .i64 a0.1, .dat a0.2.1.length (a0.2.1.flatMap c150_d), .dat a0.2.2.length (a0.2.2.flatMap ci64)]), (5, .int .i64 y7)] ⟨kr, kr, trivial⟩ rfl ?_)
                refine ls_rgn tbOk ?_
                refine evs (ev_mv (c := .int .i64 y7) rfl rfl rfl (evs (ev_bin (c1 := .int .i64 y7) (c2 := .int .i64 1) rfl rfl rfl (evs (ev_as (c := .int .i64 (IntKind.i64.wrap (y7 + 1))) rfl rfl rfl (evn ?_))))))
                exact hN _ (IntKind.i64.wrap (y7 + 1)) h ⟨kr, kr, trivial⟩
            refine ls_rec (fun (s : Bool × Int) => match s with | (y10, y11) => [(1, .box [.int .i64 a0.1, .dat a0.2.1.length (a0.2.1.flatMap c150_d), .dat a0.2.2.length (a0.2.2.flatMap ci64)]), (5, .int .i64 y7), (6, .bool y10), (7, .int .i64 y11)]) (spec_IsValidQuery_B4 a0 y7) fz (false, 0) o4 hl ⟨kr, kr, kr, kr, trivial⟩ (fun _ => rfl) ?_
            rintro m ⟨y10, y11⟩ N h hN
            unfold spec_IsValidQuery_B4 at h
            dsimp only at h
            refine ls_seq_k fun K42 hK42 => ?_
            refine ls_rs tbOk ?_
            refine evs (ev_mv (c := .int .i64 y11) rfl rfl rfl (evs (ev_fa (c1 := .cref 1 0) (v := .cref 1 1) rfl rfl rfl ⟨_, rfl⟩ rfl (evs (ev_ldB (off := 1) (v := .dat a0.2.1.length (a0.2.1.flatMap c150_d)) rfl rfl rfl rfl (Nat.le_of_ble_eq_true rfl) rfl (evs (ev_len (c1 := .dat a0.2.1.length (a0.2.1.flatMap c150_d)) rfl rfl rfl (evs (ev_bin (c1 := .int .i64 y11) (c2 := .int .i64 (List.length a0.2.1 : Int)) rfl rfl rfl (evn ?_))))))))))
            refine ls_keep [(1, .box [.int .i64 a0.1, .dat a0.2.1.length (a0.2.1.flatMap c150_d), .dat a0.2.2.length (a0.2.2.flatMap ci64)]), (5, .int .i64 y7), (6, .bool y10), (7, .int .i64 y11), (89, .bool (decide (y11 < (List.length a0.2.1 : Int))))] ⟨kr, kr, kr, kr, kr, trivial⟩ rfl ?_
            rcases cond_some h with ⟨g43, h⟩ | ⟨g43, h⟩
            · refine ls_cT rfl g43 ?_
              refine ls_skip ?_
              refine hK42 _ (ls_keep [(1, .box [.int .i64 a0.1, .dat a0.2.1.length (a0.2.1.flatMap c150_d), .dat a0.2.2.length (a0.2.2.flatMap ci64)]), (5, .int .i64 y7), (6, .bool y10), (7, .int .i64 y11)] ⟨kr, kr, kr, kr, trivial⟩ rfl ?_)
              refine ls_seq_k fun K44 hK44 => ?_
              refine ls_blk ?_
              have kspec_IsValidQuery_J5 : ∀ (x45 : Bool), spec_IsValidQuery_J5 (loopF (spec_IsValidQuery_B4 a0 y7) m) y11 x45 = some o4 → ∀ σ' : PS, okK σ' [(1, .box [.int .i64 a0.1, .dat a0.2.1.length (a0.2.1.flatMap c150_d), .dat a0.2.2.length (a0.2.2.flatMap ci64)]), (5, .int .i64 y7), (6, .bool x45), (7, .int .i64 y11)] → K44 σ' := by
                intro x45 h σ' hk
                unfold spec_IsValidQuery_J5 at h
                refine hK44 _ (ls_keep [(1, .box [.int .i64 a0.1, .dat a0.2.1.length (a0.2.1.flatMap c150_d), .dat a0.2.2.length (a0.2.2.flatMap ci64)]), (5, .int .i64 y7), (6, .bool x45), (7, .int .i64 y11)] hk rfl ?_)
                refine ls_rgn tbOk ?_
                refine evs (ev_mv (c := .int .i64 y11) rfl rfl rfl (evs (ev_bin (c1 := .int .i64 y11) (c2 := .int .i64 1) rfl rfl rfl (evs (ev_as (c := .int .i64 (IntKind.i64.wrap (y11 + 1))) rfl rfl rfl (evn ?_))))))
                exact hN _ (x45, (IntKind.i64.wrap (y11 + 1))) h ⟨kr, kr, kr, kr, trivial⟩
              refine ls_rgn tbOk ?_
              refine evs (ev_mv (c := .bool y10) rfl rfl rfl (evs (ev_mv (c := .bool y10) rfl rfl rfl (?_))))
              rcases cond_some h with ⟨g46, h⟩ | ⟨g46, h⟩
              · refine evs (ev_gs rfl rfl (isb_T g46) (evs (ev_gs rfl rfl (isb_T g46) (evs (ev_gs rfl rfl (isb_T g46) (evs (ev_gs rfl rfl (isb_T g46) (evs (ev_gs rfl rfl (isb_T g46) (evs (ev_gs rfl rfl (isb_T g46) (evs (ev_gs rfl rfl (isb_T g46) (evs (ev_pkT (c1 := .bool true) rfl g46 rfl rfl (evs (ev_as (c := .bool true) rfl rfl rfl (evn ?_))))))))))))))))))
                exact kspec_IsValidQuery_J5 true h _ ⟨kr, kr, kr, kr, trivial⟩
              · refine evs (ev_gr rfl (congrArg V.bool g46) (ev_fa (c1 := .cref 1 0) (v := .cref 1 1) rfl rfl rfl ⟨_, rfl⟩ rfl (evs (ev_gr rfl (congrArg V.bool g46) (ev_ldB (off := 1) (v := .dat a0.2.1.length (a0.2.1.flatMap c150_d)) rfl rfl rfl rfl (Nat.le_of_ble_eq_true rfl) rfl (evs (ev_gr rfl (congrArg V.bool g46) (ev_mv (c := .int .i64 y11) rfl rfl rfl (?_)))))))))
                obtain ⟨e47, g48, h⟩ := ob_some h
                refine evs (ev_gr rfl (congrArg V.bool g46) (ev_ia rfl rfl rfl ⟨(geti_some g48).1, (geti_some g48).2.1⟩ (evs (ev_gr rfl (congrArg V.bool g46) (ev_ldE (off := 0) (v := .agg [.str e47.1, .dat e47.2.length (e47.2.flatMap ci64)]) rfl rfl zc150_d g48 rfl (Nat.le_of_ble_eq_true rfl) rfl (evs (ev_gr rfl (congrArg V.bool g46) (ev_mv (c := .int .i64 y7) rfl rfl rfl (?_)))))))))
                obtain ⟨v49, g50, h⟩ := ob_some h
                refine evs (ev_gr rfl (congrArg V.bool g46) (ev_call (era rfl (erg (erc rfl (erc (erD eci64 _) rfl))) (era rfl rfl eran)) (spec_ContainsVariable_s g50) (evs (ev_pkF (c1 := .bool v49) rfl g46 rfl rfl (evs (ev_as (c := .bool v49) rfl rfl rfl (evn ?_)))))))
                exact kspec_IsValidQuery_J5 v49 h _ ⟨kr, kr, kr, kr, trivial⟩
            · refine ls_cF rfl g43 ?_
              refine ls_exit ?_
              have q0 := (Option.some.inj h).symm
              have r0 := hr4
              rw [q0] at r0
              exact kXspec_IsValidQuery_B4 y10 r0 _ ⟨kr, kr, kr, trivial⟩
          · refine ls_cF rfl g38 ?_
            refine ls_exit ?_
            have q0 := (Option.some.inj h).symm
            have r0 := hr3
            rw [q0] at r0
            exact kXspec_IsValidQuery_B3 () r0 _ ⟨kr, trivial⟩
        refine ls_rec (fun (y2 : Int) => [(1, .box [.int .i64 a0.1, .dat a0.2.1.length (a0.2.1.flatMap c150_d), .dat a0.2.2.length (a0.2.2.flatMap ci64)]), (3, .int .i64 y2)]) (spec_IsValidQuery_B1 a0) fz 0 o1 hl ⟨kr, kr, trivial⟩ (fun _ => rfl) ?_
        rintro m y2 N h hN
        unfold spec_IsValidQuery_B1 at h
        refine ls_seq_k fun K10 hK10 => ?_
        refine ls_rs tbOk ?_
        refine evs (ev_mv (c := .int .i64 y2) rfl rfl rfl (evs (ev_fa (c1 := .cref 1 0) (v := .cref 1 1) rfl rfl rfl ⟨_, rfl⟩ rfl (evs (ev_ldB (off := 1) (v := .dat a0.2.1.length (a0.2.1.flatMap c150_d)) rfl rfl rfl rfl (Nat.le_of_ble_eq_true rfl) rfl (evs (ev_len (c1 := .dat a0.2.1.length (a0.2.1.flatMap c150_d)) rfl rfl rfl (evs (ev_bin (c1 := .int .i64 y2) (c2 := .int .i64 (List.length a0.2.1 : Int)) rfl rfl rfl (evn ?_))))))))))
        refine ls_keep [(1, .box [.int .i64 a0.1, .dat a0.2.1.length (a0.2.1.flatMap c150_d), .dat a0.2.2.length (a0.2.2.flatMap ci64)]), (3, .int .i64 y2), (32, .bool (decide (y2 < (List.length a0.2.1 : Int))))] ⟨kr, kr, kr, trivial⟩ rfl ?_
        rcases cond_some h with ⟨g11, h⟩ | ⟨g11, h⟩
        · refine ls_cT rfl g11 ?_
          refine ls_skip ?_
          refine hK10 _ (ls_keep [(1, .box [.int .i64 a0.1, .dat a0.2.1.length (a0.2.1.flatMap c150_d), .dat a0.2.2.length (a0.2.2.flatMap ci64)]), (3, .int .i64 y2)] ⟨kr, kr, trivial⟩ rfl ?_)
          refine ls_seq_k fun K12 hK12 => ?_
          refine ls_blk ?_
          refine ls_seq_k fun K13 hK13 => ?_
          refine ls_rs tbOk ?_
          refine evs (ev_fa (c1 := .cref 1 0) (v := .cref 1 1) rfl rfl rfl ⟨_, rfl⟩ rfl (evs (ev_ldB (off := 1) (v := .dat a0.2.1.length (a0.2.1.flatMap c150_d)) rfl rfl rfl rfl (Nat.le_of_ble_eq_true rfl) rfl (evs (ev_mv (c := .int .i64 y2) rfl rfl rfl (?_))))))
          obtain ⟨e14, g15, h⟩ := ob_some h
          refine evs (ev_ia rfl rfl rfl ⟨(geti_some g15).1, (geti_some g15).2.1⟩ (evs (ev_fa (c1 := .adr (a0.2.1.flatMap c150_d) (Int.toNat y2 * 2)) (v := .adr (a0.2.1.flatMap c150_d) (Int.toNat y2 * 2)) rfl rfl rfl trivial rfl (evs (ev_ldE (off := 0) (v := .str e14.1) rfl rfl zc150_d g15 rfl (Nat.le_of_ble_eq_true rfl) rfl (?_))))))
          obtain ⟨v16, g17, h⟩ := ob_some h
          refine evs (ev_call (era rfl rfl eran) (spec_IsValidName_s g17) (evs (ev_un (c1 := .bool v16) rfl trivial (evs (ev_mv (c := .bool (!v16)) rfl rfl rfl (?_))))))
          rcases cond_some h with ⟨g18, h⟩ | ⟨g18, h⟩
          · refine evs (ev_gs rfl rfl (isb_T g18) (evs (ev_gs rfl rfl (isb_T g18) (evs (ev_gs rfl rfl (isb_T g18) (evs (ev_gs rfl rfl (isb_T g18) (evs (ev_gs rfl rfl (isb_T g18) (evs (ev_gs rfl rfl (isb_T g18) (evs (ev_gs rfl rfl (isb_T g18) (evs (ev_gs rfl rfl (isb_T g18) (evs (ev_gs rfl rfl (isb_T g18) (evs (ev_pkT (c1 := .bool true) rfl g18 rfl rfl (evn ?_))))))))))))))))))))
            refine ls_keep [(1, .box [.int .i64 a0.1, .dat a0.2.1.length (a0.2.1.flatMap c150_d), .dat a0.2.2.length (a0.2.2.flatMap ci64)]), (3, .int .i64 y2), (53, .bool true)] ⟨kr, kr, kr, trivial⟩ rfl ?_
            refine ls_cT rfl rfl ?_
            refine ls_rs tbOk ?_
            refine evs (ev_ac rfl nofun rfl (evn ?_))
            refine ls_keep [(2, .bool false)] ⟨kr, trivial⟩ rfl ?_
            refine ls_ret ?_
            have q0 := (Option.some.inj h).symm
            have r0 := hr1
            rw [q0] at r0
            have hr := Option.some.inj r0
            rw [← hr]
            exact ⟨.inl rfl, rfl⟩
          · refine evs (ev_gr rfl (congrArg V.bool g18) (ev_fa (c1 := .cref 1 0) (v := .cref 1 1) rfl rfl rfl ⟨_, rfl⟩ rfl (evs (ev_gr rfl (congrArg V.bool g18) (ev_ldB (off := 1) (v := .dat a0.2.1.length (a0.2.1.flatMap c150_d)) rfl rfl rfl rfl (Nat.le_of_ble_eq_true rfl) rfl (evs (ev_gr rfl (congrArg V.bool g18) (ev_mv (c := .int .i64 y2) rfl rfl rfl (?_)))))))))
            obtain ⟨e19, g20, h⟩ := ob_some h
            refine evs (ev_gr rfl (congrArg V.bool g18) (ev_ia rfl rfl rfl ⟨(geti_some g20).1, (geti_some g20).2.1⟩ (evs (ev_gr rfl (congrArg V.bool g18) (ev_fa (c1 := .adr (a0.2.1.flatMap c150_d) (Int.toNat y2 * 2)) (v := .adr (a0.2.1.flatMap c150_d) (Int.toNat y2 * 2 + 1)) rfl rfl rfl trivial rfl (evs (ev_gr rfl (congrArg V.bool g18) (ev_ldE (off := 1) (v := .dat e19.2.length (e19.2.flatMap ci64)) rfl rfl zc150_d g20 rfl (Nat.le_of_ble_eq_true rfl) rfl (evs (ev_gr rfl (congrArg V.bool g18) (ev_len (c1 := .dat e19.2.length (e19.2.flatMap ci64)) rfl rfl rfl (?_))))))))))))
            obtain ⟨v21, g22, h⟩ := ob_some h
            refine evs (ev_gr rfl (congrArg V.bool g18) (ev_call (era rfl rfl (era rfl rfl (era rfl rfl eran))) (spec_l1In_s g22) (evs (ev_gr rfl (congrArg V.bool g18) (ev_un (c1 := .bool v21) rfl trivial (evs (ev_pkF (c1 := .bool (!v21)) rfl g18 rfl rfl (evn ?_))))))))
            refine ls_keep [(1, .box [.int .i64 a0.1, .dat a0.2.1.length (a0.2.1.flatMap c150_d), .dat a0.2.2.length (a0.2.2.flatMap ci64)]), (3, .int .i64 y2), (53, .bool (!v21))] ⟨kr, kr, kr, trivial⟩ rfl ?_
            rcases cond_some h with ⟨g23, h⟩ | ⟨g23, h⟩
            · refine ls_cT rfl g23 ?_
              refine ls_rs tbOk ?_
              refine evs (ev_ac rfl nofun rfl (evn ?_))
              refine ls_keep [(2, .bool false)] ⟨kr, trivial⟩ rfl ?_
              refine ls_ret ?_
              have q0 := (Option.some.inj h).symm
              have r0 := hr1
              rw [q0] at r0
              have hr := Option.some.inj r0
              rw [← hr]
              exact ⟨.inl rfl, rfl⟩
            · refine ls_cF rfl g23 ?_
              refine ls_skip ?_
              refine hK13 _ (ls_keep [(1, .box [.int .i64 a0.1, .dat a0.2.1.length (a0.2.1.flatMap c150_d), .dat a0.2.2.length (a0.2.2.flatMap ci64)]), (3, .int .i64 y2)] ⟨kr, kr, trivial⟩ rfl ?_)
              refine ls_rs tbOk ?_
              refine evs (ev_ac rfl nofun rfl (evn ?_))
              refine ls_keep [(1, .box [.int .i64 a0.1, .dat a0.2.1.length (a0.2.1.flatMap c150_d), .dat a0.2.2.length (a0.2.2.flatMap ci64)]), (3, .int .i64 y2), (4, .int .i64 0)] ⟨kr, kr, kr, trivial⟩ rfl ?_
              obtain ⟨o2, hl, hr2⟩ := ob_some h
              clear h
              have kXspec_IsValidQuery_B2 : ∀ (_ : Unit), ((loopF (spec_IsValidQuery_B1 a0) m) (IntKind.i64.wrap (y2 + 1))) = some o1 → ∀ σ' : PS, okK σ' [(1, .box [.int .i64 a0.1, .dat a0.2.1.length (a0.2.1.flatMap c150_d), .dat a0.2.2.length (a0.2.2.flatMap ci64)]), (3, .int .i64 y2)] → K12 σ' := by
                intro _ h σ' hk
                refine hK12 _ (ls_keep [(1, .box [.int .i64 a0.1, .dat a0.2.1.length (a0.2.1.flatMap c150_d), .dat a0.2.2.length (a0.2.2.flatMap ci64)]), (3, .int .i64 y2)] hk rfl ?_)
                refine ls_rgn tbOk ?_
                refine evs (ev_mv (c := .int .i64 y2) rfl rfl rfl (evs (ev_bin (c1 := .int .i64 y2) (c2 := .int .i64 1) rfl rfl rfl (evs (ev_as (c := .int .i64 (IntKind.i64.wrap (y2 + 1))) rfl rfl rfl (evn ?_))))))
                exact hN _ (IntKind.i64.wrap (y2 + 1)) h ⟨kr, kr, trivial⟩
              refine ls_rec (fun (y4 : Int) => [(1, .box [.int .i64 a0.1, .dat a0.2.1.length (a0.2.1.flatMap c150_d), .dat a0.2.2.length (a0.2.2.flatMap ci64)]), (3, .int .i64 y2), (4, .int .i64 y4)]) (spec_IsValidQuery_B2 a0 y2) fz 0 o2 hl ⟨kr, kr, kr, trivial⟩ (fun _ => rfl) ?_
              rintro m y4 N h hN
              unfold spec_IsValidQuery_B2 at h
              refine ls_seq_k fun K24 hK24 => ?_
              refine ls_rs tbOk ?_
              refine evs (ev_mv (c := .int .i64 y4) rfl rfl rfl (evs (ev_fa (c1 := .cref 1 0) (v := .cref 1 1) rfl rfl rfl ⟨_, rfl⟩ rfl (evs (ev_ldB (off := 1) (v := .dat a0.2.1.length (a0.2.1.flatMap c150_d)) rfl rfl rfl rfl (Nat.le_of_ble_eq_true rfl) rfl (evs (ev_mv (c := .int .i64 y2) rfl rfl rfl (?_))))))))
              obtain ⟨e25, g26, h⟩ := ob_some h
              refine evs (ev_ia rfl rfl rfl ⟨(geti_some g26).1, (geti_some g26).2.1⟩ (evs (ev_fa (c1 := .adr (a0.2.1.flatMap c150_d) (Int.toNat y2 * 2)) (v := .adr (a0.2.1.flatMap c150_d) (Int.toNat y2 * 2 + 1)) rfl rfl rfl trivial rfl (evs (ev_ldE (off := 1) (v := .dat e25.2.length (e25.2.flatMap ci64)) rfl rfl zc150_d g26 rfl (Nat.le_of_ble_eq_true rfl) rfl (evs (ev_len (c1 := .dat e25.2.length (e25.2.flatMap ci64)) rfl rfl rfl (evs (ev_bin (c1 := .int .i64 y4) (c2 := .int .i64 (List.length e25.2 : Int)) rfl rfl rfl (evn ?_))))))))))
              refine ls_keep [(1, .box [.int .i64 a0.1, .dat a0.2.1.length (a0.2.1.flatMap c150_d), .dat a0.2.2.length (a0.2.2.flatMap ci64)]), (3, .int .i64 y2), (4, .int .i64 y4), (62, .bool (decide (y4 < (List.length e25.2 : Int))))] ⟨kr, kr, kr, kr, trivial⟩ rfl ?_
              rcases cond_some h with ⟨g27, h⟩ | ⟨g27, h⟩
              · refine ls_cT rfl g27 ?_
                refine ls_skip ?_
                refine hK24 _ (ls_keep [(1, .box [.int .i64 a0.1, .dat a0.2.1.length (a0.2.1.flatMap c150_d), .dat a0.2.2.length (a0.2.2.flatMap ci64)]), (3, .int .i64 y2), (4, .int .i64 y4)] ⟨kr, kr, kr, trivial⟩ rfl ?_)
                refine ls_seq_k fun K28 hK28 => ?_
                refine ls_blk ?_
                refine ls_rd tbOk mixed (by kernel_rfl) ?_
                refine evd rfl rfl (ev_fa (c1 := .cref 1 0) (v := .cref 1 1) rfl rfl rfl ⟨_, rfl⟩ rfl (evd rfl rfl (ev_ldB (off := 1) (v := .dat a0.2.1.length (a0.2.1.flatMap c150_d)) rfl rfl rfl rfl (Nat.le_of_ble_eq_true rfl) rfl (evd rfl rfl (ev_mv (c := .int .i64 y2) rfl rfl rfl (?_))))))
                obtain ⟨e29, g30, h⟩ := ob_some h
                refine evd rfl rfl (ev_ia rfl rfl rfl ⟨(geti_some g30).1, (geti_some g30).2.1⟩ (evd rfl rfl (ev_fa (c1 := .adr (a0.2.1.flatMap c150_d) (Int.toNat y2 * 2)) (v := .adr (a0.2.1.flatMap c150_d) (Int.toNat y2 * 2 + 1)) rfl rfl rfl trivial rfl (evd rfl rfl (ev_ldE (off := 1) (v := .dat e29.2.length (e29.2.flatMap ci64)) rfl rfl zc150_d g30 rfl (Nat.le_of_ble_eq_true rfl) rfl (evd rfl rfl (ev_mv (c := .int .i64 y4) rfl rfl rfl (?_))))))))
                obtain ⟨e31, g32, h⟩ := ob_some h
                refine evd rfl rfl (ev_ia rfl rfl rfl ⟨(geti_some g32).1, (geti_some g32).2.1⟩ (evd rfl rfl (ev_ldE (off := 0) (v := .int .i64 e31) rfl rfl zci64 g32 rfl (Nat.le_of_ble_eq_true rfl) rfl (evd rfl rfl (ev_fa (c1 := .cref 1 0) (v := .cref 1 0) rfl rfl rfl ⟨_, rfl⟩ rfl (evd rfl rfl (ev_ldB (off := 0) (v := .int .i64 a0.1) rfl rfl rfl rfl (Nat.le_of_ble_eq_true rfl) rfl (evd rfl rfl (ev_bin (c1 := .int .i64 a0.1) (c2 := .int .i64 1) rfl rfl rfl (?_))))))))))
                obtain ⟨v33, g34, h⟩ := ob_some h
                refine evd rfl rfl (ev_call (era rfl rfl (era rfl rfl (era rfl rfl eran))) (spec_l1In_s g34) (evd rfl rfl (ev_un (c1 := .bool v33) rfl trivial (evdn ?_))))
                refine ls_keep [(1, .box [.int .i64 a0.1, .dat a0.2.1.length (a0.2.1.flatMap c150_d), .dat a0.2.2.length (a0.2.2.flatMap ci64)]), (3, .int .i64 y2), (4, .int .i64 y4), (78, .bool (!v33))] ⟨kr, kr, kr, kr, trivial⟩ rfl ?_
                rcases cond_some h with ⟨g35, h⟩ | ⟨g35, h⟩
                · refine ls_cT rfl g35 ?_
                  refine ls_rs tbOk ?_
                  refine evs (ev_ac rfl nofun rfl (evn ?_))
                  refine ls_keep [(2, .bool false)] ⟨kr, trivial⟩ rfl ?_
                  refine ls_ret ?_
                  have q0 := (Option.some.inj h).symm
                  have r0 := hr2
                  rw [q0] at r0
                  have q1 := (Option.some.inj r0).symm
                  have r1 := hr1
                  rw [q1] at r1
                  have hr := Option.some.inj r1
                  rw [← hr]
                  exact ⟨.inl rfl, rfl⟩
                · refine ls_cF rfl g35 ?_
                  refine ls_skip ?_
                  refine hK28 _ (ls_keep [(1, .box [.int .i64 a0.1, .dat a0.2.1.length (a0.2.1.flatMap c150_d), .dat a0.2.2.length (a0.2.2.flatMap ci64)]), (3, .int .i64 y2), (4, .int .i64 y4)] ⟨kr, kr, kr, trivial⟩ rfl ?_)
                  refine ls_rgn tbOk ?_
                  refine evs (ev_mv (c := .int .i64 y4) rfl rfl rfl (evs (ev_bin (c1 := .int .i64 y4) (c2 := .int .i64 1) rfl rfl rfl (evs (ev_as (c := .int .i64 (IntKind.i64.wrap (y4 + 1))) rfl rfl rfl (evn ?_))))))
                  exact hN _ (IntKind.i64.wrap (y4 + 1)) h ⟨kr, kr, kr, trivial⟩
              · refine ls_cF rfl g27 ?_
                refine ls_exit ?_
                have q0 := (Option.some.inj h).symm
                have r0 := hr2
                rw [q0] at r0
                exact kXspec_IsValidQuery_B2 () r0 _ ⟨kr, kr, trivial⟩
        · refine ls_cF rfl g11 ?_
          refine ls_exit ?_
          have q0 := (Option.some.inj h).symm
          have r0 := hr1
          rw [q0] at r0
          exact kXspec_IsValidQuery_B1 () r0 _ ⟨kr, trivial⟩
def spec_l38Ok_B1 (a1 : List Int) (rec : Int → Option (Sum (Unit) (Bool))) (y1 : Int) : Option (Sum (Unit) (Bool)) := cond (decide (y1 < (List.length a1 : Int))) (obind (geti a1 y1) fun e5 => obind (spec_l1In e5 0 6) fun v7 => cond (!v7) (some (.inr false)) (rec (IntKind.i64.wrap (y1 + 1)))) (some (.inl ()))
def spec_l38Ok_J2 (x11 : Bool) : Option (Bool) := some x11
def spec_l38Ok (a0 : Int × (List ((List UInt8) × (List Int))) × (List Int)) (a1 : List Int) (a2 : Int) : Option (Bool) := obind (loopF (spec_l38Ok_B1 a1) fz 0) fun o1 => (match o1 with
  | .inl _ => (obind (spec_IsValidQuery a0) fun v12 => cond v12 (cond ((List.length a1 : Int) == a0.1) (obind (spec_l1In a2 1 10) fun v16 => spec_l38Ok_J2 v16) (spec_l38Ok_J2 false)) (spec_l38Ok_J2 false))
  | .inr r => some r)
theorem spec_l38Ok_s {a0 : Int × (List ((List UInt8) × (List Int))) × (List Int)} {a1 : List Int} {a2 : Int} {r : Bool} (h : spec_l38Ok a0 a1 a2 = some r) : SoundAt Try.prog 107 [.agg [.int .i64 a0.1, .dat a0.2.1.length (a0.2.1.flatMap c150_d), .dat a0.2.2.length (a0.2.2.flatMap ci64)], .dat a1.length (a1.flatMap ci64), .int .i64 a2] (.bool r) := by
  unfold spec_l38Ok at h
  refine sound_lit tbOk lit107 (Nat.le_of_ble_eq_true rfl) rfl ?_
  unfold c107
  refine ls_keep [(0, .agg [.int .i64 a0.1, .dat a0.2.1.length (a0.2.1.flatMap c150_d), .dat a0.2.2.length (a0.2.2.flatMap ci64)]), (1, .dat a1.length (a1.flatMap ci64)), (2, .int .i64 a2)] ⟨kr, kr, kr, trivial⟩ rfl ?_
  refine ls_rs tbOk ?_
  refine evs (ev_bx (c1 := .agg [.int .i64 a0.1, .dat a0.2.1.length (a0.2.1.flatMap c150_d), .dat a0.2.2.length (a0.2.2.flatMap ci64)]) rfl rfl rfl (evs (ev_ac rfl nofun rfl (evn ?_))))
  refine ls_keep [(1, .dat a1.length (a1.flatMap ci64)), (2, .int .i64 a2), (3, .box [.int .i64 a0.1, .dat a0.2.1.length (a0.2.1.flatMap c150_d), .dat a0.2.2.length (a0.2.2.flatMap ci64)])] ⟨kr, kr, kr, trivial⟩ rfl ?_
  refine ls_seq_k fun K1 hK1 => ?_
  refine ls_rs tbOk ?_
  refine evs (ev_ac rfl nofun rfl (evn ?_))
  refine ls_keep [(1, .dat a1.length (a1.flatMap ci64)), (2, .int .i64 a2), (3, .box [.int .i64 a0.1, .dat a0.2.1.length (a0.2.1.flatMap c150_d), .dat a0.2.2.length (a0.2.2.flatMap ci64)]), (7, .int .i64 0)] ⟨kr, kr, kr, kr, trivial⟩ rfl ?_
  obtain ⟨o1, hl, hr1⟩ := ob_some h
  clear h
  have kXspec_l38Ok_B1 : ∀ (_ : Unit), (obind (spec_IsValidQuery a0) fun v12 => cond v12 (cond ((List.length a1 : Int) == a0.1) (obind (spec_l1In a2 1 10) fun v16 => spec_l38Ok_J2 v16) (spec_l38Ok_J2 false)) (spec_l38Ok_J2 false)) = some r → ∀ σ' : PS, okK σ' [(1, .dat a1.length (a1.flatMap ci64)), (2, .int .i64 a2), (3, .box [.int .i64 a0.1, .dat a0.2.1.length (a0.2.1.flatMap c150_d), .dat a0.2.2.length (a0.2.2.flatMap ci64)])] → K1 σ' := by
    intro _ h σ' hk
    refine hK1 _ (ls_keep [(1, .dat a1.length (a1.flatMap ci64)), (2, .int .i64 a2), (3, .box [.int .i64 a0.1, .dat a0.2.1.length (a0.2.1.flatMap c150_d), .dat a0.2.2.length (a0.2.2.flatMap ci64)])] hk rfl ?_)
    refine ls_rs_k tbOk fun K10 hK10 => ?_
    have kspec_l38Ok_J2 : ∀ (x11 : Bool), spec_l38Ok_J2 x11 = some r → ∀ σ' : PS, okK σ' [(6, .bool x11)] → K10 σ' := by
      intro x11 h σ' hk
      unfold spec_l38Ok_J2 at h
      refine hK10 _ (ls_keep [(6, .bool x11)] hk rfl ?_)
      refine ls_ret ?_
      have hr := Option.some.inj h
      rw [← hr]
      exact ⟨.inl rfl, rfl⟩
    refine evs (ev_ldB (off := 0) (v := .agg [.int .i64 a0.1, .dat a0.2.1.length (a0.2.1.flatMap c150_d), .dat a0.2.2.length (a0.2.2.flatMap ci64)]) rfl rfl rfl rfl (Nat.le_of_ble_eq_true rfl) rfl (?_))
    obtain ⟨v12, g13, h⟩ := ob_some h
    refine evs (ev_call (era rfl (erg (erc rfl (erc (erD ec150_d _) (erc (erD eci64 _) rfl)))) eran) (spec_IsValidQuery_s g13) (evs (ev_mv (c := .bool v12) rfl rfl rfl (?_))))
    rcases cond_some h with ⟨g14, h⟩ | ⟨g14, h⟩
    · refine evs (ev_gr rfl (congrArg V.bool g14) (ev_mv (c := .dat a1.length (a1.flatMap ci64)) rfl rfl rfl (evs (ev_gr rfl (congrArg V.bool g14) (ev_len (c1 := .dat a1.length (a1.flatMap ci64)) rfl rfl rfl (evs (ev_gr rfl (congrArg V.bool g14) (ev_fa (c1 := .cref 3 0) (v := .cref 3 0) rfl rfl rfl ⟨_, rfl⟩ rfl (evs (ev_gr rfl (congrArg V.bool g14) (ev_ldB (off := 0) (v := .int .i64 a0.1) rfl rfl rfl rfl (Nat.le_of_ble_eq_true rfl) rfl (evs (ev_gr rfl (congrArg V.bool g14) (ev_bin (c1 := .int .i64 (List.length a1 : Int)) (c2 := .int .i64 a0.1) rfl rfl rfl (evs (ev_pkT (c1 := .bool ((List.length a1 : Int) == a0.1)) rfl g14 rfl rfl (evs (ev_mv (c := .bool ((List.length a1 : Int) == a0.1)) rfl rfl rfl (?_)))))))))))))))))))
      rcases cond_some h with ⟨g15, h⟩ | ⟨g15, h⟩
      · refine evs (ev_gr rfl (congrArg V.bool g15) (ev_mv (c := .int .i64 a2) rfl rfl rfl (?_)))
        obtain ⟨v16, g17, h⟩ := ob_some h
        refine evs (ev_gr rfl (congrArg V.bool g15) (ev_call (era rfl rfl (era rfl rfl (era rfl rfl eran))) (spec_l1In_s g17) (evs (ev_pkT (c1 := .bool v16) rfl g15 rfl rfl (evs (ev_as (c := .bool v16) rfl rfl rfl (evn ?_)))))))
        exact kspec_l38Ok_J2 v16 h _ ⟨kr, trivial⟩
      · refine evs (ev_gs rfl rfl (isb_F g15) (evs (ev_gs rfl rfl (isb_F g15) (evs (ev_pkF (c1 := .bool false) rfl g15 rfl rfl (evs (ev_as (c := .bool false) rfl rfl rfl (evn ?_))))))))
        exact kspec_l38Ok_J2 false h _ ⟨kr, trivial⟩
    · refine evs (ev_gs rfl rfl (isb_F g14) (evs (ev_gs rfl rfl (isb_F g14) (evs (ev_gs rfl rfl (isb_F g14) (evs (ev_gs rfl rfl (isb_F g14) (evs (ev_gs rfl rfl (isb_F g14) (evs (ev_pkF (c1 := .bool false) rfl g14 rfl rfl (evs (ev_mv (c := .bool false) rfl rfl rfl (evs (ev_gs rfl rfl rfl (evs (ev_gs rfl rfl rfl (evs (ev_pkF (c1 := .bool false) rfl rfl rfl rfl (evs (ev_as (c := .bool false) rfl rfl rfl (evn ?_))))))))))))))))))))))
      exact kspec_l38Ok_J2 false h _ ⟨kr, trivial⟩
  refine ls_rec (fun (y1 : Int) => [(1, .dat a1.length (a1.flatMap ci64)), (2, .int .i64 a2), (3, .box [.int .i64 a0.1, .dat a0.2.1.length (a0.2.1.flatMap c150_d), .dat a0.2.2.length (a0.2.2.flatMap ci64)]), (7, .int .i64 y1)]) (spec_l38Ok_B1 a1) fz 0 o1 hl ⟨kr, kr, kr, kr, trivial⟩ (fun _ => rfl) ?_
  rintro m y1 N h hN
  unfold spec_l38Ok_B1 at h
  refine ls_seq_k fun K2 hK2 => ?_
  refine ls_rs tbOk ?_
  refine evs (ev_mv (c := .int .i64 y1) rfl rfl rfl (evs (ev_mv (c := .dat a1.length (a1.flatMap ci64)) rfl rfl rfl (evs (ev_len (c1 := .dat a1.length (a1.flatMap ci64)) rfl rfl rfl (evs (ev_bin (c1 := .int .i64 y1) (c2 := .int .i64 (List.length a1 : Int)) rfl rfl rfl (evn ?_))))))))
  refine ls_keep [(1, .dat a1.length (a1.flatMap ci64)), (2, .int .i64 a2), (3, .box [.int .i64 a0.1, .dat a0.2.1.length (a0.2.1.flatMap c150_d), .dat a0.2.2.length (a0.2.2.flatMap ci64)]), (7, .int .i64 y1), (11, .bool (decide (y1 < (List.length a1 : Int))))] ⟨kr, kr, kr, kr, kr, trivial⟩ rfl ?_
  rcases cond_some h with ⟨g3, h⟩ | ⟨g3, h⟩
  · refine ls_cT rfl g3 ?_
    refine ls_skip ?_
    refine hK2 _ (ls_keep [(1, .dat a1.length (a1.flatMap ci64)), (2, .int .i64 a2), (3, .box [.int .i64 a0.1, .dat a0.2.1.length (a0.2.1.flatMap c150_d), .dat a0.2.2.length (a0.2.2.flatMap ci64)]), (7, .int .i64 y1)] ⟨kr, kr, kr, kr, trivial⟩ rfl ?_)
    refine ls_seq_k fun K4 hK4 => ?_
    refine ls_blk ?_
    refine ls_rs tbOk ?_
    refine evs (ev_mv (c := .dat a1.length (a1.flatMap ci64)) rfl rfl rfl (evs (ev_mv (c := .int .i64 y1) rfl rfl rfl (?_))))
    obtain ⟨e5, g6, h⟩ := ob_some h
    refine evs (ev_ia rfl rfl rfl ⟨(geti_some g6).1, (geti_some g6).2.1⟩ (evs (ev_ldE (off := 0) (v := .int .i64 e5) rfl rfl zci64 g6 rfl (Nat.le_of_ble_eq_true rfl) rfl (?_))))
    obtain ⟨v7, g8, h⟩ := ob_some h
    refine evs (ev_call (era rfl rfl (era rfl rfl (era rfl rfl eran))) (spec_l1In_s g8) (evs (ev_un (c1 := .bool v7) rfl trivial (evn ?_))))
    refine ls_keep [(1, .dat a1.length (a1.flatMap ci64)), (2, .int .i64 a2), (3, .box [.int .i64 a0.1, .dat a0.2.1.length (a0.2.1.flatMap c150_d), .dat a0.2.2.length (a0.2.2.flatMap ci64)]), (7, .int .i64 y1), (19, .bool (!v7))] ⟨kr, kr, kr, kr, kr, trivial⟩ rfl ?_
    rcases cond_some h with ⟨g9, h⟩ | ⟨g9, h⟩
    · refine ls_cT rfl g9 ?_
      refine ls_rs tbOk ?_
      refine evs (ev_ac rfl nofun rfl (evn ?_))
      refine ls_keep [(6, .bool false)] ⟨kr, trivial⟩ rfl ?_
      refine ls_ret ?_
      have q0 := (Option.some.inj h).symm
      have r0 := hr1
      rw [q0] at r0
      have hr := Option.some.inj r0
      rw [← hr]
      exact ⟨.inl rfl, rfl⟩
    · refine ls_cF rfl g9 ?_
      refine ls_skip ?_
      refine hK4 _ (ls_keep [(1, .dat a1.length (a1.flatMap ci64)), (2, .int .i64 a2), (3, .box [.int .i64 a0.1, .dat a0.2.1.length (a0.2.1.flatMap c150_d), .dat a0.2.2.length (a0.2.2.flatMap ci64)]), (7, .int .i64 y1)] ⟨kr, kr, kr, kr, trivial⟩ rfl ?_)
      refine ls_rgn tbOk ?_
      refine evs (ev_mv (c := .int .i64 y1) rfl rfl rfl (evs (ev_bin (c1 := .int .i64 y1) (c2 := .int .i64 1) rfl rfl rfl (evs (ev_as (c := .int .i64 (IntKind.i64.wrap (y1 + 1))) rfl rfl rfl (evn ?_))))))
      exact hN _ (IntKind.i64.wrap (y1 + 1)) h ⟨kr, kr, kr, kr, trivial⟩
  · refine ls_cF rfl g3 ?_
    refine ls_exit ?_
    have q0 := (Option.some.inj h).symm
    have r0 := hr1
    rw [q0] at r0
    exact kXspec_l38Ok_B1 () r0 _ ⟨kr, kr, kr, trivial⟩
def spec_l38Pow_B1 (a0 : Int) (a1 : Int) (rec : (Int × Int) → Option (Sum (Int) (Int))) (s : Int × Int) : Option (Sum (Int) (Int)) := match s with
  | (y1, y2) => cond (decide (y2 < a1)) (cond (decide (100 < (IntKind.i64.wrap (y1 * a0)))) (some (.inr (-1))) (rec ((IntKind.i64.wrap (y1 * a0)), (IntKind.i64.wrap (y2 + 1))))) (some (.inl y1))
def spec_l38Pow (a0 : Int) (a1 : Int) : Option (Int) := obind (loopF (spec_l38Pow_B1 a0 a1) fz (1, 0)) fun o1 => (match o1 with
  | .inl z2 => (some z2)
  | .inr r => some r)
theorem spec_l38Pow_s {a0 : Int} {a1 : Int} {r : Int} (h : spec_l38Pow a0 a1 = some r) : SoundAt Try.prog 108 [.int .i64 a0, .int .i64 a1] (.int .i64 r) := by
  unfold spec_l38Pow at h
  refine sound_lit tbOk lit108 (Nat.le_of_ble_eq_true rfl) rfl ?_
  unfold c108
  refine ls_keep [(0, .int .i64 a0), (1, .int .i64 a1)] ⟨kr, kr, trivial⟩ rfl ?_
  refine ls_rs tbOk ?_
  refine evs (ev_ac rfl nofun rfl (evn ?_))
  refine ls_keep [(0, .int .i64 a0), (1, .int .i64 a1)] ⟨kr, kr, trivial⟩ rfl ?_
  refine ls_rs tbOk ?_
  refine evs (ev_ac rfl nofun rfl (evn ?_))
  refine ls_keep [(0, .int .i64 a0), (1, .int .i64 a1), (5, .int .i64 1)] ⟨kr, kr, kr, trivial⟩ rfl ?_
  refine ls_seq_k fun K1 hK1 => ?_
  refine ls_rs tbOk ?_
  refine evs (ev_ac rfl nofun rfl (evn ?_))
  refine ls_keep [(0, .int .i64 a0), (1, .int .i64 a1), (5, .int .i64 1), (6, .int .i64 0)] ⟨kr, kr, kr, kr, trivial⟩ rfl ?_
  obtain ⟨o1, hl, hr1⟩ := ob_some h
  clear h
  have kXspec_l38Pow_B1 : ∀ (z2 : Int), (some z2) = some r → ∀ σ' : PS, okK σ' [(5, .int .i64 z2)] → K1 σ' := by
    intro z2 h σ' hk
    refine hK1 _ (ls_keep [(5, .int .i64 z2)] hk rfl ?_)
    refine ls_rs tbOk ?_
    refine evs (ev_mv (c := .int .i64 z2) rfl rfl rfl (evs (ev_as (c := .int .i64 z2) rfl rfl rfl (evn ?_))))
    refine ls_keep [(4, .int .i64 z2)] ⟨kr, trivial⟩ rfl ?_
    refine ls_ret ?_
    have hr := Option.some.inj h
    rw [← hr]
    exact ⟨.inl rfl, rfl⟩
  refine ls_rec (fun (s : Int × Int) => match s with | (y1, y2) => [(0, .int .i64 a0), (1, .int .i64 a1), (5, .int .i64 y1), (6, .int .i64 y2)]) (spec_l38Pow_B1 a0 a1) fz (1, 0) o1 hl ⟨kr, kr, kr, kr, trivial⟩ (fun _ => rfl) ?_
  rintro m ⟨y1, y2⟩ N h hN
  unfold spec_l38Pow_B1 at h
  dsimp only at h
  refine ls_seq_k fun K3 hK3 => ?_
  refine ls_rs tbOk ?_
  refine evs (ev_mv (c := .int .i64 y2) rfl rfl rfl (evs (ev_mv (c := .int .i64 a1) rfl rfl rfl (evs (ev_bin (c1 := .int .i64 y2) (c2 := .int .i64 a1) rfl rfl rfl (evn ?_))))))
  refine ls_keep [(0, .int .i64 a0), (1, .int .i64 a1), (5, .int .i64 y1), (6, .int .i64 y2), (9, .bool (decide (y2 < a1)))] ⟨kr, kr, kr, kr, kr, trivial⟩ rfl ?_
  rcases cond_some h with ⟨g4, h⟩ | ⟨g4, h⟩
  · refine ls_cT rfl g4 ?_
    refine ls_skip ?_
    refine hK3 _ (ls_keep [(0, .int .i64 a0), (1, .int .i64 a1), (5, .int .i64 y1), (6, .int .i64 y2)] ⟨kr, kr, kr, kr, trivial⟩ rfl ?_)
    refine ls_seq_k fun K5 hK5 => ?_
    refine ls_blk ?_
    refine ls_rs tbOk ?_
    refine evs (ev_mv (c := .int .i64 y1) rfl rfl rfl (evs (ev_mv (c := .int .i64 a0) rfl rfl rfl (evs (ev_bin (c1 := .int .i64 y1) (c2 := .int .i64 a0) rfl rfl rfl (evs (ev_as (c := .int .i64 (IntKind.i64.wrap (y1 * a0))) rfl rfl rfl (evn ?_))))))))
    refine ls_keep [(0, .int .i64 a0), (1, .int .i64 a1), (5, .int .i64 (IntKind.i64.wrap (y1 * a0))), (6, .int .i64 y2)] ⟨kr, kr, kr, kr, trivial⟩ rfl ?_
    refine ls_rs tbOk ?_
    refine evs (ev_mv (c := .int .i64 (IntKind.i64.wrap (y1 * a0))) rfl rfl rfl (evs (ev_bin (c1 := .int .i64 (IntKind.i64.wrap (y1 * a0))) (c2 := .int .i64 100) rfl rfl rfl (evn ?_))))
    refine ls_keep [(0, .int .i64 a0), (1, .int .i64 a1), (5, .int .i64 (IntKind.i64.wrap (y1 * a0))), (6, .int .i64 y2), (16, .bool (decide (100 < (IntKind.i64.wrap (y1 * a0)))))] ⟨kr, kr, kr, kr, kr, trivial⟩ rfl ?_
    rcases cond_some h with ⟨g6, h⟩ | ⟨g6, h⟩
    · refine ls_cT rfl g6 ?_
      refine ls_rs tbOk ?_
      refine evs (ev_ac rfl nofun rfl (evn ?_))
      refine ls_keep [(4, .int .i64 (-1))] ⟨kr, trivial⟩ rfl ?_
      refine ls_ret ?_
      have q0 := (Option.some.inj h).symm
      have r0 := hr1
      rw [q0] at r0
      have hr := Option.some.inj r0
      rw [← hr]
      exact ⟨.inl rfl, rfl⟩
    · refine ls_cF rfl g6 ?_
      refine ls_skip ?_
      refine hK5 _ (ls_keep [(0, .int .i64 a0), (1, .int .i64 a1), (5, .int .i64 (IntKind.i64.wrap (y1 * a0))), (6, .int .i64 y2)] ⟨kr, kr, kr, kr, trivial⟩ rfl ?_)
      refine ls_rgn tbOk ?_
      refine evs (ev_mv (c := .int .i64 y2) rfl rfl rfl (evs (ev_bin (c1 := .int .i64 y2) (c2 := .int .i64 1) rfl rfl rfl (evs (ev_as (c := .int .i64 (IntKind.i64.wrap (y2 + 1))) rfl rfl rfl (evn ?_))))))
      exact hN _ ((IntKind.i64.wrap (y1 * a0)), (IntKind.i64.wrap (y2 + 1))) h ⟨kr, kr, kr, kr, trivial⟩
  · refine ls_cF rfl g4 ?_
    refine ls_exit ?_
    have q0 := (Option.some.inj h).symm
    have r0 := hr1
    rw [q0] at r0
    exact kXspec_l38Pow_B1 y1 r0 _ ⟨kr, trivial⟩
def spec_TightRowCount_B1 (a1 : List Int) (a2 : Int) (rec : (Int × Int) → Option (Sum (Int) (Int × Bool))) (s : Int × Int) : Option (Sum (Int) (Int × Bool)) := match s with
  | (y1, y2) => cond (decide (y2 < (List.length a1 : Int))) (obind (geti a1 y2) fun e10 => obind (spec_l38Pow a2 e10) fun v12 => cond (decide (v12 < 0)) (some (.inr (0, false))) (cond (decide (4000 < (IntKind.i64.wrap (y1 * v12)))) (some (.inr (0, false))) (rec ((IntKind.i64.wrap (y1 * v12)), (IntKind.i64.wrap (y2 + 1)))))) (some (.inl y1))
def spec_TightRowCount (a0 : Int × (List ((List UInt8) × (List Int))) × (List Int)) (a1 : List Int) (a2 : Int) : Option (Int × Bool) := obind (spec_l38Ok a0 a1 a2) fun v2 => cond (!v2) (some (0, false)) (obind (loopF (spec_TightRowCount_B1 a1 a2) fz (1, 0)) fun o1 => (match o1 with
  | .inl z6 => (some (z6, true))
  | .inr r => some r))
theorem spec_TightRowCount_s {a0 : Int × (List ((List UInt8) × (List Int))) × (List Int)} {a1 : List Int} {a2 : Int} {r : Int × Bool} (h : spec_TightRowCount a0 a1 a2 = some r) : SoundAt Try.prog 30 [.agg [.int .i64 a0.1, .dat a0.2.1.length (a0.2.1.flatMap c150_d), .dat a0.2.2.length (a0.2.2.flatMap ci64)], .dat a1.length (a1.flatMap ci64), .int .i64 a2] (.tup [.int .i64 r.1, .bool r.2]) := by
  unfold spec_TightRowCount at h
  refine sound_lit tbOk lit30 (Nat.le_of_ble_eq_true rfl) rfl ?_
  unfold c30
  refine ls_keep [(0, .agg [.int .i64 a0.1, .dat a0.2.1.length (a0.2.1.flatMap c150_d), .dat a0.2.2.length (a0.2.2.flatMap ci64)]), (1, .dat a1.length (a1.flatMap ci64)), (2, .int .i64 a2)] ⟨kr, kr, kr, trivial⟩ rfl ?_
  refine ls_rs tbOk ?_
  refine evs (ev_bx (c1 := .agg [.int .i64 a0.1, .dat a0.2.1.length (a0.2.1.flatMap c150_d), .dat a0.2.2.length (a0.2.2.flatMap ci64)]) rfl rfl rfl (evs (ev_ac rfl nofun rfl (evs (ev_ac rfl nofun rfl (evn ?_))))))
  refine ls_keep [(1, .dat a1.length (a1.flatMap ci64)), (2, .int .i64 a2), (3, .box [.int .i64 a0.1, .dat a0.2.1.length (a0.2.1.flatMap c150_d), .dat a0.2.2.length (a0.2.2.flatMap ci64)])] ⟨kr, kr, kr, trivial⟩ rfl ?_
  refine ls_seq_k fun K1 hK1 => ?_
  refine ls_rs tbOk ?_
  refine evs (ev_ldB (off := 0) (v := .agg [.int .i64 a0.1, .dat a0.2.1.length (a0.2.1.flatMap c150_d), .dat a0.2.2.length (a0.2.2.flatMap ci64)]) rfl rfl rfl rfl (Nat.le_of_ble_eq_true rfl) rfl (evs (ev_mv (c := .dat a1.length (a1.flatMap ci64)) rfl rfl rfl (evs (ev_mv (c := .int .i64 a2) rfl rfl rfl (?_))))))
  obtain ⟨v2, g3, h⟩ := ob_some h
  refine evs (ev_call (era rfl (erg (erc rfl (erc (erD ec150_d _) (erc (erD eci64 _) rfl)))) (era rfl (erD eci64 _) (era rfl rfl eran))) (spec_l38Ok_s g3) (evs (ev_un (c1 := .bool v2) rfl trivial (evn ?_))))
  refine ls_keep [(1, .dat a1.length (a1.flatMap ci64)), (2, .int .i64 a2), (15, .bool (!v2))] ⟨kr, kr, kr, trivial⟩ rfl ?_
  rcases cond_some h with ⟨g4, h⟩ | ⟨g4, h⟩
  · refine ls_cT rfl g4 ?_
    refine ls_rs tbOk ?_
    refine evs (ev_ac rfl nofun rfl (evs (ev_ac rfl nofun rfl (evn ?_))))
    refine ls_keep [(6, .int .i64 0), (7, .bool false)] ⟨kr, kr, trivial⟩ rfl ?_
    refine ls_ret ?_
    have hr := Option.some.inj h
    rw [← hr]
    exact ⟨.inl rfl, rfl⟩
  · refine ls_cF rfl g4 ?_
    refine ls_skip ?_
    refine hK1 _ (ls_keep [(1, .dat a1.length (a1.flatMap ci64)), (2, .int .i64 a2)] ⟨kr, kr, trivial⟩ rfl ?_)
    refine ls_rs tbOk ?_
    refine evs (ev_ac rfl nofun rfl (evn ?_))
    refine ls_keep [(1, .dat a1.length (a1.flatMap ci64)), (2, .int .i64 a2), (8, .int .i64 1)] ⟨kr, kr, kr, trivial⟩ rfl ?_
    refine ls_seq_k fun K5 hK5 => ?_
    refine ls_rs tbOk ?_
    refine evs (ev_ac rfl nofun rfl (evn ?_))
    refine ls_keep [(1, .dat a1.length (a1.flatMap ci64)), (2, .int .i64 a2), (8, .int .i64 1), (9, .int .i64 0)] ⟨kr, kr, kr, kr, trivial⟩ rfl ?_
    obtain ⟨o1, hl, hr1⟩ := ob_some h
    clear h
    have kXspec_TightRowCount_B1 : ∀ (z6 : Int), (some (z6, true)) = some r → ∀ σ' : PS, okK σ' [(8, .int .i64 z6)] → K5 σ' := by
      intro z6 h σ' hk
      refine hK5 _ (ls_keep [(8, .int .i64 z6)] hk rfl ?_)
      refine ls_rs tbOk ?_
      refine evs (ev_mv (c := .int .i64 z6) rfl rfl rfl (evs (ev_as (c := .int .i64 z6) rfl rfl rfl (evs (ev_ac rfl nofun rfl (evn ?_))))))
      refine ls_keep [(6, .int .i64 z6), (7, .bool true)] ⟨kr, kr, trivial⟩ rfl ?_
      refine ls_ret ?_
      have hr := Option.some.inj h
      rw [← hr]
      exact ⟨.inl rfl, rfl⟩
    refine ls_rec (fun (s : Int × Int) => match s with | (y1, y2) => [(1, .dat a1.length (a1.flatMap ci64)), (2, .int .i64 a2), (8, .int .i64 y1), (9, .int .i64 y2)]) (spec_TightRowCount_B1 a1 a2) fz (1, 0) o1 hl ⟨kr, kr, kr, kr, trivial⟩ (fun _ => rfl) ?_
    rintro m ⟨y1, y2⟩ N h hN
    unfold spec_TightRowCount_B1 at h
    dsimp only at h
    refine ls_seq_k fun K7 hK7 => ?_
    refine ls_rs tbOk ?_
    refine evs (ev_mv (c := .int .i64 y2) rfl rfl rfl (evs (ev_mv (c := .dat a1.length (a1.flatMap ci64)) rfl rfl rfl (evs (ev_len (c1 := .dat a1.length (a1.flatMap ci64)) rfl rfl rfl (evs (ev_bin (c1 := .int .i64 y2) (c2 := .int .i64 (List.length a1 : Int)) rfl rfl rfl (evn ?_))))))))
    refine ls_keep [(1, .dat a1.length (a1.flatMap ci64)), (2, .int .i64 a2), (8, .int .i64 y1), (9, .int .i64 y2), (19, .bool (decide (y2 < (List.length a1 : Int))))] ⟨kr, kr, kr, kr, kr, trivial⟩ rfl ?_
    rcases cond_some h with ⟨g8, h⟩ | ⟨g8, h⟩
    · refine ls_cT rfl g8 ?_
      refine ls_skip ?_
      refine hK7 _ (ls_keep [(1, .dat a1.length (a1.flatMap ci64)), (2, .int .i64 a2), (8, .int .i64 y1), (9, .int .i64 y2)] ⟨kr, kr, kr, kr, trivial⟩ rfl ?_)
      refine ls_seq_k fun K9 hK9 => ?_
      refine ls_blk ?_
      refine ls_rs tbOk ?_
      refine evs (ev_mv (c := .int .i64 a2) rfl rfl rfl (evs (ev_mv (c := .dat a1.length (a1.flatMap ci64)) rfl rfl rfl (evs (ev_mv (c := .int .i64 y2) rfl rfl rfl (?_))))))
      obtain ⟨e10, g11, h⟩ := ob_some h
      refine evs (ev_ia rfl rfl rfl ⟨(geti_some g11).1, (geti_some g11).2.1⟩ (evs (ev_ldE (off := 0) (v := .int .i64 e10) rfl rfl zci64 g11 rfl (Nat.le_of_ble_eq_true rfl) rfl (?_))))
      obtain ⟨v12, g13, h⟩ := ob_some h
      refine evs (ev_call (era rfl rfl (era rfl rfl eran)) (spec_l38Pow_s g13) (evs (ev_as (c := .int .i64 v12) rfl rfl rfl (evn ?_))))
      refine ls_keep [(1, .dat a1.length (a1.flatMap ci64)), (2, .int .i64 a2), (8, .int .i64 y1), (9, .int .i64 y2), (10, .int .i64 v12)] ⟨kr, kr, kr, kr, kr, trivial⟩ rfl ?_
      refine ls_seq_k fun K14 hK14 => ?_
      refine ls_rs tbOk ?_
      refine evs (ev_mv (c := .int .i64 v12) rfl rfl rfl (evs (ev_bin (c1 := .int .i64 v12) (c2 := .int .i64 0) rfl rfl rfl (evs (ev_mv (c := .bool (decide (v12 < 0))) rfl rfl rfl (?_))))))
      rcases cond_some h with ⟨g15, h⟩ | ⟨g15, h⟩
      · refine evs (ev_gs rfl rfl (isb_T g15) (evs (ev_gs rfl rfl (isb_T g15) (evs (ev_gs rfl rfl (isb_T g15) (evs (ev_gs rfl rfl (isb_T g15) (evs (ev_pkT (c1 := .bool true) rfl g15 rfl rfl (evn ?_))))))))))
        refine ls_keep [(1, .dat a1.length (a1.flatMap ci64)), (2, .int .i64 a2), (8, .int .i64 y1), (9, .int .i64 y2), (10, .int .i64 v12), (35, .bool true)] ⟨kr, kr, kr, kr, kr, kr, trivial⟩ rfl ?_
        refine ls_cT rfl rfl ?_
        refine ls_rs tbOk ?_
        refine evs (ev_ac rfl nofun rfl (evs (ev_ac rfl nofun rfl (evn ?_))))
        refine ls_keep [(6, .int .i64 0), (7, .bool false)] ⟨kr, kr, trivial⟩ rfl ?_
        refine ls_ret ?_
        have q0 := (Option.some.inj h).symm
        have r0 := hr1
        rw [q0] at r0
        have hr := Option.some.inj r0
        rw [← hr]
        exact ⟨.inl rfl, rfl⟩
      · refine evs (ev_gr rfl (congrArg V.bool g15) (ev_mv (c := .int .i64 y1) rfl rfl rfl (evs (ev_gr rfl (congrArg V.bool g15) (ev_mv (c := .int .i64 v12) rfl rfl rfl (evs (ev_gr rfl (congrArg V.bool g15) (ev_bin (c1 := .int .i64 y1) (c2 := .int .i64 v12) rfl rfl rfl (evs (ev_gr rfl (congrArg V.bool g15) (ev_bin (c1 := .int .i64 (IntKind.i64.wrap (y1 * v12))) (c2 := .int .i64 4000) rfl rfl rfl (evs (ev_pkF (c1 := .bool (decide (4000 < (IntKind.i64.wrap (y1 * v12))))) rfl g15 rfl rfl (evn ?_))))))))))))))
        refine ls_keep [(1, .dat a1.length (a1.flatMap ci64)), (2, .int .i64 a2), (8, .int .i64 y1), (9, .int .i64 y2), (10, .int .i64 v12), (35, .bool (decide (4000 < (IntKind.i64.wrap (y1 * v12)))))] ⟨kr, kr, kr, kr, kr, kr, trivial⟩ rfl ?_
        rcases cond_some h with ⟨g16, h⟩ | ⟨g16, h⟩
        · refine ls_cT rfl g16 ?_
          refine ls_rs tbOk ?_
          refine evs (ev_ac rfl nofun rfl (evs (ev_ac rfl nofun rfl (evn ?_))))
          refine ls_keep [(6, .int .i64 0), (7, .bool false)] ⟨kr, kr, trivial⟩ rfl ?_
          refine ls_ret ?_
          have q0 := (Option.some.inj h).symm
          have r0 := hr1
          rw [q0] at r0
          have hr := Option.some.inj r0
          rw [← hr]
          exact ⟨.inl rfl, rfl⟩
        · refine ls_cF rfl g16 ?_
          refine ls_skip ?_
          refine hK14 _ (ls_keep [(1, .dat a1.length (a1.flatMap ci64)), (2, .int .i64 a2), (8, .int .i64 y1), (9, .int .i64 y2), (10, .int .i64 v12)] ⟨kr, kr, kr, kr, kr, trivial⟩ rfl ?_)
          refine ls_rgn tbOk ?_
          refine evs (ev_mv (c := .int .i64 y1) rfl rfl rfl (evs (ev_mv (c := .int .i64 v12) rfl rfl rfl (evs (ev_bin (c1 := .int .i64 y1) (c2 := .int .i64 v12) rfl rfl rfl (evs (ev_as (c := .int .i64 (IntKind.i64.wrap (y1 * v12))) rfl rfl rfl (evn ?_))))))))
          refine hK9 _ (ls_keep [(1, .dat a1.length (a1.flatMap ci64)), (2, .int .i64 a2), (8, .int .i64 (IntKind.i64.wrap (y1 * v12))), (9, .int .i64 y2)] ⟨kr, kr, kr, kr, trivial⟩ rfl ?_)
          refine ls_rgn tbOk ?_
          refine evs (ev_mv (c := .int .i64 y2) rfl rfl rfl (evs (ev_bin (c1 := .int .i64 y2) (c2 := .int .i64 1) rfl rfl rfl (evs (ev_as (c := .int .i64 (IntKind.i64.wrap (y2 + 1))) rfl rfl rfl (evn ?_))))))
          exact hN _ ((IntKind.i64.wrap (y1 * v12)), (IntKind.i64.wrap (y2 + 1))) h ⟨kr, kr, kr, kr, trivial⟩
    · refine ls_cF rfl g8 ?_
      refine ls_exit ?_
      have q0 := (Option.some.inj h).symm
      have r0 := hr1
      rw [q0] at r0
      exact kXspec_TightRowCount_B1 y1 r0 _ ⟨kr, trivial⟩
def laws_toAtom (a0 : (List UInt8) × (List Int)) : Option (((List UInt8) × (List Int))) := obind (laws_toIntS a0.2) fun v1 => some (a0.1, v1)
theorem laws_toAtom_s {a0 : (List UInt8) × (List Int)} {r : ((List UInt8) × (List Int))} (h : laws_toAtom a0 = some r) : SoundAt Try.prog 151 [.agg [.str a0.1, .dat a0.2.length (a0.2.flatMap ci64)]] (.agg [.str r.1, .own 3 r.2.length (r.2.flatMap ci64)]) := by
  unfold laws_toAtom at h
  refine sound_lit tbOk lit151 (Nat.le_of_ble_eq_true rfl) rfl ?_
  unfold c151
  refine ls_keep [(0, .agg [.str a0.1, .dat a0.2.length (a0.2.flatMap ci64)])] ⟨kr, trivial⟩ rfl ?_
  refine ls_rs tbOk ?_
  refine evs (ev_bx (c1 := .agg [.str a0.1, .dat a0.2.length (a0.2.flatMap ci64)]) rfl rfl rfl (evs (ev_al rfl rfl (evn ?_))))
  refine ls_keep [(1, .box [.str a0.1, .dat a0.2.length (a0.2.flatMap ci64)]), (2, .box [.str [], .own 3 ([] : List Int).length (([] : List Int).flatMap ci64)])] ⟨kr, kr, trivial⟩ rfl ?_
  refine ls_rs tbOk ?_
  refine evs (ev_al rfl rfl (evn ?_))
  refine ls_keep [(1, .box [.str a0.1, .dat a0.2.length (a0.2.flatMap ci64)]), (2, .box [.str [], .own 3 ([] : List Int).length (([] : List Int).flatMap ci64)]), (3, .box [.str [], .own 3 ([] : List Int).length (([] : List Int).flatMap ci64)])] ⟨kr, kr, kr, trivial⟩ rfl ?_
  refine ls_rs tbOk ?_
  refine evs (ev_fa (c1 := .cref 1 0) (v := .cref 1 0) rfl rfl rfl ⟨_, rfl⟩ rfl (evs (ev_ldB (off := 0) (v := .str a0.1) rfl rfl rfl rfl (Nat.le_of_ble_eq_true rfl) rfl (evs (ev_fa (c1 := .cref 3 0) (v := .cref 3 0) rfl rfl rfl ⟨_, rfl⟩ rfl (evs (ev_st (off := 0) (c1 := .str a0.1) (cs' := [.str a0.1, .own 3 ([] : List Int).length (([] : List Int).flatMap ci64)]) rfl rfl rfl rfl rfl rfl (Nat.le_of_ble_eq_true rfl) rfl (evn ?_))))))))
  refine ls_keep [(1, .box [.str a0.1, .dat a0.2.length (a0.2.flatMap ci64)]), (2, .box [.str [], .own 3 ([] : List Int).length (([] : List Int).flatMap ci64)]), (3, .box [.str a0.1, .own 3 ([] : List Int).length (([] : List Int).flatMap ci64)])] ⟨kr, kr, kr, trivial⟩ rfl ?_
  refine ls_rs tbOk ?_
  refine evs (ev_fa (c1 := .cref 1 0) (v := .cref 1 1) rfl rfl rfl ⟨_, rfl⟩ rfl (evs (ev_ldB (off := 1) (v := .dat a0.2.length (a0.2.flatMap ci64)) rfl rfl rfl rfl (Nat.le_of_ble_eq_true rfl) rfl (?_))))
  obtain ⟨v1, g2, h⟩ := ob_some h
  refine evs (ev_call (era rfl (erD eci64 _) eran) (laws_toIntS_s g2) (evs (ev_fa (c1 := .cref 3 0) (v := .cref 3 1) rfl rfl rfl ⟨_, rfl⟩ rfl (evs (ev_st (off := 1) (c1 := .own 3 v1.length (v1.flatMap ci64)) (cs' := [.str a0.1, .own 3 v1.length (v1.flatMap ci64)]) rfl rfl rfl rfl rfl rfl (Nat.le_of_ble_eq_true rfl) rfl (evn ?_))))))
  refine ls_keep [(2, .box [.str [], .own 3 ([] : List Int).length (([] : List Int).flatMap ci64)]), (3, .box [.str a0.1, .own 3 v1.length (v1.flatMap ci64)])] ⟨kr, kr, trivial⟩ rfl ?_
  refine ls_rs tbOk ?_
  refine evs (ev_ldBt (off := 0) (v := .agg [.str a0.1, .own 3 v1.length (v1.flatMap ci64)]) (c' := .box [.str a0.1, .dat v1.length (v1.flatMap ci64)]) rfl rfl rfl rfl (Nat.le_of_ble_eq_true rfl) rfl rfl (evs (ev_st (off := 0) (c1 := .agg [.str a0.1, .own 3 v1.length (v1.flatMap ci64)]) (cs' := [.str a0.1, .own 3 v1.length (v1.flatMap ci64)]) rfl rfl rfl rfl rfl rfl (Nat.le_of_ble_eq_true rfl) rfl (evn ?_))))
  refine ls_keep [(2, .box [.str a0.1, .own 3 v1.length (v1.flatMap ci64)])] ⟨kr, trivial⟩ rfl ?_
  refine ls_ret ?_
  have hr := Option.some.inj h
  rw [← hr]
  exact ⟨.inl rfl, rfl⟩
def c150_o (x : (List UInt8) × (List Int)) : List V := [.str x.1, .own 3 x.2.length (x.2.flatMap ci64)]
theorem zc150_o (x : (List UInt8) × (List Int)) : (c150_o x).length = 2 := rfl
theorem ec150_o (x : (List UInt8) × (List Int)) : erL (c150_o x) = c150_d x := (erc rfl (erc (erO eci64 _) rfl))
def laws_toAtomS_B1 (a0 : List ((List UInt8) × (List Int))) (rec : ((List ((List UInt8) × (List Int))) × Int) → Option ((List ((List UInt8) × (List Int))))) (s : (List ((List UInt8) × (List Int))) × Int) : Option ((List ((List UInt8) × (List Int)))) := match s with
  | (y1, y2) => cond (decide (y2 < (List.length a0 : Int))) (obind (geti a0 y2) fun e7 => obind (laws_toAtom e7) fun v9 => obind (geti y1 y2) fun e11 => rec ((seti y1 y2 v9), (IntKind.i64.wrap (y2 + 1)))) (some y1)
def laws_toAtomS (a0 : List ((List UInt8) × (List Int))) : Option ((List ((List UInt8) × (List Int)))) := chk ((0 : Int) ≤ (List.length a0 : Int) ∧ Int.toNat (List.length a0 : Int) ≤ lim) (obind (loopF (laws_toAtomS_B1 a0) fz ((List.replicate (Int.toNat (List.length a0 : Int)) (([], []) : (List UInt8) × (List Int))), 0)) fun z3 => some z3)
theorem laws_toAtomS_s {a0 : List ((List UInt8) × (List Int))} {r : (List ((List UInt8) × (List Int)))} (h : laws_toAtomS a0 = some r) : SoundAt Try.prog 109 [.dat a0.length (a0.flatMap c171_d)] (.own 150 r.length (r.flatMap c150_o)) := by
  unfold laws_toAtomS at h
  refine sound_lit tbOk lit109 (Nat.le_of_ble_eq_true rfl) rfl ?_
  unfold c109
  refine ls_keep [(0, .dat a0.length (a0.flatMap c171_d))] ⟨kr, trivial⟩ rfl ?_
  refine ls_rs tbOk ?_
  refine evs (ev_an rfl rfl (evn ?_))
  refine ls_keep [(0, .dat a0.length (a0.flatMap c171_d))] ⟨kr, trivial⟩ rfl ?_
  refine ls_rs tbOk ?_
  refine evs (ev_mv (c := .dat a0.length (a0.flatMap c171_d)) rfl rfl rfl (evs (ev_len (c1 := .dat a0.length (a0.flatMap c171_d)) rfl rfl rfl (?_))))
  obtain ⟨g1, h⟩ := chk_some h
  refine evs (ev_mku (f := c150_o) (z := (([], []) : (List UInt8) × (List Int))) rfl rfl rfl rfl rfl rfl g1 rfl (evs (ev_asu rfl rfl rfl (evn ?_))))
  refine ls_keep [(0, .dat a0.length (a0.flatMap c171_d)), (3, .uni 150 (List.replicate (Int.toNat (List.length a0 : Int)) (([], []) : (List UInt8) × (List Int))).length ((List.replicate (Int.toNat (List.length a0 : Int)) (([], []) : (List UInt8) × (List Int))).flatMap c150_o))] ⟨kr, kr, trivial⟩ rfl ?_
  refine ls_seq_k fun K2 hK2 => ?_
  refine ls_rs tbOk ?_
  refine evs (ev_ac rfl nofun rfl (evn ?_))
  refine ls_keep [(0, .dat a0.length (a0.flatMap c171_d)), (3, .uni 150 (List.replicate (Int.toNat (List.length a0 : Int)) (([], []) : (List UInt8) × (List Int))).length ((List.replicate (Int.toNat (List.length a0 : Int)) (([], []) : (List UInt8) × (List Int))).flatMap c150_o)), (4, .int .i64 0)] ⟨kr, kr, kr, trivial⟩ rfl ?_
  obtain ⟨o1, hl, hr1⟩ := ob_some h
  clear h
  have kXlaws_toAtomS_B1 : ∀ (z3 : List ((List UInt8) × (List Int))), (some z3) = some r → ∀ σ' : PS, okK σ' [(3, .uni 150 z3.length (z3.flatMap c150_o))] → K2 σ' := by
    intro z3 h σ' hk
    refine hK2 _ (ls_keep [(3, .uni 150 z3.length (z3.flatMap c150_o))] hk rfl ?_)
    refine ls_rs tbOk ?_
    refine evs (ev_mvtu rfl rfl (evs (ev_as (c := .own 150 z3.length (z3.flatMap c150_o)) rfl rfl rfl (evn ?_))))
    refine ls_keep [(2, .own 150 z3.length (z3.flatMap c150_o))] ⟨kr, trivial⟩ rfl ?_
    refine ls_ret ?_
    have hr := Option.some.inj h
    rw [← hr]
    exact ⟨.inl rfl, rfl⟩
  refine ls_rec (fun (s : (List ((List UInt8) × (List Int))) × Int) => match s with | (y1, y2) => [(0, .dat a0.length (a0.flatMap c171_d)), (3, .uni 150 y1.length (y1.flatMap c150_o)), (4, .int .i64 y2)]) (laws_toAtomS_B1 a0) fz ((List.replicate (Int.toNat (List.length a0 : Int)) (([], []) : (List UInt8) × (List Int))), 0) o1 hl ⟨kr, kr, kr, trivial⟩ (fun _ => rfl) ?_
  rintro m ⟨y1, y2⟩ N h hN
  unfold laws_toAtomS_B1 at h
  dsimp only at h
  refine ls_seq_k fun K4 hK4 => ?_
  refine ls_rs tbOk ?_
  refine evs (ev_mv (c := .int .i64 y2) rfl rfl rfl (evs (ev_mv (c := .dat a0.length (a0.flatMap c171_d)) rfl rfl rfl (evs (ev_len (c1 := .dat a0.length (a0.flatMap c171_d)) rfl rfl rfl (evs (ev_bin (c1 := .int .i64 y2) (c2 := .int .i64 (List.length a0 : Int)) rfl rfl rfl (evn ?_))))))))
  refine ls_keep [(0, .dat a0.length (a0.flatMap c171_d)), (3, .uni 150 y1.length (y1.flatMap c150_o)), (4, .int .i64 y2), (11, .bool (decide (y2 < (List.length a0 : Int))))] ⟨kr, kr, kr, kr, trivial⟩ rfl ?_
  rcases cond_some h with ⟨g5, h⟩ | ⟨g5, h⟩
  · refine ls_cT rfl g5 ?_
    refine ls_skip ?_
    refine hK4 _ (ls_keep [(0, .dat a0.length (a0.flatMap c171_d)), (3, .uni 150 y1.length (y1.flatMap c150_o)), (4, .int .i64 y2)] ⟨kr, kr, kr, trivial⟩ rfl ?_)
    refine ls_seq_k fun K6 hK6 => ?_
    refine ls_blk ?_
    refine ls_rgn tbOk ?_
    refine evs (ev_mvu rfl rfl (evs (ev_mv (c := .int .i64 y2) rfl rfl rfl (evs (ev_mv (c := .dat a0.length (a0.flatMap c171_d)) rfl rfl rfl (evs (ev_mv (c := .int .i64 y2) rfl rfl rfl (?_))))))))
    obtain ⟨e7, g8, h⟩ := ob_some h
    refine evs (ev_ia rfl rfl rfl ⟨(geti_some g8).1, (geti_some g8).2.1⟩ (evs (ev_ldE (off := 0) (v := .agg [.str e7.1, .dat e7.2.length (e7.2.flatMap ci64)]) rfl rfl zc171_d g8 rfl (Nat.le_of_ble_eq_true rfl) rfl (?_))))
    obtain ⟨v9, g10, h⟩ := ob_some h
    refine evs (ev_call (era rfl (erg (erc rfl (erc (erD eci64 _) rfl))) eran) (laws_toAtom_s g10) (?_))
    obtain ⟨e11, g12, h⟩ := ob_some h
    refine evs (ev_iau rfl rfl rfl rfl ⟨(geti_some g12).1, (geti_some g12).2.1⟩ (evs (ev_stu (e := v9) (c1 := .agg [.str v9.1, .own 3 v9.2.length (v9.2.flatMap ci64)]) rfl rfl zc150_o ⟨(geti_some g12).1, (geti_some g12).2.1⟩ rfl rfl rfl rfl rfl (evn ?_))))
    refine hK6 _ (ls_keep [(0, .dat a0.length (a0.flatMap c171_d)), (3, .uni 150 (seti y1 y2 v9).length ((seti y1 y2 v9).flatMap c150_o)), (4, .int .i64 y2)] ⟨kr, kr, kr, trivial⟩ rfl ?_)
    refine ls_rgn tbOk ?_
    refine evs (ev_mv (c := .int .i64 y2) rfl rfl rfl (evs (ev_bin (c1 := .int .i64 y2) (c2 := .int .i64 1) rfl rfl rfl (evs (ev_as (c := .int .i64 (IntKind.i64.wrap (y2 + 1))) rfl rfl rfl (evn ?_))))))
    exact hN _ ((seti y1 y2 v9), (IntKind.i64.wrap (y2 + 1))) h ⟨kr, kr, kr, trivial⟩
  · refine ls_cF rfl g5 ?_
    refine ls_exit ?_
    have q0 := (Option.some.inj h).symm
    have r0 := hr1
    rw [q0] at r0
    exact kXlaws_toAtomS_B1 y1 r0 _ ⟨kr, trivial⟩
def laws_toQuery (a0 : Int × (List ((List UInt8) × (List Int))) × (List Int)) : Option ((Int × (List ((List UInt8) × (List Int))) × (List Int))) := obind (laws_toAtomS a0.2.1) fun v1 => obind (laws_toIntS a0.2.2) fun v3 => some (a0.1, v1, v3)
theorem laws_toQuery_s {a0 : Int × (List ((List UInt8) × (List Int))) × (List Int)} {r : (Int × (List ((List UInt8) × (List Int))) × (List Int))} (h : laws_toQuery a0 = some r) : SoundAt Try.prog 31 [.agg [.int .i64 a0.1, .dat a0.2.1.length (a0.2.1.flatMap c171_d), .dat a0.2.2.length (a0.2.2.flatMap ci64)]] (.agg [.int .i64 r.1, .own 150 r.2.1.length (r.2.1.flatMap c150_o), .own 3 r.2.2.length (r.2.2.flatMap ci64)]) := by
  unfold laws_toQuery at h
  refine sound_lit tbOk lit31 (Nat.le_of_ble_eq_true rfl) rfl ?_
  unfold c31
  refine ls_keep [(0, .agg [.int .i64 a0.1, .dat a0.2.1.length (a0.2.1.flatMap c171_d), .dat a0.2.2.length (a0.2.2.flatMap ci64)])] ⟨kr, trivial⟩ rfl ?_
  refine ls_rs tbOk ?_
  refine evs (ev_bx (c1 := .agg [.int .i64 a0.1, .dat a0.2.1.length (a0.2.1.flatMap c171_d), .dat a0.2.2.length (a0.2.2.flatMap ci64)]) rfl rfl rfl (evs (ev_al rfl rfl (evn ?_))))
  refine ls_keep [(1, .box [.int .i64 a0.1, .dat a0.2.1.length (a0.2.1.flatMap c171_d), .dat a0.2.2.length (a0.2.2.flatMap ci64)]), (2, .box [.int .i64 0, .own 150 ([] : List ((List UInt8) × (List Int))).length (([] : List ((List UInt8) × (List Int))).flatMap c150_o), .own 3 ([] : List Int).length (([] : List Int).flatMap ci64)])] ⟨kr, kr, trivial⟩ rfl ?_
  refine ls_rs tbOk ?_
  refine evs (ev_al rfl rfl (evn ?_))
  refine ls_keep [(1, .box [.int .i64 a0.1, .dat a0.2.1.length (a0.2.1.flatMap c171_d), .dat a0.2.2.length (a0.2.2.flatMap ci64)]), (2, .box [.int .i64 0, .own 150 ([] : List ((List UInt8) × (List Int))).length (([] : List ((List UInt8) × (List Int))).flatMap c150_o), .own 3 ([] : List Int).length (([] : List Int).flatMap ci64)]), (3, .box [.int .i64 0, .own 150 ([] : List ((List UInt8) × (List Int))).length (([] : List ((List UInt8) × (List Int))).flatMap c150_o), .own 3 ([] : List Int).length (([] : List Int).flatMap ci64)])] ⟨kr, kr, kr, trivial⟩ rfl ?_
  refine ls_rs tbOk ?_
  refine evs (ev_fa (c1 := .cref 1 0) (v := .cref 1 0) rfl rfl rfl ⟨_, rfl⟩ rfl (evs (ev_ldB (off := 0) (v := .int .i64 a0.1) rfl rfl rfl rfl (Nat.le_of_ble_eq_true rfl) rfl (evs (ev_fa (c1 := .cref 3 0) (v := .cref 3 0) rfl rfl rfl ⟨_, rfl⟩ rfl (evs (ev_st (off := 0) (c1 := .int .i64 a0.1) (cs' := [.int .i64 a0.1, .own 150 ([] : List ((List UInt8) × (List Int))).length (([] : List ((List UInt8) × (List Int))).flatMap c150_o), .own 3 ([] : List Int).length (([] : List Int).flatMap ci64)]) rfl rfl rfl rfl rfl rfl (Nat.le_of_ble_eq_true rfl) rfl (evn ?_))))))))
  refine ls_keep [(1, .box [.int .i64 a0.1, .dat a0.2.1.length (a0.2.1.flatMap c171_d), .dat a0.2.2.length (a0.2.2.flatMap ci64)]), (2, .box [.int .i64 0, .own 150 ([] : List ((List UInt8) × (List Int))).length (([] : List ((List UInt8) × (List Int))).flatMap c150_o), .own 3 ([] : List Int).length (([] : List Int).flatMap ci64)]), (3, .box [.int .i64 a0.1, .own 150 ([] : List ((List UInt8) × (List Int))).length (([] : List ((List UInt8) × (List Int))).flatMap c150_o), .own 3 ([] : List Int).length (([] : List Int).flatMap ci64)])] ⟨kr, kr, kr, trivial⟩ rfl ?_
  refine ls_rs tbOk ?_
  refine evs (ev_fa (c1 := .cref 1 0) (v := .cref 1 1) rfl rfl rfl ⟨_, rfl⟩ rfl (evs (ev_ldB (off := 1) (v := .dat a0.2.1.length (a0.2.1.flatMap c171_d)) rfl rfl rfl rfl (Nat.le_of_ble_eq_true rfl) rfl (?_))))
  obtain ⟨v1, g2, h⟩ := ob_some h
  refine evs (ev_call (era rfl (erD ec171_d _) eran) (laws_toAtomS_s g2) (evs (ev_fa (c1 := .cref 3 0) (v := .cref 3 1) rfl rfl rfl ⟨_, rfl⟩ rfl (evs (ev_st (off := 1) (c1 := .own 150 v1.length (v1.flatMap c150_o)) (cs' := [.int .i64 a0.1, .own 150 v1.length (v1.flatMap c150_o), .own 3 ([] : List Int).length (([] : List Int).flatMap ci64)]) rfl rfl rfl rfl rfl rfl (Nat.le_of_ble_eq_true rfl) rfl (evn ?_))))))
  refine ls_keep [(1, .box [.int .i64 a0.1, .dat a0.2.1.length (a0.2.1.flatMap c171_d), .dat a0.2.2.length (a0.2.2.flatMap ci64)]), (2, .box [.int .i64 0, .own 150 ([] : List ((List UInt8) × (List Int))).length (([] : List ((List UInt8) × (List Int))).flatMap c150_o), .own 3 ([] : List Int).length (([] : List Int).flatMap ci64)]), (3, .box [.int .i64 a0.1, .own 150 v1.length (v1.flatMap c150_o), .own 3 ([] : List Int).length (([] : List Int).flatMap ci64)])] ⟨kr, kr, kr, trivial⟩ rfl ?_
  refine ls_rs tbOk ?_
  refine evs (ev_fa (c1 := .cref 1 0) (v := .cref 1 2) rfl rfl rfl ⟨_, rfl⟩ rfl (evs (ev_ldB (off := 2) (v := .dat a0.2.2.length (a0.2.2.flatMap ci64)) rfl rfl rfl rfl (Nat.le_of_ble_eq_true rfl) rfl (?_))))
  obtain ⟨v3, g4, h⟩ := ob_some h
  refine evs (ev_call (era rfl (erD eci64 _) eran) (laws_toIntS_s g4) (evs (ev_fa (c1 := .cref 3 0) (v := .cref 3 2) rfl rfl rfl ⟨_, rfl⟩ rfl (evs (ev_st (off := 2) (c1 := .own 3 v3.length (v3.flatMap ci64)) (cs' := [.int .i64 a0.1, .own 150 v1.length (v1.flatMap c150_o), .own 3 v3.length (v3.flatMap ci64)]) rfl rfl rfl rfl rfl rfl (Nat.le_of_ble_eq_true rfl) rfl (evn ?_))))))
  refine ls_keep [(2, .box [.int .i64 0, .own 150 ([] : List ((List UInt8) × (List Int))).length (([] : List ((List UInt8) × (List Int))).flatMap c150_o), .own 3 ([] : List Int).length (([] : List Int).flatMap ci64)]), (3, .box [.int .i64 a0.1, .own 150 v1.length (v1.flatMap c150_o), .own 3 v3.length (v3.flatMap ci64)])] ⟨kr, kr, trivial⟩ rfl ?_
  refine ls_rs tbOk ?_
  refine evs (ev_ldBt (off := 0) (v := .agg [.int .i64 a0.1, .own 150 v1.length (v1.flatMap c150_o), .own 3 v3.length (v3.flatMap ci64)]) (c' := .box [.int .i64 a0.1, .dat v1.length (v1.flatMap c150_o), .dat v3.length (v3.flatMap ci64)]) rfl rfl rfl rfl (Nat.le_of_ble_eq_true rfl) rfl rfl (evs (ev_st (off := 0) (c1 := .agg [.int .i64 a0.1, .own 150 v1.length (v1.flatMap c150_o), .own 3 v3.length (v3.flatMap ci64)]) (cs' := [.int .i64 a0.1, .own 150 v1.length (v1.flatMap c150_o), .own 3 v3.length (v3.flatMap ci64)]) rfl rfl rfl rfl rfl rfl (Nat.le_of_ble_eq_true rfl) rfl (evn ?_))))
  refine ls_keep [(2, .box [.int .i64 a0.1, .own 150 v1.length (v1.flatMap c150_o), .own 3 v3.length (v3.flatMap ci64)])] ⟨kr, trivial⟩ rfl ?_
  refine ls_ret ?_
  have hr := Option.some.inj h
  rw [← hr]
  exact ⟨.inl rfl, rfl⟩
def impl_indexOf_B1 (a0 : List Int) (a1 : Int) (rec : Int → Option (Sum (Unit) (Int))) (y1 : Int) : Option (Sum (Unit) (Int)) := cond (decide (y1 < (List.length a0 : Int))) (obind (geti a0 y1) fun e5 => cond (e5 == a1) (some (.inr y1)) (rec (IntKind.i64.wrap (y1 + 1)))) (some (.inl ()))
def impl_indexOf (a0 : List Int) (a1 : Int) : Option (Int) := obind (loopF (impl_indexOf_B1 a0 a1) fz 0) fun o1 => (match o1 with
  | .inl _ => (some (-1))
  | .inr r => some r)
theorem impl_indexOf_s {a0 : List Int} {a1 : Int} {r : Int} (h : impl_indexOf a0 a1 = some r) : SoundAt Try.prog 104 [.dat a0.length (a0.flatMap ci64), .int .i64 a1] (.int .i64 r) := by
  unfold impl_indexOf at h
  refine sound_lit tbOk lit104 (Nat.le_of_ble_eq_true rfl) rfl ?_
  unfold c104
  refine ls_keep [(0, .dat a0.length (a0.flatMap ci64)), (1, .int .i64 a1)] ⟨kr, kr, trivial⟩ rfl ?_
  refine ls_rs tbOk ?_
  refine evs (ev_ac rfl nofun rfl (evn ?_))
  refine ls_keep [(0, .dat a0.length (a0.flatMap ci64)), (1, .int .i64 a1)] ⟨kr, kr, trivial⟩ rfl ?_
  refine ls_seq_k fun K1 hK1 => ?_
  refine ls_rs tbOk ?_
  refine evs (ev_mv (c := .dat a0.length (a0.flatMap ci64)) rfl rfl rfl (evs (ev_len (c1 := .dat a0.length (a0.flatMap ci64)) rfl rfl rfl (evs (ev_mc rfl rfl (evn ?_))))))
  refine ls_keep [(1, .int .i64 a1), (7, .dat a0.length (a0.flatMap ci64)), (8, .int .i64 (List.length a0 : Int)), (9, .int .i64 0)] ⟨kr, kr, kr, kr, trivial⟩ rfl ?_
  obtain ⟨o1, hl, hr1⟩ := ob_some h
  clear h
  have kXimpl_indexOf_B1 : ∀ (_ : Unit), (some (-1)) = some r → ∀ σ' : PS, okK σ' [] → K1 σ' := by
    intro _ h σ' hk
    refine hK1 _ (ls_keep [] hk rfl ?_)
    refine ls_rs tbOk ?_
    refine evs (ev_ac rfl nofun rfl (evn ?_))
    refine ls_keep [(4, .int .i64 (-1))] ⟨kr, trivial⟩ rfl ?_
    refine ls_ret ?_
    have hr := Option.some.inj h
    rw [← hr]
    exact ⟨.inl rfl, rfl⟩
  refine ls_rec (fun (y1 : Int) => [(1, .int .i64 a1), (7, .dat a0.length (a0.flatMap ci64)), (8, .int .i64 (List.length a0 : Int)), (9, .int .i64 y1)]) (impl_indexOf_B1 a0 a1) fz 0 o1 hl ⟨kr, kr, kr, kr, trivial⟩ (fun _ => rfl) ?_
  rintro m y1 N h hN
  unfold impl_indexOf_B1 at h
  refine ls_rs tbOk ?_
  refine evs (ev_bin (c1 := .int .i64 y1) (c2 := .int .i64 (List.length a0 : Int)) rfl rfl rfl (evn ?_))
  refine ls_keep [(1, .int .i64 a1), (7, .dat a0.length (a0.flatMap ci64)), (8, .int .i64 (List.length a0 : Int)), (9, .int .i64 y1), (10, .bool (decide (y1 < (List.length a0 : Int))))] ⟨kr, kr, kr, kr, kr, trivial⟩ rfl ?_
  refine ls_seq_k fun K2 hK2 => ?_
  rcases cond_some h with ⟨g3, h⟩ | ⟨g3, h⟩
  · refine ls_cT rfl g3 ?_
    refine ls_skip ?_
    refine hK2 _ (ls_keep [(1, .int .i64 a1), (7, .dat a0.length (a0.flatMap ci64)), (8, .int .i64 (List.length a0 : Int)), (9, .int .i64 y1)] ⟨kr, kr, kr, kr, trivial⟩ rfl ?_)
    refine ls_seq_k fun K4 hK4 => ?_
    refine ls_blk ?_
    refine ls_rs tbOk ?_
    refine evs (ev_mv (c := .int .i64 y1) rfl rfl rfl (?_))
    obtain ⟨e5, g6, h⟩ := ob_some h
    refine evs (ev_ia rfl rfl rfl ⟨(geti_some g6).1, (geti_some g6).2.1⟩ (evs (ev_ldE (off := 0) (v := .int .i64 e5) rfl rfl zci64 g6 rfl (Nat.le_of_ble_eq_true rfl) rfl (evs (ev_as (c := .int .i64 y1) rfl rfl rfl (evs (ev_as (c := .int .i64 e5) rfl rfl rfl (evn ?_))))))))
    refine ls_keep [(1, .int .i64 a1), (5, .int .i64 y1), (6, .int .i64 e5), (7, .dat a0.length (a0.flatMap ci64)), (8, .int .i64 (List.length a0 : Int)), (9, .int .i64 y1)] ⟨kr, kr, kr, kr, kr, kr, trivial⟩ rfl ?_
    refine ls_rs tbOk ?_
    refine evs (ev_mv (c := .int .i64 e5) rfl rfl rfl (evs (ev_mv (c := .int .i64 a1) rfl rfl rfl (evs (ev_bin (c1 := .int .i64 e5) (c2 := .int .i64 a1) rfl rfl rfl (evn ?_))))))
    refine ls_keep [(1, .int .i64 a1), (5, .int .i64 y1), (7, .dat a0.length (a0.flatMap ci64)), (8, .int .i64 (List.length a0 : Int)), (9, .int .i64 y1), (16, .bool (e5 == a1))] ⟨kr, kr, kr, kr, kr, kr, trivial⟩ rfl ?_
    rcases cond_some h with ⟨g7, h⟩ | ⟨g7, h⟩
    · refine ls_cT rfl g7 ?_
      refine ls_rs tbOk ?_
      refine evs (ev_mv (c := .int .i64 y1) rfl rfl rfl (evs (ev_as (c := .int .i64 y1) rfl rfl rfl (evn ?_))))
      refine ls_keep [(4, .int .i64 y1)] ⟨kr, trivial⟩ rfl ?_
      refine ls_ret ?_
      have q0 := (Option.some.inj h).symm
      have r0 := hr1
      rw [q0] at r0
      have hr := Option.some.inj r0
      rw [← hr]
      exact ⟨.inl rfl, rfl⟩
    · refine ls_cF rfl g7 ?_
      refine ls_skip ?_
      refine hK4 _ (ls_keep [(1, .int .i64 a1), (7, .dat a0.length (a0.flatMap ci64)), (8, .int .i64 (List.length a0 : Int)), (9, .int .i64 y1)] ⟨kr, kr, kr, kr, trivial⟩ rfl ?_)
      refine ls_rgn tbOk ?_
      refine evs (ev_bin (c1 := .int .i64 y1) (c2 := .int .i64 1) rfl rfl rfl (evs (ev_mv (c := .int .i64 (IntKind.i64.wrap (y1 + 1))) rfl rfl rfl (evn ?_))))
      exact hN _ (IntKind.i64.wrap (y1 + 1)) h ⟨kr, kr, kr, kr, trivial⟩
  · refine ls_cF rfl g3 ?_
    refine ls_exit ?_
    have q0 := (Option.some.inj h).symm
    have r0 := hr1
    rw [q0] at r0
    exact kXimpl_indexOf_B1 () r0 _ trivial
def impl_hasInt (a0 : List Int) (a1 : Int) : Option (Bool) := obind (impl_indexOf a0 a1) fun v1 => some (decide (0 ≤ v1))
theorem impl_hasInt_s {a0 : List Int} {a1 : Int} {r : Bool} (h : impl_hasInt a0 a1 = some r) : SoundAt Try.prog 172 [.dat a0.length (a0.flatMap ci64), .int .i64 a1] (.bool r) := by
  unfold impl_hasInt at h
  refine sound_lit tbOk lit172 (Nat.le_of_ble_eq_true rfl) rfl ?_
  unfold c172
  refine ls_keep [(0, .dat a0.length (a0.flatMap ci64)), (1, .int .i64 a1)] ⟨kr, kr, trivial⟩ rfl ?_
  refine ls_rs tbOk ?_
  refine evs (ev_ac rfl nofun rfl (evn ?_))
  refine ls_keep [(0, .dat a0.length (a0.flatMap ci64)), (1, .int .i64 a1)] ⟨kr, kr, trivial⟩ rfl ?_
  refine ls_rs tbOk ?_
  refine evs (ev_mv (c := .dat a0.length (a0.flatMap ci64)) rfl rfl rfl (evs (ev_mv (c := .int .i64 a1) rfl rfl rfl (?_))))
  obtain ⟨v1, g2, h⟩ := ob_some h
  refine evs (ev_call (era rfl (erD eci64 _) (era rfl rfl eran)) (impl_indexOf_s g2) (evs (ev_bin (c1 := .int .i64 v1) (c2 := .int .i64 0) rfl rfl rfl (evs (ev_as (c := .bool (decide (0 ≤ v1))) rfl rfl rfl (evn ?_))))))
  refine ls_keep [(4, .bool (decide (0 ≤ v1)))] ⟨kr, trivial⟩ rfl ?_
  refine ls_ret ?_
  have hr := Option.some.inj h
  rw [← hr]
  exact ⟨.inl rfl, rfl⟩
def impl_isSetOf_B1 (a0 : List Int) (a1 : Int) (rec : Int → Option (Sum (Unit) (Bool))) (y1 : Int) : Option (Sum (Unit) (Bool)) := cond (decide (y1 < (List.length a0 : Int))) (obind (geti a0 y1) fun e5 => obind (impl_within e5 0 (IntKind.i64.wrap (a1 - 1))) fun v7 => cond (!v7) (some (.inr false)) (chk ((0 : Int) ≤ 0 ∧ 0 ≤ y1 ∧ y1 ≤ (List.length a0 : Int)) (obind (impl_hasInt (subl a0 0 y1) e5) fun v11 => cond v11 (some (.inr false)) (rec (IntKind.i64.wrap (y1 + 1)))))) (some (.inl ()))
def impl_isSetOf (a0 : List Int) (a1 : Int) : Option (Bool) := obind (loopF (impl_isSetOf_B1 a0 a1) fz 0) fun o1 => (match o1 with
  | .inl _ => (some true)
  | .inr r => some r)
theorem impl_isSetOf_s {a0 : List Int} {a1 : Int} {r : Bool} (h : impl_isSetOf a0 a1 = some r) : SoundAt Try.prog 161 [.dat a0.length (a0.flatMap ci64), .int .i64 a1] (.bool r) := by
  unfold impl_isSetOf at h
  refine sound_lit tbOk lit161 (Nat.le_of_ble_eq_true rfl) rfl ?_
  unfold c161
  refine ls_keep [(0, .dat a0.length (a0.flatMap ci64)), (1, .int .i64 a1)] ⟨kr, kr, trivial⟩ rfl ?_
  refine ls_rs tbOk ?_
  refine evs (ev_ac rfl nofun rfl (evn ?_))
  refine ls_keep [(0, .dat a0.length (a0.flatMap ci64)), (1, .int .i64 a1)] ⟨kr, kr, trivial⟩ rfl ?_
  refine ls_seq_k fun K1 hK1 => ?_
  refine ls_rs tbOk ?_
  refine evs (ev_mv (c := .dat a0.length (a0.flatMap ci64)) rfl rfl rfl (evs (ev_len (c1 := .dat a0.length (a0.flatMap ci64)) rfl rfl rfl (evs (ev_mc rfl rfl (evn ?_))))))
  refine ls_keep [(0, .dat a0.length (a0.flatMap ci64)), (1, .int .i64 a1), (7, .dat a0.length (a0.flatMap ci64)), (8, .int .i64 (List.length a0 : Int)), (9, .int .i64 0)] ⟨kr, kr, kr, kr, kr, trivial⟩ rfl ?_
  obtain ⟨o1, hl, hr1⟩ := ob_some h
  clear h
  have kXimpl_isSetOf_B1 : ∀ (_ : Unit), (some true) = some r → ∀ σ' : PS, okK σ' [] → K1 σ' := by
    intro _ h σ' hk
    refine hK1 _ (ls_keep [] hk rfl ?_)
    refine ls_rs tbOk ?_
    refine evs (ev_ac rfl nofun rfl (evn ?_))
    refine ls_keep [(4, .bool true)] ⟨kr, trivial⟩ rfl ?_
    refine ls_ret ?_
    have hr := Option.some.inj h
    rw [← hr]
    exact ⟨.inl rfl, rfl⟩
  refine ls_rec (fun (y1 : Int) => [(0, .dat a0.length (a0.flatMap ci64)), (1, .int .i64 a1), (7, .dat a0.length (a0.flatMap ci64)), (8, .int .i64 (List.length a0 : Int)), (9, .int .i64 y1)]) (impl_isSetOf_B1 a0 a1) fz 0 o1 hl ⟨kr, kr, kr, kr, kr, trivial⟩ (fun _ => rfl) ?_
  rintro m y1 N h hN
  unfold impl_isSetOf_B1 at h
  refine ls_rs tbOk ?_
  refine evs (ev_bin (c1 := .int .i64 y1) (c2 := .int .i64 (List.length a0 : Int)) rfl rfl rfl (evn ?_))
  refine ls_keep [(0, .dat a0.length (a0.flatMap ci64)), (1, .int .i64 a1), (7, .dat a0.length (a0.flatMap ci64)), (8, .int .i64 (List.length a0 : Int)), (9, .int .i64 y1), (10, .bool (decide (y1 < (List.length a0 : Int))))] ⟨kr, kr, kr, kr, kr, kr, trivial⟩ rfl ?_
  refine ls_seq_k fun K2 hK2 => ?_
  rcases cond_some h with ⟨g3, h⟩ | ⟨g3, h⟩
  · refine ls_cT rfl g3 ?_
    refine ls_skip ?_
    refine hK2 _ (ls_keep [(0, .dat a0.length (a0.flatMap ci64)), (1, .int .i64 a1), (7, .dat a0.length (a0.flatMap ci64)), (8, .int .i64 (List.length a0 : Int)), (9, .int .i64 y1)] ⟨kr, kr, kr, kr, kr, trivial⟩ rfl ?_)
    refine ls_seq_k fun K4 hK4 => ?_
    refine ls_blk ?_
    refine ls_rs tbOk ?_
    refine evs (ev_mv (c := .int .i64 y1) rfl rfl rfl (?_))
    obtain ⟨e5, g6, h⟩ := ob_some h
    refine evs (ev_ia rfl rfl rfl ⟨(geti_some g6).1, (geti_some g6).2.1⟩ (evs (ev_ldE (off := 0) (v := .int .i64 e5) rfl rfl zci64 g6 rfl (Nat.le_of_ble_eq_true rfl) rfl (evs (ev_as (c := .int .i64 y1) rfl rfl rfl (evs (ev_as (c := .int .i64 e5) rfl rfl rfl (evn ?_))))))))
    refine ls_keep [(0, .dat a0.length (a0.flatMap ci64)), (1, .int .i64 a1), (5, .int .i64 y1), (6, .int .i64 e5), (7, .dat a0.length (a0.flatMap ci64)), (8, .int .i64 (List.length a0 : Int)), (9, .int .i64 y1)] ⟨kr, kr, kr, kr, kr, kr, kr, trivial⟩ rfl ?_
    refine ls_rs tbOk ?_
    refine evs (ev_mv (c := .int .i64 e5) rfl rfl rfl (evs (ev_mv (c := .int .i64 a1) rfl rfl rfl (evs (ev_bin (c1 := .int .i64 a1) (c2 := .int .i64 1) rfl rfl rfl (?_))))))
    obtain ⟨v7, g8, h⟩ := ob_some h
    refine evs (ev_call (era rfl rfl (era rfl rfl (era rfl rfl eran))) (impl_within_s g8) (evs (ev_un (c1 := .bool v7) rfl trivial (evs (ev_mv (c := .bool (!v7)) rfl rfl rfl (?_))))))
    rcases cond_some h with ⟨g9, h⟩ | ⟨g9, h⟩
    · refine evs (ev_gs rfl rfl (isb_T g9) (evs (ev_gs rfl rfl (isb_T g9) (evs (ev_gs rfl rfl (isb_T g9) (evs (ev_gs rfl rfl (isb_T g9) (evs (ev_gs rfl rfl (isb_T g9) (evs (ev_pkT (c1 := .bool true) rfl g9 rfl rfl (evn ?_))))))))))))
      refine ls_keep [(0, .dat a0.length (a0.flatMap ci64)), (1, .int .i64 a1), (7, .dat a0.length (a0.flatMap ci64)), (8, .int .i64 (List.length a0 : Int)), (9, .int .i64 y1), (25, .bool true)] ⟨kr, kr, kr, kr, kr, kr, trivial⟩ rfl ?_
      refine ls_cT rfl rfl ?_
      refine ls_rs tbOk ?_
      refine evs (ev_ac rfl nofun rfl (evn ?_))
      refine ls_keep [(4, .bool false)] ⟨kr, trivial⟩ rfl ?_
      refine ls_ret ?_
      have q0 := (Option.some.inj h).symm
      have r0 := hr1
      rw [q0] at r0
      have hr := Option.some.inj r0
      rw [← hr]
      exact ⟨.inl rfl, rfl⟩
    · refine evs (ev_gr rfl (congrArg V.bool g9) (ev_mv (c := .dat a0.length (a0.flatMap ci64)) rfl rfl rfl (evs (ev_gr rfl (congrArg V.bool g9) (ev_mv (c := .int .i64 y1) rfl rfl rfl (?_))))))
      obtain ⟨g10, h⟩ := chk_some h
      refine evs (ev_gr rfl (congrArg V.bool g9) (ev_sle (lst := a0) rfl rfl zci64 rfl rfl g10 (evs (ev_gr rfl (congrArg V.bool g9) (ev_mv (c := .int .i64 e5) rfl rfl rfl (?_))))))
      obtain ⟨v11, g12, h⟩ := ob_some h
      refine evs (ev_gr rfl (congrArg V.bool g9) (ev_call (era rfl (erD eci64 _) (era rfl rfl eran)) (impl_hasInt_s g12) (evs (ev_pkF (c1 := .bool v11) rfl g9 rfl rfl (evn ?_)))))
      refine ls_keep [(0, .dat a0.length (a0.flatMap ci64)), (1, .int .i64 a1), (7, .dat a0.length (a0.flatMap ci64)), (8, .int .i64 (List.length a0 : Int)), (9, .int .i64 y1), (25, .bool v11)] ⟨kr, kr, kr, kr, kr, kr, trivial⟩ rfl ?_
      rcases cond_some h with ⟨g13, h⟩ | ⟨g13, h⟩
      · refine ls_cT rfl g13 ?_
        refine ls_rs tbOk ?_
        refine evs (ev_ac rfl nofun rfl (evn ?_))
        refine ls_keep [(4, .bool false)] ⟨kr, trivial⟩ rfl ?_
        refine ls_ret ?_
        have q0 := (Option.some.inj h).symm
        have r0 := hr1
        rw [q0] at r0
        have hr := Option.some.inj r0
        rw [← hr]
        exact ⟨.inl rfl, rfl⟩
      · refine ls_cF rfl g13 ?_
        refine ls_skip ?_
        refine hK4 _ (ls_keep [(0, .dat a0.length (a0.flatMap ci64)), (1, .int .i64 a1), (7, .dat a0.length (a0.flatMap ci64)), (8, .int .i64 (List.length a0 : Int)), (9, .int .i64 y1)] ⟨kr, kr, kr, kr, kr, trivial⟩ rfl ?_)
        refine ls_rgn tbOk ?_
        refine evs (ev_bin (c1 := .int .i64 y1) (c2 := .int .i64 1) rfl rfl rfl (evs (ev_mv (c := .int .i64 (IntKind.i64.wrap (y1 + 1))) rfl rfl rfl (evn ?_))))
        exact hN _ (IntKind.i64.wrap (y1 + 1)) h ⟨kr, kr, kr, kr, kr, trivial⟩
  · refine ls_cF rfl g3 ?_
    refine ls_exit ?_
    have q0 := (Option.some.inj h).symm
    have r0 := hr1
    rw [q0] at r0
    exact kXimpl_isSetOf_B1 () r0 _ trivial
def impl_IsValidQuery_B2 (a0 : Int × (List ((List UInt8) × (List Int))) × (List Int)) (e17 : (List UInt8) × (List Int)) (rec : ((List Bool) × Int) → Option (Sum ((List Bool)) (Bool))) (s : (List Bool) × Int) : Option (Sum ((List Bool)) (Bool)) := match s with
  | (y7, y8) => cond (decide (y8 < (List.length e17.2 : Int))) (obind (geti e17.2 y8) fun e30 => obind (impl_within e30 0 (IntKind.i64.wrap (a0.1 - 1))) fun v33 => cond (!v33) (some (.inr false)) (obind (geti y7 e30) fun e36 => rec ((seti y7 e30 true), (IntKind.i64.wrap (y8 + 1))))) (some (.inl y7))
def impl_IsValidQuery_B1 (a0 : Int × (List ((List UInt8) × (List Int))) × (List Int)) (rec : ((List Bool) × Int) → Option (Sum ((List Bool)) (Bool))) (s : (List Bool) × Int) : Option (Sum ((List Bool)) (Bool)) := match s with
  | (y3, y4) => cond (decide (y4 < (List.length a0.2.1 : Int))) (obind (geti a0.2.1 y4) fun e17 => obind (impl_IsValidName e17.1) fun v20 => cond (!v20) (some (.inr false)) (obind (impl_within (List.length e17.2 : Int) 1 5) fun v23 => cond (!v23) (some (.inr false)) (obind (loopF (impl_IsValidQuery_B2 a0 e17) fz (y3, 0)) fun o2 => (match o2 with
  | .inl z26 => (rec (z26, (IntKind.i64.wrap (y4 + 1))))
  | .inr r => some (.inr r))))) (some (.inl y3))
def impl_IsValidQuery_B3 (z13 : List Bool) (rec : Int → Option (Sum (Unit) (Bool))) (y9 : Int) : Option (Sum (Unit) (Bool)) := cond (decide (y9 < (List.length z13 : Int))) (obind (geti z13 y9) fun e42 => cond (!e42) (some (.inr false)) (rec (IntKind.i64.wrap (y9 + 1)))) (some (.inl ()))
def impl_IsValidQuery (a0 : Int × (List ((List UInt8) × (List Int))) × (List Int)) : Option (Bool) := obind (impl_within a0.1 1 5) fun v2 => cond (!v2) (some false) (obind (impl_within (List.length a0.2.1 : Int) 1 4) fun v5 => cond (!v5) (some false) (obind (impl_isSetOf a0.2.2 a0.1) fun v8 => cond (!v8) (some false) (chk ((0 : Int) ≤ a0.1 ∧ Int.toNat a0.1 ≤ lim) (obind (loopF (impl_IsValidQuery_B1 a0) fz ((List.replicate (Int.toNat a0.1) (false : Bool)), 0)) fun o1 => (match o1 with
  | .inl z13 => (obind (loopF (impl_IsValidQuery_B3 z13) fz 0) fun o3 => (match o3 with
  | .inl _ => (some true)
  | .inr r => some r))
  | .inr r => some r)))))
theorem impl_IsValidQuery_s {a0 : Int × (List ((List UInt8) × (List Int))) × (List Int)} {r : Bool} (h : impl_IsValidQuery a0 = some r) : SoundAt Try.prog 125 [.agg [.int .i64 a0.1, .dat a0.2.1.length (a0.2.1.flatMap c150_d), .dat a0.2.2.length (a0.2.2.flatMap ci64)]] (.bool r) := by
  unfold impl_IsValidQuery at h
  refine sound_lit tbOk lit125 (Nat.le_of_ble_eq_true rfl) rfl ?_
  unfold c125
  refine ls_keep [(0, .agg [.int .i64 a0.1, .dat a0.2.1.length (a0.2.1.flatMap c150_d), .dat a0.2.2.length (a0.2.2.flatMap ci64)])] ⟨kr, trivial⟩ rfl ?_
  refine ls_rs tbOk ?_
  refine evs (ev_bx (c1 := .agg [.int .i64 a0.1, .dat a0.2.1.length (a0.2.1.flatMap c150_d), .dat a0.2.2.length (a0.2.2.flatMap ci64)]) rfl rfl rfl (evs (ev_ac rfl nofun rfl (evn ?_))))
  refine ls_keep [(1, .box [.int .i64 a0.1, .dat a0.2.1.length (a0.2.1.flatMap c150_d), .dat a0.2.2.length (a0.2.2.flatMap ci64)])] ⟨kr, trivial⟩ rfl ?_
  refine ls_rs tbOk ?_
  refine evs (ev_fa (c1 := .cref 1 0) (v := .cref 1 0) rfl rfl rfl ⟨_, rfl⟩ rfl (evs (ev_ldB (off := 0) (v := .int .i64 a0.1) rfl rfl rfl rfl (Nat.le_of_ble_eq_true rfl) rfl (evs (ev_as (c := .int .i64 a0.1) rfl rfl rfl (evn ?_))))))
  refine ls_keep [(1, .box [.int .i64 a0.1, .dat a0.2.1.length (a0.2.1.flatMap c150_d), .dat a0.2.2.length (a0.2.2.flatMap ci64)]), (3, .int .i64 a0.1)] ⟨kr, kr, trivial⟩ rfl ?_
  refine ls_seq_k fun K1 hK1 => ?_
  refine ls_rs tbOk ?_
  refine evs (ev_mv (c := .int .i64 a0.1) rfl rfl rfl (?_))
  obtain ⟨v2, g3, h⟩ := ob_some h
  refine evs (ev_call (era rfl rfl (era rfl rfl (era rfl rfl eran))) (impl_within_s g3) (evs (ev_un (c1 := .bool v2) rfl trivial (evs (ev_mv (c := .bool (!v2)) rfl rfl rfl (?_))))))
  rcases cond_some h with ⟨g4, h⟩ | ⟨g4, h⟩
  · refine evs (ev_gs rfl rfl (isb_T g4) (evs (ev_gs rfl rfl (isb_T g4) (evs (ev_gs rfl rfl (isb_T g4) (evs (ev_gs rfl rfl (isb_T g4) (evs (ev_gs rfl rfl (isb_T g4) (evs (ev_pkT (c1 := .bool true) rfl g4 rfl rfl (evs (ev_mv (c := .bool true) rfl rfl rfl (evs (ev_gs rfl rfl rfl (evs (ev_gs rfl rfl rfl (evs (ev_gs rfl rfl rfl (evs (ev_gs rfl rfl rfl (evs (ev_gs rfl rfl rfl (evs (ev_pkT (c1 := .bool true) rfl rfl rfl rfl (evn ?_))))))))))))))))))))))))))
    refine ls_keep [(1, .box [.int .i64 a0.1, .dat a0.2.1.length (a0.2.1.flatMap c150_d), .dat a0.2.2.length (a0.2.2.flatMap ci64)]), (3, .int .i64 a0.1), (29, .bool true)] ⟨kr, kr, kr, trivial⟩ rfl ?_
    refine ls_cT rfl rfl ?_
    refine ls_rs tbOk ?_
    refine evs (ev_ac rfl nofun rfl (evn ?_))
    refine ls_keep [(2, .bool false)] ⟨kr, trivial⟩ rfl ?_
    refine ls_ret ?_
    have hr := Option.some.inj h
    rw [← hr]
    exact ⟨.inl rfl, rfl⟩
  · refine evs (ev_gr rfl (congrArg V.bool g4) (ev_fa (c1 := .cref 1 0) (v := .cref 1 1) rfl rfl rfl ⟨_, rfl⟩ rfl (evs (ev_gr rfl (congrArg V.bool g4) (ev_ldB (off := 1) (v := .dat a0.2.1.length (a0.2.1.flatMap c150_d)) rfl rfl rfl rfl (Nat.le_of_ble_eq_true rfl) rfl (evs (ev_gr rfl (congrArg V.bool g4) (ev_len (c1 := .dat a0.2.1.length (a0.2.1.flatMap c150_d)) rfl rfl rfl (?_)))))))))
    obtain ⟨v5, g6, h⟩ := ob_some h
    refine evs (ev_gr rfl (congrArg V.bool g4) (ev_call (era rfl rfl (era rfl rfl (era rfl rfl eran))) (impl_within_s g6) (evs (ev_gr rfl (congrArg V.bool g4) (ev_un (c1 := .bool v5) rfl trivial (evs (ev_pkF (c1 := .bool (!v5)) rfl g4 rfl rfl (evs (ev_mv (c := .bool (!v5)) rfl rfl rfl (?_))))))))))
    rcases cond_some h with ⟨g7, h⟩ | ⟨g7, h⟩
    · refine evs (ev_gs rfl rfl (isb_T g7) (evs (ev_gs rfl rfl (isb_T g7) (evs (ev_gs rfl rfl (isb_T g7) (evs (ev_gs rfl rfl (isb_T g7) (evs (ev_gs rfl rfl (isb_T g7) (evs (ev_pkT (c1 := .bool true) rfl g7 rfl rfl (evn ?_))))))))))))
      refine ls_keep [(1, .box [.int .i64 a0.1, .dat a0.2.1.length (a0.2.1.flatMap c150_d), .dat a0.2.2.length (a0.2.2.flatMap ci64)]), (3, .int .i64 a0.1), (29, .bool true)] ⟨kr, kr, kr, trivial⟩ rfl ?_
      refine ls_cT rfl rfl ?_
      refine ls_rs tbOk ?_
      refine evs (ev_ac rfl nofun rfl (evn ?_))
      refine ls_keep [(2, .bool false)] ⟨kr, trivial⟩ rfl ?_
      refine ls_ret ?_
      have hr := Option.some.inj h
      rw [← hr]
      exact ⟨.inl rfl, rfl⟩
    · refine evs (ev_gr rfl (congrArg V.bool g7) (ev_fa (c1 := .cref 1 0) (v := .cref 1 2) rfl rfl rfl ⟨_, rfl⟩ rfl (evs (ev_gr rfl (congrArg V.bool g7) (ev_ldB (off := 2) (v := .dat a0.2.2.length (a0.2.2.flatMap ci64)) rfl rfl rfl rfl (Nat.le_of_ble_eq_true rfl) rfl (evs (ev_gr rfl (congrArg V.bool g7) (ev_mv (c := .int .i64 a0.1) rfl rfl rfl (?_)))))))))
      obtain ⟨v8, g9, h⟩ := ob_some h
      refine evs (ev_gr rfl (congrArg V.bool g7) (ev_call (era rfl (erD eci64 _) (era rfl rfl eran)) (impl_isSetOf_s g9) (evs (ev_gr rfl (congrArg V.bool g7) (ev_un (c1 := .bool v8) rfl trivial (evs (ev_pkF (c1 := .bool (!v8)) rfl g7 rfl rfl (evn ?_))))))))
      refine ls_keep [(1, .box [.int .i64 a0.1, .dat a0.2.1.length (a0.2.1.flatMap c150_d), .dat a0.2.2.length (a0.2.2.flatMap ci64)]), (3, .int .i64 a0.1), (29, .bool (!v8))] ⟨kr, kr, kr, trivial⟩ rfl ?_
      rcases cond_some h with ⟨g10, h⟩ | ⟨g10, h⟩
      · refine ls_cT rfl g10 ?_
        refine ls_rs tbOk ?_
        refine evs (ev_ac rfl nofun rfl (evn ?_))
        refine ls_keep [(2, .bool false)] ⟨kr, trivial⟩ rfl ?_
        refine ls_ret ?_
        have hr := Option.some.inj h
        rw [← hr]
        exact ⟨.inl rfl, rfl⟩
      · refine ls_cF rfl g10 ?_
        refine ls_skip ?_
        refine hK1 _ (ls_keep [(1, .box [.int .i64 a0.1, .dat a0.2.1.length (a0.2.1.flatMap c150_d), .dat a0.2.2.length (a0.2.2.flatMap ci64)]), (3, .int .i64 a0.1)] ⟨kr, kr, trivial⟩ rfl ?_)
        refine ls_rs tbOk ?_
        refine evs (ev_mv (c := .int .i64 a0.1) rfl rfl rfl (?_))
        obtain ⟨g11, h⟩ := chk_some h
        refine evs (ev_mku (f := cbl) (z := (false : Bool)) rfl rfl rfl rfl rfl rfl g11 rfl (evs (ev_asu rfl rfl rfl (evn ?_))))
        refine ls_keep [(1, .box [.int .i64 a0.1, .dat a0.2.1.length (a0.2.1.flatMap c150_d), .dat a0.2.2.length (a0.2.2.flatMap ci64)]), (3, .int .i64 a0.1), (4, .uni 4 (List.replicate (Int.toNat a0.1) (false : Bool)).length ((List.replicate (Int.toNat a0.1) (false : Bool)).flatMap cbl))] ⟨kr, kr, kr, trivial⟩ rfl ?_
        refine ls_seq_k fun K12 hK12 => ?_
        refine ls_rs tbOk ?_
        refine evs (ev_fa (c1 := .cref 1 0) (v := .cref 1 1) rfl rfl rfl ⟨_, rfl⟩ rfl (evs (ev_ldB (off := 1) (v := .dat a0.2.1.length (a0.2.1.flatMap c150_d)) rfl rfl rfl rfl (Nat.le_of_ble_eq_true rfl) rfl (evs (ev_len (c1 := .dat a0.2.1.length (a0.2.1.flatMap c150_d)) rfl rfl rfl (evs (ev_mc rfl rfl (evn ?_))))))))
        refine ls_keep [(3, .int .i64 a0.1), (4, .uni 4 (List.replicate (Int.toNat a0.1) (false : Bool)).length ((List.replicate (Int.toNat a0.1) (false : Bool)).flatMap cbl)), (33, .dat a0.2.1.length (a0.2.1.flatMap c150_d)), (34, .int .i64 (List.length a0.2.1 : Int)), (35, .int .i64 0)] ⟨kr, kr, kr, kr, kr, trivial⟩ rfl ?_
        obtain ⟨o1, hl, hr1⟩ := ob_some h
        clear h
        have kXimpl_IsValidQuery_B1 : ∀ (z13 : List Bool), (obind (loopF (impl_IsValidQuery_B3 z13) fz 0) fun o3 => (match o3 with
  | .inl _ => (some true)
  | .inr r => some r)) = some r → ∀ σ' : PS, okK σ' [(4, .uni 4 z13.length (z13.flatMap cbl))] → K12 σ' := by
          intro z13 h σ' hk
          refine hK12 _ (ls_keep [(4, .uni 4 z13.length (z13.flatMap cbl))] hk rfl ?_)
          refine ls_seq_k fun K38 hK38 => ?_
          refine ls_rs tbOk ?_
          refine evs (ev_mvu rfl rfl (evs (ev_lenu rfl rfl rfl (evs (ev_mc rfl rfl (evn ?_))))))
          refine ls_keep [(4, .uni 4 z13.length (z13.flatMap cbl)), (67, .same 4), (68, .int .i64 (List.length z13 : Int)), (69, .int .i64 0)] ⟨kr, kr, kr, kr, trivial⟩ rfl ?_
          obtain ⟨o3, hl, hr3⟩ := ob_some h
          clear h
          have kXimpl_IsValidQuery_B3 : ∀ (_ : Unit), (some true) = some r → ∀ σ' : PS, okK σ' [] → K38 σ' := by
            intro _ h σ' hk
            refine hK38 _ (ls_keep [] hk rfl ?_)
            refine ls_rs tbOk ?_
            refine evs (ev_ac rfl nofun rfl (evn ?_))
            refine ls_keep [(2, .bool true)] ⟨kr, trivial⟩ rfl ?_
            refine ls_ret ?_
            have hr := Option.some.inj h
            rw [← hr]
            exact ⟨.inl rfl, rfl⟩
          refine ls_rec (fun (y9 : Int) => [(4, .uni 4 z13.length (z13.flatMap cbl)), (67, .same 4), (68, .int .i64 (List.length z13 : Int)), (69, .int .i64 y9)]) (impl_IsValidQuery_B3 z13) fz 0 o3 hl ⟨kr, kr, kr, kr, trivial⟩ (fun _ => rfl) ?_
          rintro m y9 N h hN
          unfold impl_IsValidQuery_B3 at h
          refine ls_rs tbOk ?_
          refine evs (ev_bin (c1 := .int .i64 y9) (c2 := .int .i64 (List.length z13 : Int)) rfl rfl rfl (evn ?_))
          refine ls_keep [(4, .uni 4 z13.length (z13.flatMap cbl)), (67, .same 4), (68, .int .i64 (List.length z13 : Int)), (69, .int .i64 y9), (70, .bool (decide (y9 < (List.length z13 : Int))))] ⟨kr, kr, kr, kr, kr, trivial⟩ rfl ?_
          refine ls_seq_k fun K39 hK39 => ?_
          rcases cond_some h with ⟨g40, h⟩ | ⟨g40, h⟩
          · refine ls_cT rfl g40 ?_
            refine ls_skip ?_
            refine hK39 _ (ls_keep [(4, .uni 4 z13.length (z13.flatMap cbl)), (67, .same 4), (68, .int .i64 (List.length z13 : Int)), (69, .int .i64 y9)] ⟨kr, kr, kr, kr, trivial⟩ rfl ?_)
            refine ls_seq_k fun K41 hK41 => ?_
            refine ls_blk ?_
            refine ls_rs tbOk ?_
            obtain ⟨e42, g43, h⟩ := ob_some h
            refine evs (ev_iau rfl rfl rfl rfl ⟨(geti_some g43).1, (geti_some g43).2.1⟩ (evs (ev_ldU (off := 0) (v := .bool e42) rfl rfl rfl zcbl g43 rfl (Nat.le_of_ble_eq_true rfl) rfl (evs (ev_as (c := .bool e42) rfl rfl rfl (evn ?_))))))
            refine ls_keep [(4, .uni 4 z13.length (z13.flatMap cbl)), (10, .bool e42), (67, .same 4), (68, .int .i64 (List.length z13 : Int)), (69, .int .i64 y9)] ⟨kr, kr, kr, kr, kr, trivial⟩ rfl ?_
            refine ls_rs tbOk ?_
            refine evs (ev_mv (c := .bool e42) rfl rfl rfl (evs (ev_un (c1 := .bool e42) rfl trivial (evn ?_))))
            refine ls_keep [(4, .uni 4 z13.length (z13.flatMap cbl)), (67, .same 4), (68, .int .i64 (List.length z13 : Int)), (69, .int .i64 y9), (74, .bool (!e42))] ⟨kr, kr, kr, kr, kr, trivial⟩ rfl ?_
            rcases cond_some h with ⟨g44, h⟩ | ⟨g44, h⟩
            · refine ls_cT rfl g44 ?_
              refine ls_rs tbOk ?_
              refine evs (ev_ac rfl nofun rfl (evn ?_))
              refine ls_keep [(2, .bool false)] ⟨kr, trivial⟩ rfl ?_
              refine ls_ret ?_
              have q0 := (Option.some.inj h).symm
              have r0 := hr3
              rw [q0] at r0
              have hr := Option.some.inj r0
              rw [← hr]
              exact ⟨.inl rfl, rfl⟩
            · refine ls_cF rfl g44 ?_
              refine ls_skip ?_
              refine hK41 _ (ls_keep [(4, .uni 4 z13.length (z13.flatMap cbl)), (67, .same 4), (68, .int .i64 (List.length z13 : Int)), (69, .int .i64 y9)] ⟨kr, kr, kr, kr, trivial⟩ rfl ?_)
              refine ls_rgn tbOk ?_
              refine evs (ev_bin (c1 := .int .i64 y9) (c2 := .int .i64 1) rfl rfl rfl (evs (ev_mv (c := .int .i64 (IntKind.i64.wrap (y9 + 1))) rfl rfl rfl (evn ?_))))
              exact hN _ (IntKind.i64.wrap (y9 + 1)) h ⟨kr, kr, kr, kr, trivial⟩
          · refine ls_cF rfl g40 ?_
            refine ls_exit ?_
            have q0 := (Option.some.inj h).symm
            have r0 := hr3
            rw [q0] at r0
            exact kXimpl_IsValidQuery_B3 () r0 _ trivial
        refine ls_rec (fun (s : (List Bool) × Int) => match s with | (y3, y4) => [(3, .int .i64 a0.1), (4, .uni 4 y3.length (y3.flatMap cbl)), (33, .dat a0.2.1.length (a0.2.1.flatMap c150_d)), (34, .int .i64 (List.length a0.2.1 : Int)), (35, .int .i64 y4)]) (impl_IsValidQuery_B1 a0) fz ((List.replicate (Int.toNat a0.1) (false : Bool)), 0) o1 hl ⟨kr, kr, kr, kr, kr, trivial⟩ (fun _ => rfl) ?_
        rintro m ⟨y3, y4⟩ N h hN
        unfold impl_IsValidQuery_B1 at h
        dsimp only at h
        refine ls_rs tbOk ?_
        refine evs (ev_bin (c1 := .int .i64 y4) (c2 := .int .i64 (List.length a0.2.1 : Int)) rfl rfl rfl (evn ?_))
        refine ls_keep [(3, .int .i64 a0.1), (4, .uni 4 y3.length (y3.flatMap cbl)), (33, .dat a0.2.1.length (a0.2.1.flatMap c150_d)), (34, .int .i64 (List.length a0.2.1 : Int)), (35, .int .i64 y4), (36, .bool (decide (y4 < (List.length a0.2.1 : Int))))] ⟨kr, kr, kr, kr, kr, kr, trivial⟩ rfl ?_
        refine ls_seq_k fun K14 hK14 => ?_
        rcases cond_some h with ⟨g15, h⟩ | ⟨g15, h⟩
        · refine ls_cT rfl g15 ?_
          refine ls_skip ?_
          refine hK14 _ (ls_keep [(3, .int .i64 a0.1), (4, .uni 4 y3.length (y3.flatMap cbl)), (33, .dat a0.2.1.length (a0.2.1.flatMap c150_d)), (34, .int .i64 (List.length a0.2.1 : Int)), (35, .int .i64 y4)] ⟨kr, kr, kr, kr, kr, trivial⟩ rfl ?_)
          refine ls_seq_k fun K16 hK16 => ?_
          refine ls_blk ?_
          refine ls_rs tbOk ?_
          obtain ⟨e17, g18, h⟩ := ob_some h
          refine evs (ev_ia rfl rfl rfl ⟨(geti_some g18).1, (geti_some g18).2.1⟩ (evs (ev_ldEt (off := 0) (v := .agg [.str e17.1, .dat e17.2.length (e17.2.flatMap ci64)]) rfl rfl zc150_d g18 rfl (Nat.le_of_ble_eq_true rfl) rfl (evs (ev_al rfl rfl (evs (ev_st (off := 0) (c1 := .agg [.str e17.1, .dat e17.2.length (e17.2.flatMap ci64)]) (cs' := [.str e17.1, .dat e17.2.length (e17.2.flatMap ci64)]) rfl rfl rfl rfl rfl rfl (Nat.le_of_ble_eq_true rfl) rfl (evn ?_))))))))
          refine ls_keep [(3, .int .i64 a0.1), (4, .uni 4 y3.length (y3.flatMap cbl)), (6, .box [.str e17.1, .dat e17.2.length (e17.2.flatMap ci64)]), (33, .dat a0.2.1.length (a0.2.1.flatMap c150_d)), (34, .int .i64 (List.length a0.2.1 : Int)), (35, .int .i64 y4)] ⟨kr, kr, kr, kr, kr, kr, trivial⟩ rfl ?_
          refine ls_seq_k fun K19 hK19 => ?_
          refine ls_rs tbOk ?_
          refine evs (ev_fa (c1 := .cref 6 0) (v := .cref 6 0) rfl rfl rfl ⟨_, rfl⟩ rfl (evs (ev_ldB (off := 0) (v := .str e17.1) rfl rfl rfl rfl (Nat.le_of_ble_eq_true rfl) rfl (?_))))
          obtain ⟨v20, g21, h⟩ := ob_some h
          refine evs (ev_call (era rfl rfl eran) (impl_IsValidName_s g21) (evs (ev_un (c1 := .bool v20) rfl trivial (evs (ev_mv (c := .bool (!v20)) rfl rfl rfl (?_))))))
          rcases cond_some h with ⟨g22, h⟩ | ⟨g22, h⟩
          · refine evs (ev_gs rfl rfl (isb_T g22) (evs (ev_gs rfl rfl (isb_T g22) (evs (ev_gs rfl rfl (isb_T g22) (evs (ev_gs rfl rfl (isb_T g22) (evs (ev_gs rfl rfl (isb_T g22) (evs (ev_pkT (c1 := .bool true) rfl g22 rfl rfl (evn ?_))))))))))))
            refine ls_keep [(3, .int .i64 a0.1), (4, .uni 4 y3.length (y3.flatMap cbl)), (6, .box [.str e17.1, .dat e17.2.length (e17.2.flatMap ci64)]), (33, .dat a0.2.1.length (a0.2.1.flatMap c150_d)), (34, .int .i64 (List.length a0.2.1 : Int)), (35, .int .i64 y4), (49, .bool true)] ⟨kr, kr, kr, kr, kr, kr, kr, trivial⟩ rfl ?_
            refine ls_cT rfl rfl ?_
            refine ls_rs tbOk ?_
            refine evs (ev_ac rfl nofun rfl (evn ?_))
            refine ls_keep [(2, .bool false)] ⟨kr, trivial⟩ rfl ?_
            refine ls_ret ?_
            have q0 := (Option.some.inj h).symm
            have r0 := hr1
            rw [q0] at r0
            have hr := Option.some.inj r0
            rw [← hr]
            exact ⟨.inl rfl, rfl⟩
          · refine evs (ev_gr rfl (congrArg V.bool g22) (ev_fa (c1 := .cref 6 0) (v := .cref 6 1) rfl rfl rfl ⟨_, rfl⟩ rfl (evs (ev_gr rfl (congrArg V.bool g22) (ev_ldB (off := 1) (v := .dat e17.2.length (e17.2.flatMap ci64)) rfl rfl rfl rfl (Nat.le_of_ble_eq_true rfl) rfl (evs (ev_gr rfl (congrArg V.bool g22) (ev_len (c1 := .dat e17.2.length (e17.2.flatMap ci64)) rfl rfl rfl (?_)))))))))
            obtain ⟨v23, g24, h⟩ := ob_some h
            refine evs (ev_gr rfl (congrArg V.bool g22) (ev_call (era rfl rfl (era rfl rfl (era rfl rfl eran))) (impl_within_s g24) (evs (ev_gr rfl (congrArg V.bool g22) (ev_un (c1 := .bool v23) rfl trivial (evs (ev_pkF (c1 := .bool (!v23)) rfl g22 rfl rfl (evn ?_))))))))
            refine ls_keep [(3, .int .i64 a0.1), (4, .uni 4 y3.length (y3.flatMap cbl)), (6, .box [.str e17.1, .dat e17.2.length (e17.2.flatMap ci64)]), (33, .dat a0.2.1.length (a0.2.1.flatMap c150_d)), (34, .int .i64 (List.length a0.2.1 : Int)), (35, .int .i64 y4), (49, .bool (!v23))] ⟨kr, kr, kr, kr, kr, kr, kr, trivial⟩ rfl ?_
            rcases cond_some h with ⟨g25, h⟩ | ⟨g25, h⟩
            · refine ls_cT rfl g25 ?_
              refine ls_rs tbOk ?_
              refine evs (ev_ac rfl nofun rfl (evn ?_))
              refine ls_keep [(2, .bool false)] ⟨kr, trivial⟩ rfl ?_
              refine ls_ret ?_
              have q0 := (Option.some.inj h).symm
              have r0 := hr1
              rw [q0] at r0
              have hr := Option.some.inj r0
              rw [← hr]
              exact ⟨.inl rfl, rfl⟩
            · refine ls_cF rfl g25 ?_
              refine ls_skip ?_
              refine hK19 _ (ls_keep [(3, .int .i64 a0.1), (4, .uni 4 y3.length (y3.flatMap cbl)), (6, .box [.str e17.1, .dat e17.2.length (e17.2.flatMap ci64)]), (33, .dat a0.2.1.length (a0.2.1.flatMap c150_d)), (34, .int .i64 (List.length a0.2.1 : Int)), (35, .int .i64 y4)] ⟨kr, kr, kr, kr, kr, kr, trivial⟩ rfl ?_)
              refine ls_rs tbOk ?_
              refine evs (ev_fa (c1 := .cref 6 0) (v := .cref 6 1) rfl rfl rfl ⟨_, rfl⟩ rfl (evs (ev_ldB (off := 1) (v := .dat e17.2.length (e17.2.flatMap ci64)) rfl rfl rfl rfl (Nat.le_of_ble_eq_true rfl) rfl (evs (ev_len (c1 := .dat e17.2.length (e17.2.flatMap ci64)) rfl rfl rfl (evs (ev_mc rfl rfl (evn ?_))))))))
              refine ls_keep [(3, .int .i64 a0.1), (4, .uni 4 y3.length (y3.flatMap cbl)), (33, .dat a0.2.1.length (a0.2.1.flatMap c150_d)), (34, .int .i64 (List.length a0.2.1 : Int)), (35, .int .i64 y4), (51, .dat e17.2.length (e17.2.flatMap ci64)), (52, .int .i64 (List.length e17.2 : Int)), (53, .int .i64 0)] ⟨kr, kr, kr, kr, kr, kr, kr, kr, trivial⟩ rfl ?_
              obtain ⟨o2, hl, hr2⟩ := ob_some h
              clear h
              have kXimpl_IsValidQuery_B2 : ∀ (z26 : List Bool), ((loopF (impl_IsValidQuery_B1 a0) m) (z26, (IntKind.i64.wrap (y4 + 1)))) = some o1 → ∀ σ' : PS, okK σ' [(3, .int .i64 a0.1), (4, .uni 4 z26.length (z26.flatMap cbl)), (33, .dat a0.2.1.length (a0.2.1.flatMap c150_d)), (34, .int .i64 (List.length a0.2.1 : Int)), (35, .int .i64 y4)] → K16 σ' := by
                intro z26 h σ' hk
                refine hK16 _ (ls_keep [(3, .int .i64 a0.1), (4, .uni 4 z26.length (z26.flatMap cbl)), (33, .dat a0.2.1.length (a0.2.1.flatMap c150_d)), (34, .int .i64 (List.length a0.2.1 : Int)), (35, .int .i64 y4)] hk rfl ?_)
                refine ls_rgn tbOk ?_
                refine evs (ev_bin (c1 := .int .i64 y4) (c2 := .int .i64 1) rfl rfl rfl (evs (ev_mv (c := .int .i64 (IntKind.i64.wrap (y4 + 1))) rfl rfl rfl (evn ?_))))
                exact hN _ (z26, (IntKind.i64.wrap (y4 + 1))) h ⟨kr, kr, kr, kr, kr, trivial⟩
              refine ls_rec (fun (s : (List Bool) × Int) => match s with | (y7, y8) => [(3, .int .i64 a0.1), (4, .uni 4 y7.length (y7.flatMap cbl)), (33, .dat a0.2.1.length (a0.2.1.flatMap c150_d)), (34, .int .i64 (List.length a0.2.1 : Int)), (35, .int .i64 y4), (51, .dat e17.2.length (e17.2.flatMap ci64)), (52, .int .i64 (List.length e17.2 : Int)), (53, .int .i64 y8)]) (impl_IsValidQuery_B2 a0 e17) fz (y3, 0) o2 hl ⟨kr, kr, kr, kr, kr, kr, kr, kr, trivial⟩ (fun _ => rfl) ?_
              rintro m ⟨y7, y8⟩ N h hN
              unfold impl_IsValidQuery_B2 at h
              dsimp only at h
              refine ls_rs tbOk ?_
              refine evs (ev_bin (c1 := .int .i64 y8) (c2 := .int .i64 (List.length e17.2 : Int)) rfl rfl rfl (evn ?_))
              refine ls_keep [(3, .int .i64 a0.1), (4, .uni 4 y7.length (y7.flatMap cbl)), (33, .dat a0.2.1.length (a0.2.1.flatMap c150_d)), (34, .int .i64 (List.length a0.2.1 : Int)), (35, .int .i64 y4), (51, .dat e17.2.length (e17.2.flatMap ci64)), (52, .int .i64 (List.length e17.2 : Int)), (53, .int .i64 y8), (54, .bool (decide (y8 < (List.length e17.2 : Int))))] ⟨kr, kr, kr, kr, kr, kr, kr, kr, kr, trivial⟩ rfl ?_
              refine ls_seq_k fun K27 hK27 => ?_
              rcases cond_some h with ⟨g28, h⟩ | ⟨g28, h⟩
              · refine ls_cT rfl g28 ?_
                refine ls_skip ?_
                refine hK27 _ (ls_keep [(3, .int .i64 a0.1), (4, .uni 4 y7.length (y7.flatMap cbl)), (33, .dat a0.2.1.length (a0.2.1.flatMap c150_d)), (34, .int .i64 (List.length a0.2.1 : Int)), (35, .int .i64 y4), (51, .dat e17.2.length (e17.2.flatMap ci64)), (52, .int .i64 (List.length e17.2 : Int)), (53, .int .i64 y8)] ⟨kr, kr, kr, kr, kr, kr, kr, kr, trivial⟩ rfl ?_)
                refine ls_seq_k fun K29 hK29 => ?_
                refine ls_blk ?_
                refine ls_rs tbOk ?_
                obtain ⟨e30, g31, h⟩ := ob_some h
                refine evs (ev_ia rfl rfl rfl ⟨(geti_some g31).1, (geti_some g31).2.1⟩ (evs (ev_ldE (off := 0) (v := .int .i64 e30) rfl rfl zci64 g31 rfl (Nat.le_of_ble_eq_true rfl) rfl (evs (ev_as (c := .int .i64 e30) rfl rfl rfl (evn ?_))))))
                refine ls_keep [(3, .int .i64 a0.1), (4, .uni 4 y7.length (y7.flatMap cbl)), (8, .int .i64 e30), (33, .dat a0.2.1.length (a0.2.1.flatMap c150_d)), (34, .int .i64 (List.length a0.2.1 : Int)), (35, .int .i64 y4), (51, .dat e17.2.length (e17.2.flatMap ci64)), (52, .int .i64 (List.length e17.2 : Int)), (53, .int .i64 y8)] ⟨kr, kr, kr, kr, kr, kr, kr, kr, kr, trivial⟩ rfl ?_
                refine ls_seq_k fun K32 hK32 => ?_
                refine ls_rs tbOk ?_
                refine evs (ev_mv (c := .int .i64 e30) rfl rfl rfl (evs (ev_mv (c := .int .i64 a0.1) rfl rfl rfl (evs (ev_bin (c1 := .int .i64 a0.1) (c2 := .int .i64 1) rfl rfl rfl (?_))))))
                obtain ⟨v33, g34, h⟩ := ob_some h
                refine evs (ev_call (era rfl rfl (era rfl rfl (era rfl rfl eran))) (impl_within_s g34) (evs (ev_un (c1 := .bool v33) rfl trivial (evn ?_))))
                refine ls_keep [(3, .int .i64 a0.1), (4, .uni 4 y7.length (y7.flatMap cbl)), (8, .int .i64 e30), (33, .dat a0.2.1.length (a0.2.1.flatMap c150_d)), (34, .int .i64 (List.length a0.2.1 : Int)), (35, .int .i64 y4), (51, .dat e17.2.length (e17.2.flatMap ci64)), (52, .int .i64 (List.length e17.2 : Int)), (53, .int .i64 y8), (61, .bool (!v33))] ⟨kr, kr, kr, kr, kr, kr, kr, kr, kr, kr, trivial⟩ rfl ?_
                rcases cond_some h with ⟨g35, h⟩ | ⟨g35, h⟩
                · refine ls_cT rfl g35 ?_
                  refine ls_rs tbOk ?_
                  refine evs (ev_ac rfl nofun rfl (evn ?_))
                  refine ls_keep [(2, .bool false)] ⟨kr, trivial⟩ rfl ?_
                  refine ls_ret ?_
                  have q0 := (Option.some.inj h).symm
                  have r0 := hr2
                  rw [q0] at r0
                  have q1 := (Option.some.inj r0).symm
                  have r1 := hr1
                  rw [q1] at r1
                  have hr := Option.some.inj r1
                  rw [← hr]
                  exact ⟨.inl rfl, rfl⟩
                · refine ls_cF rfl g35 ?_
                  refine ls_skip ?_
                  refine hK32 _ (ls_keep [(3, .int .i64 a0.1), (4, .uni 4 y7.length (y7.flatMap cbl)), (8, .int .i64 e30), (33, .dat a0.2.1.length (a0.2.1.flatMap c150_d)), (34, .int .i64 (List.length a0.2.1 : Int)), (35, .int .i64 y4), (51, .dat e17.2.length (e17.2.flatMap ci64)), (52, .int .i64 (List.length e17.2 : Int)), (53, .int .i64 y8)] ⟨kr, kr, kr, kr, kr, kr, kr, kr, kr, trivial⟩ rfl ?_)
                  refine ls_rgn tbOk ?_
                  refine evs (ev_mvu rfl rfl (evs (ev_mv (c := .int .i64 e30) rfl rfl rfl (?_))))
                  obtain ⟨e36, g37, h⟩ := ob_some h
                  refine evs (ev_iau rfl rfl rfl rfl ⟨(geti_some g37).1, (geti_some g37).2.1⟩ (evs (ev_stu (e := true) (c1 := .bool true) rfl rfl zcbl ⟨(geti_some g37).1, (geti_some g37).2.1⟩ rfl rfl rfl rfl rfl (evn ?_))))
                  refine hK29 _ (ls_keep [(3, .int .i64 a0.1), (4, .uni 4 (seti y7 e30 true).length ((seti y7 e30 true).flatMap cbl)), (33, .dat a0.2.1.length (a0.2.1.flatMap c150_d)), (34, .int .i64 (List.length a0.2.1 : Int)), (35, .int .i64 y4), (51, .dat e17.2.length (e17.2.flatMap ci64)), (52, .int .i64 (List.length e17.2 : Int)), (53, .int .i64 y8)] ⟨kr, kr, kr, kr, kr, kr, kr, kr, trivial⟩ rfl ?_)
                  refine ls_rgn tbOk ?_
                  refine evs (ev_bin (c1 := .int .i64 y8) (c2 := .int .i64 1) rfl rfl rfl (evs (ev_mv (c := .int .i64 (IntKind.i64.wrap (y8 + 1))) rfl rfl rfl (evn ?_))))
                  exact hN _ ((seti y7 e30 true), (IntKind.i64.wrap (y8 + 1))) h ⟨kr, kr, kr, kr, kr, kr, kr, kr, trivial⟩
              · refine ls_cF rfl g28 ?_
                refine ls_exit ?_
                have q0 := (Option.some.inj h).symm
                have r0 := hr2
                rw [q0] at r0
                exact kXimpl_IsValidQuery_B2 y7 r0 _ ⟨kr, kr, kr, kr, kr, trivial⟩
        · refine ls_cF rfl g15 ?_
          refine ls_exit ?_
          have q0 := (Option.some.inj h).symm
          have r0 := hr1
          rw [q0] at r0
          exact kXimpl_IsValidQuery_B1 y3 r0 _ ⟨kr, trivial⟩
def impl_powers_B2 (a2 : Int) (e14 : Int) (rec : (Int × Int) → Option (Int)) (s : Int × Int) : Option (Int) := match s with
  | (y7, y8) => cond (decide (y8 < e14)) (rec ((IntKind.i64.wrap (y7 * a2)), (IntKind.i64.wrap (y8 + 1)))) (some y7)
def impl_powers_B1 (a1 : List Int) (a2 : Int) (rec : ((List Int) × Int) → Option (Sum ((List Int)) ((List Int) × Bool))) (s : (List Int) × Int) : Option (Sum ((List Int)) ((List Int) × Bool)) := match s with
  | (y3, y4) => cond (decide (y4 < (List.length a1 : Int))) (obind (geti a1 y4) fun e14 => obind (impl_within e14 0 6) fun v17 => cond (!v17) (some (.inr (([] : List Int), false))) (obind (loopF (impl_powers_B2 a2 e14) fz (1, 0)) fun z21 => cond (decide (100 < z21)) (some (.inr (([] : List Int), false))) (chk (List.length y3 + List.length [z21] ≤ lim) (rec ((y3 ++ [z21]), (IntKind.i64.wrap (y4 + 1))))))) (some (.inl y3))
def impl_powers (a0 : Int × (List ((List UInt8) × (List Int))) × (List Int)) (a1 : List Int) (a2 : Int) : Option ((List Int) × Bool) := obind (impl_IsValidQuery a0) fun v2 => cond (!v2) (some (([] : List Int), false)) (cond ((List.length a1 : Int) != a0.1) (some (([] : List Int), false)) (obind (impl_within a2 1 10) fun v6 => cond (!v6) (some (([] : List Int), false)) (obind (loopF (impl_powers_B1 a1 a2) fz (([] : List Int), 0)) fun o1 => (match o1 with
  | .inl z10 => (some (z10, true))
  | .inr r => some r))))
theorem impl_powers_s {a0 : Int × (List ((List UInt8) × (List Int))) × (List Int)} {a1 : List Int} {a2 : Int} {r : (List Int) × Bool} (h : impl_powers a0 a1 a2 = some r) : SoundAt Try.prog 110 [.agg [.int .i64 a0.1, .dat a0.2.1.length (a0.2.1.flatMap c150_d), .dat a0.2.2.length (a0.2.2.flatMap ci64)], .dat a1.length (a1.flatMap ci64), .int .i64 a2] (.tup [.own 3 r.1.length (r.1.flatMap ci64), .bool r.2]) := by
  unfold impl_powers at h
  refine sound_lit tbOk lit110 (Nat.le_of_ble_eq_true rfl) rfl ?_
  unfold c110
  refine ls_keep [(0, .agg [.int .i64 a0.1, .dat a0.2.1.length (a0.2.1.flatMap c150_d), .dat a0.2.2.length (a0.2.2.flatMap ci64)]), (1, .dat a1.length (a1.flatMap ci64)), (2, .int .i64 a2)] ⟨kr, kr, kr, trivial⟩ rfl ?_
  refine ls_rs tbOk ?_
  refine evs (ev_bx (c1 := .agg [.int .i64 a0.1, .dat a0.2.1.length (a0.2.1.flatMap c150_d), .dat a0.2.2.length (a0.2.2.flatMap ci64)]) rfl rfl rfl (evs (ev_an rfl rfl (evs (ev_ac rfl nofun rfl (evn ?_))))))
  refine ls_keep [(1, .dat a1.length (a1.flatMap ci64)), (2, .int .i64 a2), (3, .box [.int .i64 a0.1, .dat a0.2.1.length (a0.2.1.flatMap c150_d), .dat a0.2.2.length (a0.2.2.flatMap ci64)])] ⟨kr, kr, kr, trivial⟩ rfl ?_
  refine ls_seq_k fun K1 hK1 => ?_
  refine ls_rs tbOk ?_
  refine evs (ev_ldB (off := 0) (v := .agg [.int .i64 a0.1, .dat a0.2.1.length (a0.2.1.flatMap c150_d), .dat a0.2.2.length (a0.2.2.flatMap ci64)]) rfl rfl rfl rfl (Nat.le_of_ble_eq_true rfl) rfl (?_))
  obtain ⟨v2, g3, h⟩ := ob_some h
  refine evs (ev_call (era rfl (erg (erc rfl (erc (erD ec150_d _) (erc (erD eci64 _) rfl)))) eran) (impl_IsValidQuery_s g3) (evs (ev_un (c1 := .bool v2) rfl trivial (evs (ev_mv (c := .bool (!v2)) rfl rfl rfl (?_))))))
  rcases cond_some h with ⟨g4, h⟩ | ⟨g4, h⟩
  · refine evs (ev_gs rfl rfl (isb_T g4) (evs (ev_gs rfl rfl (isb_T g4) (evs (ev_gs rfl rfl (isb_T g4) (evs (ev_gs rfl rfl (isb_T g4) (evs (ev_gs rfl rfl (isb_T g4) (evs (ev_pkT (c1 := .bool true) rfl g4 rfl rfl (evs (ev_mv (c := .bool true) rfl rfl rfl (evs (ev_gs rfl rfl rfl (evs (ev_gs rfl rfl rfl (evs (ev_gs rfl rfl rfl (evs (ev_pkT (c1 := .bool true) rfl rfl rfl rfl (evn ?_))))))))))))))))))))))
    refine ls_keep [(1, .dat a1.length (a1.flatMap ci64)), (2, .int .i64 a2), (27, .bool true)] ⟨kr, kr, kr, trivial⟩ rfl ?_
    refine ls_cT rfl rfl ?_
    refine ls_rs tbOk ?_
    refine evs (ev_an rfl rfl (evs (ev_ac rfl nofun rfl (evn ?_))))
    refine ls_keep [(6, .own 3 ([] : List Int).length (([] : List Int).flatMap ci64)), (7, .bool false)] ⟨kr, kr, trivial⟩ rfl ?_
    refine ls_ret ?_
    have hr := Option.some.inj h
    rw [← hr]
    exact ⟨.inl rfl, rfl⟩
  · refine evs (ev_gr rfl (congrArg V.bool g4) (ev_mv (c := .dat a1.length (a1.flatMap ci64)) rfl rfl rfl (evs (ev_gr rfl (congrArg V.bool g4) (ev_len (c1 := .dat a1.length (a1.flatMap ci64)) rfl rfl rfl (evs (ev_gr rfl (congrArg V.bool g4) (ev_fa (c1 := .cref 3 0) (v := .cref 3 0) rfl rfl rfl ⟨_, rfl⟩ rfl (evs (ev_gr rfl (congrArg V.bool g4) (ev_ldB (off := 0) (v := .int .i64 a0.1) rfl rfl rfl rfl (Nat.le_of_ble_eq_true rfl) rfl (evs (ev_gr rfl (congrArg V.bool g4) (ev_bin (c1 := .int .i64 (List.length a1 : Int)) (c2 := .int .i64 a0.1) rfl rfl rfl (evs (ev_pkF (c1 := .bool ((List.length a1 : Int) != a0.1)) rfl g4 rfl rfl (evs (ev_mv (c := .bool ((List.length a1 : Int) != a0.1)) rfl rfl rfl (?_)))))))))))))))))))
    rcases cond_some h with ⟨g5, h⟩ | ⟨g5, h⟩
    · refine evs (ev_gs rfl rfl (isb_T g5) (evs (ev_gs rfl rfl (isb_T g5) (evs (ev_gs rfl rfl (isb_T g5) (evs (ev_pkT (c1 := .bool true) rfl g5 rfl rfl (evn ?_))))))))
      refine ls_keep [(1, .dat a1.length (a1.flatMap ci64)), (2, .int .i64 a2), (27, .bool true)] ⟨kr, kr, kr, trivial⟩ rfl ?_
      refine ls_cT rfl rfl ?_
      refine ls_rs tbOk ?_
      refine evs (ev_an rfl rfl (evs (ev_ac rfl nofun rfl (evn ?_))))
      refine ls_keep [(6, .own 3 ([] : List Int).length (([] : List Int).flatMap ci64)), (7, .bool false)] ⟨kr, kr, trivial⟩ rfl ?_
      refine ls_ret ?_
      have hr := Option.some.inj h
      rw [← hr]
      exact ⟨.inl rfl, rfl⟩
    · refine evs (ev_gr rfl (congrArg V.bool g5) (ev_mv (c := .int .i64 a2) rfl rfl rfl (?_)))
      obtain ⟨v6, g7, h⟩ := ob_some h
      refine evs (ev_gr rfl (congrArg V.bool g5) (ev_call (era rfl rfl (era rfl rfl (era rfl rfl eran))) (impl_within_s g7) (evs (ev_gr rfl (congrArg V.bool g5) (ev_un (c1 := .bool v6) rfl trivial (evs (ev_pkF (c1 := .bool (!v6)) rfl g5 rfl rfl (evn ?_))))))))
      refine ls_keep [(1, .dat a1.length (a1.flatMap ci64)), (2, .int .i64 a2), (27, .bool (!v6))] ⟨kr, kr, kr, trivial⟩ rfl ?_
      rcases cond_some h with ⟨g8, h⟩ | ⟨g8, h⟩
      · refine ls_cT rfl g8 ?_
        refine ls_rs tbOk ?_
        refine evs (ev_an rfl rfl (evs (ev_ac rfl nofun rfl (evn ?_))))
        refine ls_keep [(6, .own 3 ([] : List Int).length (([] : List Int).flatMap ci64)), (7, .bool false)] ⟨kr, kr, trivial⟩ rfl ?_
        refine ls_ret ?_
        have hr := Option.some.inj h
        rw [← hr]
        exact ⟨.inl rfl, rfl⟩
      · refine ls_cF rfl g8 ?_
        refine ls_skip ?_
        refine hK1 _ (ls_keep [(1, .dat a1.length (a1.flatMap ci64)), (2, .int .i64 a2)] ⟨kr, kr, trivial⟩ rfl ?_)
        refine ls_rs tbOk ?_
        refine evs (ev_an rfl rfl (evn ?_))
        refine ls_keep [(1, .dat a1.length (a1.flatMap ci64)), (2, .int .i64 a2), (8, .own 3 ([] : List Int).length (([] : List Int).flatMap ci64))] ⟨kr, kr, kr, trivial⟩ rfl ?_
        refine ls_seq_k fun K9 hK9 => ?_
        refine ls_rs tbOk ?_
        refine evs (ev_mv (c := .dat a1.length (a1.flatMap ci64)) rfl rfl rfl (evs (ev_len (c1 := .dat a1.length (a1.flatMap ci64)) rfl rfl rfl (evs (ev_mc rfl rfl (evn ?_))))))
        refine ls_keep [(2, .int .i64 a2), (8, .own 3 ([] : List Int).length (([] : List Int).flatMap ci64)), (28, .dat a1.length (a1.flatMap ci64)), (29, .int .i64 (List.length a1 : Int)), (30, .int .i64 0)] ⟨kr, kr, kr, kr, kr, trivial⟩ rfl ?_
        obtain ⟨o1, hl, hr1⟩ := ob_some h
        clear h
        have kXimpl_powers_B1 : ∀ (z10 : List Int), (some (z10, true)) = some r → ∀ σ' : PS, okK σ' [(8, .own 3 z10.length (z10.flatMap ci64))] → K9 σ' := by
          intro z10 h σ' hk
          refine hK9 _ (ls_keep [(8, .own 3 z10.length (z10.flatMap ci64))] hk rfl ?_)
          refine ls_rs tbOk ?_
          refine evs (ev_mvt (c := .own 3 z10.length (z10.flatMap ci64)) rfl rfl rfl (evs (ev_as (c := .own 3 z10.length (z10.flatMap ci64)) rfl rfl rfl (evs (ev_ac rfl nofun rfl (evn ?_))))))
          refine ls_keep [(6, .own 3 z10.length (z10.flatMap ci64)), (7, .bool true)] ⟨kr, kr, trivial⟩ rfl ?_
          refine ls_ret ?_
          have hr := Option.some.inj h
          rw [← hr]
          exact ⟨.inl rfl, rfl⟩
        refine ls_rec (fun (s : (List Int) × Int) => match s with | (y3, y4) => [(2, .int .i64 a2), (8, .own 3 y3.length (y3.flatMap ci64)), (28, .dat a1.length (a1.flatMap ci64)), (29, .int .i64 (List.length a1 : Int)), (30, .int .i64 y4)]) (impl_powers_B1 a1 a2) fz (([] : List Int), 0) o1 hl ⟨kr, kr, kr, kr, kr, trivial⟩ (fun _ => rfl) ?_
        rintro m ⟨y3, y4⟩ N h hN
        unfold impl_powers_B1 at h
        dsimp only at h
        refine ls_rs tbOk ?_
        refine evs (ev_bin (c1 := .int .i64 y4) (c2 := .int .i64 (List.length a1 : Int)) rfl rfl rfl (evn ?_))
        refine ls_keep [(2, .int .i64 a2), (8, .own 3 y3.length (y3.flatMap ci64)), (28, .dat a1.length (a1.flatMap ci64)), (29, .int .i64 (List.length a1 : Int)), (30, .int .i64 y4), (31, .bool (decide (y4 < (List.length a1 : Int))))] ⟨kr, kr, kr, kr, kr, kr, trivial⟩ rfl ?_
        refine ls_seq_k fun K11 hK11 => ?_
        rcases cond_some h with ⟨g12, h⟩ | ⟨g12, h⟩
        · refine ls_cT rfl g12 ?_
          refine ls_skip ?_
          refine hK11 _ (ls_keep [(2, .int .i64 a2), (8, .own 3 y3.length (y3.flatMap ci64)), (28, .dat a1.length (a1.flatMap ci64)), (29, .int .i64 (List.length a1 : Int)), (30, .int .i64 y4)] ⟨kr, kr, kr, kr, kr, trivial⟩ rfl ?_)
          refine ls_seq_k fun K13 hK13 => ?_
          refine ls_blk ?_
          refine ls_rs tbOk ?_
          obtain ⟨e14, g15, h⟩ := ob_some h
          refine evs (ev_ia rfl rfl rfl ⟨(geti_some g15).1, (geti_some g15).2.1⟩ (evs (ev_ldE (off := 0) (v := .int .i64 e14) rfl rfl zci64 g15 rfl (Nat.le_of_ble_eq_true rfl) rfl (evs (ev_as (c := .int .i64 e14) rfl rfl rfl (evn ?_))))))
          refine ls_keep [(2, .int .i64 a2), (8, .own 3 y3.length (y3.flatMap ci64)), (10, .int .i64 e14), (28, .dat a1.length (a1.flatMap ci64)), (29, .int .i64 (List.length a1 : Int)), (30, .int .i64 y4)] ⟨kr, kr, kr, kr, kr, kr, trivial⟩ rfl ?_
          refine ls_seq_k fun K16 hK16 => ?_
          refine ls_rs tbOk ?_
          refine evs (ev_mv (c := .int .i64 e14) rfl rfl rfl (?_))
          obtain ⟨v17, g18, h⟩ := ob_some h
          refine evs (ev_call (era rfl rfl (era rfl rfl (era rfl rfl eran))) (impl_within_s g18) (evs (ev_un (c1 := .bool v17) rfl trivial (evn ?_))))
          refine ls_keep [(2, .int .i64 a2), (8, .own 3 y3.length (y3.flatMap ci64)), (10, .int .i64 e14), (28, .dat a1.length (a1.flatMap ci64)), (29, .int .i64 (List.length a1 : Int)), (30, .int .i64 y4), (36, .bool (!v17))] ⟨kr, kr, kr, kr, kr, kr, kr, trivial⟩ rfl ?_
          rcases cond_some h with ⟨g19, h⟩ | ⟨g19, h⟩
          · refine ls_cT rfl g19 ?_
            refine ls_rs tbOk ?_
            refine evs (ev_an rfl rfl (evs (ev_ac rfl nofun rfl (evn ?_))))
            refine ls_keep [(6, .own 3 ([] : List Int).length (([] : List Int).flatMap ci64)), (7, .bool false)] ⟨kr, kr, trivial⟩ rfl ?_
            refine ls_ret ?_
            have q0 := (Option.some.inj h).symm
            have r0 := hr1
            rw [q0] at r0
            have hr := Option.some.inj r0
            rw [← hr]
            exact ⟨.inl rfl, rfl⟩
          · refine ls_cF rfl g19 ?_
            refine ls_skip ?_
            refine hK16 _ (ls_keep [(2, .int .i64 a2), (8, .own 3 y3.length (y3.flatMap ci64)), (10, .int .i64 e14), (28, .dat a1.length (a1.flatMap ci64)), (29, .int .i64 (List.length a1 : Int)), (30, .int .i64 y4)] ⟨kr, kr, kr, kr, kr, kr, trivial⟩ rfl ?_)
            refine ls_rs tbOk ?_
            refine evs (ev_ac rfl nofun rfl (evn ?_))
            refine ls_keep [(2, .int .i64 a2), (8, .own 3 y3.length (y3.flatMap ci64)), (10, .int .i64 e14), (11, .int .i64 1), (28, .dat a1.length (a1.flatMap ci64)), (29, .int .i64 (List.length a1 : Int)), (30, .int .i64 y4)] ⟨kr, kr, kr, kr, kr, kr, kr, trivial⟩ rfl ?_
            refine ls_seq_k fun K20 hK20 => ?_
            refine ls_rs tbOk ?_
            refine evs (ev_ac rfl nofun rfl (evn ?_))
            refine ls_keep [(2, .int .i64 a2), (8, .own 3 y3.length (y3.flatMap ci64)), (10, .int .i64 e14), (11, .int .i64 1), (12, .int .i64 0), (28, .dat a1.length (a1.flatMap ci64)), (29, .int .i64 (List.length a1 : Int)), (30, .int .i64 y4)] ⟨kr, kr, kr, kr, kr, kr, kr, kr, trivial⟩ rfl ?_
            obtain ⟨o2, hl, hr2⟩ := ob_some h
            clear h
            have kXimpl_powers_B2 : ∀ (z21 : Int), (cond (decide (100 < z21)) (some (.inr (([] : List Int), false))) (chk (List.length y3 + List.length [z21] ≤ lim) ((loopF (impl_powers_B1 a1 a2) m) ((y3 ++ [z21]), (IntKind.i64.wrap (y4 + 1)))))) = some o1 → ∀ σ' : PS, okK σ' [(2, .int .i64 a2), (8, .own 3 y3.length (y3.flatMap ci64)), (11, .int .i64 z21), (28, .dat a1.length (a1.flatMap ci64)), (29, .int .i64 (List.length a1 : Int)), (30, .int .i64 y4)] → K20 σ' := by
              intro z21 h σ' hk
              refine hK20 _ (ls_keep [(2, .int .i64 a2), (8, .own 3 y3.length (y3.flatMap ci64)), (11, .int .i64 z21), (28, .dat a1.length (a1.flatMap ci64)), (29, .int .i64 (List.length a1 : Int)), (30, .int .i64 y4)] hk rfl ?_)
              refine ls_seq_k fun K25 hK25 => ?_
              refine ls_rs tbOk ?_
              refine evs (ev_mv (c := .int .i64 z21) rfl rfl rfl (evs (ev_bin (c1 := .int .i64 z21) (c2 := .int .i64 100) rfl rfl rfl (evn ?_))))
              refine ls_keep [(2, .int .i64 a2), (8, .own 3 y3.length (y3.flatMap ci64)), (11, .int .i64 z21), (28, .dat a1.length (a1.flatMap ci64)), (29, .int .i64 (List.length a1 : Int)), (30, .int .i64 y4), (46, .bool (decide (100 < z21)))] ⟨kr, kr, kr, kr, kr, kr, kr, trivial⟩ rfl ?_
              rcases cond_some h with ⟨g26, h⟩ | ⟨g26, h⟩
              · refine ls_cT rfl g26 ?_
                refine ls_rs tbOk ?_
                refine evs (ev_an rfl rfl (evs (ev_ac rfl nofun rfl (evn ?_))))
                refine ls_keep [(6, .own 3 ([] : List Int).length (([] : List Int).flatMap ci64)), (7, .bool false)] ⟨kr, kr, trivial⟩ rfl ?_
                refine ls_ret ?_
                have q0 := (Option.some.inj h).symm
                have r0 := hr1
                rw [q0] at r0
                have hr := Option.some.inj r0
                rw [← hr]
                exact ⟨.inl rfl, rfl⟩
              · refine ls_cF rfl g26 ?_
                refine ls_skip ?_
                refine hK25 _ (ls_keep [(2, .int .i64 a2), (8, .own 3 y3.length (y3.flatMap ci64)), (11, .int .i64 z21), (28, .dat a1.length (a1.flatMap ci64)), (29, .int .i64 (List.length a1 : Int)), (30, .int .i64 y4)] ⟨kr, kr, kr, kr, kr, kr, trivial⟩ rfl ?_)
                refine ls_rgn tbOk ?_
                refine evs (ev_mvt (c := .own 3 y3.length (y3.flatMap ci64)) rfl rfl rfl (evs (ev_mv (c := .int .i64 z21) rfl rfl rfl (evs (ev_bs [.int .i64 z21] (cs := [.int .i64 z21]) rfl ⟨rfl, trivial⟩ rfl (Nat.le_of_ble_eq_true rfl) rfl (?_))))))
                obtain ⟨g27, h⟩ := chk_some h
                refine evs (ev_app (f := ci64) (l := y3) (m := [z21]) (c2 := .own 3 [z21].length ([z21].flatMap ci64)) rfl rfl rfl (flat_len zci64 [z21]) rfl rfl g27 rfl (evs (ev_as (c := .own 3 (y3 ++ [z21]).length ((y3 ++ [z21]).flatMap ci64)) rfl rfl rfl (evn ?_))))
                refine hK13 _ (ls_keep [(2, .int .i64 a2), (8, .own 3 (y3 ++ [z21]).length ((y3 ++ [z21]).flatMap ci64)), (28, .dat a1.length (a1.flatMap ci64)), (29, .int .i64 (List.length a1 : Int)), (30, .int .i64 y4)] ⟨kr, kr, kr, kr, kr, trivial⟩ rfl ?_)
                refine ls_rgn tbOk ?_
                refine evs (ev_bin (c1 := .int .i64 y4) (c2 := .int .i64 1) rfl rfl rfl (evs (ev_mv (c := .int .i64 (IntKind.i64.wrap (y4 + 1))) rfl rfl rfl (evn ?_))))
                exact hN _ ((y3 ++ [z21]), (IntKind.i64.wrap (y4 + 1))) h ⟨kr, kr, kr, kr, kr, trivial⟩
            refine ls_rec (fun (s : Int × Int) => match s with | (y7, y8) => [(2, .int .i64 a2), (8, .own 3 y3.length (y3.flatMap ci64)), (10, .int .i64 e14), (11, .int .i64 y7), (12, .int .i64 y8), (28, .dat a1.length (a1.flatMap ci64)), (29, .int .i64 (List.length a1 : Int)), (30, .int .i64 y4)]) (impl_powers_B2 a2 e14) fz (1, 0) o2 hl ⟨kr, kr, kr, kr, kr, kr, kr, kr, trivial⟩ (fun _ => rfl) ?_
            rintro m ⟨y7, y8⟩ N h hN
            unfold impl_powers_B2 at h
            dsimp only at h
            refine ls_seq_k fun K22 hK22 => ?_
            refine ls_rs tbOk ?_
            refine evs (ev_mv (c := .int .i64 y8) rfl rfl rfl (evs (ev_mv (c := .int .i64 e14) rfl rfl rfl (evs (ev_bin (c1 := .int .i64 y8) (c2 := .int .i64 e14) rfl rfl rfl (evn ?_))))))
            refine ls_keep [(2, .int .i64 a2), (8, .own 3 y3.length (y3.flatMap ci64)), (10, .int .i64 e14), (11, .int .i64 y7), (12, .int .i64 y8), (28, .dat a1.length (a1.flatMap ci64)), (29, .int .i64 (List.length a1 : Int)), (30, .int .i64 y4), (39, .bool (decide (y8 < e14)))] ⟨kr, kr, kr, kr, kr, kr, kr, kr, kr, trivial⟩ rfl ?_
            rcases cond_some h with ⟨g23, h⟩ | ⟨g23, h⟩
            · refine ls_cT rfl g23 ?_
              refine ls_skip ?_
              refine hK22 _ (ls_keep [(2, .int .i64 a2), (8, .own 3 y3.length (y3.flatMap ci64)), (10, .int .i64 e14), (11, .int .i64 y7), (12, .int .i64 y8), (28, .dat a1.length (a1.flatMap ci64)), (29, .int .i64 (List.length a1 : Int)), (30, .int .i64 y4)] ⟨kr, kr, kr, kr, kr, kr, kr, kr, trivial⟩ rfl ?_)
              refine ls_seq_k fun K24 hK24 => ?_
              refine ls_blk ?_
              refine ls_rgn tbOk ?_
              refine evs (ev_mv (c := .int .i64 y7) rfl rfl rfl (evs (ev_mv (c := .int .i64 a2) rfl rfl rfl (evs (ev_bin (c1 := .int .i64 y7) (c2 := .int .i64 a2) rfl rfl rfl (evs (ev_as (c := .int .i64 (IntKind.i64.wrap (y7 * a2))) rfl rfl rfl (evn ?_))))))))
              refine hK24 _ (ls_keep [(2, .int .i64 a2), (8, .own 3 y3.length (y3.flatMap ci64)), (10, .int .i64 e14), (11, .int .i64 (IntKind.i64.wrap (y7 * a2))), (12, .int .i64 y8), (28, .dat a1.length (a1.flatMap ci64)), (29, .int .i64 (List.length a1 : Int)), (30, .int .i64 y4)] ⟨kr, kr, kr, kr, kr, kr, kr, kr, trivial⟩ rfl ?_)
              refine ls_rgn tbOk ?_
              refine evs (ev_mv (c := .int .i64 y8) rfl rfl rfl (evs (ev_bin (c1 := .int .i64 y8) (c2 := .int .i64 1) rfl rfl rfl (evs (ev_as (c := .int .i64 (IntKind.i64.wrap (y8 + 1))) rfl rfl rfl (evn ?_))))))
              exact hN _ ((IntKind.i64.wrap (y7 * a2)), (IntKind.i64.wrap (y8 + 1))) h ⟨kr, kr, kr, kr, kr, kr, kr, kr, trivial⟩
            · refine ls_cF rfl g23 ?_
              refine ls_exit ?_
              have q0 := (Option.some.inj h).symm
              have r0 := hr2
              rw [q0] at r0
              exact kXimpl_powers_B2 y7 r0 _ ⟨kr, kr, kr, kr, kr, kr, trivial⟩
        · refine ls_cF rfl g12 ?_
          refine ls_exit ?_
          have q0 := (Option.some.inj h).symm
          have r0 := hr1
          rw [q0] at r0
          exact kXimpl_powers_B1 y3 r0 _ ⟨kr, trivial⟩
def impl_TightRowCount_B1 (v1 : (List Int) × Bool) (rec : (Int × Int) → Option (Sum (Int) (Int × Bool))) (s : Int × Int) : Option (Sum (Int) (Int × Bool)) := match s with
  | (y1, y2) => cond (decide (y2 < (List.length v1.1 : Int))) (obind (geti v1.1 y2) fun e8 => cond (decide (4000 < (IntKind.i64.wrap (y1 * e8)))) (some (.inr (0, false))) (rec ((IntKind.i64.wrap (y1 * e8)), (IntKind.i64.wrap (y2 + 1))))) (some (.inl y1))
def impl_TightRowCount (a0 : Int × (List ((List UInt8) × (List Int))) × (List Int)) (a1 : List Int) (a2 : Int) : Option (Int × Bool) := obind (impl_powers a0 a1 a2) fun v1 => obind (loopF (impl_TightRowCount_B1 v1) fz (1, 0)) fun o1 => (match o1 with
  | .inl z4 => (cond (!v1.2) (some (0, false)) (some (z4, true)))
  | .inr r => some r)
theorem impl_TightRowCount_s {a0 : Int × (List ((List UInt8) × (List Int))) × (List Int)} {a1 : List Int} {a2 : Int} {r : Int × Bool} (h : impl_TightRowCount a0 a1 a2 = some r) : SoundAt Try.prog 33 [.agg [.int .i64 a0.1, .dat a0.2.1.length (a0.2.1.flatMap c150_d), .dat a0.2.2.length (a0.2.2.flatMap ci64)], .dat a1.length (a1.flatMap ci64), .int .i64 a2] (.tup [.int .i64 r.1, .bool r.2]) := by
  unfold impl_TightRowCount at h
  refine sound_lit tbOk lit33 (Nat.le_of_ble_eq_true rfl) rfl ?_
  unfold c33
  refine ls_keep [(0, .agg [.int .i64 a0.1, .dat a0.2.1.length (a0.2.1.flatMap c150_d), .dat a0.2.2.length (a0.2.2.flatMap ci64)]), (1, .dat a1.length (a1.flatMap ci64)), (2, .int .i64 a2)] ⟨kr, kr, kr, trivial⟩ rfl ?_
  refine ls_rs tbOk ?_
  refine evs (ev_bx (c1 := .agg [.int .i64 a0.1, .dat a0.2.1.length (a0.2.1.flatMap c150_d), .dat a0.2.2.length (a0.2.2.flatMap ci64)]) rfl rfl rfl (evs (ev_ac rfl nofun rfl (evs (ev_ac rfl nofun rfl (evn ?_))))))
  refine ls_keep [(1, .dat a1.length (a1.flatMap ci64)), (2, .int .i64 a2), (3, .box [.int .i64 a0.1, .dat a0.2.1.length (a0.2.1.flatMap c150_d), .dat a0.2.2.length (a0.2.2.flatMap ci64)])] ⟨kr, kr, kr, trivial⟩ rfl ?_
  refine ls_rs tbOk ?_
  refine evs (ev_ldB (off := 0) (v := .agg [.int .i64 a0.1, .dat a0.2.1.length (a0.2.1.flatMap c150_d), .dat a0.2.2.length (a0.2.2.flatMap ci64)]) rfl rfl rfl rfl (Nat.le_of_ble_eq_true rfl) rfl (evs (ev_mv (c := .dat a1.length (a1.flatMap ci64)) rfl rfl rfl (evs (ev_mv (c := .int .i64 a2) rfl rfl rfl (?_))))))
  obtain ⟨v1, g2, h⟩ := ob_some h
  refine evs (ev_call (era rfl (erg (erc rfl (erc (erD ec150_d _) (erc (erD eci64 _) rfl)))) (era rfl (erD eci64 _) (era rfl rfl eran))) (impl_powers_s g2) (evs (ev_mvt (c := .tup [.own 3 v1.1.length (v1.1.flatMap ci64), .bool v1.2]) rfl rfl rfl (evs (ev_ext rfl rfl rfl rfl (evs (ev_ext rfl rfl rfl rfl (evs (ev_as (c := .own 3 v1.1.length (v1.1.flatMap ci64)) rfl rfl rfl (evs (ev_as (c := .bool v1.2) rfl rfl rfl (evn ?_))))))))))))
  refine ls_keep [(8, .own 3 v1.1.length (v1.1.flatMap ci64)), (9, .bool v1.2)] ⟨kr, kr, trivial⟩ rfl ?_
  refine ls_rs tbOk ?_
  refine evs (ev_ac rfl nofun rfl (evn ?_))
  refine ls_keep [(8, .own 3 v1.1.length (v1.1.flatMap ci64)), (9, .bool v1.2), (10, .int .i64 1)] ⟨kr, kr, kr, trivial⟩ rfl ?_
  refine ls_seq_k fun K3 hK3 => ?_
  refine ls_rs tbOk ?_
  refine evs (ev_mv (c := .own 3 v1.1.length (v1.1.flatMap ci64)) rfl rfl rfl (evs (ev_len (c1 := .dat v1.1.length (v1.1.flatMap ci64)) rfl rfl rfl (evs (ev_mc rfl rfl (evn ?_))))))
  refine ls_keep [(9, .bool v1.2), (10, .int .i64 1), (20, .dat v1.1.length (v1.1.flatMap ci64)), (21, .int .i64 (List.length v1.1 : Int)), (22, .int .i64 0)] ⟨kr, kr, kr, kr, kr, trivial⟩ rfl ?_
  obtain ⟨o1, hl, hr1⟩ := ob_some h
  clear h
  have kXimpl_TightRowCount_B1 : ∀ (z4 : Int), (cond (!v1.2) (some (0, false)) (some (z4, true))) = some r → ∀ σ' : PS, okK σ' [(9, .bool v1.2), (10, .int .i64 z4)] → K3 σ' := by
    intro z4 h σ' hk
    refine hK3 _ (ls_keep [(9, .bool v1.2), (10, .int .i64 z4)] hk rfl ?_)
    refine ls_seq_k fun K11 hK11 => ?_
    refine ls_rs tbOk ?_
    refine evs (ev_mv (c := .bool v1.2) rfl rfl rfl (evs (ev_un (c1 := .bool v1.2) rfl trivial (evn ?_))))
    refine ls_keep [(10, .int .i64 z4), (33, .bool (!v1.2))] ⟨kr, kr, trivial⟩ rfl ?_
    rcases cond_some h with ⟨g12, h⟩ | ⟨g12, h⟩
    · refine ls_cT rfl g12 ?_
      refine ls_rs tbOk ?_
      refine evs (ev_ac rfl nofun rfl (evs (ev_ac rfl nofun rfl (evn ?_))))
      refine ls_keep [(6, .int .i64 0), (7, .bool false)] ⟨kr, kr, trivial⟩ rfl ?_
      refine ls_ret ?_
      have hr := Option.some.inj h
      rw [← hr]
      exact ⟨.inl rfl, rfl⟩
    · refine ls_cF rfl g12 ?_
      refine ls_skip ?_
      refine hK11 _ (ls_keep [(10, .int .i64 z4)] ⟨kr, trivial⟩ rfl ?_)
      refine ls_rs tbOk ?_
      refine evs (ev_mv (c := .int .i64 z4) rfl rfl rfl (evs (ev_as (c := .int .i64 z4) rfl rfl rfl (evs (ev_ac rfl nofun rfl (evn ?_))))))
      refine ls_keep [(6, .int .i64 z4), (7, .bool true)] ⟨kr, kr, trivial⟩ rfl ?_
      refine ls_ret ?_
      have hr := Option.some.inj h
      rw [← hr]
      exact ⟨.inl rfl, rfl⟩
  refine ls_rec (fun (s : Int × Int) => match s with | (y1, y2) => [(9, .bool v1.2), (10, .int .i64 y1), (20, .dat v1.1.length (v1.1.flatMap ci64)), (21, .int .i64 (List.length v1.1 : Int)), (22, .int .i64 y2)]) (impl_TightRowCount_B1 v1) fz (1, 0) o1 hl ⟨kr, kr, kr, kr, kr, trivial⟩ (fun _ => rfl) ?_
  rintro m ⟨y1, y2⟩ N h hN
  unfold impl_TightRowCount_B1 at h
  dsimp only at h
  refine ls_rs tbOk ?_
  refine evs (ev_bin (c1 := .int .i64 y2) (c2 := .int .i64 (List.length v1.1 : Int)) rfl rfl rfl (evn ?_))
  refine ls_keep [(9, .bool v1.2), (10, .int .i64 y1), (20, .dat v1.1.length (v1.1.flatMap ci64)), (21, .int .i64 (List.length v1.1 : Int)), (22, .int .i64 y2), (23, .bool (decide (y2 < (List.length v1.1 : Int))))] ⟨kr, kr, kr, kr, kr, kr, trivial⟩ rfl ?_
  refine ls_seq_k fun K5 hK5 => ?_
  rcases cond_some h with ⟨g6, h⟩ | ⟨g6, h⟩
  · refine ls_cT rfl g6 ?_
    refine ls_skip ?_
    refine hK5 _ (ls_keep [(9, .bool v1.2), (10, .int .i64 y1), (20, .dat v1.1.length (v1.1.flatMap ci64)), (21, .int .i64 (List.length v1.1 : Int)), (22, .int .i64 y2)] ⟨kr, kr, kr, kr, kr, trivial⟩ rfl ?_)
    refine ls_seq_k fun K7 hK7 => ?_
    refine ls_blk ?_
    refine ls_rs tbOk ?_
    obtain ⟨e8, g9, h⟩ := ob_some h
    refine evs (ev_ia rfl rfl rfl ⟨(geti_some g9).1, (geti_some g9).2.1⟩ (evs (ev_ldE (off := 0) (v := .int .i64 e8) rfl rfl zci64 g9 rfl (Nat.le_of_ble_eq_true rfl) rfl (evs (ev_as (c := .int .i64 e8) rfl rfl rfl (evn ?_))))))
    refine ls_keep [(9, .bool v1.2), (10, .int .i64 y1), (12, .int .i64 e8), (20, .dat v1.1.length (v1.1.flatMap ci64)), (21, .int .i64 (List.length v1.1 : Int)), (22, .int .i64 y2)] ⟨kr, kr, kr, kr, kr, kr, trivial⟩ rfl ?_
    refine ls_rs tbOk ?_
    refine evs (ev_mv (c := .int .i64 y1) rfl rfl rfl (evs (ev_mv (c := .int .i64 e8) rfl rfl rfl (evs (ev_bin (c1 := .int .i64 y1) (c2 := .int .i64 e8) rfl rfl rfl (evs (ev_as (c := .int .i64 (IntKind.i64.wrap (y1 * e8))) rfl rfl rfl (evn ?_))))))))
    refine ls_keep [(9, .bool v1.2), (10, .int .i64 (IntKind.i64.wrap (y1 * e8))), (20, .dat v1.1.length (v1.1.flatMap ci64)), (21, .int .i64 (List.length v1.1 : Int)), (22, .int .i64 y2)] ⟨kr, kr, kr, kr, kr, trivial⟩ rfl ?_
    refine ls_rs tbOk ?_
    refine evs (ev_mv (c := .int .i64 (IntKind.i64.wrap (y1 * e8))) rfl rfl rfl (evs (ev_bin (c1 := .int .i64 (IntKind.i64.wrap (y1 * e8))) (c2 := .int .i64 4000) rfl rfl rfl (evn ?_))))
    refine ls_keep [(9, .bool v1.2), (10, .int .i64 (IntKind.i64.wrap (y1 * e8))), (20, .dat v1.1.length (v1.1.flatMap ci64)), (21, .int .i64 (List.length v1.1 : Int)), (22, .int .i64 y2), (30, .bool (decide (4000 < (IntKind.i64.wrap (y1 * e8)))))] ⟨kr, kr, kr, kr, kr, kr, trivial⟩ rfl ?_
    rcases cond_some h with ⟨g10, h⟩ | ⟨g10, h⟩
    · refine ls_cT rfl g10 ?_
      refine ls_rs tbOk ?_
      refine evs (ev_ac rfl nofun rfl (evs (ev_ac rfl nofun rfl (evn ?_))))
      refine ls_keep [(6, .int .i64 0), (7, .bool false)] ⟨kr, kr, trivial⟩ rfl ?_
      refine ls_ret ?_
      have q0 := (Option.some.inj h).symm
      have r0 := hr1
      rw [q0] at r0
      have hr := Option.some.inj r0
      rw [← hr]
      exact ⟨.inl rfl, rfl⟩
    · refine ls_cF rfl g10 ?_
      refine ls_skip ?_
      refine hK7 _ (ls_keep [(9, .bool v1.2), (10, .int .i64 (IntKind.i64.wrap (y1 * e8))), (20, .dat v1.1.length (v1.1.flatMap ci64)), (21, .int .i64 (List.length v1.1 : Int)), (22, .int .i64 y2)] ⟨kr, kr, kr, kr, kr, trivial⟩ rfl ?_)
      refine ls_rgn tbOk ?_
      refine evs (ev_bin (c1 := .int .i64 y2) (c2 := .int .i64 1) rfl rfl rfl (evs (ev_mv (c := .int .i64 (IntKind.i64.wrap (y2 + 1))) rfl rfl rfl (evn ?_))))
      exact hN _ ((IntKind.i64.wrap (y1 * e8)), (IntKind.i64.wrap (y2 + 1))) h ⟨kr, kr, kr, kr, kr, trivial⟩
  · refine ls_cF rfl g6 ?_
    refine ls_exit ?_
    have q0 := (Option.some.inj h).symm
    have r0 := hr1
    rw [q0] at r0
    exact kXimpl_TightRowCount_B1 y1 r0 _ ⟨kr, kr, trivial⟩
def laws_eqAtom (a0 : (List UInt8) × (List Int)) (a1 : (List UInt8) × (List Int)) : Option (Bool) := cond (!(a0.1 == a1.1)) (some false) (obind (laws_eqIntS a0.2 a1.2) fun v4 => cond (!v4) (some false) (some true))
theorem laws_eqAtom_s {a0 : (List UInt8) × (List Int)} {a1 : (List UInt8) × (List Int)} {r : Bool} (h : laws_eqAtom a0 a1 = some r) : SoundAt Try.prog 152 [.agg [.str a0.1, .dat a0.2.length (a0.2.flatMap ci64)], .agg [.str a1.1, .dat a1.2.length (a1.2.flatMap ci64)]] (.bool r) := by
  unfold laws_eqAtom at h
  refine sound_lit tbOk lit152 (Nat.le_of_ble_eq_true rfl) rfl ?_
  unfold c152
  refine ls_keep [(0, .agg [.str a0.1, .dat a0.2.length (a0.2.flatMap ci64)]), (1, .agg [.str a1.1, .dat a1.2.length (a1.2.flatMap ci64)])] ⟨kr, kr, trivial⟩ rfl ?_
  refine ls_rs tbOk ?_
  refine evs (ev_bx (c1 := .agg [.str a0.1, .dat a0.2.length (a0.2.flatMap ci64)]) rfl rfl rfl (evs (ev_bx (c1 := .agg [.str a1.1, .dat a1.2.length (a1.2.flatMap ci64)]) rfl rfl rfl (evs (ev_ac rfl nofun rfl (evn ?_))))))
  refine ls_keep [(2, .box [.str a0.1, .dat a0.2.length (a0.2.flatMap ci64)]), (3, .box [.str a1.1, .dat a1.2.length (a1.2.flatMap ci64)])] ⟨kr, kr, trivial⟩ rfl ?_
  refine ls_seq_k fun K1 hK1 => ?_
  refine ls_rs tbOk ?_
  refine evs (ev_fa (c1 := .cref 2 0) (v := .cref 2 0) rfl rfl rfl ⟨_, rfl⟩ rfl (evs (ev_ldB (off := 0) (v := .str a0.1) rfl rfl rfl rfl (Nat.le_of_ble_eq_true rfl) rfl (evs (ev_fa (c1 := .cref 3 0) (v := .cref 3 0) rfl rfl rfl ⟨_, rfl⟩ rfl (evs (ev_ldB (off := 0) (v := .str a1.1) rfl rfl rfl rfl (Nat.le_of_ble_eq_true rfl) rfl (evs (ev_bin (c1 := .str a0.1) (c2 := .str a1.1) rfl rfl trivial (evn ?_))))))))))
  refine ls_keep [(2, .box [.str a0.1, .dat a0.2.length (a0.2.flatMap ci64)]), (3, .box [.str a1.1, .dat a1.2.length (a1.2.flatMap ci64)]), (9, .bool (!(a0.1 == a1.1)))] ⟨kr, kr, kr, trivial⟩ rfl ?_
  rcases cond_some h with ⟨g2, h⟩ | ⟨g2, h⟩
  · refine ls_cT rfl g2 ?_
    refine ls_rs tbOk ?_
    refine evs (ev_ac rfl nofun rfl (evn ?_))
    refine ls_keep [(4, .bool false)] ⟨kr, trivial⟩ rfl ?_
    refine ls_ret ?_
    have hr := Option.some.inj h
    rw [← hr]
    exact ⟨.inl rfl, rfl⟩
  · refine ls_cF rfl g2 ?_
    refine ls_skip ?_
    refine hK1 _ (ls_keep [(2, .box [.str a0.1, .dat a0.2.length (a0.2.flatMap ci64)]), (3, .box [.str a1.1, .dat a1.2.length (a1.2.flatMap ci64)])] ⟨kr, kr, trivial⟩ rfl ?_)
    refine ls_seq_k fun K3 hK3 => ?_
    refine ls_rs tbOk ?_
    refine evs (ev_fa (c1 := .cref 2 0) (v := .cref 2 1) rfl rfl rfl ⟨_, rfl⟩ rfl (evs (ev_ldB (off := 1) (v := .dat a0.2.length (a0.2.flatMap ci64)) rfl rfl rfl rfl (Nat.le_of_ble_eq_true rfl) rfl (evs (ev_fa (c1 := .cref 3 0) (v := .cref 3 1) rfl rfl rfl ⟨_, rfl⟩ rfl (evs (ev_ldB (off := 1) (v := .dat a1.2.length (a1.2.flatMap ci64)) rfl rfl rfl rfl (Nat.le_of_ble_eq_true rfl) rfl (?_))))))))
    obtain ⟨v4, g5, h⟩ := ob_some h
    refine evs (ev_call (era rfl (erD eci64 _) (era rfl (erD eci64 _) eran)) (laws_eqIntS_s g5) (evs (ev_un (c1 := .bool v4) rfl trivial (evn ?_))))
    refine ls_keep [(15, .bool (!v4))] ⟨kr, trivial⟩ rfl ?_
    rcases cond_some h with ⟨g6, h⟩ | ⟨g6, h⟩
    · refine ls_cT rfl g6 ?_
      refine ls_rs tbOk ?_
      refine evs (ev_ac rfl nofun rfl (evn ?_))
      refine ls_keep [(4, .bool false)] ⟨kr, trivial⟩ rfl ?_
      refine ls_ret ?_
      have hr := Option.some.inj h
      rw [← hr]
      exact ⟨.inl rfl, rfl⟩
    · refine ls_cF rfl g6 ?_
      refine ls_skip ?_
      refine hK3 _ (ls_keep [] trivial rfl ?_)
      refine ls_rs tbOk ?_
      refine evs (ev_ac rfl nofun rfl (evn ?_))
      refine ls_keep [(4, .bool true)] ⟨kr, trivial⟩ rfl ?_
      refine ls_ret ?_
      have hr := Option.some.inj h
      rw [← hr]
      exact ⟨.inl rfl, rfl⟩
def laws_eqAtomS_B1 (a0 : List ((List UInt8) × (List Int))) (a1 : List ((List UInt8) × (List Int))) (rec : Int → Option (Sum (Unit) (Bool))) (y1 : Int) : Option (Sum (Unit) (Bool)) := cond (decide (y1 < (List.length a0 : Int))) (obind (geti a0 y1) fun e7 => obind (geti a1 y1) fun e9 => obind (laws_eqAtom e7 e9) fun v11 => cond (!v11) (some (.inr false)) (rec (IntKind.i64.wrap (y1 + 1)))) (some (.inl ()))
def laws_eqAtomS (a0 : List ((List UInt8) × (List Int))) (a1 : List ((List UInt8) × (List Int))) : Option (Bool) := cond ((List.length a0 : Int) != (List.length a1 : Int)) (some false) (obind (loopF (laws_eqAtomS_B1 a0 a1) fz 0) fun o1 => (match o1 with
  | .inl _ => (some true)
  | .inr r => some r))
theorem laws_eqAtomS_s {a0 : List ((List UInt8) × (List Int))} {a1 : List ((List UInt8) × (List Int))} {r : Bool} (h : laws_eqAtomS a0 a1 = some r) : SoundAt Try.prog 111 [.dat a0.length (a0.flatMap c150_d), .dat a1.length (a1.flatMap c150_d)] (.bool r) := by
  unfold laws_eqAtomS at h
  refine sound_lit tbOk lit111 (Nat.le_of_ble_eq_true rfl) rfl ?_
  unfold c111
  refine ls_keep [(0, .dat a0.length (a0.flatMap c150_d)), (1, .dat a1.length (a1.flatMap c150_d))] ⟨kr, kr, trivial⟩ rfl ?_
  refine ls_rs tbOk ?_
  refine evs (ev_ac rfl nofun rfl (evn ?_))
  refine ls_keep [(0, .dat a0.length (a0.flatMap c150_d)), (1, .dat a1.length (a1.flatMap c150_d))] ⟨kr, kr, trivial⟩ rfl ?_
  refine ls_seq_k fun K1 hK1 => ?_
  refine ls_rs tbOk ?_
  refine evs (ev_mv (c := .dat a0.length (a0.flatMap c150_d)) rfl rfl rfl (evs (ev_len (c1 := .dat a0.length (a0.flatMap c150_d)) rfl rfl rfl (evs (ev_mv (c := .dat a1.length (a1.flatMap c150_d)) rfl rfl rfl (evs (ev_len (c1 := .dat a1.length (a1.flatMap c150_d)) rfl rfl rfl (evs (ev_bin (c1 := .int .i64 (List.length a0 : Int)) (c2 := .int .i64 (List.length a1 : Int)) rfl rfl rfl (evn ?_))))))))))
  refine ls_keep [(0, .dat a0.length (a0.flatMap c150_d)), (1, .dat a1.length (a1.flatMap c150_d)), (10, .bool ((List.length a0 : Int) != (List.length a1 : Int)))] ⟨kr, kr, kr, trivial⟩ rfl ?_
  rcases cond_some h with ⟨g2, h⟩ | ⟨g2, h⟩
  · refine ls_cT rfl g2 ?_
    refine ls_rs tbOk ?_
    refine evs (ev_ac rfl nofun rfl (evn ?_))
    refine ls_keep [(4, .bool false)] ⟨kr, trivial⟩ rfl ?_
    refine ls_ret ?_
    have hr := Option.some.inj h
    rw [← hr]
    exact ⟨.inl rfl, rfl⟩
  · refine ls_cF rfl g2 ?_
    refine ls_skip ?_
    refine hK1 _ (ls_keep [(0, .dat a0.length (a0.flatMap c150_d)), (1, .dat a1.length (a1.flatMap c150_d))] ⟨kr, kr, trivial⟩ rfl ?_)
    refine ls_seq_k fun K3 hK3 => ?_
    refine ls_rs tbOk ?_
    refine evs (ev_ac rfl nofun rfl (evn ?_))
    refine ls_keep [(0, .dat a0.length (a0.flatMap c150_d)), (1, .dat a1.length (a1.flatMap c150_d)), (5, .int .i64 0)] ⟨kr, kr, kr, trivial⟩ rfl ?_
    obtain ⟨o1, hl, hr1⟩ := ob_some h
    clear h
    have kXlaws_eqAtomS_B1 : ∀ (_ : Unit), (some true) = some r → ∀ σ' : PS, okK σ' [] → K3 σ' := by
      intro _ h σ' hk
      refine hK3 _ (ls_keep [] hk rfl ?_)
      refine ls_rs tbOk ?_
      refine evs (ev_ac rfl nofun rfl (evn ?_))
      refine ls_keep [(4, .bool true)] ⟨kr, trivial⟩ rfl ?_
      refine ls_ret ?_
      have hr := Option.some.inj h
      rw [← hr]
      exact ⟨.inl rfl, rfl⟩
    refine ls_rec (fun (y1 : Int) => [(0, .dat a0.length (a0.flatMap c150_d)), (1, .dat a1.length (a1.flatMap c150_d)), (5, .int .i64 y1)]) (laws_eqAtomS_B1 a0 a1) fz 0 o1 hl ⟨kr, kr, kr, trivial⟩ (fun _ => rfl) ?_
    rintro m y1 N h hN
    unfold laws_eqAtomS_B1 at h
    refine ls_seq_k fun K4 hK4 => ?_
    refine ls_rs tbOk ?_
    refine evs (ev_mv (c := .int .i64 y1) rfl rfl rfl (evs (ev_mv (c := .dat a0.length (a0.flatMap c150_d)) rfl rfl rfl (evs (ev_len (c1 := .dat a0.length (a0.flatMap c150_d)) rfl rfl rfl (evs (ev_bin (c1 := .int .i64 y1) (c2 := .int .i64 (List.length a0 : Int)) rfl rfl rfl (evn ?_))))))))
    refine ls_keep [(0, .dat a0.length (a0.flatMap c150_d)), (1, .dat a1.length (a1.flatMap c150_d)), (5, .int .i64 y1), (14, .bool (decide (y1 < (List.length a0 : Int))))] ⟨kr, kr, kr, kr, trivial⟩ rfl ?_
    rcases cond_some h with ⟨g5, h⟩ | ⟨g5, h⟩
    · refine ls_cT rfl g5 ?_
      refine ls_skip ?_
      refine hK4 _ (ls_keep [(0, .dat a0.length (a0.flatMap c150_d)), (1, .dat a1.length (a1.flatMap c150_d)), (5, .int .i64 y1)] ⟨kr, kr, kr, trivial⟩ rfl ?_)
      refine ls_seq_k fun K6 hK6 => ?_
      refine ls_blk ?_
      refine ls_rd tbOk mixed (by kernel_rfl) ?_
      refine evd rfl rfl (ev_mv (c := .dat a0.length (a0.flatMap c150_d)) rfl rfl rfl (evd rfl rfl (ev_mv (c := .int .i64 y1) rfl rfl rfl (?_))))
      obtain ⟨e7, g8, h⟩ := ob_some h
      refine evd rfl rfl (ev_ia rfl rfl rfl ⟨(geti_some g8).1, (geti_some g8).2.1⟩ (evd rfl rfl (ev_ldE (off := 0) (v := .agg [.str e7.1, .dat e7.2.length (e7.2.flatMap ci64)]) rfl rfl zc150_d g8 rfl (Nat.le_of_ble_eq_true rfl) rfl (evd rfl rfl (ev_mv (c := .dat a1.length (a1.flatMap c150_d)) rfl rfl rfl (evd rfl rfl (ev_mv (c := .int .i64 y1) rfl rfl rfl (?_))))))))
      obtain ⟨e9, g10, h⟩ := ob_some h
      refine evd rfl rfl (ev_ia rfl rfl rfl ⟨(geti_some g10).1, (geti_some g10).2.1⟩ (evd rfl rfl (ev_ldE (off := 0) (v := .agg [.str e9.1, .dat e9.2.length (e9.2.flatMap ci64)]) rfl rfl zc150_d g10 rfl (Nat.le_of_ble_eq_true rfl) rfl (?_))))
      obtain ⟨v11, g12, h⟩ := ob_some h
      refine evd rfl rfl (ev_call (era rfl (erg (erc rfl (erc (erD eci64 _) rfl))) (era rfl (erg (erc rfl (erc (erD eci64 _) rfl))) eran)) (laws_eqAtom_s g12) (evd rfl rfl (ev_un (c1 := .bool v11) rfl trivial (evdn ?_))))
      refine ls_keep [(0, .dat a0.length (a0.flatMap c150_d)), (1, .dat a1.length (a1.flatMap c150_d)), (5, .int .i64 y1), (26, .bool (!v11))] ⟨kr, kr, kr, kr, trivial⟩ rfl ?_
      rcases cond_some h with ⟨g13, h⟩ | ⟨g13, h⟩
      · refine ls_cT rfl g13 ?_
        refine ls_rs tbOk ?_
        refine evs (ev_ac rfl nofun rfl (evn ?_))
        refine ls_keep [(4, .bool false)] ⟨kr, trivial⟩ rfl ?_
        refine ls_ret ?_
        have q0 := (Option.some.inj h).symm
        have r0 := hr1
        rw [q0] at r0
        have hr := Option.some.inj r0
        rw [← hr]
        exact ⟨.inl rfl, rfl⟩
      · refine ls_cF rfl g13 ?_
        refine ls_skip ?_
        refine hK6 _ (ls_keep [(0, .dat a0.length (a0.flatMap c150_d)), (1, .dat a1.length (a1.flatMap c150_d)), (5, .int .i64 y1)] ⟨kr, kr, kr, trivial⟩ rfl ?_)
        refine ls_rgn tbOk ?_
        refine evs (ev_mv (c := .int .i64 y1) rfl rfl rfl (evs (ev_bin (c1 := .int .i64 y1) (c2 := .int .i64 1) rfl rfl rfl (evs (ev_as (c := .int .i64 (IntKind.i64.wrap (y1 + 1))) rfl rfl rfl (evn ?_))))))
        exact hN _ (IntKind.i64.wrap (y1 + 1)) h ⟨kr, kr, kr, trivial⟩
    · refine ls_cF rfl g5 ?_
      refine ls_exit ?_
      have q0 := (Option.some.inj h).symm
      have r0 := hr1
      rw [q0] at r0
      exact kXlaws_eqAtomS_B1 () r0 _ trivial
def laws_eqQuery (a0 : Int × (List ((List UInt8) × (List Int))) × (List Int)) (a1 : Int × (List ((List UInt8) × (List Int))) × (List Int)) : Option (Bool) := cond (a0.1 != a1.1) (some false) (obind (laws_eqAtomS a0.2.1 a1.2.1) fun v4 => cond (!v4) (some false) (obind (laws_eqIntS a0.2.2 a1.2.2) fun v8 => cond (!v8) (some false) (some true)))
theorem laws_eqQuery_s {a0 : Int × (List ((List UInt8) × (List Int))) × (List Int)} {a1 : Int × (List ((List UInt8) × (List Int))) × (List Int)} {r : Bool} (h : laws_eqQuery a0 a1 = some r) : SoundAt Try.prog 34 [.agg [.int .i64 a0.1, .dat a0.2.1.length (a0.2.1.flatMap c150_d), .dat a0.2.2.length (a0.2.2.flatMap ci64)], .agg [.int .i64 a1.1, .dat a1.2.1.length (a1.2.1.flatMap c150_d), .dat a1.2.2.length (a1.2.2.flatMap ci64)]] (.bool r) := by
  unfold laws_eqQuery at h
  refine sound_lit tbOk lit34 (Nat.le_of_ble_eq_true rfl) rfl ?_
  unfold c34
  refine ls_keep [(0, .agg [.int .i64 a0.1, .dat a0.2.1.length (a0.2.1.flatMap c150_d), .dat a0.2.2.length (a0.2.2.flatMap ci64)]), (1, .agg [.int .i64 a1.1, .dat a1.2.1.length (a1.2.1.flatMap c150_d), .dat a1.2.2.length (a1.2.2.flatMap ci64)])] ⟨kr, kr, trivial⟩ rfl ?_
  refine ls_rs tbOk ?_
  refine evs (ev_bx (c1 := .agg [.int .i64 a0.1, .dat a0.2.1.length (a0.2.1.flatMap c150_d), .dat a0.2.2.length (a0.2.2.flatMap ci64)]) rfl rfl rfl (evs (ev_bx (c1 := .agg [.int .i64 a1.1, .dat a1.2.1.length (a1.2.1.flatMap c150_d), .dat a1.2.2.length (a1.2.2.flatMap ci64)]) rfl rfl rfl (evs (ev_ac rfl nofun rfl (evn ?_))))))
  refine ls_keep [(2, .box [.int .i64 a0.1, .dat a0.2.1.length (a0.2.1.flatMap c150_d), .dat a0.2.2.length (a0.2.2.flatMap ci64)]), (3, .box [.int .i64 a1.1, .dat a1.2.1.length (a1.2.1.flatMap c150_d), .dat a1.2.2.length (a1.2.2.flatMap ci64)])] ⟨kr, kr, trivial⟩ rfl ?_
  refine ls_seq_k fun K1 hK1 => ?_
  refine ls_rs tbOk ?_
  refine evs (ev_fa (c1 := .cref 2 0) (v := .cref 2 0) rfl rfl rfl ⟨_, rfl⟩ rfl (evs (ev_ldB (off := 0) (v := .int .i64 a0.1) rfl rfl rfl rfl (Nat.le_of_ble_eq_true rfl) rfl (evs (ev_fa (c1 := .cref 3 0) (v := .cref 3 0) rfl rfl rfl ⟨_, rfl⟩ rfl (evs (ev_ldB (off := 0) (v := .int .i64 a1.1) rfl rfl rfl rfl (Nat.le_of_ble_eq_true rfl) rfl (evs (ev_bin (c1 := .int .i64 a0.1) (c2 := .int .i64 a1.1) rfl rfl rfl (evn ?_))))))))))
  refine ls_keep [(2, .box [.int .i64 a0.1, .dat a0.2.1.length (a0.2.1.flatMap c150_d), .dat a0.2.2.length (a0.2.2.flatMap ci64)]), (3, .box [.int .i64 a1.1, .dat a1.2.1.length (a1.2.1.flatMap c150_d), .dat a1.2.2.length (a1.2.2.flatMap ci64)]), (9, .bool (a0.1 != a1.1))] ⟨kr, kr, kr, trivial⟩ rfl ?_
  rcases cond_some h with ⟨g2, h⟩ | ⟨g2, h⟩
  · refine ls_cT rfl g2 ?_
    refine ls_rs tbOk ?_
    refine evs (ev_ac rfl nofun rfl (evn ?_))
    refine ls_keep [(4, .bool false)] ⟨kr, trivial⟩ rfl ?_
    refine ls_ret ?_
    have hr := Option.some.inj h
    rw [← hr]
    exact ⟨.inl rfl, rfl⟩
  · refine ls_cF rfl g2 ?_
    refine ls_skip ?_
    refine hK1 _ (ls_keep [(2, .box [.int .i64 a0.1, .dat a0.2.1.length (a0.2.1.flatMap c150_d), .dat a0.2.2.length (a0.2.2.flatMap ci64)]), (3, .box [.int .i64 a1.1, .dat a1.2.1.length (a1.2.1.flatMap c150_d), .dat a1.2.2.length (a1.2.2.flatMap ci64)])] ⟨kr, kr, trivial⟩ rfl ?_)
    refine ls_seq_k fun K3 hK3 => ?_
    refine ls_rs tbOk ?_
    refine evs (ev_fa (c1 := .cref 2 0) (v := .cref 2 1) rfl rfl rfl ⟨_, rfl⟩ rfl (evs (ev_ldB (off := 1) (v := .dat a0.2.1.length (a0.2.1.flatMap c150_d)) rfl rfl rfl rfl (Nat.le_of_ble_eq_true rfl) rfl (evs (ev_fa (c1 := .cref 3 0) (v := .cref 3 1) rfl rfl rfl ⟨_, rfl⟩ rfl (evs (ev_ldB (off := 1) (v := .dat a1.2.1.length (a1.2.1.flatMap c150_d)) rfl rfl rfl rfl (Nat.le_of_ble_eq_true rfl) rfl (?_))))))))
    obtain ⟨v4, g5, h⟩ := ob_some h
    refine evs (ev_call (era rfl (erD ec150_d _) (era rfl (erD ec150_d _) eran)) (laws_eqAtomS_s g5) (evs (ev_un (c1 := .bool v4) rfl trivial (evn ?_))))
    refine ls_keep [(2, .box [.int .i64 a0.1, .dat a0.2.1.length (a0.2.1.flatMap c150_d), .dat a0.2.2.length (a0.2.2.flatMap ci64)]), (3, .box [.int .i64 a1.1, .dat a1.2.1.length (a1.2.1.flatMap c150_d), .dat a1.2.2.length (a1.2.2.flatMap ci64)]), (15, .bool (!v4))] ⟨kr, kr, kr, trivial⟩ rfl ?_
    rcases cond_some h with ⟨g6, h⟩ | ⟨g6, h⟩
    · refine ls_cT rfl g6 ?_
      refine ls_rs tbOk ?_
      refine evs (ev_ac rfl nofun rfl (evn ?_))
      refine ls_keep [(4, .bool false)] ⟨kr, trivial⟩ rfl ?_
      refine ls_ret ?_
      have hr := Option.some.inj h
      rw [← hr]
      exact ⟨.inl rfl, rfl⟩
    · refine ls_cF rfl g6 ?_
      refine ls_skip ?_
      refine hK3 _ (ls_keep [(2, .box [.int .i64 a0.1, .dat a0.2.1.length (a0.2.1.flatMap c150_d), .dat a0.2.2.length (a0.2.2.flatMap ci64)]), (3, .box [.int .i64 a1.1, .dat a1.2.1.length (a1.2.1.flatMap c150_d), .dat a1.2.2.length (a1.2.2.flatMap ci64)])] ⟨kr, kr, trivial⟩ rfl ?_)
      refine ls_seq_k fun K7 hK7 => ?_
      refine ls_rs tbOk ?_
      refine evs (ev_fa (c1 := .cref 2 0) (v := .cref 2 2) rfl rfl rfl ⟨_, rfl⟩ rfl (evs (ev_ldB (off := 2) (v := .dat a0.2.2.length (a0.2.2.flatMap ci64)) rfl rfl rfl rfl (Nat.le_of_ble_eq_true rfl) rfl (evs (ev_fa (c1 := .cref 3 0) (v := .cref 3 2) rfl rfl rfl ⟨_, rfl⟩ rfl (evs (ev_ldB (off := 2) (v := .dat a1.2.2.length (a1.2.2.flatMap ci64)) rfl rfl rfl rfl (Nat.le_of_ble_eq_true rfl) rfl (?_))))))))
      obtain ⟨v8, g9, h⟩ := ob_some h
      refine evs (ev_call (era rfl (erD eci64 _) (era rfl (erD eci64 _) eran)) (laws_eqIntS_s g9) (evs (ev_un (c1 := .bool v8) rfl trivial (evn ?_))))
      refine ls_keep [(21, .bool (!v8))] ⟨kr, trivial⟩ rfl ?_
      rcases cond_some h with ⟨g10, h⟩ | ⟨g10, h⟩
      · refine ls_cT rfl g10 ?_
        refine ls_rs tbOk ?_
        refine evs (ev_ac rfl nofun rfl (evn ?_))
        refine ls_keep [(4, .bool false)] ⟨kr, trivial⟩ rfl ?_
        refine ls_ret ?_
        have hr := Option.some.inj h
        rw [← hr]
        exact ⟨.inl rfl, rfl⟩
      · refine ls_cF rfl g10 ?_
        refine ls_skip ?_
        refine hK7 _ (ls_keep [] trivial rfl ?_)
        refine ls_rs tbOk ?_
        refine evs (ev_ac rfl nofun rfl (evn ?_))
        refine ls_keep [(4, .bool true)] ⟨kr, trivial⟩ rfl ?_
        refine ls_ret ?_
        have hr := Option.some.inj h
        rw [← hr]
        exact ⟨.inl rfl, rfl⟩
def laws_FnExactTightRowCount (a0 : Int × (List ((List UInt8) × (List Int))) × (List Int)) (a1 : List Int) (a2 : Int) : Option (Bool) := cond (decide (1048576 < (List.length a1 : Int))) (some true) (obind (laws_szQuery a0 1048576) fun v3 => cond (decide (v3 < 0)) (some true) (obind (laws_toQuery a0) fun v7 => obind (laws_toIntS a1) fun v9 => obind (spec_TightRowCount v7 v9 a2) fun v11 => obind (laws_toQuery a0) fun v13 => obind (laws_toIntS a1) fun v15 => obind (impl_TightRowCount v13 v15 a2) fun v17 => cond (v17.1 != v11.1) (some false) (cond (!(v17.2 == v11.2)) (some false) (obind (laws_toQuery a0) fun v23 => obind (laws_eqQuery v13 v23) fun v25 => cond (!v25) (some false) (obind (laws_toIntS a1) fun v29 => obind (laws_eqIntS v15 v29) fun v31 => cond (!v31) (some false) (some true))))))
theorem laws_FnExactTightRowCount_s {a0 : Int × (List ((List UInt8) × (List Int))) × (List Int)} {a1 : List Int} {a2 : Int} {r : Bool} (h : laws_FnExactTightRowCount a0 a1 a2 = some r) : SoundAt Try.prog 6 [.agg [.int .i64 a0.1, .dat a0.2.1.length (a0.2.1.flatMap c171_d), .dat a0.2.2.length (a0.2.2.flatMap ci64)], .dat a1.length (a1.flatMap ci64), .int .i64 a2] (.bool r) := by
  unfold laws_FnExactTightRowCount at h
  refine sound_lit tbOk lit6 (Nat.le_of_ble_eq_true rfl) rfl ?_
  unfold c6
  refine ls_keep [(0, .agg [.int .i64 a0.1, .dat a0.2.1.length (a0.2.1.flatMap c171_d), .dat a0.2.2.length (a0.2.2.flatMap ci64)]), (1, .dat a1.length (a1.flatMap ci64)), (2, .int .i64 a2)] ⟨kr, kr, kr, trivial⟩ rfl ?_
  refine ls_rs tbOk ?_
  refine evs (ev_bx (c1 := .agg [.int .i64 a0.1, .dat a0.2.1.length (a0.2.1.flatMap c171_d), .dat a0.2.2.length (a0.2.2.flatMap ci64)]) rfl rfl rfl (evs (ev_ac rfl nofun rfl (evn ?_))))
  refine ls_keep [(1, .dat a1.length (a1.flatMap ci64)), (2, .int .i64 a2), (3, .box [.int .i64 a0.1, .dat a0.2.1.length (a0.2.1.flatMap c171_d), .dat a0.2.2.length (a0.2.2.flatMap ci64)])] ⟨kr, kr, kr, trivial⟩ rfl ?_
  refine ls_seq_k fun K1 hK1 => ?_
  refine ls_rs tbOk ?_
  refine evs (ev_mv (c := .dat a1.length (a1.flatMap ci64)) rfl rfl rfl (evs (ev_len (c1 := .dat a1.length (a1.flatMap ci64)) rfl rfl rfl (evs (ev_bin (c1 := .int .i64 (List.length a1 : Int)) (c2 := .int .i64 1048576) rfl rfl rfl (evn ?_))))))
  refine ls_keep [(1, .dat a1.length (a1.flatMap ci64)), (2, .int .i64 a2), (3, .box [.int .i64 a0.1, .dat a0.2.1.length (a0.2.1.flatMap c171_d), .dat a0.2.2.length (a0.2.2.flatMap ci64)]), (16, .bool (decide (1048576 < (List.length a1 : Int))))] ⟨kr, kr, kr, kr, trivial⟩ rfl ?_
  rcases cond_some h with ⟨g2, h⟩ | ⟨g2, h⟩
  · refine ls_cT rfl g2 ?_
    refine ls_rs tbOk ?_
    refine evs (ev_ac rfl nofun rfl (evn ?_))
    refine ls_keep [(6, .bool true)] ⟨kr, trivial⟩ rfl ?_
    refine ls_ret ?_
    have hr := Option.some.inj h
    rw [← hr]
    exact ⟨.inl rfl, rfl⟩
  · refine ls_cF rfl g2 ?_
    refine ls_skip ?_
    refine hK1 _ (ls_keep [(1, .dat a1.length (a1.flatMap ci64)), (2, .int .i64 a2), (3, .box [.int .i64 a0.1, .dat a0.2.1.length (a0.2.1.flatMap c171_d), .dat a0.2.2.length (a0.2.2.flatMap ci64)])] ⟨kr, kr, kr, trivial⟩ rfl ?_)
    refine ls_rs tbOk ?_
    refine evs (ev_ac rfl nofun rfl (evn ?_))
    refine ls_keep [(1, .dat a1.length (a1.flatMap ci64)), (2, .int .i64 a2), (3, .box [.int .i64 a0.1, .dat a0.2.1.length (a0.2.1.flatMap c171_d), .dat a0.2.2.length (a0.2.2.flatMap ci64)]), (7, .int .i64 1048576)] ⟨kr, kr, kr, kr, trivial⟩ rfl ?_
    refine ls_rs tbOk ?_
    refine evs (ev_ldB (off := 0) (v := .agg [.int .i64 a0.1, .dat a0.2.1.length (a0.2.1.flatMap c171_d), .dat a0.2.2.length (a0.2.2.flatMap ci64)]) rfl rfl rfl rfl (Nat.le_of_ble_eq_true rfl) rfl (evs (ev_mv (c := .int .i64 1048576) rfl rfl rfl (?_))))
    obtain ⟨v3, g4, h⟩ := ob_some h
    refine evs (ev_call (era rfl (erg (erc rfl (erc (erD ec171_d _) (erc (erD eci64 _) rfl)))) (era rfl rfl eran)) (laws_szQuery_s g4) (evs (ev_as (c := .int .i64 v3) rfl rfl rfl (evn ?_))))
    refine ls_keep [(1, .dat a1.length (a1.flatMap ci64)), (2, .int .i64 a2), (3, .box [.int .i64 a0.1, .dat a0.2.1.length (a0.2.1.flatMap c171_d), .dat a0.2.2.length (a0.2.2.flatMap ci64)]), (7, .int .i64 v3)] ⟨kr, kr, kr, kr, trivial⟩ rfl ?_
    refine ls_seq_k fun K5 hK5 => ?_
    refine ls_rs tbOk ?_
    refine evs (ev_mv (c := .int .i64 v3) rfl rfl rfl (evs (ev_bin (c1 := .int .i64 v3) (c2 := .int .i64 0) rfl rfl rfl (evn ?_))))
    refine ls_keep [(1, .dat a1.length (a1.flatMap ci64)), (2, .int .i64 a2), (3, .box [.int .i64 a0.1, .dat a0.2.1.length (a0.2.1.flatMap c171_d), .dat a0.2.2.length (a0.2.2.flatMap ci64)]), (21, .bool (decide (v3 < 0)))] ⟨kr, kr, kr, kr, trivial⟩ rfl ?_
    rcases cond_some h with ⟨g6, h⟩ | ⟨g6, h⟩
    · refine ls_cT rfl g6 ?_
      refine ls_rs tbOk ?_
      refine evs (ev_ac rfl nofun rfl (evn ?_))
      refine ls_keep [(6, .bool true)] ⟨kr, trivial⟩ rfl ?_
      refine ls_ret ?_
      have hr := Option.some.inj h
      rw [← hr]
      exact ⟨.inl rfl, rfl⟩
    · refine ls_cF rfl g6 ?_
      refine ls_skip ?_
      refine hK5 _ (ls_keep [(1, .dat a1.length (a1.flatMap ci64)), (2, .int .i64 a2), (3, .box [.int .i64 a0.1, .dat a0.2.1.length (a0.2.1.flatMap c171_d), .dat a0.2.2.length (a0.2.2.flatMap ci64)])] ⟨kr, kr, kr, trivial⟩ rfl ?_)
      refine ls_rs tbOk ?_
      refine evs (ev_ldB (off := 0) (v := .agg [.int .i64 a0.1, .dat a0.2.1.length (a0.2.1.flatMap c171_d), .dat a0.2.2.length (a0.2.2.flatMap ci64)]) rfl rfl rfl rfl (Nat.le_of_ble_eq_true rfl) rfl (?_))
      obtain ⟨v7, g8, h⟩ := ob_some h
      refine evs (ev_call (era rfl (erg (erc rfl (erc (erD ec171_d _) (erc (erD eci64 _) rfl)))) eran) (laws_toQuery_s g8) (evs (ev_mv (c := .dat a1.length (a1.flatMap ci64)) rfl rfl rfl (?_))))
      obtain ⟨v9, g10, h⟩ := ob_some h
      refine evs (ev_call (era rfl (erD eci64 _) eran) (laws_toIntS_s g10) (evs (ev_mv (c := .int .i64 a2) rfl rfl rfl (?_))))
      obtain ⟨v11, g12, h⟩ := ob_some h
      refine evs (ev_call (era rfl (erg (erc rfl (erc (erO ec150_o _) (erc (erO eci64 _) rfl)))) (era rfl (erO eci64 _) (era rfl rfl eran))) (spec_TightRowCount_s g12) (evs (ev_mv (c := .tup [.int .i64 v11.1, .bool v11.2]) rfl rfl rfl (evs (ev_ext rfl rfl rfl rfl (evs (ev_ext rfl rfl rfl rfl (evs (ev_as (c := .int .i64 v11.1) rfl rfl rfl (evs (ev_as (c := .bool v11.2) rfl rfl rfl (evn ?_))))))))))))
      refine ls_keep [(1, .dat a1.length (a1.flatMap ci64)), (2, .int .i64 a2), (3, .box [.int .i64 a0.1, .dat a0.2.1.length (a0.2.1.flatMap c171_d), .dat a0.2.2.length (a0.2.2.flatMap ci64)]), (8, .int .i64 v11.1), (9, .bool v11.2)] ⟨kr, kr, kr, kr, kr, trivial⟩ rfl ?_
      refine ls_rs tbOk ?_
      refine evs (ev_ldB (off := 0) (v := .agg [.int .i64 a0.1, .dat a0.2.1.length (a0.2.1.flatMap c171_d), .dat a0.2.2.length (a0.2.2.flatMap ci64)]) rfl rfl rfl rfl (Nat.le_of_ble_eq_true rfl) rfl (?_))
      obtain ⟨v13, g14, h⟩ := ob_some h
      refine evs (ev_call (era rfl (erg (erc rfl (erc (erD ec171_d _) (erc (erD eci64 _) rfl)))) eran) (laws_toQuery_s g14) (evs (ev_al rfl rfl (evs (ev_st (off := 0) (c1 := .agg [.int .i64 v13.1, .own 150 v13.2.1.length (v13.2.1.flatMap c150_o), .own 3 v13.2.2.length (v13.2.2.flatMap ci64)]) (cs' := [.int .i64 v13.1, .own 150 v13.2.1.length (v13.2.1.flatMap c150_o), .own 3 v13.2.2.length (v13.2.2.flatMap ci64)]) rfl rfl rfl rfl rfl rfl (Nat.le_of_ble_eq_true rfl) rfl (evn ?_))))))
      refine ls_keep [(1, .dat a1.length (a1.flatMap ci64)), (2, .int .i64 a2), (3, .box [.int .i64 a0.1, .dat a0.2.1.length (a0.2.1.flatMap c171_d), .dat a0.2.2.length (a0.2.2.flatMap ci64)]), (8, .int .i64 v11.1), (9, .bool v11.2), (10, .box [.int .i64 v13.1, .own 150 v13.2.1.length (v13.2.1.flatMap c150_o), .own 3 v13.2.2.length (v13.2.2.flatMap ci64)])] ⟨kr, kr, kr, kr, kr, kr, trivial⟩ rfl ?_
      refine ls_rs tbOk ?_
      refine evs (ev_mv (c := .dat a1.length (a1.flatMap ci64)) rfl rfl rfl (?_))
      obtain ⟨v15, g16, h⟩ := ob_some h
      refine evs (ev_call (era rfl (erD eci64 _) eran) (laws_toIntS_s g16) (evs (ev_as (c := .own 3 v15.length (v15.flatMap ci64)) rfl rfl rfl (evn ?_))))
      refine ls_keep [(1, .dat a1.length (a1.flatMap ci64)), (2, .int .i64 a2), (3, .box [.int .i64 a0.1, .dat a0.2.1.length (a0.2.1.flatMap c171_d), .dat a0.2.2.length (a0.2.2.flatMap ci64)]), (8, .int .i64 v11.1), (9, .bool v11.2), (10, .box [.int .i64 v13.1, .own 150 v13.2.1.length (v13.2.1.flatMap c150_o), .own 3 v13.2.2.length (v13.2.2.flatMap ci64)]), (11, .own 3 v15.length (v15.flatMap ci64))] ⟨kr, kr, kr, kr, kr, kr, kr, trivial⟩ rfl ?_
      refine ls_rs tbOk ?_
      refine evs (ev_ldB (off := 0) (v := .agg [.int .i64 v13.1, .dat v13.2.1.length (v13.2.1.flatMap c150_o), .dat v13.2.2.length (v13.2.2.flatMap ci64)]) rfl rfl rfl rfl (Nat.le_of_ble_eq_true rfl) rfl (evs (ev_mv (c := .own 3 v15.length (v15.flatMap ci64)) rfl rfl rfl (evs (ev_mv (c := .int .i64 a2) rfl rfl rfl (?_))))))
      obtain ⟨v17, g18, h⟩ := ob_some h
      refine evs (ev_call (era rfl (erg (erc rfl (erc (erD ec150_o _) (erc (erD eci64 _) rfl)))) (era rfl (erD eci64 _) (era rfl rfl eran))) (impl_TightRowCount_s g18) (evs (ev_mv (c := .tup [.int .i64 v17.1, .bool v17.2]) rfl rfl rfl (evs (ev_ext rfl rfl rfl rfl (evs (ev_ext rfl rfl rfl rfl (evs (ev_as (c := .int .i64 v17.1) rfl rfl rfl (evs (ev_as (c := .bool v17.2) rfl rfl rfl (evn ?_))))))))))))
      refine ls_keep [(1, .dat a1.length (a1.flatMap ci64)), (3, .box [.int .i64 a0.1, .dat a0.2.1.length (a0.2.1.flatMap c171_d), .dat a0.2.2.length (a0.2.2.flatMap ci64)]), (8, .int .i64 v11.1), (9, .bool v11.2), (10, .box [.int .i64 v13.1, .own 150 v13.2.1.length (v13.2.1.flatMap c150_o), .own 3 v13.2.2.length (v13.2.2.flatMap ci64)]), (11, .own 3 v15.length (v15.flatMap ci64)), (12, .int .i64 v17.1), (13, .bool v17.2)] ⟨kr, kr, kr, kr, kr, kr, kr, kr, trivial⟩ rfl ?_
      refine ls_seq_k fun K19 hK19 => ?_
      refine ls_rs tbOk ?_
      refine evs (ev_mv (c := .int .i64 v17.1) rfl rfl rfl (evs (ev_mv (c := .int .i64 v11.1) rfl rfl rfl (evs (ev_bin (c1 := .int .i64 v17.1) (c2 := .int .i64 v11.1) rfl rfl rfl (evs (ev_mv (c := .bool (v17.1 != v11.1)) rfl rfl rfl (?_))))))))
      rcases cond_some h with ⟨g20, h⟩ | ⟨g20, h⟩
      · refine evs (ev_gs rfl rfl (isb_T g20) (evs (ev_gs rfl rfl (isb_T g20) (evs (ev_gs rfl rfl (isb_T g20) (evs (ev_pkT (c1 := .bool true) rfl g20 rfl rfl (evn ?_))))))))
        refine ls_keep [(1, .dat a1.length (a1.flatMap ci64)), (3, .box [.int .i64 a0.1, .dat a0.2.1.length (a0.2.1.flatMap c171_d), .dat a0.2.2.length (a0.2.2.flatMap ci64)]), (10, .box [.int .i64 v13.1, .own 150 v13.2.1.length (v13.2.1.flatMap c150_o), .own 3 v13.2.2.length (v13.2.2.flatMap ci64)]), (11, .own 3 v15.length (v15.flatMap ci64)), (49, .bool true)] ⟨kr, kr, kr, kr, kr, trivial⟩ rfl ?_
        refine ls_cT rfl rfl ?_
        refine ls_rs tbOk ?_
        refine evs (ev_ac rfl nofun rfl (evn ?_))
        refine ls_keep [(6, .bool false)] ⟨kr, trivial⟩ rfl ?_
        refine ls_ret ?_
        have hr := Option.some.inj h
        rw [← hr]
        exact ⟨.inl rfl, rfl⟩
      · refine evs (ev_gr rfl (congrArg V.bool g20) (ev_mv (c := .bool v17.2) rfl rfl rfl (evs (ev_gr rfl (congrArg V.bool g20) (ev_mv (c := .bool v11.2) rfl rfl rfl (evs (ev_gr rfl (congrArg V.bool g20) (ev_bin (c1 := .bool v17.2) (c2 := .bool v11.2) rfl rfl rfl (evs (ev_pkF (c1 := .bool (!(v17.2 == v11.2))) rfl g20 rfl rfl (evn ?_)))))))))))
        refine ls_keep [(1, .dat a1.length (a1.flatMap ci64)), (3, .box [.int .i64 a0.1, .dat a0.2.1.length (a0.2.1.flatMap c171_d), .dat a0.2.2.length (a0.2.2.flatMap ci64)]), (10, .box [.int .i64 v13.1, .own 150 v13.2.1.length (v13.2.1.flatMap c150_o), .own 3 v13.2.2.length (v13.2.2.flatMap ci64)]), (11, .own 3 v15.length (v15.flatMap ci64)), (49, .bool (!(v17.2 == v11.2)))] ⟨kr, kr, kr, kr, kr, trivial⟩ rfl ?_
        rcases cond_some h with ⟨g21, h⟩ | ⟨g21, h⟩
        · refine ls_cT rfl g21 ?_
          refine ls_rs tbOk ?_
          refine evs (ev_ac rfl nofun rfl (evn ?_))
          refine ls_keep [(6, .bool false)] ⟨kr, trivial⟩ rfl ?_
          refine ls_ret ?_
          have hr := Option.some.inj h
          rw [← hr]
          exact ⟨.inl rfl, rfl⟩
        · refine ls_cF rfl g21 ?_
          refine ls_skip ?_
          refine hK19 _ (ls_keep [(1, .dat a1.length (a1.flatMap ci64)), (3, .box [.int .i64 a0.1, .dat a0.2.1.length (a0.2.1.flatMap c171_d), .dat a0.2.2.length (a0.2.2.flatMap ci64)]), (10, .box [.int .i64 v13.1, .own 150 v13.2.1.length (v13.2.1.flatMap c150_o), .own 3 v13.2.2.length (v13.2.2.flatMap ci64)]), (11, .own 3 v15.length (v15.flatMap ci64))] ⟨kr, kr, kr, kr, trivial⟩ rfl ?_)
          refine ls_seq_k fun K22 hK22 => ?_
          refine ls_rd tbOk mixed (by kernel_rfl) ?_
          refine evd rfl rfl (ev_ldB (off := 0) (v := .agg [.int .i64 v13.1, .dat v13.2.1.length (v13.2.1.flatMap c150_o), .dat v13.2.2.length (v13.2.2.flatMap ci64)]) rfl rfl rfl rfl (Nat.le_of_ble_eq_true rfl) rfl (evd rfl rfl (ev_ldB (off := 0) (v := .agg [.int .i64 a0.1, .dat a0.2.1.length (a0.2.1.flatMap c171_d), .dat a0.2.2.length (a0.2.2.flatMap ci64)]) rfl rfl rfl rfl (Nat.le_of_ble_eq_true rfl) rfl (?_))))
          obtain ⟨v23, g24, h⟩ := ob_some h
          refine evd rfl rfl (ev_call (era rfl (erg (erc rfl (erc (erD ec171_d _) (erc (erD eci64 _) rfl)))) eran) (laws_toQuery_s g24) (?_))
          obtain ⟨v25, g26, h⟩ := ob_some h
          refine evd rfl rfl (ev_call (era rfl (erg (erc rfl (erc (erD ec150_o _) (erc (erD eci64 _) rfl)))) (era rfl (erg (erc rfl (erc (erO ec150_o _) (erc (erO eci64 _) rfl)))) eran)) (laws_eqQuery_s g26) (evd rfl rfl (ev_un (c1 := .bool v25) rfl trivial (evdn ?_))))
          refine ls_keep [(1, .dat a1.length (a1.flatMap ci64)), (11, .own 3 v15.length (v15.flatMap ci64)), (54, .bool (!v25))] ⟨kr, kr, kr, trivial⟩ rfl ?_
          rcases cond_some h with ⟨g27, h⟩ | ⟨g27, h⟩
          · refine ls_cT rfl g27 ?_
            refine ls_rs tbOk ?_
            refine evs (ev_ac rfl nofun rfl (evn ?_))
            refine ls_keep [(6, .bool false)] ⟨kr, trivial⟩ rfl ?_
            refine ls_ret ?_
            have hr := Option.some.inj h
            rw [← hr]
            exact ⟨.inl rfl, rfl⟩
          · refine ls_cF rfl g27 ?_
            refine ls_skip ?_
            refine hK22 _ (ls_keep [(1, .dat a1.length (a1.flatMap ci64)), (11, .own 3 v15.length (v15.flatMap ci64))] ⟨kr, kr, trivial⟩ rfl ?_)
            refine ls_seq_k fun K28 hK28 => ?_
            refine ls_rs tbOk ?_
            refine evs (ev_mv (c := .own 3 v15.length (v15.flatMap ci64)) rfl rfl rfl (evs (ev_mv (c := .dat a1.length (a1.flatMap ci64)) rfl rfl rfl (?_))))
            obtain ⟨v29, g30, h⟩ := ob_some h
            refine evs (ev_call (era rfl (erD eci64 _) eran) (laws_toIntS_s g30) (?_))
            obtain ⟨v31, g32, h⟩ := ob_some h
            refine evs (ev_call (era rfl (erD eci64 _) (era rfl (erO eci64 _) eran)) (laws_eqIntS_s g32) (evs (ev_un (c1 := .bool v31) rfl trivial (evn ?_))))
            refine ls_keep [(59, .bool (!v31))] ⟨kr, trivial⟩ rfl ?_
            rcases cond_some h with ⟨g33, h⟩ | ⟨g33, h⟩
            · refine ls_cT rfl g33 ?_
              refine ls_rs tbOk ?_
              refine evs (ev_ac rfl nofun rfl (evn ?_))
              refine ls_keep [(6, .bool false)] ⟨kr, trivial⟩ rfl ?_
              refine ls_ret ?_
              have hr := Option.some.inj h
              rw [← hr]
              exact ⟨.inl rfl, rfl⟩
            · refine ls_cF rfl g33 ?_
              refine ls_skip ?_
              refine hK28 _ (ls_keep [] trivial rfl ?_)
              refine ls_rs tbOk ?_
              refine evs (ev_ac rfl nofun rfl (evn ?_))
              refine ls_keep [(6, .bool true)] ⟨kr, trivial⟩ rfl ?_
              refine ls_ret ?_
              have hr := Option.some.inj h
              rw [← hr]
              exact ⟨.inl rfl, rfl⟩
end Go.Proofs.Ytkmkbpphdalgoaa
