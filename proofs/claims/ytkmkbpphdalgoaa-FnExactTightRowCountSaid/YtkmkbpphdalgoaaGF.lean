/-
  Functions of the program as typed functions, printed by gen.py, and that the program's functions do what they say. No conditions.
-/
import Derived.Test.YtkmkbpphdalgoaaGH
namespace Go.Proofs.Ytkmkbpphdalgoaa
open Go.RowKit
set_option linter.unusedVariables false
set_option maxRecDepth 100000
set_option maxHeartbeats 1000000
def laws_szFunctionalDependency (a0 : (List UInt8) × (List Int) × Int) (a1 : Int) : Option (Int) := cond (decide ((IntKind.i64.wrap (a1 - (List.length a0.1 : Int))) < 0)) (some (-1)) (obind (laws_szIntS a0.2.1 (IntKind.i64.wrap (a1 - (List.length a0.1 : Int)))) fun v3 => cond (decide (v3 < 0)) (some (-1)) (some v3))
theorem laws_szFunctionalDependency_s {a0 : (List UInt8) × (List Int) × Int} {a1 : Int} {r : Int} (h : laws_szFunctionalDependency a0 a1 = some r) : SoundAt Try.prog 50 [.agg [.str a0.1, .dat a0.2.1.length (a0.2.1.flatMap ci64), .int .i64 a0.2.2], .int .i64 a1] (.int .i64 r) := by
  unfold laws_szFunctionalDependency at h
  refine sound_lit tbOk lit50 (Nat.le_of_ble_eq_true rfl) rfl ?_
  unfold c50
  refine ls_keep [(0, .agg [.str a0.1, .dat a0.2.1.length (a0.2.1.flatMap ci64), .int .i64 a0.2.2]), (1, .int .i64 a1)] ⟨kr, kr, trivial⟩ rfl ?_
  refine ls_rs tbOk ?_
  refine evs (ev_bx (c1 := .agg [.str a0.1, .dat a0.2.1.length (a0.2.1.flatMap ci64), .int .i64 a0.2.2]) rfl rfl rfl (evs (ev_ac rfl nofun rfl (evn ?_))))
  refine ls_keep [(1, .int .i64 a1), (2, .box [.str a0.1, .dat a0.2.1.length (a0.2.1.flatMap ci64), .int .i64 a0.2.2])] ⟨kr, kr, trivial⟩ rfl ?_
  refine ls_rs tbOk ?_
  refine evs (ev_mv (c := .int .i64 a1) rfl rfl rfl (evs (ev_fa (c1 := .cref 2 0) (v := .cref 2 0) rfl rfl rfl ⟨_, rfl⟩ rfl (evs (ev_ldB (off := 0) (v := .str a0.1) rfl rfl rfl rfl (Nat.le_of_ble_eq_true rfl) rfl (evs (ev_lens (z := []) rfl rfl (evs (ev_bin (c1 := .int .i64 a1) (c2 := .int .i64 (List.length a0.1 : Int)) rfl rfl rfl (evs (ev_as (c := .int .i64 (IntKind.i64.wrap (a1 - (List.length a0.1 : Int)))) rfl rfl rfl (evn ?_))))))))))))
  refine ls_keep [(1, .int .i64 (IntKind.i64.wrap (a1 - (List.length a0.1 : Int)))), (2, .box [.str a0.1, .dat a0.2.1.length (a0.2.1.flatMap ci64), .int .i64 a0.2.2])] ⟨kr, kr, trivial⟩ rfl ?_
  refine ls_seq_k fun K1 hK1 => ?_
  refine ls_rs tbOk ?_
  refine evs (ev_mv (c := .int .i64 (IntKind.i64.wrap (a1 - (List.length a0.1 : Int)))) rfl rfl rfl (evs (ev_bin (c1 := .int .i64 (IntKind.i64.wrap (a1 - (List.length a0.1 : Int)))) (c2 := .int .i64 0) rfl rfl rfl (evn ?_))))
  refine ls_keep [(1, .int .i64 (IntKind.i64.wrap (a1 - (List.length a0.1 : Int)))), (2, .box [.str a0.1, .dat a0.2.1.length (a0.2.1.flatMap ci64), .int .i64 a0.2.2]), (11, .bool (decide ((IntKind.i64.wrap (a1 - (List.length a0.1 : Int))) < 0)))] ⟨kr, kr, kr, trivial⟩ rfl ?_
  rcases cond_some h with ⟨g2, h⟩ | ⟨g2, h⟩
  · refine ls_cT rfl g2 ?_
    refine ls_rs tbOk ?_
    refine evs (ev_ac rfl nofun rfl (evn ?_))
    refine ls_keep [(4, .int .i64 (-1))] ⟨kr, trivial⟩ rfl ?_
    refine ls_ret ?_
    have hr := Option.some.inj h
    rw [← hr]
    exact ⟨.inl rfl, rfl⟩
  · refine ls_cF rfl g2 ?_
    refine ls_skip ?_
    refine hK1 _ (ls_keep [(1, .int .i64 (IntKind.i64.wrap (a1 - (List.length a0.1 : Int)))), (2, .box [.str a0.1, .dat a0.2.1.length (a0.2.1.flatMap ci64), .int .i64 a0.2.2])] ⟨kr, kr, trivial⟩ rfl ?_)
    refine ls_rs tbOk ?_
    refine evs (ev_fa (c1 := .cref 2 0) (v := .cref 2 1) rfl rfl rfl ⟨_, rfl⟩ rfl (evs (ev_ldB (off := 1) (v := .dat a0.2.1.length (a0.2.1.flatMap ci64)) rfl rfl rfl rfl (Nat.le_of_ble_eq_true rfl) rfl (evs (ev_mv (c := .int .i64 (IntKind.i64.wrap (a1 - (List.length a0.1 : Int)))) rfl rfl rfl (?_))))))
    obtain ⟨v3, g4, h⟩ := ob_some h
    refine evs (ev_call (era rfl (erD eci64 _) (era rfl rfl eran)) (laws_szIntS_s g4) (evs (ev_as (c := .int .i64 v3) rfl rfl rfl (evn ?_))))
    refine ls_keep [(1, .int .i64 v3)] ⟨kr, trivial⟩ rfl ?_
    refine ls_seq_k fun K5 hK5 => ?_
    refine ls_rs tbOk ?_
    refine evs (ev_mv (c := .int .i64 v3) rfl rfl rfl (evs (ev_bin (c1 := .int .i64 v3) (c2 := .int .i64 0) rfl rfl rfl (evn ?_))))
    refine ls_keep [(1, .int .i64 v3), (17, .bool (decide (v3 < 0)))] ⟨kr, kr, trivial⟩ rfl ?_
    rcases cond_some h with ⟨g6, h⟩ | ⟨g6, h⟩
    · refine ls_cT rfl g6 ?_
      refine ls_rs tbOk ?_
      refine evs (ev_ac rfl nofun rfl (evn ?_))
      refine ls_keep [(4, .int .i64 (-1))] ⟨kr, trivial⟩ rfl ?_
      refine ls_ret ?_
      have hr := Option.some.inj h
      rw [← hr]
      exact ⟨.inl rfl, rfl⟩
    · refine ls_cF rfl g6 ?_
      refine ls_skip ?_
      refine hK5 _ (ls_keep [(1, .int .i64 v3)] ⟨kr, trivial⟩ rfl ?_)
      refine ls_rs tbOk ?_
      refine evs (ev_mv (c := .int .i64 v3) rfl rfl rfl (evs (ev_as (c := .int .i64 v3) rfl rfl rfl (evn ?_))))
      refine ls_keep [(4, .int .i64 v3)] ⟨kr, trivial⟩ rfl ?_
      refine ls_ret ?_
      have hr := Option.some.inj h
      rw [← hr]
      exact ⟨.inl rfl, rfl⟩
def laws_toFunctionalDependency (a0 : (List UInt8) × (List Int) × Int) : Option (((List UInt8) × (List Int) × Int)) := obind (laws_toIntS a0.2.1) fun v1 => some (a0.1, v1, a0.2.2)
theorem laws_toFunctionalDependency_s {a0 : (List UInt8) × (List Int) × Int} {r : ((List UInt8) × (List Int) × Int)} (h : laws_toFunctionalDependency a0 = some r) : SoundAt Try.prog 52 [.agg [.str a0.1, .dat a0.2.1.length (a0.2.1.flatMap ci64), .int .i64 a0.2.2]] (.agg [.str r.1, .own 3 r.2.1.length (r.2.1.flatMap ci64), .int .i64 r.2.2]) := by
  unfold laws_toFunctionalDependency at h
  refine sound_lit tbOk lit52 (Nat.le_of_ble_eq_true rfl) rfl ?_
  unfold c52
  refine ls_keep [(0, .agg [.str a0.1, .dat a0.2.1.length (a0.2.1.flatMap ci64), .int .i64 a0.2.2])] ⟨kr, trivial⟩ rfl ?_
  refine ls_rs tbOk ?_
  refine evs (ev_bx (c1 := .agg [.str a0.1, .dat a0.2.1.length (a0.2.1.flatMap ci64), .int .i64 a0.2.2]) rfl rfl rfl (evs (ev_al rfl rfl (evn ?_))))
  refine ls_keep [(1, .box [.str a0.1, .dat a0.2.1.length (a0.2.1.flatMap ci64), .int .i64 a0.2.2]), (2, .box [.str [], .own 3 ([] : List Int).length (([] : List Int).flatMap ci64), .int .i64 0])] ⟨kr, kr, trivial⟩ rfl ?_
  refine ls_rs tbOk ?_
  refine evs (ev_al rfl rfl (evn ?_))
  refine ls_keep [(1, .box [.str a0.1, .dat a0.2.1.length (a0.2.1.flatMap ci64), .int .i64 a0.2.2]), (2, .box [.str [], .own 3 ([] : List Int).length (([] : List Int).flatMap ci64), .int .i64 0]), (3, .box [.str [], .own 3 ([] : List Int).length (([] : List Int).flatMap ci64), .int .i64 0])] ⟨kr, kr, kr, trivial⟩ rfl ?_
  refine ls_rs tbOk ?_
  refine evs (ev_fa (c1 := .cref 1 0) (v := .cref 1 0) rfl rfl rfl ⟨_, rfl⟩ rfl (evs (ev_ldB (off := 0) (v := .str a0.1) rfl rfl rfl rfl (Nat.le_of_ble_eq_true rfl) rfl (evs (ev_fa (c1 := .cref 3 0) (v := .cref 3 0) rfl rfl rfl ⟨_, rfl⟩ rfl (evs (ev_st (off := 0) (c1 := .str a0.1) (cs' := [.str a0.1, .own 3 ([] : List Int).length (([] : List Int).flatMap ci64), .int .i64 0]) rfl rfl rfl rfl rfl rfl (Nat.le_of_ble_eq_true rfl) rfl (evn ?_))))))))
  refine ls_keep [(1, .box [.str a0.1, .dat a0.2.1.length (a0.2.1.flatMap ci64), .int .i64 a0.2.2]), (2, .box [.str [], .own 3 ([] : List Int).length (([] : List Int).flatMap ci64), .int .i64 0]), (3, .box [.str a0.1, .own 3 ([] : List Int).length (([] : List Int).flatMap ci64), .int .i64 0])] ⟨kr, kr, kr, trivial⟩ rfl ?_
  refine ls_rs tbOk ?_
  refine evs (ev_fa (c1 := .cref 1 0) (v := .cref 1 1) rfl rfl rfl ⟨_, rfl⟩ rfl (evs (ev_ldB (off := 1) (v := .dat a0.2.1.length (a0.2.1.flatMap ci64)) rfl rfl rfl rfl (Nat.le_of_ble_eq_true rfl) rfl (?_))))
  obtain ⟨v1, g2, h⟩ := ob_some h
  refine evs (ev_call (era rfl (erD eci64 _) eran) (laws_toIntS_s g2) (evs (ev_fa (c1 := .cref 3 0) (v := .cref 3 1) rfl rfl rfl ⟨_, rfl⟩ rfl (evs (ev_st (off := 1) (c1 := .own 3 v1.length (v1.flatMap ci64)) (cs' := [.str a0.1, .own 3 v1.length (v1.flatMap ci64), .int .i64 0]) rfl rfl rfl rfl rfl rfl (Nat.le_of_ble_eq_true rfl) rfl (evn ?_))))))
  refine ls_keep [(1, .box [.str a0.1, .dat a0.2.1.length (a0.2.1.flatMap ci64), .int .i64 a0.2.2]), (2, .box [.str [], .own 3 ([] : List Int).length (([] : List Int).flatMap ci64), .int .i64 0]), (3, .box [.str a0.1, .own 3 v1.length (v1.flatMap ci64), .int .i64 0])] ⟨kr, kr, kr, trivial⟩ rfl ?_
  refine ls_rs tbOk ?_
  refine evs (ev_fa (c1 := .cref 1 0) (v := .cref 1 2) rfl rfl rfl ⟨_, rfl⟩ rfl (evs (ev_ldB (off := 2) (v := .int .i64 a0.2.2) rfl rfl rfl rfl (Nat.le_of_ble_eq_true rfl) rfl (evs (ev_fa (c1 := .cref 3 0) (v := .cref 3 2) rfl rfl rfl ⟨_, rfl⟩ rfl (evs (ev_st (off := 2) (c1 := .int .i64 a0.2.2) (cs' := [.str a0.1, .own 3 v1.length (v1.flatMap ci64), .int .i64 a0.2.2]) rfl rfl rfl rfl rfl rfl (Nat.le_of_ble_eq_true rfl) rfl (evn ?_))))))))
  refine ls_keep [(2, .box [.str [], .own 3 ([] : List Int).length (([] : List Int).flatMap ci64), .int .i64 0]), (3, .box [.str a0.1, .own 3 v1.length (v1.flatMap ci64), .int .i64 a0.2.2])] ⟨kr, kr, trivial⟩ rfl ?_
  refine ls_rs tbOk ?_
  refine evs (ev_ldBt (off := 0) (v := .agg [.str a0.1, .own 3 v1.length (v1.flatMap ci64), .int .i64 a0.2.2]) (c' := .box [.str a0.1, .dat v1.length (v1.flatMap ci64), .int .i64 a0.2.2]) rfl rfl rfl rfl (Nat.le_of_ble_eq_true rfl) rfl rfl (evs (ev_st (off := 0) (c1 := .agg [.str a0.1, .own 3 v1.length (v1.flatMap ci64), .int .i64 a0.2.2]) (cs' := [.str a0.1, .own 3 v1.length (v1.flatMap ci64), .int .i64 a0.2.2]) rfl rfl rfl rfl rfl rfl (Nat.le_of_ble_eq_true rfl) rfl (evn ?_))))
  refine ls_keep [(2, .box [.str a0.1, .own 3 v1.length (v1.flatMap ci64), .int .i64 a0.2.2])] ⟨kr, trivial⟩ rfl ?_
  refine ls_ret ?_
  have hr := Option.some.inj h
  rw [← hr]
  exact ⟨.inl rfl, rfl⟩
def laws_eqFunctionalDependency (a0 : (List UInt8) × (List Int) × Int) (a1 : (List UInt8) × (List Int) × Int) : Option (Bool) := cond (!(a0.1 == a1.1)) (some false) (obind (laws_eqIntS a0.2.1 a1.2.1) fun v4 => cond (!v4) (some false) (cond (a0.2.2 != a1.2.2) (some false) (some true)))
theorem laws_eqFunctionalDependency_s {a0 : (List UInt8) × (List Int) × Int} {a1 : (List UInt8) × (List Int) × Int} {r : Bool} (h : laws_eqFunctionalDependency a0 a1 = some r) : SoundAt Try.prog 54 [.agg [.str a0.1, .dat a0.2.1.length (a0.2.1.flatMap ci64), .int .i64 a0.2.2], .agg [.str a1.1, .dat a1.2.1.length (a1.2.1.flatMap ci64), .int .i64 a1.2.2]] (.bool r) := by
  unfold laws_eqFunctionalDependency at h
  refine sound_lit tbOk lit54 (Nat.le_of_ble_eq_true rfl) rfl ?_
  unfold c54
  refine ls_keep [(0, .agg [.str a0.1, .dat a0.2.1.length (a0.2.1.flatMap ci64), .int .i64 a0.2.2]), (1, .agg [.str a1.1, .dat a1.2.1.length (a1.2.1.flatMap ci64), .int .i64 a1.2.2])] ⟨kr, kr, trivial⟩ rfl ?_
  refine ls_rs tbOk ?_
  refine evs (ev_bx (c1 := .agg [.str a0.1, .dat a0.2.1.length (a0.2.1.flatMap ci64), .int .i64 a0.2.2]) rfl rfl rfl (evs (ev_bx (c1 := .agg [.str a1.1, .dat a1.2.1.length (a1.2.1.flatMap ci64), .int .i64 a1.2.2]) rfl rfl rfl (evs (ev_ac rfl nofun rfl (evn ?_))))))
  refine ls_keep [(2, .box [.str a0.1, .dat a0.2.1.length (a0.2.1.flatMap ci64), .int .i64 a0.2.2]), (3, .box [.str a1.1, .dat a1.2.1.length (a1.2.1.flatMap ci64), .int .i64 a1.2.2])] ⟨kr, kr, trivial⟩ rfl ?_
  refine ls_seq_k fun K1 hK1 => ?_
  refine ls_rs tbOk ?_
  refine evs (ev_fa (c1 := .cref 2 0) (v := .cref 2 0) rfl rfl rfl ⟨_, rfl⟩ rfl (evs (ev_ldB (off := 0) (v := .str a0.1) rfl rfl rfl rfl (Nat.le_of_ble_eq_true rfl) rfl (evs (ev_fa (c1 := .cref 3 0) (v := .cref 3 0) rfl rfl rfl ⟨_, rfl⟩ rfl (evs (ev_ldB (off := 0) (v := .str a1.1) rfl rfl rfl rfl (Nat.le_of_ble_eq_true rfl) rfl (evs (ev_bin (c1 := .str a0.1) (c2 := .str a1.1) rfl rfl trivial (evn ?_))))))))))
  refine ls_keep [(2, .box [.str a0.1, .dat a0.2.1.length (a0.2.1.flatMap ci64), .int .i64 a0.2.2]), (3, .box [.str a1.1, .dat a1.2.1.length (a1.2.1.flatMap ci64), .int .i64 a1.2.2]), (9, .bool (!(a0.1 == a1.1)))] ⟨kr, kr, kr, trivial⟩ rfl ?_
  rcases cond_some h with ⟨g2, h⟩ | ⟨g2, h⟩
  · refine ls_cT rfl g2 ?_
    refine ls_rs tbOk ?_
    refine evs (ev_ac rfl nofun rfl (evn ?_))
    refine ls_keep [(4, .bool false)] ⟨kr, trivial⟩ rfl ?_
    refine ls_ret ?_
    have hr := Option.some.inj h
    rw [← hr]
    exact ⟨.inl rfl, rfl⟩
  · refine ls_cF rfl g2 ?_
    refine ls_skip ?_
    refine hK1 _ (ls_keep [(2, .box [.str a0.1, .dat a0.2.1.length (a0.2.1.flatMap ci64), .int .i64 a0.2.2]), (3, .box [.str a1.1, .dat a1.2.1.length (a1.2.1.flatMap ci64), .int .i64 a1.2.2])] ⟨kr, kr, trivial⟩ rfl ?_)
    refine ls_seq_k fun K3 hK3 => ?_
    refine ls_rs tbOk ?_
    refine evs (ev_fa (c1 := .cref 2 0) (v := .cref 2 1) rfl rfl rfl ⟨_, rfl⟩ rfl (evs (ev_ldB (off := 1) (v := .dat a0.2.1.length (a0.2.1.flatMap ci64)) rfl rfl rfl rfl (Nat.le_of_ble_eq_true rfl) rfl (evs (ev_fa (c1 := .cref 3 0) (v := .cref 3 1) rfl rfl rfl ⟨_, rfl⟩ rfl (evs (ev_ldB (off := 1) (v := .dat a1.2.1.length (a1.2.1.flatMap ci64)) rfl rfl rfl rfl (Nat.le_of_ble_eq_true rfl) rfl (?_))))))))
    obtain ⟨v4, g5, h⟩ := ob_some h
    refine evs (ev_call (era rfl (erD eci64 _) (era rfl (erD eci64 _) eran)) (laws_eqIntS_s g5) (evs (ev_un (c1 := .bool v4) rfl trivial (evn ?_))))
    refine ls_keep [(2, .box [.str a0.1, .dat a0.2.1.length (a0.2.1.flatMap ci64), .int .i64 a0.2.2]), (3, .box [.str a1.1, .dat a1.2.1.length (a1.2.1.flatMap ci64), .int .i64 a1.2.2]), (15, .bool (!v4))] ⟨kr, kr, kr, trivial⟩ rfl ?_
    rcases cond_some h with ⟨g6, h⟩ | ⟨g6, h⟩
    · refine ls_cT rfl g6 ?_
      refine ls_rs tbOk ?_
      refine evs (ev_ac rfl nofun rfl (evn ?_))
      refine ls_keep [(4, .bool false)] ⟨kr, trivial⟩ rfl ?_
      refine ls_ret ?_
      have hr := Option.some.inj h
      rw [← hr]
      exact ⟨.inl rfl, rfl⟩
    · refine ls_cF rfl g6 ?_
      refine ls_skip ?_
      refine hK3 _ (ls_keep [(2, .box [.str a0.1, .dat a0.2.1.length (a0.2.1.flatMap ci64), .int .i64 a0.2.2]), (3, .box [.str a1.1, .dat a1.2.1.length (a1.2.1.flatMap ci64), .int .i64 a1.2.2])] ⟨kr, kr, trivial⟩ rfl ?_)
      refine ls_seq_k fun K7 hK7 => ?_
      refine ls_rs tbOk ?_
      refine evs (ev_fa (c1 := .cref 2 0) (v := .cref 2 2) rfl rfl rfl ⟨_, rfl⟩ rfl (evs (ev_ldB (off := 2) (v := .int .i64 a0.2.2) rfl rfl rfl rfl (Nat.le_of_ble_eq_true rfl) rfl (evs (ev_fa (c1 := .cref 3 0) (v := .cref 3 2) rfl rfl rfl ⟨_, rfl⟩ rfl (evs (ev_ldB (off := 2) (v := .int .i64 a1.2.2) rfl rfl rfl rfl (Nat.le_of_ble_eq_true rfl) rfl (evs (ev_bin (c1 := .int .i64 a0.2.2) (c2 := .int .i64 a1.2.2) rfl rfl rfl (evn ?_))))))))))
      refine ls_keep [(20, .bool (a0.2.2 != a1.2.2))] ⟨kr, trivial⟩ rfl ?_
      rcases cond_some h with ⟨g8, h⟩ | ⟨g8, h⟩
      · refine ls_cT rfl g8 ?_
        refine ls_rs tbOk ?_
        refine evs (ev_ac rfl nofun rfl (evn ?_))
        refine ls_keep [(4, .bool false)] ⟨kr, trivial⟩ rfl ?_
        refine ls_ret ?_
        have hr := Option.some.inj h
        rw [← hr]
        exact ⟨.inl rfl, rfl⟩
      · refine ls_cF rfl g8 ?_
        refine ls_skip ?_
        refine hK7 _ (ls_keep [] trivial rfl ?_)
        refine ls_rs tbOk ?_
        refine evs (ev_ac rfl nofun rfl (evn ?_))
        refine ls_keep [(4, .bool true)] ⟨kr, trivial⟩ rfl ?_
        refine ls_ret ?_
        have hr := Option.some.inj h
        rw [← hr]
        exact ⟨.inl rfl, rfl⟩
def spec_l5Copy_B1 (a0 : Int × (List (List Int))) (rec : ((List (List Int)) × Int) → Option ((List (List Int)))) (s : (List (List Int)) × Int) : Option ((List (List Int))) := match s with
  | (y1, y2) => cond (decide (y2 < (List.length a0.2 : Int))) (obind (geti a0.2 y2) fun e6 => chk (List.length ([] : List Int) + List.length e6 ≤ lim) (chk (List.length y1 + List.length ([([] : List Int) ++ e6]) ≤ lim) (rec ((y1 ++ ([([] : List Int) ++ e6])), (IntKind.i64.wrap (y2 + 1)))))) (some y1)
def spec_l5Copy (a0 : Int × (List (List Int))) : Option ((Int × (List (List Int)))) := obind (loopF (spec_l5Copy_B1 a0) fz (([] : List (List Int)), 0)) fun z2 => some (a0.1, z2)
theorem spec_l5Copy_s {a0 : Int × (List (List Int))} {r : (Int × (List (List Int)))} (h : spec_l5Copy a0 = some r) : SoundAt Try.prog 137 [.agg [.int .i64 a0.1, .dat a0.2.length (a0.2.flatMap c30_d)]] (.agg [.int .i64 r.1, .own 30 r.2.length (r.2.flatMap c30_o)]) := by
  unfold spec_l5Copy at h
  refine sound_lit tbOk lit137 (Nat.le_of_ble_eq_true rfl) rfl ?_
  unfold c137
  refine ls_keep [(0, .agg [.int .i64 a0.1, .dat a0.2.length (a0.2.flatMap c30_d)])] ⟨kr, trivial⟩ rfl ?_
  refine ls_rs tbOk ?_
  refine evs (ev_bx (c1 := .agg [.int .i64 a0.1, .dat a0.2.length (a0.2.flatMap c30_d)]) rfl rfl rfl (evs (ev_al rfl rfl (evn ?_))))
  refine ls_keep [(1, .box [.int .i64 a0.1, .dat a0.2.length (a0.2.flatMap c30_d)]), (2, .box [.int .i64 0, .own 30 ([] : List (List Int)).length (([] : List (List Int)).flatMap c30_o)])] ⟨kr, kr, trivial⟩ rfl ?_
  refine ls_rs tbOk ?_
  refine evs (ev_fa (c1 := .cref 1 0) (v := .cref 1 0) rfl rfl rfl ⟨_, rfl⟩ rfl (evs (ev_ldB (off := 0) (v := .int .i64 a0.1) rfl rfl rfl rfl (Nat.le_of_ble_eq_true rfl) rfl (evs (ev_bd [.int .i64 a0.1] (cs := [.int .i64 a0.1, .own 30 ([] : List (List Int)).length (([] : List (List Int)).flatMap c30_o)]) rfl ⟨rfl, trivial⟩ rfl (evs (ev_al rfl rfl (evs (ev_st (off := 0) (c1 := .agg [.int .i64 a0.1, .own 30 ([] : List (List Int)).length (([] : List (List Int)).flatMap c30_o)]) (cs' := [.int .i64 a0.1, .own 30 ([] : List (List Int)).length (([] : List (List Int)).flatMap c30_o)]) rfl rfl rfl rfl rfl rfl (Nat.le_of_ble_eq_true rfl) rfl (evn ?_))))))))))
  refine ls_keep [(1, .box [.int .i64 a0.1, .dat a0.2.length (a0.2.flatMap c30_d)]), (2, .box [.int .i64 0, .own 30 ([] : List (List Int)).length (([] : List (List Int)).flatMap c30_o)]), (3, .box [.int .i64 a0.1, .own 30 ([] : List (List Int)).length (([] : List (List Int)).flatMap c30_o)])] ⟨kr, kr, kr, trivial⟩ rfl ?_
  refine ls_seq_k fun K1 hK1 => ?_
  refine ls_rs tbOk ?_
  refine evs (ev_ac rfl nofun rfl (evn ?_))
  refine ls_keep [(1, .box [.int .i64 a0.1, .dat a0.2.length (a0.2.flatMap c30_d)]), (2, .box [.int .i64 0, .own 30 ([] : List (List Int)).length (([] : List (List Int)).flatMap c30_o)]), (3, .box [.int .i64 a0.1, .own 30 ([] : List (List Int)).length (([] : List (List Int)).flatMap c30_o)]), (4, .int .i64 0)] ⟨kr, kr, kr, kr, trivial⟩ rfl ?_
  obtain ⟨o1, hl, hr1⟩ := ob_some h
  clear h
  have kXspec_l5Copy_B1 : ∀ (z2 : List (List Int)), (some (a0.1, z2)) = some r → ∀ σ' : PS, okK σ' [(2, .box [.int .i64 0, .own 30 ([] : List (List Int)).length (([] : List (List Int)).flatMap c30_o)]), (3, .box [.int .i64 a0.1, .own 30 z2.length (z2.flatMap c30_o)])] → K1 σ' := by
    intro z2 h σ' hk
    refine hK1 _ (ls_keep [(2, .box [.int .i64 0, .own 30 ([] : List (List Int)).length (([] : List (List Int)).flatMap c30_o)]), (3, .box [.int .i64 a0.1, .own 30 z2.length (z2.flatMap c30_o)])] hk rfl ?_)
    refine ls_rs tbOk ?_
    refine evs (ev_ldBt (off := 0) (v := .agg [.int .i64 a0.1, .own 30 z2.length (z2.flatMap c30_o)]) (c' := .box [.int .i64 a0.1, .dat z2.length (z2.flatMap c30_o)]) rfl rfl rfl rfl (Nat.le_of_ble_eq_true rfl) rfl rfl (evs (ev_st (off := 0) (c1 := .agg [.int .i64 a0.1, .own 30 z2.length (z2.flatMap c30_o)]) (cs' := [.int .i64 a0.1, .own 30 z2.length (z2.flatMap c30_o)]) rfl rfl rfl rfl rfl rfl (Nat.le_of_ble_eq_true rfl) rfl (evn ?_))))
    refine ls_keep [(2, .box [.int .i64 a0.1, .own 30 z2.length (z2.flatMap c30_o)])] ⟨kr, trivial⟩ rfl ?_
    refine ls_ret ?_
    have hr := Option.some.inj h
    rw [← hr]
    exact ⟨.inl rfl, rfl⟩
  refine ls_rec (fun (s : (List (List Int)) × Int) => match s with | (y1, y2) => [(1, .box [.int .i64 a0.1, .dat a0.2.length (a0.2.flatMap c30_d)]), (2, .box [.int .i64 0, .own 30 ([] : List (List Int)).length (([] : List (List Int)).flatMap c30_o)]), (3, .box [.int .i64 a0.1, .own 30 y1.length (y1.flatMap c30_o)]), (4, .int .i64 y2)]) (spec_l5Copy_B1 a0) fz (([] : List (List Int)), 0) o1 hl ⟨kr, kr, kr, kr, trivial⟩ (fun _ => rfl) ?_
  rintro m ⟨y1, y2⟩ N h hN
  unfold spec_l5Copy_B1 at h
  dsimp only at h
  refine ls_seq_k fun K3 hK3 => ?_
  refine ls_rs tbOk ?_
  refine evs (ev_mv (c := .int .i64 y2) rfl rfl rfl (evs (ev_fa (c1 := .cref 1 0) (v := .cref 1 1) rfl rfl rfl ⟨_, rfl⟩ rfl (evs (ev_ldB (off := 1) (v := .dat a0.2.length (a0.2.flatMap c30_d)) rfl rfl rfl rfl (Nat.le_of_ble_eq_true rfl) rfl (evs (ev_len (c1 := .dat a0.2.length (a0.2.flatMap c30_d)) rfl rfl rfl (evs (ev_bin (c1 := .int .i64 y2) (c2 := .int .i64 (List.length a0.2 : Int)) rfl rfl rfl (evn ?_))))))))))
  refine ls_keep [(1, .box [.int .i64 a0.1, .dat a0.2.length (a0.2.flatMap c30_d)]), (2, .box [.int .i64 0, .own 30 ([] : List (List Int)).length (([] : List (List Int)).flatMap c30_o)]), (3, .box [.int .i64 a0.1, .own 30 y1.length (y1.flatMap c30_o)]), (4, .int .i64 y2), (12, .bool (decide (y2 < (List.length a0.2 : Int))))] ⟨kr, kr, kr, kr, kr, trivial⟩ rfl ?_
  rcases cond_some h with ⟨g4, h⟩ | ⟨g4, h⟩
  · refine ls_cT rfl g4 ?_
    refine ls_skip ?_
    refine hK3 _ (ls_keep [(1, .box [.int .i64 a0.1, .dat a0.2.length (a0.2.flatMap c30_d)]), (2, .box [.int .i64 0, .own 30 ([] : List (List Int)).length (([] : List (List Int)).flatMap c30_o)]), (3, .box [.int .i64 a0.1, .own 30 y1.length (y1.flatMap c30_o)]), (4, .int .i64 y2)] ⟨kr, kr, kr, kr, trivial⟩ rfl ?_)
    refine ls_seq_k fun K5 hK5 => ?_
    refine ls_blk ?_
    refine ls_drw tbOk mixed (by kernel_rfl) ?_
    refine evd rfl rfl (ev_fa (c1 := .cref 3 0) (v := .cref 3 1) rfl rfl rfl ⟨_, rfl⟩ rfl (evd rfl rfl (ev_ldBt (off := 1) (v := .own 30 y1.length (y1.flatMap c30_o)) (c' := .box [.int .i64 a0.1, .dat y1.length (y1.flatMap c30_o)]) rfl rfl rfl rfl (Nat.le_of_ble_eq_true rfl) rfl rfl (evd rfl rfl (ev_bs [] (cs := []) rfl trivial rfl (Nat.le_of_ble_eq_true rfl) rfl (evd rfl rfl (ev_fa (c1 := .cref 1 0) (v := .cref 1 1) rfl rfl rfl ⟨_, rfl⟩ rfl (evd rfl rfl (ev_ldB (off := 1) (v := .dat a0.2.length (a0.2.flatMap c30_d)) rfl rfl rfl rfl (Nat.le_of_ble_eq_true rfl) rfl (evd rfl rfl (ev_mv (c := .int .i64 y2) rfl rfl rfl (?_))))))))))))
    obtain ⟨e6, g7, h⟩ := ob_some h
    refine evd rfl rfl (ev_ia rfl rfl rfl ⟨(geti_some g7).1, (geti_some g7).2.1⟩ (evd rfl rfl (ev_ldEt (off := 0) (v := .dat e6.length (e6.flatMap ci64)) rfl rfl zc30_d g7 rfl (Nat.le_of_ble_eq_true rfl) rfl (?_))))
    obtain ⟨g8, h⟩ := chk_some h
    refine evd rfl rfl (ev_app (f := ci64) (l := ([] : List Int)) (m := e6) (c2 := .dat e6.length (e6.flatMap ci64)) rfl rfl rfl (flat_len zci64 e6) rfl (map_dg (fun _ => rfl) _) g8 rfl (evd rfl rfl (ev_bs [.own 3 (([] : List Int) ++ e6).length ((([] : List Int) ++ e6).flatMap ci64)] (cs := [.own 3 (([] : List Int) ++ e6).length ((([] : List Int) ++ e6).flatMap ci64)]) rfl ⟨rfl, trivial⟩ rfl (Nat.le_of_ble_eq_true rfl) rfl (?_))))
    obtain ⟨g9, h⟩ := chk_some h
    refine evd rfl rfl (ev_app (f := c30_o) (l := y1) (m := ([([] : List Int) ++ e6])) (c2 := .own 30 ([([] : List Int) ++ e6]).length (([([] : List Int) ++ e6]).flatMap c30_o)) rfl rfl rfl (flat_len zc30_o ([([] : List Int) ++ e6])) rfl rfl g9 rfl (evd rfl rfl (ev_fa (c1 := .cref 3 0) (v := .cref 3 1) rfl rfl rfl ⟨_, rfl⟩ rfl (evd rfl rfl (ev_st (off := 1) (c1 := .own 30 (y1 ++ ([([] : List Int) ++ e6])).length ((y1 ++ ([([] : List Int) ++ e6])).flatMap c30_o)) (cs' := [.int .i64 a0.1, .own 30 (y1 ++ ([([] : List Int) ++ e6])).length ((y1 ++ ([([] : List Int) ++ e6])).flatMap c30_o)]) rfl rfl rfl rfl rfl rfl (Nat.le_of_ble_eq_true rfl) rfl (evdn ?_))))))
    refine hK5 _ (ls_keep [(1, .box [.int .i64 a0.1, .dat a0.2.length (a0.2.flatMap c30_d)]), (2, .box [.int .i64 0, .own 30 ([] : List (List Int)).length (([] : List (List Int)).flatMap c30_o)]), (3, .box [.int .i64 a0.1, .own 30 (y1 ++ ([([] : List Int) ++ e6])).length ((y1 ++ ([([] : List Int) ++ e6])).flatMap c30_o)]), (4, .int .i64 y2)] ⟨kr, kr, kr, kr, trivial⟩ rfl ?_)
    refine ls_rgn tbOk ?_
    refine evs (ev_mv (c := .int .i64 y2) rfl rfl rfl (evs (ev_bin (c1 := .int .i64 y2) (c2 := .int .i64 1) rfl rfl rfl (evs (ev_as (c := .int .i64 (IntKind.i64.wrap (y2 + 1))) rfl rfl rfl (evn ?_))))))
    exact hN _ ((y1 ++ ([([] : List Int) ++ e6])), (IntKind.i64.wrap (y2 + 1))) h ⟨kr, kr, kr, kr, trivial⟩
  · refine ls_cF rfl g4 ?_
    refine ls_exit ?_
    have q0 := (Option.some.inj h).symm
    have r0 := hr1
    rw [q0] at r0
    exact kXspec_l5Copy_B1 y1 r0 _ ⟨kr, kr, trivial⟩
def spec_LookupRelation_B1 (a0 : (List ((List UInt8) × (Int × (List (List Int)))))) (a1 : List UInt8) (rec : Int → Option (Sum (Unit) ((Int × (List (List Int))) × Bool))) (y1 : Int) : Option (Sum (Unit) ((Int × (List (List Int))) × Bool)) := cond (decide (y1 < (List.length a0 : Int))) (obind (spec_IsValidDatabase a0) fun v4 => cond v4 (obind (geti a0 y1) fun e8 => cond (e8.1 == a1) (obind (geti a0 y1) fun e11 => obind (spec_l5Copy e11.2) fun v13 => some (.inr (v13, true))) (rec (IntKind.i64.wrap (y1 + 1)))) (some (.inl ()))) (some (.inl ()))
def spec_LookupRelation (a0 : (List ((List UInt8) × (Int × (List (List Int)))))) (a1 : List UInt8) : Option ((Int × (List (List Int))) × Bool) := obind (loopF (spec_LookupRelation_B1 a0 a1) fz 0) fun o1 => (match o1 with
  | .inl _ => (some ((0, []), false))
  | .inr r => some r)
theorem spec_LookupRelation_s {a0 : (List ((List UInt8) × (Int × (List (List Int)))))} {a1 : List UInt8} {r : (Int × (List (List Int))) × Bool} (h : spec_LookupRelation a0 a1 = some r) : SoundAt Try.prog 73 [.agg [.dat a0.length (a0.flatMap c157_dd)], .str a1] (.tup [.agg [.int .i64 r.1.1, .own 30 r.1.2.length (r.1.2.flatMap c30_o)], .bool r.2]) := by
  unfold spec_LookupRelation at h
  refine sound_lit tbOk lit73 (Nat.le_of_ble_eq_true rfl) rfl ?_
  unfold c73
  refine ls_keep [(0, .agg [.dat a0.length (a0.flatMap c157_dd)]), (1, .str a1)] ⟨kr, kr, trivial⟩ rfl ?_
  refine ls_rs tbOk ?_
  refine evs (ev_bx (c1 := .agg [.dat a0.length (a0.flatMap c157_dd)]) rfl rfl rfl (evs (ev_al rfl rfl (evs (ev_ac rfl nofun rfl (evn ?_))))))
  refine ls_keep [(1, .str a1), (2, .box [.dat a0.length (a0.flatMap c157_dd)]), (4, .box [.int .i64 0, .own 30 ([] : List (List Int)).length (([] : List (List Int)).flatMap c30_o)])] ⟨kr, kr, kr, trivial⟩ rfl ?_
  refine ls_seq_k fun K1 hK1 => ?_
  refine ls_rs tbOk ?_
  refine evs (ev_ac rfl nofun rfl (evn ?_))
  refine ls_keep [(1, .str a1), (2, .box [.dat a0.length (a0.flatMap c157_dd)]), (4, .box [.int .i64 0, .own 30 ([] : List (List Int)).length (([] : List (List Int)).flatMap c30_o)]), (6, .int .i64 0)] ⟨kr, kr, kr, kr, trivial⟩ rfl ?_
  obtain ⟨o1, hl, hr1⟩ := ob_some h
  clear h
  have kXspec_LookupRelation_B1 : ∀ (_ : Unit), (some ((0, []), false)) = some r → ∀ σ' : PS, okK σ' [(4, .box [.int .i64 0, .own 30 ([] : List (List Int)).length (([] : List (List Int)).flatMap c30_o)])] → K1 σ' := by
    intro _ h σ' hk
    refine hK1 _ (ls_keep [(4, .box [.int .i64 0, .own 30 ([] : List (List Int)).length (([] : List (List Int)).flatMap c30_o)])] hk rfl ?_)
    refine ls_rs tbOk ?_
    refine evs (ev_bd [] (cs := [.int .i64 0, .own 30 ([] : List (List Int)).length (([] : List (List Int)).flatMap c30_o)]) rfl trivial rfl (evs (ev_st (off := 0) (c1 := .agg [.int .i64 0, .own 30 ([] : List (List Int)).length (([] : List (List Int)).flatMap c30_o)]) (cs' := [.int .i64 0, .own 30 ([] : List (List Int)).length (([] : List (List Int)).flatMap c30_o)]) rfl rfl rfl rfl rfl rfl (Nat.le_of_ble_eq_true rfl) rfl (evs (ev_ac rfl nofun rfl (evn ?_))))))
    refine ls_keep [(4, .box [.int .i64 0, .own 30 ([] : List (List Int)).length (([] : List (List Int)).flatMap c30_o)]), (5, .bool false)] ⟨kr, kr, trivial⟩ rfl ?_
    refine ls_ret ?_
    have hr := Option.some.inj h
    rw [← hr]
    exact ⟨.inl rfl, rfl⟩
  refine ls_rec (fun (y1 : Int) => [(1, .str a1), (2, .box [.dat a0.length (a0.flatMap c157_dd)]), (4, .box [.int .i64 0, .own 30 ([] : List (List Int)).length (([] : List (List Int)).flatMap c30_o)]), (6, .int .i64 y1)]) (spec_LookupRelation_B1 a0 a1) fz 0 o1 hl ⟨kr, kr, kr, kr, trivial⟩ (fun _ => rfl) ?_
  rintro m y1 N h hN
  unfold spec_LookupRelation_B1 at h
  refine ls_seq_k fun K2 hK2 => ?_
  refine ls_rs tbOk ?_
  refine evs (ev_mv (c := .int .i64 y1) rfl rfl rfl (evs (ev_fa (c1 := .cref 2 0) (v := .cref 2 0) rfl rfl rfl ⟨_, rfl⟩ rfl (evs (ev_ldB (off := 0) (v := .dat a0.length (a0.flatMap c157_dd)) rfl rfl rfl rfl (Nat.le_of_ble_eq_true rfl) rfl (evs (ev_len (c1 := .dat a0.length (a0.flatMap c157_dd)) rfl rfl rfl (evs (ev_bin (c1 := .int .i64 y1) (c2 := .int .i64 (List.length a0 : Int)) rfl rfl rfl (evs (ev_mv (c := .bool (decide (y1 < (List.length a0 : Int)))) rfl rfl rfl (?_))))))))))))
  rcases cond_some h with ⟨g3, h⟩ | ⟨g3, h⟩
  · refine evs (ev_gr rfl (congrArg V.bool g3) (ev_ldB (off := 0) (v := .agg [.dat a0.length (a0.flatMap c157_dd)]) rfl rfl rfl rfl (Nat.le_of_ble_eq_true rfl) rfl (?_)))
    obtain ⟨v4, g5, h⟩ := ob_some h
    refine evs (ev_gr rfl (congrArg V.bool g3) (ev_call (era rfl (erg (erc (erD ec157_dd _) rfl)) eran) (spec_IsValidDatabase_s g5) (evs (ev_pkT (c1 := .bool v4) rfl g3 rfl rfl (evn ?_)))))
    refine ls_keep [(1, .str a1), (2, .box [.dat a0.length (a0.flatMap c157_dd)]), (4, .box [.int .i64 0, .own 30 ([] : List (List Int)).length (([] : List (List Int)).flatMap c30_o)]), (6, .int .i64 y1), (15, .bool v4)] ⟨kr, kr, kr, kr, kr, trivial⟩ rfl ?_
    rcases cond_some h with ⟨g6, h⟩ | ⟨g6, h⟩
    · refine ls_cT rfl g6 ?_
      refine ls_skip ?_
      refine hK2 _ (ls_keep [(1, .str a1), (2, .box [.dat a0.length (a0.flatMap c157_dd)]), (4, .box [.int .i64 0, .own 30 ([] : List (List Int)).length (([] : List (List Int)).flatMap c30_o)]), (6, .int .i64 y1)] ⟨kr, kr, kr, kr, trivial⟩ rfl ?_)
      refine ls_seq_k fun K7 hK7 => ?_
      refine ls_blk ?_
      refine ls_rs tbOk ?_
      refine evs (ev_fa (c1 := .cref 2 0) (v := .cref 2 0) rfl rfl rfl ⟨_, rfl⟩ rfl (evs (ev_ldB (off := 0) (v := .dat a0.length (a0.flatMap c157_dd)) rfl rfl rfl rfl (Nat.le_of_ble_eq_true rfl) rfl (evs (ev_mv (c := .int .i64 y1) rfl rfl rfl (?_))))))
      obtain ⟨e8, g9, h⟩ := ob_some h
      refine evs (ev_ia rfl rfl rfl ⟨(geti_some g9).1, (geti_some g9).2.1⟩ (evs (ev_fa (c1 := .adr (a0.flatMap c157_dd) (Int.toNat y1 * 3)) (v := .adr (a0.flatMap c157_dd) (Int.toNat y1 * 3)) rfl rfl rfl trivial rfl (evs (ev_ldE (off := 0) (v := .str e8.1) rfl rfl zc157_dd g9 rfl (Nat.le_of_ble_eq_true rfl) rfl (evs (ev_mv (c := .str a1) rfl rfl rfl (evs (ev_bin (c1 := .str e8.1) (c2 := .str a1) rfl rfl trivial (evn ?_))))))))))
      refine ls_keep [(1, .str a1), (2, .box [.dat a0.length (a0.flatMap c157_dd)]), (4, .box [.int .i64 0, .own 30 ([] : List (List Int)).length (([] : List (List Int)).flatMap c30_o)]), (6, .int .i64 y1), (25, .bool (e8.1 == a1))] ⟨kr, kr, kr, kr, kr, trivial⟩ rfl ?_
      rcases cond_some h with ⟨g10, h⟩ | ⟨g10, h⟩
      · refine ls_cT rfl g10 ?_
        refine ls_rs tbOk ?_
        refine evs (ev_fa (c1 := .cref 2 0) (v := .cref 2 0) rfl rfl rfl ⟨_, rfl⟩ rfl (evs (ev_ldB (off := 0) (v := .dat a0.length (a0.flatMap c157_dd)) rfl rfl rfl rfl (Nat.le_of_ble_eq_true rfl) rfl (evs (ev_mv (c := .int .i64 y1) rfl rfl rfl (?_))))))
        obtain ⟨e11, g12, h⟩ := ob_some h
        refine evs (ev_ia rfl rfl rfl ⟨(geti_some g12).1, (geti_some g12).2.1⟩ (evs (ev_fa (c1 := .adr (a0.flatMap c157_dd) (Int.toNat y1 * 3)) (v := .adr (a0.flatMap c157_dd) (Int.toNat y1 * 3 + 1)) rfl rfl rfl trivial rfl (evs (ev_ldE (off := 1) (v := .agg [.int .i64 e11.2.1, .dat e11.2.2.length (e11.2.2.flatMap c30_d)]) rfl rfl zc157_dd g12 rfl (Nat.le_of_ble_eq_true rfl) rfl (?_))))))
        obtain ⟨v13, g14, h⟩ := ob_some h
        refine evs (ev_call (era rfl (erg (erc rfl (erc (erD ec30_d _) rfl))) eran) (spec_l5Copy_s g14) (evs (ev_st (off := 0) (c1 := .agg [.int .i64 v13.1, .own 30 v13.2.length (v13.2.flatMap c30_o)]) (cs' := [.int .i64 v13.1, .own 30 v13.2.length (v13.2.flatMap c30_o)]) rfl rfl rfl rfl rfl rfl (Nat.le_of_ble_eq_true rfl) rfl (evs (ev_ac rfl nofun rfl (evn ?_))))))
        refine ls_keep [(4, .box [.int .i64 v13.1, .own 30 v13.2.length (v13.2.flatMap c30_o)]), (5, .bool true)] ⟨kr, kr, trivial⟩ rfl ?_
        refine ls_ret ?_
        have q0 := (Option.some.inj h).symm
        have r0 := hr1
        rw [q0] at r0
        have hr := Option.some.inj r0
        rw [← hr]
        exact ⟨.inl rfl, rfl⟩
      · refine ls_cF rfl g10 ?_
        refine ls_skip ?_
        refine hK7 _ (ls_keep [(1, .str a1), (2, .box [.dat a0.length (a0.flatMap c157_dd)]), (4, .box [.int .i64 0, .own 30 ([] : List (List Int)).length (([] : List (List Int)).flatMap c30_o)]), (6, .int .i64 y1)] ⟨kr, kr, kr, kr, trivial⟩ rfl ?_)
        refine ls_rgn tbOk ?_
        refine evs (ev_mv (c := .int .i64 y1) rfl rfl rfl (evs (ev_bin (c1 := .int .i64 y1) (c2 := .int .i64 1) rfl rfl rfl (evs (ev_as (c := .int .i64 (IntKind.i64.wrap (y1 + 1))) rfl rfl rfl (evn ?_))))))
        exact hN _ (IntKind.i64.wrap (y1 + 1)) h ⟨kr, kr, kr, kr, trivial⟩
    · refine ls_cF rfl g6 ?_
      refine ls_exit ?_
      have q0 := (Option.some.inj h).symm
      have r0 := hr1
      rw [q0] at r0
      exact kXspec_LookupRelation_B1 () r0 _ ⟨kr, trivial⟩
  · refine evs (ev_gs rfl rfl (isb_F g3) (evs (ev_gs rfl rfl (isb_F g3) (evs (ev_pkF (c1 := .bool false) rfl g3 rfl rfl (evn ?_))))))
    refine ls_keep [(1, .str a1), (2, .box [.dat a0.length (a0.flatMap c157_dd)]), (4, .box [.int .i64 0, .own 30 ([] : List (List Int)).length (([] : List (List Int)).flatMap c30_o)]), (6, .int .i64 y1), (15, .bool false)] ⟨kr, kr, kr, kr, kr, trivial⟩ rfl ?_
    refine ls_cF rfl rfl ?_
    refine ls_exit ?_
    have q0 := (Option.some.inj h).symm
    have r0 := hr1
    rw [q0] at r0
    exact kXspec_LookupRelation_B1 () r0 _ ⟨kr, trivial⟩
def spec_IsValidFD_J2 (rec : Int → Option (Sum (Unit) (Bool))) (y1 : Int) (x8 : Bool) : Option (Sum (Unit) (Bool)) := cond x8 (some (.inr false)) (rec (IntKind.i64.wrap (y1 + 1)))
def spec_IsValidFD_B1 (a1 : (List UInt8) × (List Int) × Int) (v1 : (Int × (List (List Int))) × Bool) (rec : Int → Option (Sum (Unit) (Bool))) (y1 : Int) : Option (Sum (Unit) (Bool)) := cond (decide (y1 < (List.length a1.2.1 : Int))) (obind (geti a1.2.1 y1) fun e10 => obind (spec_l1In e10 0 (IntKind.i64.wrap (v1.1.1 - 1))) fun v12 => cond (!v12) (spec_IsValidFD_J2 rec y1 true) (cond (decide (0 < y1)) (obind (geti a1.2.1 y1) fun e16 => obind (geti a1.2.1 (IntKind.i64.wrap (y1 - 1))) fun e18 => spec_IsValidFD_J2 rec y1 (decide (e16 ≤ e18))) (spec_IsValidFD_J2 rec y1 false))) (some (.inl ()))
def spec_IsValidFD_J3 (x21 : Bool) : Option (Bool) := some x21
def spec_IsValidFD (a0 : (List ((List UInt8) × (Int × (List (List Int)))))) (a1 : (List UInt8) × (List Int) × Int) : Option (Bool) := obind (spec_LookupRelation a0 a1.1) fun v1 => obind (loopF (spec_IsValidFD_B1 a1 v1) fz 0) fun o1 => (match o1 with
  | .inl _ => (cond v1.2 (obind (spec_l1In a1.2.2 0 (IntKind.i64.wrap (v1.1.1 - 1))) fun v23 => spec_IsValidFD_J3 v23) (spec_IsValidFD_J3 false))
  | .inr r => some r)
theorem spec_IsValidFD_s {a0 : (List ((List UInt8) × (Int × (List (List Int)))))} {a1 : (List UInt8) × (List Int) × Int} {r : Bool} (h : spec_IsValidFD a0 a1 = some r) : SoundAt Try.prog 60 [.agg [.dat a0.length (a0.flatMap c157_dd)], .agg [.str a1.1, .dat a1.2.1.length (a1.2.1.flatMap ci64), .int .i64 a1.2.2]] (.bool r) := by
  unfold spec_IsValidFD at h
  refine sound_lit tbOk lit60 (Nat.le_of_ble_eq_true rfl) rfl ?_
  unfold c60
  refine ls_keep [(0, .agg [.dat a0.length (a0.flatMap c157_dd)]), (1, .agg [.str a1.1, .dat a1.2.1.length (a1.2.1.flatMap ci64), .int .i64 a1.2.2])] ⟨kr, kr, trivial⟩ rfl ?_
  refine ls_rs tbOk ?_
  refine evs (ev_bx (c1 := .agg [.dat a0.length (a0.flatMap c157_dd)]) rfl rfl rfl (evs (ev_bx (c1 := .agg [.str a1.1, .dat a1.2.1.length (a1.2.1.flatMap ci64), .int .i64 a1.2.2]) rfl rfl rfl (evs (ev_ac rfl nofun rfl (evn ?_))))))
  refine ls_keep [(2, .box [.dat a0.length (a0.flatMap c157_dd)]), (3, .box [.str a1.1, .dat a1.2.1.length (a1.2.1.flatMap ci64), .int .i64 a1.2.2])] ⟨kr, kr, trivial⟩ rfl ?_
  refine ls_rs tbOk ?_
  refine evs (ev_ldB (off := 0) (v := .agg [.dat a0.length (a0.flatMap c157_dd)]) rfl rfl rfl rfl (Nat.le_of_ble_eq_true rfl) rfl (evs (ev_fa (c1 := .cref 3 0) (v := .cref 3 0) rfl rfl rfl ⟨_, rfl⟩ rfl (evs (ev_ldB (off := 0) (v := .str a1.1) rfl rfl rfl rfl (Nat.le_of_ble_eq_true rfl) rfl (?_))))))
  obtain ⟨v1, g2, h⟩ := ob_some h
  refine evs (ev_call (era rfl (erg (erc (erD ec157_dd _) rfl)) (era rfl rfl eran)) (spec_LookupRelation_s g2) (evs (ev_mvt (c := .tup [.agg [.int .i64 v1.1.1, .own 30 v1.1.2.length (v1.1.2.flatMap c30_o)], .bool v1.2]) rfl rfl rfl (evs (ev_ext rfl rfl rfl rfl (evs (ev_ext rfl rfl rfl rfl (evs (ev_al rfl rfl (evs (ev_st (off := 0) (c1 := .agg [.int .i64 v1.1.1, .own 30 v1.1.2.length (v1.1.2.flatMap c30_o)]) (cs' := [.int .i64 v1.1.1, .own 30 v1.1.2.length (v1.1.2.flatMap c30_o)]) rfl rfl rfl rfl rfl rfl (Nat.le_of_ble_eq_true rfl) rfl (evs (ev_as (c := .bool v1.2) rfl rfl rfl (evn ?_))))))))))))))
  refine ls_keep [(3, .box [.str a1.1, .dat a1.2.1.length (a1.2.1.flatMap ci64), .int .i64 a1.2.2]), (5, .box [.int .i64 v1.1.1, .own 30 v1.1.2.length (v1.1.2.flatMap c30_o)]), (6, .bool v1.2)] ⟨kr, kr, kr, trivial⟩ rfl ?_
  refine ls_seq_k fun K3 hK3 => ?_
  refine ls_rs tbOk ?_
  refine evs (ev_ac rfl nofun rfl (evn ?_))
  refine ls_keep [(3, .box [.str a1.1, .dat a1.2.1.length (a1.2.1.flatMap ci64), .int .i64 a1.2.2]), (5, .box [.int .i64 v1.1.1, .own 30 v1.1.2.length (v1.1.2.flatMap c30_o)]), (6, .bool v1.2), (7, .int .i64 0)] ⟨kr, kr, kr, kr, trivial⟩ rfl ?_
  obtain ⟨o1, hl, hr1⟩ := ob_some h
  clear h
  have kXspec_IsValidFD_B1 : ∀ (_ : Unit), (cond v1.2 (obind (spec_l1In a1.2.2 0 (IntKind.i64.wrap (v1.1.1 - 1))) fun v23 => spec_IsValidFD_J3 v23) (spec_IsValidFD_J3 false)) = some r → ∀ σ' : PS, okK σ' [(3, .box [.str a1.1, .dat a1.2.1.length (a1.2.1.flatMap ci64), .int .i64 a1.2.2]), (5, .box [.int .i64 v1.1.1, .own 30 v1.1.2.length (v1.1.2.flatMap c30_o)]), (6, .bool v1.2)] → K3 σ' := by
    intro _ h σ' hk
    refine hK3 _ (ls_keep [(3, .box [.str a1.1, .dat a1.2.1.length (a1.2.1.flatMap ci64), .int .i64 a1.2.2]), (5, .box [.int .i64 v1.1.1, .own 30 v1.1.2.length (v1.1.2.flatMap c30_o)]), (6, .bool v1.2)] hk rfl ?_)
    refine ls_rs_k tbOk fun K20 hK20 => ?_
    have kspec_IsValidFD_J3 : ∀ (x21 : Bool), spec_IsValidFD_J3 x21 = some r → ∀ σ' : PS, okK σ' [(4, .bool x21)] → K20 σ' := by
      intro x21 h σ' hk
      unfold spec_IsValidFD_J3 at h
      refine hK20 _ (ls_keep [(4, .bool x21)] hk rfl ?_)
      refine ls_ret ?_
      have hr := Option.some.inj h
      rw [← hr]
      exact ⟨.inl rfl, rfl⟩
    refine evs (ev_mv (c := .bool v1.2) rfl rfl rfl (evs (ev_mv (c := .bool v1.2) rfl rfl rfl (?_))))
    rcases cond_some h with ⟨g22, h⟩ | ⟨g22, h⟩
    · refine evs (ev_gr rfl (congrArg V.bool g22) (ev_fa (c1 := .cref 3 0) (v := .cref 3 2) rfl rfl rfl ⟨_, rfl⟩ rfl (evs (ev_gr rfl (congrArg V.bool g22) (ev_ldB (off := 2) (v := .int .i64 a1.2.2) rfl rfl rfl rfl (Nat.le_of_ble_eq_true rfl) rfl (evs (ev_gr rfl (congrArg V.bool g22) (ev_fa (c1 := .cref 5 0) (v := .cref 5 0) rfl rfl rfl ⟨_, rfl⟩ rfl (evs (ev_gr rfl (congrArg V.bool g22) (ev_ldB (off := 0) (v := .int .i64 v1.1.1) rfl rfl rfl rfl (Nat.le_of_ble_eq_true rfl) rfl (evs (ev_gr rfl (congrArg V.bool g22) (ev_bin (c1 := .int .i64 v1.1.1) (c2 := .int .i64 1) rfl rfl rfl (?_)))))))))))))))
      obtain ⟨v23, g24, h⟩ := ob_some h
      refine evs (ev_gr rfl (congrArg V.bool g22) (ev_call (era rfl rfl (era rfl rfl (era rfl rfl eran))) (spec_l1In_s g24) (evs (ev_pkT (c1 := .bool v23) rfl g22 rfl rfl (evs (ev_as (c := .bool v23) rfl rfl rfl (evn ?_)))))))
      exact kspec_IsValidFD_J3 v23 h _ ⟨kr, trivial⟩
    · refine evs (ev_gs rfl rfl (isb_F g22) (evs (ev_gs rfl rfl (isb_F g22) (evs (ev_gs rfl rfl (isb_F g22) (evs (ev_gs rfl rfl (isb_F g22) (evs (ev_gs rfl rfl (isb_F g22) (evs (ev_gs rfl rfl (isb_F g22) (evs (ev_pkF (c1 := .bool false) rfl g22 rfl rfl (evs (ev_as (c := .bool false) rfl rfl rfl (evn ?_))))))))))))))))
      exact kspec_IsValidFD_J3 false h _ ⟨kr, trivial⟩
  refine ls_rec (fun (y1 : Int) => [(3, .box [.str a1.1, .dat a1.2.1.length (a1.2.1.flatMap ci64), .int .i64 a1.2.2]), (5, .box [.int .i64 v1.1.1, .own 30 v1.1.2.length (v1.1.2.flatMap c30_o)]), (6, .bool v1.2), (7, .int .i64 y1)]) (spec_IsValidFD_B1 a1 v1) fz 0 o1 hl ⟨kr, kr, kr, kr, trivial⟩ (fun _ => rfl) ?_
  rintro m y1 N h hN
  unfold spec_IsValidFD_B1 at h
  refine ls_seq_k fun K4 hK4 => ?_
  refine ls_rs tbOk ?_
  refine evs (ev_mv (c := .int .i64 y1) rfl rfl rfl (evs (ev_fa (c1 := .cref 3 0) (v := .cref 3 1) rfl rfl rfl ⟨_, rfl⟩ rfl (evs (ev_ldB (off := 1) (v := .dat a1.2.1.length (a1.2.1.flatMap ci64)) rfl rfl rfl rfl (Nat.le_of_ble_eq_true rfl) rfl (evs (ev_len (c1 := .dat a1.2.1.length (a1.2.1.flatMap ci64)) rfl rfl rfl (evs (ev_bin (c1 := .int .i64 y1) (c2 := .int .i64 (List.length a1.2.1 : Int)) rfl rfl rfl (evn ?_))))))))))
  refine ls_keep [(3, .box [.str a1.1, .dat a1.2.1.length (a1.2.1.flatMap ci64), .int .i64 a1.2.2]), (5, .box [.int .i64 v1.1.1, .own 30 v1.1.2.length (v1.1.2.flatMap c30_o)]), (6, .bool v1.2), (7, .int .i64 y1), (19, .bool (decide (y1 < (List.length a1.2.1 : Int))))] ⟨kr, kr, kr, kr, kr, trivial⟩ rfl ?_
  rcases cond_some h with ⟨g5, h⟩ | ⟨g5, h⟩
  · refine ls_cT rfl g5 ?_
    refine ls_skip ?_
    refine hK4 _ (ls_keep [(3, .box [.str a1.1, .dat a1.2.1.length (a1.2.1.flatMap ci64), .int .i64 a1.2.2]), (5, .box [.int .i64 v1.1.1, .own 30 v1.1.2.length (v1.1.2.flatMap c30_o)]), (6, .bool v1.2), (7, .int .i64 y1)] ⟨kr, kr, kr, kr, trivial⟩ rfl ?_)
    refine ls_seq_k fun K6 hK6 => ?_
    refine ls_blk ?_
    refine ls_rd_k tbOk mixed (by kernel_rfl) fun K7 hK7 => ?_
    have kspec_IsValidFD_J2 : ∀ (x8 : Bool), spec_IsValidFD_J2 (loopF (spec_IsValidFD_B1 a1 v1) m) y1 x8 = some o1 → ∀ σ' : PS, okK σ' [(3, .box [.str a1.1, .dat a1.2.1.length (a1.2.1.flatMap ci64), .int .i64 a1.2.2]), (5, .box [.int .i64 v1.1.1, .own 30 v1.1.2.length (v1.1.2.flatMap c30_o)]), (6, .bool v1.2), (7, .int .i64 y1), (49, .bool x8)] → K7 σ' := by
      intro x8 h σ' hk
      unfold spec_IsValidFD_J2 at h
      refine hK7 _ (ls_keep [(3, .box [.str a1.1, .dat a1.2.1.length (a1.2.1.flatMap ci64), .int .i64 a1.2.2]), (5, .box [.int .i64 v1.1.1, .own 30 v1.1.2.length (v1.1.2.flatMap c30_o)]), (6, .bool v1.2), (7, .int .i64 y1), (49, .bool x8)] hk rfl ?_)
      rcases cond_some h with ⟨g9, h⟩ | ⟨g9, h⟩
      · refine ls_cT rfl g9 ?_
        refine ls_rs tbOk ?_
        refine evs (ev_ac rfl nofun rfl (evn ?_))
        refine ls_keep [(4, .bool false)] ⟨kr, trivial⟩ rfl ?_
        refine ls_ret ?_
        have q0 := (Option.some.inj h).symm
        have r0 := hr1
        rw [q0] at r0
        have hr := Option.some.inj r0
        rw [← hr]
        exact ⟨.inl rfl, rfl⟩
      · refine ls_cF rfl g9 ?_
        refine ls_skip ?_
        refine hK6 _ (ls_keep [(3, .box [.str a1.1, .dat a1.2.1.length (a1.2.1.flatMap ci64), .int .i64 a1.2.2]), (5, .box [.int .i64 v1.1.1, .own 30 v1.1.2.length (v1.1.2.flatMap c30_o)]), (6, .bool v1.2), (7, .int .i64 y1)] ⟨kr, kr, kr, kr, trivial⟩ rfl ?_)
        refine ls_rgn tbOk ?_
        refine evs (ev_mv (c := .int .i64 y1) rfl rfl rfl (evs (ev_bin (c1 := .int .i64 y1) (c2 := .int .i64 1) rfl rfl rfl (evs (ev_as (c := .int .i64 (IntKind.i64.wrap (y1 + 1))) rfl rfl rfl (evn ?_))))))
        exact hN _ (IntKind.i64.wrap (y1 + 1)) h ⟨kr, kr, kr, kr, trivial⟩
    refine evd rfl rfl (ev_fa (c1 := .cref 3 0) (v := .cref 3 1) rfl rfl rfl ⟨_, rfl⟩ rfl (evd rfl rfl (ev_ldB (off := 1) (v := .dat a1.2.1.length (a1.2.1.flatMap ci64)) rfl rfl rfl rfl (Nat.le_of_ble_eq_true rfl) rfl (evd rfl rfl (ev_mv (c := .int .i64 y1) rfl rfl rfl (?_))))))
    obtain ⟨e10, g11, h⟩ := ob_some h
    refine evd rfl rfl (ev_ia rfl rfl rfl ⟨(geti_some g11).1, (geti_some g11).2.1⟩ (evd rfl rfl (ev_ldE (off := 0) (v := .int .i64 e10) rfl rfl zci64 g11 rfl (Nat.le_of_ble_eq_true rfl) rfl (evd rfl rfl (ev_fa (c1 := .cref 5 0) (v := .cref 5 0) rfl rfl rfl ⟨_, rfl⟩ rfl (evd rfl rfl (ev_ldB (off := 0) (v := .int .i64 v1.1.1) rfl rfl rfl rfl (Nat.le_of_ble_eq_true rfl) rfl (evd rfl rfl (ev_bin (c1 := .int .i64 v1.1.1) (c2 := .int .i64 1) rfl rfl rfl (?_))))))))))
    obtain ⟨v12, g13, h⟩ := ob_some h
    refine evd rfl rfl (ev_call (era rfl rfl (era rfl rfl (era rfl rfl eran))) (spec_l1In_s g13) (evd rfl rfl (ev_un (c1 := .bool v12) rfl trivial (evd rfl rfl (ev_mv (c := .bool (!v12)) rfl rfl rfl (?_))))))
    rcases cond_some h with ⟨g14, h⟩ | ⟨g14, h⟩
    · refine evd rfl rfl (ev_gs rfl rfl (isb_T g14) (evd rfl rfl (ev_gs rfl rfl (isb_T g14) (evd rfl rfl (ev_gs rfl rfl (isb_T g14) (evd rfl rfl (ev_gs rfl rfl rfl (evd rfl rfl (ev_gs rfl rfl rfl (evd rfl rfl (ev_gs rfl rfl rfl (evd rfl rfl (ev_gs rfl rfl rfl (evd rfl rfl (ev_gs rfl rfl rfl (evd rfl rfl (ev_gs rfl rfl rfl (evd rfl rfl (ev_gs rfl rfl rfl (evd rfl rfl (ev_gs rfl rfl rfl (evd rfl rfl (ev_gs rfl rfl rfl (evd rfl rfl (ev_gs rfl rfl rfl (evd rfl rfl (ev_gs rfl rfl rfl (evd rfl rfl (ev_gs rfl rfl rfl (evd rfl rfl (ev_gs rfl rfl (isb_T g14) (evd rfl rfl (ev_pkT (c1 := .bool true) rfl g14 rfl rfl (evdn ?_))))))))))))))))))))))))))))))))))
      exact kspec_IsValidFD_J2 true h _ ⟨kr, kr, kr, kr, kr, trivial⟩
    · refine evd rfl rfl (ev_gr rfl (congrArg V.bool g14) (ev_mv (c := .int .i64 y1) rfl rfl rfl (evd rfl rfl (ev_gr rfl (congrArg V.bool g14) (ev_bin (c1 := .int .i64 y1) (c2 := .int .i64 0) rfl rfl rfl (evd rfl rfl (ev_gr rfl (congrArg V.bool g14) (ev_mv (c := .bool (decide (0 < y1))) rfl rfl rfl (?_)))))))))
      rcases cond_some h with ⟨g15, h⟩ | ⟨g15, h⟩
      · refine evd rfl rfl (ev_gr rfl (congrArg V.bool g15) (ev_fa (c1 := .cref 3 0) (v := .cref 3 1) rfl rfl rfl ⟨_, rfl⟩ rfl (evd rfl rfl (ev_gr rfl (congrArg V.bool g15) (ev_ldB (off := 1) (v := .dat a1.2.1.length (a1.2.1.flatMap ci64)) rfl rfl rfl rfl (Nat.le_of_ble_eq_true rfl) rfl (evd rfl rfl (ev_gr rfl (congrArg V.bool g15) (ev_mv (c := .int .i64 y1) rfl rfl rfl (?_)))))))))
        obtain ⟨e16, g17, h⟩ := ob_some h
        refine evd rfl rfl (ev_gr rfl (congrArg V.bool g15) (ev_ia rfl rfl rfl ⟨(geti_some g17).1, (geti_some g17).2.1⟩ (evd rfl rfl (ev_gr rfl (congrArg V.bool g15) (ev_ldE (off := 0) (v := .int .i64 e16) rfl rfl zci64 g17 rfl (Nat.le_of_ble_eq_true rfl) rfl (evd rfl rfl (ev_gr rfl (congrArg V.bool g15) (ev_fa (c1 := .cref 3 0) (v := .cref 3 1) rfl rfl rfl ⟨_, rfl⟩ rfl (evd rfl rfl (ev_gr rfl (congrArg V.bool g15) (ev_ldB (off := 1) (v := .dat a1.2.1.length (a1.2.1.flatMap ci64)) rfl rfl rfl rfl (Nat.le_of_ble_eq_true rfl) rfl (evd rfl rfl (ev_gr rfl (congrArg V.bool g15) (ev_mv (c := .int .i64 y1) rfl rfl rfl (evd rfl rfl (ev_gr rfl (congrArg V.bool g15) (ev_bin (c1 := .int .i64 y1) (c2 := .int .i64 1) rfl rfl rfl (?_))))))))))))))))))
        obtain ⟨e18, g19, h⟩ := ob_some h
        refine evd rfl rfl (ev_gr rfl (congrArg V.bool g15) (ev_ia rfl rfl rfl ⟨(geti_some g19).1, (geti_some g19).2.1⟩ (evd rfl rfl (ev_gr rfl (congrArg V.bool g15) (ev_ldE (off := 0) (v := .int .i64 e18) rfl rfl zci64 g19 rfl (Nat.le_of_ble_eq_true rfl) rfl (evd rfl rfl (ev_gr rfl (congrArg V.bool g15) (ev_bin (c1 := .int .i64 e16) (c2 := .int .i64 e18) rfl rfl rfl (evd rfl rfl (ev_gr rfl (congrArg V.bool g14) (ev_pkT (c1 := .bool (decide (e16 ≤ e18))) rfl g15 rfl rfl (evd rfl rfl (ev_pkF (c1 := .bool (decide (e16 ≤ e18))) rfl g14 rfl rfl (evdn ?_))))))))))))))
        exact kspec_IsValidFD_J2 (decide (e16 ≤ e18)) h _ ⟨kr, kr, kr, kr, kr, trivial⟩
      · refine evd rfl rfl (ev_gs rfl rfl (isb_F g15) (evd rfl rfl (ev_gs rfl rfl (isb_F g15) (evd rfl rfl (ev_gs rfl rfl (isb_F g15) (evd rfl rfl (ev_gs rfl rfl (isb_F g15) (evd rfl rfl (ev_gs rfl rfl (isb_F g15) (evd rfl rfl (ev_gs rfl rfl (isb_F g15) (evd rfl rfl (ev_gs rfl rfl (isb_F g15) (evd rfl rfl (ev_gs rfl rfl (isb_F g15) (evd rfl rfl (ev_gs rfl rfl (isb_F g15) (evd rfl rfl (ev_gs rfl rfl (isb_F g15) (evd rfl rfl (ev_gs rfl rfl (isb_F g15) (evd rfl rfl (ev_gs rfl rfl (isb_F g15) (evd rfl rfl (ev_gr rfl (congrArg V.bool g14) (ev_pkF (c1 := .bool false) rfl g15 rfl rfl (evd rfl rfl (ev_pkF (c1 := .bool false) rfl g14 rfl rfl (evdn ?_)))))))))))))))))))))))))))))
        exact kspec_IsValidFD_J2 false h _ ⟨kr, kr, kr, kr, kr, trivial⟩
  · refine ls_cF rfl g5 ?_
    refine ls_exit ?_
    have q0 := (Option.some.inj h).symm
    have r0 := hr1
    rw [q0] at r0
    exact kXspec_IsValidFD_B1 () r0 _ ⟨kr, kr, kr, trivial⟩
def impl_IsStrictlyAscending_B1 (a0 : List Int) (rec : Int → Option (Sum (Unit) (Bool))) (y1 : Int) : Option (Sum (Unit) (Bool)) := cond (decide (y1 < (List.length a0 : Int))) (obind (geti a0 (IntKind.i64.wrap (y1 - 1))) fun e5 => obind (geti a0 y1) fun e7 => cond (decide (e7 ≤ e5)) (some (.inr false)) (rec (IntKind.i64.wrap (y1 + 1)))) (some (.inl ()))
def impl_IsStrictlyAscending (a0 : List Int) : Option (Bool) := obind (loopF (impl_IsStrictlyAscending_B1 a0) fz 1) fun o1 => (match o1 with
  | .inl _ => (some true)
  | .inr r => some r)
theorem impl_IsStrictlyAscending_s {a0 : List Int} {r : Bool} (h : impl_IsStrictlyAscending a0 = some r) : SoundAt Try.prog 40 [.dat a0.length (a0.flatMap ci64)] (.bool r) := by
  unfold impl_IsStrictlyAscending at h
  refine sound_lit tbOk lit40 (Nat.le_of_ble_eq_true rfl) rfl ?_
  unfold c40
  refine ls_keep [(0, .dat a0.length (a0.flatMap ci64))] ⟨kr, trivial⟩ rfl ?_
  refine ls_rs tbOk ?_
  refine evs (ev_ac rfl nofun rfl (evn ?_))
  refine ls_keep [(0, .dat a0.length (a0.flatMap ci64))] ⟨kr, trivial⟩ rfl ?_
  refine ls_seq_k fun K1 hK1 => ?_
  refine ls_rs tbOk ?_
  refine evs (ev_ac rfl nofun rfl (evn ?_))
  refine ls_keep [(0, .dat a0.length (a0.flatMap ci64)), (3, .int .i64 1)] ⟨kr, kr, trivial⟩ rfl ?_
  obtain ⟨o1, hl, hr1⟩ := ob_some h
  clear h
  have kXimpl_IsStrictlyAscending_B1 : ∀ (_ : Unit), (some true) = some r → ∀ σ' : PS, okK σ' [] → K1 σ' := by
    intro _ h σ' hk
    refine hK1 _ (ls_keep [] hk rfl ?_)
    refine ls_rs tbOk ?_
    refine evs (ev_ac rfl nofun rfl (evn ?_))
    refine ls_keep [(2, .bool true)] ⟨kr, trivial⟩ rfl ?_
    refine ls_ret ?_
    have hr := Option.some.inj h
    rw [← hr]
    exact ⟨.inl rfl, rfl⟩
  refine ls_rec (fun (y1 : Int) => [(0, .dat a0.length (a0.flatMap ci64)), (3, .int .i64 y1)]) (impl_IsStrictlyAscending_B1 a0) fz 1 o1 hl ⟨kr, kr, trivial⟩ (fun _ => rfl) ?_
  rintro m y1 N h hN
  unfold impl_IsStrictlyAscending_B1 at h
  refine ls_seq_k fun K2 hK2 => ?_
  refine ls_rs tbOk ?_
  refine evs (ev_mv (c := .int .i64 y1) rfl rfl rfl (evs (ev_mv (c := .dat a0.length (a0.flatMap ci64)) rfl rfl rfl (evs (ev_len (c1 := .dat a0.length (a0.flatMap ci64)) rfl rfl rfl (evs (ev_bin (c1 := .int .i64 y1) (c2 := .int .i64 (List.length a0 : Int)) rfl rfl rfl (evn ?_))))))))
  refine ls_keep [(0, .dat a0.length (a0.flatMap ci64)), (3, .int .i64 y1), (7, .bool (decide (y1 < (List.length a0 : Int))))] ⟨kr, kr, kr, trivial⟩ rfl ?_
  rcases cond_some h with ⟨g3, h⟩ | ⟨g3, h⟩
  · refine ls_cT rfl g3 ?_
    refine ls_skip ?_
    refine hK2 _ (ls_keep [(0, .dat a0.length (a0.flatMap ci64)), (3, .int .i64 y1)] ⟨kr, kr, trivial⟩ rfl ?_)
    refine ls_seq_k fun K4 hK4 => ?_
    refine ls_blk ?_
    refine ls_rd tbOk mixed (by kernel_rfl) ?_
    refine evd rfl rfl (ev_mv (c := .dat a0.length (a0.flatMap ci64)) rfl rfl rfl (evd rfl rfl (ev_mv (c := .int .i64 y1) rfl rfl rfl (evd rfl rfl (ev_bin (c1 := .int .i64 y1) (c2 := .int .i64 1) rfl rfl rfl (?_))))))
    obtain ⟨e5, g6, h⟩ := ob_some h
    refine evd rfl rfl (ev_ia rfl rfl rfl ⟨(geti_some g6).1, (geti_some g6).2.1⟩ (evd rfl rfl (ev_ldE (off := 0) (v := .int .i64 e5) rfl rfl zci64 g6 rfl (Nat.le_of_ble_eq_true rfl) rfl (evd rfl rfl (ev_mv (c := .dat a0.length (a0.flatMap ci64)) rfl rfl rfl (evd rfl rfl (ev_mv (c := .int .i64 y1) rfl rfl rfl (?_))))))))
    obtain ⟨e7, g8, h⟩ := ob_some h
    refine evd rfl rfl (ev_ia rfl rfl rfl ⟨(geti_some g8).1, (geti_some g8).2.1⟩ (evd rfl rfl (ev_ldE (off := 0) (v := .int .i64 e7) rfl rfl zci64 g8 rfl (Nat.le_of_ble_eq_true rfl) rfl (evd rfl rfl (ev_bin (c1 := .int .i64 e5) (c2 := .int .i64 e7) rfl rfl rfl (evdn ?_))))))
    refine ls_keep [(0, .dat a0.length (a0.flatMap ci64)), (3, .int .i64 y1), (19, .bool (decide (e7 ≤ e5)))] ⟨kr, kr, kr, trivial⟩ rfl ?_
    rcases cond_some h with ⟨g9, h⟩ | ⟨g9, h⟩
    · refine ls_cT rfl g9 ?_
      refine ls_rs tbOk ?_
      refine evs (ev_ac rfl nofun rfl (evn ?_))
      refine ls_keep [(2, .bool false)] ⟨kr, trivial⟩ rfl ?_
      refine ls_ret ?_
      have q0 := (Option.some.inj h).symm
      have r0 := hr1
      rw [q0] at r0
      have hr := Option.some.inj r0
      rw [← hr]
      exact ⟨.inl rfl, rfl⟩
    · refine ls_cF rfl g9 ?_
      refine ls_skip ?_
      refine hK4 _ (ls_keep [(0, .dat a0.length (a0.flatMap ci64)), (3, .int .i64 y1)] ⟨kr, kr, trivial⟩ rfl ?_)
      refine ls_rgn tbOk ?_
      refine evs (ev_mv (c := .int .i64 y1) rfl rfl rfl (evs (ev_bin (c1 := .int .i64 y1) (c2 := .int .i64 1) rfl rfl rfl (evs (ev_as (c := .int .i64 (IntKind.i64.wrap (y1 + 1))) rfl rfl rfl (evn ?_))))))
      exact hN _ (IntKind.i64.wrap (y1 + 1)) h ⟨kr, kr, trivial⟩
  · refine ls_cF rfl g3 ?_
    refine ls_exit ?_
    have q0 := (Option.some.inj h).symm
    have r0 := hr1
    rw [q0] at r0
    exact kXimpl_IsStrictlyAscending_B1 () r0 _ trivial
def impl_copyInts (a0 : List Int) : Option ((List Int)) := chk (List.length ([] : List Int) + List.length a0 ≤ lim) (some (([] : List Int) ++ a0))
theorem impl_copyInts_s {a0 : List Int} {r : (List Int)} (h : impl_copyInts a0 = some r) : SoundAt Try.prog 105 [.dat a0.length (a0.flatMap ci64)] (.own 3 r.length (r.flatMap ci64)) := by
  unfold impl_copyInts at h
  refine sound_lit tbOk lit105 (Nat.le_of_ble_eq_true rfl) rfl ?_
  unfold c105
  refine ls_keep [(0, .dat a0.length (a0.flatMap ci64))] ⟨kr, trivial⟩ rfl ?_
  refine ls_rs tbOk ?_
  refine evs (ev_an rfl rfl (evn ?_))
  refine ls_keep [(0, .dat a0.length (a0.flatMap ci64))] ⟨kr, trivial⟩ rfl ?_
  refine ls_rs tbOk ?_
  refine evs (ev_bs [] (cs := []) rfl trivial rfl (Nat.le_of_ble_eq_true rfl) rfl (evs (ev_mvt (c := .dat a0.length (a0.flatMap ci64)) rfl rfl rfl (?_))))
  obtain ⟨g1, h⟩ := chk_some h
  refine evs (ev_app (f := ci64) (l := ([] : List Int)) (m := a0) (c2 := .dat a0.length (a0.flatMap ci64)) rfl rfl rfl (flat_len zci64 a0) rfl (map_dg (fun _ => rfl) _) g1 rfl (evs (ev_as (c := .own 3 (([] : List Int) ++ a0).length ((([] : List Int) ++ a0).flatMap ci64)) rfl rfl rfl (evn ?_))))
  refine ls_keep [(2, .own 3 (([] : List Int) ++ a0).length ((([] : List Int) ++ a0).flatMap ci64))] ⟨kr, trivial⟩ rfl ?_
  refine ls_ret ?_
  have hr := Option.some.inj h
  rw [← hr]
  exact ⟨.inl rfl, rfl⟩
def impl_copyRows_B1 (a0 : List (List Int)) (rec : ((List (List Int)) × Int) → Option ((List (List Int)))) (s : (List (List Int)) × Int) : Option ((List (List Int))) := match s with
  | (y1, y2) => cond (decide (y2 < (List.length a0 : Int))) (obind (geti a0 y2) fun e6 => obind (impl_copyInts e6) fun v8 => chk (List.length y1 + List.length [v8] ≤ lim) (rec ((y1 ++ [v8]), (IntKind.i64.wrap (y2 + 1))))) (some y1)
def impl_copyRows (a0 : List (List Int)) : Option ((List (List Int))) := obind (loopF (impl_copyRows_B1 a0) fz (([] : List (List Int)), 0)) fun z2 => some z2
theorem impl_copyRows_s {a0 : List (List Int)} {r : (List (List Int))} (h : impl_copyRows a0 = some r) : SoundAt Try.prog 118 [.dat a0.length (a0.flatMap c30_d)] (.own 30 r.length (r.flatMap c30_o)) := by
  unfold impl_copyRows at h
  refine sound_lit tbOk lit118 (Nat.le_of_ble_eq_true rfl) rfl ?_
  unfold c118
  refine ls_keep [(0, .dat a0.length (a0.flatMap c30_d))] ⟨kr, trivial⟩ rfl ?_
  refine ls_rs tbOk ?_
  refine evs (ev_an rfl rfl (evn ?_))
  refine ls_keep [(0, .dat a0.length (a0.flatMap c30_d))] ⟨kr, trivial⟩ rfl ?_
  refine ls_rs tbOk ?_
  refine evs (ev_an rfl rfl (evn ?_))
  refine ls_keep [(0, .dat a0.length (a0.flatMap c30_d)), (3, .own 30 ([] : List (List Int)).length (([] : List (List Int)).flatMap c30_o))] ⟨kr, kr, trivial⟩ rfl ?_
  refine ls_seq_k fun K1 hK1 => ?_
  refine ls_rs tbOk ?_
  refine evs (ev_mv (c := .dat a0.length (a0.flatMap c30_d)) rfl rfl rfl (evs (ev_len (c1 := .dat a0.length (a0.flatMap c30_d)) rfl rfl rfl (evs (ev_mc rfl rfl (evn ?_))))))
  refine ls_keep [(3, .own 30 ([] : List (List Int)).length (([] : List (List Int)).flatMap c30_o)), (6, .dat a0.length (a0.flatMap c30_d)), (7, .int .i64 (List.length a0 : Int)), (8, .int .i64 0)] ⟨kr, kr, kr, kr, trivial⟩ rfl ?_
  obtain ⟨o1, hl, hr1⟩ := ob_some h
  clear h
  have kXimpl_copyRows_B1 : ∀ (z2 : List (List Int)), (some z2) = some r → ∀ σ' : PS, okK σ' [(3, .own 30 z2.length (z2.flatMap c30_o))] → K1 σ' := by
    intro z2 h σ' hk
    refine hK1 _ (ls_keep [(3, .own 30 z2.length (z2.flatMap c30_o))] hk rfl ?_)
    refine ls_rs tbOk ?_
    refine evs (ev_mvt (c := .own 30 z2.length (z2.flatMap c30_o)) rfl rfl rfl (evs (ev_as (c := .own 30 z2.length (z2.flatMap c30_o)) rfl rfl rfl (evn ?_))))
    refine ls_keep [(2, .own 30 z2.length (z2.flatMap c30_o))] ⟨kr, trivial⟩ rfl ?_
    refine ls_ret ?_
    have hr := Option.some.inj h
    rw [← hr]
    exact ⟨.inl rfl, rfl⟩
  refine ls_rec (fun (s : (List (List Int)) × Int) => match s with | (y1, y2) => [(3, .own 30 y1.length (y1.flatMap c30_o)), (6, .dat a0.length (a0.flatMap c30_d)), (7, .int .i64 (List.length a0 : Int)), (8, .int .i64 y2)]) (impl_copyRows_B1 a0) fz (([] : List (List Int)), 0) o1 hl ⟨kr, kr, kr, kr, trivial⟩ (fun _ => rfl) ?_
  rintro m ⟨y1, y2⟩ N h hN
  unfold impl_copyRows_B1 at h
  dsimp only at h
  refine ls_rs tbOk ?_
  refine evs (ev_bin (c1 := .int .i64 y2) (c2 := .int .i64 (List.length a0 : Int)) rfl rfl rfl (evn ?_))
  refine ls_keep [(3, .own 30 y1.length (y1.flatMap c30_o)), (6, .dat a0.length (a0.flatMap c30_d)), (7, .int .i64 (List.length a0 : Int)), (8, .int .i64 y2), (9, .bool (decide (y2 < (List.length a0 : Int))))] ⟨kr, kr, kr, kr, kr, trivial⟩ rfl ?_
  refine ls_seq_k fun K3 hK3 => ?_
  rcases cond_some h with ⟨g4, h⟩ | ⟨g4, h⟩
  · refine ls_cT rfl g4 ?_
    refine ls_skip ?_
    refine hK3 _ (ls_keep [(3, .own 30 y1.length (y1.flatMap c30_o)), (6, .dat a0.length (a0.flatMap c30_d)), (7, .int .i64 (List.length a0 : Int)), (8, .int .i64 y2)] ⟨kr, kr, kr, kr, trivial⟩ rfl ?_)
    refine ls_seq_k fun K5 hK5 => ?_
    refine ls_blk ?_
    refine ls_rs tbOk ?_
    obtain ⟨e6, g7, h⟩ := ob_some h
    refine evs (ev_ia rfl rfl rfl ⟨(geti_some g7).1, (geti_some g7).2.1⟩ (evs (ev_ldEt (off := 0) (v := .dat e6.length (e6.flatMap ci64)) rfl rfl zc30_d g7 rfl (Nat.le_of_ble_eq_true rfl) rfl (evs (ev_as (c := .dat e6.length (e6.flatMap ci64)) rfl rfl rfl (evn ?_))))))
    refine ls_keep [(3, .own 30 y1.length (y1.flatMap c30_o)), (5, .dat e6.length (e6.flatMap ci64)), (6, .dat a0.length (a0.flatMap c30_d)), (7, .int .i64 (List.length a0 : Int)), (8, .int .i64 y2)] ⟨kr, kr, kr, kr, kr, trivial⟩ rfl ?_
    refine ls_rgn tbOk ?_
    refine evs (ev_mvt (c := .own 30 y1.length (y1.flatMap c30_o)) rfl rfl rfl (evs (ev_mv (c := .dat e6.length (e6.flatMap ci64)) rfl rfl rfl (?_))))
    obtain ⟨v8, g9, h⟩ := ob_some h
    refine evs (ev_call (era rfl (erD eci64 _) eran) (impl_copyInts_s g9) (evs (ev_bs [.own 3 v8.length (v8.flatMap ci64)] (cs := [.own 3 v8.length (v8.flatMap ci64)]) rfl ⟨rfl, trivial⟩ rfl (Nat.le_of_ble_eq_true rfl) rfl (?_))))
    obtain ⟨g10, h⟩ := chk_some h
    refine evs (ev_app (f := c30_o) (l := y1) (m := [v8]) (c2 := .own 30 [v8].length ([v8].flatMap c30_o)) rfl rfl rfl (flat_len zc30_o [v8]) rfl rfl g10 rfl (evs (ev_as (c := .own 30 (y1 ++ [v8]).length ((y1 ++ [v8]).flatMap c30_o)) rfl rfl rfl (evn ?_))))
    refine hK5 _ (ls_keep [(3, .own 30 (y1 ++ [v8]).length ((y1 ++ [v8]).flatMap c30_o)), (6, .dat a0.length (a0.flatMap c30_d)), (7, .int .i64 (List.length a0 : Int)), (8, .int .i64 y2)] ⟨kr, kr, kr, kr, trivial⟩ rfl ?_)
    refine ls_rgn tbOk ?_
    refine evs (ev_bin (c1 := .int .i64 y2) (c2 := .int .i64 1) rfl rfl rfl (evs (ev_mv (c := .int .i64 (IntKind.i64.wrap (y2 + 1))) rfl rfl rfl (evn ?_))))
    exact hN _ ((y1 ++ [v8]), (IntKind.i64.wrap (y2 + 1))) h ⟨kr, kr, kr, kr, trivial⟩
  · refine ls_cF rfl g4 ?_
    refine ls_exit ?_
    have q0 := (Option.some.inj h).symm
    have r0 := hr1
    rw [q0] at r0
    exact kXimpl_copyRows_B1 y1 r0 _ ⟨kr, trivial⟩
def impl_copyRelation (a0 : Int × (List (List Int))) : Option ((Int × (List (List Int)))) := obind (impl_copyRows a0.2) fun v1 => some (a0.1, v1)
theorem impl_copyRelation_s {a0 : Int × (List (List Int))} {r : (Int × (List (List Int)))} (h : impl_copyRelation a0 = some r) : SoundAt Try.prog 164 [.agg [.int .i64 a0.1, .dat a0.2.length (a0.2.flatMap c30_d)]] (.agg [.int .i64 r.1, .own 30 r.2.length (r.2.flatMap c30_o)]) := by
  unfold impl_copyRelation at h
  refine sound_lit tbOk lit164 (Nat.le_of_ble_eq_true rfl) rfl ?_
  unfold c164
  refine ls_keep [(0, .agg [.int .i64 a0.1, .dat a0.2.length (a0.2.flatMap c30_d)])] ⟨kr, trivial⟩ rfl ?_
  refine ls_rs tbOk ?_
  refine evs (ev_bx (c1 := .agg [.int .i64 a0.1, .dat a0.2.length (a0.2.flatMap c30_d)]) rfl rfl rfl (evs (ev_al rfl rfl (evn ?_))))
  refine ls_keep [(1, .box [.int .i64 a0.1, .dat a0.2.length (a0.2.flatMap c30_d)]), (2, .box [.int .i64 0, .own 30 ([] : List (List Int)).length (([] : List (List Int)).flatMap c30_o)])] ⟨kr, kr, trivial⟩ rfl ?_
  refine ls_rd tbOk mixed (by kernel_rfl) ?_
  refine evd rfl rfl (ev_fa (c1 := .cref 1 0) (v := .cref 1 0) rfl rfl rfl ⟨_, rfl⟩ rfl (evd rfl rfl (ev_ldB (off := 0) (v := .int .i64 a0.1) rfl rfl rfl rfl (Nat.le_of_ble_eq_true rfl) rfl (evd rfl rfl (ev_fa (c1 := .cref 1 0) (v := .cref 1 1) rfl rfl rfl ⟨_, rfl⟩ rfl (evd rfl rfl (ev_ldB (off := 1) (v := .dat a0.2.length (a0.2.flatMap c30_d)) rfl rfl rfl rfl (Nat.le_of_ble_eq_true rfl) rfl (?_))))))))
  obtain ⟨v1, g2, h⟩ := ob_some h
  refine evd rfl rfl (ev_call (era rfl (erD ec30_d _) eran) (impl_copyRows_s g2) (evd rfl rfl (ev_bd [.int .i64 a0.1, .own 30 v1.length (v1.flatMap c30_o)] (cs := [.int .i64 a0.1, .own 30 v1.length (v1.flatMap c30_o)]) rfl ⟨rfl, rfl, trivial⟩ rfl (evd rfl rfl (ev_st (off := 0) (c1 := .agg [.int .i64 a0.1, .own 30 v1.length (v1.flatMap c30_o)]) (cs' := [.int .i64 a0.1, .own 30 v1.length (v1.flatMap c30_o)]) rfl rfl rfl rfl rfl rfl (Nat.le_of_ble_eq_true rfl) rfl (evdn ?_))))))
  refine ls_keep [(2, .box [.int .i64 a0.1, .own 30 v1.length (v1.flatMap c30_o)])] ⟨kr, trivial⟩ rfl ?_
  refine ls_ret ?_
  have hr := Option.some.inj h
  rw [← hr]
  exact ⟨.inl rfl, rfl⟩
def impl_LookupRelation_J1  : Option ((Int × (List (List Int))) × Bool) := some ((0, []), false)
def impl_LookupRelation_B2 (a0 : (List ((List UInt8) × (Int × (List (List Int)))))) (a1 : List UInt8) (rec : Int → Option (Sum (Unit) ((Int × (List (List Int))) × Bool))) (y2 : Int) : Option (Sum (Unit) ((Int × (List (List Int))) × Bool)) := cond (decide (y2 < (List.length a0 : Int))) (obind (geti a0 y2) fun e8 => cond (e8.1 == a1) (obind (impl_copyRelation e8.2) fun v11 => some (.inr (v11, true))) (rec (IntKind.i64.wrap (y2 + 1)))) (some (.inl ()))
def impl_LookupRelation (a0 : (List ((List UInt8) × (Int × (List (List Int)))))) (a1 : List UInt8) : Option ((Int × (List (List Int))) × Bool) := obind (impl_IsValidDatabase a0) fun v2 => cond v2 (obind (loopF (impl_LookupRelation_B2 a0 a1) fz 0) fun o2 => (match o2 with
  | .inl _ => (impl_LookupRelation_J1 )
  | .inr r => some r)) (impl_LookupRelation_J1 )
theorem impl_LookupRelation_s {a0 : (List ((List UInt8) × (Int × (List (List Int)))))} {a1 : List UInt8} {r : (Int × (List (List Int))) × Bool} (h : impl_LookupRelation a0 a1 = some r) : SoundAt Try.prog 129 [.agg [.dat a0.length (a0.flatMap c157_dd)], .str a1] (.tup [.agg [.int .i64 r.1.1, .own 30 r.1.2.length (r.1.2.flatMap c30_o)], .bool r.2]) := by
  unfold impl_LookupRelation at h
  refine sound_lit tbOk lit129 (Nat.le_of_ble_eq_true rfl) rfl ?_
  unfold c129
  refine ls_keep [(0, .agg [.dat a0.length (a0.flatMap c157_dd)]), (1, .str a1)] ⟨kr, kr, trivial⟩ rfl ?_
  refine ls_rs tbOk ?_
  refine evs (ev_bx (c1 := .agg [.dat a0.length (a0.flatMap c157_dd)]) rfl rfl rfl (evs (ev_al rfl rfl (evs (ev_ac rfl nofun rfl (evn ?_))))))
  refine ls_keep [(1, .str a1), (2, .box [.dat a0.length (a0.flatMap c157_dd)]), (4, .box [.int .i64 0, .own 30 ([] : List (List Int)).length (([] : List (List Int)).flatMap c30_o)])] ⟨kr, kr, kr, trivial⟩ rfl ?_
  refine ls_seq_k fun K1 hK1 => ?_
  refine ls_rs tbOk ?_
  refine evs (ev_ldB (off := 0) (v := .agg [.dat a0.length (a0.flatMap c157_dd)]) rfl rfl rfl rfl (Nat.le_of_ble_eq_true rfl) rfl (?_))
  obtain ⟨v2, g3, h⟩ := ob_some h
  refine evs (ev_call (era rfl (erg (erc (erD ec157_dd _) rfl)) eran) (impl_IsValidDatabase_s g3) (evn ?_))
  refine ls_keep [(1, .str a1), (2, .box [.dat a0.length (a0.flatMap c157_dd)]), (4, .box [.int .i64 0, .own 30 ([] : List (List Int)).length (([] : List (List Int)).flatMap c30_o)]), (9, .bool v2)] ⟨kr, kr, kr, kr, trivial⟩ rfl ?_
  have kimpl_LookupRelation_J1 : ∀ (_ : Unit), impl_LookupRelation_J1 = some r → ∀ σ' : PS, okK σ' [(4, .box [.int .i64 0, .own 30 ([] : List (List Int)).length (([] : List (List Int)).flatMap c30_o)])] → K1 σ' := by
    intro _ h σ' hk
    unfold impl_LookupRelation_J1 at h
    refine hK1 _ (ls_keep [(4, .box [.int .i64 0, .own 30 ([] : List (List Int)).length (([] : List (List Int)).flatMap c30_o)])] hk rfl ?_)
    refine ls_rs tbOk ?_
    refine evs (ev_bd [] (cs := [.int .i64 0, .own 30 ([] : List (List Int)).length (([] : List (List Int)).flatMap c30_o)]) rfl trivial rfl (evs (ev_st (off := 0) (c1 := .agg [.int .i64 0, .own 30 ([] : List (List Int)).length (([] : List (List Int)).flatMap c30_o)]) (cs' := [.int .i64 0, .own 30 ([] : List (List Int)).length (([] : List (List Int)).flatMap c30_o)]) rfl rfl rfl rfl rfl rfl (Nat.le_of_ble_eq_true rfl) rfl (evs (ev_ac rfl nofun rfl (evn ?_))))))
    refine ls_keep [(4, .box [.int .i64 0, .own 30 ([] : List (List Int)).length (([] : List (List Int)).flatMap c30_o)]), (5, .bool false)] ⟨kr, kr, trivial⟩ rfl ?_
    refine ls_ret ?_
    have hr := Option.some.inj h
    rw [← hr]
    exact ⟨.inl rfl, rfl⟩
  rcases cond_some h with ⟨g4, h⟩ | ⟨g4, h⟩
  · refine ls_cT rfl g4 ?_
    refine ls_rs tbOk ?_
    refine evs (ev_fa (c1 := .cref 2 0) (v := .cref 2 0) rfl rfl rfl ⟨_, rfl⟩ rfl (evs (ev_ldB (off := 0) (v := .dat a0.length (a0.flatMap c157_dd)) rfl rfl rfl rfl (Nat.le_of_ble_eq_true rfl) rfl (evs (ev_len (c1 := .dat a0.length (a0.flatMap c157_dd)) rfl rfl rfl (evs (ev_mc rfl rfl (evn ?_))))))))
    refine ls_keep [(1, .str a1), (4, .box [.int .i64 0, .own 30 ([] : List (List Int)).length (([] : List (List Int)).flatMap c30_o)]), (11, .dat a0.length (a0.flatMap c157_dd)), (12, .int .i64 (List.length a0 : Int)), (13, .int .i64 0)] ⟨kr, kr, kr, kr, kr, trivial⟩ rfl ?_
    obtain ⟨o2, hl, hr2⟩ := ob_some h
    clear h
    have kXimpl_LookupRelation_B2 : ∀ (_ : Unit), (impl_LookupRelation_J1 ) = some r → ∀ σ' : PS, okK σ' [(4, .box [.int .i64 0, .own 30 ([] : List (List Int)).length (([] : List (List Int)).flatMap c30_o)])] → K1 σ' := by
      intro _ h σ' hk
      exact kimpl_LookupRelation_J1 () h _ ⟨hk.1, trivial⟩
    refine ls_rec (fun (y2 : Int) => [(1, .str a1), (4, .box [.int .i64 0, .own 30 ([] : List (List Int)).length (([] : List (List Int)).flatMap c30_o)]), (11, .dat a0.length (a0.flatMap c157_dd)), (12, .int .i64 (List.length a0 : Int)), (13, .int .i64 y2)]) (impl_LookupRelation_B2 a0 a1) fz 0 o2 hl ⟨kr, kr, kr, kr, kr, trivial⟩ (fun _ => rfl) ?_
    rintro m y2 N h hN
    unfold impl_LookupRelation_B2 at h
    refine ls_rs tbOk ?_
    refine evs (ev_bin (c1 := .int .i64 y2) (c2 := .int .i64 (List.length a0 : Int)) rfl rfl rfl (evn ?_))
    refine ls_keep [(1, .str a1), (4, .box [.int .i64 0, .own 30 ([] : List (List Int)).length (([] : List (List Int)).flatMap c30_o)]), (11, .dat a0.length (a0.flatMap c157_dd)), (12, .int .i64 (List.length a0 : Int)), (13, .int .i64 y2), (14, .bool (decide (y2 < (List.length a0 : Int))))] ⟨kr, kr, kr, kr, kr, kr, trivial⟩ rfl ?_
    refine ls_seq_k fun K5 hK5 => ?_
    rcases cond_some h with ⟨g6, h⟩ | ⟨g6, h⟩
    · refine ls_cT rfl g6 ?_
      refine ls_skip ?_
      refine hK5 _ (ls_keep [(1, .str a1), (4, .box [.int .i64 0, .own 30 ([] : List (List Int)).length (([] : List (List Int)).flatMap c30_o)]), (11, .dat a0.length (a0.flatMap c157_dd)), (12, .int .i64 (List.length a0 : Int)), (13, .int .i64 y2)] ⟨kr, kr, kr, kr, kr, trivial⟩ rfl ?_)
      refine ls_seq_k fun K7 hK7 => ?_
      refine ls_blk ?_
      refine ls_rs tbOk ?_
      obtain ⟨e8, g9, h⟩ := ob_some h
      refine evs (ev_ia rfl rfl rfl ⟨(geti_some g9).1, (geti_some g9).2.1⟩ (evs (ev_ldEt (off := 0) (v := .agg [.str e8.1, .int .i64 e8.2.1, .dat e8.2.2.length (e8.2.2.flatMap c30_d)]) rfl rfl zc157_dd g9 rfl (Nat.le_of_ble_eq_true rfl) rfl (evs (ev_al rfl rfl (evs (ev_st (off := 0) (c1 := .agg [.str e8.1, .int .i64 e8.2.1, .dat e8.2.2.length (e8.2.2.flatMap c30_d)]) (cs' := [.str e8.1, .int .i64 e8.2.1, .dat e8.2.2.length (e8.2.2.flatMap c30_d)]) rfl rfl rfl rfl rfl rfl (Nat.le_of_ble_eq_true rfl) rfl (evn ?_))))))))
      refine ls_keep [(1, .str a1), (4, .box [.int .i64 0, .own 30 ([] : List (List Int)).length (([] : List (List Int)).flatMap c30_o)]), (7, .box [.str e8.1, .int .i64 e8.2.1, .dat e8.2.2.length (e8.2.2.flatMap c30_d)]), (11, .dat a0.length (a0.flatMap c157_dd)), (12, .int .i64 (List.length a0 : Int)), (13, .int .i64 y2)] ⟨kr, kr, kr, kr, kr, kr, trivial⟩ rfl ?_
      refine ls_rs tbOk ?_
      refine evs (ev_fa (c1 := .cref 7 0) (v := .cref 7 0) rfl rfl rfl ⟨_, rfl⟩ rfl (evs (ev_ldB (off := 0) (v := .str e8.1) rfl rfl rfl rfl (Nat.le_of_ble_eq_true rfl) rfl (evs (ev_mv (c := .str a1) rfl rfl rfl (evs (ev_bin (c1 := .str e8.1) (c2 := .str a1) rfl rfl trivial (evn ?_))))))))
      refine ls_keep [(1, .str a1), (4, .box [.int .i64 0, .own 30 ([] : List (List Int)).length (([] : List (List Int)).flatMap c30_o)]), (7, .box [.str e8.1, .int .i64 e8.2.1, .dat e8.2.2.length (e8.2.2.flatMap c30_d)]), (11, .dat a0.length (a0.flatMap c157_dd)), (12, .int .i64 (List.length a0 : Int)), (13, .int .i64 y2), (20, .bool (e8.1 == a1))] ⟨kr, kr, kr, kr, kr, kr, kr, trivial⟩ rfl ?_
      rcases cond_some h with ⟨g10, h⟩ | ⟨g10, h⟩
      · refine ls_cT rfl g10 ?_
        refine ls_rs tbOk ?_
        refine evs (ev_fa (c1 := .cref 7 0) (v := .cref 7 1) rfl rfl rfl ⟨_, rfl⟩ rfl (evs (ev_ldB (off := 1) (v := .agg [.int .i64 e8.2.1, .dat e8.2.2.length (e8.2.2.flatMap c30_d)]) rfl rfl rfl rfl (Nat.le_of_ble_eq_true rfl) rfl (?_))))
        obtain ⟨v11, g12, h⟩ := ob_some h
        refine evs (ev_call (era rfl (erg (erc rfl (erc (erD ec30_d _) rfl))) eran) (impl_copyRelation_s g12) (evs (ev_st (off := 0) (c1 := .agg [.int .i64 v11.1, .own 30 v11.2.length (v11.2.flatMap c30_o)]) (cs' := [.int .i64 v11.1, .own 30 v11.2.length (v11.2.flatMap c30_o)]) rfl rfl rfl rfl rfl rfl (Nat.le_of_ble_eq_true rfl) rfl (evs (ev_ac rfl nofun rfl (evn ?_))))))
        refine ls_keep [(4, .box [.int .i64 v11.1, .own 30 v11.2.length (v11.2.flatMap c30_o)]), (5, .bool true)] ⟨kr, kr, trivial⟩ rfl ?_
        refine ls_ret ?_
        have q0 := (Option.some.inj h).symm
        have r0 := hr2
        rw [q0] at r0
        have hr := Option.some.inj r0
        rw [← hr]
        exact ⟨.inl rfl, rfl⟩
      · refine ls_cF rfl g10 ?_
        refine ls_skip ?_
        refine hK7 _ (ls_keep [(1, .str a1), (4, .box [.int .i64 0, .own 30 ([] : List (List Int)).length (([] : List (List Int)).flatMap c30_o)]), (11, .dat a0.length (a0.flatMap c157_dd)), (12, .int .i64 (List.length a0 : Int)), (13, .int .i64 y2)] ⟨kr, kr, kr, kr, kr, trivial⟩ rfl ?_)
        refine ls_rgn tbOk ?_
        refine evs (ev_bin (c1 := .int .i64 y2) (c2 := .int .i64 1) rfl rfl rfl (evs (ev_mv (c := .int .i64 (IntKind.i64.wrap (y2 + 1))) rfl rfl rfl (evn ?_))))
        exact hN _ (IntKind.i64.wrap (y2 + 1)) h ⟨kr, kr, kr, kr, kr, trivial⟩
    · refine ls_cF rfl g6 ?_
      refine ls_exit ?_
      have q0 := (Option.some.inj h).symm
      have r0 := hr2
      rw [q0] at r0
      exact kXimpl_LookupRelation_B2 () r0 _ ⟨kr, trivial⟩
  · refine ls_cF rfl g4 ?_
    refine ls_skip ?_
    exact kimpl_LookupRelation_J1 () h _ ⟨kr, trivial⟩
def impl_IsValidFD_B1 (a1 : (List UInt8) × (List Int) × Int) (v1 : (Int × (List (List Int))) × Bool) (rec : Int → Option (Sum (Unit) (Bool))) (y1 : Int) : Option (Sum (Unit) (Bool)) := cond (decide (y1 < (List.length a1.2.1 : Int))) (obind (geti a1.2.1 y1) fun e15 => obind (impl_within e15 0 (IntKind.i64.wrap (v1.1.1 - 1))) fun v17 => cond (!v17) (some (.inr false)) (rec (IntKind.i64.wrap (y1 + 1)))) (some (.inl ()))
def impl_IsValidFD (a0 : (List ((List UInt8) × (Int × (List (List Int)))))) (a1 : (List UInt8) × (List Int) × Int) : Option (Bool) := obind (impl_LookupRelation a0 a1.1) fun v1 => cond (!v1.2) (some false) (obind (impl_IsStrictlyAscending a1.2.1) fun v5 => cond (!v5) (some false) (obind (impl_within a1.2.2 0 (IntKind.i64.wrap (v1.1.1 - 1))) fun v8 => cond (!v8) (some false) (obind (loopF (impl_IsValidFD_B1 a1 v1) fz 0) fun o1 => (match o1 with
  | .inl _ => (some true)
  | .inr r => some r))))
theorem impl_IsValidFD_s {a0 : (List ((List UInt8) × (Int × (List (List Int)))))} {a1 : (List UInt8) × (List Int) × Int} {r : Bool} (h : impl_IsValidFD a0 a1 = some r) : SoundAt Try.prog 62 [.agg [.dat a0.length (a0.flatMap c157_dd)], .agg [.str a1.1, .dat a1.2.1.length (a1.2.1.flatMap ci64), .int .i64 a1.2.2]] (.bool r) := by
  unfold impl_IsValidFD at h
  refine sound_lit tbOk lit62 (Nat.le_of_ble_eq_true rfl) rfl ?_
  unfold c62
  refine ls_keep [(0, .agg [.dat a0.length (a0.flatMap c157_dd)]), (1, .agg [.str a1.1, .dat a1.2.1.length (a1.2.1.flatMap ci64), .int .i64 a1.2.2])] ⟨kr, kr, trivial⟩ rfl ?_
  refine ls_rs tbOk ?_
  refine evs (ev_bx (c1 := .agg [.dat a0.length (a0.flatMap c157_dd)]) rfl rfl rfl (evs (ev_bx (c1 := .agg [.str a1.1, .dat a1.2.1.length (a1.2.1.flatMap ci64), .int .i64 a1.2.2]) rfl rfl rfl (evs (ev_ac rfl nofun rfl (evn ?_))))))
  refine ls_keep [(2, .box [.dat a0.length (a0.flatMap c157_dd)]), (3, .box [.str a1.1, .dat a1.2.1.length (a1.2.1.flatMap ci64), .int .i64 a1.2.2])] ⟨kr, kr, trivial⟩ rfl ?_
  refine ls_rs tbOk ?_
  refine evs (ev_ldB (off := 0) (v := .agg [.dat a0.length (a0.flatMap c157_dd)]) rfl rfl rfl rfl (Nat.le_of_ble_eq_true rfl) rfl (evs (ev_fa (c1 := .cref 3 0) (v := .cref 3 0) rfl rfl rfl ⟨_, rfl⟩ rfl (evs (ev_ldB (off := 0) (v := .str a1.1) rfl rfl rfl rfl (Nat.le_of_ble_eq_true rfl) rfl (?_))))))
  obtain ⟨v1, g2, h⟩ := ob_some h
  refine evs (ev_call (era rfl (erg (erc (erD ec157_dd _) rfl)) (era rfl rfl eran)) (impl_LookupRelation_s g2) (evs (ev_mvt (c := .tup [.agg [.int .i64 v1.1.1, .own 30 v1.1.2.length (v1.1.2.flatMap c30_o)], .bool v1.2]) rfl rfl rfl (evs (ev_ext rfl rfl rfl rfl (evs (ev_ext rfl rfl rfl rfl (evs (ev_al rfl rfl (evs (ev_st (off := 0) (c1 := .agg [.int .i64 v1.1.1, .own 30 v1.1.2.length (v1.1.2.flatMap c30_o)]) (cs' := [.int .i64 v1.1.1, .own 30 v1.1.2.length (v1.1.2.flatMap c30_o)]) rfl rfl rfl rfl rfl rfl (Nat.le_of_ble_eq_true rfl) rfl (evs (ev_as (c := .bool v1.2) rfl rfl rfl (evn ?_))))))))))))))
  refine ls_keep [(3, .box [.str a1.1, .dat a1.2.1.length (a1.2.1.flatMap ci64), .int .i64 a1.2.2]), (5, .box [.int .i64 v1.1.1, .own 30 v1.1.2.length (v1.1.2.flatMap c30_o)]), (6, .bool v1.2)] ⟨kr, kr, kr, trivial⟩ rfl ?_
  refine ls_seq_k fun K3 hK3 => ?_
  refine ls_rs tbOk ?_
  refine evs (ev_mv (c := .bool v1.2) rfl rfl rfl (evs (ev_un (c1 := .bool v1.2) rfl trivial (evs (ev_mv (c := .bool (!v1.2)) rfl rfl rfl (?_))))))
  rcases cond_some h with ⟨g4, h⟩ | ⟨g4, h⟩
  · refine evs (ev_gs rfl rfl (isb_T g4) (evs (ev_gs rfl rfl (isb_T g4) (evs (ev_gs rfl rfl (isb_T g4) (evs (ev_gs rfl rfl (isb_T g4) (evs (ev_pkT (c1 := .bool true) rfl g4 rfl rfl (evs (ev_mv (c := .bool true) rfl rfl rfl (evs (ev_gs rfl rfl rfl (evs (ev_gs rfl rfl rfl (evs (ev_gs rfl rfl rfl (evs (ev_gs rfl rfl rfl (evs (ev_gs rfl rfl rfl (evs (ev_gs rfl rfl rfl (evs (ev_gs rfl rfl rfl (evs (ev_pkT (c1 := .bool true) rfl rfl rfl rfl (evn ?_))))))))))))))))))))))))))))
    refine ls_keep [(3, .box [.str a1.1, .dat a1.2.1.length (a1.2.1.flatMap ci64), .int .i64 a1.2.2]), (5, .box [.int .i64 v1.1.1, .own 30 v1.1.2.length (v1.1.2.flatMap c30_o)]), (32, .bool true)] ⟨kr, kr, kr, trivial⟩ rfl ?_
    refine ls_cT rfl rfl ?_
    refine ls_rs tbOk ?_
    refine evs (ev_ac rfl nofun rfl (evn ?_))
    refine ls_keep [(4, .bool false)] ⟨kr, trivial⟩ rfl ?_
    refine ls_ret ?_
    have hr := Option.some.inj h
    rw [← hr]
    exact ⟨.inl rfl, rfl⟩
  · refine evs (ev_gr rfl (congrArg V.bool g4) (ev_fa (c1 := .cref 3 0) (v := .cref 3 1) rfl rfl rfl ⟨_, rfl⟩ rfl (evs (ev_gr rfl (congrArg V.bool g4) (ev_ldB (off := 1) (v := .dat a1.2.1.length (a1.2.1.flatMap ci64)) rfl rfl rfl rfl (Nat.le_of_ble_eq_true rfl) rfl (?_))))))
    obtain ⟨v5, g6, h⟩ := ob_some h
    refine evs (ev_gr rfl (congrArg V.bool g4) (ev_call (era rfl (erD eci64 _) eran) (impl_IsStrictlyAscending_s g6) (evs (ev_gr rfl (congrArg V.bool g4) (ev_un (c1 := .bool v5) rfl trivial (evs (ev_pkF (c1 := .bool (!v5)) rfl g4 rfl rfl (evs (ev_mv (c := .bool (!v5)) rfl rfl rfl (?_))))))))))
    rcases cond_some h with ⟨g7, h⟩ | ⟨g7, h⟩
    · refine evs (ev_gs rfl rfl (isb_T g7) (evs (ev_gs rfl rfl (isb_T g7) (evs (ev_gs rfl rfl (isb_T g7) (evs (ev_gs rfl rfl (isb_T g7) (evs (ev_gs rfl rfl (isb_T g7) (evs (ev_gs rfl rfl (isb_T g7) (evs (ev_gs rfl rfl (isb_T g7) (evs (ev_pkT (c1 := .bool true) rfl g7 rfl rfl (evn ?_))))))))))))))))
      refine ls_keep [(3, .box [.str a1.1, .dat a1.2.1.length (a1.2.1.flatMap ci64), .int .i64 a1.2.2]), (5, .box [.int .i64 v1.1.1, .own 30 v1.1.2.length (v1.1.2.flatMap c30_o)]), (32, .bool true)] ⟨kr, kr, kr, trivial⟩ rfl ?_
      refine ls_cT rfl rfl ?_
      refine ls_rs tbOk ?_
      refine evs (ev_ac rfl nofun rfl (evn ?_))
      refine ls_keep [(4, .bool false)] ⟨kr, trivial⟩ rfl ?_
      refine ls_ret ?_
      have hr := Option.some.inj h
      rw [← hr]
      exact ⟨.inl rfl, rfl⟩
    · refine evs (ev_gr rfl (congrArg V.bool g7) (ev_fa (c1 := .cref 3 0) (v := .cref 3 2) rfl rfl rfl ⟨_, rfl⟩ rfl (evs (ev_gr rfl (congrArg V.bool g7) (ev_ldB (off := 2) (v := .int .i64 a1.2.2) rfl rfl rfl rfl (Nat.le_of_ble_eq_true rfl) rfl (evs (ev_gr rfl (congrArg V.bool g7) (ev_fa (c1 := .cref 5 0) (v := .cref 5 0) rfl rfl rfl ⟨_, rfl⟩ rfl (evs (ev_gr rfl (congrArg V.bool g7) (ev_ldB (off := 0) (v := .int .i64 v1.1.1) rfl rfl rfl rfl (Nat.le_of_ble_eq_true rfl) rfl (evs (ev_gr rfl (congrArg V.bool g7) (ev_bin (c1 := .int .i64 v1.1.1) (c2 := .int .i64 1) rfl rfl rfl (?_)))))))))))))))
      obtain ⟨v8, g9, h⟩ := ob_some h
      refine evs (ev_gr rfl (congrArg V.bool g7) (ev_call (era rfl rfl (era rfl rfl (era rfl rfl eran))) (impl_within_s g9) (evs (ev_gr rfl (congrArg V.bool g7) (ev_un (c1 := .bool v8) rfl trivial (evs (ev_pkF (c1 := .bool (!v8)) rfl g7 rfl rfl (evn ?_))))))))
      refine ls_keep [(3, .box [.str a1.1, .dat a1.2.1.length (a1.2.1.flatMap ci64), .int .i64 a1.2.2]), (5, .box [.int .i64 v1.1.1, .own 30 v1.1.2.length (v1.1.2.flatMap c30_o)]), (32, .bool (!v8))] ⟨kr, kr, kr, trivial⟩ rfl ?_
      rcases cond_some h with ⟨g10, h⟩ | ⟨g10, h⟩
      · refine ls_cT rfl g10 ?_
        refine ls_rs tbOk ?_
        refine evs (ev_ac rfl nofun rfl (evn ?_))
        refine ls_keep [(4, .bool false)] ⟨kr, trivial⟩ rfl ?_
        refine ls_ret ?_
        have hr := Option.some.inj h
        rw [← hr]
        exact ⟨.inl rfl, rfl⟩
      · refine ls_cF rfl g10 ?_
        refine ls_skip ?_
        refine hK3 _ (ls_keep [(3, .box [.str a1.1, .dat a1.2.1.length (a1.2.1.flatMap ci64), .int .i64 a1.2.2]), (5, .box [.int .i64 v1.1.1, .own 30 v1.1.2.length (v1.1.2.flatMap c30_o)])] ⟨kr, kr, trivial⟩ rfl ?_)
        refine ls_seq_k fun K11 hK11 => ?_
        refine ls_rs tbOk ?_
        refine evs (ev_fa (c1 := .cref 3 0) (v := .cref 3 1) rfl rfl rfl ⟨_, rfl⟩ rfl (evs (ev_ldB (off := 1) (v := .dat a1.2.1.length (a1.2.1.flatMap ci64)) rfl rfl rfl rfl (Nat.le_of_ble_eq_true rfl) rfl (evs (ev_len (c1 := .dat a1.2.1.length (a1.2.1.flatMap ci64)) rfl rfl rfl (evs (ev_mc rfl rfl (evn ?_))))))))
        refine ls_keep [(5, .box [.int .i64 v1.1.1, .own 30 v1.1.2.length (v1.1.2.flatMap c30_o)]), (34, .dat a1.2.1.length (a1.2.1.flatMap ci64)), (35, .int .i64 (List.length a1.2.1 : Int)), (36, .int .i64 0)] ⟨kr, kr, kr, kr, trivial⟩ rfl ?_
        obtain ⟨o1, hl, hr1⟩ := ob_some h
        clear h
        have kXimpl_IsValidFD_B1 : ∀ (_ : Unit), (some true) = some r → ∀ σ' : PS, okK σ' [] → K11 σ' := by
          intro _ h σ' hk
          refine hK11 _ (ls_keep [] hk rfl ?_)
          refine ls_rs tbOk ?_
          refine evs (ev_ac rfl nofun rfl (evn ?_))
          refine ls_keep [(4, .bool true)] ⟨kr, trivial⟩ rfl ?_
          refine ls_ret ?_
          have hr := Option.some.inj h
          rw [← hr]
          exact ⟨.inl rfl, rfl⟩
        refine ls_rec (fun (y1 : Int) => [(5, .box [.int .i64 v1.1.1, .own 30 v1.1.2.length (v1.1.2.flatMap c30_o)]), (34, .dat a1.2.1.length (a1.2.1.flatMap ci64)), (35, .int .i64 (List.length a1.2.1 : Int)), (36, .int .i64 y1)]) (impl_IsValidFD_B1 a1 v1) fz 0 o1 hl ⟨kr, kr, kr, kr, trivial⟩ (fun _ => rfl) ?_
        rintro m y1 N h hN
        unfold impl_IsValidFD_B1 at h
        refine ls_rs tbOk ?_
        refine evs (ev_bin (c1 := .int .i64 y1) (c2 := .int .i64 (List.length a1.2.1 : Int)) rfl rfl rfl (evn ?_))
        refine ls_keep [(5, .box [.int .i64 v1.1.1, .own 30 v1.1.2.length (v1.1.2.flatMap c30_o)]), (34, .dat a1.2.1.length (a1.2.1.flatMap ci64)), (35, .int .i64 (List.length a1.2.1 : Int)), (36, .int .i64 y1), (37, .bool (decide (y1 < (List.length a1.2.1 : Int))))] ⟨kr, kr, kr, kr, kr, trivial⟩ rfl ?_
        refine ls_seq_k fun K12 hK12 => ?_
        rcases cond_some h with ⟨g13, h⟩ | ⟨g13, h⟩
        · refine ls_cT rfl g13 ?_
          refine ls_skip ?_
          refine hK12 _ (ls_keep [(5, .box [.int .i64 v1.1.1, .own 30 v1.1.2.length (v1.1.2.flatMap c30_o)]), (34, .dat a1.2.1.length (a1.2.1.flatMap ci64)), (35, .int .i64 (List.length a1.2.1 : Int)), (36, .int .i64 y1)] ⟨kr, kr, kr, kr, trivial⟩ rfl ?_)
          refine ls_seq_k fun K14 hK14 => ?_
          refine ls_blk ?_
          refine ls_rs tbOk ?_
          obtain ⟨e15, g16, h⟩ := ob_some h
          refine evs (ev_ia rfl rfl rfl ⟨(geti_some g16).1, (geti_some g16).2.1⟩ (evs (ev_ldE (off := 0) (v := .int .i64 e15) rfl rfl zci64 g16 rfl (Nat.le_of_ble_eq_true rfl) rfl (evs (ev_as (c := .int .i64 e15) rfl rfl rfl (evn ?_))))))
          refine ls_keep [(5, .box [.int .i64 v1.1.1, .own 30 v1.1.2.length (v1.1.2.flatMap c30_o)]), (8, .int .i64 e15), (34, .dat a1.2.1.length (a1.2.1.flatMap ci64)), (35, .int .i64 (List.length a1.2.1 : Int)), (36, .int .i64 y1)] ⟨kr, kr, kr, kr, kr, trivial⟩ rfl ?_
          refine ls_rs tbOk ?_
          refine evs (ev_mv (c := .int .i64 e15) rfl rfl rfl (evs (ev_fa (c1 := .cref 5 0) (v := .cref 5 0) rfl rfl rfl ⟨_, rfl⟩ rfl (evs (ev_ldB (off := 0) (v := .int .i64 v1.1.1) rfl rfl rfl rfl (Nat.le_of_ble_eq_true rfl) rfl (evs (ev_bin (c1 := .int .i64 v1.1.1) (c2 := .int .i64 1) rfl rfl rfl (?_))))))))
          obtain ⟨v17, g18, h⟩ := ob_some h
          refine evs (ev_call (era rfl rfl (era rfl rfl (era rfl rfl eran))) (impl_within_s g18) (evs (ev_un (c1 := .bool v17) rfl trivial (evn ?_))))
          refine ls_keep [(5, .box [.int .i64 v1.1.1, .own 30 v1.1.2.length (v1.1.2.flatMap c30_o)]), (34, .dat a1.2.1.length (a1.2.1.flatMap ci64)), (35, .int .i64 (List.length a1.2.1 : Int)), (36, .int .i64 y1), (45, .bool (!v17))] ⟨kr, kr, kr, kr, kr, trivial⟩ rfl ?_
          rcases cond_some h with ⟨g19, h⟩ | ⟨g19, h⟩
          · refine ls_cT rfl g19 ?_
            refine ls_rs tbOk ?_
            refine evs (ev_ac rfl nofun rfl (evn ?_))
            refine ls_keep [(4, .bool false)] ⟨kr, trivial⟩ rfl ?_
            refine ls_ret ?_
            have q0 := (Option.some.inj h).symm
            have r0 := hr1
            rw [q0] at r0
            have hr := Option.some.inj r0
            rw [← hr]
            exact ⟨.inl rfl, rfl⟩
          · refine ls_cF rfl g19 ?_
            refine ls_skip ?_
            refine hK14 _ (ls_keep [(5, .box [.int .i64 v1.1.1, .own 30 v1.1.2.length (v1.1.2.flatMap c30_o)]), (34, .dat a1.2.1.length (a1.2.1.flatMap ci64)), (35, .int .i64 (List.length a1.2.1 : Int)), (36, .int .i64 y1)] ⟨kr, kr, kr, kr, trivial⟩ rfl ?_)
            refine ls_rgn tbOk ?_
            refine evs (ev_bin (c1 := .int .i64 y1) (c2 := .int .i64 1) rfl rfl rfl (evs (ev_mv (c := .int .i64 (IntKind.i64.wrap (y1 + 1))) rfl rfl rfl (evn ?_))))
            exact hN _ (IntKind.i64.wrap (y1 + 1)) h ⟨kr, kr, kr, kr, trivial⟩
        · refine ls_cF rfl g13 ?_
          refine ls_exit ?_
          have q0 := (Option.some.inj h).symm
          have r0 := hr1
          rw [q0] at r0
          exact kXimpl_IsValidFD_B1 () r0 _ trivial
def laws_FnExactIsValidFD (a0 : (List ((List UInt8) × (Int × (List (List Int)))))) (a1 : (List UInt8) × (List Int) × Int) : Option (Bool) := obind (laws_szDatabase a0 1048576) fun v1 => cond (decide (v1 < 0)) (some true) (obind (laws_szFunctionalDependency a1 v1) fun v5 => cond (decide (v5 < 0)) (some true) (obind (laws_toDatabase a0) fun v9 => obind (laws_toFunctionalDependency a1) fun v11 => obind (spec_IsValidFD v9 v11) fun v13 => obind (laws_toDatabase a0) fun v15 => obind (laws_toFunctionalDependency a1) fun v17 => obind (impl_IsValidFD v15 v17) fun v19 => cond (!(v19 == v13)) (some false) (obind (laws_toDatabase a0) fun v24 => obind (laws_eqDatabase v15 v24) fun v26 => cond (!v26) (some false) (obind (laws_toFunctionalDependency a1) fun v30 => obind (laws_eqFunctionalDependency v17 v30) fun v32 => cond (!v32) (some false) (some true)))))
theorem laws_FnExactIsValidFD_s {a0 : (List ((List UInt8) × (Int × (List (List Int)))))} {a1 : (List UInt8) × (List Int) × Int} {r : Bool} (h : laws_FnExactIsValidFD a0 a1 = some r) : SoundAt Try.prog 10 [.agg [.dat a0.length (a0.flatMap c187_dd)], .agg [.str a1.1, .dat a1.2.1.length (a1.2.1.flatMap ci64), .int .i64 a1.2.2]] (.bool r) := by
  unfold laws_FnExactIsValidFD at h
  refine sound_lit tbOk lit10 (Nat.le_of_ble_eq_true rfl) rfl ?_
  unfold c10
  refine ls_keep [(0, .agg [.dat a0.length (a0.flatMap c187_dd)]), (1, .agg [.str a1.1, .dat a1.2.1.length (a1.2.1.flatMap ci64), .int .i64 a1.2.2])] ⟨kr, kr, trivial⟩ rfl ?_
  refine ls_rs tbOk ?_
  refine evs (ev_bx (c1 := .agg [.dat a0.length (a0.flatMap c187_dd)]) rfl rfl rfl (evs (ev_bx (c1 := .agg [.str a1.1, .dat a1.2.1.length (a1.2.1.flatMap ci64), .int .i64 a1.2.2]) rfl rfl rfl (evs (ev_ac rfl nofun rfl (evn ?_))))))
  refine ls_keep [(2, .box [.dat a0.length (a0.flatMap c187_dd)]), (3, .box [.str a1.1, .dat a1.2.1.length (a1.2.1.flatMap ci64), .int .i64 a1.2.2])] ⟨kr, kr, trivial⟩ rfl ?_
  refine ls_rs tbOk ?_
  refine evs (ev_ac rfl nofun rfl (evn ?_))
  refine ls_keep [(2, .box [.dat a0.length (a0.flatMap c187_dd)]), (3, .box [.str a1.1, .dat a1.2.1.length (a1.2.1.flatMap ci64), .int .i64 a1.2.2]), (5, .int .i64 1048576)] ⟨kr, kr, kr, trivial⟩ rfl ?_
  refine ls_rs tbOk ?_
  refine evs (ev_ldB (off := 0) (v := .agg [.dat a0.length (a0.flatMap c187_dd)]) rfl rfl rfl rfl (Nat.le_of_ble_eq_true rfl) rfl (evs (ev_mv (c := .int .i64 1048576) rfl rfl rfl (?_))))
  obtain ⟨v1, g2, h⟩ := ob_some h
  refine evs (ev_call (era rfl (erg (erc (erD ec187_dd _) rfl)) (era rfl rfl eran)) (laws_szDatabase_s g2) (evs (ev_as (c := .int .i64 v1) rfl rfl rfl (evn ?_))))
  refine ls_keep [(2, .box [.dat a0.length (a0.flatMap c187_dd)]), (3, .box [.str a1.1, .dat a1.2.1.length (a1.2.1.flatMap ci64), .int .i64 a1.2.2]), (5, .int .i64 v1)] ⟨kr, kr, kr, trivial⟩ rfl ?_
  refine ls_seq_k fun K3 hK3 => ?_
  refine ls_rs tbOk ?_
  refine evs (ev_mv (c := .int .i64 v1) rfl rfl rfl (evs (ev_bin (c1 := .int .i64 v1) (c2 := .int .i64 0) rfl rfl rfl (evn ?_))))
  refine ls_keep [(2, .box [.dat a0.length (a0.flatMap c187_dd)]), (3, .box [.str a1.1, .dat a1.2.1.length (a1.2.1.flatMap ci64), .int .i64 a1.2.2]), (5, .int .i64 v1), (14, .bool (decide (v1 < 0)))] ⟨kr, kr, kr, kr, trivial⟩ rfl ?_
  rcases cond_some h with ⟨g4, h⟩ | ⟨g4, h⟩
  · refine ls_cT rfl g4 ?_
    refine ls_rs tbOk ?_
    refine evs (ev_ac rfl nofun rfl (evn ?_))
    refine ls_keep [(4, .bool true)] ⟨kr, trivial⟩ rfl ?_
    refine ls_ret ?_
    have hr := Option.some.inj h
    rw [← hr]
    exact ⟨.inl rfl, rfl⟩
  · refine ls_cF rfl g4 ?_
    refine ls_skip ?_
    refine hK3 _ (ls_keep [(2, .box [.dat a0.length (a0.flatMap c187_dd)]), (3, .box [.str a1.1, .dat a1.2.1.length (a1.2.1.flatMap ci64), .int .i64 a1.2.2]), (5, .int .i64 v1)] ⟨kr, kr, kr, trivial⟩ rfl ?_)
    refine ls_rs tbOk ?_
    refine evs (ev_ldB (off := 0) (v := .agg [.str a1.1, .dat a1.2.1.length (a1.2.1.flatMap ci64), .int .i64 a1.2.2]) rfl rfl rfl rfl (Nat.le_of_ble_eq_true rfl) rfl (evs (ev_mv (c := .int .i64 v1) rfl rfl rfl (?_))))
    obtain ⟨v5, g6, h⟩ := ob_some h
    refine evs (ev_call (era rfl (erg (erc rfl (erc (erD eci64 _) (erc rfl rfl)))) (era rfl rfl eran)) (laws_szFunctionalDependency_s g6) (evs (ev_as (c := .int .i64 v5) rfl rfl rfl (evn ?_))))
    refine ls_keep [(2, .box [.dat a0.length (a0.flatMap c187_dd)]), (3, .box [.str a1.1, .dat a1.2.1.length (a1.2.1.flatMap ci64), .int .i64 a1.2.2]), (5, .int .i64 v5)] ⟨kr, kr, kr, trivial⟩ rfl ?_
    refine ls_seq_k fun K7 hK7 => ?_
    refine ls_rs tbOk ?_
    refine evs (ev_mv (c := .int .i64 v5) rfl rfl rfl (evs (ev_bin (c1 := .int .i64 v5) (c2 := .int .i64 0) rfl rfl rfl (evn ?_))))
    refine ls_keep [(2, .box [.dat a0.length (a0.flatMap c187_dd)]), (3, .box [.str a1.1, .dat a1.2.1.length (a1.2.1.flatMap ci64), .int .i64 a1.2.2]), (19, .bool (decide (v5 < 0)))] ⟨kr, kr, kr, trivial⟩ rfl ?_
    rcases cond_some h with ⟨g8, h⟩ | ⟨g8, h⟩
    · refine ls_cT rfl g8 ?_
      refine ls_rs tbOk ?_
      refine evs (ev_ac rfl nofun rfl (evn ?_))
      refine ls_keep [(4, .bool true)] ⟨kr, trivial⟩ rfl ?_
      refine ls_ret ?_
      have hr := Option.some.inj h
      rw [← hr]
      exact ⟨.inl rfl, rfl⟩
    · refine ls_cF rfl g8 ?_
      refine ls_skip ?_
      refine hK7 _ (ls_keep [(2, .box [.dat a0.length (a0.flatMap c187_dd)]), (3, .box [.str a1.1, .dat a1.2.1.length (a1.2.1.flatMap ci64), .int .i64 a1.2.2])] ⟨kr, kr, trivial⟩ rfl ?_)
      refine ls_rd tbOk mixed (by kernel_rfl) ?_
      refine evd rfl rfl (ev_ldB (off := 0) (v := .agg [.dat a0.length (a0.flatMap c187_dd)]) rfl rfl rfl rfl (Nat.le_of_ble_eq_true rfl) rfl (?_))
      obtain ⟨v9, g10, h⟩ := ob_some h
      refine evd rfl rfl (ev_call (era rfl (erg (erc (erD ec187_dd _) rfl)) eran) (laws_toDatabase_s g10) (evd rfl rfl (ev_ldB (off := 0) (v := .agg [.str a1.1, .dat a1.2.1.length (a1.2.1.flatMap ci64), .int .i64 a1.2.2]) rfl rfl rfl rfl (Nat.le_of_ble_eq_true rfl) rfl (?_))))
      obtain ⟨v11, g12, h⟩ := ob_some h
      refine evd rfl rfl (ev_call (era rfl (erg (erc rfl (erc (erD eci64 _) (erc rfl rfl)))) eran) (laws_toFunctionalDependency_s g12) (?_))
      obtain ⟨v13, g14, h⟩ := ob_some h
      refine evd rfl rfl (ev_call (era rfl (erg (erc (erO ec157_oo _) rfl)) (era rfl (erg (erc rfl (erc (erO eci64 _) (erc rfl rfl)))) eran)) (spec_IsValidFD_s g14) (evd rfl rfl (ev_as (c := .bool v13) rfl rfl rfl (evdn ?_))))
      refine ls_keep [(2, .box [.dat a0.length (a0.flatMap c187_dd)]), (3, .box [.str a1.1, .dat a1.2.1.length (a1.2.1.flatMap ci64), .int .i64 a1.2.2]), (6, .bool v13)] ⟨kr, kr, kr, trivial⟩ rfl ?_
      refine ls_rs tbOk ?_
      refine evs (ev_ldB (off := 0) (v := .agg [.dat a0.length (a0.flatMap c187_dd)]) rfl rfl rfl rfl (Nat.le_of_ble_eq_true rfl) rfl (?_))
      obtain ⟨v15, g16, h⟩ := ob_some h
      refine evs (ev_call (era rfl (erg (erc (erD ec187_dd _) rfl)) eran) (laws_toDatabase_s g16) (evs (ev_al rfl rfl (evs (ev_st (off := 0) (c1 := .agg [.own 157 v15.length (v15.flatMap c157_oo)]) (cs' := [.own 157 v15.length (v15.flatMap c157_oo)]) rfl rfl rfl rfl rfl rfl (Nat.le_of_ble_eq_true rfl) rfl (evn ?_))))))
      refine ls_keep [(2, .box [.dat a0.length (a0.flatMap c187_dd)]), (3, .box [.str a1.1, .dat a1.2.1.length (a1.2.1.flatMap ci64), .int .i64 a1.2.2]), (6, .bool v13), (7, .box [.own 157 v15.length (v15.flatMap c157_oo)])] ⟨kr, kr, kr, kr, trivial⟩ rfl ?_
      refine ls_rs tbOk ?_
      refine evs (ev_ldB (off := 0) (v := .agg [.str a1.1, .dat a1.2.1.length (a1.2.1.flatMap ci64), .int .i64 a1.2.2]) rfl rfl rfl rfl (Nat.le_of_ble_eq_true rfl) rfl (?_))
      obtain ⟨v17, g18, h⟩ := ob_some h
      refine evs (ev_call (era rfl (erg (erc rfl (erc (erD eci64 _) (erc rfl rfl)))) eran) (laws_toFunctionalDependency_s g18) (evs (ev_al rfl rfl (evs (ev_st (off := 0) (c1 := .agg [.str v17.1, .own 3 v17.2.1.length (v17.2.1.flatMap ci64), .int .i64 v17.2.2]) (cs' := [.str v17.1, .own 3 v17.2.1.length (v17.2.1.flatMap ci64), .int .i64 v17.2.2]) rfl rfl rfl rfl rfl rfl (Nat.le_of_ble_eq_true rfl) rfl (evn ?_))))))
      refine ls_keep [(2, .box [.dat a0.length (a0.flatMap c187_dd)]), (3, .box [.str a1.1, .dat a1.2.1.length (a1.2.1.flatMap ci64), .int .i64 a1.2.2]), (6, .bool v13), (7, .box [.own 157 v15.length (v15.flatMap c157_oo)]), (8, .box [.str v17.1, .own 3 v17.2.1.length (v17.2.1.flatMap ci64), .int .i64 v17.2.2])] ⟨kr, kr, kr, kr, kr, trivial⟩ rfl ?_
      refine ls_rs tbOk ?_
      refine evs (ev_ldB (off := 0) (v := .agg [.dat v15.length (v15.flatMap c157_oo)]) rfl rfl rfl rfl (Nat.le_of_ble_eq_true rfl) rfl (evs (ev_ldB (off := 0) (v := .agg [.str v17.1, .dat v17.2.1.length (v17.2.1.flatMap ci64), .int .i64 v17.2.2]) rfl rfl rfl rfl (Nat.le_of_ble_eq_true rfl) rfl (?_))))
      obtain ⟨v19, g20, h⟩ := ob_some h
      refine evs (ev_call (era rfl (erg (erc (erD ec157_oo _) rfl)) (era rfl (erg (erc rfl (erc (erD eci64 _) (erc rfl rfl)))) eran)) (impl_IsValidFD_s g20) (evs (ev_as (c := .bool v19) rfl rfl rfl (evn ?_))))
      refine ls_keep [(2, .box [.dat a0.length (a0.flatMap c187_dd)]), (3, .box [.str a1.1, .dat a1.2.1.length (a1.2.1.flatMap ci64), .int .i64 a1.2.2]), (6, .bool v13), (7, .box [.own 157 v15.length (v15.flatMap c157_oo)]), (8, .box [.str v17.1, .own 3 v17.2.1.length (v17.2.1.flatMap ci64), .int .i64 v17.2.2]), (9, .bool v19)] ⟨kr, kr, kr, kr, kr, kr, trivial⟩ rfl ?_
      refine ls_seq_k fun K21 hK21 => ?_
      refine ls_rs tbOk ?_
      refine evs (ev_mv (c := .bool v19) rfl rfl rfl (evs (ev_mv (c := .bool v13) rfl rfl rfl (evs (ev_bin (c1 := .bool v19) (c2 := .bool v13) rfl rfl rfl (evn ?_))))))
      refine ls_keep [(2, .box [.dat a0.length (a0.flatMap c187_dd)]), (3, .box [.str a1.1, .dat a1.2.1.length (a1.2.1.flatMap ci64), .int .i64 a1.2.2]), (7, .box [.own 157 v15.length (v15.flatMap c157_oo)]), (8, .box [.str v17.1, .own 3 v17.2.1.length (v17.2.1.flatMap ci64), .int .i64 v17.2.2]), (34, .bool (!(v19 == v13)))] ⟨kr, kr, kr, kr, kr, trivial⟩ rfl ?_
      rcases cond_some h with ⟨g22, h⟩ | ⟨g22, h⟩
      · refine ls_cT rfl g22 ?_
        refine ls_rs tbOk ?_
        refine evs (ev_ac rfl nofun rfl (evn ?_))
        refine ls_keep [(4, .bool false)] ⟨kr, trivial⟩ rfl ?_
        refine ls_ret ?_
        have hr := Option.some.inj h
        rw [← hr]
        exact ⟨.inl rfl, rfl⟩
      · refine ls_cF rfl g22 ?_
        refine ls_skip ?_
        refine hK21 _ (ls_keep [(2, .box [.dat a0.length (a0.flatMap c187_dd)]), (3, .box [.str a1.1, .dat a1.2.1.length (a1.2.1.flatMap ci64), .int .i64 a1.2.2]), (7, .box [.own 157 v15.length (v15.flatMap c157_oo)]), (8, .box [.str v17.1, .own 3 v17.2.1.length (v17.2.1.flatMap ci64), .int .i64 v17.2.2])] ⟨kr, kr, kr, kr, trivial⟩ rfl ?_)
        refine ls_seq_k fun K23 hK23 => ?_
        refine ls_rd tbOk mixed (by kernel_rfl) ?_
        refine evd rfl rfl (ev_ldB (off := 0) (v := .agg [.dat v15.length (v15.flatMap c157_oo)]) rfl rfl rfl rfl (Nat.le_of_ble_eq_true rfl) rfl (evd rfl rfl (ev_ldB (off := 0) (v := .agg [.dat a0.length (a0.flatMap c187_dd)]) rfl rfl rfl rfl (Nat.le_of_ble_eq_true rfl) rfl (?_))))
        obtain ⟨v24, g25, h⟩ := ob_some h
        refine evd rfl rfl (ev_call (era rfl (erg (erc (erD ec187_dd _) rfl)) eran) (laws_toDatabase_s g25) (?_))
        obtain ⟨v26, g27, h⟩ := ob_some h
        refine evd rfl rfl (ev_call (era rfl (erg (erc (erD ec157_oo _) rfl)) (era rfl (erg (erc (erO ec157_oo _) rfl)) eran)) (laws_eqDatabase_s g27) (evd rfl rfl (ev_un (c1 := .bool v26) rfl trivial (evdn ?_))))
        refine ls_keep [(3, .box [.str a1.1, .dat a1.2.1.length (a1.2.1.flatMap ci64), .int .i64 a1.2.2]), (8, .box [.str v17.1, .own 3 v17.2.1.length (v17.2.1.flatMap ci64), .int .i64 v17.2.2]), (39, .bool (!v26))] ⟨kr, kr, kr, trivial⟩ rfl ?_
        rcases cond_some h with ⟨g28, h⟩ | ⟨g28, h⟩
        · refine ls_cT rfl g28 ?_
          refine ls_rs tbOk ?_
          refine evs (ev_ac rfl nofun rfl (evn ?_))
          refine ls_keep [(4, .bool false)] ⟨kr, trivial⟩ rfl ?_
          refine ls_ret ?_
          have hr := Option.some.inj h
          rw [← hr]
          exact ⟨.inl rfl, rfl⟩
        · refine ls_cF rfl g28 ?_
          refine ls_skip ?_
          refine hK23 _ (ls_keep [(3, .box [.str a1.1, .dat a1.2.1.length (a1.2.1.flatMap ci64), .int .i64 a1.2.2]), (8, .box [.str v17.1, .own 3 v17.2.1.length (v17.2.1.flatMap ci64), .int .i64 v17.2.2])] ⟨kr, kr, trivial⟩ rfl ?_)
          refine ls_seq_k fun K29 hK29 => ?_
          refine ls_rd tbOk mixed (by kernel_rfl) ?_
          refine evd rfl rfl (ev_ldB (off := 0) (v := .agg [.str v17.1, .dat v17.2.1.length (v17.2.1.flatMap ci64), .int .i64 v17.2.2]) rfl rfl rfl rfl (Nat.le_of_ble_eq_true rfl) rfl (evd rfl rfl (ev_ldB (off := 0) (v := .agg [.str a1.1, .dat a1.2.1.length (a1.2.1.flatMap ci64), .int .i64 a1.2.2]) rfl rfl rfl rfl (Nat.le_of_ble_eq_true rfl) rfl (?_))))
          obtain ⟨v30, g31, h⟩ := ob_some h
          refine evd rfl rfl (ev_call (era rfl (erg (erc rfl (erc (erD eci64 _) (erc rfl rfl)))) eran) (laws_toFunctionalDependency_s g31) (?_))
          obtain ⟨v32, g33, h⟩ := ob_some h
          refine evd rfl rfl (ev_call (era rfl (erg (erc rfl (erc (erD eci64 _) (erc rfl rfl)))) (era rfl (erg (erc rfl (erc (erO eci64 _) (erc rfl rfl)))) eran)) (laws_eqFunctionalDependency_s g33) (evd rfl rfl (ev_un (c1 := .bool v32) rfl trivial (evdn ?_))))
          refine ls_keep [(44, .bool (!v32))] ⟨kr, trivial⟩ rfl ?_
          rcases cond_some h with ⟨g34, h⟩ | ⟨g34, h⟩
          · refine ls_cT rfl g34 ?_
            refine ls_rs tbOk ?_
            refine evs (ev_ac rfl nofun rfl (evn ?_))
            refine ls_keep [(4, .bool false)] ⟨kr, trivial⟩ rfl ?_
            refine ls_ret ?_
            have hr := Option.some.inj h
            rw [← hr]
            exact ⟨.inl rfl, rfl⟩
          · refine ls_cF rfl g34 ?_
            refine ls_skip ?_
            refine hK29 _ (ls_keep [] trivial rfl ?_)
            refine ls_rs tbOk ?_
            refine evs (ev_ac rfl nofun rfl (evn ?_))
            refine ls_keep [(4, .bool true)] ⟨kr, trivial⟩ rfl ?_
            refine ls_ret ?_
            have hr := Option.some.inj h
            rw [← hr]
            exact ⟨.inl rfl, rfl⟩
def impl_sameInts_B1 (a0 : List Int) (a1 : List Int) (rec : Int → Option (Sum (Unit) (Bool))) (y1 : Int) : Option (Sum (Unit) (Bool)) := cond (decide (y1 < (List.length a0 : Int))) (obind (geti a0 y1) fun e7 => obind (geti a1 y1) fun e9 => cond (e7 != e9) (some (.inr false)) (rec (IntKind.i64.wrap (y1 + 1)))) (some (.inl ()))
def impl_sameInts (a0 : List Int) (a1 : List Int) : Option (Bool) := cond ((List.length a0 : Int) != (List.length a1 : Int)) (some false) (obind (loopF (impl_sameInts_B1 a0 a1) fz 0) fun o1 => (match o1 with
  | .inl _ => (some true)
  | .inr r => some r))
theorem impl_sameInts_s {a0 : List Int} {a1 : List Int} {r : Bool} (h : impl_sameInts a0 a1 = some r) : SoundAt Try.prog 134 [.dat a0.length (a0.flatMap ci64), .dat a1.length (a1.flatMap ci64)] (.bool r) := by
  unfold impl_sameInts at h
  refine sound_lit tbOk lit134 (Nat.le_of_ble_eq_true rfl) rfl ?_
  unfold c134
  refine ls_keep [(0, .dat a0.length (a0.flatMap ci64)), (1, .dat a1.length (a1.flatMap ci64))] ⟨kr, kr, trivial⟩ rfl ?_
  refine ls_rs tbOk ?_
  refine evs (ev_ac rfl nofun rfl (evn ?_))
  refine ls_keep [(0, .dat a0.length (a0.flatMap ci64)), (1, .dat a1.length (a1.flatMap ci64))] ⟨kr, kr, trivial⟩ rfl ?_
  refine ls_seq_k fun K1 hK1 => ?_
  refine ls_rs tbOk ?_
  refine evs (ev_mv (c := .dat a0.length (a0.flatMap ci64)) rfl rfl rfl (evs (ev_len (c1 := .dat a0.length (a0.flatMap ci64)) rfl rfl rfl (evs (ev_mv (c := .dat a1.length (a1.flatMap ci64)) rfl rfl rfl (evs (ev_len (c1 := .dat a1.length (a1.flatMap ci64)) rfl rfl rfl (evs (ev_bin (c1 := .int .i64 (List.length a0 : Int)) (c2 := .int .i64 (List.length a1 : Int)) rfl rfl rfl (evn ?_))))))))))
  refine ls_keep [(0, .dat a0.length (a0.flatMap ci64)), (1, .dat a1.length (a1.flatMap ci64)), (10, .bool ((List.length a0 : Int) != (List.length a1 : Int)))] ⟨kr, kr, kr, trivial⟩ rfl ?_
  rcases cond_some h with ⟨g2, h⟩ | ⟨g2, h⟩
  · refine ls_cT rfl g2 ?_
    refine ls_rs tbOk ?_
    refine evs (ev_ac rfl nofun rfl (evn ?_))
    refine ls_keep [(4, .bool false)] ⟨kr, trivial⟩ rfl ?_
    refine ls_ret ?_
    have hr := Option.some.inj h
    rw [← hr]
    exact ⟨.inl rfl, rfl⟩
  · refine ls_cF rfl g2 ?_
    refine ls_skip ?_
    refine hK1 _ (ls_keep [(0, .dat a0.length (a0.flatMap ci64)), (1, .dat a1.length (a1.flatMap ci64))] ⟨kr, kr, trivial⟩ rfl ?_)
    refine ls_seq_k fun K3 hK3 => ?_
    refine ls_rs tbOk ?_
    refine evs (ev_mv (c := .dat a0.length (a0.flatMap ci64)) rfl rfl rfl (evs (ev_len (c1 := .dat a0.length (a0.flatMap ci64)) rfl rfl rfl (evs (ev_mc rfl rfl (evn ?_))))))
    refine ls_keep [(0, .dat a0.length (a0.flatMap ci64)), (1, .dat a1.length (a1.flatMap ci64)), (12, .int .i64 (List.length a0 : Int)), (13, .int .i64 0)] ⟨kr, kr, kr, kr, trivial⟩ rfl ?_
    obtain ⟨o1, hl, hr1⟩ := ob_some h
    clear h
    have kXimpl_sameInts_B1 : ∀ (_ : Unit), (some true) = some r → ∀ σ' : PS, okK σ' [] → K3 σ' := by
      intro _ h σ' hk
      refine hK3 _ (ls_keep [] hk rfl ?_)
      refine ls_rs tbOk ?_
      refine evs (ev_ac rfl nofun rfl (evn ?_))
      refine ls_keep [(4, .bool true)] ⟨kr, trivial⟩ rfl ?_
      refine ls_ret ?_
      have hr := Option.some.inj h
      rw [← hr]
      exact ⟨.inl rfl, rfl⟩
    refine ls_rec (fun (y1 : Int) => [(0, .dat a0.length (a0.flatMap ci64)), (1, .dat a1.length (a1.flatMap ci64)), (12, .int .i64 (List.length a0 : Int)), (13, .int .i64 y1)]) (impl_sameInts_B1 a0 a1) fz 0 o1 hl ⟨kr, kr, kr, kr, trivial⟩ (fun _ => rfl) ?_
    rintro m y1 N h hN
    unfold impl_sameInts_B1 at h
    refine ls_rs tbOk ?_
    refine evs (ev_bin (c1 := .int .i64 y1) (c2 := .int .i64 (List.length a0 : Int)) rfl rfl rfl (evn ?_))
    refine ls_keep [(0, .dat a0.length (a0.flatMap ci64)), (1, .dat a1.length (a1.flatMap ci64)), (12, .int .i64 (List.length a0 : Int)), (13, .int .i64 y1), (14, .bool (decide (y1 < (List.length a0 : Int))))] ⟨kr, kr, kr, kr, kr, trivial⟩ rfl ?_
    refine ls_seq_k fun K4 hK4 => ?_
    rcases cond_some h with ⟨g5, h⟩ | ⟨g5, h⟩
    · refine ls_cT rfl g5 ?_
      refine ls_skip ?_
      refine hK4 _ (ls_keep [(0, .dat a0.length (a0.flatMap ci64)), (1, .dat a1.length (a1.flatMap ci64)), (12, .int .i64 (List.length a0 : Int)), (13, .int .i64 y1)] ⟨kr, kr, kr, kr, trivial⟩ rfl ?_)
      refine ls_seq_k fun K6 hK6 => ?_
      refine ls_blk ?_
      refine ls_rs tbOk ?_
      refine evs (ev_mv (c := .int .i64 y1) rfl rfl rfl (evs (ev_as (c := .int .i64 y1) rfl rfl rfl (evn ?_))))
      refine ls_keep [(0, .dat a0.length (a0.flatMap ci64)), (1, .dat a1.length (a1.flatMap ci64)), (5, .int .i64 y1), (12, .int .i64 (List.length a0 : Int)), (13, .int .i64 y1)] ⟨kr, kr, kr, kr, kr, trivial⟩ rfl ?_
      refine ls_rd tbOk mixed (by kernel_rfl) ?_
      refine evd rfl rfl (ev_mv (c := .dat a0.length (a0.flatMap ci64)) rfl rfl rfl (evd rfl rfl (ev_mv (c := .int .i64 y1) rfl rfl rfl (?_))))
      obtain ⟨e7, g8, h⟩ := ob_some h
      refine evd rfl rfl (ev_ia rfl rfl rfl ⟨(geti_some g8).1, (geti_some g8).2.1⟩ (evd rfl rfl (ev_ldE (off := 0) (v := .int .i64 e7) rfl rfl zci64 g8 rfl (Nat.le_of_ble_eq_true rfl) rfl (evd rfl rfl (ev_mv (c := .dat a1.length (a1.flatMap ci64)) rfl rfl rfl (evd rfl rfl (ev_mv (c := .int .i64 y1) rfl rfl rfl (?_))))))))
      obtain ⟨e9, g10, h⟩ := ob_some h
      refine evd rfl rfl (ev_ia rfl rfl rfl ⟨(geti_some g10).1, (geti_some g10).2.1⟩ (evd rfl rfl (ev_ldE (off := 0) (v := .int .i64 e9) rfl rfl zci64 g10 rfl (Nat.le_of_ble_eq_true rfl) rfl (evd rfl rfl (ev_bin (c1 := .int .i64 e7) (c2 := .int .i64 e9) rfl rfl rfl (evdn ?_))))))
      refine ls_keep [(0, .dat a0.length (a0.flatMap ci64)), (1, .dat a1.length (a1.flatMap ci64)), (12, .int .i64 (List.length a0 : Int)), (13, .int .i64 y1), (24, .bool (e7 != e9))] ⟨kr, kr, kr, kr, kr, trivial⟩ rfl ?_
      rcases cond_some h with ⟨g11, h⟩ | ⟨g11, h⟩
      · refine ls_cT rfl g11 ?_
        refine ls_rs tbOk ?_
        refine evs (ev_ac rfl nofun rfl (evn ?_))
        refine ls_keep [(4, .bool false)] ⟨kr, trivial⟩ rfl ?_
        refine ls_ret ?_
        have q0 := (Option.some.inj h).symm
        have r0 := hr1
        rw [q0] at r0
        have hr := Option.some.inj r0
        rw [← hr]
        exact ⟨.inl rfl, rfl⟩
      · refine ls_cF rfl g11 ?_
        refine ls_skip ?_
        refine hK6 _ (ls_keep [(0, .dat a0.length (a0.flatMap ci64)), (1, .dat a1.length (a1.flatMap ci64)), (12, .int .i64 (List.length a0 : Int)), (13, .int .i64 y1)] ⟨kr, kr, kr, kr, trivial⟩ rfl ?_)
        refine ls_rgn tbOk ?_
        refine evs (ev_bin (c1 := .int .i64 y1) (c2 := .int .i64 1) rfl rfl rfl (evs (ev_mv (c := .int .i64 (IntKind.i64.wrap (y1 + 1))) rfl rfl rfl (evn ?_))))
        exact hN _ (IntKind.i64.wrap (y1 + 1)) h ⟨kr, kr, kr, kr, trivial⟩
    · refine ls_cF rfl g5 ?_
      refine ls_exit ?_
      have q0 := (Option.some.inj h).symm
      have r0 := hr1
      rw [q0] at r0
      exact kXimpl_sameInts_B1 () r0 _ trivial
def impl_pick_B1 (a0 : List Int) (a1 : List Int) (rec : ((List Int) × Int) → Option ((List Int))) (s : (List Int) × Int) : Option ((List Int)) := match s with
  | (y1, y2) => cond (decide (y2 < (List.length a1 : Int))) (obind (geti a1 y2) fun e6 => obind (geti a0 e6) fun e8 => chk (List.length y1 + List.length [e8] ≤ lim) (rec ((y1 ++ [e8]), (IntKind.i64.wrap (y2 + 1))))) (some y1)
def impl_pick (a0 : List Int) (a1 : List Int) : Option ((List Int)) := obind (loopF (impl_pick_B1 a0 a1) fz (([] : List Int), 0)) fun z2 => some z2
theorem impl_pick_s {a0 : List Int} {a1 : List Int} {r : (List Int)} (h : impl_pick a0 a1 = some r) : SoundAt Try.prog 135 [.dat a0.length (a0.flatMap ci64), .dat a1.length (a1.flatMap ci64)] (.own 3 r.length (r.flatMap ci64)) := by
  unfold impl_pick at h
  refine sound_lit tbOk lit135 (Nat.le_of_ble_eq_true rfl) rfl ?_
  unfold c135
  refine ls_keep [(0, .dat a0.length (a0.flatMap ci64)), (1, .dat a1.length (a1.flatMap ci64))] ⟨kr, kr, trivial⟩ rfl ?_
  refine ls_rs tbOk ?_
  refine evs (ev_an rfl rfl (evn ?_))
  refine ls_keep [(0, .dat a0.length (a0.flatMap ci64)), (1, .dat a1.length (a1.flatMap ci64))] ⟨kr, kr, trivial⟩ rfl ?_
  refine ls_rs tbOk ?_
  refine evs (ev_bs [] (cs := []) rfl trivial rfl (Nat.le_of_ble_eq_true rfl) rfl (evs (ev_as (c := .own 3 ([] : List Int).length (([] : List Int).flatMap ci64)) rfl rfl rfl (evn ?_))))
  refine ls_keep [(0, .dat a0.length (a0.flatMap ci64)), (1, .dat a1.length (a1.flatMap ci64)), (5, .own 3 ([] : List Int).length (([] : List Int).flatMap ci64))] ⟨kr, kr, kr, trivial⟩ rfl ?_
  refine ls_seq_k fun K1 hK1 => ?_
  refine ls_rs tbOk ?_
  refine evs (ev_mv (c := .dat a1.length (a1.flatMap ci64)) rfl rfl rfl (evs (ev_len (c1 := .dat a1.length (a1.flatMap ci64)) rfl rfl rfl (evs (ev_mc rfl rfl (evn ?_))))))
  refine ls_keep [(0, .dat a0.length (a0.flatMap ci64)), (5, .own 3 ([] : List Int).length (([] : List Int).flatMap ci64)), (9, .dat a1.length (a1.flatMap ci64)), (10, .int .i64 (List.length a1 : Int)), (11, .int .i64 0)] ⟨kr, kr, kr, kr, kr, trivial⟩ rfl ?_
  obtain ⟨o1, hl, hr1⟩ := ob_some h
  clear h
  have kXimpl_pick_B1 : ∀ (z2 : List Int), (some z2) = some r → ∀ σ' : PS, okK σ' [(5, .own 3 z2.length (z2.flatMap ci64))] → K1 σ' := by
    intro z2 h σ' hk
    refine hK1 _ (ls_keep [(5, .own 3 z2.length (z2.flatMap ci64))] hk rfl ?_)
    refine ls_rs tbOk ?_
    refine evs (ev_mvt (c := .own 3 z2.length (z2.flatMap ci64)) rfl rfl rfl (evs (ev_as (c := .own 3 z2.length (z2.flatMap ci64)) rfl rfl rfl (evn ?_))))
    refine ls_keep [(4, .own 3 z2.length (z2.flatMap ci64))] ⟨kr, trivial⟩ rfl ?_
    refine ls_ret ?_
    have hr := Option.some.inj h
    rw [← hr]
    exact ⟨.inl rfl, rfl⟩
  refine ls_rec (fun (s : (List Int) × Int) => match s with | (y1, y2) => [(0, .dat a0.length (a0.flatMap ci64)), (5, .own 3 y1.length (y1.flatMap ci64)), (9, .dat a1.length (a1.flatMap ci64)), (10, .int .i64 (List.length a1 : Int)), (11, .int .i64 y2)]) (impl_pick_B1 a0 a1) fz (([] : List Int), 0) o1 hl ⟨kr, kr, kr, kr, kr, trivial⟩ (fun _ => rfl) ?_
  rintro m ⟨y1, y2⟩ N h hN
  unfold impl_pick_B1 at h
  dsimp only at h
  refine ls_rs tbOk ?_
  refine evs (ev_bin (c1 := .int .i64 y2) (c2 := .int .i64 (List.length a1 : Int)) rfl rfl rfl (evn ?_))
  refine ls_keep [(0, .dat a0.length (a0.flatMap ci64)), (5, .own 3 y1.length (y1.flatMap ci64)), (9, .dat a1.length (a1.flatMap ci64)), (10, .int .i64 (List.length a1 : Int)), (11, .int .i64 y2), (12, .bool (decide (y2 < (List.length a1 : Int))))] ⟨kr, kr, kr, kr, kr, kr, trivial⟩ rfl ?_
  refine ls_seq_k fun K3 hK3 => ?_
  rcases cond_some h with ⟨g4, h⟩ | ⟨g4, h⟩
  · refine ls_cT rfl g4 ?_
    refine ls_skip ?_
    refine hK3 _ (ls_keep [(0, .dat a0.length (a0.flatMap ci64)), (5, .own 3 y1.length (y1.flatMap ci64)), (9, .dat a1.length (a1.flatMap ci64)), (10, .int .i64 (List.length a1 : Int)), (11, .int .i64 y2)] ⟨kr, kr, kr, kr, kr, trivial⟩ rfl ?_)
    refine ls_seq_k fun K5 hK5 => ?_
    refine ls_blk ?_
    refine ls_rs tbOk ?_
    obtain ⟨e6, g7, h⟩ := ob_some h
    refine evs (ev_ia rfl rfl rfl ⟨(geti_some g7).1, (geti_some g7).2.1⟩ (evs (ev_ldE (off := 0) (v := .int .i64 e6) rfl rfl zci64 g7 rfl (Nat.le_of_ble_eq_true rfl) rfl (evs (ev_as (c := .int .i64 e6) rfl rfl rfl (evn ?_))))))
    refine ls_keep [(0, .dat a0.length (a0.flatMap ci64)), (5, .own 3 y1.length (y1.flatMap ci64)), (7, .int .i64 e6), (9, .dat a1.length (a1.flatMap ci64)), (10, .int .i64 (List.length a1 : Int)), (11, .int .i64 y2)] ⟨kr, kr, kr, kr, kr, kr, trivial⟩ rfl ?_
    refine ls_rgn tbOk ?_
    refine evs (ev_mvt (c := .own 3 y1.length (y1.flatMap ci64)) rfl rfl rfl (evs (ev_mv (c := .dat a0.length (a0.flatMap ci64)) rfl rfl rfl (evs (ev_mv (c := .int .i64 e6) rfl rfl rfl (?_))))))
    obtain ⟨e8, g9, h⟩ := ob_some h
    refine evs (ev_ia rfl rfl rfl ⟨(geti_some g9).1, (geti_some g9).2.1⟩ (evs (ev_ldE (off := 0) (v := .int .i64 e8) rfl rfl zci64 g9 rfl (Nat.le_of_ble_eq_true rfl) rfl (evs (ev_bs [.int .i64 e8] (cs := [.int .i64 e8]) rfl ⟨rfl, trivial⟩ rfl (Nat.le_of_ble_eq_true rfl) rfl (?_))))))
    obtain ⟨g10, h⟩ := chk_some h
    refine evs (ev_app (f := ci64) (l := y1) (m := [e8]) (c2 := .own 3 [e8].length ([e8].flatMap ci64)) rfl rfl rfl (flat_len zci64 [e8]) rfl rfl g10 rfl (evs (ev_as (c := .own 3 (y1 ++ [e8]).length ((y1 ++ [e8]).flatMap ci64)) rfl rfl rfl (evn ?_))))
    refine hK5 _ (ls_keep [(0, .dat a0.length (a0.flatMap ci64)), (5, .own 3 (y1 ++ [e8]).length ((y1 ++ [e8]).flatMap ci64)), (9, .dat a1.length (a1.flatMap ci64)), (10, .int .i64 (List.length a1 : Int)), (11, .int .i64 y2)] ⟨kr, kr, kr, kr, kr, trivial⟩ rfl ?_)
    refine ls_rgn tbOk ?_
    refine evs (ev_bin (c1 := .int .i64 y2) (c2 := .int .i64 1) rfl rfl rfl (evs (ev_mv (c := .int .i64 (IntKind.i64.wrap (y2 + 1))) rfl rfl rfl (evn ?_))))
    exact hN _ ((y1 ++ [e8]), (IntKind.i64.wrap (y2 + 1))) h ⟨kr, kr, kr, kr, kr, trivial⟩
  · refine ls_cF rfl g4 ?_
    refine ls_exit ?_
    have q0 := (Option.some.inj h).symm
    have r0 := hr1
    rw [q0] at r0
    exact kXimpl_pick_B1 y1 r0 _ ⟨kr, trivial⟩
def impl_FDViolation_J3 (rec : Int → Option (Sum (Unit) ((List Int)))) (y2 : Int) (y4 : Int) (x20 : Bool) : Option (Sum (Unit) ((List Int))) := cond x20 (some (.inr [y4, y2])) (rec (IntKind.i64.wrap (y4 + 1)))
def impl_FDViolation_B2 (a1 : (List UInt8) × (List Int) × Int) (v5 : (Int × (List (List Int))) × Bool) (y2 : Int) (e11 : List Int) (rec : Int → Option (Sum (Unit) ((List Int)))) (y4 : Int) : Option (Sum (Unit) ((List Int))) := cond (decide (y4 < (List.length (subl v5.1.2 0 y2) : Int))) (obind (geti (subl v5.1.2 0 y2) y4) fun e17 => obind (geti e17 a1.2.2) fun e22 => obind (geti e11 a1.2.2) fun e24 => cond (e22 != e24) (obind (impl_pick e17 a1.2.1) fun v27 => obind (impl_pick e11 a1.2.1) fun v29 => obind (impl_sameInts v27 v29) fun v31 => impl_FDViolation_J3 rec y2 y4 v31) (impl_FDViolation_J3 rec y2 y4 false)) (some (.inl ()))
def impl_FDViolation_B1 (a1 : (List UInt8) × (List Int) × Int) (v5 : (Int × (List (List Int))) × Bool) (rec : Int → Option (Sum (Unit) ((List Int)))) (y2 : Int) : Option (Sum (Unit) ((List Int))) := cond (decide (y2 < (List.length v5.1.2 : Int))) (obind (geti v5.1.2 y2) fun e11 => chk ((0 : Int) ≤ 0 ∧ 0 ≤ y2 ∧ y2 ≤ (List.length v5.1.2 : Int)) (obind (loopF (impl_FDViolation_B2 a1 v5 y2 e11) fz 0) fun o2 => (match o2 with
  | .inl _ => (rec (IntKind.i64.wrap (y2 + 1)))
  | .inr r => some (.inr r)))) (some (.inl ()))
def impl_FDViolation (a0 : (List ((List UInt8) × (Int × (List (List Int)))))) (a1 : (List UInt8) × (List Int) × Int) : Option ((List Int)) := obind (impl_IsValidFD a0 a1) fun v2 => cond (!v2) (some ([] : List Int)) (obind (impl_LookupRelation a0 a1.1) fun v5 => obind (loopF (impl_FDViolation_B1 a1 v5) fz 0) fun o1 => (match o1 with
  | .inl _ => (some ([] : List Int))
  | .inr r => some r))
theorem impl_FDViolation_s {a0 : (List ((List UInt8) × (Int × (List (List Int)))))} {a1 : (List UInt8) × (List Int) × Int} {r : (List Int)} (h : impl_FDViolation a0 a1 = some r) : SoundAt Try.prog 68 [.agg [.dat a0.length (a0.flatMap c157_dd)], .agg [.str a1.1, .dat a1.2.1.length (a1.2.1.flatMap ci64), .int .i64 a1.2.2]] (.own 3 r.length (r.flatMap ci64)) := by
  unfold impl_FDViolation at h
  refine sound_lit tbOk lit68 (Nat.le_of_ble_eq_true rfl) rfl ?_
  unfold c68
  refine ls_keep [(0, .agg [.dat a0.length (a0.flatMap c157_dd)]), (1, .agg [.str a1.1, .dat a1.2.1.length (a1.2.1.flatMap ci64), .int .i64 a1.2.2])] ⟨kr, kr, trivial⟩ rfl ?_
  refine ls_rs tbOk ?_
  refine evs (ev_bx (c1 := .agg [.dat a0.length (a0.flatMap c157_dd)]) rfl rfl rfl (evs (ev_bx (c1 := .agg [.str a1.1, .dat a1.2.1.length (a1.2.1.flatMap ci64), .int .i64 a1.2.2]) rfl rfl rfl (evs (ev_an rfl rfl (evn ?_))))))
  refine ls_keep [(2, .box [.dat a0.length (a0.flatMap c157_dd)]), (3, .box [.str a1.1, .dat a1.2.1.length (a1.2.1.flatMap ci64), .int .i64 a1.2.2])] ⟨kr, kr, trivial⟩ rfl ?_
  refine ls_seq_k fun K1 hK1 => ?_
  refine ls_rs tbOk ?_
  refine evs (ev_ldB (off := 0) (v := .agg [.dat a0.length (a0.flatMap c157_dd)]) rfl rfl rfl rfl (Nat.le_of_ble_eq_true rfl) rfl (evs (ev_ldB (off := 0) (v := .agg [.str a1.1, .dat a1.2.1.length (a1.2.1.flatMap ci64), .int .i64 a1.2.2]) rfl rfl rfl rfl (Nat.le_of_ble_eq_true rfl) rfl (?_))))
  obtain ⟨v2, g3, h⟩ := ob_some h
  refine evs (ev_call (era rfl (erg (erc (erD ec157_dd _) rfl)) (era rfl (erg (erc rfl (erc (erD eci64 _) (erc rfl rfl)))) eran)) (impl_IsValidFD_s g3) (evs (ev_un (c1 := .bool v2) rfl trivial (evn ?_))))
  refine ls_keep [(2, .box [.dat a0.length (a0.flatMap c157_dd)]), (3, .box [.str a1.1, .dat a1.2.1.length (a1.2.1.flatMap ci64), .int .i64 a1.2.2]), (14, .bool (!v2))] ⟨kr, kr, kr, trivial⟩ rfl ?_
  rcases cond_some h with ⟨g4, h⟩ | ⟨g4, h⟩
  · refine ls_cT rfl g4 ?_
    refine ls_rs tbOk ?_
    refine evs (ev_an rfl rfl (evn ?_))
    refine ls_keep [(4, .own 3 ([] : List Int).length (([] : List Int).flatMap ci64))] ⟨kr, trivial⟩ rfl ?_
    refine ls_ret ?_
    have hr := Option.some.inj h
    rw [← hr]
    exact ⟨.inl rfl, rfl⟩
  · refine ls_cF rfl g4 ?_
    refine ls_skip ?_
    refine hK1 _ (ls_keep [(2, .box [.dat a0.length (a0.flatMap c157_dd)]), (3, .box [.str a1.1, .dat a1.2.1.length (a1.2.1.flatMap ci64), .int .i64 a1.2.2])] ⟨kr, kr, trivial⟩ rfl ?_)
    refine ls_rs tbOk ?_
    refine evs (ev_ldB (off := 0) (v := .agg [.dat a0.length (a0.flatMap c157_dd)]) rfl rfl rfl rfl (Nat.le_of_ble_eq_true rfl) rfl (evs (ev_fa (c1 := .cref 3 0) (v := .cref 3 0) rfl rfl rfl ⟨_, rfl⟩ rfl (evs (ev_ldB (off := 0) (v := .str a1.1) rfl rfl rfl rfl (Nat.le_of_ble_eq_true rfl) rfl (?_))))))
    obtain ⟨v5, g6, h⟩ := ob_some h
    refine evs (ev_call (era rfl (erg (erc (erD ec157_dd _) rfl)) (era rfl rfl eran)) (impl_LookupRelation_s g6) (evs (ev_mvt (c := .tup [.agg [.int .i64 v5.1.1, .own 30 v5.1.2.length (v5.1.2.flatMap c30_o)], .bool v5.2]) rfl rfl rfl (evs (ev_ext rfl rfl rfl rfl (evs (ev_ext rfl rfl rfl rfl (evs (ev_al rfl rfl (evs (ev_st (off := 0) (c1 := .agg [.int .i64 v5.1.1, .own 30 v5.1.2.length (v5.1.2.flatMap c30_o)]) (cs' := [.int .i64 v5.1.1, .own 30 v5.1.2.length (v5.1.2.flatMap c30_o)]) rfl rfl rfl rfl rfl rfl (Nat.le_of_ble_eq_true rfl) rfl (evs (ev_as (c := .bool v5.2) rfl rfl rfl (evn ?_))))))))))))))
    refine ls_keep [(3, .box [.str a1.1, .dat a1.2.1.length (a1.2.1.flatMap ci64), .int .i64 a1.2.2]), (5, .box [.int .i64 v5.1.1, .own 30 v5.1.2.length (v5.1.2.flatMap c30_o)])] ⟨kr, kr, trivial⟩ rfl ?_
    refine ls_seq_k fun K7 hK7 => ?_
    refine ls_rs tbOk ?_
    refine evs (ev_fa (c1 := .cref 5 0) (v := .cref 5 1) rfl rfl rfl ⟨_, rfl⟩ rfl (evs (ev_ldB (off := 1) (v := .dat v5.1.2.length (v5.1.2.flatMap c30_o)) rfl rfl rfl rfl (Nat.le_of_ble_eq_true rfl) rfl (evs (ev_len (c1 := .dat v5.1.2.length (v5.1.2.flatMap c30_o)) rfl rfl rfl (evs (ev_mc rfl rfl (evn ?_))))))))
    refine ls_keep [(3, .box [.str a1.1, .dat a1.2.1.length (a1.2.1.flatMap ci64), .int .i64 a1.2.2]), (5, .box [.int .i64 v5.1.1, .own 30 v5.1.2.length (v5.1.2.flatMap c30_o)]), (23, .dat v5.1.2.length (v5.1.2.flatMap c30_o)), (24, .int .i64 (List.length v5.1.2 : Int)), (25, .int .i64 0)] ⟨kr, kr, kr, kr, kr, trivial⟩ rfl ?_
    obtain ⟨o1, hl, hr1⟩ := ob_some h
    clear h
    have kXimpl_FDViolation_B1 : ∀ (_ : Unit), (some ([] : List Int)) = some r → ∀ σ' : PS, okK σ' [] → K7 σ' := by
      intro _ h σ' hk
      refine hK7 _ (ls_keep [] hk rfl ?_)
      refine ls_rs tbOk ?_
      refine evs (ev_an rfl rfl (evn ?_))
      refine ls_keep [(4, .own 3 ([] : List Int).length (([] : List Int).flatMap ci64))] ⟨kr, trivial⟩ rfl ?_
      refine ls_ret ?_
      have hr := Option.some.inj h
      rw [← hr]
      exact ⟨.inl rfl, rfl⟩
    refine ls_rec (fun (y2 : Int) => [(3, .box [.str a1.1, .dat a1.2.1.length (a1.2.1.flatMap ci64), .int .i64 a1.2.2]), (5, .box [.int .i64 v5.1.1, .own 30 v5.1.2.length (v5.1.2.flatMap c30_o)]), (23, .dat v5.1.2.length (v5.1.2.flatMap c30_o)), (24, .int .i64 (List.length v5.1.2 : Int)), (25, .int .i64 y2)]) (impl_FDViolation_B1 a1 v5) fz 0 o1 hl ⟨kr, kr, kr, kr, kr, trivial⟩ (fun _ => rfl) ?_
    rintro m y2 N h hN
    unfold impl_FDViolation_B1 at h
    refine ls_rs tbOk ?_
    refine evs (ev_bin (c1 := .int .i64 y2) (c2 := .int .i64 (List.length v5.1.2 : Int)) rfl rfl rfl (evn ?_))
    refine ls_keep [(3, .box [.str a1.1, .dat a1.2.1.length (a1.2.1.flatMap ci64), .int .i64 a1.2.2]), (5, .box [.int .i64 v5.1.1, .own 30 v5.1.2.length (v5.1.2.flatMap c30_o)]), (23, .dat v5.1.2.length (v5.1.2.flatMap c30_o)), (24, .int .i64 (List.length v5.1.2 : Int)), (25, .int .i64 y2), (26, .bool (decide (y2 < (List.length v5.1.2 : Int))))] ⟨kr, kr, kr, kr, kr, kr, trivial⟩ rfl ?_
    refine ls_seq_k fun K8 hK8 => ?_
    rcases cond_some h with ⟨g9, h⟩ | ⟨g9, h⟩
    · refine ls_cT rfl g9 ?_
      refine ls_skip ?_
      refine hK8 _ (ls_keep [(3, .box [.str a1.1, .dat a1.2.1.length (a1.2.1.flatMap ci64), .int .i64 a1.2.2]), (5, .box [.int .i64 v5.1.1, .own 30 v5.1.2.length (v5.1.2.flatMap c30_o)]), (23, .dat v5.1.2.length (v5.1.2.flatMap c30_o)), (24, .int .i64 (List.length v5.1.2 : Int)), (25, .int .i64 y2)] ⟨kr, kr, kr, kr, kr, trivial⟩ rfl ?_)
      refine ls_seq_k fun K10 hK10 => ?_
      refine ls_blk ?_
      refine ls_rs tbOk ?_
      refine evs (ev_mv (c := .int .i64 y2) rfl rfl rfl (?_))
      obtain ⟨e11, g12, h⟩ := ob_some h
      refine evs (ev_ia rfl rfl rfl ⟨(geti_some g12).1, (geti_some g12).2.1⟩ (evs (ev_ldEt (off := 0) (v := .dat e11.length (e11.flatMap ci64)) rfl rfl zc30_o g12 rfl (Nat.le_of_ble_eq_true rfl) rfl (evs (ev_as (c := .int .i64 y2) rfl rfl rfl (evs (ev_as (c := .dat e11.length (e11.flatMap ci64)) rfl rfl rfl (evn ?_))))))))
      refine ls_keep [(3, .box [.str a1.1, .dat a1.2.1.length (a1.2.1.flatMap ci64), .int .i64 a1.2.2]), (5, .box [.int .i64 v5.1.1, .own 30 v5.1.2.length (v5.1.2.flatMap c30_o)]), (7, .int .i64 y2), (8, .dat e11.length (e11.flatMap ci64)), (23, .dat v5.1.2.length (v5.1.2.flatMap c30_o)), (24, .int .i64 (List.length v5.1.2 : Int)), (25, .int .i64 y2)] ⟨kr, kr, kr, kr, kr, kr, kr, trivial⟩ rfl ?_
      refine ls_rs tbOk ?_
      refine evs (ev_fa (c1 := .cref 5 0) (v := .cref 5 1) rfl rfl rfl ⟨_, rfl⟩ rfl (evs (ev_ldB (off := 1) (v := .dat v5.1.2.length (v5.1.2.flatMap c30_o)) rfl rfl rfl rfl (Nat.le_of_ble_eq_true rfl) rfl (evs (ev_mv (c := .int .i64 y2) rfl rfl rfl (?_))))))
      obtain ⟨g13, h⟩ := chk_some h
      refine evs (ev_sle (lst := v5.1.2) rfl rfl zc30_o rfl rfl g13 (evs (ev_len (c1 := .dat (subl v5.1.2 0 y2).length ((subl v5.1.2 0 y2).flatMap c30_o)) rfl rfl rfl (evs (ev_mc rfl rfl (evn ?_))))))
      refine ls_keep [(3, .box [.str a1.1, .dat a1.2.1.length (a1.2.1.flatMap ci64), .int .i64 a1.2.2]), (5, .box [.int .i64 v5.1.1, .own 30 v5.1.2.length (v5.1.2.flatMap c30_o)]), (7, .int .i64 y2), (8, .dat e11.length (e11.flatMap ci64)), (23, .dat v5.1.2.length (v5.1.2.flatMap c30_o)), (24, .int .i64 (List.length v5.1.2 : Int)), (25, .int .i64 y2), (33, .dat (subl v5.1.2 0 y2).length ((subl v5.1.2 0 y2).flatMap c30_o)), (34, .int .i64 (List.length (subl v5.1.2 0 y2) : Int)), (35, .int .i64 0)] ⟨kr, kr, kr, kr, kr, kr, kr, kr, kr, kr, trivial⟩ rfl ?_
      obtain ⟨o2, hl, hr2⟩ := ob_some h
      clear h
      have kXimpl_FDViolation_B2 : ∀ (_ : Unit), ((loopF (impl_FDViolation_B1 a1 v5) m) (IntKind.i64.wrap (y2 + 1))) = some o1 → ∀ σ' : PS, okK σ' [(3, .box [.str a1.1, .dat a1.2.1.length (a1.2.1.flatMap ci64), .int .i64 a1.2.2]), (5, .box [.int .i64 v5.1.1, .own 30 v5.1.2.length (v5.1.2.flatMap c30_o)]), (23, .dat v5.1.2.length (v5.1.2.flatMap c30_o)), (24, .int .i64 (List.length v5.1.2 : Int)), (25, .int .i64 y2)] → K10 σ' := by
        intro _ h σ' hk
        refine hK10 _ (ls_keep [(3, .box [.str a1.1, .dat a1.2.1.length (a1.2.1.flatMap ci64), .int .i64 a1.2.2]), (5, .box [.int .i64 v5.1.1, .own 30 v5.1.2.length (v5.1.2.flatMap c30_o)]), (23, .dat v5.1.2.length (v5.1.2.flatMap c30_o)), (24, .int .i64 (List.length v5.1.2 : Int)), (25, .int .i64 y2)] hk rfl ?_)
        refine ls_rgn tbOk ?_
        refine evs (ev_bin (c1 := .int .i64 y2) (c2 := .int .i64 1) rfl rfl rfl (evs (ev_mv (c := .int .i64 (IntKind.i64.wrap (y2 + 1))) rfl rfl rfl (evn ?_))))
        exact hN _ (IntKind.i64.wrap (y2 + 1)) h ⟨kr, kr, kr, kr, kr, trivial⟩
      refine ls_rec (fun (y4 : Int) => [(3, .box [.str a1.1, .dat a1.2.1.length (a1.2.1.flatMap ci64), .int .i64 a1.2.2]), (5, .box [.int .i64 v5.1.1, .own 30 v5.1.2.length (v5.1.2.flatMap c30_o)]), (7, .int .i64 y2), (8, .dat e11.length (e11.flatMap ci64)), (23, .dat v5.1.2.length (v5.1.2.flatMap c30_o)), (24, .int .i64 (List.length v5.1.2 : Int)), (25, .int .i64 y2), (33, .dat (subl v5.1.2 0 y2).length ((subl v5.1.2 0 y2).flatMap c30_o)), (34, .int .i64 (List.length (subl v5.1.2 0 y2) : Int)), (35, .int .i64 y4)]) (impl_FDViolation_B2 a1 v5 y2 e11) fz 0 o2 hl ⟨kr, kr, kr, kr, kr, kr, kr, kr, kr, kr, trivial⟩ (fun _ => rfl) ?_
      rintro m y4 N h hN
      unfold impl_FDViolation_B2 at h
      refine ls_rs tbOk ?_
      refine evs (ev_bin (c1 := .int .i64 y4) (c2 := .int .i64 (List.length (subl v5.1.2 0 y2) : Int)) rfl rfl rfl (evn ?_))
      refine ls_keep [(3, .box [.str a1.1, .dat a1.2.1.length (a1.2.1.flatMap ci64), .int .i64 a1.2.2]), (5, .box [.int .i64 v5.1.1, .own 30 v5.1.2.length (v5.1.2.flatMap c30_o)]), (7, .int .i64 y2), (8, .dat e11.length (e11.flatMap ci64)), (23, .dat v5.1.2.length (v5.1.2.flatMap c30_o)), (24, .int .i64 (List.length v5.1.2 : Int)), (25, .int .i64 y2), (33, .dat (subl v5.1.2 0 y2).length ((subl v5.1.2 0 y2).flatMap c30_o)), (34, .int .i64 (List.length (subl v5.1.2 0 y2) : Int)), (35, .int .i64 y4), (36, .bool (decide (y4 < (List.length (subl v5.1.2 0 y2) : Int))))] ⟨kr, kr, kr, kr, kr, kr, kr, kr, kr, kr, kr, trivial⟩ rfl ?_
      refine ls_seq_k fun K14 hK14 => ?_
      rcases cond_some h with ⟨g15, h⟩ | ⟨g15, h⟩
      · refine ls_cT rfl g15 ?_
        refine ls_skip ?_
        refine hK14 _ (ls_keep [(3, .box [.str a1.1, .dat a1.2.1.length (a1.2.1.flatMap ci64), .int .i64 a1.2.2]), (5, .box [.int .i64 v5.1.1, .own 30 v5.1.2.length (v5.1.2.flatMap c30_o)]), (7, .int .i64 y2), (8, .dat e11.length (e11.flatMap ci64)), (23, .dat v5.1.2.length (v5.1.2.flatMap c30_o)), (24, .int .i64 (List.length v5.1.2 : Int)), (25, .int .i64 y2), (33, .dat (subl v5.1.2 0 y2).length ((subl v5.1.2 0 y2).flatMap c30_o)), (34, .int .i64 (List.length (subl v5.1.2 0 y2) : Int)), (35, .int .i64 y4)] ⟨kr, kr, kr, kr, kr, kr, kr, kr, kr, kr, trivial⟩ rfl ?_)
        refine ls_seq_k fun K16 hK16 => ?_
        refine ls_blk ?_
        refine ls_rs tbOk ?_
        refine evs (ev_mv (c := .int .i64 y4) rfl rfl rfl (?_))
        obtain ⟨e17, g18, h⟩ := ob_some h
        refine evs (ev_ia rfl rfl rfl ⟨(geti_some g18).1, (geti_some g18).2.1⟩ (evs (ev_ldEt (off := 0) (v := .dat e17.length (e17.flatMap ci64)) rfl rfl zc30_o g18 rfl (Nat.le_of_ble_eq_true rfl) rfl (evs (ev_as (c := .int .i64 y4) rfl rfl rfl (evs (ev_as (c := .dat e17.length (e17.flatMap ci64)) rfl rfl rfl (evn ?_))))))))
        refine ls_keep [(3, .box [.str a1.1, .dat a1.2.1.length (a1.2.1.flatMap ci64), .int .i64 a1.2.2]), (5, .box [.int .i64 v5.1.1, .own 30 v5.1.2.length (v5.1.2.flatMap c30_o)]), (7, .int .i64 y2), (8, .dat e11.length (e11.flatMap ci64)), (9, .int .i64 y4), (10, .dat e17.length (e17.flatMap ci64)), (23, .dat v5.1.2.length (v5.1.2.flatMap c30_o)), (24, .int .i64 (List.length v5.1.2 : Int)), (25, .int .i64 y2), (33, .dat (subl v5.1.2 0 y2).length ((subl v5.1.2 0 y2).flatMap c30_o)), (34, .int .i64 (List.length (subl v5.1.2 0 y2) : Int)), (35, .int .i64 y4)] ⟨kr, kr, kr, kr, kr, kr, kr, kr, kr, kr, kr, kr, trivial⟩ rfl ?_
        refine ls_rd_k tbOk mixed (by kernel_rfl) fun K19 hK19 => ?_
        have kimpl_FDViolation_J3 : ∀ (x20 : Bool), impl_FDViolation_J3 (loopF (impl_FDViolation_B2 a1 v5 y2 e11) m) y2 y4 x20 = some o2 → ∀ σ' : PS, okK σ' [(3, .box [.str a1.1, .dat a1.2.1.length (a1.2.1.flatMap ci64), .int .i64 a1.2.2]), (5, .box [.int .i64 v5.1.1, .own 30 v5.1.2.length (v5.1.2.flatMap c30_o)]), (7, .int .i64 y2), (8, .dat e11.length (e11.flatMap ci64)), (9, .int .i64 y4), (23, .dat v5.1.2.length (v5.1.2.flatMap c30_o)), (24, .int .i64 (List.length v5.1.2 : Int)), (25, .int .i64 y2), (33, .dat (subl v5.1.2 0 y2).length ((subl v5.1.2 0 y2).flatMap c30_o)), (34, .int .i64 (List.length (subl v5.1.2 0 y2) : Int)), (35, .int .i64 y4), (61, .bool x20)] → K19 σ' := by
          intro x20 h σ' hk
          unfold impl_FDViolation_J3 at h
          refine hK19 _ (ls_keep [(3, .box [.str a1.1, .dat a1.2.1.length (a1.2.1.flatMap ci64), .int .i64 a1.2.2]), (5, .box [.int .i64 v5.1.1, .own 30 v5.1.2.length (v5.1.2.flatMap c30_o)]), (7, .int .i64 y2), (8, .dat e11.length (e11.flatMap ci64)), (9, .int .i64 y4), (23, .dat v5.1.2.length (v5.1.2.flatMap c30_o)), (24, .int .i64 (List.length v5.1.2 : Int)), (25, .int .i64 y2), (33, .dat (subl v5.1.2 0 y2).length ((subl v5.1.2 0 y2).flatMap c30_o)), (34, .int .i64 (List.length (subl v5.1.2 0 y2) : Int)), (35, .int .i64 y4), (61, .bool x20)] hk rfl ?_)
          rcases cond_some h with ⟨g21, h⟩ | ⟨g21, h⟩
          · refine ls_cT rfl g21 ?_
            refine ls_rs tbOk ?_
            refine evs (ev_mv (c := .int .i64 y4) rfl rfl rfl (evs (ev_mv (c := .int .i64 y2) rfl rfl rfl (evs (ev_bs [.int .i64 y4, .int .i64 y2] (cs := [.int .i64 y4, .int .i64 y2]) rfl ⟨rfl, rfl, trivial⟩ rfl (Nat.le_of_ble_eq_true rfl) rfl (evs (ev_as (c := .own 3 [y4, y2].length ([y4, y2].flatMap ci64)) rfl rfl rfl (evn ?_))))))))
            refine ls_keep [(4, .own 3 [y4, y2].length ([y4, y2].flatMap ci64))] ⟨kr, trivial⟩ rfl ?_
            refine ls_ret ?_
            have q0 := (Option.some.inj h).symm
            have r0 := hr2
            rw [q0] at r0
            have q1 := (Option.some.inj r0).symm
            have r1 := hr1
            rw [q1] at r1
            have hr := Option.some.inj r1
            rw [← hr]
            exact ⟨.inl rfl, rfl⟩
          · refine ls_cF rfl g21 ?_
            refine ls_skip ?_
            refine hK16 _ (ls_keep [(3, .box [.str a1.1, .dat a1.2.1.length (a1.2.1.flatMap ci64), .int .i64 a1.2.2]), (5, .box [.int .i64 v5.1.1, .own 30 v5.1.2.length (v5.1.2.flatMap c30_o)]), (7, .int .i64 y2), (8, .dat e11.length (e11.flatMap ci64)), (23, .dat v5.1.2.length (v5.1.2.flatMap c30_o)), (24, .int .i64 (List.length v5.1.2 : Int)), (25, .int .i64 y2), (33, .dat (subl v5.1.2 0 y2).length ((subl v5.1.2 0 y2).flatMap c30_o)), (34, .int .i64 (List.length (subl v5.1.2 0 y2) : Int)), (35, .int .i64 y4)] ⟨kr, kr, kr, kr, kr, kr, kr, kr, kr, kr, trivial⟩ rfl ?_)
            refine ls_rgn tbOk ?_
            refine evs (ev_bin (c1 := .int .i64 y4) (c2 := .int .i64 1) rfl rfl rfl (evs (ev_mv (c := .int .i64 (IntKind.i64.wrap (y4 + 1))) rfl rfl rfl (evn ?_))))
            exact hN _ (IntKind.i64.wrap (y4 + 1)) h ⟨kr, kr, kr, kr, kr, kr, kr, kr, kr, kr, trivial⟩
        refine evd rfl rfl (ev_mv (c := .dat e17.length (e17.flatMap ci64)) rfl rfl rfl (evd rfl rfl (ev_fa (c1 := .cref 3 0) (v := .cref 3 2) rfl rfl rfl ⟨_, rfl⟩ rfl (evd rfl rfl (ev_ldB (off := 2) (v := .int .i64 a1.2.2) rfl rfl rfl rfl (Nat.le_of_ble_eq_true rfl) rfl (?_))))))
        obtain ⟨e22, g23, h⟩ := ob_some h
        refine evd rfl rfl (ev_ia rfl rfl rfl ⟨(geti_some g23).1, (geti_some g23).2.1⟩ (evd rfl rfl (ev_ldE (off := 0) (v := .int .i64 e22) rfl rfl zci64 g23 rfl (Nat.le_of_ble_eq_true rfl) rfl (evd rfl rfl (ev_mv (c := .dat e11.length (e11.flatMap ci64)) rfl rfl rfl (evd rfl rfl (ev_fa (c1 := .cref 3 0) (v := .cref 3 2) rfl rfl rfl ⟨_, rfl⟩ rfl (evd rfl rfl (ev_ldB (off := 2) (v := .int .i64 a1.2.2) rfl rfl rfl rfl (Nat.le_of_ble_eq_true rfl) rfl (?_))))))))))
        obtain ⟨e24, g25, h⟩ := ob_some h
        refine evd rfl rfl (ev_ia rfl rfl rfl ⟨(geti_some g25).1, (geti_some g25).2.1⟩ (evd rfl rfl (ev_ldE (off := 0) (v := .int .i64 e24) rfl rfl zci64 g25 rfl (Nat.le_of_ble_eq_true rfl) rfl (evd rfl rfl (ev_bin (c1 := .int .i64 e22) (c2 := .int .i64 e24) rfl rfl rfl (evd rfl rfl (ev_mv (c := .bool (e22 != e24)) rfl rfl rfl (?_))))))))
        rcases cond_some h with ⟨g26, h⟩ | ⟨g26, h⟩
        · refine evd rfl rfl (ev_gr rfl (congrArg V.bool g26) (ev_mv (c := .dat e17.length (e17.flatMap ci64)) rfl rfl rfl (evd rfl rfl (ev_gr rfl (congrArg V.bool g26) (ev_fa (c1 := .cref 3 0) (v := .cref 3 1) rfl rfl rfl ⟨_, rfl⟩ rfl (evd rfl rfl (ev_gr rfl (congrArg V.bool g26) (ev_ldB (off := 1) (v := .dat a1.2.1.length (a1.2.1.flatMap ci64)) rfl rfl rfl rfl (Nat.le_of_ble_eq_true rfl) rfl (?_)))))))))
          obtain ⟨v27, g28, h⟩ := ob_some h
          refine evd rfl rfl (ev_gr rfl (congrArg V.bool g26) (ev_call (era rfl (erD eci64 _) (era rfl (erD eci64 _) eran)) (impl_pick_s g28) (evd rfl rfl (ev_gr rfl (congrArg V.bool g26) (ev_mv (c := .dat e11.length (e11.flatMap ci64)) rfl rfl rfl (evd rfl rfl (ev_gr rfl (congrArg V.bool g26) (ev_fa (c1 := .cref 3 0) (v := .cref 3 1) rfl rfl rfl ⟨_, rfl⟩ rfl (evd rfl rfl (ev_gr rfl (congrArg V.bool g26) (ev_ldB (off := 1) (v := .dat a1.2.1.length (a1.2.1.flatMap ci64)) rfl rfl rfl rfl (Nat.le_of_ble_eq_true rfl) rfl (?_))))))))))))
          obtain ⟨v29, g30, h⟩ := ob_some h
          refine evd rfl rfl (ev_gr rfl (congrArg V.bool g26) (ev_call (era rfl (erD eci64 _) (era rfl (erD eci64 _) eran)) (impl_pick_s g30) (?_)))
          obtain ⟨v31, g32, h⟩ := ob_some h
          refine evd rfl rfl (ev_gr rfl (congrArg V.bool g26) (ev_call (era rfl (erO eci64 _) (era rfl (erO eci64 _) eran)) (impl_sameInts_s g32) (evd rfl rfl (ev_pkT (c1 := .bool v31) rfl g26 rfl rfl (evdn ?_)))))
          exact kimpl_FDViolation_J3 v31 h _ ⟨kr, kr, kr, kr, kr, kr, kr, kr, kr, kr, kr, kr, trivial⟩
        · refine evd rfl rfl (ev_gs rfl rfl (isb_F g26) (evd rfl rfl (ev_gs rfl rfl (isb_F g26) (evd rfl rfl (ev_gs rfl rfl (isb_F g26) (evd rfl rfl (ev_gs rfl rfl (isb_F g26) (evd rfl rfl (ev_gs rfl rfl (isb_F g26) (evd rfl rfl (ev_gs rfl rfl (isb_F g26) (evd rfl rfl (ev_gs rfl rfl (isb_F g26) (evd rfl rfl (ev_gs rfl rfl (isb_F g26) (evd rfl rfl (ev_gs rfl rfl (isb_F g26) (evd rfl rfl (ev_pkF (c1 := .bool false) rfl g26 rfl rfl (evdn ?_))))))))))))))))))))
          exact kimpl_FDViolation_J3 false h _ ⟨kr, kr, kr, kr, kr, kr, kr, kr, kr, kr, kr, kr, trivial⟩
      · refine ls_cF rfl g15 ?_
        refine ls_exit ?_
        have q0 := (Option.some.inj h).symm
        have r0 := hr2
        rw [q0] at r0
        exact kXimpl_FDViolation_B2 () r0 _ ⟨kr, kr, kr, kr, kr, trivial⟩
    · refine ls_cF rfl g9 ?_
      refine ls_exit ?_
      have q0 := (Option.some.inj h).symm
      have r0 := hr1
      rw [q0] at r0
      exact kXimpl_FDViolation_B1 () r0 _ trivial
def impl_FDHolds_J1 (x2 : Bool) : Option (Bool) := some x2
def impl_FDHolds (a0 : (List ((List UInt8) × (Int × (List (List Int)))))) (a1 : (List UInt8) × (List Int) × Int) : Option (Bool) := obind (impl_IsValidFD a0 a1) fun v3 => cond v3 (obind (impl_FDViolation a0 a1) fun v6 => impl_FDHolds_J1 ((List.length v6 : Int) == 0)) (impl_FDHolds_J1 false)
theorem impl_FDHolds_s {a0 : (List ((List UInt8) × (Int × (List (List Int)))))} {a1 : (List UInt8) × (List Int) × Int} {r : Bool} (h : impl_FDHolds a0 a1 = some r) : SoundAt Try.prog 69 [.agg [.dat a0.length (a0.flatMap c157_dd)], .agg [.str a1.1, .dat a1.2.1.length (a1.2.1.flatMap ci64), .int .i64 a1.2.2]] (.bool r) := by
  unfold impl_FDHolds at h
  refine sound_lit tbOk lit69 (Nat.le_of_ble_eq_true rfl) rfl ?_
  unfold c69
  refine ls_keep [(0, .agg [.dat a0.length (a0.flatMap c157_dd)]), (1, .agg [.str a1.1, .dat a1.2.1.length (a1.2.1.flatMap ci64), .int .i64 a1.2.2])] ⟨kr, kr, trivial⟩ rfl ?_
  refine ls_rs tbOk ?_
  refine evs (ev_bx (c1 := .agg [.dat a0.length (a0.flatMap c157_dd)]) rfl rfl rfl (evs (ev_bx (c1 := .agg [.str a1.1, .dat a1.2.1.length (a1.2.1.flatMap ci64), .int .i64 a1.2.2]) rfl rfl rfl (evs (ev_ac rfl nofun rfl (evn ?_))))))
  refine ls_keep [(2, .box [.dat a0.length (a0.flatMap c157_dd)]), (3, .box [.str a1.1, .dat a1.2.1.length (a1.2.1.flatMap ci64), .int .i64 a1.2.2])] ⟨kr, kr, trivial⟩ rfl ?_
  refine ls_rs_k tbOk fun K1 hK1 => ?_
  have kimpl_FDHolds_J1 : ∀ (x2 : Bool), impl_FDHolds_J1 x2 = some r → ∀ σ' : PS, okK σ' [(4, .bool x2)] → K1 σ' := by
    intro x2 h σ' hk
    unfold impl_FDHolds_J1 at h
    refine hK1 _ (ls_keep [(4, .bool x2)] hk rfl ?_)
    refine ls_ret ?_
    have hr := Option.some.inj h
    rw [← hr]
    exact ⟨.inl rfl, rfl⟩
  refine evs (ev_ldB (off := 0) (v := .agg [.dat a0.length (a0.flatMap c157_dd)]) rfl rfl rfl rfl (Nat.le_of_ble_eq_true rfl) rfl (evs (ev_ldB (off := 0) (v := .agg [.str a1.1, .dat a1.2.1.length (a1.2.1.flatMap ci64), .int .i64 a1.2.2]) rfl rfl rfl rfl (Nat.le_of_ble_eq_true rfl) rfl (?_))))
  obtain ⟨v3, g4, h⟩ := ob_some h
  refine evs (ev_call (era rfl (erg (erc (erD ec157_dd _) rfl)) (era rfl (erg (erc rfl (erc (erD eci64 _) (erc rfl rfl)))) eran)) (impl_IsValidFD_s g4) (evs (ev_mv (c := .bool v3) rfl rfl rfl (?_))))
  rcases cond_some h with ⟨g5, h⟩ | ⟨g5, h⟩
  · refine evs (ev_gr rfl (congrArg V.bool g5) (ev_ldB (off := 0) (v := .agg [.dat a0.length (a0.flatMap c157_dd)]) rfl rfl rfl rfl (Nat.le_of_ble_eq_true rfl) rfl (evs (ev_gr rfl (congrArg V.bool g5) (ev_ldB (off := 0) (v := .agg [.str a1.1, .dat a1.2.1.length (a1.2.1.flatMap ci64), .int .i64 a1.2.2]) rfl rfl rfl rfl (Nat.le_of_ble_eq_true rfl) rfl (?_))))))
    obtain ⟨v6, g7, h⟩ := ob_some h
    refine evs (ev_gr rfl (congrArg V.bool g5) (ev_call (era rfl (erg (erc (erD ec157_dd _) rfl)) (era rfl (erg (erc rfl (erc (erD eci64 _) (erc rfl rfl)))) eran)) (impl_FDViolation_s g7) (evs (ev_gr rfl (congrArg V.bool g5) (ev_len (c1 := .own 3 v6.length (v6.flatMap ci64)) rfl rfl rfl (evs (ev_gr rfl (congrArg V.bool g5) (ev_bin (c1 := .int .i64 (List.length v6 : Int)) (c2 := .int .i64 0) rfl rfl rfl (evs (ev_pkT (c1 := .bool ((List.length v6 : Int) == 0)) rfl g5 rfl rfl (evs (ev_as (c := .bool ((List.length v6 : Int) == 0)) rfl rfl rfl (evn ?_)))))))))))))
    exact kimpl_FDHolds_J1 ((List.length v6 : Int) == 0) h _ ⟨kr, trivial⟩
  · refine evs (ev_gs rfl rfl (isb_F g5) (evs (ev_gs rfl rfl (isb_F g5) (evs (ev_gs rfl rfl (isb_F g5) (evs (ev_gs rfl rfl (isb_F g5) (evs (ev_gs rfl rfl (isb_F g5) (evs (ev_pkF (c1 := .bool false) rfl g5 rfl rfl (evs (ev_as (c := .bool false) rfl rfl rfl (evn ?_))))))))))))))
    exact kimpl_FDHolds_J1 false h _ ⟨kr, trivial⟩
def spec_l5Cols_B1 (a0 : List Int) (a1 : List Int) (rec : ((List Int) × Int) → Option ((List Int))) (s : (List Int) × Int) : Option ((List Int)) := match s with
  | (y1, y2) => cond (decide (y2 < (List.length a1 : Int))) (obind (geti a1 y2) fun e6 => obind (geti a0 e6) fun e8 => chk (List.length y1 + List.length [e8] ≤ lim) (rec ((y1 ++ [e8]), (IntKind.i64.wrap (y2 + 1))))) (some y1)
def spec_l5Cols (a0 : List Int) (a1 : List Int) : Option ((List Int)) := obind (loopF (spec_l5Cols_B1 a0 a1) fz (([] : List Int), 0)) fun z2 => some z2
theorem spec_l5Cols_s {a0 : List Int} {a1 : List Int} {r : (List Int)} (h : spec_l5Cols a0 a1 = some r) : SoundAt Try.prog 136 [.dat a0.length (a0.flatMap ci64), .dat a1.length (a1.flatMap ci64)] (.own 3 r.length (r.flatMap ci64)) := by
  unfold spec_l5Cols at h
  refine sound_lit tbOk lit136 (Nat.le_of_ble_eq_true rfl) rfl ?_
  unfold c136
  refine ls_keep [(0, .dat a0.length (a0.flatMap ci64)), (1, .dat a1.length (a1.flatMap ci64))] ⟨kr, kr, trivial⟩ rfl ?_
  refine ls_rs tbOk ?_
  refine evs (ev_an rfl rfl (evn ?_))
  refine ls_keep [(0, .dat a0.length (a0.flatMap ci64)), (1, .dat a1.length (a1.flatMap ci64))] ⟨kr, kr, trivial⟩ rfl ?_
  refine ls_rs tbOk ?_
  refine evs (ev_bs [] (cs := []) rfl trivial rfl (Nat.le_of_ble_eq_true rfl) rfl (evs (ev_as (c := .own 3 ([] : List Int).length (([] : List Int).flatMap ci64)) rfl rfl rfl (evn ?_))))
  refine ls_keep [(0, .dat a0.length (a0.flatMap ci64)), (1, .dat a1.length (a1.flatMap ci64)), (5, .own 3 ([] : List Int).length (([] : List Int).flatMap ci64))] ⟨kr, kr, kr, trivial⟩ rfl ?_
  refine ls_seq_k fun K1 hK1 => ?_
  refine ls_rs tbOk ?_
  refine evs (ev_ac rfl nofun rfl (evn ?_))
  refine ls_keep [(0, .dat a0.length (a0.flatMap ci64)), (1, .dat a1.length (a1.flatMap ci64)), (5, .own 3 ([] : List Int).length (([] : List Int).flatMap ci64)), (6, .int .i64 0)] ⟨kr, kr, kr, kr, trivial⟩ rfl ?_
  obtain ⟨o1, hl, hr1⟩ := ob_some h
  clear h
  have kXspec_l5Cols_B1 : ∀ (z2 : List Int), (some z2) = some r → ∀ σ' : PS, okK σ' [(5, .own 3 z2.length (z2.flatMap ci64))] → K1 σ' := by
    intro z2 h σ' hk
    refine hK1 _ (ls_keep [(5, .own 3 z2.length (z2.flatMap ci64))] hk rfl ?_)
    refine ls_rs tbOk ?_
    refine evs (ev_mvt (c := .own 3 z2.length (z2.flatMap ci64)) rfl rfl rfl (evs (ev_as (c := .own 3 z2.length (z2.flatMap ci64)) rfl rfl rfl (evn ?_))))
    refine ls_keep [(4, .own 3 z2.length (z2.flatMap ci64))] ⟨kr, trivial⟩ rfl ?_
    refine ls_ret ?_
    have hr := Option.some.inj h
    rw [← hr]
    exact ⟨.inl rfl, rfl⟩
  refine ls_rec (fun (s : (List Int) × Int) => match s with | (y1, y2) => [(0, .dat a0.length (a0.flatMap ci64)), (1, .dat a1.length (a1.flatMap ci64)), (5, .own 3 y1.length (y1.flatMap ci64)), (6, .int .i64 y2)]) (spec_l5Cols_B1 a0 a1) fz (([] : List Int), 0) o1 hl ⟨kr, kr, kr, kr, trivial⟩ (fun _ => rfl) ?_
  rintro m ⟨y1, y2⟩ N h hN
  unfold spec_l5Cols_B1 at h
  dsimp only at h
  refine ls_seq_k fun K3 hK3 => ?_
  refine ls_rs tbOk ?_
  refine evs (ev_mv (c := .int .i64 y2) rfl rfl rfl (evs (ev_mv (c := .dat a1.length (a1.flatMap ci64)) rfl rfl rfl (evs (ev_len (c1 := .dat a1.length (a1.flatMap ci64)) rfl rfl rfl (evs (ev_bin (c1 := .int .i64 y2) (c2 := .int .i64 (List.length a1 : Int)) rfl rfl rfl (evn ?_))))))))
  refine ls_keep [(0, .dat a0.length (a0.flatMap ci64)), (1, .dat a1.length (a1.flatMap ci64)), (5, .own 3 y1.length (y1.flatMap ci64)), (6, .int .i64 y2), (11, .bool (decide (y2 < (List.length a1 : Int))))] ⟨kr, kr, kr, kr, kr, trivial⟩ rfl ?_
  rcases cond_some h with ⟨g4, h⟩ | ⟨g4, h⟩
  · refine ls_cT rfl g4 ?_
    refine ls_skip ?_
    refine hK3 _ (ls_keep [(0, .dat a0.length (a0.flatMap ci64)), (1, .dat a1.length (a1.flatMap ci64)), (5, .own 3 y1.length (y1.flatMap ci64)), (6, .int .i64 y2)] ⟨kr, kr, kr, kr, trivial⟩ rfl ?_)
    refine ls_seq_k fun K5 hK5 => ?_
    refine ls_blk ?_
    refine ls_rgn tbOk ?_
    refine evs (ev_mvt (c := .own 3 y1.length (y1.flatMap ci64)) rfl rfl rfl (evs (ev_mv (c := .dat a0.length (a0.flatMap ci64)) rfl rfl rfl (evs (ev_mv (c := .dat a1.length (a1.flatMap ci64)) rfl rfl rfl (evs (ev_mv (c := .int .i64 y2) rfl rfl rfl (?_))))))))
    obtain ⟨e6, g7, h⟩ := ob_some h
    refine evs (ev_ia rfl rfl rfl ⟨(geti_some g7).1, (geti_some g7).2.1⟩ (evs (ev_ldE (off := 0) (v := .int .i64 e6) rfl rfl zci64 g7 rfl (Nat.le_of_ble_eq_true rfl) rfl (?_))))
    obtain ⟨e8, g9, h⟩ := ob_some h
    refine evs (ev_ia rfl rfl rfl ⟨(geti_some g9).1, (geti_some g9).2.1⟩ (evs (ev_ldE (off := 0) (v := .int .i64 e8) rfl rfl zci64 g9 rfl (Nat.le_of_ble_eq_true rfl) rfl (evs (ev_bs [.int .i64 e8] (cs := [.int .i64 e8]) rfl ⟨rfl, trivial⟩ rfl (Nat.le_of_ble_eq_true rfl) rfl (?_))))))
    obtain ⟨g10, h⟩ := chk_some h
    refine evs (ev_app (f := ci64) (l := y1) (m := [e8]) (c2 := .own 3 [e8].length ([e8].flatMap ci64)) rfl rfl rfl (flat_len zci64 [e8]) rfl rfl g10 rfl (evs (ev_as (c := .own 3 (y1 ++ [e8]).length ((y1 ++ [e8]).flatMap ci64)) rfl rfl rfl (evn ?_))))
    refine hK5 _ (ls_keep [(0, .dat a0.length (a0.flatMap ci64)), (1, .dat a1.length (a1.flatMap ci64)), (5, .own 3 (y1 ++ [e8]).length ((y1 ++ [e8]).flatMap ci64)), (6, .int .i64 y2)] ⟨kr, kr, kr, kr, trivial⟩ rfl ?_)
    refine ls_rgn tbOk ?_
    refine evs (ev_mv (c := .int .i64 y2) rfl rfl rfl (evs (ev_bin (c1 := .int .i64 y2) (c2 := .int .i64 1) rfl rfl rfl (evs (ev_as (c := .int .i64 (IntKind.i64.wrap (y2 + 1))) rfl rfl rfl (evn ?_))))))
    exact hN _ ((y1 ++ [e8]), (IntKind.i64.wrap (y2 + 1))) h ⟨kr, kr, kr, kr, trivial⟩
  · refine ls_cF rfl g4 ?_
    refine ls_exit ?_
    have q0 := (Option.some.inj h).symm
    have r0 := hr1
    rw [q0] at r0
    exact kXspec_l5Cols_B1 y1 r0 _ ⟨kr, trivial⟩
def spec_FDViolation_J3 (rec : Int → Option (Sum (Unit) ((List Int)))) (y2 : Int) (y4 : Int) (x14 : Bool) : Option (Sum (Unit) ((List Int))) := cond x14 (some (.inr [y4, y2])) (rec (IntKind.i64.wrap (y4 + 1)))
def spec_FDViolation_B2 (a1 : (List UInt8) × (List Int) × Int) (v1 : (Int × (List (List Int))) × Bool) (y2 : Int) (rec : Int → Option (Sum (Unit) ((List Int)))) (y4 : Int) : Option (Sum (Unit) ((List Int))) := cond (decide (y4 < y2)) (obind (geti v1.1.2 y4) fun e16 => obind (spec_l5Cols e16 a1.2.1) fun v18 => obind (geti v1.1.2 y2) fun e20 => obind (spec_l5Cols e20 a1.2.1) fun v22 => obind (spec_CompareRows v18 v22) fun v24 => cond (v24 == 0) (obind (geti v1.1.2 y4) fun e27 => obind (geti e27 a1.2.2) fun e29 => obind (geti v1.1.2 y2) fun e31 => obind (geti e31 a1.2.2) fun e33 => spec_FDViolation_J3 rec y2 y4 (e29 != e33)) (spec_FDViolation_J3 rec y2 y4 false)) (some (.inl ()))
def spec_FDViolation_B1 (a0 : (List ((List UInt8) × (Int × (List (List Int)))))) (a1 : (List UInt8) × (List Int) × Int) (v1 : (Int × (List (List Int))) × Bool) (rec : Int → Option (Sum (Unit) ((List Int)))) (y2 : Int) : Option (Sum (Unit) ((List Int))) := cond (decide (y2 < (List.length v1.1.2 : Int))) (obind (spec_IsValidFD a0 a1) fun v6 => cond v6 (obind (loopF (spec_FDViolation_B2 a1 v1 y2) fz 0) fun o2 => (match o2 with
  | .inl _ => (rec (IntKind.i64.wrap (y2 + 1)))
  | .inr r => some (.inr r))) (some (.inl ()))) (some (.inl ()))
def spec_FDViolation (a0 : (List ((List UInt8) × (Int × (List (List Int)))))) (a1 : (List UInt8) × (List Int) × Int) : Option ((List Int)) := obind (spec_LookupRelation a0 a1.1) fun v1 => obind (loopF (spec_FDViolation_B1 a0 a1 v1) fz 0) fun o1 => (match o1 with
  | .inl _ => (some ([] : List Int))
  | .inr r => some r)
theorem spec_FDViolation_s {a0 : (List ((List UInt8) × (Int × (List (List Int)))))} {a1 : (List UInt8) × (List Int) × Int} {r : (List Int)} (h : spec_FDViolation a0 a1 = some r) : SoundAt Try.prog 72 [.agg [.dat a0.length (a0.flatMap c157_dd)], .agg [.str a1.1, .dat a1.2.1.length (a1.2.1.flatMap ci64), .int .i64 a1.2.2]] (.own 3 r.length (r.flatMap ci64)) := by
  unfold spec_FDViolation at h
  refine sound_lit tbOk lit72 (Nat.le_of_ble_eq_true rfl) rfl ?_
  unfold c72
  refine ls_keep [(0, .agg [.dat a0.length (a0.flatMap c157_dd)]), (1, .agg [.str a1.1, .dat a1.2.1.length (a1.2.1.flatMap ci64), .int .i64 a1.2.2])] ⟨kr, kr, trivial⟩ rfl ?_
  refine ls_rs tbOk ?_
  refine evs (ev_bx (c1 := .agg [.dat a0.length (a0.flatMap c157_dd)]) rfl rfl rfl (evs (ev_bx (c1 := .agg [.str a1.1, .dat a1.2.1.length (a1.2.1.flatMap ci64), .int .i64 a1.2.2]) rfl rfl rfl (evs (ev_an rfl rfl (evn ?_))))))
  refine ls_keep [(2, .box [.dat a0.length (a0.flatMap c157_dd)]), (3, .box [.str a1.1, .dat a1.2.1.length (a1.2.1.flatMap ci64), .int .i64 a1.2.2])] ⟨kr, kr, trivial⟩ rfl ?_
  refine ls_rs tbOk ?_
  refine evs (ev_ldB (off := 0) (v := .agg [.dat a0.length (a0.flatMap c157_dd)]) rfl rfl rfl rfl (Nat.le_of_ble_eq_true rfl) rfl (evs (ev_fa (c1 := .cref 3 0) (v := .cref 3 0) rfl rfl rfl ⟨_, rfl⟩ rfl (evs (ev_ldB (off := 0) (v := .str a1.1) rfl rfl rfl rfl (Nat.le_of_ble_eq_true rfl) rfl (?_))))))
  obtain ⟨v1, g2, h⟩ := ob_some h
  refine evs (ev_call (era rfl (erg (erc (erD ec157_dd _) rfl)) (era rfl rfl eran)) (spec_LookupRelation_s g2) (evs (ev_mvt (c := .tup [.agg [.int .i64 v1.1.1, .own 30 v1.1.2.length (v1.1.2.flatMap c30_o)], .bool v1.2]) rfl rfl rfl (evs (ev_ext rfl rfl rfl rfl (evs (ev_ext rfl rfl rfl rfl (evs (ev_al rfl rfl (evs (ev_st (off := 0) (c1 := .agg [.int .i64 v1.1.1, .own 30 v1.1.2.length (v1.1.2.flatMap c30_o)]) (cs' := [.int .i64 v1.1.1, .own 30 v1.1.2.length (v1.1.2.flatMap c30_o)]) rfl rfl rfl rfl rfl rfl (Nat.le_of_ble_eq_true rfl) rfl (evs (ev_as (c := .bool v1.2) rfl rfl rfl (evn ?_))))))))))))))
  refine ls_keep [(2, .box [.dat a0.length (a0.flatMap c157_dd)]), (3, .box [.str a1.1, .dat a1.2.1.length (a1.2.1.flatMap ci64), .int .i64 a1.2.2]), (5, .box [.int .i64 v1.1.1, .own 30 v1.1.2.length (v1.1.2.flatMap c30_o)])] ⟨kr, kr, kr, trivial⟩ rfl ?_
  refine ls_seq_k fun K3 hK3 => ?_
  refine ls_rs tbOk ?_
  refine evs (ev_ac rfl nofun rfl (evn ?_))
  refine ls_keep [(2, .box [.dat a0.length (a0.flatMap c157_dd)]), (3, .box [.str a1.1, .dat a1.2.1.length (a1.2.1.flatMap ci64), .int .i64 a1.2.2]), (5, .box [.int .i64 v1.1.1, .own 30 v1.1.2.length (v1.1.2.flatMap c30_o)]), (7, .int .i64 0)] ⟨kr, kr, kr, kr, trivial⟩ rfl ?_
  obtain ⟨o1, hl, hr1⟩ := ob_some h
  clear h
  have kXspec_FDViolation_B1 : ∀ (_ : Unit), (some ([] : List Int)) = some r → ∀ σ' : PS, okK σ' [] → K3 σ' := by
    intro _ h σ' hk
    refine hK3 _ (ls_keep [] hk rfl ?_)
    refine ls_rs tbOk ?_
    refine evs (ev_bs [] (cs := []) rfl trivial rfl (Nat.le_of_ble_eq_true rfl) rfl (evs (ev_as (c := .own 3 ([] : List Int).length (([] : List Int).flatMap ci64)) rfl rfl rfl (evn ?_))))
    refine ls_keep [(4, .own 3 ([] : List Int).length (([] : List Int).flatMap ci64))] ⟨kr, trivial⟩ rfl ?_
    refine ls_ret ?_
    have hr := Option.some.inj h
    rw [← hr]
    exact ⟨.inl rfl, rfl⟩
  refine ls_rec (fun (y2 : Int) => [(2, .box [.dat a0.length (a0.flatMap c157_dd)]), (3, .box [.str a1.1, .dat a1.2.1.length (a1.2.1.flatMap ci64), .int .i64 a1.2.2]), (5, .box [.int .i64 v1.1.1, .own 30 v1.1.2.length (v1.1.2.flatMap c30_o)]), (7, .int .i64 y2)]) (spec_FDViolation_B1 a0 a1 v1) fz 0 o1 hl ⟨kr, kr, kr, kr, trivial⟩ (fun _ => rfl) ?_
  rintro m y2 N h hN
  unfold spec_FDViolation_B1 at h
  refine ls_seq_k fun K4 hK4 => ?_
  refine ls_rs tbOk ?_
  refine evs (ev_mv (c := .int .i64 y2) rfl rfl rfl (evs (ev_fa (c1 := .cref 5 0) (v := .cref 5 1) rfl rfl rfl ⟨_, rfl⟩ rfl (evs (ev_ldB (off := 1) (v := .dat v1.1.2.length (v1.1.2.flatMap c30_o)) rfl rfl rfl rfl (Nat.le_of_ble_eq_true rfl) rfl (evs (ev_len (c1 := .dat v1.1.2.length (v1.1.2.flatMap c30_o)) rfl rfl rfl (evs (ev_bin (c1 := .int .i64 y2) (c2 := .int .i64 (List.length v1.1.2 : Int)) rfl rfl rfl (evs (ev_mv (c := .bool (decide (y2 < (List.length v1.1.2 : Int)))) rfl rfl rfl (?_))))))))))))
  rcases cond_some h with ⟨g5, h⟩ | ⟨g5, h⟩
  · refine evs (ev_gr rfl (congrArg V.bool g5) (ev_ldB (off := 0) (v := .agg [.dat a0.length (a0.flatMap c157_dd)]) rfl rfl rfl rfl (Nat.le_of_ble_eq_true rfl) rfl (evs (ev_gr rfl (congrArg V.bool g5) (ev_ldB (off := 0) (v := .agg [.str a1.1, .dat a1.2.1.length (a1.2.1.flatMap ci64), .int .i64 a1.2.2]) rfl rfl rfl rfl (Nat.le_of_ble_eq_true rfl) rfl (?_))))))
    obtain ⟨v6, g7, h⟩ := ob_some h
    refine evs (ev_gr rfl (congrArg V.bool g5) (ev_call (era rfl (erg (erc (erD ec157_dd _) rfl)) (era rfl (erg (erc rfl (erc (erD eci64 _) (erc rfl rfl)))) eran)) (spec_IsValidFD_s g7) (evs (ev_pkT (c1 := .bool v6) rfl g5 rfl rfl (evn ?_)))))
    refine ls_keep [(2, .box [.dat a0.length (a0.flatMap c157_dd)]), (3, .box [.str a1.1, .dat a1.2.1.length (a1.2.1.flatMap ci64), .int .i64 a1.2.2]), (5, .box [.int .i64 v1.1.1, .own 30 v1.1.2.length (v1.1.2.flatMap c30_o)]), (7, .int .i64 y2), (25, .bool v6)] ⟨kr, kr, kr, kr, kr, trivial⟩ rfl ?_
    rcases cond_some h with ⟨g8, h⟩ | ⟨g8, h⟩
    · refine ls_cT rfl g8 ?_
      refine ls_skip ?_
      refine hK4 _ (ls_keep [(2, .box [.dat a0.length (a0.flatMap c157_dd)]), (3, .box [.str a1.1, .dat a1.2.1.length (a1.2.1.flatMap ci64), .int .i64 a1.2.2]), (5, .box [.int .i64 v1.1.1, .own 30 v1.1.2.length (v1.1.2.flatMap c30_o)]), (7, .int .i64 y2)] ⟨kr, kr, kr, kr, trivial⟩ rfl ?_)
      refine ls_seq_k fun K9 hK9 => ?_
      refine ls_blk ?_
      refine ls_rs tbOk ?_
      refine evs (ev_ac rfl nofun rfl (evn ?_))
      refine ls_keep [(2, .box [.dat a0.length (a0.flatMap c157_dd)]), (3, .box [.str a1.1, .dat a1.2.1.length (a1.2.1.flatMap ci64), .int .i64 a1.2.2]), (5, .box [.int .i64 v1.1.1, .own 30 v1.1.2.length (v1.1.2.flatMap c30_o)]), (7, .int .i64 y2), (8, .int .i64 0)] ⟨kr, kr, kr, kr, kr, trivial⟩ rfl ?_
      obtain ⟨o2, hl, hr2⟩ := ob_some h
      clear h
      have kXspec_FDViolation_B2 : ∀ (_ : Unit), ((loopF (spec_FDViolation_B1 a0 a1 v1) m) (IntKind.i64.wrap (y2 + 1))) = some o1 → ∀ σ' : PS, okK σ' [(2, .box [.dat a0.length (a0.flatMap c157_dd)]), (3, .box [.str a1.1, .dat a1.2.1.length (a1.2.1.flatMap ci64), .int .i64 a1.2.2]), (5, .box [.int .i64 v1.1.1, .own 30 v1.1.2.length (v1.1.2.flatMap c30_o)]), (7, .int .i64 y2)] → K9 σ' := by
        intro _ h σ' hk
        refine hK9 _ (ls_keep [(2, .box [.dat a0.length (a0.flatMap c157_dd)]), (3, .box [.str a1.1, .dat a1.2.1.length (a1.2.1.flatMap ci64), .int .i64 a1.2.2]), (5, .box [.int .i64 v1.1.1, .own 30 v1.1.2.length (v1.1.2.flatMap c30_o)]), (7, .int .i64 y2)] hk rfl ?_)
        refine ls_rgn tbOk ?_
        refine evs (ev_mv (c := .int .i64 y2) rfl rfl rfl (evs (ev_bin (c1 := .int .i64 y2) (c2 := .int .i64 1) rfl rfl rfl (evs (ev_as (c := .int .i64 (IntKind.i64.wrap (y2 + 1))) rfl rfl rfl (evn ?_))))))
        exact hN _ (IntKind.i64.wrap (y2 + 1)) h ⟨kr, kr, kr, kr, trivial⟩
      refine ls_rec (fun (y4 : Int) => [(2, .box [.dat a0.length (a0.flatMap c157_dd)]), (3, .box [.str a1.1, .dat a1.2.1.length (a1.2.1.flatMap ci64), .int .i64 a1.2.2]), (5, .box [.int .i64 v1.1.1, .own 30 v1.1.2.length (v1.1.2.flatMap c30_o)]), (7, .int .i64 y2), (8, .int .i64 y4)]) (spec_FDViolation_B2 a1 v1 y2) fz 0 o2 hl ⟨kr, kr, kr, kr, kr, trivial⟩ (fun _ => rfl) ?_
      rintro m y4 N h hN
      unfold spec_FDViolation_B2 at h
      refine ls_seq_k fun K10 hK10 => ?_
      refine ls_rs tbOk ?_
      refine evs (ev_mv (c := .int .i64 y4) rfl rfl rfl (evs (ev_mv (c := .int .i64 y2) rfl rfl rfl (evs (ev_bin (c1 := .int .i64 y4) (c2 := .int .i64 y2) rfl rfl rfl (evn ?_))))))
      refine ls_keep [(2, .box [.dat a0.length (a0.flatMap c157_dd)]), (3, .box [.str a1.1, .dat a1.2.1.length (a1.2.1.flatMap ci64), .int .i64 a1.2.2]), (5, .box [.int .i64 v1.1.1, .own 30 v1.1.2.length (v1.1.2.flatMap c30_o)]), (7, .int .i64 y2), (8, .int .i64 y4), (30, .bool (decide (y4 < y2)))] ⟨kr, kr, kr, kr, kr, kr, trivial⟩ rfl ?_
      rcases cond_some h with ⟨g11, h⟩ | ⟨g11, h⟩
      · refine ls_cT rfl g11 ?_
        refine ls_skip ?_
        refine hK10 _ (ls_keep [(2, .box [.dat a0.length (a0.flatMap c157_dd)]), (3, .box [.str a1.1, .dat a1.2.1.length (a1.2.1.flatMap ci64), .int .i64 a1.2.2]), (5, .box [.int .i64 v1.1.1, .own 30 v1.1.2.length (v1.1.2.flatMap c30_o)]), (7, .int .i64 y2), (8, .int .i64 y4)] ⟨kr, kr, kr, kr, kr, trivial⟩ rfl ?_)
        refine ls_seq_k fun K12 hK12 => ?_
        refine ls_blk ?_
        refine ls_rd_k tbOk mixed (by kernel_rfl) fun K13 hK13 => ?_
        have kspec_FDViolation_J3 : ∀ (x14 : Bool), spec_FDViolation_J3 (loopF (spec_FDViolation_B2 a1 v1 y2) m) y2 y4 x14 = some o2 → ∀ σ' : PS, okK σ' [(2, .box [.dat a0.length (a0.flatMap c157_dd)]), (3, .box [.str a1.1, .dat a1.2.1.length (a1.2.1.flatMap ci64), .int .i64 a1.2.2]), (5, .box [.int .i64 v1.1.1, .own 30 v1.1.2.length (v1.1.2.flatMap c30_o)]), (7, .int .i64 y2), (8, .int .i64 y4), (71, .bool x14)] → K13 σ' := by
          intro x14 h σ' hk
          unfold spec_FDViolation_J3 at h
          refine hK13 _ (ls_keep [(2, .box [.dat a0.length (a0.flatMap c157_dd)]), (3, .box [.str a1.1, .dat a1.2.1.length (a1.2.1.flatMap ci64), .int .i64 a1.2.2]), (5, .box [.int .i64 v1.1.1, .own 30 v1.1.2.length (v1.1.2.flatMap c30_o)]), (7, .int .i64 y2), (8, .int .i64 y4), (71, .bool x14)] hk rfl ?_)
          rcases cond_some h with ⟨g15, h⟩ | ⟨g15, h⟩
          · refine ls_cT rfl g15 ?_
            refine ls_rs tbOk ?_
            refine evs (ev_mv (c := .int .i64 y4) rfl rfl rfl (evs (ev_mv (c := .int .i64 y2) rfl rfl rfl (evs (ev_bs [.int .i64 y4, .int .i64 y2] (cs := [.int .i64 y4, .int .i64 y2]) rfl ⟨rfl, rfl, trivial⟩ rfl (Nat.le_of_ble_eq_true rfl) rfl (evs (ev_as (c := .own 3 [y4, y2].length ([y4, y2].flatMap ci64)) rfl rfl rfl (evn ?_))))))))
            refine ls_keep [(4, .own 3 [y4, y2].length ([y4, y2].flatMap ci64))] ⟨kr, trivial⟩ rfl ?_
            refine ls_ret ?_
            have q0 := (Option.some.inj h).symm
            have r0 := hr2
            rw [q0] at r0
            have q1 := (Option.some.inj r0).symm
            have r1 := hr1
            rw [q1] at r1
            have hr := Option.some.inj r1
            rw [← hr]
            exact ⟨.inl rfl, rfl⟩
          · refine ls_cF rfl g15 ?_
            refine ls_skip ?_
            refine hK12 _ (ls_keep [(2, .box [.dat a0.length (a0.flatMap c157_dd)]), (3, .box [.str a1.1, .dat a1.2.1.length (a1.2.1.flatMap ci64), .int .i64 a1.2.2]), (5, .box [.int .i64 v1.1.1, .own 30 v1.1.2.length (v1.1.2.flatMap c30_o)]), (7, .int .i64 y2), (8, .int .i64 y4)] ⟨kr, kr, kr, kr, kr, trivial⟩ rfl ?_)
            refine ls_rgn tbOk ?_
            refine evs (ev_mv (c := .int .i64 y4) rfl rfl rfl (evs (ev_bin (c1 := .int .i64 y4) (c2 := .int .i64 1) rfl rfl rfl (evs (ev_as (c := .int .i64 (IntKind.i64.wrap (y4 + 1))) rfl rfl rfl (evn ?_))))))
            exact hN _ (IntKind.i64.wrap (y4 + 1)) h ⟨kr, kr, kr, kr, kr, trivial⟩
        refine evd rfl rfl (ev_fa (c1 := .cref 5 0) (v := .cref 5 1) rfl rfl rfl ⟨_, rfl⟩ rfl (evd rfl rfl (ev_ldB (off := 1) (v := .dat v1.1.2.length (v1.1.2.flatMap c30_o)) rfl rfl rfl rfl (Nat.le_of_ble_eq_true rfl) rfl (evd rfl rfl (ev_mv (c := .int .i64 y4) rfl rfl rfl (?_))))))
        obtain ⟨e16, g17, h⟩ := ob_some h
        refine evd rfl rfl (ev_ia rfl rfl rfl ⟨(geti_some g17).1, (geti_some g17).2.1⟩ (evd rfl rfl (ev_ldE (off := 0) (v := .dat e16.length (e16.flatMap ci64)) rfl rfl zc30_o g17 rfl (Nat.le_of_ble_eq_true rfl) rfl (evd rfl rfl (ev_fa (c1 := .cref 3 0) (v := .cref 3 1) rfl rfl rfl ⟨_, rfl⟩ rfl (evd rfl rfl (ev_ldB (off := 1) (v := .dat a1.2.1.length (a1.2.1.flatMap ci64)) rfl rfl rfl rfl (Nat.le_of_ble_eq_true rfl) rfl (?_))))))))
        obtain ⟨v18, g19, h⟩ := ob_some h
        refine evd rfl rfl (ev_call (era rfl (erD eci64 _) (era rfl (erD eci64 _) eran)) (spec_l5Cols_s g19) (evd rfl rfl (ev_fa (c1 := .cref 5 0) (v := .cref 5 1) rfl rfl rfl ⟨_, rfl⟩ rfl (evd rfl rfl (ev_ldB (off := 1) (v := .dat v1.1.2.length (v1.1.2.flatMap c30_o)) rfl rfl rfl rfl (Nat.le_of_ble_eq_true rfl) rfl (evd rfl rfl (ev_mv (c := .int .i64 y2) rfl rfl rfl (?_))))))))
        obtain ⟨e20, g21, h⟩ := ob_some h
        refine evd rfl rfl (ev_ia rfl rfl rfl ⟨(geti_some g21).1, (geti_some g21).2.1⟩ (evd rfl rfl (ev_ldE (off := 0) (v := .dat e20.length (e20.flatMap ci64)) rfl rfl zc30_o g21 rfl (Nat.le_of_ble_eq_true rfl) rfl (evd rfl rfl (ev_fa (c1 := .cref 3 0) (v := .cref 3 1) rfl rfl rfl ⟨_, rfl⟩ rfl (evd rfl rfl (ev_ldB (off := 1) (v := .dat a1.2.1.length (a1.2.1.flatMap ci64)) rfl rfl rfl rfl (Nat.le_of_ble_eq_true rfl) rfl (?_))))))))
        obtain ⟨v22, g23, h⟩ := ob_some h
        refine evd rfl rfl (ev_call (era rfl (erD eci64 _) (era rfl (erD eci64 _) eran)) (spec_l5Cols_s g23) (?_))
        obtain ⟨v24, g25, h⟩ := ob_some h
        refine evd rfl rfl (ev_call (era rfl (erO eci64 _) (era rfl (erO eci64 _) eran)) (spec_CompareRows_s g25) (evd rfl rfl (ev_bin (c1 := .int .i64 v24) (c2 := .int .i64 0) rfl rfl rfl (evd rfl rfl (ev_mv (c := .bool (v24 == 0)) rfl rfl rfl (?_))))))
        rcases cond_some h with ⟨g26, h⟩ | ⟨g26, h⟩
        · refine evd rfl rfl (ev_gr rfl (congrArg V.bool g26) (ev_fa (c1 := .cref 5 0) (v := .cref 5 1) rfl rfl rfl ⟨_, rfl⟩ rfl (evd rfl rfl (ev_gr rfl (congrArg V.bool g26) (ev_ldB (off := 1) (v := .dat v1.1.2.length (v1.1.2.flatMap c30_o)) rfl rfl rfl rfl (Nat.le_of_ble_eq_true rfl) rfl (evd rfl rfl (ev_gr rfl (congrArg V.bool g26) (ev_mv (c := .int .i64 y4) rfl rfl rfl (?_)))))))))
          obtain ⟨e27, g28, h⟩ := ob_some h
          refine evd rfl rfl (ev_gr rfl (congrArg V.bool g26) (ev_ia rfl rfl rfl ⟨(geti_some g28).1, (geti_some g28).2.1⟩ (evd rfl rfl (ev_gr rfl (congrArg V.bool g26) (ev_ldE (off := 0) (v := .dat e27.length (e27.flatMap ci64)) rfl rfl zc30_o g28 rfl (Nat.le_of_ble_eq_true rfl) rfl (evd rfl rfl (ev_gr rfl (congrArg V.bool g26) (ev_fa (c1 := .cref 3 0) (v := .cref 3 2) rfl rfl rfl ⟨_, rfl⟩ rfl (evd rfl rfl (ev_gr rfl (congrArg V.bool g26) (ev_ldB (off := 2) (v := .int .i64 a1.2.2) rfl rfl rfl rfl (Nat.le_of_ble_eq_true rfl) rfl (?_))))))))))))
          obtain ⟨e29, g30, h⟩ := ob_some h
          refine evd rfl rfl (ev_gr rfl (congrArg V.bool g26) (ev_ia rfl rfl rfl ⟨(geti_some g30).1, (geti_some g30).2.1⟩ (evd rfl rfl (ev_gr rfl (congrArg V.bool g26) (ev_ldE (off := 0) (v := .int .i64 e29) rfl rfl zci64 g30 rfl (Nat.le_of_ble_eq_true rfl) rfl (evd rfl rfl (ev_gr rfl (congrArg V.bool g26) (ev_fa (c1 := .cref 5 0) (v := .cref 5 1) rfl rfl rfl ⟨_, rfl⟩ rfl (evd rfl rfl (ev_gr rfl (congrArg V.bool g26) (ev_ldB (off := 1) (v := .dat v1.1.2.length (v1.1.2.flatMap c30_o)) rfl rfl rfl rfl (Nat.le_of_ble_eq_true rfl) rfl (evd rfl rfl (ev_gr rfl (congrArg V.bool g26) (ev_mv (c := .int .i64 y2) rfl rfl rfl (?_)))))))))))))))
          obtain ⟨e31, g32, h⟩ := ob_some h
          refine evd rfl rfl (ev_gr rfl (congrArg V.bool g26) (ev_ia rfl rfl rfl ⟨(geti_some g32).1, (geti_some g32).2.1⟩ (evd rfl rfl (ev_gr rfl (congrArg V.bool g26) (ev_ldE (off := 0) (v := .dat e31.length (e31.flatMap ci64)) rfl rfl zc30_o g32 rfl (Nat.le_of_ble_eq_true rfl) rfl (evd rfl rfl (ev_gr rfl (congrArg V.bool g26) (ev_fa (c1 := .cref 3 0) (v := .cref 3 2) rfl rfl rfl ⟨_, rfl⟩ rfl (evd rfl rfl (ev_gr rfl (congrArg V.bool g26) (ev_ldB (off := 2) (v := .int .i64 a1.2.2) rfl rfl rfl rfl (Nat.le_of_ble_eq_true rfl) rfl (?_))))))))))))
          obtain ⟨e33, g34, h⟩ := ob_some h
          refine evd rfl rfl (ev_gr rfl (congrArg V.bool g26) (ev_ia rfl rfl rfl ⟨(geti_some g34).1, (geti_some g34).2.1⟩ (evd rfl rfl (ev_gr rfl (congrArg V.bool g26) (ev_ldE (off := 0) (v := .int .i64 e33) rfl rfl zci64 g34 rfl (Nat.le_of_ble_eq_true rfl) rfl (evd rfl rfl (ev_gr rfl (congrArg V.bool g26) (ev_bin (c1 := .int .i64 e29) (c2 := .int .i64 e33) rfl rfl rfl (evd rfl rfl (ev_pkT (c1 := .bool (e29 != e33)) rfl g26 rfl rfl (evdn ?_)))))))))))
          exact kspec_FDViolation_J3 (e29 != e33) h _ ⟨kr, kr, kr, kr, kr, kr, trivial⟩
        · refine evd rfl rfl (ev_gs rfl rfl (isb_F g26) (evd rfl rfl (ev_gs rfl rfl (isb_F g26) (evd rfl rfl (ev_gs rfl rfl (isb_F g26) (evd rfl rfl (ev_gs rfl rfl (isb_F g26) (evd rfl rfl (ev_gs rfl rfl (isb_F g26) (evd rfl rfl (ev_gs rfl rfl (isb_F g26) (evd rfl rfl (ev_gs rfl rfl (isb_F g26) (evd rfl rfl (ev_gs rfl rfl (isb_F g26) (evd rfl rfl (ev_gs rfl rfl (isb_F g26) (evd rfl rfl (ev_gs rfl rfl (isb_F g26) (evd rfl rfl (ev_gs rfl rfl (isb_F g26) (evd rfl rfl (ev_gs rfl rfl (isb_F g26) (evd rfl rfl (ev_gs rfl rfl (isb_F g26) (evd rfl rfl (ev_gs rfl rfl (isb_F g26) (evd rfl rfl (ev_gs rfl rfl (isb_F g26) (evd rfl rfl (ev_gs rfl rfl (isb_F g26) (evd rfl rfl (ev_gs rfl rfl (isb_F g26) (evd rfl rfl (ev_gs rfl rfl (isb_F g26) (evd rfl rfl (ev_gs rfl rfl (isb_F g26) (evd rfl rfl (ev_pkF (c1 := .bool false) rfl g26 rfl rfl (evdn ?_))))))))))))))))))))))))))))))))))))))))
          exact kspec_FDViolation_J3 false h _ ⟨kr, kr, kr, kr, kr, kr, trivial⟩
      · refine ls_cF rfl g11 ?_
        refine ls_exit ?_
        have q0 := (Option.some.inj h).symm
        have r0 := hr2
        rw [q0] at r0
        exact kXspec_FDViolation_B2 () r0 _ ⟨kr, kr, kr, kr, trivial⟩
    · refine ls_cF rfl g8 ?_
      refine ls_exit ?_
      have q0 := (Option.some.inj h).symm
      have r0 := hr1
      rw [q0] at r0
      exact kXspec_FDViolation_B1 () r0 _ trivial
  · refine evs (ev_gs rfl rfl (isb_F g5) (evs (ev_gs rfl rfl (isb_F g5) (evs (ev_gs rfl rfl (isb_F g5) (evs (ev_pkF (c1 := .bool false) rfl g5 rfl rfl (evn ?_))))))))
    refine ls_keep [(2, .box [.dat a0.length (a0.flatMap c157_dd)]), (3, .box [.str a1.1, .dat a1.2.1.length (a1.2.1.flatMap ci64), .int .i64 a1.2.2]), (5, .box [.int .i64 v1.1.1, .own 30 v1.1.2.length (v1.1.2.flatMap c30_o)]), (7, .int .i64 y2), (25, .bool false)] ⟨kr, kr, kr, kr, kr, trivial⟩ rfl ?_
    refine ls_cF rfl rfl ?_
    refine ls_exit ?_
    have q0 := (Option.some.inj h).symm
    have r0 := hr1
    rw [q0] at r0
    exact kXspec_FDViolation_B1 () r0 _ trivial
def spec_FDHolds_J1 (x2 : Bool) : Option (Bool) := some x2
def spec_FDHolds (a0 : (List ((List UInt8) × (Int × (List (List Int)))))) (a1 : (List UInt8) × (List Int) × Int) : Option (Bool) := obind (spec_IsValidFD a0 a1) fun v3 => cond v3 (obind (spec_FDViolation a0 a1) fun v6 => spec_FDHolds_J1 ((List.length v6 : Int) == 0)) (spec_FDHolds_J1 false)
theorem spec_FDHolds_s {a0 : (List ((List UInt8) × (Int × (List (List Int)))))} {a1 : (List UInt8) × (List Int) × Int} {r : Bool} (h : spec_FDHolds a0 a1 = some r) : SoundAt Try.prog 70 [.agg [.dat a0.length (a0.flatMap c157_dd)], .agg [.str a1.1, .dat a1.2.1.length (a1.2.1.flatMap ci64), .int .i64 a1.2.2]] (.bool r) := by
  unfold spec_FDHolds at h
  refine sound_lit tbOk lit70 (Nat.le_of_ble_eq_true rfl) rfl ?_
  unfold c70
  refine ls_keep [(0, .agg [.dat a0.length (a0.flatMap c157_dd)]), (1, .agg [.str a1.1, .dat a1.2.1.length (a1.2.1.flatMap ci64), .int .i64 a1.2.2])] ⟨kr, kr, trivial⟩ rfl ?_
  refine ls_rs tbOk ?_
  refine evs (ev_bx (c1 := .agg [.dat a0.length (a0.flatMap c157_dd)]) rfl rfl rfl (evs (ev_bx (c1 := .agg [.str a1.1, .dat a1.2.1.length (a1.2.1.flatMap ci64), .int .i64 a1.2.2]) rfl rfl rfl (evs (ev_ac rfl nofun rfl (evn ?_))))))
  refine ls_keep [(2, .box [.dat a0.length (a0.flatMap c157_dd)]), (3, .box [.str a1.1, .dat a1.2.1.length (a1.2.1.flatMap ci64), .int .i64 a1.2.2])] ⟨kr, kr, trivial⟩ rfl ?_
  refine ls_rs_k tbOk fun K1 hK1 => ?_
  have kspec_FDHolds_J1 : ∀ (x2 : Bool), spec_FDHolds_J1 x2 = some r → ∀ σ' : PS, okK σ' [(4, .bool x2)] → K1 σ' := by
    intro x2 h σ' hk
    unfold spec_FDHolds_J1 at h
    refine hK1 _ (ls_keep [(4, .bool x2)] hk rfl ?_)
    refine ls_ret ?_
    have hr := Option.some.inj h
    rw [← hr]
    exact ⟨.inl rfl, rfl⟩
  refine evs (ev_ldB (off := 0) (v := .agg [.dat a0.length (a0.flatMap c157_dd)]) rfl rfl rfl rfl (Nat.le_of_ble_eq_true rfl) rfl (evs (ev_ldB (off := 0) (v := .agg [.str a1.1, .dat a1.2.1.length (a1.2.1.flatMap ci64), .int .i64 a1.2.2]) rfl rfl rfl rfl (Nat.le_of_ble_eq_true rfl) rfl (?_))))
  obtain ⟨v3, g4, h⟩ := ob_some h
  refine evs (ev_call (era rfl (erg (erc (erD ec157_dd _) rfl)) (era rfl (erg (erc rfl (erc (erD eci64 _) (erc rfl rfl)))) eran)) (spec_IsValidFD_s g4) (evs (ev_mv (c := .bool v3) rfl rfl rfl (?_))))
  rcases cond_some h with ⟨g5, h⟩ | ⟨g5, h⟩
  · refine evs (ev_gr rfl (congrArg V.bool g5) (ev_ldB (off := 0) (v := .agg [.dat a0.length (a0.flatMap c157_dd)]) rfl rfl rfl rfl (Nat.le_of_ble_eq_true rfl) rfl (evs (ev_gr rfl (congrArg V.bool g5) (ev_ldB (off := 0) (v := .agg [.str a1.1, .dat a1.2.1.length (a1.2.1.flatMap ci64), .int .i64 a1.2.2]) rfl rfl rfl rfl (Nat.le_of_ble_eq_true rfl) rfl (?_))))))
    obtain ⟨v6, g7, h⟩ := ob_some h
    refine evs (ev_gr rfl (congrArg V.bool g5) (ev_call (era rfl (erg (erc (erD ec157_dd _) rfl)) (era rfl (erg (erc rfl (erc (erD eci64 _) (erc rfl rfl)))) eran)) (spec_FDViolation_s g7) (evs (ev_gr rfl (congrArg V.bool g5) (ev_len (c1 := .own 3 v6.length (v6.flatMap ci64)) rfl rfl rfl (evs (ev_gr rfl (congrArg V.bool g5) (ev_bin (c1 := .int .i64 (List.length v6 : Int)) (c2 := .int .i64 0) rfl rfl rfl (evs (ev_pkT (c1 := .bool ((List.length v6 : Int) == 0)) rfl g5 rfl rfl (evs (ev_as (c := .bool ((List.length v6 : Int) == 0)) rfl rfl rfl (evn ?_)))))))))))))
    exact kspec_FDHolds_J1 ((List.length v6 : Int) == 0) h _ ⟨kr, trivial⟩
  · refine evs (ev_gs rfl rfl (isb_F g5) (evs (ev_gs rfl rfl (isb_F g5) (evs (ev_gs rfl rfl (isb_F g5) (evs (ev_gs rfl rfl (isb_F g5) (evs (ev_gs rfl rfl (isb_F g5) (evs (ev_pkF (c1 := .bool false) rfl g5 rfl rfl (evs (ev_as (c := .bool false) rfl rfl rfl (evn ?_))))))))))))))
    exact kspec_FDHolds_J1 false h _ ⟨kr, trivial⟩
def laws_FnExactFDHolds (a0 : (List ((List UInt8) × (Int × (List (List Int)))))) (a1 : (List UInt8) × (List Int) × Int) : Option (Bool) := obind (laws_szDatabase a0 1048576) fun v1 => cond (decide (v1 < 0)) (some true) (obind (laws_szFunctionalDependency a1 v1) fun v5 => cond (decide (v5 < 0)) (some true) (obind (laws_toDatabase a0) fun v9 => obind (laws_toFunctionalDependency a1) fun v11 => obind (spec_FDHolds v9 v11) fun v13 => obind (laws_toDatabase a0) fun v15 => obind (laws_toFunctionalDependency a1) fun v17 => obind (impl_FDHolds v15 v17) fun v19 => cond (!(v19 == v13)) (some false) (obind (laws_toDatabase a0) fun v24 => obind (laws_eqDatabase v15 v24) fun v26 => cond (!v26) (some false) (obind (laws_toFunctionalDependency a1) fun v30 => obind (laws_eqFunctionalDependency v17 v30) fun v32 => cond (!v32) (some false) (some true)))))
theorem laws_FnExactFDHolds_s {a0 : (List ((List UInt8) × (Int × (List (List Int)))))} {a1 : (List UInt8) × (List Int) × Int} {r : Bool} (h : laws_FnExactFDHolds a0 a1 = some r) : SoundAt Try.prog 13 [.agg [.dat a0.length (a0.flatMap c187_dd)], .agg [.str a1.1, .dat a1.2.1.length (a1.2.1.flatMap ci64), .int .i64 a1.2.2]] (.bool r) := by
  unfold laws_FnExactFDHolds at h
  refine sound_lit tbOk lit13 (Nat.le_of_ble_eq_true rfl) rfl ?_
  unfold c13
  refine ls_keep [(0, .agg [.dat a0.length (a0.flatMap c187_dd)]), (1, .agg [.str a1.1, .dat a1.2.1.length (a1.2.1.flatMap ci64), .int .i64 a1.2.2])] ⟨kr, kr, trivial⟩ rfl ?_
  refine ls_rs tbOk ?_
  refine evs (ev_bx (c1 := .agg [.dat a0.length (a0.flatMap c187_dd)]) rfl rfl rfl (evs (ev_bx (c1 := .agg [.str a1.1, .dat a1.2.1.length (a1.2.1.flatMap ci64), .int .i64 a1.2.2]) rfl rfl rfl (evs (ev_ac rfl nofun rfl (evn ?_))))))
  refine ls_keep [(2, .box [.dat a0.length (a0.flatMap c187_dd)]), (3, .box [.str a1.1, .dat a1.2.1.length (a1.2.1.flatMap ci64), .int .i64 a1.2.2])] ⟨kr, kr, trivial⟩ rfl ?_
  refine ls_rs tbOk ?_
  refine evs (ev_ac rfl nofun rfl (evn ?_))
  refine ls_keep [(2, .box [.dat a0.length (a0.flatMap c187_dd)]), (3, .box [.str a1.1, .dat a1.2.1.length (a1.2.1.flatMap ci64), .int .i64 a1.2.2]), (5, .int .i64 1048576)] ⟨kr, kr, kr, trivial⟩ rfl ?_
  refine ls_rs tbOk ?_
  refine evs (ev_ldB (off := 0) (v := .agg [.dat a0.length (a0.flatMap c187_dd)]) rfl rfl rfl rfl (Nat.le_of_ble_eq_true rfl) rfl (evs (ev_mv (c := .int .i64 1048576) rfl rfl rfl (?_))))
  obtain ⟨v1, g2, h⟩ := ob_some h
  refine evs (ev_call (era rfl (erg (erc (erD ec187_dd _) rfl)) (era rfl rfl eran)) (laws_szDatabase_s g2) (evs (ev_as (c := .int .i64 v1) rfl rfl rfl (evn ?_))))
  refine ls_keep [(2, .box [.dat a0.length (a0.flatMap c187_dd)]), (3, .box [.str a1.1, .dat a1.2.1.length (a1.2.1.flatMap ci64), .int .i64 a1.2.2]), (5, .int .i64 v1)] ⟨kr, kr, kr, trivial⟩ rfl ?_
  refine ls_seq_k fun K3 hK3 => ?_
  refine ls_rs tbOk ?_
  refine evs (ev_mv (c := .int .i64 v1) rfl rfl rfl (evs (ev_bin (c1 := .int .i64 v1) (c2 := .int .i64 0) rfl rfl rfl (evn ?_))))
  refine ls_keep [(2, .box [.dat a0.length (a0.flatMap c187_dd)]), (3, .box [.str a1.1, .dat a1.2.1.length (a1.2.1.flatMap ci64), .int .i64 a1.2.2]), (5, .int .i64 v1), (14, .bool (decide (v1 < 0)))] ⟨kr, kr, kr, kr, trivial⟩ rfl ?_
  rcases cond_some h with ⟨g4, h⟩ | ⟨g4, h⟩
  · refine ls_cT rfl g4 ?_
    refine ls_rs tbOk ?_
    refine evs (ev_ac rfl nofun rfl (evn ?_))
    refine ls_keep [(4, .bool true)] ⟨kr, trivial⟩ rfl ?_
    refine ls_ret ?_
    have hr := Option.some.inj h
    rw [← hr]
    exact ⟨.inl rfl, rfl⟩
  · refine ls_cF rfl g4 ?_
    refine ls_skip ?_
    refine hK3 _ (ls_keep [(2, .box [.dat a0.length (a0.flatMap c187_dd)]), (3, .box [.str a1.1, .dat a1.2.1.length (a1.2.1.flatMap ci64), .int .i64 a1.2.2]), (5, .int .i64 v1)] ⟨kr, kr, kr, trivial⟩ rfl ?_)
    refine ls_rs tbOk ?_
    refine evs (ev_ldB (off := 0) (v := .agg [.str a1.1, .dat a1.2.1.length (a1.2.1.flatMap ci64), .int .i64 a1.2.2]) rfl rfl rfl rfl (Nat.le_of_ble_eq_true rfl) rfl (evs (ev_mv (c := .int .i64 v1) rfl rfl rfl (?_))))
    obtain ⟨v5, g6, h⟩ := ob_some h
    refine evs (ev_call (era rfl (erg (erc rfl (erc (erD eci64 _) (erc rfl rfl)))) (era rfl rfl eran)) (laws_szFunctionalDependency_s g6) (evs (ev_as (c := .int .i64 v5) rfl rfl rfl (evn ?_))))
    refine ls_keep [(2, .box [.dat a0.length (a0.flatMap c187_dd)]), (3, .box [.str a1.1, .dat a1.2.1.length (a1.2.1.flatMap ci64), .int .i64 a1.2.2]), (5, .int .i64 v5)] ⟨kr, kr, kr, trivial⟩ rfl ?_
    refine ls_seq_k fun K7 hK7 => ?_
    refine ls_rs tbOk ?_
    refine evs (ev_mv (c := .int .i64 v5) rfl rfl rfl (evs (ev_bin (c1 := .int .i64 v5) (c2 := .int .i64 0) rfl rfl rfl (evn ?_))))
    refine ls_keep [(2, .box [.dat a0.length (a0.flatMap c187_dd)]), (3, .box [.str a1.1, .dat a1.2.1.length (a1.2.1.flatMap ci64), .int .i64 a1.2.2]), (19, .bool (decide (v5 < 0)))] ⟨kr, kr, kr, trivial⟩ rfl ?_
    rcases cond_some h with ⟨g8, h⟩ | ⟨g8, h⟩
    · refine ls_cT rfl g8 ?_
      refine ls_rs tbOk ?_
      refine evs (ev_ac rfl nofun rfl (evn ?_))
      refine ls_keep [(4, .bool true)] ⟨kr, trivial⟩ rfl ?_
      refine ls_ret ?_
      have hr := Option.some.inj h
      rw [← hr]
      exact ⟨.inl rfl, rfl⟩
    · refine ls_cF rfl g8 ?_
      refine ls_skip ?_
      refine hK7 _ (ls_keep [(2, .box [.dat a0.length (a0.flatMap c187_dd)]), (3, .box [.str a1.1, .dat a1.2.1.length (a1.2.1.flatMap ci64), .int .i64 a1.2.2])] ⟨kr, kr, trivial⟩ rfl ?_)
      refine ls_rd tbOk mixed (by kernel_rfl) ?_
      refine evd rfl rfl (ev_ldB (off := 0) (v := .agg [.dat a0.length (a0.flatMap c187_dd)]) rfl rfl rfl rfl (Nat.le_of_ble_eq_true rfl) rfl (?_))
      obtain ⟨v9, g10, h⟩ := ob_some h
      refine evd rfl rfl (ev_call (era rfl (erg (erc (erD ec187_dd _) rfl)) eran) (laws_toDatabase_s g10) (evd rfl rfl (ev_ldB (off := 0) (v := .agg [.str a1.1, .dat a1.2.1.length (a1.2.1.flatMap ci64), .int .i64 a1.2.2]) rfl rfl rfl rfl (Nat.le_of_ble_eq_true rfl) rfl (?_))))
      obtain ⟨v11, g12, h⟩ := ob_some h
      refine evd rfl rfl (ev_call (era rfl (erg (erc rfl (erc (erD eci64 _) (erc rfl rfl)))) eran) (laws_toFunctionalDependency_s g12) (?_))
      obtain ⟨v13, g14, h⟩ := ob_some h
      refine evd rfl rfl (ev_call (era rfl (erg (erc (erO ec157_oo _) rfl)) (era rfl (erg (erc rfl (erc (erO eci64 _) (erc rfl rfl)))) eran)) (spec_FDHolds_s g14) (evd rfl rfl (ev_as (c := .bool v13) rfl rfl rfl (evdn ?_))))
      refine ls_keep [(2, .box [.dat a0.length (a0.flatMap c187_dd)]), (3, .box [.str a1.1, .dat a1.2.1.length (a1.2.1.flatMap ci64), .int .i64 a1.2.2]), (6, .bool v13)] ⟨kr, kr, kr, trivial⟩ rfl ?_
      refine ls_rs tbOk ?_
      refine evs (ev_ldB (off := 0) (v := .agg [.dat a0.length (a0.flatMap c187_dd)]) rfl rfl rfl rfl (Nat.le_of_ble_eq_true rfl) rfl (?_))
      obtain ⟨v15, g16, h⟩ := ob_some h
      refine evs (ev_call (era rfl (erg (erc (erD ec187_dd _) rfl)) eran) (laws_toDatabase_s g16) (evs (ev_al rfl rfl (evs (ev_st (off := 0) (c1 := .agg [.own 157 v15.length (v15.flatMap c157_oo)]) (cs' := [.own 157 v15.length (v15.flatMap c157_oo)]) rfl rfl rfl rfl rfl rfl (Nat.le_of_ble_eq_true rfl) rfl (evn ?_))))))
      refine ls_keep [(2, .box [.dat a0.length (a0.flatMap c187_dd)]), (3, .box [.str a1.1, .dat a1.2.1.length (a1.2.1.flatMap ci64), .int .i64 a1.2.2]), (6, .bool v13), (7, .box [.own 157 v15.length (v15.flatMap c157_oo)])] ⟨kr, kr, kr, kr, trivial⟩ rfl ?_
      refine ls_rs tbOk ?_
      refine evs (ev_ldB (off := 0) (v := .agg [.str a1.1, .dat a1.2.1.length (a1.2.1.flatMap ci64), .int .i64 a1.2.2]) rfl rfl rfl rfl (Nat.le_of_ble_eq_true rfl) rfl (?_))
      obtain ⟨v17, g18, h⟩ := ob_some h
      refine evs (ev_call (era rfl (erg (erc rfl (erc (erD eci64 _) (erc rfl rfl)))) eran) (laws_toFunctionalDependency_s g18) (evs (ev_al rfl rfl (evs (ev_st (off := 0) (c1 := .agg [.str v17.1, .own 3 v17.2.1.length (v17.2.1.flatMap ci64), .int .i64 v17.2.2]) (cs' := [.str v17.1, .own 3 v17.2.1.length (v17.2.1.flatMap ci64), .int .i64 v17.2.2]) rfl rfl rfl rfl rfl rfl (Nat.le_of_ble_eq_true rfl) rfl (evn ?_))))))
      refine ls_keep [(2, .box [.dat a0.length (a0.flatMap c187_dd)]), (3, .box [.str a1.1, .dat a1.2.1.length (a1.2.1.flatMap ci64), .int .i64 a1.2.2]), (6, .bool v13), (7, .box [.own 157 v15.length (v15.flatMap c157_oo)]), (8, .box [.str v17.1, .own 3 v17.2.1.length (v17.2.1.flatMap ci64), .int .i64 v17.2.2])] ⟨kr, kr, kr, kr, kr, trivial⟩ rfl ?_
      refine ls_rs tbOk ?_
      refine evs (ev_ldB (off := 0) (v := .agg [.dat v15.length (v15.flatMap c157_oo)]) rfl rfl rfl rfl (Nat.le_of_ble_eq_true rfl) rfl (evs (ev_ldB (off := 0) (v := .agg [.str v17.1, .dat v17.2.1.length (v17.2.1.flatMap ci64), .int .i64 v17.2.2]) rfl rfl rfl rfl (Nat.le_of_ble_eq_true rfl) rfl (?_))))
      obtain ⟨v19, g20, h⟩ := ob_some h
      refine evs (ev_call (era rfl (erg (erc (erD ec157_oo _) rfl)) (era rfl (erg (erc rfl (erc (erD eci64 _) (erc rfl rfl)))) eran)) (impl_FDHolds_s g20) (evs (ev_as (c := .bool v19) rfl rfl rfl (evn ?_))))
      refine ls_keep [(2, .box [.dat a0.length (a0.flatMap c187_dd)]), (3, .box [.str a1.1, .dat a1.2.1.length (a1.2.1.flatMap ci64), .int .i64 a1.2.2]), (6, .bool v13), (7, .box [.own 157 v15.length (v15.flatMap c157_oo)]), (8, .box [.str v17.1, .own 3 v17.2.1.length (v17.2.1.flatMap ci64), .int .i64 v17.2.2]), (9, .bool v19)] ⟨kr, kr, kr, kr, kr, kr, trivial⟩ rfl ?_
      refine ls_seq_k fun K21 hK21 => ?_
      refine ls_rs tbOk ?_
      refine evs (ev_mv (c := .bool v19) rfl rfl rfl (evs (ev_mv (c := .bool v13) rfl rfl rfl (evs (ev_bin (c1 := .bool v19) (c2 := .bool v13) rfl rfl rfl (evn ?_))))))
      refine ls_keep [(2, .box [.dat a0.length (a0.flatMap c187_dd)]), (3, .box [.str a1.1, .dat a1.2.1.length (a1.2.1.flatMap ci64), .int .i64 a1.2.2]), (7, .box [.own 157 v15.length (v15.flatMap c157_oo)]), (8, .box [.str v17.1, .own 3 v17.2.1.length (v17.2.1.flatMap ci64), .int .i64 v17.2.2]), (34, .bool (!(v19 == v13)))] ⟨kr, kr, kr, kr, kr, trivial⟩ rfl ?_
      rcases cond_some h with ⟨g22, h⟩ | ⟨g22, h⟩
      · refine ls_cT rfl g22 ?_
        refine ls_rs tbOk ?_
        refine evs (ev_ac rfl nofun rfl (evn ?_))
        refine ls_keep [(4, .bool false)] ⟨kr, trivial⟩ rfl ?_
        refine ls_ret ?_
        have hr := Option.some.inj h
        rw [← hr]
        exact ⟨.inl rfl, rfl⟩
      · refine ls_cF rfl g22 ?_
        refine ls_skip ?_
        refine hK21 _ (ls_keep [(2, .box [.dat a0.length (a0.flatMap c187_dd)]), (3, .box [.str a1.1, .dat a1.2.1.length (a1.2.1.flatMap ci64), .int .i64 a1.2.2]), (7, .box [.own 157 v15.length (v15.flatMap c157_oo)]), (8, .box [.str v17.1, .own 3 v17.2.1.length (v17.2.1.flatMap ci64), .int .i64 v17.2.2])] ⟨kr, kr, kr, kr, trivial⟩ rfl ?_)
        refine ls_seq_k fun K23 hK23 => ?_
        refine ls_rd tbOk mixed (by kernel_rfl) ?_
        refine evd rfl rfl (ev_ldB (off := 0) (v := .agg [.dat v15.length (v15.flatMap c157_oo)]) rfl rfl rfl rfl (Nat.le_of_ble_eq_true rfl) rfl (evd rfl rfl (ev_ldB (off := 0) (v := .agg [.dat a0.length (a0.flatMap c187_dd)]) rfl rfl rfl rfl (Nat.le_of_ble_eq_true rfl) rfl (?_))))
        obtain ⟨v24, g25, h⟩ := ob_some h
        refine evd rfl rfl (ev_call (era rfl (erg (erc (erD ec187_dd _) rfl)) eran) (laws_toDatabase_s g25) (?_))
        obtain ⟨v26, g27, h⟩ := ob_some h
        refine evd rfl rfl (ev_call (era rfl (erg (erc (erD ec157_oo _) rfl)) (era rfl (erg (erc (erO ec157_oo _) rfl)) eran)) (laws_eqDatabase_s g27) (evd rfl rfl (ev_un (c1 := .bool v26) rfl trivial (evdn ?_))))
        refine ls_keep [(3, .box [.str a1.1, .dat a1.2.1.length (a1.2.1.flatMap ci64), .int .i64 a1.2.2]), (8, .box [.str v17.1, .own 3 v17.2.1.length (v17.2.1.flatMap ci64), .int .i64 v17.2.2]), (39, .bool (!v26))] ⟨kr, kr, kr, trivial⟩ rfl ?_
        rcases cond_some h with ⟨g28, h⟩ | ⟨g28, h⟩
        · refine ls_cT rfl g28 ?_
          refine ls_rs tbOk ?_
          refine evs (ev_ac rfl nofun rfl (evn ?_))
          refine ls_keep [(4, .bool false)] ⟨kr, trivial⟩ rfl ?_
          refine ls_ret ?_
          have hr := Option.some.inj h
          rw [← hr]
          exact ⟨.inl rfl, rfl⟩
        · refine ls_cF rfl g28 ?_
          refine ls_skip ?_
          refine hK23 _ (ls_keep [(3, .box [.str a1.1, .dat a1.2.1.length (a1.2.1.flatMap ci64), .int .i64 a1.2.2]), (8, .box [.str v17.1, .own 3 v17.2.1.length (v17.2.1.flatMap ci64), .int .i64 v17.2.2])] ⟨kr, kr, trivial⟩ rfl ?_)
          refine ls_seq_k fun K29 hK29 => ?_
          refine ls_rd tbOk mixed (by kernel_rfl) ?_
          refine evd rfl rfl (ev_ldB (off := 0) (v := .agg [.str v17.1, .dat v17.2.1.length (v17.2.1.flatMap ci64), .int .i64 v17.2.2]) rfl rfl rfl rfl (Nat.le_of_ble_eq_true rfl) rfl (evd rfl rfl (ev_ldB (off := 0) (v := .agg [.str a1.1, .dat a1.2.1.length (a1.2.1.flatMap ci64), .int .i64 a1.2.2]) rfl rfl rfl rfl (Nat.le_of_ble_eq_true rfl) rfl (?_))))
          obtain ⟨v30, g31, h⟩ := ob_some h
          refine evd rfl rfl (ev_call (era rfl (erg (erc rfl (erc (erD eci64 _) (erc rfl rfl)))) eran) (laws_toFunctionalDependency_s g31) (?_))
          obtain ⟨v32, g33, h⟩ := ob_some h
          refine evd rfl rfl (ev_call (era rfl (erg (erc rfl (erc (erD eci64 _) (erc rfl rfl)))) (era rfl (erg (erc rfl (erc (erO eci64 _) (erc rfl rfl)))) eran)) (laws_eqFunctionalDependency_s g33) (evd rfl rfl (ev_un (c1 := .bool v32) rfl trivial (evdn ?_))))
          refine ls_keep [(44, .bool (!v32))] ⟨kr, trivial⟩ rfl ?_
          rcases cond_some h with ⟨g34, h⟩ | ⟨g34, h⟩
          · refine ls_cT rfl g34 ?_
            refine ls_rs tbOk ?_
            refine evs (ev_ac rfl nofun rfl (evn ?_))
            refine ls_keep [(4, .bool false)] ⟨kr, trivial⟩ rfl ?_
            refine ls_ret ?_
            have hr := Option.some.inj h
            rw [← hr]
            exact ⟨.inl rfl, rfl⟩
          · refine ls_cF rfl g34 ?_
            refine ls_skip ?_
            refine hK29 _ (ls_keep [] trivial rfl ?_)
            refine ls_rs tbOk ?_
            refine evs (ev_ac rfl nofun rfl (evn ?_))
            refine ls_keep [(4, .bool true)] ⟨kr, trivial⟩ rfl ?_
            refine ls_ret ?_
            have hr := Option.some.inj h
            rw [← hr]
            exact ⟨.inl rfl, rfl⟩
end Go.Proofs.Ytkmkbpphdalgoaa
