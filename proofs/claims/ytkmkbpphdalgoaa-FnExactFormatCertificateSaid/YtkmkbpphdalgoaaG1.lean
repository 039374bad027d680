/-
  Functions of the program as typed functions, printed by gen.py, and that the program's functions do what they say. No conditions.
-/
import Derived.Test.YtkmkbpphdalgoaaGo
import Derived.Test.YtkmkbpphdalgoaaLit
import Derived.Test.YtkmkbpphdalgoaaFc9
namespace Go.Proofs.Ytkmkbpphdalgoaa
open Go.RowKit
set_option linter.unusedVariables false
set_option maxRecDepth 100000
set_option maxHeartbeats 1000000
def laws_szIntS (a0 : List Int) (a1 : Int) : Option (Int) := cond (decide ((IntKind.i64.wrap (a1 - (List.length a0 : Int))) < 0)) (some (-1)) (some (IntKind.i64.wrap (a1 - (List.length a0 : Int))))
theorem laws_szIntS_s {a0 : List Int} {a1 : Int} {r : Int} (h : laws_szIntS a0 a1 = some r) : SoundAt Try.prog 87 [.dat a0.length (a0.flatMap ci64), .int .i64 a1] (.int .i64 r) := by
  unfold laws_szIntS at h
  refine sound_lit tbOk lit87 (Nat.le_of_ble_eq_true rfl) rfl ?_
  unfold c87
  refine ls_keep [(0, .dat a0.length (a0.flatMap ci64)), (1, .int .i64 a1)] ⟨kr, kr, trivial⟩ rfl ?_
  refine ls_rs tbOk ?_
  refine evs (ev_ac rfl nofun rfl (evn ?_))
  refine ls_keep [(0, .dat a0.length (a0.flatMap ci64)), (1, .int .i64 a1)] ⟨kr, kr, trivial⟩ rfl ?_
  refine ls_rs tbOk ?_
  refine evs (ev_mv (c := .int .i64 a1) rfl rfl rfl (evs (ev_mv (c := .dat a0.length (a0.flatMap ci64)) rfl rfl rfl (evs (ev_len (c1 := .dat a0.length (a0.flatMap ci64)) rfl rfl rfl (evs (ev_bin (c1 := .int .i64 a1) (c2 := .int .i64 (List.length a0 : Int)) rfl rfl rfl (evs (ev_as (c := .int .i64 (IntKind.i64.wrap (a1 - (List.length a0 : Int)))) rfl rfl rfl (evn ?_))))))))))
  refine ls_keep [(1, .int .i64 (IntKind.i64.wrap (a1 - (List.length a0 : Int))))] ⟨kr, trivial⟩ rfl ?_
  refine ls_seq_k fun K1 hK1 => ?_
  refine ls_rs tbOk ?_
  refine evs (ev_mv (c := .int .i64 (IntKind.i64.wrap (a1 - (List.length a0 : Int)))) rfl rfl rfl (evs (ev_bin (c1 := .int .i64 (IntKind.i64.wrap (a1 - (List.length a0 : Int)))) (c2 := .int .i64 0) rfl rfl rfl (evn ?_))))
  refine ls_keep [(1, .int .i64 (IntKind.i64.wrap (a1 - (List.length a0 : Int)))), (10, .bool (decide ((IntKind.i64.wrap (a1 - (List.length a0 : Int))) < 0)))] ⟨kr, kr, trivial⟩ rfl ?_
  rcases cond_some h with ⟨g2, h⟩ | ⟨g2, h⟩
  · refine ls_cT rfl g2 ?_
    refine ls_rs tbOk ?_
    refine evs (ev_ac rfl nofun rfl (evn ?_))
    refine ls_keep [(4, .int .i64 (-1))] ⟨kr, trivial⟩ rfl ?_
    refine ls_ret ?_
    have hr := Option.some.inj h
    rw [← hr]
    exact ⟨.inl rfl, rfl⟩
  · refine ls_cF rfl g2 ?_
    refine ls_skip ?_
    refine hK1 _ (ls_keep [(1, .int .i64 (IntKind.i64.wrap (a1 - (List.length a0 : Int))))] ⟨kr, trivial⟩ rfl ?_)
    refine ls_rs tbOk ?_
    refine evs (ev_mv (c := .int .i64 (IntKind.i64.wrap (a1 - (List.length a0 : Int)))) rfl rfl rfl (evs (ev_as (c := .int .i64 (IntKind.i64.wrap (a1 - (List.length a0 : Int)))) rfl rfl rfl (evn ?_))))
    refine ls_keep [(4, .int .i64 (IntKind.i64.wrap (a1 - (List.length a0 : Int))))] ⟨kr, trivial⟩ rfl ?_
    refine ls_ret ?_
    have hr := Option.some.inj h
    rw [← hr]
    exact ⟨.inl rfl, rfl⟩
def c165_ (x : Int × Int) : List V := [.int .i64 x.1, .int .i64 x.2]
theorem zc165_ (x : Int × Int) : (c165_ x).length = 2 := rfl
theorem ec165_ (x : Int × Int) : erL (c165_ x) = c165_ x := (erc rfl (erc rfl rfl))
def laws_szRationalS (a0 : List (Int × Int)) (a1 : Int) : Option (Int) := cond (decide ((IntKind.i64.wrap (a1 - (List.length a0 : Int))) < 0)) (some (-1)) (some (IntKind.i64.wrap (a1 - (List.length a0 : Int))))
theorem laws_szRationalS_s {a0 : List (Int × Int)} {a1 : Int} {r : Int} (h : laws_szRationalS a0 a1 = some r) : SoundAt Try.prog 88 [.dat a0.length (a0.flatMap c165_), .int .i64 a1] (.int .i64 r) := by
  unfold laws_szRationalS at h
  refine sound_lit tbOk lit88 (Nat.le_of_ble_eq_true rfl) rfl ?_
  unfold c88
  refine ls_keep [(0, .dat a0.length (a0.flatMap c165_)), (1, .int .i64 a1)] ⟨kr, kr, trivial⟩ rfl ?_
  refine ls_rs tbOk ?_
  refine evs (ev_ac rfl nofun rfl (evn ?_))
  refine ls_keep [(0, .dat a0.length (a0.flatMap c165_)), (1, .int .i64 a1)] ⟨kr, kr, trivial⟩ rfl ?_
  refine ls_rs tbOk ?_
  refine evs (ev_mv (c := .int .i64 a1) rfl rfl rfl (evs (ev_mv (c := .dat a0.length (a0.flatMap c165_)) rfl rfl rfl (evs (ev_len (c1 := .dat a0.length (a0.flatMap c165_)) rfl rfl rfl (evs (ev_bin (c1 := .int .i64 a1) (c2 := .int .i64 (List.length a0 : Int)) rfl rfl rfl (evs (ev_as (c := .int .i64 (IntKind.i64.wrap (a1 - (List.length a0 : Int)))) rfl rfl rfl (evn ?_))))))))))
  refine ls_keep [(1, .int .i64 (IntKind.i64.wrap (a1 - (List.length a0 : Int))))] ⟨kr, trivial⟩ rfl ?_
  refine ls_seq_k fun K1 hK1 => ?_
  refine ls_rs tbOk ?_
  refine evs (ev_mv (c := .int .i64 (IntKind.i64.wrap (a1 - (List.length a0 : Int)))) rfl rfl rfl (evs (ev_bin (c1 := .int .i64 (IntKind.i64.wrap (a1 - (List.length a0 : Int)))) (c2 := .int .i64 0) rfl rfl rfl (evn ?_))))
  refine ls_keep [(1, .int .i64 (IntKind.i64.wrap (a1 - (List.length a0 : Int)))), (10, .bool (decide ((IntKind.i64.wrap (a1 - (List.length a0 : Int))) < 0)))] ⟨kr, kr, trivial⟩ rfl ?_
  rcases cond_some h with ⟨g2, h⟩ | ⟨g2, h⟩
  · refine ls_cT rfl g2 ?_
    refine ls_rs tbOk ?_
    refine evs (ev_ac rfl nofun rfl (evn ?_))
    refine ls_keep [(4, .int .i64 (-1))] ⟨kr, trivial⟩ rfl ?_
    refine ls_ret ?_
    have hr := Option.some.inj h
    rw [← hr]
    exact ⟨.inl rfl, rfl⟩
  · refine ls_cF rfl g2 ?_
    refine ls_skip ?_
    refine hK1 _ (ls_keep [(1, .int .i64 (IntKind.i64.wrap (a1 - (List.length a0 : Int))))] ⟨kr, trivial⟩ rfl ?_)
    refine ls_rs tbOk ?_
    refine evs (ev_mv (c := .int .i64 (IntKind.i64.wrap (a1 - (List.length a0 : Int)))) rfl rfl rfl (evs (ev_as (c := .int .i64 (IntKind.i64.wrap (a1 - (List.length a0 : Int)))) rfl rfl rfl (evn ?_))))
    refine ls_keep [(4, .int .i64 (IntKind.i64.wrap (a1 - (List.length a0 : Int))))] ⟨kr, trivial⟩ rfl ?_
    refine ls_ret ?_
    have hr := Option.some.inj h
    rw [← hr]
    exact ⟨.inl rfl, rfl⟩
def laws_szCertificate (a0 : (List Int) × (List (Int × Int)) × (List Int) × Int × Int) (a1 : Int) : Option (Int) := obind (laws_szIntS a0.1 a1) fun v1 => cond (decide (v1 < 0)) (some (-1)) (obind (laws_szRationalS a0.2.1 v1) fun v5 => cond (decide (v5 < 0)) (some (-1)) (obind (laws_szIntS a0.2.2.1 v5) fun v9 => cond (decide (v9 < 0)) (some (-1)) (some v9)))
theorem laws_szCertificate_s {a0 : (List Int) × (List (Int × Int)) × (List Int) × Int × Int} {a1 : Int} {r : Int} (h : laws_szCertificate a0 a1 = some r) : SoundAt Try.prog 20 [.agg [.dat a0.1.length (a0.1.flatMap ci64), .dat a0.2.1.length (a0.2.1.flatMap c165_), .dat a0.2.2.1.length (a0.2.2.1.flatMap ci64), .int .i64 a0.2.2.2.1, .int .i64 a0.2.2.2.2], .int .i64 a1] (.int .i64 r) := by
  unfold laws_szCertificate at h
  refine sound_lit tbOk lit20 (Nat.le_of_ble_eq_true rfl) rfl ?_
  unfold c20
  refine ls_keep [(0, .agg [.dat a0.1.length (a0.1.flatMap ci64), .dat a0.2.1.length (a0.2.1.flatMap c165_), .dat a0.2.2.1.length (a0.2.2.1.flatMap ci64), .int .i64 a0.2.2.2.1, .int .i64 a0.2.2.2.2]), (1, .int .i64 a1)] ⟨kr, kr, trivial⟩ rfl ?_
  refine ls_rs tbOk ?_
  refine evs (ev_bx (c1 := .agg [.dat a0.1.length (a0.1.flatMap ci64), .dat a0.2.1.length (a0.2.1.flatMap c165_), .dat a0.2.2.1.length (a0.2.2.1.flatMap ci64), .int .i64 a0.2.2.2.1, .int .i64 a0.2.2.2.2]) rfl rfl rfl (evs (ev_ac rfl nofun rfl (evn ?_))))
  refine ls_keep [(1, .int .i64 a1), (2, .box [.dat a0.1.length (a0.1.flatMap ci64), .dat a0.2.1.length (a0.2.1.flatMap c165_), .dat a0.2.2.1.length (a0.2.2.1.flatMap ci64), .int .i64 a0.2.2.2.1, .int .i64 a0.2.2.2.2])] ⟨kr, kr, trivial⟩ rfl ?_
  refine ls_rs tbOk ?_
  refine evs (ev_fa (c1 := .cref 2 0) (v := .cref 2 0) rfl rfl rfl ⟨_, rfl⟩ rfl (evs (ev_ldB (off := 0) (v := .dat a0.1.length (a0.1.flatMap ci64)) rfl rfl rfl rfl (Nat.le_of_ble_eq_true rfl) rfl (evs (ev_mv (c := .int .i64 a1) rfl rfl rfl (?_))))))
  obtain ⟨v1, g2, h⟩ := ob_some h
  refine evs (ev_call (era rfl (erD eci64 _) (era rfl rfl eran)) (laws_szIntS_s g2) (evs (ev_as (c := .int .i64 v1) rfl rfl rfl (evn ?_))))
  refine ls_keep [(1, .int .i64 v1), (2, .box [.dat a0.1.length (a0.1.flatMap ci64), .dat a0.2.1.length (a0.2.1.flatMap c165_), .dat a0.2.2.1.length (a0.2.2.1.flatMap ci64), .int .i64 a0.2.2.2.1, .int .i64 a0.2.2.2.2])] ⟨kr, kr, trivial⟩ rfl ?_
  refine ls_seq_k fun K3 hK3 => ?_
  refine ls_rs tbOk ?_
  refine evs (ev_mv (c := .int .i64 v1) rfl rfl rfl (evs (ev_bin (c1 := .int .i64 v1) (c2 := .int .i64 0) rfl rfl rfl (evn ?_))))
  refine ls_keep [(1, .int .i64 v1), (2, .box [.dat a0.1.length (a0.1.flatMap ci64), .dat a0.2.1.length (a0.2.1.flatMap c165_), .dat a0.2.2.1.length (a0.2.2.1.flatMap ci64), .int .i64 a0.2.2.2.1, .int .i64 a0.2.2.2.2]), (10, .bool (decide (v1 < 0)))] ⟨kr, kr, kr, trivial⟩ rfl ?_
  rcases cond_some h with ⟨g4, h⟩ | ⟨g4, h⟩
  · refine ls_cT rfl g4 ?_
    refine ls_rs tbOk ?_
    refine evs (ev_ac rfl nofun rfl (evn ?_))
    refine ls_keep [(4, .int .i64 (-1))] ⟨kr, trivial⟩ rfl ?_
    refine ls_ret ?_
    have hr := Option.some.inj h
    rw [← hr]
    exact ⟨.inl rfl, rfl⟩
  · refine ls_cF rfl g4 ?_
    refine ls_skip ?_
    refine hK3 _ (ls_keep [(1, .int .i64 v1), (2, .box [.dat a0.1.length (a0.1.flatMap ci64), .dat a0.2.1.length (a0.2.1.flatMap c165_), .dat a0.2.2.1.length (a0.2.2.1.flatMap ci64), .int .i64 a0.2.2.2.1, .int .i64 a0.2.2.2.2])] ⟨kr, kr, trivial⟩ rfl ?_)
    refine ls_rs tbOk ?_
    refine evs (ev_fa (c1 := .cref 2 0) (v := .cref 2 1) rfl rfl rfl ⟨_, rfl⟩ rfl (evs (ev_ldB (off := 1) (v := .dat a0.2.1.length (a0.2.1.flatMap c165_)) rfl rfl rfl rfl (Nat.le_of_ble_eq_true rfl) rfl (evs (ev_mv (c := .int .i64 v1) rfl rfl rfl (?_))))))
    obtain ⟨v5, g6, h⟩ := ob_some h
    refine evs (ev_call (era rfl (erD ec165_ _) (era rfl rfl eran)) (laws_szRationalS_s g6) (evs (ev_as (c := .int .i64 v5) rfl rfl rfl (evn ?_))))
    refine ls_keep [(1, .int .i64 v5), (2, .box [.dat a0.1.length (a0.1.flatMap ci64), .dat a0.2.1.length (a0.2.1.flatMap c165_), .dat a0.2.2.1.length (a0.2.2.1.flatMap ci64), .int .i64 a0.2.2.2.1, .int .i64 a0.2.2.2.2])] ⟨kr, kr, trivial⟩ rfl ?_
    refine ls_seq_k fun K7 hK7 => ?_
    refine ls_rs tbOk ?_
    refine evs (ev_mv (c := .int .i64 v5) rfl rfl rfl (evs (ev_bin (c1 := .int .i64 v5) (c2 := .int .i64 0) rfl rfl rfl (evn ?_))))
    refine ls_keep [(1, .int .i64 v5), (2, .box [.dat a0.1.length (a0.1.flatMap ci64), .dat a0.2.1.length (a0.2.1.flatMap c165_), .dat a0.2.2.1.length (a0.2.2.1.flatMap ci64), .int .i64 a0.2.2.2.1, .int .i64 a0.2.2.2.2]), (16, .bool (decide (v5 < 0)))] ⟨kr, kr, kr, trivial⟩ rfl ?_
    rcases cond_some h with ⟨g8, h⟩ | ⟨g8, h⟩
    · refine ls_cT rfl g8 ?_
      refine ls_rs tbOk ?_
      refine evs (ev_ac rfl nofun rfl (evn ?_))
      refine ls_keep [(4, .int .i64 (-1))] ⟨kr, trivial⟩ rfl ?_
      refine ls_ret ?_
      have hr := Option.some.inj h
      rw [← hr]
      exact ⟨.inl rfl, rfl⟩
    · refine ls_cF rfl g8 ?_
      refine ls_skip ?_
      refine hK7 _ (ls_keep [(1, .int .i64 v5), (2, .box [.dat a0.1.length (a0.1.flatMap ci64), .dat a0.2.1.length (a0.2.1.flatMap c165_), .dat a0.2.2.1.length (a0.2.2.1.flatMap ci64), .int .i64 a0.2.2.2.1, .int .i64 a0.2.2.2.2])] ⟨kr, kr, trivial⟩ rfl ?_)
      refine ls_rs tbOk ?_
      refine evs (ev_fa (c1 := .cref 2 0) (v := .cref 2 2) rfl rfl rfl ⟨_, rfl⟩ rfl (evs (ev_ldB (off := 2) (v := .dat a0.2.2.1.length (a0.2.2.1.flatMap ci64)) rfl rfl rfl rfl (Nat.le_of_ble_eq_true rfl) rfl (evs (ev_mv (c := .int .i64 v5) rfl rfl rfl (?_))))))
      obtain ⟨v9, g10, h⟩ := ob_some h
      refine evs (ev_call (era rfl (erD eci64 _) (era rfl rfl eran)) (laws_szIntS_s g10) (evs (ev_as (c := .int .i64 v9) rfl rfl rfl (evn ?_))))
      refine ls_keep [(1, .int .i64 v9)] ⟨kr, trivial⟩ rfl ?_
      refine ls_seq_k fun K11 hK11 => ?_
      refine ls_rs tbOk ?_
      refine evs (ev_mv (c := .int .i64 v9) rfl rfl rfl (evs (ev_bin (c1 := .int .i64 v9) (c2 := .int .i64 0) rfl rfl rfl (evn ?_))))
      refine ls_keep [(1, .int .i64 v9), (22, .bool (decide (v9 < 0)))] ⟨kr, kr, trivial⟩ rfl ?_
      rcases cond_some h with ⟨g12, h⟩ | ⟨g12, h⟩
      · refine ls_cT rfl g12 ?_
        refine ls_rs tbOk ?_
        refine evs (ev_ac rfl nofun rfl (evn ?_))
        refine ls_keep [(4, .int .i64 (-1))] ⟨kr, trivial⟩ rfl ?_
        refine ls_ret ?_
        have hr := Option.some.inj h
        rw [← hr]
        exact ⟨.inl rfl, rfl⟩
      · refine ls_cF rfl g12 ?_
        refine ls_skip ?_
        refine hK11 _ (ls_keep [(1, .int .i64 v9)] ⟨kr, trivial⟩ rfl ?_)
        refine ls_rs tbOk ?_
        refine evs (ev_mv (c := .int .i64 v9) rfl rfl rfl (evs (ev_as (c := .int .i64 v9) rfl rfl rfl (evn ?_))))
        refine ls_keep [(4, .int .i64 v9)] ⟨kr, trivial⟩ rfl ?_
        refine ls_ret ?_
        have hr := Option.some.inj h
        rw [← hr]
        exact ⟨.inl rfl, rfl⟩
def laws_toIntS_B1 (a0 : List Int) (rec : ((List Int) × Int) → Option ((List Int))) (s : (List Int) × Int) : Option ((List Int)) := match s with
  | (y1, y2) => cond (decide (y2 < (List.length a0 : Int))) (obind (geti a0 y2) fun e7 => obind (geti y1 y2) fun e9 => rec ((seti y1 y2 e7), (IntKind.i64.wrap (y2 + 1)))) (some y1)
def laws_toIntS (a0 : List Int) : Option ((List Int)) := chk ((0 : Int) ≤ (List.length a0 : Int) ∧ Int.toNat (List.length a0 : Int) ≤ lim) (obind (loopF (laws_toIntS_B1 a0) fz ((List.replicate (Int.toNat (List.length a0 : Int)) (0 : Int)), 0)) fun z3 => some z3)
theorem laws_toIntS_s {a0 : List Int} {r : (List Int)} (h : laws_toIntS a0 = some r) : SoundAt Try.prog 32 [.dat a0.length (a0.flatMap ci64)] (.own 3 r.length (r.flatMap ci64)) := by
  unfold laws_toIntS at h
  refine sound_lit tbOk lit32 (Nat.le_of_ble_eq_true rfl) rfl ?_
  unfold c32
  refine ls_keep [(0, .dat a0.length (a0.flatMap ci64))] ⟨kr, trivial⟩ rfl ?_
  refine ls_rs tbOk ?_
  refine evs (ev_an rfl rfl (evn ?_))
  refine ls_keep [(0, .dat a0.length (a0.flatMap ci64))] ⟨kr, trivial⟩ rfl ?_
  refine ls_rs tbOk ?_
  refine evs (ev_mv (c := .dat a0.length (a0.flatMap ci64)) rfl rfl rfl (evs (ev_len (c1 := .dat a0.length (a0.flatMap ci64)) rfl rfl rfl (?_))))
  obtain ⟨g1, h⟩ := chk_some h
  refine evs (ev_mku (f := ci64) (z := (0 : Int)) rfl rfl rfl rfl rfl rfl g1 rfl (evs (ev_asu rfl rfl rfl (evn ?_))))
  refine ls_keep [(0, .dat a0.length (a0.flatMap ci64)), (3, .uni 3 (List.replicate (Int.toNat (List.length a0 : Int)) (0 : Int)).length ((List.replicate (Int.toNat (List.length a0 : Int)) (0 : Int)).flatMap ci64))] ⟨kr, kr, trivial⟩ rfl ?_
  refine ls_seq_k fun K2 hK2 => ?_
  refine ls_rs tbOk ?_
  refine evs (ev_ac rfl nofun rfl (evn ?_))
  refine ls_keep [(0, .dat a0.length (a0.flatMap ci64)), (3, .uni 3 (List.replicate (Int.toNat (List.length a0 : Int)) (0 : Int)).length ((List.replicate (Int.toNat (List.length a0 : Int)) (0 : Int)).flatMap ci64)), (4, .int .i64 0)] ⟨kr, kr, kr, trivial⟩ rfl ?_
  obtain ⟨o1, hl, hr1⟩ := ob_some h
  clear h
  have kXlaws_toIntS_B1 : ∀ (z3 : List Int), (some z3) = some r → ∀ σ' : PS, okK σ' [(3, .uni 3 z3.length (z3.flatMap ci64))] → K2 σ' := by
    intro z3 h σ' hk
    refine hK2 _ (ls_keep [(3, .uni 3 z3.length (z3.flatMap ci64))] hk rfl ?_)
    refine ls_rs tbOk ?_
    refine evs (ev_mvtu rfl rfl (evs (ev_as (c := .own 3 z3.length (z3.flatMap ci64)) rfl rfl rfl (evn ?_))))
    refine ls_keep [(2, .own 3 z3.length (z3.flatMap ci64))] ⟨kr, trivial⟩ rfl ?_
    refine ls_ret ?_
    have hr := Option.some.inj h
    rw [← hr]
    exact ⟨.inl rfl, rfl⟩
  refine ls_rec (fun (s : (List Int) × Int) => match s with | (y1, y2) => [(0, .dat a0.length (a0.flatMap ci64)), (3, .uni 3 y1.length (y1.flatMap ci64)), (4, .int .i64 y2)]) (laws_toIntS_B1 a0) fz ((List.replicate (Int.toNat (List.length a0 : Int)) (0 : Int)), 0) o1 hl ⟨kr, kr, kr, trivial⟩ (fun _ => rfl) ?_
  rintro m ⟨y1, y2⟩ N h hN
  unfold laws_toIntS_B1 at h
  dsimp only at h
  refine ls_seq_k fun K4 hK4 => ?_
  refine ls_rs tbOk ?_
  refine evs (ev_mv (c := .int .i64 y2) rfl rfl rfl (evs (ev_mv (c := .dat a0.length (a0.flatMap ci64)) rfl rfl rfl (evs (ev_len (c1 := .dat a0.length (a0.flatMap ci64)) rfl rfl rfl (evs (ev_bin (c1 := .int .i64 y2) (c2 := .int .i64 (List.length a0 : Int)) rfl rfl rfl (evn ?_))))))))
  refine ls_keep [(0, .dat a0.length (a0.flatMap ci64)), (3, .uni 3 y1.length (y1.flatMap ci64)), (4, .int .i64 y2), (11, .bool (decide (y2 < (List.length a0 : Int))))] ⟨kr, kr, kr, kr, trivial⟩ rfl ?_
  rcases cond_some h with ⟨g5, h⟩ | ⟨g5, h⟩
  · refine ls_cT rfl g5 ?_
    refine ls_skip ?_
    refine hK4 _ (ls_keep [(0, .dat a0.length (a0.flatMap ci64)), (3, .uni 3 y1.length (y1.flatMap ci64)), (4, .int .i64 y2)] ⟨kr, kr, kr, trivial⟩ rfl ?_)
    refine ls_seq_k fun K6 hK6 => ?_
    refine ls_blk ?_
    refine ls_rgn tbOk ?_
    refine evs (ev_mvu rfl rfl (evs (ev_mv (c := .int .i64 y2) rfl rfl rfl (evs (ev_mv (c := .dat a0.length (a0.flatMap ci64)) rfl rfl rfl (evs (ev_mv (c := .int .i64 y2) rfl rfl rfl (?_))))))))
    obtain ⟨e7, g8, h⟩ := ob_some h
    refine evs (ev_ia rfl rfl rfl ⟨(geti_some g8).1, (geti_some g8).2.1⟩ (evs (ev_ldE (off := 0) (v := .int .i64 e7) rfl rfl zci64 g8 rfl (Nat.le_of_ble_eq_true rfl) rfl (?_))))
    obtain ⟨e9, g10, h⟩ := ob_some h
    refine evs (ev_iau rfl rfl rfl rfl ⟨(geti_some g10).1, (geti_some g10).2.1⟩ (evs (ev_stu (e := e7) (c1 := .int .i64 e7) rfl rfl zci64 ⟨(geti_some g10).1, (geti_some g10).2.1⟩ rfl rfl rfl rfl rfl (evn ?_))))
    refine hK6 _ (ls_keep [(0, .dat a0.length (a0.flatMap ci64)), (3, .uni 3 (seti y1 y2 e7).length ((seti y1 y2 e7).flatMap ci64)), (4, .int .i64 y2)] ⟨kr, kr, kr, trivial⟩ rfl ?_)
    refine ls_rgn tbOk ?_
    refine evs (ev_mv (c := .int .i64 y2) rfl rfl rfl (evs (ev_bin (c1 := .int .i64 y2) (c2 := .int .i64 1) rfl rfl rfl (evs (ev_as (c := .int .i64 (IntKind.i64.wrap (y2 + 1))) rfl rfl rfl (evn ?_))))))
    exact hN _ ((seti y1 y2 e7), (IntKind.i64.wrap (y2 + 1))) h ⟨kr, kr, kr, trivial⟩
  · refine ls_cF rfl g5 ?_
    refine ls_exit ?_
    have q0 := (Option.some.inj h).symm
    have r0 := hr1
    rw [q0] at r0
    exact kXlaws_toIntS_B1 y1 r0 _ ⟨kr, trivial⟩
def laws_toRational (a0 : Int × Int) : Option ((Int × Int)) := some a0
theorem laws_toRational_s {a0 : Int × Int} {r : (Int × Int)} (h : laws_toRational a0 = some r) : SoundAt Try.prog 144 [.agg [.int .i64 a0.1, .int .i64 a0.2]] (.agg [.int .i64 r.1, .int .i64 r.2]) := by
  unfold laws_toRational at h
  refine sound_lit tbOk lit144 (Nat.le_of_ble_eq_true rfl) rfl ?_
  unfold c144
  refine ls_keep [(0, .agg [.int .i64 a0.1, .int .i64 a0.2])] ⟨kr, trivial⟩ rfl ?_
  refine ls_rs tbOk ?_
  refine evs (ev_bx (c1 := .agg [.int .i64 a0.1, .int .i64 a0.2]) rfl rfl rfl (evs (ev_al rfl rfl (evn ?_))))
  refine ls_keep [(1, .box [.int .i64 a0.1, .int .i64 a0.2]), (2, .box [.int .i64 0, .int .i64 0])] ⟨kr, kr, trivial⟩ rfl ?_
  refine ls_rs tbOk ?_
  refine evs (ev_al rfl rfl (evn ?_))
  refine ls_keep [(1, .box [.int .i64 a0.1, .int .i64 a0.2]), (2, .box [.int .i64 0, .int .i64 0]), (3, .box [.int .i64 0, .int .i64 0])] ⟨kr, kr, kr, trivial⟩ rfl ?_
  refine ls_rs tbOk ?_
  refine evs (ev_fa (c1 := .cref 1 0) (v := .cref 1 0) rfl rfl rfl ⟨_, rfl⟩ rfl (evs (ev_ldB (off := 0) (v := .int .i64 a0.1) rfl rfl rfl rfl (Nat.le_of_ble_eq_true rfl) rfl (evs (ev_fa (c1 := .cref 3 0) (v := .cref 3 0) rfl rfl rfl ⟨_, rfl⟩ rfl (evs (ev_st (off := 0) (c1 := .int .i64 a0.1) (cs' := [.int .i64 a0.1, .int .i64 0]) rfl rfl rfl rfl rfl rfl (Nat.le_of_ble_eq_true rfl) rfl (evn ?_))))))))
  refine ls_keep [(1, .box [.int .i64 a0.1, .int .i64 a0.2]), (2, .box [.int .i64 0, .int .i64 0]), (3, .box [.int .i64 a0.1, .int .i64 0])] ⟨kr, kr, kr, trivial⟩ rfl ?_
  refine ls_rs tbOk ?_
  refine evs (ev_fa (c1 := .cref 1 0) (v := .cref 1 1) rfl rfl rfl ⟨_, rfl⟩ rfl (evs (ev_ldB (off := 1) (v := .int .i64 a0.2) rfl rfl rfl rfl (Nat.le_of_ble_eq_true rfl) rfl (evs (ev_fa (c1 := .cref 3 0) (v := .cref 3 1) rfl rfl rfl ⟨_, rfl⟩ rfl (evs (ev_st (off := 1) (c1 := .int .i64 a0.2) (cs' := [.int .i64 a0.1, .int .i64 a0.2]) rfl rfl rfl rfl rfl rfl (Nat.le_of_ble_eq_true rfl) rfl (evn ?_))))))))
  refine ls_keep [(2, .box [.int .i64 0, .int .i64 0]), (3, .box [.int .i64 a0.1, .int .i64 a0.2])] ⟨kr, kr, trivial⟩ rfl ?_
  refine ls_rs tbOk ?_
  refine evs (ev_ldB (off := 0) (v := .agg [.int .i64 a0.1, .int .i64 a0.2]) rfl rfl rfl rfl (Nat.le_of_ble_eq_true rfl) rfl (evs (ev_st (off := 0) (c1 := .agg [.int .i64 a0.1, .int .i64 a0.2]) (cs' := [.int .i64 a0.1, .int .i64 a0.2]) rfl rfl rfl rfl rfl rfl (Nat.le_of_ble_eq_true rfl) rfl (evn ?_))))
  refine ls_keep [(2, .box [.int .i64 a0.1, .int .i64 a0.2])] ⟨kr, trivial⟩ rfl ?_
  refine ls_ret ?_
  have hr := Option.some.inj h
  rw [← hr]
  exact ⟨.inl rfl, rfl⟩
def c163_ (x : Int × Int) : List V := [.int .i64 x.1, .int .i64 x.2]
theorem zc163_ (x : Int × Int) : (c163_ x).length = 2 := rfl
theorem ec163_ (x : Int × Int) : erL (c163_ x) = c163_ x := (erc rfl (erc rfl rfl))
def laws_toRationalS_B1 (a0 : List (Int × Int)) (rec : ((List (Int × Int)) × Int) → Option ((List (Int × Int)))) (s : (List (Int × Int)) × Int) : Option ((List (Int × Int))) := match s with
  | (y1, y2) => cond (decide (y2 < (List.length a0 : Int))) (obind (geti a0 y2) fun e7 => obind (laws_toRational e7) fun v9 => obind (geti y1 y2) fun e11 => rec ((seti y1 y2 v9), (IntKind.i64.wrap (y2 + 1)))) (some y1)
def laws_toRationalS (a0 : List (Int × Int)) : Option ((List (Int × Int))) := chk ((0 : Int) ≤ (List.length a0 : Int) ∧ Int.toNat (List.length a0 : Int) ≤ lim) (obind (loopF (laws_toRationalS_B1 a0) fz ((List.replicate (Int.toNat (List.length a0 : Int)) ((0, 0) : Int × Int)), 0)) fun z3 => some z3)
theorem laws_toRationalS_s {a0 : List (Int × Int)} {r : (List (Int × Int))} (h : laws_toRationalS a0 = some r) : SoundAt Try.prog 93 [.dat a0.length (a0.flatMap c165_)] (.own 163 r.length (r.flatMap c163_)) := by
  unfold laws_toRationalS at h
  refine sound_lit tbOk lit93 (Nat.le_of_ble_eq_true rfl) rfl ?_
  unfold c93
  refine ls_keep [(0, .dat a0.length (a0.flatMap c165_))] ⟨kr, trivial⟩ rfl ?_
  refine ls_rs tbOk ?_
  refine evs (ev_an rfl rfl (evn ?_))
  refine ls_keep [(0, .dat a0.length (a0.flatMap c165_))] ⟨kr, trivial⟩ rfl ?_
  refine ls_rs tbOk ?_
  refine evs (ev_mv (c := .dat a0.length (a0.flatMap c165_)) rfl rfl rfl (evs (ev_len (c1 := .dat a0.length (a0.flatMap c165_)) rfl rfl rfl (?_))))
  obtain ⟨g1, h⟩ := chk_some h
  refine evs (ev_mku (f := c163_) (z := ((0, 0) : Int × Int)) rfl rfl rfl rfl rfl rfl g1 rfl (evs (ev_asu rfl rfl rfl (evn ?_))))
  refine ls_keep [(0, .dat a0.length (a0.flatMap c165_)), (3, .uni 163 (List.replicate (Int.toNat (List.length a0 : Int)) ((0, 0) : Int × Int)).length ((List.replicate (Int.toNat (List.length a0 : Int)) ((0, 0) : Int × Int)).flatMap c163_))] ⟨kr, kr, trivial⟩ rfl ?_
  refine ls_seq_k fun K2 hK2 => ?_
  refine ls_rs tbOk ?_
  refine evs (ev_ac rfl nofun rfl (evn ?_))
  refine ls_keep [(0, .dat a0.length (a0.flatMap c165_)), (3, .uni 163 (List.replicate (Int.toNat (List.length a0 : Int)) ((0, 0) : Int × Int)).length ((List.replicate (Int.toNat (List.length a0 : Int)) ((0, 0) : Int × Int)).flatMap c163_)), (4, .int .i64 0)] ⟨kr, kr, kr, trivial⟩ rfl ?_
  obtain ⟨o1, hl, hr1⟩ := ob_some h
  clear h
  have kXlaws_toRationalS_B1 : ∀ (z3 : List (Int × Int)), (some z3) = some r → ∀ σ' : PS, okK σ' [(3, .uni 163 z3.length (z3.flatMap c163_))] → K2 σ' := by
    intro z3 h σ' hk
    refine hK2 _ (ls_keep [(3, .uni 163 z3.length (z3.flatMap c163_))] hk rfl ?_)
    refine ls_rs tbOk ?_
    refine evs (ev_mvtu rfl rfl (evs (ev_as (c := .own 163 z3.length (z3.flatMap c163_)) rfl rfl rfl (evn ?_))))
    refine ls_keep [(2, .own 163 z3.length (z3.flatMap c163_))] ⟨kr, trivial⟩ rfl ?_
    refine ls_ret ?_
    have hr := Option.some.inj h
    rw [← hr]
    exact ⟨.inl rfl, rfl⟩
  refine ls_rec (fun (s : (List (Int × Int)) × Int) => match s with | (y1, y2) => [(0, .dat a0.length (a0.flatMap c165_)), (3, .uni 163 y1.length (y1.flatMap c163_)), (4, .int .i64 y2)]) (laws_toRationalS_B1 a0) fz ((List.replicate (Int.toNat (List.length a0 : Int)) ((0, 0) : Int × Int)), 0) o1 hl ⟨kr, kr, kr, trivial⟩ (fun _ => rfl) ?_
  rintro m ⟨y1, y2⟩ N h hN
  unfold laws_toRationalS_B1 at h
  dsimp only at h
  refine ls_seq_k fun K4 hK4 => ?_
  refine ls_rs tbOk ?_
  refine evs (ev_mv (c := .int .i64 y2) rfl rfl rfl (evs (ev_mv (c := .dat a0.length (a0.flatMap c165_)) rfl rfl rfl (evs (ev_len (c1 := .dat a0.length (a0.flatMap c165_)) rfl rfl rfl (evs (ev_bin (c1 := .int .i64 y2) (c2 := .int .i64 (List.length a0 : Int)) rfl rfl rfl (evn ?_))))))))
  refine ls_keep [(0, .dat a0.length (a0.flatMap c165_)), (3, .uni 163 y1.length (y1.flatMap c163_)), (4, .int .i64 y2), (11, .bool (decide (y2 < (List.length a0 : Int))))] ⟨kr, kr, kr, kr, trivial⟩ rfl ?_
  rcases cond_some h with ⟨g5, h⟩ | ⟨g5, h⟩
  · refine ls_cT rfl g5 ?_
    refine ls_skip ?_
    refine hK4 _ (ls_keep [(0, .dat a0.length (a0.flatMap c165_)), (3, .uni 163 y1.length (y1.flatMap c163_)), (4, .int .i64 y2)] ⟨kr, kr, kr, trivial⟩ rfl ?_)
    refine ls_seq_k fun K6 hK6 => ?_
    refine ls_blk ?_
    refine ls_rgn tbOk ?_
    refine evs (ev_mvu rfl rfl (evs (ev_mv (c := .int .i64 y2) rfl rfl rfl (evs (ev_mv (c := .dat a0.length (a0.flatMap c165_)) rfl rfl rfl (evs (ev_mv (c := .int .i64 y2) rfl rfl rfl (?_))))))))
    obtain ⟨e7, g8, h⟩ := ob_some h
    refine evs (ev_ia rfl rfl rfl ⟨(geti_some g8).1, (geti_some g8).2.1⟩ (evs (ev_ldE (off := 0) (v := .agg [.int .i64 e7.1, .int .i64 e7.2]) rfl rfl zc165_ g8 rfl (Nat.le_of_ble_eq_true rfl) rfl (?_))))
    obtain ⟨v9, g10, h⟩ := ob_some h
    refine evs (ev_call (era rfl (erg (erc rfl (erc rfl rfl))) eran) (laws_toRational_s g10) (?_))
    obtain ⟨e11, g12, h⟩ := ob_some h
    refine evs (ev_iau rfl rfl rfl rfl ⟨(geti_some g12).1, (geti_some g12).2.1⟩ (evs (ev_stu (e := v9) (c1 := .agg [.int .i64 v9.1, .int .i64 v9.2]) rfl rfl zc163_ ⟨(geti_some g12).1, (geti_some g12).2.1⟩ rfl rfl rfl rfl rfl (evn ?_))))
    refine hK6 _ (ls_keep [(0, .dat a0.length (a0.flatMap c165_)), (3, .uni 163 (seti y1 y2 v9).length ((seti y1 y2 v9).flatMap c163_)), (4, .int .i64 y2)] ⟨kr, kr, kr, trivial⟩ rfl ?_)
    refine ls_rgn tbOk ?_
    refine evs (ev_mv (c := .int .i64 y2) rfl rfl rfl (evs (ev_bin (c1 := .int .i64 y2) (c2 := .int .i64 1) rfl rfl rfl (evs (ev_as (c := .int .i64 (IntKind.i64.wrap (y2 + 1))) rfl rfl rfl (evn ?_))))))
    exact hN _ ((seti y1 y2 v9), (IntKind.i64.wrap (y2 + 1))) h ⟨kr, kr, kr, trivial⟩
  · refine ls_cF rfl g5 ?_
    refine ls_exit ?_
    have q0 := (Option.some.inj h).symm
    have r0 := hr1
    rw [q0] at r0
    exact kXlaws_toRationalS_B1 y1 r0 _ ⟨kr, trivial⟩
def laws_toCertificate (a0 : (List Int) × (List (Int × Int)) × (List Int) × Int × Int) : Option (((List Int) × (List (Int × Int)) × (List Int) × Int × Int)) := obind (laws_toIntS a0.1) fun v1 => obind (laws_toRationalS a0.2.1) fun v3 => obind (laws_toIntS a0.2.2.1) fun v5 => some (v1, v3, v5, a0.2.2.2.1, a0.2.2.2.2)
theorem laws_toCertificate_s {a0 : (List Int) × (List (Int × Int)) × (List Int) × Int × Int} {r : ((List Int) × (List (Int × Int)) × (List Int) × Int × Int)} (h : laws_toCertificate a0 = some r) : SoundAt Try.prog 22 [.agg [.dat a0.1.length (a0.1.flatMap ci64), .dat a0.2.1.length (a0.2.1.flatMap c165_), .dat a0.2.2.1.length (a0.2.2.1.flatMap ci64), .int .i64 a0.2.2.2.1, .int .i64 a0.2.2.2.2]] (.agg [.own 3 r.1.length (r.1.flatMap ci64), .own 163 r.2.1.length (r.2.1.flatMap c163_), .own 3 r.2.2.1.length (r.2.2.1.flatMap ci64), .int .i64 r.2.2.2.1, .int .i64 r.2.2.2.2]) := by
  unfold laws_toCertificate at h
  refine sound_lit tbOk lit22 (Nat.le_of_ble_eq_true rfl) rfl ?_
  unfold c22
  refine ls_keep [(0, .agg [.dat a0.1.length (a0.1.flatMap ci64), .dat a0.2.1.length (a0.2.1.flatMap c165_), .dat a0.2.2.1.length (a0.2.2.1.flatMap ci64), .int .i64 a0.2.2.2.1, .int .i64 a0.2.2.2.2])] ⟨kr, trivial⟩ rfl ?_
  refine ls_rs tbOk ?_
  refine evs (ev_bx (c1 := .agg [.dat a0.1.length (a0.1.flatMap ci64), .dat a0.2.1.length (a0.2.1.flatMap c165_), .dat a0.2.2.1.length (a0.2.2.1.flatMap ci64), .int .i64 a0.2.2.2.1, .int .i64 a0.2.2.2.2]) rfl rfl rfl (evs (ev_al rfl rfl (evn ?_))))
  refine ls_keep [(1, .box [.dat a0.1.length (a0.1.flatMap ci64), .dat a0.2.1.length (a0.2.1.flatMap c165_), .dat a0.2.2.1.length (a0.2.2.1.flatMap ci64), .int .i64 a0.2.2.2.1, .int .i64 a0.2.2.2.2]), (2, .box [.own 3 ([] : List Int).length (([] : List Int).flatMap ci64), .own 163 ([] : List (Int × Int)).length (([] : List (Int × Int)).flatMap c163_), .own 3 ([] : List Int).length (([] : List Int).flatMap ci64), .int .i64 0, .int .i64 0])] ⟨kr, kr, trivial⟩ rfl ?_
  refine ls_rs tbOk ?_
  refine evs (ev_al rfl rfl (evn ?_))
  refine ls_keep [(1, .box [.dat a0.1.length (a0.1.flatMap ci64), .dat a0.2.1.length (a0.2.1.flatMap c165_), .dat a0.2.2.1.length (a0.2.2.1.flatMap ci64), .int .i64 a0.2.2.2.1, .int .i64 a0.2.2.2.2]), (2, .box [.own 3 ([] : List Int).length (([] : List Int).flatMap ci64), .own 163 ([] : List (Int × Int)).length (([] : List (Int × Int)).flatMap c163_), .own 3 ([] : List Int).length (([] : List Int).flatMap ci64), .int .i64 0, .int .i64 0]), (3, .box [.own 3 ([] : List Int).length (([] : List Int).flatMap ci64), .own 163 ([] : List (Int × Int)).length (([] : List (Int × Int)).flatMap c163_), .own 3 ([] : List Int).length (([] : List Int).flatMap ci64), .int .i64 0, .int .i64 0])] ⟨kr, kr, kr, trivial⟩ rfl ?_
  refine ls_rs tbOk ?_
  refine evs (ev_fa (c1 := .cref 1 0) (v := .cref 1 0) rfl rfl rfl ⟨_, rfl⟩ rfl (evs (ev_ldB (off := 0) (v := .dat a0.1.length (a0.1.flatMap ci64)) rfl rfl rfl rfl (Nat.le_of_ble_eq_true rfl) rfl (?_))))
  obtain ⟨v1, g2, h⟩ := ob_some h
  refine evs (ev_call (era rfl (erD eci64 _) eran) (laws_toIntS_s g2) (evs (ev_fa (c1 := .cref 3 0) (v := .cref 3 0) rfl rfl rfl ⟨_, rfl⟩ rfl (evs (ev_st (off := 0) (c1 := .own 3 v1.length (v1.flatMap ci64)) (cs' := [.own 3 v1.length (v1.flatMap ci64), .own 163 ([] : List (Int × Int)).length (([] : List (Int × Int)).flatMap c163_), .own 3 ([] : List Int).length (([] : List Int).flatMap ci64), .int .i64 0, .int .i64 0]) rfl rfl rfl rfl rfl rfl (Nat.le_of_ble_eq_true rfl) rfl (evn ?_))))))
  refine ls_keep [(1, .box [.dat a0.1.length (a0.1.flatMap ci64), .dat a0.2.1.length (a0.2.1.flatMap c165_), .dat a0.2.2.1.length (a0.2.2.1.flatMap ci64), .int .i64 a0.2.2.2.1, .int .i64 a0.2.2.2.2]), (2, .box [.own 3 ([] : List Int).length (([] : List Int).flatMap ci64), .own 163 ([] : List (Int × Int)).length (([] : List (Int × Int)).flatMap c163_), .own 3 ([] : List Int).length (([] : List Int).flatMap ci64), .int .i64 0, .int .i64 0]), (3, .box [.own 3 v1.length (v1.flatMap ci64), .own 163 ([] : List (Int × Int)).length (([] : List (Int × Int)).flatMap c163_), .own 3 ([] : List Int).length (([] : List Int).flatMap ci64), .int .i64 0, .int .i64 0])] ⟨kr, kr, kr, trivial⟩ rfl ?_
  refine ls_rs tbOk ?_
  refine evs (ev_fa (c1 := .cref 1 0) (v := .cref 1 1) rfl rfl rfl ⟨_, rfl⟩ rfl (evs (ev_ldB (off := 1) (v := .dat a0.2.1.length (a0.2.1.flatMap c165_)) rfl rfl rfl rfl (Nat.le_of_ble_eq_true rfl) rfl (?_))))
  obtain ⟨v3, g4, h⟩ := ob_some h
  refine evs (ev_call (era rfl (erD ec165_ _) eran) (laws_toRationalS_s g4) (evs (ev_fa (c1 := .cref 3 0) (v := .cref 3 1) rfl rfl rfl ⟨_, rfl⟩ rfl (evs (ev_st (off := 1) (c1 := .own 163 v3.length (v3.flatMap c163_)) (cs' := [.own 3 v1.length (v1.flatMap ci64), .own 163 v3.length (v3.flatMap c163_), .own 3 ([] : List Int).length (([] : List Int).flatMap ci64), .int .i64 0, .int .i64 0]) rfl rfl rfl rfl rfl rfl (Nat.le_of_ble_eq_true rfl) rfl (evn ?_))))))
  refine ls_keep [(1, .box [.dat a0.1.length (a0.1.flatMap ci64), .dat a0.2.1.length (a0.2.1.flatMap c165_), .dat a0.2.2.1.length (a0.2.2.1.flatMap ci64), .int .i64 a0.2.2.2.1, .int .i64 a0.2.2.2.2]), (2, .box [.own 3 ([] : List Int).length (([] : List Int).flatMap ci64), .own 163 ([] : List (Int × Int)).length (([] : List (Int × Int)).flatMap c163_), .own 3 ([] : List Int).length (([] : List Int).flatMap ci64), .int .i64 0, .int .i64 0]), (3, .box [.own 3 v1.length (v1.flatMap ci64), .own 163 v3.length (v3.flatMap c163_), .own 3 ([] : List Int).length (([] : List Int).flatMap ci64), .int .i64 0, .int .i64 0])] ⟨kr, kr, kr, trivial⟩ rfl ?_
  refine ls_rs tbOk ?_
  refine evs (ev_fa (c1 := .cref 1 0) (v := .cref 1 2) rfl rfl rfl ⟨_, rfl⟩ rfl (evs (ev_ldB (off := 2) (v := .dat a0.2.2.1.length (a0.2.2.1.flatMap ci64)) rfl rfl rfl rfl (Nat.le_of_ble_eq_true rfl) rfl (?_))))
  obtain ⟨v5, g6, h⟩ := ob_some h
  refine evs (ev_call (era rfl (erD eci64 _) eran) (laws_toIntS_s g6) (evs (ev_fa (c1 := .cref 3 0) (v := .cref 3 2) rfl rfl rfl ⟨_, rfl⟩ rfl (evs (ev_st (off := 2) (c1 := .own 3 v5.length (v5.flatMap ci64)) (cs' := [.own 3 v1.length (v1.flatMap ci64), .own 163 v3.length (v3.flatMap c163_), .own 3 v5.length (v5.flatMap ci64), .int .i64 0, .int .i64 0]) rfl rfl rfl rfl rfl rfl (Nat.le_of_ble_eq_true rfl) rfl (evn ?_))))))
  refine ls_keep [(1, .box [.dat a0.1.length (a0.1.flatMap ci64), .dat a0.2.1.length (a0.2.1.flatMap c165_), .dat a0.2.2.1.length (a0.2.2.1.flatMap ci64), .int .i64 a0.2.2.2.1, .int .i64 a0.2.2.2.2]), (2, .box [.own 3 ([] : List Int).length (([] : List Int).flatMap ci64), .own 163 ([] : List (Int × Int)).length (([] : List (Int × Int)).flatMap c163_), .own 3 ([] : List Int).length (([] : List Int).flatMap ci64), .int .i64 0, .int .i64 0]), (3, .box [.own 3 v1.length (v1.flatMap ci64), .own 163 v3.length (v3.flatMap c163_), .own 3 v5.length (v5.flatMap ci64), .int .i64 0, .int .i64 0])] ⟨kr, kr, kr, trivial⟩ rfl ?_
  refine ls_rs tbOk ?_
  refine evs (ev_fa (c1 := .cref 1 0) (v := .cref 1 3) rfl rfl rfl ⟨_, rfl⟩ rfl (evs (ev_ldB (off := 3) (v := .int .i64 a0.2.2.2.1) rfl rfl rfl rfl (Nat.le_of_ble_eq_true rfl) rfl (evs (ev_fa (c1 := .cref 3 0) (v := .cref 3 3) rfl rfl rfl ⟨_, rfl⟩ rfl (evs (ev_st (off := 3) (c1 := .int .i64 a0.2.2.2.1) (cs' := [.own 3 v1.length (v1.flatMap ci64), .own 163 v3.length (v3.flatMap c163_), .own 3 v5.length (v5.flatMap ci64), .int .i64 a0.2.2.2.1, .int .i64 0]) rfl rfl rfl rfl rfl rfl (Nat.le_of_ble_eq_true rfl) rfl (evn ?_))))))))
  refine ls_keep [(1, .box [.dat a0.1.length (a0.1.flatMap ci64), .dat a0.2.1.length (a0.2.1.flatMap c165_), .dat a0.2.2.1.length (a0.2.2.1.flatMap ci64), .int .i64 a0.2.2.2.1, .int .i64 a0.2.2.2.2]), (2, .box [.own 3 ([] : List Int).length (([] : List Int).flatMap ci64), .own 163 ([] : List (Int × Int)).length (([] : List (Int × Int)).flatMap c163_), .own 3 ([] : List Int).length (([] : List Int).flatMap ci64), .int .i64 0, .int .i64 0]), (3, .box [.own 3 v1.length (v1.flatMap ci64), .own 163 v3.length (v3.flatMap c163_), .own 3 v5.length (v5.flatMap ci64), .int .i64 a0.2.2.2.1, .int .i64 0])] ⟨kr, kr, kr, trivial⟩ rfl ?_
  refine ls_rs tbOk ?_
  refine evs (ev_fa (c1 := .cref 1 0) (v := .cref 1 4) rfl rfl rfl ⟨_, rfl⟩ rfl (evs (ev_ldB (off := 4) (v := .int .i64 a0.2.2.2.2) rfl rfl rfl rfl (Nat.le_of_ble_eq_true rfl) rfl (evs (ev_fa (c1 := .cref 3 0) (v := .cref 3 4) rfl rfl rfl ⟨_, rfl⟩ rfl (evs (ev_st (off := 4) (c1 := .int .i64 a0.2.2.2.2) (cs' := [.own 3 v1.length (v1.flatMap ci64), .own 163 v3.length (v3.flatMap c163_), .own 3 v5.length (v5.flatMap ci64), .int .i64 a0.2.2.2.1, .int .i64 a0.2.2.2.2]) rfl rfl rfl rfl rfl rfl (Nat.le_of_ble_eq_true rfl) rfl (evn ?_))))))))
  refine ls_keep [(2, .box [.own 3 ([] : List Int).length (([] : List Int).flatMap ci64), .own 163 ([] : List (Int × Int)).length (([] : List (Int × Int)).flatMap c163_), .own 3 ([] : List Int).length (([] : List Int).flatMap ci64), .int .i64 0, .int .i64 0]), (3, .box [.own 3 v1.length (v1.flatMap ci64), .own 163 v3.length (v3.flatMap c163_), .own 3 v5.length (v5.flatMap ci64), .int .i64 a0.2.2.2.1, .int .i64 a0.2.2.2.2])] ⟨kr, kr, trivial⟩ rfl ?_
  refine ls_rs tbOk ?_
  refine evs (ev_ldBt (off := 0) (v := .agg [.own 3 v1.length (v1.flatMap ci64), .own 163 v3.length (v3.flatMap c163_), .own 3 v5.length (v5.flatMap ci64), .int .i64 a0.2.2.2.1, .int .i64 a0.2.2.2.2]) (c' := .box [.dat v1.length (v1.flatMap ci64), .dat v3.length (v3.flatMap c163_), .dat v5.length (v5.flatMap ci64), .int .i64 a0.2.2.2.1, .int .i64 a0.2.2.2.2]) rfl rfl rfl rfl (Nat.le_of_ble_eq_true rfl) rfl rfl (evs (ev_st (off := 0) (c1 := .agg [.own 3 v1.length (v1.flatMap ci64), .own 163 v3.length (v3.flatMap c163_), .own 3 v5.length (v5.flatMap ci64), .int .i64 a0.2.2.2.1, .int .i64 a0.2.2.2.2]) (cs' := [.own 3 v1.length (v1.flatMap ci64), .own 163 v3.length (v3.flatMap c163_), .own 3 v5.length (v5.flatMap ci64), .int .i64 a0.2.2.2.1, .int .i64 a0.2.2.2.2]) rfl rfl rfl rfl rfl rfl (Nat.le_of_ble_eq_true rfl) rfl (evn ?_))))
  refine ls_keep [(2, .box [.own 3 v1.length (v1.flatMap ci64), .own 163 v3.length (v3.flatMap c163_), .own 3 v5.length (v5.flatMap ci64), .int .i64 a0.2.2.2.1, .int .i64 a0.2.2.2.2])] ⟨kr, trivial⟩ rfl ?_
  refine ls_ret ?_
  have hr := Option.some.inj h
  rw [← hr]
  exact ⟨.inl rfl, rfl⟩
def laws_eqIntS_B1 (a0 : List Int) (a1 : List Int) (rec : Int → Option (Sum (Unit) (Bool))) (y1 : Int) : Option (Sum (Unit) (Bool)) := cond (decide (y1 < (List.length a0 : Int))) (obind (geti a0 y1) fun e7 => obind (geti a1 y1) fun e9 => cond (e7 != e9) (some (.inr false)) (rec (IntKind.i64.wrap (y1 + 1)))) (some (.inl ()))
def laws_eqIntS (a0 : List Int) (a1 : List Int) : Option (Bool) := cond ((List.length a0 : Int) != (List.length a1 : Int)) (some false) (obind (loopF (laws_eqIntS_B1 a0 a1) fz 0) fun o1 => (match o1 with
  | .inl _ => (some true)
  | .inr r => some r))
theorem laws_eqIntS_s {a0 : List Int} {a1 : List Int} {r : Bool} (h : laws_eqIntS a0 a1 = some r) : SoundAt Try.prog 35 [.dat a0.length (a0.flatMap ci64), .dat a1.length (a1.flatMap ci64)] (.bool r) := by
  unfold laws_eqIntS at h
  refine sound_lit tbOk lit35 (Nat.le_of_ble_eq_true rfl) rfl ?_
  unfold c35
  refine ls_keep [(0, .dat a0.length (a0.flatMap ci64)), (1, .dat a1.length (a1.flatMap ci64))] ⟨kr, kr, trivial⟩ rfl ?_
  refine ls_rs tbOk ?_
  refine evs (ev_ac rfl nofun rfl (evn ?_))
  refine ls_keep [(0, .dat a0.length (a0.flatMap ci64)), (1, .dat a1.length (a1.flatMap ci64))] ⟨kr, kr, trivial⟩ rfl ?_
  refine ls_seq_k fun K1 hK1 => ?_
  refine ls_rs tbOk ?_
  refine evs (ev_mv (c := .dat a0.length (a0.flatMap ci64)) rfl rfl rfl (evs (ev_len (c1 := .dat a0.length (a0.flatMap ci64)) rfl rfl rfl (evs (ev_mv (c := .dat a1.length (a1.flatMap ci64)) rfl rfl rfl (evs (ev_len (c1 := .dat a1.length (a1.flatMap ci64)) rfl rfl rfl (evs (ev_bin (c1 := .int .i64 (List.length a0 : Int)) (c2 := .int .i64 (List.length a1 : Int)) rfl rfl rfl (evn ?_))))))))))
  refine ls_keep [(0, .dat a0.length (a0.flatMap ci64)), (1, .dat a1.length (a1.flatMap ci64)), (10, .bool ((List.length a0 : Int) != (List.length a1 : Int)))] ⟨kr, kr, kr, trivial⟩ rfl ?_
  rcases cond_some h with ⟨g2, h⟩ | ⟨g2, h⟩
  · refine ls_cT rfl g2 ?_
    refine ls_rs tbOk ?_
    refine evs (ev_ac rfl nofun rfl (evn ?_))
    refine ls_keep [(4, .bool false)] ⟨kr, trivial⟩ rfl ?_
    refine ls_ret ?_
    have hr := Option.some.inj h
    rw [← hr]
    exact ⟨.inl rfl, rfl⟩
  · refine ls_cF rfl g2 ?_
    refine ls_skip ?_
    refine hK1 _ (ls_keep [(0, .dat a0.length (a0.flatMap ci64)), (1, .dat a1.length (a1.flatMap ci64))] ⟨kr, kr, trivial⟩ rfl ?_)
    refine ls_seq_k fun K3 hK3 => ?_
    refine ls_rs tbOk ?_
    refine evs (ev_ac rfl nofun rfl (evn ?_))
    refine ls_keep [(0, .dat a0.length (a0.flatMap ci64)), (1, .dat a1.length (a1.flatMap ci64)), (5, .int .i64 0)] ⟨kr, kr, kr, trivial⟩ rfl ?_
    obtain ⟨o1, hl, hr1⟩ := ob_some h
    clear h
    have kXlaws_eqIntS_B1 : ∀ (_ : Unit), (some true) = some r → ∀ σ' : PS, okK σ' [] → K3 σ' := by
      intro _ h σ' hk
      refine hK3 _ (ls_keep [] hk rfl ?_)
      refine ls_rs tbOk ?_
      refine evs (ev_ac rfl nofun rfl (evn ?_))
      refine ls_keep [(4, .bool true)] ⟨kr, trivial⟩ rfl ?_
      refine ls_ret ?_
      have hr := Option.some.inj h
      rw [← hr]
      exact ⟨.inl rfl, rfl⟩
    refine ls_rec (fun (y1 : Int) => [(0, .dat a0.length (a0.flatMap ci64)), (1, .dat a1.length (a1.flatMap ci64)), (5, .int .i64 y1)]) (laws_eqIntS_B1 a0 a1) fz 0 o1 hl ⟨kr, kr, kr, trivial⟩ (fun _ => rfl) ?_
    rintro m y1 N h hN
    unfold laws_eqIntS_B1 at h
    refine ls_seq_k fun K4 hK4 => ?_
    refine ls_rs tbOk ?_
    refine evs (ev_mv (c := .int .i64 y1) rfl rfl rfl (evs (ev_mv (c := .dat a0.length (a0.flatMap ci64)) rfl rfl rfl (evs (ev_len (c1 := .dat a0.length (a0.flatMap ci64)) rfl rfl rfl (evs (ev_bin (c1 := .int .i64 y1) (c2 := .int .i64 (List.length a0 : Int)) rfl rfl rfl (evn ?_))))))))
    refine ls_keep [(0, .dat a0.length (a0.flatMap ci64)), (1, .dat a1.length (a1.flatMap ci64)), (5, .int .i64 y1), (14, .bool (decide (y1 < (List.length a0 : Int))))] ⟨kr, kr, kr, kr, trivial⟩ rfl ?_
    rcases cond_some h with ⟨g5, h⟩ | ⟨g5, h⟩
    · refine ls_cT rfl g5 ?_
      refine ls_skip ?_
      refine hK4 _ (ls_keep [(0, .dat a0.length (a0.flatMap ci64)), (1, .dat a1.length (a1.flatMap ci64)), (5, .int .i64 y1)] ⟨kr, kr, kr, trivial⟩ rfl ?_)
      refine ls_seq_k fun K6 hK6 => ?_
      refine ls_blk ?_
      refine ls_rd tbOk mixed (by kernel_rfl) ?_
      refine evd rfl rfl (ev_mv (c := .dat a0.length (a0.flatMap ci64)) rfl rfl rfl (evd rfl rfl (ev_mv (c := .int .i64 y1) rfl rfl rfl (?_))))
      obtain ⟨e7, g8, h⟩ := ob_some h
      refine evd rfl rfl (ev_ia rfl rfl rfl ⟨(geti_some g8).1, (geti_some g8).2.1⟩ (evd rfl rfl (ev_ldE (off := 0) (v := .int .i64 e7) rfl rfl zci64 g8 rfl (Nat.le_of_ble_eq_true rfl) rfl (evd rfl rfl (ev_mv (c := .dat a1.length (a1.flatMap ci64)) rfl rfl rfl (evd rfl rfl (ev_mv (c := .int .i64 y1) rfl rfl rfl (?_))))))))
      obtain ⟨e9, g10, h⟩ := ob_some h
      refine evd rfl rfl (ev_ia rfl rfl rfl ⟨(geti_some g10).1, (geti_some g10).2.1⟩ (evd rfl rfl (ev_ldE (off := 0) (v := .int .i64 e9) rfl rfl zci64 g10 rfl (Nat.le_of_ble_eq_true rfl) rfl (evd rfl rfl (ev_bin (c1 := .int .i64 e7) (c2 := .int .i64 e9) rfl rfl rfl (evdn ?_))))))
      refine ls_keep [(0, .dat a0.length (a0.flatMap ci64)), (1, .dat a1.length (a1.flatMap ci64)), (5, .int .i64 y1), (25, .bool (e7 != e9))] ⟨kr, kr, kr, kr, trivial⟩ rfl ?_
      rcases cond_some h with ⟨g11, h⟩ | ⟨g11, h⟩
      · refine ls_cT rfl g11 ?_
        refine ls_rs tbOk ?_
        refine evs (ev_ac rfl nofun rfl (evn ?_))
        refine ls_keep [(4, .bool false)] ⟨kr, trivial⟩ rfl ?_
        refine ls_ret ?_
        have q0 := (Option.some.inj h).symm
        have r0 := hr1
        rw [q0] at r0
        have hr := Option.some.inj r0
        rw [← hr]
        exact ⟨.inl rfl, rfl⟩
      · refine ls_cF rfl g11 ?_
        refine ls_skip ?_
        refine hK6 _ (ls_keep [(0, .dat a0.length (a0.flatMap ci64)), (1, .dat a1.length (a1.flatMap ci64)), (5, .int .i64 y1)] ⟨kr, kr, kr, trivial⟩ rfl ?_)
        refine ls_rgn tbOk ?_
        refine evs (ev_mv (c := .int .i64 y1) rfl rfl rfl (evs (ev_bin (c1 := .int .i64 y1) (c2 := .int .i64 1) rfl rfl rfl (evs (ev_as (c := .int .i64 (IntKind.i64.wrap (y1 + 1))) rfl rfl rfl (evn ?_))))))
        exact hN _ (IntKind.i64.wrap (y1 + 1)) h ⟨kr, kr, kr, trivial⟩
    · refine ls_cF rfl g5 ?_
      refine ls_exit ?_
      have q0 := (Option.some.inj h).symm
      have r0 := hr1
      rw [q0] at r0
      exact kXlaws_eqIntS_B1 () r0 _ trivial
def laws_eqRational (a0 : Int × Int) (a1 : Int × Int) : Option (Bool) := cond (a0.1 != a1.1) (some false) (cond (a0.2 != a1.2) (some false) (some true))
theorem laws_eqRational_s {a0 : Int × Int} {a1 : Int × Int} {r : Bool} (h : laws_eqRational a0 a1 = some r) : SoundAt Try.prog 148 [.agg [.int .i64 a0.1, .int .i64 a0.2], .agg [.int .i64 a1.1, .int .i64 a1.2]] (.bool r) := by
  unfold laws_eqRational at h
  refine sound_lit tbOk lit148 (Nat.le_of_ble_eq_true rfl) rfl ?_
  unfold c148
  refine ls_keep [(0, .agg [.int .i64 a0.1, .int .i64 a0.2]), (1, .agg [.int .i64 a1.1, .int .i64 a1.2])] ⟨kr, kr, trivial⟩ rfl ?_
  refine ls_rs tbOk ?_
  refine evs (ev_bx (c1 := .agg [.int .i64 a0.1, .int .i64 a0.2]) rfl rfl rfl (evs (ev_bx (c1 := .agg [.int .i64 a1.1, .int .i64 a1.2]) rfl rfl rfl (evs (ev_ac rfl nofun rfl (evn ?_))))))
  refine ls_keep [(2, .box [.int .i64 a0.1, .int .i64 a0.2]), (3, .box [.int .i64 a1.1, .int .i64 a1.2])] ⟨kr, kr, trivial⟩ rfl ?_
  refine ls_seq_k fun K1 hK1 => ?_
  refine ls_rs tbOk ?_
  refine evs (ev_fa (c1 := .cref 2 0) (v := .cref 2 0) rfl rfl rfl ⟨_, rfl⟩ rfl (evs (ev_ldB (off := 0) (v := .int .i64 a0.1) rfl rfl rfl rfl (Nat.le_of_ble_eq_true rfl) rfl (evs (ev_fa (c1 := .cref 3 0) (v := .cref 3 0) rfl rfl rfl ⟨_, rfl⟩ rfl (evs (ev_ldB (off := 0) (v := .int .i64 a1.1) rfl rfl rfl rfl (Nat.le_of_ble_eq_true rfl) rfl (evs (ev_bin (c1 := .int .i64 a0.1) (c2 := .int .i64 a1.1) rfl rfl rfl (evn ?_))))))))))
  refine ls_keep [(2, .box [.int .i64 a0.1, .int .i64 a0.2]), (3, .box [.int .i64 a1.1, .int .i64 a1.2]), (9, .bool (a0.1 != a1.1))] ⟨kr, kr, kr, trivial⟩ rfl ?_
  rcases cond_some h with ⟨g2, h⟩ | ⟨g2, h⟩
  · refine ls_cT rfl g2 ?_
    refine ls_rs tbOk ?_
    refine evs (ev_ac rfl nofun rfl (evn ?_))
    refine ls_keep [(4, .bool false)] ⟨kr, trivial⟩ rfl ?_
    refine ls_ret ?_
    have hr := Option.some.inj h
    rw [← hr]
    exact ⟨.inl rfl, rfl⟩
  · refine ls_cF rfl g2 ?_
    refine ls_skip ?_
    refine hK1 _ (ls_keep [(2, .box [.int .i64 a0.1, .int .i64 a0.2]), (3, .box [.int .i64 a1.1, .int .i64 a1.2])] ⟨kr, kr, trivial⟩ rfl ?_)
    refine ls_seq_k fun K3 hK3 => ?_
    refine ls_rs tbOk ?_
    refine evs (ev_fa (c1 := .cref 2 0) (v := .cref 2 1) rfl rfl rfl ⟨_, rfl⟩ rfl (evs (ev_ldB (off := 1) (v := .int .i64 a0.2) rfl rfl rfl rfl (Nat.le_of_ble_eq_true rfl) rfl (evs (ev_fa (c1 := .cref 3 0) (v := .cref 3 1) rfl rfl rfl ⟨_, rfl⟩ rfl (evs (ev_ldB (off := 1) (v := .int .i64 a1.2) rfl rfl rfl rfl (Nat.le_of_ble_eq_true rfl) rfl (evs (ev_bin (c1 := .int .i64 a0.2) (c2 := .int .i64 a1.2) rfl rfl rfl (evn ?_))))))))))
    refine ls_keep [(14, .bool (a0.2 != a1.2))] ⟨kr, trivial⟩ rfl ?_
    rcases cond_some h with ⟨g4, h⟩ | ⟨g4, h⟩
    · refine ls_cT rfl g4 ?_
      refine ls_rs tbOk ?_
      refine evs (ev_ac rfl nofun rfl (evn ?_))
      refine ls_keep [(4, .bool false)] ⟨kr, trivial⟩ rfl ?_
      refine ls_ret ?_
      have hr := Option.some.inj h
      rw [← hr]
      exact ⟨.inl rfl, rfl⟩
    · refine ls_cF rfl g4 ?_
      refine ls_skip ?_
      refine hK3 _ (ls_keep [] trivial rfl ?_)
      refine ls_rs tbOk ?_
      refine evs (ev_ac rfl nofun rfl (evn ?_))
      refine ls_keep [(4, .bool true)] ⟨kr, trivial⟩ rfl ?_
      refine ls_ret ?_
      have hr := Option.some.inj h
      rw [← hr]
      exact ⟨.inl rfl, rfl⟩
def laws_eqRationalS_B1 (a0 : List (Int × Int)) (a1 : List (Int × Int)) (rec : Int → Option (Sum (Unit) (Bool))) (y1 : Int) : Option (Sum (Unit) (Bool)) := cond (decide (y1 < (List.length a0 : Int))) (obind (geti a0 y1) fun e7 => obind (geti a1 y1) fun e9 => obind (laws_eqRational e7 e9) fun v11 => cond (!v11) (some (.inr false)) (rec (IntKind.i64.wrap (y1 + 1)))) (some (.inl ()))
def laws_eqRationalS (a0 : List (Int × Int)) (a1 : List (Int × Int)) : Option (Bool) := cond ((List.length a0 : Int) != (List.length a1 : Int)) (some false) (obind (loopF (laws_eqRationalS_B1 a0 a1) fz 0) fun o1 => (match o1 with
  | .inl _ => (some true)
  | .inr r => some r))
theorem laws_eqRationalS_s {a0 : List (Int × Int)} {a1 : List (Int × Int)} {r : Bool} (h : laws_eqRationalS a0 a1 = some r) : SoundAt Try.prog 98 [.dat a0.length (a0.flatMap c163_), .dat a1.length (a1.flatMap c163_)] (.bool r) := by
  unfold laws_eqRationalS at h
  refine sound_lit tbOk lit98 (Nat.le_of_ble_eq_true rfl) rfl ?_
  unfold c98
  refine ls_keep [(0, .dat a0.length (a0.flatMap c163_)), (1, .dat a1.length (a1.flatMap c163_))] ⟨kr, kr, trivial⟩ rfl ?_
  refine ls_rs tbOk ?_
  refine evs (ev_ac rfl nofun rfl (evn ?_))
  refine ls_keep [(0, .dat a0.length (a0.flatMap c163_)), (1, .dat a1.length (a1.flatMap c163_))] ⟨kr, kr, trivial⟩ rfl ?_
  refine ls_seq_k fun K1 hK1 => ?_
  refine ls_rs tbOk ?_
  refine evs (ev_mv (c := .dat a0.length (a0.flatMap c163_)) rfl rfl rfl (evs (ev_len (c1 := .dat a0.length (a0.flatMap c163_)) rfl rfl rfl (evs (ev_mv (c := .dat a1.length (a1.flatMap c163_)) rfl rfl rfl (evs (ev_len (c1 := .dat a1.length (a1.flatMap c163_)) rfl rfl rfl (evs (ev_bin (c1 := .int .i64 (List.length a0 : Int)) (c2 := .int .i64 (List.length a1 : Int)) rfl rfl rfl (evn ?_))))))))))
  refine ls_keep [(0, .dat a0.length (a0.flatMap c163_)), (1, .dat a1.length (a1.flatMap c163_)), (10, .bool ((List.length a0 : Int) != (List.length a1 : Int)))] ⟨kr, kr, kr, trivial⟩ rfl ?_
  rcases cond_some h with ⟨g2, h⟩ | ⟨g2, h⟩
  · refine ls_cT rfl g2 ?_
    refine ls_rs tbOk ?_
    refine evs (ev_ac rfl nofun rfl (evn ?_))
    refine ls_keep [(4, .bool false)] ⟨kr, trivial⟩ rfl ?_
    refine ls_ret ?_
    have hr := Option.some.inj h
    rw [← hr]
    exact ⟨.inl rfl, rfl⟩
  · refine ls_cF rfl g2 ?_
    refine ls_skip ?_
    refine hK1 _ (ls_keep [(0, .dat a0.length (a0.flatMap c163_)), (1, .dat a1.length (a1.flatMap c163_))] ⟨kr, kr, trivial⟩ rfl ?_)
    refine ls_seq_k fun K3 hK3 => ?_
    refine ls_rs tbOk ?_
    refine evs (ev_ac rfl nofun rfl (evn ?_))
    refine ls_keep [(0, .dat a0.length (a0.flatMap c163_)), (1, .dat a1.length (a1.flatMap c163_)), (5, .int .i64 0)] ⟨kr, kr, kr, trivial⟩ rfl ?_
    obtain ⟨o1, hl, hr1⟩ := ob_some h
    clear h
    have kXlaws_eqRationalS_B1 : ∀ (_ : Unit), (some true) = some r → ∀ σ' : PS, okK σ' [] → K3 σ' := by
      intro _ h σ' hk
      refine hK3 _ (ls_keep [] hk rfl ?_)
      refine ls_rs tbOk ?_
      refine evs (ev_ac rfl nofun rfl (evn ?_))
      refine ls_keep [(4, .bool true)] ⟨kr, trivial⟩ rfl ?_
      refine ls_ret ?_
      have hr := Option.some.inj h
      rw [← hr]
      exact ⟨.inl rfl, rfl⟩
    refine ls_rec (fun (y1 : Int) => [(0, .dat a0.length (a0.flatMap c163_)), (1, .dat a1.length (a1.flatMap c163_)), (5, .int .i64 y1)]) (laws_eqRationalS_B1 a0 a1) fz 0 o1 hl ⟨kr, kr, kr, trivial⟩ (fun _ => rfl) ?_
    rintro m y1 N h hN
    unfold laws_eqRationalS_B1 at h
    refine ls_seq_k fun K4 hK4 => ?_
    refine ls_rs tbOk ?_
    refine evs (ev_mv (c := .int .i64 y1) rfl rfl rfl (evs (ev_mv (c := .dat a0.length (a0.flatMap c163_)) rfl rfl rfl (evs (ev_len (c1 := .dat a0.length (a0.flatMap c163_)) rfl rfl rfl (evs (ev_bin (c1 := .int .i64 y1) (c2 := .int .i64 (List.length a0 : Int)) rfl rfl rfl (evn ?_))))))))
    refine ls_keep [(0, .dat a0.length (a0.flatMap c163_)), (1, .dat a1.length (a1.flatMap c163_)), (5, .int .i64 y1), (14, .bool (decide (y1 < (List.length a0 : Int))))] ⟨kr, kr, kr, kr, trivial⟩ rfl ?_
    rcases cond_some h with ⟨g5, h⟩ | ⟨g5, h⟩
    · refine ls_cT rfl g5 ?_
      refine ls_skip ?_
      refine hK4 _ (ls_keep [(0, .dat a0.length (a0.flatMap c163_)), (1, .dat a1.length (a1.flatMap c163_)), (5, .int .i64 y1)] ⟨kr, kr, kr, trivial⟩ rfl ?_)
      refine ls_seq_k fun K6 hK6 => ?_
      refine ls_blk ?_
      refine ls_rd tbOk mixed (by kernel_rfl) ?_
      refine evd rfl rfl (ev_mv (c := .dat a0.length (a0.flatMap c163_)) rfl rfl rfl (evd rfl rfl (ev_mv (c := .int .i64 y1) rfl rfl rfl (?_))))
      obtain ⟨e7, g8, h⟩ := ob_some h
      refine evd rfl rfl (ev_ia rfl rfl rfl ⟨(geti_some g8).1, (geti_some g8).2.1⟩ (evd rfl rfl (ev_ldE (off := 0) (v := .agg [.int .i64 e7.1, .int .i64 e7.2]) rfl rfl zc163_ g8 rfl (Nat.le_of_ble_eq_true rfl) rfl (evd rfl rfl (ev_mv (c := .dat a1.length (a1.flatMap c163_)) rfl rfl rfl (evd rfl rfl (ev_mv (c := .int .i64 y1) rfl rfl rfl (?_))))))))
      obtain ⟨e9, g10, h⟩ := ob_some h
      refine evd rfl rfl (ev_ia rfl rfl rfl ⟨(geti_some g10).1, (geti_some g10).2.1⟩ (evd rfl rfl (ev_ldE (off := 0) (v := .agg [.int .i64 e9.1, .int .i64 e9.2]) rfl rfl zc163_ g10 rfl (Nat.le_of_ble_eq_true rfl) rfl (?_))))
      obtain ⟨v11, g12, h⟩ := ob_some h
      refine evd rfl rfl (ev_call (era rfl (erg (erc rfl (erc rfl rfl))) (era rfl (erg (erc rfl (erc rfl rfl))) eran)) (laws_eqRational_s g12) (evd rfl rfl (ev_un (c1 := .bool v11) rfl trivial (evdn ?_))))
      refine ls_keep [(0, .dat a0.length (a0.flatMap c163_)), (1, .dat a1.length (a1.flatMap c163_)), (5, .int .i64 y1), (26, .bool (!v11))] ⟨kr, kr, kr, kr, trivial⟩ rfl ?_
      rcases cond_some h with ⟨g13, h⟩ | ⟨g13, h⟩
      · refine ls_cT rfl g13 ?_
        refine ls_rs tbOk ?_
        refine evs (ev_ac rfl nofun rfl (evn ?_))
        refine ls_keep [(4, .bool false)] ⟨kr, trivial⟩ rfl ?_
        refine ls_ret ?_
        have q0 := (Option.some.inj h).symm
        have r0 := hr1
        rw [q0] at r0
        have hr := Option.some.inj r0
        rw [← hr]
        exact ⟨.inl rfl, rfl⟩
      · refine ls_cF rfl g13 ?_
        refine ls_skip ?_
        refine hK6 _ (ls_keep [(0, .dat a0.length (a0.flatMap c163_)), (1, .dat a1.length (a1.flatMap c163_)), (5, .int .i64 y1)] ⟨kr, kr, kr, trivial⟩ rfl ?_)
        refine ls_rgn tbOk ?_
        refine evs (ev_mv (c := .int .i64 y1) rfl rfl rfl (evs (ev_bin (c1 := .int .i64 y1) (c2 := .int .i64 1) rfl rfl rfl (evs (ev_as (c := .int .i64 (IntKind.i64.wrap (y1 + 1))) rfl rfl rfl (evn ?_))))))
        exact hN _ (IntKind.i64.wrap (y1 + 1)) h ⟨kr, kr, kr, trivial⟩
    · refine ls_cF rfl g5 ?_
      refine ls_exit ?_
      have q0 := (Option.some.inj h).symm
      have r0 := hr1
      rw [q0] at r0
      exact kXlaws_eqRationalS_B1 () r0 _ trivial
def laws_eqCertificate (a0 : (List Int) × (List (Int × Int)) × (List Int) × Int × Int) (a1 : (List Int) × (List (Int × Int)) × (List Int) × Int × Int) : Option (Bool) := obind (laws_eqIntS a0.1 a1.1) fun v2 => cond (!v2) (some false) (obind (laws_eqRationalS a0.2.1 a1.2.1) fun v6 => cond (!v6) (some false) (obind (laws_eqIntS a0.2.2.1 a1.2.2.1) fun v10 => cond (!v10) (some false) (cond (a0.2.2.2.1 != a1.2.2.2.1) (some false) (cond (a0.2.2.2.2 != a1.2.2.2.2) (some false) (some true)))))
theorem laws_eqCertificate_s {a0 : (List Int) × (List (Int × Int)) × (List Int) × Int × Int} {a1 : (List Int) × (List (Int × Int)) × (List Int) × Int × Int} {r : Bool} (h : laws_eqCertificate a0 a1 = some r) : SoundAt Try.prog 24 [.agg [.dat a0.1.length (a0.1.flatMap ci64), .dat a0.2.1.length (a0.2.1.flatMap c163_), .dat a0.2.2.1.length (a0.2.2.1.flatMap ci64), .int .i64 a0.2.2.2.1, .int .i64 a0.2.2.2.2], .agg [.dat a1.1.length (a1.1.flatMap ci64), .dat a1.2.1.length (a1.2.1.flatMap c163_), .dat a1.2.2.1.length (a1.2.2.1.flatMap ci64), .int .i64 a1.2.2.2.1, .int .i64 a1.2.2.2.2]] (.bool r) := by
  unfold laws_eqCertificate at h
  refine sound_lit tbOk lit24 (Nat.le_of_ble_eq_true rfl) rfl ?_
  unfold c24
  refine ls_keep [(0, .agg [.dat a0.1.length (a0.1.flatMap ci64), .dat a0.2.1.length (a0.2.1.flatMap c163_), .dat a0.2.2.1.length (a0.2.2.1.flatMap ci64), .int .i64 a0.2.2.2.1, .int .i64 a0.2.2.2.2]), (1, .agg [.dat a1.1.length (a1.1.flatMap ci64), .dat a1.2.1.length (a1.2.1.flatMap c163_), .dat a1.2.2.1.length (a1.2.2.1.flatMap ci64), .int .i64 a1.2.2.2.1, .int .i64 a1.2.2.2.2])] ⟨kr, kr, trivial⟩ rfl ?_
  refine ls_rs tbOk ?_
  refine evs (ev_bx (c1 := .agg [.dat a0.1.length (a0.1.flatMap ci64), .dat a0.2.1.length (a0.2.1.flatMap c163_), .dat a0.2.2.1.length (a0.2.2.1.flatMap ci64), .int .i64 a0.2.2.2.1, .int .i64 a0.2.2.2.2]) rfl rfl rfl (evs (ev_bx (c1 := .agg [.dat a1.1.length (a1.1.flatMap ci64), .dat a1.2.1.length (a1.2.1.flatMap c163_), .dat a1.2.2.1.length (a1.2.2.1.flatMap ci64), .int .i64 a1.2.2.2.1, .int .i64 a1.2.2.2.2]) rfl rfl rfl (evs (ev_ac rfl nofun rfl (evn ?_))))))
  refine ls_keep [(2, .box [.dat a0.1.length (a0.1.flatMap ci64), .dat a0.2.1.length (a0.2.1.flatMap c163_), .dat a0.2.2.1.length (a0.2.2.1.flatMap ci64), .int .i64 a0.2.2.2.1, .int .i64 a0.2.2.2.2]), (3, .box [.dat a1.1.length (a1.1.flatMap ci64), .dat a1.2.1.length (a1.2.1.flatMap c163_), .dat a1.2.2.1.length (a1.2.2.1.flatMap ci64), .int .i64 a1.2.2.2.1, .int .i64 a1.2.2.2.2])] ⟨kr, kr, trivial⟩ rfl ?_
  refine ls_seq_k fun K1 hK1 => ?_
  refine ls_rs tbOk ?_
  refine evs (ev_fa (c1 := .cref 2 0) (v := .cref 2 0) rfl rfl rfl ⟨_, rfl⟩ rfl (evs (ev_ldB (off := 0) (v := .dat a0.1.length (a0.1.flatMap ci64)) rfl rfl rfl rfl (Nat.le_of_ble_eq_true rfl) rfl (evs (ev_fa (c1 := .cref 3 0) (v := .cref 3 0) rfl rfl rfl ⟨_, rfl⟩ rfl (evs (ev_ldB (off := 0) (v := .dat a1.1.length (a1.1.flatMap ci64)) rfl rfl rfl rfl (Nat.le_of_ble_eq_true rfl) rfl (?_))))))))
  obtain ⟨v2, g3, h⟩ := ob_some h
  refine evs (ev_call (era rfl (erD eci64 _) (era rfl (erD eci64 _) eran)) (laws_eqIntS_s g3) (evs (ev_un (c1 := .bool v2) rfl trivial (evn ?_))))
  refine ls_keep [(2, .box [.dat a0.1.length (a0.1.flatMap ci64), .dat a0.2.1.length (a0.2.1.flatMap c163_), .dat a0.2.2.1.length (a0.2.2.1.flatMap ci64), .int .i64 a0.2.2.2.1, .int .i64 a0.2.2.2.2]), (3, .box [.dat a1.1.length (a1.1.flatMap ci64), .dat a1.2.1.length (a1.2.1.flatMap c163_), .dat a1.2.2.1.length (a1.2.2.1.flatMap ci64), .int .i64 a1.2.2.2.1, .int .i64 a1.2.2.2.2]), (10, .bool (!v2))] ⟨kr, kr, kr, trivial⟩ rfl ?_
  rcases cond_some h with ⟨g4, h⟩ | ⟨g4, h⟩
  · refine ls_cT rfl g4 ?_
    refine ls_rs tbOk ?_
    refine evs (ev_ac rfl nofun rfl (evn ?_))
    refine ls_keep [(4, .bool false)] ⟨kr, trivial⟩ rfl ?_
    refine ls_ret ?_
    have hr := Option.some.inj h
    rw [← hr]
    exact ⟨.inl rfl, rfl⟩
  · refine ls_cF rfl g4 ?_
    refine ls_skip ?_
    refine hK1 _ (ls_keep [(2, .box [.dat a0.1.length (a0.1.flatMap ci64), .dat a0.2.1.length (a0.2.1.flatMap c163_), .dat a0.2.2.1.length (a0.2.2.1.flatMap ci64), .int .i64 a0.2.2.2.1, .int .i64 a0.2.2.2.2]), (3, .box [.dat a1.1.length (a1.1.flatMap ci64), .dat a1.2.1.length (a1.2.1.flatMap c163_), .dat a1.2.2.1.length (a1.2.2.1.flatMap ci64), .int .i64 a1.2.2.2.1, .int .i64 a1.2.2.2.2])] ⟨kr, kr, trivial⟩ rfl ?_)
    refine ls_seq_k fun K5 hK5 => ?_
    refine ls_rs tbOk ?_
    refine evs (ev_fa (c1 := .cref 2 0) (v := .cref 2 1) rfl rfl rfl ⟨_, rfl⟩ rfl (evs (ev_ldB (off := 1) (v := .dat a0.2.1.length (a0.2.1.flatMap c163_)) rfl rfl rfl rfl (Nat.le_of_ble_eq_true rfl) rfl (evs (ev_fa (c1 := .cref 3 0) (v := .cref 3 1) rfl rfl rfl ⟨_, rfl⟩ rfl (evs (ev_ldB (off := 1) (v := .dat a1.2.1.length (a1.2.1.flatMap c163_)) rfl rfl rfl rfl (Nat.le_of_ble_eq_true rfl) rfl (?_))))))))
    obtain ⟨v6, g7, h⟩ := ob_some h
    refine evs (ev_call (era rfl (erD ec163_ _) (era rfl (erD ec163_ _) eran)) (laws_eqRationalS_s g7) (evs (ev_un (c1 := .bool v6) rfl trivial (evn ?_))))
    refine ls_keep [(2, .box [.dat a0.1.length (a0.1.flatMap ci64), .dat a0.2.1.length (a0.2.1.flatMap c163_), .dat a0.2.2.1.length (a0.2.2.1.flatMap ci64), .int .i64 a0.2.2.2.1, .int .i64 a0.2.2.2.2]), (3, .box [.dat a1.1.length (a1.1.flatMap ci64), .dat a1.2.1.length (a1.2.1.flatMap c163_), .dat a1.2.2.1.length (a1.2.2.1.flatMap ci64), .int .i64 a1.2.2.2.1, .int .i64 a1.2.2.2.2]), (16, .bool (!v6))] ⟨kr, kr, kr, trivial⟩ rfl ?_
    rcases cond_some h with ⟨g8, h⟩ | ⟨g8, h⟩
    · refine ls_cT rfl g8 ?_
      refine ls_rs tbOk ?_
      refine evs (ev_ac rfl nofun rfl (evn ?_))
      refine ls_keep [(4, .bool false)] ⟨kr, trivial⟩ rfl ?_
      refine ls_ret ?_
      have hr := Option.some.inj h
      rw [← hr]
      exact ⟨.inl rfl, rfl⟩
    · refine ls_cF rfl g8 ?_
      refine ls_skip ?_
      refine hK5 _ (ls_keep [(2, .box [.dat a0.1.length (a0.1.flatMap ci64), .dat a0.2.1.length (a0.2.1.flatMap c163_), .dat a0.2.2.1.length (a0.2.2.1.flatMap ci64), .int .i64 a0.2.2.2.1, .int .i64 a0.2.2.2.2]), (3, .box [.dat a1.1.length (a1.1.flatMap ci64), .dat a1.2.1.length (a1.2.1.flatMap c163_), .dat a1.2.2.1.length (a1.2.2.1.flatMap ci64), .int .i64 a1.2.2.2.1, .int .i64 a1.2.2.2.2])] ⟨kr, kr, trivial⟩ rfl ?_)
      refine ls_seq_k fun K9 hK9 => ?_
      refine ls_rs tbOk ?_
      refine evs (ev_fa (c1 := .cref 2 0) (v := .cref 2 2) rfl rfl rfl ⟨_, rfl⟩ rfl (evs (ev_ldB (off := 2) (v := .dat a0.2.2.1.length (a0.2.2.1.flatMap ci64)) rfl rfl rfl rfl (Nat.le_of_ble_eq_true rfl) rfl (evs (ev_fa (c1 := .cref 3 0) (v := .cref 3 2) rfl rfl rfl ⟨_, rfl⟩ rfl (evs (ev_ldB (off := 2) (v := .dat a1.2.2.1.length (a1.2.2.1.flatMap ci64)) rfl rfl rfl rfl (Nat.le_of_ble_eq_true rfl) rfl (?_))))))))
      obtain ⟨v10, g11, h⟩ := ob_some h
      refine evs (ev_call (era rfl (erD eci64 _) (era rfl (erD eci64 _) eran)) (laws_eqIntS_s g11) (evs (ev_un (c1 := .bool v10) rfl trivial (evn ?_))))
      refine ls_keep [(2, .box [.dat a0.1.length (a0.1.flatMap ci64), .dat a0.2.1.length (a0.2.1.flatMap c163_), .dat a0.2.2.1.length (a0.2.2.1.flatMap ci64), .int .i64 a0.2.2.2.1, .int .i64 a0.2.2.2.2]), (3, .box [.dat a1.1.length (a1.1.flatMap ci64), .dat a1.2.1.length (a1.2.1.flatMap c163_), .dat a1.2.2.1.length (a1.2.2.1.flatMap ci64), .int .i64 a1.2.2.2.1, .int .i64 a1.2.2.2.2]), (22, .bool (!v10))] ⟨kr, kr, kr, trivial⟩ rfl ?_
      rcases cond_some h with ⟨g12, h⟩ | ⟨g12, h⟩
      · refine ls_cT rfl g12 ?_
        refine ls_rs tbOk ?_
        refine evs (ev_ac rfl nofun rfl (evn ?_))
        refine ls_keep [(4, .bool false)] ⟨kr, trivial⟩ rfl ?_
        refine ls_ret ?_
        have hr := Option.some.inj h
        rw [← hr]
        exact ⟨.inl rfl, rfl⟩
      · refine ls_cF rfl g12 ?_
        refine ls_skip ?_
        refine hK9 _ (ls_keep [(2, .box [.dat a0.1.length (a0.1.flatMap ci64), .dat a0.2.1.length (a0.2.1.flatMap c163_), .dat a0.2.2.1.length (a0.2.2.1.flatMap ci64), .int .i64 a0.2.2.2.1, .int .i64 a0.2.2.2.2]), (3, .box [.dat a1.1.length (a1.1.flatMap ci64), .dat a1.2.1.length (a1.2.1.flatMap c163_), .dat a1.2.2.1.length (a1.2.2.1.flatMap ci64), .int .i64 a1.2.2.2.1, .int .i64 a1.2.2.2.2])] ⟨kr, kr, trivial⟩ rfl ?_)
        refine ls_seq_k fun K13 hK13 => ?_
        refine ls_rs tbOk ?_
        refine evs (ev_fa (c1 := .cref 2 0) (v := .cref 2 3) rfl rfl rfl ⟨_, rfl⟩ rfl (evs (ev_ldB (off := 3) (v := .int .i64 a0.2.2.2.1) rfl rfl rfl rfl (Nat.le_of_ble_eq_true rfl) rfl (evs (ev_fa (c1 := .cref 3 0) (v := .cref 3 3) rfl rfl rfl ⟨_, rfl⟩ rfl (evs (ev_ldB (off := 3) (v := .int .i64 a1.2.2.2.1) rfl rfl rfl rfl (Nat.le_of_ble_eq_true rfl) rfl (evs (ev_bin (c1 := .int .i64 a0.2.2.2.1) (c2 := .int .i64 a1.2.2.2.1) rfl rfl rfl (evn ?_))))))))))
        refine ls_keep [(2, .box [.dat a0.1.length (a0.1.flatMap ci64), .dat a0.2.1.length (a0.2.1.flatMap c163_), .dat a0.2.2.1.length (a0.2.2.1.flatMap ci64), .int .i64 a0.2.2.2.1, .int .i64 a0.2.2.2.2]), (3, .box [.dat a1.1.length (a1.1.flatMap ci64), .dat a1.2.1.length (a1.2.1.flatMap c163_), .dat a1.2.2.1.length (a1.2.2.1.flatMap ci64), .int .i64 a1.2.2.2.1, .int .i64 a1.2.2.2.2]), (27, .bool (a0.2.2.2.1 != a1.2.2.2.1))] ⟨kr, kr, kr, trivial⟩ rfl ?_
        rcases cond_some h with ⟨g14, h⟩ | ⟨g14, h⟩
        · refine ls_cT rfl g14 ?_
          refine ls_rs tbOk ?_
          refine evs (ev_ac rfl nofun rfl (evn ?_))
          refine ls_keep [(4, .bool false)] ⟨kr, trivial⟩ rfl ?_
          refine ls_ret ?_
          have hr := Option.some.inj h
          rw [← hr]
          exact ⟨.inl rfl, rfl⟩
        · refine ls_cF rfl g14 ?_
          refine ls_skip ?_
          refine hK13 _ (ls_keep [(2, .box [.dat a0.1.length (a0.1.flatMap ci64), .dat a0.2.1.length (a0.2.1.flatMap c163_), .dat a0.2.2.1.length (a0.2.2.1.flatMap ci64), .int .i64 a0.2.2.2.1, .int .i64 a0.2.2.2.2]), (3, .box [.dat a1.1.length (a1.1.flatMap ci64), .dat a1.2.1.length (a1.2.1.flatMap c163_), .dat a1.2.2.1.length (a1.2.2.1.flatMap ci64), .int .i64 a1.2.2.2.1, .int .i64 a1.2.2.2.2])] ⟨kr, kr, trivial⟩ rfl ?_)
          refine ls_seq_k fun K15 hK15 => ?_
          refine ls_rs tbOk ?_
          refine evs (ev_fa (c1 := .cref 2 0) (v := .cref 2 4) rfl rfl rfl ⟨_, rfl⟩ rfl (evs (ev_ldB (off := 4) (v := .int .i64 a0.2.2.2.2) rfl rfl rfl rfl (Nat.le_of_ble_eq_true rfl) rfl (evs (ev_fa (c1 := .cref 3 0) (v := .cref 3 4) rfl rfl rfl ⟨_, rfl⟩ rfl (evs (ev_ldB (off := 4) (v := .int .i64 a1.2.2.2.2) rfl rfl rfl rfl (Nat.le_of_ble_eq_true rfl) rfl (evs (ev_bin (c1 := .int .i64 a0.2.2.2.2) (c2 := .int .i64 a1.2.2.2.2) rfl rfl rfl (evn ?_))))))))))
          refine ls_keep [(32, .bool (a0.2.2.2.2 != a1.2.2.2.2))] ⟨kr, trivial⟩ rfl ?_
          rcases cond_some h with ⟨g16, h⟩ | ⟨g16, h⟩
          · refine ls_cT rfl g16 ?_
            refine ls_rs tbOk ?_
            refine evs (ev_ac rfl nofun rfl (evn ?_))
            refine ls_keep [(4, .bool false)] ⟨kr, trivial⟩ rfl ?_
            refine ls_ret ?_
            have hr := Option.some.inj h
            rw [← hr]
            exact ⟨.inl rfl, rfl⟩
          · refine ls_cF rfl g16 ?_
            refine ls_skip ?_
            refine hK15 _ (ls_keep [] trivial rfl ?_)
            refine ls_rs tbOk ?_
            refine evs (ev_ac rfl nofun rfl (evn ?_))
            refine ls_keep [(4, .bool true)] ⟨kr, trivial⟩ rfl ?_
            refine ls_ret ?_
            have hr := Option.some.inj h
            rw [← hr]
            exact ⟨.inl rfl, rfl⟩
def laws_FnExactFormatCertificate (a0 : (List Int) × (List (Int × Int)) × (List Int) × Int × Int) : Option (Bool) := obind (laws_szCertificate a0 1048576) fun v1 => cond (decide (v1 < 0)) (some true) (obind (laws_toCertificate a0) fun v5 => obind (spec_FormatCertificate v5) fun v7 => obind (laws_toCertificate a0) fun v9 => obind (impl_FormatCertificate v9) fun v11 => cond (!(v11 == v7)) (some false) (obind (laws_toCertificate a0) fun v16 => obind (laws_eqCertificate v9 v16) fun v18 => cond (!v18) (some false) (some true)))
theorem laws_FnExactFormatCertificate_s {a0 : (List Int) × (List (Int × Int)) × (List Int) × Int × Int} {r : Bool} (h : laws_FnExactFormatCertificate a0 = some r) : SoundAt Try.prog 4 [.agg [.dat a0.1.length (a0.1.flatMap ci64), .dat a0.2.1.length (a0.2.1.flatMap c165_), .dat a0.2.2.1.length (a0.2.2.1.flatMap ci64), .int .i64 a0.2.2.2.1, .int .i64 a0.2.2.2.2]] (.bool r) := by
  unfold laws_FnExactFormatCertificate at h
  refine sound_lit tbOk lit4 (Nat.le_of_ble_eq_true rfl) rfl ?_
  unfold c4
  refine ls_keep [(0, .agg [.dat a0.1.length (a0.1.flatMap ci64), .dat a0.2.1.length (a0.2.1.flatMap c165_), .dat a0.2.2.1.length (a0.2.2.1.flatMap ci64), .int .i64 a0.2.2.2.1, .int .i64 a0.2.2.2.2])] ⟨kr, trivial⟩ rfl ?_
  refine ls_rs tbOk ?_
  refine evs (ev_bx (c1 := .agg [.dat a0.1.length (a0.1.flatMap ci64), .dat a0.2.1.length (a0.2.1.flatMap c165_), .dat a0.2.2.1.length (a0.2.2.1.flatMap ci64), .int .i64 a0.2.2.2.1, .int .i64 a0.2.2.2.2]) rfl rfl rfl (evs (ev_ac rfl nofun rfl (evn ?_))))
  refine ls_keep [(1, .box [.dat a0.1.length (a0.1.flatMap ci64), .dat a0.2.1.length (a0.2.1.flatMap c165_), .dat a0.2.2.1.length (a0.2.2.1.flatMap ci64), .int .i64 a0.2.2.2.1, .int .i64 a0.2.2.2.2])] ⟨kr, trivial⟩ rfl ?_
  refine ls_rs tbOk ?_
  refine evs (ev_ac rfl nofun rfl (evn ?_))
  refine ls_keep [(1, .box [.dat a0.1.length (a0.1.flatMap ci64), .dat a0.2.1.length (a0.2.1.flatMap c165_), .dat a0.2.2.1.length (a0.2.2.1.flatMap ci64), .int .i64 a0.2.2.2.1, .int .i64 a0.2.2.2.2]), (3, .int .i64 1048576)] ⟨kr, kr, trivial⟩ rfl ?_
  refine ls_rs tbOk ?_
  refine evs (ev_ldB (off := 0) (v := .agg [.dat a0.1.length (a0.1.flatMap ci64), .dat a0.2.1.length (a0.2.1.flatMap c165_), .dat a0.2.2.1.length (a0.2.2.1.flatMap ci64), .int .i64 a0.2.2.2.1, .int .i64 a0.2.2.2.2]) rfl rfl rfl rfl (Nat.le_of_ble_eq_true rfl) rfl (evs (ev_mv (c := .int .i64 1048576) rfl rfl rfl (?_))))
  obtain ⟨v1, g2, h⟩ := ob_some h
  refine evs (ev_call (era rfl (erg (erc (erD eci64 _) (erc (erD ec165_ _) (erc (erD eci64 _) (erc rfl (erc rfl rfl)))))) (era rfl rfl eran)) (laws_szCertificate_s g2) (evs (ev_as (c := .int .i64 v1) rfl rfl rfl (evn ?_))))
  refine ls_keep [(1, .box [.dat a0.1.length (a0.1.flatMap ci64), .dat a0.2.1.length (a0.2.1.flatMap c165_), .dat a0.2.2.1.length (a0.2.2.1.flatMap ci64), .int .i64 a0.2.2.2.1, .int .i64 a0.2.2.2.2]), (3, .int .i64 v1)] ⟨kr, kr, trivial⟩ rfl ?_
  refine ls_seq_k fun K3 hK3 => ?_
  refine ls_rs tbOk ?_
  refine evs (ev_mv (c := .int .i64 v1) rfl rfl rfl (evs (ev_bin (c1 := .int .i64 v1) (c2 := .int .i64 0) rfl rfl rfl (evn ?_))))
  refine ls_keep [(1, .box [.dat a0.1.length (a0.1.flatMap ci64), .dat a0.2.1.length (a0.2.1.flatMap c165_), .dat a0.2.2.1.length (a0.2.2.1.flatMap ci64), .int .i64 a0.2.2.2.1, .int .i64 a0.2.2.2.2]), (11, .bool (decide (v1 < 0)))] ⟨kr, kr, trivial⟩ rfl ?_
  rcases cond_some h with ⟨g4, h⟩ | ⟨g4, h⟩
  · refine ls_cT rfl g4 ?_
    refine ls_rs tbOk ?_
    refine evs (ev_ac rfl nofun rfl (evn ?_))
    refine ls_keep [(2, .bool true)] ⟨kr, trivial⟩ rfl ?_
    refine ls_ret ?_
    have hr := Option.some.inj h
    rw [← hr]
    exact ⟨.inl rfl, rfl⟩
  · refine ls_cF rfl g4 ?_
    refine ls_skip ?_
    refine hK3 _ (ls_keep [(1, .box [.dat a0.1.length (a0.1.flatMap ci64), .dat a0.2.1.length (a0.2.1.flatMap c165_), .dat a0.2.2.1.length (a0.2.2.1.flatMap ci64), .int .i64 a0.2.2.2.1, .int .i64 a0.2.2.2.2])] ⟨kr, trivial⟩ rfl ?_)
    refine ls_rs tbOk ?_
    refine evs (ev_ldB (off := 0) (v := .agg [.dat a0.1.length (a0.1.flatMap ci64), .dat a0.2.1.length (a0.2.1.flatMap c165_), .dat a0.2.2.1.length (a0.2.2.1.flatMap ci64), .int .i64 a0.2.2.2.1, .int .i64 a0.2.2.2.2]) rfl rfl rfl rfl (Nat.le_of_ble_eq_true rfl) rfl (?_))
    obtain ⟨v5, g6, h⟩ := ob_some h
    refine evs (ev_call (era rfl (erg (erc (erD eci64 _) (erc (erD ec165_ _) (erc (erD eci64 _) (erc rfl (erc rfl rfl)))))) eran) (laws_toCertificate_s g6) (?_))
    obtain ⟨v7, g8, h⟩ := ob_some h
    refine evs (ev_call (era rfl (erg (erc (erO eci64 _) (erc (erO ec163_ _) (erc (erO eci64 _) (erc rfl (erc rfl rfl)))))) eran) (spec_FormatCertificate_s g8) (evs (ev_as (c := .str v7) rfl rfl rfl (evn ?_))))
    refine ls_keep [(1, .box [.dat a0.1.length (a0.1.flatMap ci64), .dat a0.2.1.length (a0.2.1.flatMap c165_), .dat a0.2.2.1.length (a0.2.2.1.flatMap ci64), .int .i64 a0.2.2.2.1, .int .i64 a0.2.2.2.2]), (4, .str v7)] ⟨kr, kr, trivial⟩ rfl ?_
    refine ls_rs tbOk ?_
    refine evs (ev_ldB (off := 0) (v := .agg [.dat a0.1.length (a0.1.flatMap ci64), .dat a0.2.1.length (a0.2.1.flatMap c165_), .dat a0.2.2.1.length (a0.2.2.1.flatMap ci64), .int .i64 a0.2.2.2.1, .int .i64 a0.2.2.2.2]) rfl rfl rfl rfl (Nat.le_of_ble_eq_true rfl) rfl (?_))
    obtain ⟨v9, g10, h⟩ := ob_some h
    refine evs (ev_call (era rfl (erg (erc (erD eci64 _) (erc (erD ec165_ _) (erc (erD eci64 _) (erc rfl (erc rfl rfl)))))) eran) (laws_toCertificate_s g10) (evs (ev_al rfl rfl (evs (ev_st (off := 0) (c1 := .agg [.own 3 v9.1.length (v9.1.flatMap ci64), .own 163 v9.2.1.length (v9.2.1.flatMap c163_), .own 3 v9.2.2.1.length (v9.2.2.1.flatMap ci64), .int .i64 v9.2.2.2.1, .int .i64 v9.2.2.2.2]) (cs' := [.own 3 v9.1.length (v9.1.flatMap ci64), .own 163 v9.2.1.length (v9.2.1.flatMap c163_), .own 3 v9.2.2.1.length (v9.2.2.1.flatMap ci64), .int .i64 v9.2.2.2.1, .int .i64 v9.2.2.2.2]) rfl rfl rfl rfl rfl rfl (Nat.le_of_ble_eq_true rfl) rfl (evn ?_))))))
    refine ls_keep [(1, .box [.dat a0.1.length (a0.1.flatMap ci64), .dat a0.2.1.length (a0.2.1.flatMap c165_), .dat a0.2.2.1.length (a0.2.2.1.flatMap ci64), .int .i64 a0.2.2.2.1, .int .i64 a0.2.2.2.2]), (4, .str v7), (5, .box [.own 3 v9.1.length (v9.1.flatMap ci64), .own 163 v9.2.1.length (v9.2.1.flatMap c163_), .own 3 v9.2.2.1.length (v9.2.2.1.flatMap ci64), .int .i64 v9.2.2.2.1, .int .i64 v9.2.2.2.2])] ⟨kr, kr, kr, trivial⟩ rfl ?_
    refine ls_rs tbOk ?_
    refine evs (ev_ldB (off := 0) (v := .agg [.dat v9.1.length (v9.1.flatMap ci64), .dat v9.2.1.length (v9.2.1.flatMap c163_), .dat v9.2.2.1.length (v9.2.2.1.flatMap ci64), .int .i64 v9.2.2.2.1, .int .i64 v9.2.2.2.2]) rfl rfl rfl rfl (Nat.le_of_ble_eq_true rfl) rfl (?_))
    obtain ⟨v11, g12, h⟩ := ob_some h
    refine evs (ev_call (era rfl (erg (erc (erD eci64 _) (erc (erD ec163_ _) (erc (erD eci64 _) (erc rfl (erc rfl rfl)))))) eran) (impl_FormatCertificate_s g12) (evs (ev_as (c := .str v11) rfl rfl rfl (evn ?_))))
    refine ls_keep [(1, .box [.dat a0.1.length (a0.1.flatMap ci64), .dat a0.2.1.length (a0.2.1.flatMap c165_), .dat a0.2.2.1.length (a0.2.2.1.flatMap ci64), .int .i64 a0.2.2.2.1, .int .i64 a0.2.2.2.2]), (4, .str v7), (5, .box [.own 3 v9.1.length (v9.1.flatMap ci64), .own 163 v9.2.1.length (v9.2.1.flatMap c163_), .own 3 v9.2.2.1.length (v9.2.2.1.flatMap ci64), .int .i64 v9.2.2.2.1, .int .i64 v9.2.2.2.2]), (6, .str v11)] ⟨kr, kr, kr, kr, trivial⟩ rfl ?_
    refine ls_seq_k fun K13 hK13 => ?_
    refine ls_rs tbOk ?_
    refine evs (ev_mv (c := .str v11) rfl rfl rfl (evs (ev_mv (c := .str v7) rfl rfl rfl (evs (ev_bin (c1 := .str v11) (c2 := .str v7) rfl rfl trivial (evn ?_))))))
    refine ls_keep [(1, .box [.dat a0.1.length (a0.1.flatMap ci64), .dat a0.2.1.length (a0.2.1.flatMap c165_), .dat a0.2.2.1.length (a0.2.2.1.flatMap ci64), .int .i64 a0.2.2.2.1, .int .i64 a0.2.2.2.2]), (5, .box [.own 3 v9.1.length (v9.1.flatMap ci64), .own 163 v9.2.1.length (v9.2.1.flatMap c163_), .own 3 v9.2.2.1.length (v9.2.2.1.flatMap ci64), .int .i64 v9.2.2.2.1, .int .i64 v9.2.2.2.2]), (21, .bool (!(v11 == v7)))] ⟨kr, kr, kr, trivial⟩ rfl ?_
    rcases cond_some h with ⟨g14, h⟩ | ⟨g14, h⟩
    · refine ls_cT rfl g14 ?_
      refine ls_rs tbOk ?_
      refine evs (ev_ac rfl nofun rfl (evn ?_))
      refine ls_keep [(2, .bool false)] ⟨kr, trivial⟩ rfl ?_
      refine ls_ret ?_
      have hr := Option.some.inj h
      rw [← hr]
      exact ⟨.inl rfl, rfl⟩
    · refine ls_cF rfl g14 ?_
      refine ls_skip ?_
      refine hK13 _ (ls_keep [(1, .box [.dat a0.1.length (a0.1.flatMap ci64), .dat a0.2.1.length (a0.2.1.flatMap c165_), .dat a0.2.2.1.length (a0.2.2.1.flatMap ci64), .int .i64 a0.2.2.2.1, .int .i64 a0.2.2.2.2]), (5, .box [.own 3 v9.1.length (v9.1.flatMap ci64), .own 163 v9.2.1.length (v9.2.1.flatMap c163_), .own 3 v9.2.2.1.length (v9.2.2.1.flatMap ci64), .int .i64 v9.2.2.2.1, .int .i64 v9.2.2.2.2])] ⟨kr, kr, trivial⟩ rfl ?_)
      refine ls_seq_k fun K15 hK15 => ?_
      refine ls_rd tbOk mixed (by kernel_rfl) ?_
      refine evd rfl rfl (ev_ldB (off := 0) (v := .agg [.dat v9.1.length (v9.1.flatMap ci64), .dat v9.2.1.length (v9.2.1.flatMap c163_), .dat v9.2.2.1.length (v9.2.2.1.flatMap ci64), .int .i64 v9.2.2.2.1, .int .i64 v9.2.2.2.2]) rfl rfl rfl rfl (Nat.le_of_ble_eq_true rfl) rfl (evd rfl rfl (ev_ldB (off := 0) (v := .agg [.dat a0.1.length (a0.1.flatMap ci64), .dat a0.2.1.length (a0.2.1.flatMap c165_), .dat a0.2.2.1.length (a0.2.2.1.flatMap ci64), .int .i64 a0.2.2.2.1, .int .i64 a0.2.2.2.2]) rfl rfl rfl rfl (Nat.le_of_ble_eq_true rfl) rfl (?_))))
      obtain ⟨v16, g17, h⟩ := ob_some h
      refine evd rfl rfl (ev_call (era rfl (erg (erc (erD eci64 _) (erc (erD ec165_ _) (erc (erD eci64 _) (erc rfl (erc rfl rfl)))))) eran) (laws_toCertificate_s g17) (?_))
      obtain ⟨v18, g19, h⟩ := ob_some h
      refine evd rfl rfl (ev_call (era rfl (erg (erc (erD eci64 _) (erc (erD ec163_ _) (erc (erD eci64 _) (erc rfl (erc rfl rfl)))))) (era rfl (erg (erc (erO eci64 _) (erc (erO ec163_ _) (erc (erO eci64 _) (erc rfl (erc rfl rfl)))))) eran)) (laws_eqCertificate_s g19) (evd rfl rfl (ev_un (c1 := .bool v18) rfl trivial (evdn ?_))))
      refine ls_keep [(26, .bool (!v18))] ⟨kr, trivial⟩ rfl ?_
      rcases cond_some h with ⟨g20, h⟩ | ⟨g20, h⟩
      · refine ls_cT rfl g20 ?_
        refine ls_rs tbOk ?_
        refine evs (ev_ac rfl nofun rfl (evn ?_))
        refine ls_keep [(2, .bool false)] ⟨kr, trivial⟩ rfl ?_
        refine ls_ret ?_
        have hr := Option.some.inj h
        rw [← hr]
        exact ⟨.inl rfl, rfl⟩
      · refine ls_cF rfl g20 ?_
        refine ls_skip ?_
        refine hK15 _ (ls_keep [] trivial rfl ?_)
        refine ls_rs tbOk ?_
        refine evs (ev_ac rfl nofun rfl (evn ?_))
        refine ls_keep [(2, .bool true)] ⟨kr, trivial⟩ rfl ?_
        refine ls_ret ?_
        have hr := Option.some.inj h
        rw [← hr]
        exact ⟨.inl rfl, rfl⟩
end Go.Proofs.Ytkmkbpphdalgoaa
