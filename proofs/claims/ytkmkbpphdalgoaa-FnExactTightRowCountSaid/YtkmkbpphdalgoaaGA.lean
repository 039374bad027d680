/-
  Functions of the program as typed functions, printed by gen.py, and that the program's functions do what they say. No conditions.
-/
import Derived.Test.YtkmkbpphdalgoaaGo
import Derived.Test.YtkmkbpphdalgoaaLit
namespace Go.Proofs.Ytkmkbpphdalgoaa
open Go.RowKit
set_option linter.unusedVariables false
set_option maxRecDepth 100000
set_option maxHeartbeats 1000000
def spec_l1In_J1 (x2 : Bool) : Option (Bool) := some x2
def spec_l1In (a0 : Int) (a1 : Int) (a2 : Int) : Option (Bool) := cond (decide (a1 ≤ a0)) (spec_l1In_J1 (decide (a0 ≤ a2))) (spec_l1In_J1 false)
theorem spec_l1In_s {a0 : Int} {a1 : Int} {a2 : Int} {r : Bool} (h : spec_l1In a0 a1 a2 = some r) : SoundAt Try.prog 80 [.int .i64 a0, .int .i64 a1, .int .i64 a2] (.bool r) := by
  unfold spec_l1In at h
  refine sound_lit tbOk lit80 (Nat.le_of_ble_eq_true rfl) rfl ?_
  unfold c80
  refine ls_keep [(0, .int .i64 a0), (1, .int .i64 a1), (2, .int .i64 a2)] ⟨kr, kr, kr, trivial⟩ rfl ?_
  refine ls_rs tbOk ?_
  refine evs (ev_ac rfl nofun rfl (evn ?_))
  refine ls_keep [(0, .int .i64 a0), (1, .int .i64 a1), (2, .int .i64 a2)] ⟨kr, kr, kr, trivial⟩ rfl ?_
  refine ls_rs_k tbOk fun K1 hK1 => ?_
  have kspec_l1In_J1 : ∀ (x2 : Bool), spec_l1In_J1 x2 = some r → ∀ σ' : PS, okK σ' [(6, .bool x2)] → K1 σ' := by
    intro x2 h σ' hk
    unfold spec_l1In_J1 at h
    refine hK1 _ (ls_keep [(6, .bool x2)] hk rfl ?_)
    refine ls_ret ?_
    have hr := Option.some.inj h
    rw [← hr]
    exact ⟨.inl rfl, rfl⟩
  refine evs (ev_mv (c := .int .i64 a0) rfl rfl rfl (evs (ev_mv (c := .int .i64 a1) rfl rfl rfl (evs (ev_bin (c1 := .int .i64 a0) (c2 := .int .i64 a1) rfl rfl rfl (evs (ev_mv (c := .bool (decide (a1 ≤ a0))) rfl rfl rfl (?_))))))))
  rcases cond_some h with ⟨g3, h⟩ | ⟨g3, h⟩
  · refine evs (ev_gr rfl (congrArg V.bool g3) (ev_mv (c := .int .i64 a0) rfl rfl rfl (evs (ev_gr rfl (congrArg V.bool g3) (ev_mv (c := .int .i64 a2) rfl rfl rfl (evs (ev_gr rfl (congrArg V.bool g3) (ev_bin (c1 := .int .i64 a0) (c2 := .int .i64 a2) rfl rfl rfl (evs (ev_pkT (c1 := .bool (decide (a0 ≤ a2))) rfl g3 rfl rfl (evs (ev_as (c := .bool (decide (a0 ≤ a2))) rfl rfl rfl (evn ?_)))))))))))))
    exact kspec_l1In_J1 (decide (a0 ≤ a2)) h _ ⟨kr, trivial⟩
  · refine evs (ev_gs rfl rfl (isb_F g3) (evs (ev_gs rfl rfl (isb_F g3) (evs (ev_gs rfl rfl (isb_F g3) (evs (ev_pkF (c1 := .bool false) rfl g3 rfl rfl (evs (ev_as (c := .bool false) rfl rfl rfl (evn ?_))))))))))
    exact kspec_l1In_J1 false h _ ⟨kr, trivial⟩
def spec_AreValidValues_B1 (a0 : List Int) (rec : Int → Option (Sum (Unit) (Bool))) (y1 : Int) : Option (Sum (Unit) (Bool)) := cond (decide (y1 < (List.length a0 : Int))) (obind (geti a0 y1) fun e5 => obind (spec_l1In e5 0 99) fun v7 => cond (!v7) (some (.inr false)) (rec (IntKind.i64.wrap (y1 + 1)))) (some (.inl ()))
def spec_AreValidValues (a0 : List Int) : Option (Bool) := obind (loopF (spec_AreValidValues_B1 a0) fz 0) fun o1 => (match o1 with
  | .inl _ => (some true)
  | .inr r => some r)
theorem spec_AreValidValues_s {a0 : List Int} {r : Bool} (h : spec_AreValidValues a0 = some r) : SoundAt Try.prog 116 [.dat a0.length (a0.flatMap ci64)] (.bool r) := by
  unfold spec_AreValidValues at h
  refine sound_lit tbOk lit116 (Nat.le_of_ble_eq_true rfl) rfl ?_
  unfold c116
  refine ls_keep [(0, .dat a0.length (a0.flatMap ci64))] ⟨kr, trivial⟩ rfl ?_
  refine ls_rs tbOk ?_
  refine evs (ev_ac rfl nofun rfl (evn ?_))
  refine ls_keep [(0, .dat a0.length (a0.flatMap ci64))] ⟨kr, trivial⟩ rfl ?_
  refine ls_seq_k fun K1 hK1 => ?_
  refine ls_rs tbOk ?_
  refine evs (ev_ac rfl nofun rfl (evn ?_))
  refine ls_keep [(0, .dat a0.length (a0.flatMap ci64)), (3, .int .i64 0)] ⟨kr, kr, trivial⟩ rfl ?_
  obtain ⟨o1, hl, hr1⟩ := ob_some h
  clear h
  have kXspec_AreValidValues_B1 : ∀ (_ : Unit), (some true) = some r → ∀ σ' : PS, okK σ' [] → K1 σ' := by
    intro _ h σ' hk
    refine hK1 _ (ls_keep [] hk rfl ?_)
    refine ls_rs tbOk ?_
    refine evs (ev_ac rfl nofun rfl (evn ?_))
    refine ls_keep [(2, .bool true)] ⟨kr, trivial⟩ rfl ?_
    refine ls_ret ?_
    have hr := Option.some.inj h
    rw [← hr]
    exact ⟨.inl rfl, rfl⟩
  refine ls_rec (fun (y1 : Int) => [(0, .dat a0.length (a0.flatMap ci64)), (3, .int .i64 y1)]) (spec_AreValidValues_B1 a0) fz 0 o1 hl ⟨kr, kr, trivial⟩ (fun _ => rfl) ?_
  rintro m y1 N h hN
  unfold spec_AreValidValues_B1 at h
  refine ls_seq_k fun K2 hK2 => ?_
  refine ls_rs tbOk ?_
  refine evs (ev_mv (c := .int .i64 y1) rfl rfl rfl (evs (ev_mv (c := .dat a0.length (a0.flatMap ci64)) rfl rfl rfl (evs (ev_len (c1 := .dat a0.length (a0.flatMap ci64)) rfl rfl rfl (evs (ev_bin (c1 := .int .i64 y1) (c2 := .int .i64 (List.length a0 : Int)) rfl rfl rfl (evn ?_))))))))
  refine ls_keep [(0, .dat a0.length (a0.flatMap ci64)), (3, .int .i64 y1), (7, .bool (decide (y1 < (List.length a0 : Int))))] ⟨kr, kr, kr, trivial⟩ rfl ?_
  rcases cond_some h with ⟨g3, h⟩ | ⟨g3, h⟩
  · refine ls_cT rfl g3 ?_
    refine ls_skip ?_
    refine hK2 _ (ls_keep [(0, .dat a0.length (a0.flatMap ci64)), (3, .int .i64 y1)] ⟨kr, kr, trivial⟩ rfl ?_)
    refine ls_seq_k fun K4 hK4 => ?_
    refine ls_blk ?_
    refine ls_rs tbOk ?_
    refine evs (ev_mv (c := .dat a0.length (a0.flatMap ci64)) rfl rfl rfl (evs (ev_mv (c := .int .i64 y1) rfl rfl rfl (?_))))
    obtain ⟨e5, g6, h⟩ := ob_some h
    refine evs (ev_ia rfl rfl rfl ⟨(geti_some g6).1, (geti_some g6).2.1⟩ (evs (ev_ldE (off := 0) (v := .int .i64 e5) rfl rfl zci64 g6 rfl (Nat.le_of_ble_eq_true rfl) rfl (?_))))
    obtain ⟨v7, g8, h⟩ := ob_some h
    refine evs (ev_call (era rfl rfl (era rfl rfl (era rfl rfl eran))) (spec_l1In_s g8) (evs (ev_un (c1 := .bool v7) rfl trivial (evn ?_))))
    refine ls_keep [(0, .dat a0.length (a0.flatMap ci64)), (3, .int .i64 y1), (15, .bool (!v7))] ⟨kr, kr, kr, trivial⟩ rfl ?_
    rcases cond_some h with ⟨g9, h⟩ | ⟨g9, h⟩
    · refine ls_cT rfl g9 ?_
      refine ls_rs tbOk ?_
      refine evs (ev_ac rfl nofun rfl (evn ?_))
      refine ls_keep [(2, .bool false)] ⟨kr, trivial⟩ rfl ?_
      refine ls_ret ?_
      have q0 := (Option.some.inj h).symm
      have r0 := hr1
      rw [q0] at r0
      have hr := Option.some.inj r0
      rw [← hr]
      exact ⟨.inl rfl, rfl⟩
    · refine ls_cF rfl g9 ?_
      refine ls_skip ?_
      refine hK4 _ (ls_keep [(0, .dat a0.length (a0.flatMap ci64)), (3, .int .i64 y1)] ⟨kr, kr, trivial⟩ rfl ?_)
      refine ls_rgn tbOk ?_
      refine evs (ev_mv (c := .int .i64 y1) rfl rfl rfl (evs (ev_bin (c1 := .int .i64 y1) (c2 := .int .i64 1) rfl rfl rfl (evs (ev_as (c := .int .i64 (IntKind.i64.wrap (y1 + 1))) rfl rfl rfl (evn ?_))))))
      exact hN _ (IntKind.i64.wrap (y1 + 1)) h ⟨kr, kr, trivial⟩
  · refine ls_cF rfl g3 ?_
    refine ls_exit ?_
    have q0 := (Option.some.inj h).symm
    have r0 := hr1
    rw [q0] at r0
    exact kXspec_AreValidValues_B1 () r0 _ trivial
def spec_CompareRows_B1 (a0 : List Int) (a1 : List Int) (rec : Int → Option (Sum (Unit) (Int))) (y1 : Int) : Option (Sum (Unit) (Int)) := cond (decide (y1 < (List.length a0 : Int))) (cond (decide (y1 < (List.length a1 : Int))) (obind (geti a0 y1) fun e7 => obind (geti a1 y1) fun e9 => cond (decide (e7 < e9)) (some (.inr (-1))) (obind (geti a0 y1) fun e12 => obind (geti a1 y1) fun e14 => cond (decide (e14 < e12)) (some (.inr 1)) (rec (IntKind.i64.wrap (y1 + 1))))) (some (.inl ()))) (some (.inl ()))
def spec_CompareRows (a0 : List Int) (a1 : List Int) : Option (Int) := obind (loopF (spec_CompareRows_B1 a0 a1) fz 0) fun o1 => (match o1 with
  | .inl _ => (cond (decide ((List.length a0 : Int) < (List.length a1 : Int))) (some (-1)) (cond (decide ((List.length a1 : Int) < (List.length a0 : Int))) (some 1) (some 0)))
  | .inr r => some r)
theorem spec_CompareRows_s {a0 : List Int} {a1 : List Int} {r : Int} (h : spec_CompareRows a0 a1 = some r) : SoundAt Try.prog 117 [.dat a0.length (a0.flatMap ci64), .dat a1.length (a1.flatMap ci64)] (.int .i64 r) := by
  unfold spec_CompareRows at h
  refine sound_lit tbOk lit117 (Nat.le_of_ble_eq_true rfl) rfl ?_
  unfold c117
  refine ls_keep [(0, .dat a0.length (a0.flatMap ci64)), (1, .dat a1.length (a1.flatMap ci64))] ⟨kr, kr, trivial⟩ rfl ?_
  refine ls_rs tbOk ?_
  refine evs (ev_ac rfl nofun rfl (evn ?_))
  refine ls_keep [(0, .dat a0.length (a0.flatMap ci64)), (1, .dat a1.length (a1.flatMap ci64))] ⟨kr, kr, trivial⟩ rfl ?_
  refine ls_seq_k fun K1 hK1 => ?_
  refine ls_rs tbOk ?_
  refine evs (ev_ac rfl nofun rfl (evn ?_))
  refine ls_keep [(0, .dat a0.length (a0.flatMap ci64)), (1, .dat a1.length (a1.flatMap ci64)), (5, .int .i64 0)] ⟨kr, kr, kr, trivial⟩ rfl ?_
  obtain ⟨o1, hl, hr1⟩ := ob_some h
  clear h
  have kXspec_CompareRows_B1 : ∀ (_ : Unit), (cond (decide ((List.length a0 : Int) < (List.length a1 : Int))) (some (-1)) (cond (decide ((List.length a1 : Int) < (List.length a0 : Int))) (some 1) (some 0))) = some r → ∀ σ' : PS, okK σ' [(0, .dat a0.length (a0.flatMap ci64)), (1, .dat a1.length (a1.flatMap ci64))] → K1 σ' := by
    intro _ h σ' hk
    refine hK1 _ (ls_keep [(0, .dat a0.length (a0.flatMap ci64)), (1, .dat a1.length (a1.flatMap ci64))] hk rfl ?_)
    refine ls_seq_k fun K17 hK17 => ?_
    refine ls_rs tbOk ?_
    refine evs (ev_mv (c := .dat a0.length (a0.flatMap ci64)) rfl rfl rfl (evs (ev_len (c1 := .dat a0.length (a0.flatMap ci64)) rfl rfl rfl (evs (ev_mv (c := .dat a1.length (a1.flatMap ci64)) rfl rfl rfl (evs (ev_len (c1 := .dat a1.length (a1.flatMap ci64)) rfl rfl rfl (evs (ev_bin (c1 := .int .i64 (List.length a0 : Int)) (c2 := .int .i64 (List.length a1 : Int)) rfl rfl rfl (evn ?_))))))))))
    refine ls_keep [(0, .dat a0.length (a0.flatMap ci64)), (1, .dat a1.length (a1.flatMap ci64)), (40, .bool (decide ((List.length a0 : Int) < (List.length a1 : Int))))] ⟨kr, kr, kr, trivial⟩ rfl ?_
    rcases cond_some h with ⟨g18, h⟩ | ⟨g18, h⟩
    · refine ls_cT rfl g18 ?_
      refine ls_rs tbOk ?_
      refine evs (ev_ac rfl nofun rfl (evn ?_))
      refine ls_keep [(4, .int .i64 (-1))] ⟨kr, trivial⟩ rfl ?_
      refine ls_ret ?_
      have hr := Option.some.inj h
      rw [← hr]
      exact ⟨.inl rfl, rfl⟩
    · refine ls_cF rfl g18 ?_
      refine ls_skip ?_
      refine hK17 _ (ls_keep [(0, .dat a0.length (a0.flatMap ci64)), (1, .dat a1.length (a1.flatMap ci64))] ⟨kr, kr, trivial⟩ rfl ?_)
      refine ls_seq_k fun K19 hK19 => ?_
      refine ls_rs tbOk ?_
      refine evs (ev_mv (c := .dat a0.length (a0.flatMap ci64)) rfl rfl rfl (evs (ev_len (c1 := .dat a0.length (a0.flatMap ci64)) rfl rfl rfl (evs (ev_mv (c := .dat a1.length (a1.flatMap ci64)) rfl rfl rfl (evs (ev_len (c1 := .dat a1.length (a1.flatMap ci64)) rfl rfl rfl (evs (ev_bin (c1 := .int .i64 (List.length a0 : Int)) (c2 := .int .i64 (List.length a1 : Int)) rfl rfl rfl (evn ?_))))))))))
      refine ls_keep [(45, .bool (decide ((List.length a1 : Int) < (List.length a0 : Int))))] ⟨kr, trivial⟩ rfl ?_
      rcases cond_some h with ⟨g20, h⟩ | ⟨g20, h⟩
      · refine ls_cT rfl g20 ?_
        refine ls_rs tbOk ?_
        refine evs (ev_ac rfl nofun rfl (evn ?_))
        refine ls_keep [(4, .int .i64 1)] ⟨kr, trivial⟩ rfl ?_
        refine ls_ret ?_
        have hr := Option.some.inj h
        rw [← hr]
        exact ⟨.inl rfl, rfl⟩
      · refine ls_cF rfl g20 ?_
        refine ls_skip ?_
        refine hK19 _ (ls_keep [] trivial rfl ?_)
        refine ls_rs tbOk ?_
        refine evs (ev_ac rfl nofun rfl (evn ?_))
        refine ls_keep [(4, .int .i64 0)] ⟨kr, trivial⟩ rfl ?_
        refine ls_ret ?_
        have hr := Option.some.inj h
        rw [← hr]
        exact ⟨.inl rfl, rfl⟩
  refine ls_rec (fun (y1 : Int) => [(0, .dat a0.length (a0.flatMap ci64)), (1, .dat a1.length (a1.flatMap ci64)), (5, .int .i64 y1)]) (spec_CompareRows_B1 a0 a1) fz 0 o1 hl ⟨kr, kr, kr, trivial⟩ (fun _ => rfl) ?_
  rintro m y1 N h hN
  unfold spec_CompareRows_B1 at h
  refine ls_seq_k fun K2 hK2 => ?_
  refine ls_rs tbOk ?_
  refine evs (ev_mv (c := .int .i64 y1) rfl rfl rfl (evs (ev_mv (c := .dat a0.length (a0.flatMap ci64)) rfl rfl rfl (evs (ev_len (c1 := .dat a0.length (a0.flatMap ci64)) rfl rfl rfl (evs (ev_bin (c1 := .int .i64 y1) (c2 := .int .i64 (List.length a0 : Int)) rfl rfl rfl (evs (ev_mv (c := .bool (decide (y1 < (List.length a0 : Int)))) rfl rfl rfl (?_))))))))))
  rcases cond_some h with ⟨g3, h⟩ | ⟨g3, h⟩
  · refine evs (ev_gr rfl (congrArg V.bool g3) (ev_mv (c := .int .i64 y1) rfl rfl rfl (evs (ev_gr rfl (congrArg V.bool g3) (ev_mv (c := .dat a1.length (a1.flatMap ci64)) rfl rfl rfl (evs (ev_gr rfl (congrArg V.bool g3) (ev_len (c1 := .dat a1.length (a1.flatMap ci64)) rfl rfl rfl (evs (ev_gr rfl (congrArg V.bool g3) (ev_bin (c1 := .int .i64 y1) (c2 := .int .i64 (List.length a1 : Int)) rfl rfl rfl (evs (ev_pkT (c1 := .bool (decide (y1 < (List.length a1 : Int)))) rfl g3 rfl rfl (evn ?_))))))))))))))
    refine ls_keep [(0, .dat a0.length (a0.flatMap ci64)), (1, .dat a1.length (a1.flatMap ci64)), (5, .int .i64 y1), (15, .bool (decide (y1 < (List.length a1 : Int))))] ⟨kr, kr, kr, kr, trivial⟩ rfl ?_
    rcases cond_some h with ⟨g4, h⟩ | ⟨g4, h⟩
    · refine ls_cT rfl g4 ?_
      refine ls_skip ?_
      refine hK2 _ (ls_keep [(0, .dat a0.length (a0.flatMap ci64)), (1, .dat a1.length (a1.flatMap ci64)), (5, .int .i64 y1)] ⟨kr, kr, kr, trivial⟩ rfl ?_)
      refine ls_seq_k fun K5 hK5 => ?_
      refine ls_blk ?_
      refine ls_seq_k fun K6 hK6 => ?_
      refine ls_rd tbOk mixed (by kernel_rfl) ?_
      refine evd rfl rfl (ev_mv (c := .dat a0.length (a0.flatMap ci64)) rfl rfl rfl (evd rfl rfl (ev_mv (c := .int .i64 y1) rfl rfl rfl (?_))))
      obtain ⟨e7, g8, h⟩ := ob_some h
      refine evd rfl rfl (ev_ia rfl rfl rfl ⟨(geti_some g8).1, (geti_some g8).2.1⟩ (evd rfl rfl (ev_ldE (off := 0) (v := .int .i64 e7) rfl rfl zci64 g8 rfl (Nat.le_of_ble_eq_true rfl) rfl (evd rfl rfl (ev_mv (c := .dat a1.length (a1.flatMap ci64)) rfl rfl rfl (evd rfl rfl (ev_mv (c := .int .i64 y1) rfl rfl rfl (?_))))))))
      obtain ⟨e9, g10, h⟩ := ob_some h
      refine evd rfl rfl (ev_ia rfl rfl rfl ⟨(geti_some g10).1, (geti_some g10).2.1⟩ (evd rfl rfl (ev_ldE (off := 0) (v := .int .i64 e9) rfl rfl zci64 g10 rfl (Nat.le_of_ble_eq_true rfl) rfl (evd rfl rfl (ev_bin (c1 := .int .i64 e7) (c2 := .int .i64 e9) rfl rfl rfl (evdn ?_))))))
      refine ls_keep [(0, .dat a0.length (a0.flatMap ci64)), (1, .dat a1.length (a1.flatMap ci64)), (5, .int .i64 y1), (26, .bool (decide (e7 < e9)))] ⟨kr, kr, kr, kr, trivial⟩ rfl ?_
      rcases cond_some h with ⟨g11, h⟩ | ⟨g11, h⟩
      · refine ls_cT rfl g11 ?_
        refine ls_rs tbOk ?_
        refine evs (ev_ac rfl nofun rfl (evn ?_))
        refine ls_keep [(4, .int .i64 (-1))] ⟨kr, trivial⟩ rfl ?_
        refine ls_ret ?_
        have q0 := (Option.some.inj h).symm
        have r0 := hr1
        rw [q0] at r0
        have hr := Option.some.inj r0
        rw [← hr]
        exact ⟨.inl rfl, rfl⟩
      · refine ls_cF rfl g11 ?_
        refine ls_skip ?_
        refine hK6 _ (ls_keep [(0, .dat a0.length (a0.flatMap ci64)), (1, .dat a1.length (a1.flatMap ci64)), (5, .int .i64 y1)] ⟨kr, kr, kr, trivial⟩ rfl ?_)
        refine ls_rd tbOk mixed (by kernel_rfl) ?_
        refine evd rfl rfl (ev_mv (c := .dat a0.length (a0.flatMap ci64)) rfl rfl rfl (evd rfl rfl (ev_mv (c := .int .i64 y1) rfl rfl rfl (?_))))
        obtain ⟨e12, g13, h⟩ := ob_some h
        refine evd rfl rfl (ev_ia rfl rfl rfl ⟨(geti_some g13).1, (geti_some g13).2.1⟩ (evd rfl rfl (ev_ldE (off := 0) (v := .int .i64 e12) rfl rfl zci64 g13 rfl (Nat.le_of_ble_eq_true rfl) rfl (evd rfl rfl (ev_mv (c := .dat a1.length (a1.flatMap ci64)) rfl rfl rfl (evd rfl rfl (ev_mv (c := .int .i64 y1) rfl rfl rfl (?_))))))))
        obtain ⟨e14, g15, h⟩ := ob_some h
        refine evd rfl rfl (ev_ia rfl rfl rfl ⟨(geti_some g15).1, (geti_some g15).2.1⟩ (evd rfl rfl (ev_ldE (off := 0) (v := .int .i64 e14) rfl rfl zci64 g15 rfl (Nat.le_of_ble_eq_true rfl) rfl (evd rfl rfl (ev_bin (c1 := .int .i64 e12) (c2 := .int .i64 e14) rfl rfl rfl (evdn ?_))))))
        refine ls_keep [(0, .dat a0.length (a0.flatMap ci64)), (1, .dat a1.length (a1.flatMap ci64)), (5, .int .i64 y1), (35, .bool (decide (e14 < e12)))] ⟨kr, kr, kr, kr, trivial⟩ rfl ?_
        rcases cond_some h with ⟨g16, h⟩ | ⟨g16, h⟩
        · refine ls_cT rfl g16 ?_
          refine ls_rs tbOk ?_
          refine evs (ev_ac rfl nofun rfl (evn ?_))
          refine ls_keep [(4, .int .i64 1)] ⟨kr, trivial⟩ rfl ?_
          refine ls_ret ?_
          have q0 := (Option.some.inj h).symm
          have r0 := hr1
          rw [q0] at r0
          have hr := Option.some.inj r0
          rw [← hr]
          exact ⟨.inl rfl, rfl⟩
        · refine ls_cF rfl g16 ?_
          refine ls_skip ?_
          refine hK5 _ (ls_keep [(0, .dat a0.length (a0.flatMap ci64)), (1, .dat a1.length (a1.flatMap ci64)), (5, .int .i64 y1)] ⟨kr, kr, kr, trivial⟩ rfl ?_)
          refine ls_rgn tbOk ?_
          refine evs (ev_mv (c := .int .i64 y1) rfl rfl rfl (evs (ev_bin (c1 := .int .i64 y1) (c2 := .int .i64 1) rfl rfl rfl (evs (ev_as (c := .int .i64 (IntKind.i64.wrap (y1 + 1))) rfl rfl rfl (evn ?_))))))
          exact hN _ (IntKind.i64.wrap (y1 + 1)) h ⟨kr, kr, kr, trivial⟩
    · refine ls_cF rfl g4 ?_
      refine ls_exit ?_
      have q0 := (Option.some.inj h).symm
      have r0 := hr1
      rw [q0] at r0
      exact kXspec_CompareRows_B1 () r0 _ ⟨kr, kr, trivial⟩
  · refine evs (ev_gs rfl rfl (isb_F g3) (evs (ev_gs rfl rfl (isb_F g3) (evs (ev_gs rfl rfl (isb_F g3) (evs (ev_gs rfl rfl (isb_F g3) (evs (ev_pkF (c1 := .bool false) rfl g3 rfl rfl (evn ?_))))))))))
    refine ls_keep [(0, .dat a0.length (a0.flatMap ci64)), (1, .dat a1.length (a1.flatMap ci64)), (5, .int .i64 y1), (15, .bool false)] ⟨kr, kr, kr, kr, trivial⟩ rfl ?_
    refine ls_cF rfl rfl ?_
    refine ls_exit ?_
    have q0 := (Option.some.inj h).symm
    have r0 := hr1
    rw [q0] at r0
    exact kXspec_CompareRows_B1 () r0 _ ⟨kr, kr, trivial⟩
def c30_d (x : List Int) : List V := [.dat x.length (x.flatMap ci64)]
theorem zc30_d (x : List Int) : (c30_d x).length = 1 := rfl
theorem ec30_d (x : List Int) : erL (c30_d x) = c30_d x := (erc (erD eci64 _) rfl)
def spec_IsValidRelation_J2 (rec : Int → Option (Sum (Unit) (Bool))) (y1 : Int) (x11 : Bool) : Option (Sum (Unit) (Bool)) := cond x11 (some (.inr false)) (rec (IntKind.i64.wrap (y1 + 1)))
def spec_IsValidRelation_B1 (a0 : Int × (List (List Int))) (rec : Int → Option (Sum (Unit) (Bool))) (y1 : Int) : Option (Sum (Unit) (Bool)) := cond (decide (y1 < (List.length a0.2 : Int))) (obind (geti a0.2 y1) fun e13 => cond ((List.length e13 : Int) != a0.1) (spec_IsValidRelation_J2 rec y1 true) (obind (geti a0.2 y1) fun e16 => obind (spec_AreValidValues e16) fun v18 => cond (!v18) (spec_IsValidRelation_J2 rec y1 true) (cond (decide (0 < y1)) (obind (geti a0.2 (IntKind.i64.wrap (y1 - 1))) fun e22 => obind (geti a0.2 y1) fun e24 => obind (spec_CompareRows e22 e24) fun v26 => spec_IsValidRelation_J2 rec y1 (decide (0 ≤ v26))) (spec_IsValidRelation_J2 rec y1 false)))) (some (.inl ()))
def spec_IsValidRelation (a0 : Int × (List (List Int))) : Option (Bool) := obind (spec_l1In a0.1 0 5) fun v2 => cond (!v2) (some false) (cond (decide (4000 < (List.length a0.2 : Int))) (some false) (obind (loopF (spec_IsValidRelation_B1 a0) fz 0) fun o1 => (match o1 with
  | .inl _ => (some true)
  | .inr r => some r)))
theorem spec_IsValidRelation_s {a0 : Int × (List (List Int))} {r : Bool} (h : spec_IsValidRelation a0 = some r) : SoundAt Try.prog 39 [.agg [.int .i64 a0.1, .dat a0.2.length (a0.2.flatMap c30_d)]] (.bool r) := by
  unfold spec_IsValidRelation at h
  refine sound_lit tbOk lit39 (Nat.le_of_ble_eq_true rfl) rfl ?_
  unfold c39
  refine ls_keep [(0, .agg [.int .i64 a0.1, .dat a0.2.length (a0.2.flatMap c30_d)])] ⟨kr, trivial⟩ rfl ?_
  refine ls_rs tbOk ?_
  refine evs (ev_bx (c1 := .agg [.int .i64 a0.1, .dat a0.2.length (a0.2.flatMap c30_d)]) rfl rfl rfl (evs (ev_ac rfl nofun rfl (evn ?_))))
  refine ls_keep [(1, .box [.int .i64 a0.1, .dat a0.2.length (a0.2.flatMap c30_d)])] ⟨kr, trivial⟩ rfl ?_
  refine ls_seq_k fun K1 hK1 => ?_
  refine ls_rs tbOk ?_
  refine evs (ev_fa (c1 := .cref 1 0) (v := .cref 1 0) rfl rfl rfl ⟨_, rfl⟩ rfl (evs (ev_ldB (off := 0) (v := .int .i64 a0.1) rfl rfl rfl rfl (Nat.le_of_ble_eq_true rfl) rfl (?_))))
  obtain ⟨v2, g3, h⟩ := ob_some h
  refine evs (ev_call (era rfl rfl (era rfl rfl (era rfl rfl eran))) (spec_l1In_s g3) (evs (ev_un (c1 := .bool v2) rfl trivial (evs (ev_mv (c := .bool (!v2)) rfl rfl rfl (?_))))))
  rcases cond_some h with ⟨g4, h⟩ | ⟨g4, h⟩
  · refine evs (ev_gs rfl rfl (isb_T g4) (evs (ev_gs rfl rfl (isb_T g4) (evs (ev_gs rfl rfl (isb_T g4) (evs (ev_gs rfl rfl (isb_T g4) (evs (ev_pkT (c1 := .bool true) rfl g4 rfl rfl (evn ?_))))))))))
    refine ls_keep [(1, .box [.int .i64 a0.1, .dat a0.2.length (a0.2.flatMap c30_d)]), (13, .bool true)] ⟨kr, kr, trivial⟩ rfl ?_
    refine ls_cT rfl rfl ?_
    refine ls_rs tbOk ?_
    refine evs (ev_ac rfl nofun rfl (evn ?_))
    refine ls_keep [(2, .bool false)] ⟨kr, trivial⟩ rfl ?_
    refine ls_ret ?_
    have hr := Option.some.inj h
    rw [← hr]
    exact ⟨.inl rfl, rfl⟩
  · refine evs (ev_gr rfl (congrArg V.bool g4) (ev_fa (c1 := .cref 1 0) (v := .cref 1 1) rfl rfl rfl ⟨_, rfl⟩ rfl (evs (ev_gr rfl (congrArg V.bool g4) (ev_ldB (off := 1) (v := .dat a0.2.length (a0.2.flatMap c30_d)) rfl rfl rfl rfl (Nat.le_of_ble_eq_true rfl) rfl (evs (ev_gr rfl (congrArg V.bool g4) (ev_len (c1 := .dat a0.2.length (a0.2.flatMap c30_d)) rfl rfl rfl (evs (ev_gr rfl (congrArg V.bool g4) (ev_bin (c1 := .int .i64 (List.length a0.2 : Int)) (c2 := .int .i64 4000) rfl rfl rfl (evs (ev_pkF (c1 := .bool (decide (4000 < (List.length a0.2 : Int)))) rfl g4 rfl rfl (evn ?_))))))))))))))
    refine ls_keep [(1, .box [.int .i64 a0.1, .dat a0.2.length (a0.2.flatMap c30_d)]), (13, .bool (decide (4000 < (List.length a0.2 : Int))))] ⟨kr, kr, trivial⟩ rfl ?_
    rcases cond_some h with ⟨g5, h⟩ | ⟨g5, h⟩
    · refine ls_cT rfl g5 ?_
      refine ls_rs tbOk ?_
      refine evs (ev_ac rfl nofun rfl (evn ?_))
      refine ls_keep [(2, .bool false)] ⟨kr, trivial⟩ rfl ?_
      refine ls_ret ?_
      have hr := Option.some.inj h
      rw [← hr]
      exact ⟨.inl rfl, rfl⟩
    · refine ls_cF rfl g5 ?_
      refine ls_skip ?_
      refine hK1 _ (ls_keep [(1, .box [.int .i64 a0.1, .dat a0.2.length (a0.2.flatMap c30_d)])] ⟨kr, trivial⟩ rfl ?_)
      refine ls_seq_k fun K6 hK6 => ?_
      refine ls_rs tbOk ?_
      refine evs (ev_ac rfl nofun rfl (evn ?_))
      refine ls_keep [(1, .box [.int .i64 a0.1, .dat a0.2.length (a0.2.flatMap c30_d)]), (3, .int .i64 0)] ⟨kr, kr, trivial⟩ rfl ?_
      obtain ⟨o1, hl, hr1⟩ := ob_some h
      clear h
      have kXspec_IsValidRelation_B1 : ∀ (_ : Unit), (some true) = some r → ∀ σ' : PS, okK σ' [] → K6 σ' := by
        intro _ h σ' hk
        refine hK6 _ (ls_keep [] hk rfl ?_)
        refine ls_rs tbOk ?_
        refine evs (ev_ac rfl nofun rfl (evn ?_))
        refine ls_keep [(2, .bool true)] ⟨kr, trivial⟩ rfl ?_
        refine ls_ret ?_
        have hr := Option.some.inj h
        rw [← hr]
        exact ⟨.inl rfl, rfl⟩
      refine ls_rec (fun (y1 : Int) => [(1, .box [.int .i64 a0.1, .dat a0.2.length (a0.2.flatMap c30_d)]), (3, .int .i64 y1)]) (spec_IsValidRelation_B1 a0) fz 0 o1 hl ⟨kr, kr, trivial⟩ (fun _ => rfl) ?_
      rintro m y1 N h hN
      unfold spec_IsValidRelation_B1 at h
      refine ls_seq_k fun K7 hK7 => ?_
      refine ls_rs tbOk ?_
      refine evs (ev_mv (c := .int .i64 y1) rfl rfl rfl (evs (ev_fa (c1 := .cref 1 0) (v := .cref 1 1) rfl rfl rfl ⟨_, rfl⟩ rfl (evs (ev_ldB (off := 1) (v := .dat a0.2.length (a0.2.flatMap c30_d)) rfl rfl rfl rfl (Nat.le_of_ble_eq_true rfl) rfl (evs (ev_len (c1 := .dat a0.2.length (a0.2.flatMap c30_d)) rfl rfl rfl (evs (ev_bin (c1 := .int .i64 y1) (c2 := .int .i64 (List.length a0.2 : Int)) rfl rfl rfl (evn ?_))))))))))
      refine ls_keep [(1, .box [.int .i64 a0.1, .dat a0.2.length (a0.2.flatMap c30_d)]), (3, .int .i64 y1), (18, .bool (decide (y1 < (List.length a0.2 : Int))))] ⟨kr, kr, kr, trivial⟩ rfl ?_
      rcases cond_some h with ⟨g8, h⟩ | ⟨g8, h⟩
      · refine ls_cT rfl g8 ?_
        refine ls_skip ?_
        refine hK7 _ (ls_keep [(1, .box [.int .i64 a0.1, .dat a0.2.length (a0.2.flatMap c30_d)]), (3, .int .i64 y1)] ⟨kr, kr, trivial⟩ rfl ?_)
        refine ls_seq_k fun K9 hK9 => ?_
        refine ls_blk ?_
        refine ls_rd_k tbOk mixed (by kernel_rfl) fun K10 hK10 => ?_
        have kspec_IsValidRelation_J2 : ∀ (x11 : Bool), spec_IsValidRelation_J2 (loopF (spec_IsValidRelation_B1 a0) m) y1 x11 = some o1 → ∀ σ' : PS, okK σ' [(1, .box [.int .i64 a0.1, .dat a0.2.length (a0.2.flatMap c30_d)]), (3, .int .i64 y1), (57, .bool x11)] → K10 σ' := by
          intro x11 h σ' hk
          unfold spec_IsValidRelation_J2 at h
          refine hK10 _ (ls_keep [(1, .box [.int .i64 a0.1, .dat a0.2.length (a0.2.flatMap c30_d)]), (3, .int .i64 y1), (57, .bool x11)] hk rfl ?_)
          rcases cond_some h with ⟨g12, h⟩ | ⟨g12, h⟩
          · refine ls_cT rfl g12 ?_
            refine ls_rs tbOk ?_
            refine evs (ev_ac rfl nofun rfl (evn ?_))
            refine ls_keep [(2, .bool false)] ⟨kr, trivial⟩ rfl ?_
            refine ls_ret ?_
            have q0 := (Option.some.inj h).symm
            have r0 := hr1
            rw [q0] at r0
            have hr := Option.some.inj r0
            rw [← hr]
            exact ⟨.inl rfl, rfl⟩
          · refine ls_cF rfl g12 ?_
            refine ls_skip ?_
            refine hK9 _ (ls_keep [(1, .box [.int .i64 a0.1, .dat a0.2.length (a0.2.flatMap c30_d)]), (3, .int .i64 y1)] ⟨kr, kr, trivial⟩ rfl ?_)
            refine ls_rgn tbOk ?_
            refine evs (ev_mv (c := .int .i64 y1) rfl rfl rfl (evs (ev_bin (c1 := .int .i64 y1) (c2 := .int .i64 1) rfl rfl rfl (evs (ev_as (c := .int .i64 (IntKind.i64.wrap (y1 + 1))) rfl rfl rfl (evn ?_))))))
            exact hN _ (IntKind.i64.wrap (y1 + 1)) h ⟨kr, kr, trivial⟩
        refine evd rfl rfl (ev_fa (c1 := .cref 1 0) (v := .cref 1 1) rfl rfl rfl ⟨_, rfl⟩ rfl (evd rfl rfl (ev_ldB (off := 1) (v := .dat a0.2.length (a0.2.flatMap c30_d)) rfl rfl rfl rfl (Nat.le_of_ble_eq_true rfl) rfl (evd rfl rfl (ev_mv (c := .int .i64 y1) rfl rfl rfl (?_))))))
        obtain ⟨e13, g14, h⟩ := ob_some h
        refine evd rfl rfl (ev_ia rfl rfl rfl ⟨(geti_some g14).1, (geti_some g14).2.1⟩ (evd rfl rfl (ev_ldE (off := 0) (v := .dat e13.length (e13.flatMap ci64)) rfl rfl zc30_d g14 rfl (Nat.le_of_ble_eq_true rfl) rfl (evd rfl rfl (ev_len (c1 := .dat e13.length (e13.flatMap ci64)) rfl rfl rfl (evd rfl rfl (ev_fa (c1 := .cref 1 0) (v := .cref 1 0) rfl rfl rfl ⟨_, rfl⟩ rfl (evd rfl rfl (ev_ldB (off := 0) (v := .int .i64 a0.1) rfl rfl rfl rfl (Nat.le_of_ble_eq_true rfl) rfl (evd rfl rfl (ev_bin (c1 := .int .i64 (List.length e13 : Int)) (c2 := .int .i64 a0.1) rfl rfl rfl (evd rfl rfl (ev_mv (c := .bool ((List.length e13 : Int) != a0.1)) rfl rfl rfl (?_))))))))))))))
        rcases cond_some h with ⟨g15, h⟩ | ⟨g15, h⟩
        · refine evd rfl rfl (ev_gs rfl rfl (isb_T g15) (evd rfl rfl (ev_gs rfl rfl (isb_T g15) (evd rfl rfl (ev_gs rfl rfl (isb_T g15) (evd rfl rfl (ev_gs rfl rfl (isb_T g15) (evd rfl rfl (ev_gs rfl rfl (isb_T g15) (evd rfl rfl (ev_gs rfl rfl (isb_T g15) (evd rfl rfl (ev_gs rfl rfl (isb_T g15) (evd rfl rfl (ev_pkT (c1 := .bool true) rfl g15 rfl rfl (evd rfl rfl (ev_mv (c := .bool true) rfl rfl rfl (evd rfl rfl (ev_gs rfl rfl rfl (evd rfl rfl (ev_gs rfl rfl rfl (evd rfl rfl (ev_gs rfl rfl rfl (evd rfl rfl (ev_gs rfl rfl rfl (evd rfl rfl (ev_gs rfl rfl rfl (evd rfl rfl (ev_gs rfl rfl rfl (evd rfl rfl (ev_gs rfl rfl rfl (evd rfl rfl (ev_gs rfl rfl rfl (evd rfl rfl (ev_gs rfl rfl rfl (evd rfl rfl (ev_gs rfl rfl rfl (evd rfl rfl (ev_gs rfl rfl rfl (evd rfl rfl (ev_gs rfl rfl rfl (evd rfl rfl (ev_gs rfl rfl rfl (evd rfl rfl (ev_gs rfl rfl rfl (evd rfl rfl (ev_gs rfl rfl rfl (evd rfl rfl (ev_gs rfl rfl rfl (evd rfl rfl (ev_gs rfl rfl rfl (evd rfl rfl (ev_pkT (c1 := .bool true) rfl rfl rfl rfl (evdn ?_))))))))))))))))))))))))))))))))))))))))))))))))))))))
          exact kspec_IsValidRelation_J2 true h _ ⟨kr, kr, kr, trivial⟩
        · refine evd rfl rfl (ev_gr rfl (congrArg V.bool g15) (ev_fa (c1 := .cref 1 0) (v := .cref 1 1) rfl rfl rfl ⟨_, rfl⟩ rfl (evd rfl rfl (ev_gr rfl (congrArg V.bool g15) (ev_ldB (off := 1) (v := .dat a0.2.length (a0.2.flatMap c30_d)) rfl rfl rfl rfl (Nat.le_of_ble_eq_true rfl) rfl (evd rfl rfl (ev_gr rfl (congrArg V.bool g15) (ev_mv (c := .int .i64 y1) rfl rfl rfl (?_)))))))))
          obtain ⟨e16, g17, h⟩ := ob_some h
          refine evd rfl rfl (ev_gr rfl (congrArg V.bool g15) (ev_ia rfl rfl rfl ⟨(geti_some g17).1, (geti_some g17).2.1⟩ (evd rfl rfl (ev_gr rfl (congrArg V.bool g15) (ev_ldE (off := 0) (v := .dat e16.length (e16.flatMap ci64)) rfl rfl zc30_d g17 rfl (Nat.le_of_ble_eq_true rfl) rfl (?_))))))
          obtain ⟨v18, g19, h⟩ := ob_some h
          refine evd rfl rfl (ev_gr rfl (congrArg V.bool g15) (ev_call (era rfl (erD eci64 _) eran) (spec_AreValidValues_s g19) (evd rfl rfl (ev_gr rfl (congrArg V.bool g15) (ev_un (c1 := .bool v18) rfl trivial (evd rfl rfl (ev_pkF (c1 := .bool (!v18)) rfl g15 rfl rfl (evd rfl rfl (ev_mv (c := .bool (!v18)) rfl rfl rfl (?_))))))))))
          rcases cond_some h with ⟨g20, h⟩ | ⟨g20, h⟩
          · refine evd rfl rfl (ev_gs rfl rfl (isb_T g20) (evd rfl rfl (ev_gs rfl rfl (isb_T g20) (evd rfl rfl (ev_gs rfl rfl (isb_T g20) (evd rfl rfl (ev_gs rfl rfl rfl (evd rfl rfl (ev_gs rfl rfl rfl (evd rfl rfl (ev_gs rfl rfl rfl (evd rfl rfl (ev_gs rfl rfl rfl (evd rfl rfl (ev_gs rfl rfl rfl (evd rfl rfl (ev_gs rfl rfl rfl (evd rfl rfl (ev_gs rfl rfl rfl (evd rfl rfl (ev_gs rfl rfl rfl (evd rfl rfl (ev_gs rfl rfl rfl (evd rfl rfl (ev_gs rfl rfl rfl (evd rfl rfl (ev_gs rfl rfl rfl (evd rfl rfl (ev_gs rfl rfl rfl (evd rfl rfl (ev_gs rfl rfl rfl (evd rfl rfl (ev_gs rfl rfl (isb_T g20) (evd rfl rfl (ev_pkT (c1 := .bool true) rfl g20 rfl rfl (evdn ?_))))))))))))))))))))))))))))))))))))
            exact kspec_IsValidRelation_J2 true h _ ⟨kr, kr, kr, trivial⟩
          · refine evd rfl rfl (ev_gr rfl (congrArg V.bool g20) (ev_mv (c := .int .i64 y1) rfl rfl rfl (evd rfl rfl (ev_gr rfl (congrArg V.bool g20) (ev_bin (c1 := .int .i64 y1) (c2 := .int .i64 0) rfl rfl rfl (evd rfl rfl (ev_gr rfl (congrArg V.bool g20) (ev_mv (c := .bool (decide (0 < y1))) rfl rfl rfl (?_)))))))))
            rcases cond_some h with ⟨g21, h⟩ | ⟨g21, h⟩
            · refine evd rfl rfl (ev_gr rfl (congrArg V.bool g21) (ev_fa (c1 := .cref 1 0) (v := .cref 1 1) rfl rfl rfl ⟨_, rfl⟩ rfl (evd rfl rfl (ev_gr rfl (congrArg V.bool g21) (ev_ldB (off := 1) (v := .dat a0.2.length (a0.2.flatMap c30_d)) rfl rfl rfl rfl (Nat.le_of_ble_eq_true rfl) rfl (evd rfl rfl (ev_gr rfl (congrArg V.bool g21) (ev_mv (c := .int .i64 y1) rfl rfl rfl (evd rfl rfl (ev_gr rfl (congrArg V.bool g21) (ev_bin (c1 := .int .i64 y1) (c2 := .int .i64 1) rfl rfl rfl (?_))))))))))))
              obtain ⟨e22, g23, h⟩ := ob_some h
              refine evd rfl rfl (ev_gr rfl (congrArg V.bool g21) (ev_ia rfl rfl rfl ⟨(geti_some g23).1, (geti_some g23).2.1⟩ (evd rfl rfl (ev_gr rfl (congrArg V.bool g21) (ev_ldE (off := 0) (v := .dat e22.length (e22.flatMap ci64)) rfl rfl zc30_d g23 rfl (Nat.le_of_ble_eq_true rfl) rfl (evd rfl rfl (ev_gr rfl (congrArg V.bool g21) (ev_fa (c1 := .cref 1 0) (v := .cref 1 1) rfl rfl rfl ⟨_, rfl⟩ rfl (evd rfl rfl (ev_gr rfl (congrArg V.bool g21) (ev_ldB (off := 1) (v := .dat a0.2.length (a0.2.flatMap c30_d)) rfl rfl rfl rfl (Nat.le_of_ble_eq_true rfl) rfl (evd rfl rfl (ev_gr rfl (congrArg V.bool g21) (ev_mv (c := .int .i64 y1) rfl rfl rfl (?_)))))))))))))))
              obtain ⟨e24, g25, h⟩ := ob_some h
              refine evd rfl rfl (ev_gr rfl (congrArg V.bool g21) (ev_ia rfl rfl rfl ⟨(geti_some g25).1, (geti_some g25).2.1⟩ (evd rfl rfl (ev_gr rfl (congrArg V.bool g21) (ev_ldE (off := 0) (v := .dat e24.length (e24.flatMap ci64)) rfl rfl zc30_d g25 rfl (Nat.le_of_ble_eq_true rfl) rfl (?_))))))
              obtain ⟨v26, g27, h⟩ := ob_some h
              refine evd rfl rfl (ev_gr rfl (congrArg V.bool g21) (ev_call (era rfl (erD eci64 _) (era rfl (erD eci64 _) eran)) (spec_CompareRows_s g27) (evd rfl rfl (ev_gr rfl (congrArg V.bool g21) (ev_bin (c1 := .int .i64 v26) (c2 := .int .i64 0) rfl rfl rfl (evd rfl rfl (ev_gr rfl (congrArg V.bool g20) (ev_pkT (c1 := .bool (decide (0 ≤ v26))) rfl g21 rfl rfl (evd rfl rfl (ev_pkF (c1 := .bool (decide (0 ≤ v26))) rfl g20 rfl rfl (evdn ?_)))))))))))
              exact kspec_IsValidRelation_J2 (decide (0 ≤ v26)) h _ ⟨kr, kr, kr, trivial⟩
            · refine evd rfl rfl (ev_gs rfl rfl (isb_F g21) (evd rfl rfl (ev_gs rfl rfl (isb_F g21) (evd rfl rfl (ev_gs rfl rfl (isb_F g21) (evd rfl rfl (ev_gs rfl rfl (isb_F g21) (evd rfl rfl (ev_gs rfl rfl (isb_F g21) (evd rfl rfl (ev_gs rfl rfl (isb_F g21) (evd rfl rfl (ev_gs rfl rfl (isb_F g21) (evd rfl rfl (ev_gs rfl rfl (isb_F g21) (evd rfl rfl (ev_gs rfl rfl (isb_F g21) (evd rfl rfl (ev_gs rfl rfl (isb_F g21) (evd rfl rfl (ev_gs rfl rfl (isb_F g21) (evd rfl rfl (ev_gs rfl rfl (isb_F g21) (evd rfl rfl (ev_gs rfl rfl (isb_F g21) (evd rfl rfl (ev_gr rfl (congrArg V.bool g20) (ev_pkF (c1 := .bool false) rfl g21 rfl rfl (evd rfl rfl (ev_pkF (c1 := .bool false) rfl g20 rfl rfl (evdn ?_)))))))))))))))))))))))))))))))
              exact kspec_IsValidRelation_J2 false h _ ⟨kr, kr, kr, trivial⟩
      · refine ls_cF rfl g8 ?_
        refine ls_exit ?_
        have q0 := (Option.some.inj h).symm
        have r0 := hr1
        rw [q0] at r0
        exact kXspec_IsValidRelation_B1 () r0 _ trivial
def spec_IsValidName_B1 (a0 : List UInt8) (rec : Int → Option (Sum (Unit) (Bool))) (y1 : Int) : Option (Sum (Unit) (Bool)) := cond (decide (y1 < (List.length a0 : Int))) (obind (geti a0 y1) fun b5 => cond (decide ((UInt8.toNat b5 : Int) < 97)) (some (.inr false)) (obind (geti a0 y1) fun b8 => cond (decide (122 < (UInt8.toNat b8 : Int))) (some (.inr false)) (rec (IntKind.i64.wrap (y1 + 1))))) (some (.inl ()))
def spec_IsValidName (a0 : List UInt8) : Option (Bool) := obind (loopF (spec_IsValidName_B1 a0) fz 0) fun o1 => (match o1 with
  | .inl _ => (obind (spec_l1In (List.length a0 : Int) 1 4) fun v11 => some v11)
  | .inr r => some r)
theorem spec_IsValidName_s {a0 : List UInt8} {r : Bool} (h : spec_IsValidName a0 = some r) : SoundAt Try.prog 158 [.str a0] (.bool r) := by
  unfold spec_IsValidName at h
  refine sound_lit tbOk lit158 (Nat.le_of_ble_eq_true rfl) rfl ?_
  unfold c158
  refine ls_keep [(0, .str a0)] ⟨kr, trivial⟩ rfl ?_
  refine ls_rs tbOk ?_
  refine evs (ev_ac rfl nofun rfl (evn ?_))
  refine ls_keep [(0, .str a0)] ⟨kr, trivial⟩ rfl ?_
  refine ls_seq_k fun K1 hK1 => ?_
  refine ls_rs tbOk ?_
  refine evs (ev_ac rfl nofun rfl (evn ?_))
  refine ls_keep [(0, .str a0), (3, .int .i64 0)] ⟨kr, kr, trivial⟩ rfl ?_
  obtain ⟨o1, hl, hr1⟩ := ob_some h
  clear h
  have kXspec_IsValidName_B1 : ∀ (_ : Unit), (obind (spec_l1In (List.length a0 : Int) 1 4) fun v11 => some v11) = some r → ∀ σ' : PS, okK σ' [(0, .str a0)] → K1 σ' := by
    intro _ h σ' hk
    refine hK1 _ (ls_keep [(0, .str a0)] hk rfl ?_)
    refine ls_rs tbOk ?_
    refine evs (ev_mv (c := .str a0) rfl rfl rfl (evs (ev_lens (z := []) rfl rfl (?_))))
    obtain ⟨v11, g12, h⟩ := ob_some h
    refine evs (ev_call (era rfl rfl (era rfl rfl (era rfl rfl eran))) (spec_l1In_s g12) (evs (ev_as (c := .bool v11) rfl rfl rfl (evn ?_))))
    refine ls_keep [(2, .bool v11)] ⟨kr, trivial⟩ rfl ?_
    refine ls_ret ?_
    have hr := Option.some.inj h
    rw [← hr]
    exact ⟨.inl rfl, rfl⟩
  refine ls_rec (fun (y1 : Int) => [(0, .str a0), (3, .int .i64 y1)]) (spec_IsValidName_B1 a0) fz 0 o1 hl ⟨kr, kr, trivial⟩ (fun _ => rfl) ?_
  rintro m y1 N h hN
  unfold spec_IsValidName_B1 at h
  refine ls_seq_k fun K2 hK2 => ?_
  refine ls_rs tbOk ?_
  refine evs (ev_mv (c := .int .i64 y1) rfl rfl rfl (evs (ev_mv (c := .str a0) rfl rfl rfl (evs (ev_lens (z := []) rfl rfl (evs (ev_bin (c1 := .int .i64 y1) (c2 := .int .i64 (List.length a0 : Int)) rfl rfl rfl (evn ?_))))))))
  refine ls_keep [(0, .str a0), (3, .int .i64 y1), (7, .bool (decide (y1 < (List.length a0 : Int))))] ⟨kr, kr, kr, trivial⟩ rfl ?_
  rcases cond_some h with ⟨g3, h⟩ | ⟨g3, h⟩
  · refine ls_cT rfl g3 ?_
    refine ls_skip ?_
    refine hK2 _ (ls_keep [(0, .str a0), (3, .int .i64 y1)] ⟨kr, kr, trivial⟩ rfl ?_)
    refine ls_seq_k fun K4 hK4 => ?_
    refine ls_blk ?_
    refine ls_rs tbOk ?_
    refine evs (ev_mv (c := .str a0) rfl rfl rfl (evs (ev_mv (c := .int .i64 y1) rfl rfl rfl (?_))))
    obtain ⟨b5, g6, h⟩ := ob_some h
    refine evs (ev_six rfl rfl rfl g6 (evs (ev_bin (c1 := .int .u8 (UInt8.toNat b5 : Int)) (c2 := .int .u8 97) rfl rfl rfl (evs (ev_mv (c := .bool (decide ((UInt8.toNat b5 : Int) < 97))) rfl rfl rfl (?_))))))
    rcases cond_some h with ⟨g7, h⟩ | ⟨g7, h⟩
    · refine evs (ev_gs rfl rfl (isb_T g7) (evs (ev_gs rfl rfl (isb_T g7) (evs (ev_gs rfl rfl (isb_T g7) (evs (ev_gs rfl rfl (isb_T g7) (evs (ev_pkT (c1 := .bool true) rfl g7 rfl rfl (evn ?_))))))))))
      refine ls_keep [(0, .str a0), (3, .int .i64 y1), (19, .bool true)] ⟨kr, kr, kr, trivial⟩ rfl ?_
      refine ls_cT rfl rfl ?_
      refine ls_rs tbOk ?_
      refine evs (ev_ac rfl nofun rfl (evn ?_))
      refine ls_keep [(2, .bool false)] ⟨kr, trivial⟩ rfl ?_
      refine ls_ret ?_
      have q0 := (Option.some.inj h).symm
      have r0 := hr1
      rw [q0] at r0
      have hr := Option.some.inj r0
      rw [← hr]
      exact ⟨.inl rfl, rfl⟩
    · refine evs (ev_gr rfl (congrArg V.bool g7) (ev_mv (c := .str a0) rfl rfl rfl (evs (ev_gr rfl (congrArg V.bool g7) (ev_mv (c := .int .i64 y1) rfl rfl rfl (?_))))))
      obtain ⟨b8, g9, h⟩ := ob_some h
      refine evs (ev_gr rfl (congrArg V.bool g7) (ev_six rfl rfl rfl g9 (evs (ev_gr rfl (congrArg V.bool g7) (ev_bin (c1 := .int .u8 (UInt8.toNat b8 : Int)) (c2 := .int .u8 122) rfl rfl rfl (evs (ev_pkF (c1 := .bool (decide (122 < (UInt8.toNat b8 : Int)))) rfl g7 rfl rfl (evn ?_))))))))
      refine ls_keep [(0, .str a0), (3, .int .i64 y1), (19, .bool (decide (122 < (UInt8.toNat b8 : Int))))] ⟨kr, kr, kr, trivial⟩ rfl ?_
      rcases cond_some h with ⟨g10, h⟩ | ⟨g10, h⟩
      · refine ls_cT rfl g10 ?_
        refine ls_rs tbOk ?_
        refine evs (ev_ac rfl nofun rfl (evn ?_))
        refine ls_keep [(2, .bool false)] ⟨kr, trivial⟩ rfl ?_
        refine ls_ret ?_
        have q0 := (Option.some.inj h).symm
        have r0 := hr1
        rw [q0] at r0
        have hr := Option.some.inj r0
        rw [← hr]
        exact ⟨.inl rfl, rfl⟩
      · refine ls_cF rfl g10 ?_
        refine ls_skip ?_
        refine hK4 _ (ls_keep [(0, .str a0), (3, .int .i64 y1)] ⟨kr, kr, trivial⟩ rfl ?_)
        refine ls_rgn tbOk ?_
        refine evs (ev_mv (c := .int .i64 y1) rfl rfl rfl (evs (ev_bin (c1 := .int .i64 y1) (c2 := .int .i64 1) rfl rfl rfl (evs (ev_as (c := .int .i64 (IntKind.i64.wrap (y1 + 1))) rfl rfl rfl (evn ?_))))))
        exact hN _ (IntKind.i64.wrap (y1 + 1)) h ⟨kr, kr, trivial⟩
  · refine ls_cF rfl g3 ?_
    refine ls_exit ?_
    have q0 := (Option.some.inj h).symm
    have r0 := hr1
    rw [q0] at r0
    exact kXspec_IsValidName_B1 () r0 _ ⟨kr, trivial⟩
def c157_dd (x : (List UInt8) × (Int × (List (List Int)))) : List V := [.str x.1, .int .i64 x.2.1, .dat x.2.2.length (x.2.2.flatMap c30_d)]
theorem zc157_dd (x : (List UInt8) × (Int × (List (List Int)))) : (c157_dd x).length = 3 := rfl
theorem ec157_dd (x : (List UInt8) × (Int × (List (List Int)))) : erL (c157_dd x) = c157_dd x := (erc rfl (erc rfl (erc (erD ec30_d _) rfl)))
def spec_IsValidDatabase_J2 (rec : Int → Option (Sum (Unit) (Bool))) (y1 : Int) (x8 : Bool) : Option (Sum (Unit) (Bool)) := cond x8 (some (.inr false)) (rec (IntKind.i64.wrap (y1 + 1)))
def spec_IsValidDatabase_B1 (a0 : (List ((List UInt8) × (Int × (List (List Int)))))) (rec : Int → Option (Sum (Unit) (Bool))) (y1 : Int) : Option (Sum (Unit) (Bool)) := cond (decide (y1 < (List.length a0 : Int))) (obind (geti a0 y1) fun e5 => obind (spec_IsValidName e5.1) fun v10 => cond (!v10) (spec_IsValidDatabase_J2 rec y1 true) (cond (decide (0 < y1)) (obind (geti a0 (IntKind.i64.wrap (y1 - 1))) fun e14 => cond (!Op.bytesLess e14.1 e5.1) (spec_IsValidDatabase_J2 rec y1 true) (obind (spec_IsValidRelation e5.2) fun v17 => cond (!v17) (spec_IsValidDatabase_J2 rec y1 true) (cond (decide (16 < (List.length e5.2.2 : Int))) (spec_IsValidDatabase_J2 rec y1 true) (spec_IsValidDatabase_J2 rec y1 (decide (e5.2.1 < 1)))))) (obind (spec_IsValidRelation e5.2) fun v21 => cond (!v21) (spec_IsValidDatabase_J2 rec y1 true) (cond (decide (16 < (List.length e5.2.2 : Int))) (spec_IsValidDatabase_J2 rec y1 true) (spec_IsValidDatabase_J2 rec y1 (decide (e5.2.1 < 1))))))) (some (.inl ()))
def spec_IsValidDatabase (a0 : (List ((List UInt8) × (Int × (List (List Int)))))) : Option (Bool) := obind (loopF (spec_IsValidDatabase_B1 a0) fz 0) fun o1 => (match o1 with
  | .inl _ => (some (decide ((List.length a0 : Int) ≤ 6)))
  | .inr r => some r)
theorem spec_IsValidDatabase_s {a0 : (List ((List UInt8) × (Int × (List (List Int)))))} {r : Bool} (h : spec_IsValidDatabase a0 = some r) : SoundAt Try.prog 120 [.agg [.dat a0.length (a0.flatMap c157_dd)]] (.bool r) := by
  unfold spec_IsValidDatabase at h
  refine sound_lit tbOk lit120 (Nat.le_of_ble_eq_true rfl) rfl ?_
  unfold c120
  refine ls_keep [(0, .agg [.dat a0.length (a0.flatMap c157_dd)])] ⟨kr, trivial⟩ rfl ?_
  refine ls_rs tbOk ?_
  refine evs (ev_bx (c1 := .agg [.dat a0.length (a0.flatMap c157_dd)]) rfl rfl rfl (evs (ev_ac rfl nofun rfl (evn ?_))))
  refine ls_keep [(1, .box [.dat a0.length (a0.flatMap c157_dd)])] ⟨kr, trivial⟩ rfl ?_
  refine ls_seq_k fun K1 hK1 => ?_
  refine ls_rs tbOk ?_
  refine evs (ev_ac rfl nofun rfl (evn ?_))
  refine ls_keep [(1, .box [.dat a0.length (a0.flatMap c157_dd)]), (3, .int .i64 0)] ⟨kr, kr, trivial⟩ rfl ?_
  obtain ⟨o1, hl, hr1⟩ := ob_some h
  clear h
  have kXspec_IsValidDatabase_B1 : ∀ (_ : Unit), (some (decide ((List.length a0 : Int) ≤ 6))) = some r → ∀ σ' : PS, okK σ' [(1, .box [.dat a0.length (a0.flatMap c157_dd)])] → K1 σ' := by
    intro _ h σ' hk
    refine hK1 _ (ls_keep [(1, .box [.dat a0.length (a0.flatMap c157_dd)])] hk rfl ?_)
    refine ls_rs tbOk ?_
    refine evs (ev_fa (c1 := .cref 1 0) (v := .cref 1 0) rfl rfl rfl ⟨_, rfl⟩ rfl (evs (ev_ldB (off := 0) (v := .dat a0.length (a0.flatMap c157_dd)) rfl rfl rfl rfl (Nat.le_of_ble_eq_true rfl) rfl (evs (ev_len (c1 := .dat a0.length (a0.flatMap c157_dd)) rfl rfl rfl (evs (ev_bin (c1 := .int .i64 (List.length a0 : Int)) (c2 := .int .i64 6) rfl rfl rfl (evs (ev_as (c := .bool (decide ((List.length a0 : Int) ≤ 6))) rfl rfl rfl (evn ?_))))))))))
    refine ls_keep [(2, .bool (decide ((List.length a0 : Int) ≤ 6)))] ⟨kr, trivial⟩ rfl ?_
    refine ls_ret ?_
    have hr := Option.some.inj h
    rw [← hr]
    exact ⟨.inl rfl, rfl⟩
  refine ls_rec (fun (y1 : Int) => [(1, .box [.dat a0.length (a0.flatMap c157_dd)]), (3, .int .i64 y1)]) (spec_IsValidDatabase_B1 a0) fz 0 o1 hl ⟨kr, kr, trivial⟩ (fun _ => rfl) ?_
  rintro m y1 N h hN
  unfold spec_IsValidDatabase_B1 at h
  refine ls_seq_k fun K2 hK2 => ?_
  refine ls_rs tbOk ?_
  refine evs (ev_mv (c := .int .i64 y1) rfl rfl rfl (evs (ev_fa (c1 := .cref 1 0) (v := .cref 1 0) rfl rfl rfl ⟨_, rfl⟩ rfl (evs (ev_ldB (off := 0) (v := .dat a0.length (a0.flatMap c157_dd)) rfl rfl rfl rfl (Nat.le_of_ble_eq_true rfl) rfl (evs (ev_len (c1 := .dat a0.length (a0.flatMap c157_dd)) rfl rfl rfl (evs (ev_bin (c1 := .int .i64 y1) (c2 := .int .i64 (List.length a0 : Int)) rfl rfl rfl (evn ?_))))))))))
  refine ls_keep [(1, .box [.dat a0.length (a0.flatMap c157_dd)]), (3, .int .i64 y1), (9, .bool (decide (y1 < (List.length a0 : Int))))] ⟨kr, kr, kr, trivial⟩ rfl ?_
  rcases cond_some h with ⟨g3, h⟩ | ⟨g3, h⟩
  · refine ls_cT rfl g3 ?_
    refine ls_skip ?_
    refine hK2 _ (ls_keep [(1, .box [.dat a0.length (a0.flatMap c157_dd)]), (3, .int .i64 y1)] ⟨kr, kr, trivial⟩ rfl ?_)
    refine ls_seq_k fun K4 hK4 => ?_
    refine ls_blk ?_
    refine ls_rs tbOk ?_
    refine evs (ev_fa (c1 := .cref 1 0) (v := .cref 1 0) rfl rfl rfl ⟨_, rfl⟩ rfl (evs (ev_ldB (off := 0) (v := .dat a0.length (a0.flatMap c157_dd)) rfl rfl rfl rfl (Nat.le_of_ble_eq_true rfl) rfl (evs (ev_mv (c := .int .i64 y1) rfl rfl rfl (?_))))))
    obtain ⟨e5, g6, h⟩ := ob_some h
    refine evs (ev_ia rfl rfl rfl ⟨(geti_some g6).1, (geti_some g6).2.1⟩ (evs (ev_ldEt (off := 0) (v := .agg [.str e5.1, .int .i64 e5.2.1, .dat e5.2.2.length (e5.2.2.flatMap c30_d)]) rfl rfl zc157_dd g6 rfl (Nat.le_of_ble_eq_true rfl) rfl (evs (ev_al rfl rfl (evs (ev_st (off := 0) (c1 := .agg [.str e5.1, .int .i64 e5.2.1, .dat e5.2.2.length (e5.2.2.flatMap c30_d)]) (cs' := [.str e5.1, .int .i64 e5.2.1, .dat e5.2.2.length (e5.2.2.flatMap c30_d)]) rfl rfl rfl rfl rfl rfl (Nat.le_of_ble_eq_true rfl) rfl (evn ?_))))))))
    refine ls_keep [(1, .box [.dat a0.length (a0.flatMap c157_dd)]), (3, .int .i64 y1), (4, .box [.str e5.1, .int .i64 e5.2.1, .dat e5.2.2.length (e5.2.2.flatMap c30_d)])] ⟨kr, kr, kr, trivial⟩ rfl ?_
    refine ls_rd_k tbOk mixed (by kernel_rfl) fun K7 hK7 => ?_
    have kspec_IsValidDatabase_J2 : ∀ (x8 : Bool), spec_IsValidDatabase_J2 (loopF (spec_IsValidDatabase_B1 a0) m) y1 x8 = some o1 → ∀ σ' : PS, okK σ' [(1, .box [.dat a0.length (a0.flatMap c157_dd)]), (3, .int .i64 y1), (55, .bool x8)] → K7 σ' := by
      intro x8 h σ' hk
      unfold spec_IsValidDatabase_J2 at h
      refine hK7 _ (ls_keep [(1, .box [.dat a0.length (a0.flatMap c157_dd)]), (3, .int .i64 y1), (55, .bool x8)] hk rfl ?_)
      rcases cond_some h with ⟨g9, h⟩ | ⟨g9, h⟩
      · refine ls_cT rfl g9 ?_
        refine ls_rs tbOk ?_
        refine evs (ev_ac rfl nofun rfl (evn ?_))
        refine ls_keep [(2, .bool false)] ⟨kr, trivial⟩ rfl ?_
        refine ls_ret ?_
        have q0 := (Option.some.inj h).symm
        have r0 := hr1
        rw [q0] at r0
        have hr := Option.some.inj r0
        rw [← hr]
        exact ⟨.inl rfl, rfl⟩
      · refine ls_cF rfl g9 ?_
        refine ls_skip ?_
        refine hK4 _ (ls_keep [(1, .box [.dat a0.length (a0.flatMap c157_dd)]), (3, .int .i64 y1)] ⟨kr, kr, trivial⟩ rfl ?_)
        refine ls_rgn tbOk ?_
        refine evs (ev_mv (c := .int .i64 y1) rfl rfl rfl (evs (ev_bin (c1 := .int .i64 y1) (c2 := .int .i64 1) rfl rfl rfl (evs (ev_as (c := .int .i64 (IntKind.i64.wrap (y1 + 1))) rfl rfl rfl (evn ?_))))))
        exact hN _ (IntKind.i64.wrap (y1 + 1)) h ⟨kr, kr, trivial⟩
    refine evd rfl rfl (ev_fa (c1 := .cref 4 0) (v := .cref 4 0) rfl rfl rfl ⟨_, rfl⟩ rfl (evd rfl rfl (ev_ldB (off := 0) (v := .str e5.1) rfl rfl rfl rfl (Nat.le_of_ble_eq_true rfl) rfl (?_))))
    obtain ⟨v10, g11, h⟩ := ob_some h
    refine evd rfl rfl (ev_call (era rfl rfl eran) (spec_IsValidName_s g11) (evd rfl rfl (ev_un (c1 := .bool v10) rfl trivial (evd rfl rfl (ev_mv (c := .bool (!v10)) rfl rfl rfl (?_))))))
    rcases cond_some h with ⟨g12, h⟩ | ⟨g12, h⟩
    · refine evd rfl rfl (ev_gs rfl rfl (isb_T g12) (evd rfl rfl (ev_gs rfl rfl (isb_T g12) (evd rfl rfl (ev_gs rfl rfl (isb_T g12) (evd rfl rfl (ev_gs rfl rfl rfl (evd rfl rfl (ev_gs rfl rfl rfl (evd rfl rfl (ev_gs rfl rfl rfl (evd rfl rfl (ev_gs rfl rfl rfl (evd rfl rfl (ev_gs rfl rfl rfl (evd rfl rfl (ev_gs rfl rfl rfl (evd rfl rfl (ev_gs rfl rfl rfl (evd rfl rfl (ev_gs rfl rfl rfl (evd rfl rfl (ev_gs rfl rfl rfl (evd rfl rfl (ev_gs rfl rfl rfl (evd rfl rfl (ev_gs rfl rfl (isb_T g12) (evd rfl rfl (ev_pkT (c1 := .bool true) rfl g12 rfl rfl (evd rfl rfl (ev_mv (c := .bool true) rfl rfl rfl (evd rfl rfl (ev_gs rfl rfl rfl (evd rfl rfl (ev_gs rfl rfl rfl (evd rfl rfl (ev_gs rfl rfl rfl (evd rfl rfl (ev_gs rfl rfl rfl (evd rfl rfl (ev_pkT (c1 := .bool true) rfl rfl rfl rfl (evd rfl rfl (ev_mv (c := .bool true) rfl rfl rfl (evd rfl rfl (ev_gs rfl rfl rfl (evd rfl rfl (ev_gs rfl rfl rfl (evd rfl rfl (ev_gs rfl rfl rfl (evd rfl rfl (ev_gs rfl rfl rfl (evd rfl rfl (ev_gs rfl rfl rfl (evd rfl rfl (ev_pkT (c1 := .bool true) rfl rfl rfl rfl (evd rfl rfl (ev_mv (c := .bool true) rfl rfl rfl (evd rfl rfl (ev_gs rfl rfl rfl (evd rfl rfl (ev_gs rfl rfl rfl (evd rfl rfl (ev_gs rfl rfl rfl (evd rfl rfl (ev_gs rfl rfl rfl (evd rfl rfl (ev_pkT (c1 := .bool true) rfl rfl rfl rfl (evdn ?_))))))))))))))))))))))))))))))))))))))))))))))))))))))))))))))))))))
      exact kspec_IsValidDatabase_J2 true h _ ⟨kr, kr, kr, trivial⟩
    · refine evd rfl rfl (ev_gr rfl (congrArg V.bool g12) (ev_mv (c := .int .i64 y1) rfl rfl rfl (evd rfl rfl (ev_gr rfl (congrArg V.bool g12) (ev_bin (c1 := .int .i64 y1) (c2 := .int .i64 0) rfl rfl rfl (evd rfl rfl (ev_gr rfl (congrArg V.bool g12) (ev_mv (c := .bool (decide (0 < y1))) rfl rfl rfl (?_)))))))))
      rcases cond_some h with ⟨g13, h⟩ | ⟨g13, h⟩
      · refine evd rfl rfl (ev_gr rfl (congrArg V.bool g13) (ev_fa (c1 := .cref 1 0) (v := .cref 1 0) rfl rfl rfl ⟨_, rfl⟩ rfl (evd rfl rfl (ev_gr rfl (congrArg V.bool g13) (ev_ldB (off := 0) (v := .dat a0.length (a0.flatMap c157_dd)) rfl rfl rfl rfl (Nat.le_of_ble_eq_true rfl) rfl (evd rfl rfl (ev_gr rfl (congrArg V.bool g13) (ev_mv (c := .int .i64 y1) rfl rfl rfl (evd rfl rfl (ev_gr rfl (congrArg V.bool g13) (ev_bin (c1 := .int .i64 y1) (c2 := .int .i64 1) rfl rfl rfl (?_))))))))))))
        obtain ⟨e14, g15, h⟩ := ob_some h
        refine evd rfl rfl (ev_gr rfl (congrArg V.bool g13) (ev_ia rfl rfl rfl ⟨(geti_some g15).1, (geti_some g15).2.1⟩ (evd rfl rfl (ev_gr rfl (congrArg V.bool g13) (ev_fa (c1 := .adr (a0.flatMap c157_dd) (Int.toNat (IntKind.i64.wrap (y1 - 1)) * 3)) (v := .adr (a0.flatMap c157_dd) (Int.toNat (IntKind.i64.wrap (y1 - 1)) * 3)) rfl rfl rfl trivial rfl (evd rfl rfl (ev_gr rfl (congrArg V.bool g13) (ev_ldE (off := 0) (v := .str e14.1) rfl rfl zc157_dd g15 rfl (Nat.le_of_ble_eq_true rfl) rfl (evd rfl rfl (ev_gr rfl (congrArg V.bool g13) (ev_fa (c1 := .cref 4 0) (v := .cref 4 0) rfl rfl rfl ⟨_, rfl⟩ rfl (evd rfl rfl (ev_gr rfl (congrArg V.bool g13) (ev_ldB (off := 0) (v := .str e5.1) rfl rfl rfl rfl (Nat.le_of_ble_eq_true rfl) rfl (evd rfl rfl (ev_gr rfl (congrArg V.bool g13) (ev_bin (c1 := .str e14.1) (c2 := .str e5.1) rfl rfl trivial (evd rfl rfl (ev_gr rfl (congrArg V.bool g12) (ev_pkT (c1 := .bool (!Op.bytesLess e14.1 e5.1)) rfl g13 rfl rfl (evd rfl rfl (ev_pkF (c1 := .bool (!Op.bytesLess e14.1 e5.1)) rfl g12 rfl rfl (evd rfl rfl (ev_mv (c := .bool (!Op.bytesLess e14.1 e5.1)) rfl rfl rfl (?_)))))))))))))))))))))))))
        rcases cond_some h with ⟨g16, h⟩ | ⟨g16, h⟩
        · refine evd rfl rfl (ev_gs rfl rfl (isb_T g16) (evd rfl rfl (ev_gs rfl rfl (isb_T g16) (evd rfl rfl (ev_gs rfl rfl (isb_T g16) (evd rfl rfl (ev_gs rfl rfl (isb_T g16) (evd rfl rfl (ev_pkT (c1 := .bool true) rfl g16 rfl rfl (evd rfl rfl (ev_mv (c := .bool true) rfl rfl rfl (evd rfl rfl (ev_gs rfl rfl rfl (evd rfl rfl (ev_gs rfl rfl rfl (evd rfl rfl (ev_gs rfl rfl rfl (evd rfl rfl (ev_gs rfl rfl rfl (evd rfl rfl (ev_gs rfl rfl rfl (evd rfl rfl (ev_pkT (c1 := .bool true) rfl rfl rfl rfl (evd rfl rfl (ev_mv (c := .bool true) rfl rfl rfl (evd rfl rfl (ev_gs rfl rfl rfl (evd rfl rfl (ev_gs rfl rfl rfl (evd rfl rfl (ev_gs rfl rfl rfl (evd rfl rfl (ev_gs rfl rfl rfl (evd rfl rfl (ev_pkT (c1 := .bool true) rfl rfl rfl rfl (evdn ?_))))))))))))))))))))))))))))))))))))
          exact kspec_IsValidDatabase_J2 true h _ ⟨kr, kr, kr, trivial⟩
        · refine evd rfl rfl (ev_gr rfl (congrArg V.bool g16) (ev_fa (c1 := .cref 4 0) (v := .cref 4 1) rfl rfl rfl ⟨_, rfl⟩ rfl (evd rfl rfl (ev_gr rfl (congrArg V.bool g16) (ev_ldB (off := 1) (v := .agg [.int .i64 e5.2.1, .dat e5.2.2.length (e5.2.2.flatMap c30_d)]) rfl rfl rfl rfl (Nat.le_of_ble_eq_true rfl) rfl (?_))))))
          obtain ⟨v17, g18, h⟩ := ob_some h
          refine evd rfl rfl (ev_gr rfl (congrArg V.bool g16) (ev_call (era rfl (erg (erc rfl (erc (erD ec30_d _) rfl))) eran) (spec_IsValidRelation_s g18) (evd rfl rfl (ev_gr rfl (congrArg V.bool g16) (ev_un (c1 := .bool v17) rfl trivial (evd rfl rfl (ev_pkF (c1 := .bool (!v17)) rfl g16 rfl rfl (evd rfl rfl (ev_mv (c := .bool (!v17)) rfl rfl rfl (?_))))))))))
          rcases cond_some h with ⟨g19, h⟩ | ⟨g19, h⟩
          · refine evd rfl rfl (ev_gs rfl rfl (isb_T g19) (evd rfl rfl (ev_gs rfl rfl (isb_T g19) (evd rfl rfl (ev_gs rfl rfl (isb_T g19) (evd rfl rfl (ev_gs rfl rfl (isb_T g19) (evd rfl rfl (ev_gs rfl rfl (isb_T g19) (evd rfl rfl (ev_pkT (c1 := .bool true) rfl g19 rfl rfl (evd rfl rfl (ev_mv (c := .bool true) rfl rfl rfl (evd rfl rfl (ev_gs rfl rfl rfl (evd rfl rfl (ev_gs rfl rfl rfl (evd rfl rfl (ev_gs rfl rfl rfl (evd rfl rfl (ev_gs rfl rfl rfl (evd rfl rfl (ev_pkT (c1 := .bool true) rfl rfl rfl rfl (evdn ?_))))))))))))))))))))))))
            exact kspec_IsValidDatabase_J2 true h _ ⟨kr, kr, kr, trivial⟩
          · refine evd rfl rfl (ev_gr rfl (congrArg V.bool g19) (ev_fa (c1 := .cref 4 0) (v := .cref 4 1) rfl rfl rfl ⟨_, rfl⟩ rfl (evd rfl rfl (ev_gr rfl (congrArg V.bool g19) (ev_fa (c1 := .cref 4 1) (v := .cref 4 2) rfl rfl rfl ⟨_, rfl⟩ rfl (evd rfl rfl (ev_gr rfl (congrArg V.bool g19) (ev_ldB (off := 2) (v := .dat e5.2.2.length (e5.2.2.flatMap c30_d)) rfl rfl rfl rfl (Nat.le_of_ble_eq_true rfl) rfl (evd rfl rfl (ev_gr rfl (congrArg V.bool g19) (ev_len (c1 := .dat e5.2.2.length (e5.2.2.flatMap c30_d)) rfl rfl rfl (evd rfl rfl (ev_gr rfl (congrArg V.bool g19) (ev_bin (c1 := .int .i64 (List.length e5.2.2 : Int)) (c2 := .int .i64 16) rfl rfl rfl (evd rfl rfl (ev_pkF (c1 := .bool (decide (16 < (List.length e5.2.2 : Int)))) rfl g19 rfl rfl (evd rfl rfl (ev_mv (c := .bool (decide (16 < (List.length e5.2.2 : Int)))) rfl rfl rfl (?_)))))))))))))))))))
            rcases cond_some h with ⟨g20, h⟩ | ⟨g20, h⟩
            · refine evd rfl rfl (ev_gs rfl rfl (isb_T g20) (evd rfl rfl (ev_gs rfl rfl (isb_T g20) (evd rfl rfl (ev_gs rfl rfl (isb_T g20) (evd rfl rfl (ev_gs rfl rfl (isb_T g20) (evd rfl rfl (ev_pkT (c1 := .bool true) rfl g20 rfl rfl (evdn ?_))))))))))
              exact kspec_IsValidDatabase_J2 true h _ ⟨kr, kr, kr, trivial⟩
            · refine evd rfl rfl (ev_gr rfl (congrArg V.bool g20) (ev_fa (c1 := .cref 4 0) (v := .cref 4 1) rfl rfl rfl ⟨_, rfl⟩ rfl (evd rfl rfl (ev_gr rfl (congrArg V.bool g20) (ev_fa (c1 := .cref 4 1) (v := .cref 4 1) rfl rfl rfl ⟨_, rfl⟩ rfl (evd rfl rfl (ev_gr rfl (congrArg V.bool g20) (ev_ldB (off := 1) (v := .int .i64 e5.2.1) rfl rfl rfl rfl (Nat.le_of_ble_eq_true rfl) rfl (evd rfl rfl (ev_gr rfl (congrArg V.bool g20) (ev_bin (c1 := .int .i64 e5.2.1) (c2 := .int .i64 1) rfl rfl rfl (evd rfl rfl (ev_pkF (c1 := .bool (decide (e5.2.1 < 1))) rfl g20 rfl rfl (evdn ?_))))))))))))))
              exact kspec_IsValidDatabase_J2 (decide (e5.2.1 < 1)) h _ ⟨kr, kr, kr, trivial⟩
      · refine evd rfl rfl (ev_gs rfl rfl (isb_F g13) (evd rfl rfl (ev_gs rfl rfl (isb_F g13) (evd rfl rfl (ev_gs rfl rfl (isb_F g13) (evd rfl rfl (ev_gs rfl rfl (isb_F g13) (evd rfl rfl (ev_gs rfl rfl (isb_F g13) (evd rfl rfl (ev_gs rfl rfl (isb_F g13) (evd rfl rfl (ev_gs rfl rfl (isb_F g13) (evd rfl rfl (ev_gs rfl rfl (isb_F g13) (evd rfl rfl (ev_gs rfl rfl (isb_F g13) (evd rfl rfl (ev_gs rfl rfl (isb_F g13) (evd rfl rfl (ev_gr rfl (congrArg V.bool g12) (ev_pkF (c1 := .bool false) rfl g13 rfl rfl (evd rfl rfl (ev_pkF (c1 := .bool false) rfl g12 rfl rfl (evd rfl rfl (ev_mv (c := .bool false) rfl rfl rfl (evd rfl rfl (ev_gr rfl rfl (ev_fa (c1 := .cref 4 0) (v := .cref 4 1) rfl rfl rfl ⟨_, rfl⟩ rfl (evd rfl rfl (ev_gr rfl rfl (ev_ldB (off := 1) (v := .agg [.int .i64 e5.2.1, .dat e5.2.2.length (e5.2.2.flatMap c30_d)]) rfl rfl rfl rfl (Nat.le_of_ble_eq_true rfl) rfl (?_)))))))))))))))))))))))))))))))))
        obtain ⟨v21, g22, h⟩ := ob_some h
        refine evd rfl rfl (ev_gr rfl rfl (ev_call (era rfl (erg (erc rfl (erc (erD ec30_d _) rfl))) eran) (spec_IsValidRelation_s g22) (evd rfl rfl (ev_gr rfl rfl (ev_un (c1 := .bool v21) rfl trivial (evd rfl rfl (ev_pkF (c1 := .bool (!v21)) rfl rfl rfl rfl (evd rfl rfl (ev_mv (c := .bool (!v21)) rfl rfl rfl (?_))))))))))
        rcases cond_some h with ⟨g23, h⟩ | ⟨g23, h⟩
        · refine evd rfl rfl (ev_gs rfl rfl (isb_T g23) (evd rfl rfl (ev_gs rfl rfl (isb_T g23) (evd rfl rfl (ev_gs rfl rfl (isb_T g23) (evd rfl rfl (ev_gs rfl rfl (isb_T g23) (evd rfl rfl (ev_gs rfl rfl (isb_T g23) (evd rfl rfl (ev_pkT (c1 := .bool true) rfl g23 rfl rfl (evd rfl rfl (ev_mv (c := .bool true) rfl rfl rfl (evd rfl rfl (ev_gs rfl rfl rfl (evd rfl rfl (ev_gs rfl rfl rfl (evd rfl rfl (ev_gs rfl rfl rfl (evd rfl rfl (ev_gs rfl rfl rfl (evd rfl rfl (ev_pkT (c1 := .bool true) rfl rfl rfl rfl (evdn ?_))))))))))))))))))))))))
          exact kspec_IsValidDatabase_J2 true h _ ⟨kr, kr, kr, trivial⟩
        · refine evd rfl rfl (ev_gr rfl (congrArg V.bool g23) (ev_fa (c1 := .cref 4 0) (v := .cref 4 1) rfl rfl rfl ⟨_, rfl⟩ rfl (evd rfl rfl (ev_gr rfl (congrArg V.bool g23) (ev_fa (c1 := .cref 4 1) (v := .cref 4 2) rfl rfl rfl ⟨_, rfl⟩ rfl (evd rfl rfl (ev_gr rfl (congrArg V.bool g23) (ev_ldB (off := 2) (v := .dat e5.2.2.length (e5.2.2.flatMap c30_d)) rfl rfl rfl rfl (Nat.le_of_ble_eq_true rfl) rfl (evd rfl rfl (ev_gr rfl (congrArg V.bool g23) (ev_len (c1 := .dat e5.2.2.length (e5.2.2.flatMap c30_d)) rfl rfl rfl (evd rfl rfl (ev_gr rfl (congrArg V.bool g23) (ev_bin (c1 := .int .i64 (List.length e5.2.2 : Int)) (c2 := .int .i64 16) rfl rfl rfl (evd rfl rfl (ev_pkF (c1 := .bool (decide (16 < (List.length e5.2.2 : Int)))) rfl g23 rfl rfl (evd rfl rfl (ev_mv (c := .bool (decide (16 < (List.length e5.2.2 : Int)))) rfl rfl rfl (?_)))))))))))))))))))
          rcases cond_some h with ⟨g24, h⟩ | ⟨g24, h⟩
          · refine evd rfl rfl (ev_gs rfl rfl (isb_T g24) (evd rfl rfl (ev_gs rfl rfl (isb_T g24) (evd rfl rfl (ev_gs rfl rfl (isb_T g24) (evd rfl rfl (ev_gs rfl rfl (isb_T g24) (evd rfl rfl (ev_pkT (c1 := .bool true) rfl g24 rfl rfl (evdn ?_))))))))))
            exact kspec_IsValidDatabase_J2 true h _ ⟨kr, kr, kr, trivial⟩
          · refine evd rfl rfl (ev_gr rfl (congrArg V.bool g24) (ev_fa (c1 := .cref 4 0) (v := .cref 4 1) rfl rfl rfl ⟨_, rfl⟩ rfl (evd rfl rfl (ev_gr rfl (congrArg V.bool g24) (ev_fa (c1 := .cref 4 1) (v := .cref 4 1) rfl rfl rfl ⟨_, rfl⟩ rfl (evd rfl rfl (ev_gr rfl (congrArg V.bool g24) (ev_ldB (off := 1) (v := .int .i64 e5.2.1) rfl rfl rfl rfl (Nat.le_of_ble_eq_true rfl) rfl (evd rfl rfl (ev_gr rfl (congrArg V.bool g24) (ev_bin (c1 := .int .i64 e5.2.1) (c2 := .int .i64 1) rfl rfl rfl (evd rfl rfl (ev_pkF (c1 := .bool (decide (e5.2.1 < 1))) rfl g24 rfl rfl (evdn ?_))))))))))))))
            exact kspec_IsValidDatabase_J2 (decide (e5.2.1 < 1)) h _ ⟨kr, kr, kr, trivial⟩
  · refine ls_cF rfl g3 ?_
    refine ls_exit ?_
    have q0 := (Option.some.inj h).symm
    have r0 := hr1
    rw [q0] at r0
    exact kXspec_IsValidDatabase_B1 () r0 _ ⟨kr, trivial⟩
def c100_ddd (x : (List ((List UInt8) × (Int × (List (List Int)))))) : List V := [.dat x.length (x.flatMap c157_dd)]
theorem zc100_ddd (x : (List ((List UInt8) × (Int × (List (List Int)))))) : (c100_ddd x).length = 1 := rfl
theorem ec100_ddd (x : (List ((List UInt8) × (Int × (List (List Int)))))) : erL (c100_ddd x) = c100_ddd x := (erc (erD ec157_dd _) rfl)
def spec_IsValidHistory_B1 (a0 : Int × (List ((List ((List UInt8) × (Int × (List (List Int)))))))) (rec : Int → Option (Sum (Unit) (Bool))) (y1 : Int) : Option (Sum (Unit) (Bool)) := cond (decide (y1 < (List.length a0.2 : Int))) (obind (geti a0.2 y1) fun e5 => obind (spec_IsValidDatabase e5) fun v7 => cond (!v7) (some (.inr false)) (rec (IntKind.i64.wrap (y1 + 1)))) (some (.inl ()))
def spec_IsValidHistory_J2 (x11 : Bool) : Option (Bool) := some x11
def spec_IsValidHistory (a0 : Int × (List ((List ((List UInt8) × (Int × (List (List Int)))))))) : Option (Bool) := obind (loopF (spec_IsValidHistory_B1 a0) fz 0) fun o1 => (match o1 with
  | .inl _ => (obind (spec_l1In (List.length a0.2 : Int) 1 6) fun v12 => cond v12 (obind (spec_l1In a0.1 1 (IntKind.i64.wrap ((IntKind.i64.wrap (99 - (List.length a0.2 : Int))) + 1))) fun v15 => spec_IsValidHistory_J2 v15) (spec_IsValidHistory_J2 false))
  | .inr r => some r)
theorem spec_IsValidHistory_s {a0 : Int × (List ((List ((List UInt8) × (Int × (List (List Int)))))))} {r : Bool} (h : spec_IsValidHistory a0 = some r) : SoundAt Try.prog 46 [.agg [.int .i64 a0.1, .dat a0.2.length (a0.2.flatMap c100_ddd)]] (.bool r) := by
  unfold spec_IsValidHistory at h
  refine sound_lit tbOk lit46 (Nat.le_of_ble_eq_true rfl) rfl ?_
  unfold c46
  refine ls_keep [(0, .agg [.int .i64 a0.1, .dat a0.2.length (a0.2.flatMap c100_ddd)])] ⟨kr, trivial⟩ rfl ?_
  refine ls_rs tbOk ?_
  refine evs (ev_bx (c1 := .agg [.int .i64 a0.1, .dat a0.2.length (a0.2.flatMap c100_ddd)]) rfl rfl rfl (evs (ev_ac rfl nofun rfl (evn ?_))))
  refine ls_keep [(1, .box [.int .i64 a0.1, .dat a0.2.length (a0.2.flatMap c100_ddd)])] ⟨kr, trivial⟩ rfl ?_
  refine ls_seq_k fun K1 hK1 => ?_
  refine ls_rs tbOk ?_
  refine evs (ev_ac rfl nofun rfl (evn ?_))
  refine ls_keep [(1, .box [.int .i64 a0.1, .dat a0.2.length (a0.2.flatMap c100_ddd)]), (3, .int .i64 0)] ⟨kr, kr, trivial⟩ rfl ?_
  obtain ⟨o1, hl, hr1⟩ := ob_some h
  clear h
  have kXspec_IsValidHistory_B1 : ∀ (_ : Unit), (obind (spec_l1In (List.length a0.2 : Int) 1 6) fun v12 => cond v12 (obind (spec_l1In a0.1 1 (IntKind.i64.wrap ((IntKind.i64.wrap (99 - (List.length a0.2 : Int))) + 1))) fun v15 => spec_IsValidHistory_J2 v15) (spec_IsValidHistory_J2 false)) = some r → ∀ σ' : PS, okK σ' [(1, .box [.int .i64 a0.1, .dat a0.2.length (a0.2.flatMap c100_ddd)])] → K1 σ' := by
    intro _ h σ' hk
    refine hK1 _ (ls_keep [(1, .box [.int .i64 a0.1, .dat a0.2.length (a0.2.flatMap c100_ddd)])] hk rfl ?_)
    refine ls_rs_k tbOk fun K10 hK10 => ?_
    have kspec_IsValidHistory_J2 : ∀ (x11 : Bool), spec_IsValidHistory_J2 x11 = some r → ∀ σ' : PS, okK σ' [(2, .bool x11)] → K10 σ' := by
      intro x11 h σ' hk
      unfold spec_IsValidHistory_J2 at h
      refine hK10 _ (ls_keep [(2, .bool x11)] hk rfl ?_)
      refine ls_ret ?_
      have hr := Option.some.inj h
      rw [← hr]
      exact ⟨.inl rfl, rfl⟩
    refine evs (ev_fa (c1 := .cref 1 0) (v := .cref 1 1) rfl rfl rfl ⟨_, rfl⟩ rfl (evs (ev_ldB (off := 1) (v := .dat a0.2.length (a0.2.flatMap c100_ddd)) rfl rfl rfl rfl (Nat.le_of_ble_eq_true rfl) rfl (evs (ev_len (c1 := .dat a0.2.length (a0.2.flatMap c100_ddd)) rfl rfl rfl (?_))))))
    obtain ⟨v12, g13, h⟩ := ob_some h
    refine evs (ev_call (era rfl rfl (era rfl rfl (era rfl rfl eran))) (spec_l1In_s g13) (evs (ev_mv (c := .bool v12) rfl rfl rfl (?_))))
    rcases cond_some h with ⟨g14, h⟩ | ⟨g14, h⟩
    · refine evs (ev_gr rfl (congrArg V.bool g14) (ev_fa (c1 := .cref 1 0) (v := .cref 1 0) rfl rfl rfl ⟨_, rfl⟩ rfl (evs (ev_gr rfl (congrArg V.bool g14) (ev_ldB (off := 0) (v := .int .i64 a0.1) rfl rfl rfl rfl (Nat.le_of_ble_eq_true rfl) rfl (evs (ev_gr rfl (congrArg V.bool g14) (ev_fa (c1 := .cref 1 0) (v := .cref 1 1) rfl rfl rfl ⟨_, rfl⟩ rfl (evs (ev_gr rfl (congrArg V.bool g14) (ev_ldB (off := 1) (v := .dat a0.2.length (a0.2.flatMap c100_ddd)) rfl rfl rfl rfl (Nat.le_of_ble_eq_true rfl) rfl (evs (ev_gr rfl (congrArg V.bool g14) (ev_len (c1 := .dat a0.2.length (a0.2.flatMap c100_ddd)) rfl rfl rfl (evs (ev_gr rfl (congrArg V.bool g14) (ev_bin (c1 := .int .i64 99) (c2 := .int .i64 (List.length a0.2 : Int)) rfl rfl rfl (evs (ev_gr rfl (congrArg V.bool g14) (ev_bin (c1 := .int .i64 (IntKind.i64.wrap (99 - (List.length a0.2 : Int)))) (c2 := .int .i64 1) rfl rfl rfl (?_)))))))))))))))))))))
      obtain ⟨v15, g16, h⟩ := ob_some h
      refine evs (ev_gr rfl (congrArg V.bool g14) (ev_call (era rfl rfl (era rfl rfl (era rfl rfl eran))) (spec_l1In_s g16) (evs (ev_pkT (c1 := .bool v15) rfl g14 rfl rfl (evs (ev_as (c := .bool v15) rfl rfl rfl (evn ?_)))))))
      exact kspec_IsValidHistory_J2 v15 h _ ⟨kr, trivial⟩
    · refine evs (ev_gs rfl rfl (isb_F g14) (evs (ev_gs rfl rfl (isb_F g14) (evs (ev_gs rfl rfl (isb_F g14) (evs (ev_gs rfl rfl (isb_F g14) (evs (ev_gs rfl rfl (isb_F g14) (evs (ev_gs rfl rfl (isb_F g14) (evs (ev_gs rfl rfl (isb_F g14) (evs (ev_gs rfl rfl (isb_F g14) (evs (ev_pkF (c1 := .bool false) rfl g14 rfl rfl (evs (ev_as (c := .bool false) rfl rfl rfl (evn ?_))))))))))))))))))))
      exact kspec_IsValidHistory_J2 false h _ ⟨kr, trivial⟩
  refine ls_rec (fun (y1 : Int) => [(1, .box [.int .i64 a0.1, .dat a0.2.length (a0.2.flatMap c100_ddd)]), (3, .int .i64 y1)]) (spec_IsValidHistory_B1 a0) fz 0 o1 hl ⟨kr, kr, trivial⟩ (fun _ => rfl) ?_
  rintro m y1 N h hN
  unfold spec_IsValidHistory_B1 at h
  refine ls_seq_k fun K2 hK2 => ?_
  refine ls_rs tbOk ?_
  refine evs (ev_mv (c := .int .i64 y1) rfl rfl rfl (evs (ev_fa (c1 := .cref 1 0) (v := .cref 1 1) rfl rfl rfl ⟨_, rfl⟩ rfl (evs (ev_ldB (off := 1) (v := .dat a0.2.length (a0.2.flatMap c100_ddd)) rfl rfl rfl rfl (Nat.le_of_ble_eq_true rfl) rfl (evs (ev_len (c1 := .dat a0.2.length (a0.2.flatMap c100_ddd)) rfl rfl rfl (evs (ev_bin (c1 := .int .i64 y1) (c2 := .int .i64 (List.length a0.2 : Int)) rfl rfl rfl (evn ?_))))))))))
  refine ls_keep [(1, .box [.int .i64 a0.1, .dat a0.2.length (a0.2.flatMap c100_ddd)]), (3, .int .i64 y1), (8, .bool (decide (y1 < (List.length a0.2 : Int))))] ⟨kr, kr, kr, trivial⟩ rfl ?_
  rcases cond_some h with ⟨g3, h⟩ | ⟨g3, h⟩
  · refine ls_cT rfl g3 ?_
    refine ls_skip ?_
    refine hK2 _ (ls_keep [(1, .box [.int .i64 a0.1, .dat a0.2.length (a0.2.flatMap c100_ddd)]), (3, .int .i64 y1)] ⟨kr, kr, trivial⟩ rfl ?_)
    refine ls_seq_k fun K4 hK4 => ?_
    refine ls_blk ?_
    refine ls_rs tbOk ?_
    refine evs (ev_fa (c1 := .cref 1 0) (v := .cref 1 1) rfl rfl rfl ⟨_, rfl⟩ rfl (evs (ev_ldB (off := 1) (v := .dat a0.2.length (a0.2.flatMap c100_ddd)) rfl rfl rfl rfl (Nat.le_of_ble_eq_true rfl) rfl (evs (ev_mv (c := .int .i64 y1) rfl rfl rfl (?_))))))
    obtain ⟨e5, g6, h⟩ := ob_some h
    refine evs (ev_ia rfl rfl rfl ⟨(geti_some g6).1, (geti_some g6).2.1⟩ (evs (ev_ldE (off := 0) (v := .agg [.dat e5.length (e5.flatMap c157_dd)]) rfl rfl zc100_ddd g6 rfl (Nat.le_of_ble_eq_true rfl) rfl (?_))))
    obtain ⟨v7, g8, h⟩ := ob_some h
    refine evs (ev_call (era rfl (erg (erc (erD ec157_dd _) rfl)) eran) (spec_IsValidDatabase_s g8) (evs (ev_un (c1 := .bool v7) rfl trivial (evn ?_))))
    refine ls_keep [(1, .box [.int .i64 a0.1, .dat a0.2.length (a0.2.flatMap c100_ddd)]), (3, .int .i64 y1), (17, .bool (!v7))] ⟨kr, kr, kr, trivial⟩ rfl ?_
    rcases cond_some h with ⟨g9, h⟩ | ⟨g9, h⟩
    · refine ls_cT rfl g9 ?_
      refine ls_rs tbOk ?_
      refine evs (ev_ac rfl nofun rfl (evn ?_))
      refine ls_keep [(2, .bool false)] ⟨kr, trivial⟩ rfl ?_
      refine ls_ret ?_
      have q0 := (Option.some.inj h).symm
      have r0 := hr1
      rw [q0] at r0
      have hr := Option.some.inj r0
      rw [← hr]
      exact ⟨.inl rfl, rfl⟩
    · refine ls_cF rfl g9 ?_
      refine ls_skip ?_
      refine hK4 _ (ls_keep [(1, .box [.int .i64 a0.1, .dat a0.2.length (a0.2.flatMap c100_ddd)]), (3, .int .i64 y1)] ⟨kr, kr, trivial⟩ rfl ?_)
      refine ls_rgn tbOk ?_
      refine evs (ev_mv (c := .int .i64 y1) rfl rfl rfl (evs (ev_bin (c1 := .int .i64 y1) (c2 := .int .i64 1) rfl rfl rfl (evs (ev_as (c := .int .i64 (IntKind.i64.wrap (y1 + 1))) rfl rfl rfl (evn ?_))))))
      exact hN _ (IntKind.i64.wrap (y1 + 1)) h ⟨kr, kr, trivial⟩
  · refine ls_cF rfl g3 ?_
    refine ls_exit ?_
    have q0 := (Option.some.inj h).symm
    have r0 := hr1
    rw [q0] at r0
    exact kXspec_IsValidHistory_B1 () r0 _ ⟨kr, trivial⟩
def impl_within_J1 (x2 : Bool) : Option (Bool) := some x2
def impl_within (a0 : Int) (a1 : Int) (a2 : Int) : Option (Bool) := cond (decide (a1 ≤ a0)) (impl_within_J1 (decide (a0 ≤ a2))) (impl_within_J1 false)
theorem impl_within_s {a0 : Int} {a1 : Int} {a2 : Int} {r : Bool} (h : impl_within a0 a1 a2 = some r) : SoundAt Try.prog 82 [.int .i64 a0, .int .i64 a1, .int .i64 a2] (.bool r) := by
  unfold impl_within at h
  refine sound_lit tbOk lit82 (Nat.le_of_ble_eq_true rfl) rfl ?_
  unfold c82
  refine ls_keep [(0, .int .i64 a0), (1, .int .i64 a1), (2, .int .i64 a2)] ⟨kr, kr, kr, trivial⟩ rfl ?_
  refine ls_rs tbOk ?_
  refine evs (ev_ac rfl nofun rfl (evn ?_))
  refine ls_keep [(0, .int .i64 a0), (1, .int .i64 a1), (2, .int .i64 a2)] ⟨kr, kr, kr, trivial⟩ rfl ?_
  refine ls_rs_k tbOk fun K1 hK1 => ?_
  have kimpl_within_J1 : ∀ (x2 : Bool), impl_within_J1 x2 = some r → ∀ σ' : PS, okK σ' [(6, .bool x2)] → K1 σ' := by
    intro x2 h σ' hk
    unfold impl_within_J1 at h
    refine hK1 _ (ls_keep [(6, .bool x2)] hk rfl ?_)
    refine ls_ret ?_
    have hr := Option.some.inj h
    rw [← hr]
    exact ⟨.inl rfl, rfl⟩
  refine evs (ev_mv (c := .int .i64 a0) rfl rfl rfl (evs (ev_mv (c := .int .i64 a1) rfl rfl rfl (evs (ev_bin (c1 := .int .i64 a0) (c2 := .int .i64 a1) rfl rfl rfl (evs (ev_mv (c := .bool (decide (a1 ≤ a0))) rfl rfl rfl (?_))))))))
  rcases cond_some h with ⟨g3, h⟩ | ⟨g3, h⟩
  · refine evs (ev_gr rfl (congrArg V.bool g3) (ev_mv (c := .int .i64 a0) rfl rfl rfl (evs (ev_gr rfl (congrArg V.bool g3) (ev_mv (c := .int .i64 a2) rfl rfl rfl (evs (ev_gr rfl (congrArg V.bool g3) (ev_bin (c1 := .int .i64 a0) (c2 := .int .i64 a2) rfl rfl rfl (evs (ev_pkT (c1 := .bool (decide (a0 ≤ a2))) rfl g3 rfl rfl (evs (ev_as (c := .bool (decide (a0 ≤ a2))) rfl rfl rfl (evn ?_)))))))))))))
    exact kimpl_within_J1 (decide (a0 ≤ a2)) h _ ⟨kr, trivial⟩
  · refine evs (ev_gs rfl rfl (isb_F g3) (evs (ev_gs rfl rfl (isb_F g3) (evs (ev_gs rfl rfl (isb_F g3) (evs (ev_pkF (c1 := .bool false) rfl g3 rfl rfl (evs (ev_as (c := .bool false) rfl rfl rfl (evn ?_))))))))))
    exact kimpl_within_J1 false h _ ⟨kr, trivial⟩
def impl_AreValidValues_B1 (a0 : List Int) (rec : Int → Option (Sum (Unit) (Bool))) (y1 : Int) : Option (Sum (Unit) (Bool)) := cond (decide (y1 < (List.length a0 : Int))) (obind (geti a0 y1) fun e5 => obind (impl_within e5 0 99) fun v7 => cond (!v7) (some (.inr false)) (rec (IntKind.i64.wrap (y1 + 1)))) (some (.inl ()))
def impl_AreValidValues (a0 : List Int) : Option (Bool) := obind (loopF (impl_AreValidValues_B1 a0) fz 0) fun o1 => (match o1 with
  | .inl _ => (some true)
  | .inr r => some r)
theorem impl_AreValidValues_s {a0 : List Int} {r : Bool} (h : impl_AreValidValues a0 = some r) : SoundAt Try.prog 140 [.dat a0.length (a0.flatMap ci64)] (.bool r) := by
  unfold impl_AreValidValues at h
  refine sound_lit tbOk lit140 (Nat.le_of_ble_eq_true rfl) rfl ?_
  unfold c140
  refine ls_keep [(0, .dat a0.length (a0.flatMap ci64))] ⟨kr, trivial⟩ rfl ?_
  refine ls_rs tbOk ?_
  refine evs (ev_ac rfl nofun rfl (evn ?_))
  refine ls_keep [(0, .dat a0.length (a0.flatMap ci64))] ⟨kr, trivial⟩ rfl ?_
  refine ls_seq_k fun K1 hK1 => ?_
  refine ls_rs tbOk ?_
  refine evs (ev_mv (c := .dat a0.length (a0.flatMap ci64)) rfl rfl rfl (evs (ev_len (c1 := .dat a0.length (a0.flatMap ci64)) rfl rfl rfl (evs (ev_mc rfl rfl (evn ?_))))))
  refine ls_keep [(5, .dat a0.length (a0.flatMap ci64)), (6, .int .i64 (List.length a0 : Int)), (7, .int .i64 0)] ⟨kr, kr, kr, trivial⟩ rfl ?_
  obtain ⟨o1, hl, hr1⟩ := ob_some h
  clear h
  have kXimpl_AreValidValues_B1 : ∀ (_ : Unit), (some true) = some r → ∀ σ' : PS, okK σ' [] → K1 σ' := by
    intro _ h σ' hk
    refine hK1 _ (ls_keep [] hk rfl ?_)
    refine ls_rs tbOk ?_
    refine evs (ev_ac rfl nofun rfl (evn ?_))
    refine ls_keep [(2, .bool true)] ⟨kr, trivial⟩ rfl ?_
    refine ls_ret ?_
    have hr := Option.some.inj h
    rw [← hr]
    exact ⟨.inl rfl, rfl⟩
  refine ls_rec (fun (y1 : Int) => [(5, .dat a0.length (a0.flatMap ci64)), (6, .int .i64 (List.length a0 : Int)), (7, .int .i64 y1)]) (impl_AreValidValues_B1 a0) fz 0 o1 hl ⟨kr, kr, kr, trivial⟩ (fun _ => rfl) ?_
  rintro m y1 N h hN
  unfold impl_AreValidValues_B1 at h
  refine ls_rs tbOk ?_
  refine evs (ev_bin (c1 := .int .i64 y1) (c2 := .int .i64 (List.length a0 : Int)) rfl rfl rfl (evn ?_))
  refine ls_keep [(5, .dat a0.length (a0.flatMap ci64)), (6, .int .i64 (List.length a0 : Int)), (7, .int .i64 y1), (8, .bool (decide (y1 < (List.length a0 : Int))))] ⟨kr, kr, kr, kr, trivial⟩ rfl ?_
  refine ls_seq_k fun K2 hK2 => ?_
  rcases cond_some h with ⟨g3, h⟩ | ⟨g3, h⟩
  · refine ls_cT rfl g3 ?_
    refine ls_skip ?_
    refine hK2 _ (ls_keep [(5, .dat a0.length (a0.flatMap ci64)), (6, .int .i64 (List.length a0 : Int)), (7, .int .i64 y1)] ⟨kr, kr, kr, trivial⟩ rfl ?_)
    refine ls_seq_k fun K4 hK4 => ?_
    refine ls_blk ?_
    refine ls_rs tbOk ?_
    obtain ⟨e5, g6, h⟩ := ob_some h
    refine evs (ev_ia rfl rfl rfl ⟨(geti_some g6).1, (geti_some g6).2.1⟩ (evs (ev_ldE (off := 0) (v := .int .i64 e5) rfl rfl zci64 g6 rfl (Nat.le_of_ble_eq_true rfl) rfl (evs (ev_as (c := .int .i64 e5) rfl rfl rfl (evn ?_))))))
    refine ls_keep [(4, .int .i64 e5), (5, .dat a0.length (a0.flatMap ci64)), (6, .int .i64 (List.length a0 : Int)), (7, .int .i64 y1)] ⟨kr, kr, kr, kr, trivial⟩ rfl ?_
    refine ls_rs tbOk ?_
    refine evs (ev_mv (c := .int .i64 e5) rfl rfl rfl (?_))
    obtain ⟨v7, g8, h⟩ := ob_some h
    refine evs (ev_call (era rfl rfl (era rfl rfl (era rfl rfl eran))) (impl_within_s g8) (evs (ev_un (c1 := .bool v7) rfl trivial (evn ?_))))
    refine ls_keep [(5, .dat a0.length (a0.flatMap ci64)), (6, .int .i64 (List.length a0 : Int)), (7, .int .i64 y1), (13, .bool (!v7))] ⟨kr, kr, kr, kr, trivial⟩ rfl ?_
    rcases cond_some h with ⟨g9, h⟩ | ⟨g9, h⟩
    · refine ls_cT rfl g9 ?_
      refine ls_rs tbOk ?_
      refine evs (ev_ac rfl nofun rfl (evn ?_))
      refine ls_keep [(2, .bool false)] ⟨kr, trivial⟩ rfl ?_
      refine ls_ret ?_
      have q0 := (Option.some.inj h).symm
      have r0 := hr1
      rw [q0] at r0
      have hr := Option.some.inj r0
      rw [← hr]
      exact ⟨.inl rfl, rfl⟩
    · refine ls_cF rfl g9 ?_
      refine ls_skip ?_
      refine hK4 _ (ls_keep [(5, .dat a0.length (a0.flatMap ci64)), (6, .int .i64 (List.length a0 : Int)), (7, .int .i64 y1)] ⟨kr, kr, kr, trivial⟩ rfl ?_)
      refine ls_rgn tbOk ?_
      refine evs (ev_bin (c1 := .int .i64 y1) (c2 := .int .i64 1) rfl rfl rfl (evs (ev_mv (c := .int .i64 (IntKind.i64.wrap (y1 + 1))) rfl rfl rfl (evn ?_))))
      exact hN _ (IntKind.i64.wrap (y1 + 1)) h ⟨kr, kr, kr, trivial⟩
  · refine ls_cF rfl g3 ?_
    refine ls_exit ?_
    have q0 := (Option.some.inj h).symm
    have r0 := hr1
    rw [q0] at r0
    exact kXimpl_AreValidValues_B1 () r0 _ trivial
def impl_compareInts (a0 : Int) (a1 : Int) : Option (Int) := cond (decide (a0 < a1)) (some (-1)) (cond (decide (a1 < a0)) (some 1) (some 0))
theorem impl_compareInts_s {a0 : Int} {a1 : Int} {r : Int} (h : impl_compareInts a0 a1 = some r) : SoundAt Try.prog 175 [.int .i64 a0, .int .i64 a1] (.int .i64 r) := by
  unfold impl_compareInts at h
  refine sound_lit tbOk lit175 (Nat.le_of_ble_eq_true rfl) rfl ?_
  unfold c175
  refine ls_keep [(0, .int .i64 a0), (1, .int .i64 a1)] ⟨kr, kr, trivial⟩ rfl ?_
  refine ls_rs tbOk ?_
  refine evs (ev_ac rfl nofun rfl (evn ?_))
  refine ls_keep [(0, .int .i64 a0), (1, .int .i64 a1)] ⟨kr, kr, trivial⟩ rfl ?_
  refine ls_seq_k fun K1 hK1 => ?_
  refine ls_blk ?_
  refine ls_rs tbOk ?_
  refine evs (ev_mv (c := .int .i64 a0) rfl rfl rfl (evs (ev_mv (c := .int .i64 a1) rfl rfl rfl (evs (ev_bin (c1 := .int .i64 a0) (c2 := .int .i64 a1) rfl rfl rfl (evs (ev_as (c := .bool (decide (a0 < a1))) rfl rfl rfl (evn ?_))))))))
  refine ls_keep [(0, .int .i64 a0), (1, .int .i64 a1), (5, .bool (decide (a0 < a1)))] ⟨kr, kr, kr, trivial⟩ rfl ?_
  rcases cond_some h with ⟨g2, h⟩ | ⟨g2, h⟩
  · refine ls_cT rfl g2 ?_
    refine ls_rs tbOk ?_
    refine evs (ev_ac rfl nofun rfl (evn ?_))
    refine ls_keep [(4, .int .i64 (-1))] ⟨kr, trivial⟩ rfl ?_
    refine ls_ret ?_
    have hr := Option.some.inj h
    rw [← hr]
    exact ⟨.inl rfl, rfl⟩
  · refine ls_cF rfl g2 ?_
    refine ls_rs tbOk ?_
    refine evs (ev_mv (c := .int .i64 a0) rfl rfl rfl (evs (ev_mv (c := .int .i64 a1) rfl rfl rfl (evs (ev_bin (c1 := .int .i64 a0) (c2 := .int .i64 a1) rfl rfl rfl (evs (ev_as (c := .bool (decide (a1 < a0))) rfl rfl rfl (evn ?_))))))))
    refine ls_keep [(9, .bool (decide (a1 < a0)))] ⟨kr, trivial⟩ rfl ?_
    rcases cond_some h with ⟨g3, h⟩ | ⟨g3, h⟩
    · refine ls_cT rfl g3 ?_
      refine ls_rs tbOk ?_
      refine evs (ev_ac rfl nofun rfl (evn ?_))
      refine ls_keep [(4, .int .i64 1)] ⟨kr, trivial⟩ rfl ?_
      refine ls_ret ?_
      have hr := Option.some.inj h
      rw [← hr]
      exact ⟨.inl rfl, rfl⟩
    · refine ls_cF rfl g3 ?_
      refine ls_skip ?_
      refine hK1 _ (ls_keep [] trivial rfl ?_)
      refine ls_rs tbOk ?_
      refine evs (ev_ac rfl nofun rfl (evn ?_))
      refine ls_keep [(4, .int .i64 0)] ⟨kr, trivial⟩ rfl ?_
      refine ls_ret ?_
      have hr := Option.some.inj h
      rw [← hr]
      exact ⟨.inl rfl, rfl⟩
def impl_CompareRows_B1 (a0 : List Int) (a1 : List Int) (rec : Int → Option (Sum (Unit) (Int))) (y1 : Int) : Option (Sum (Unit) (Int)) := cond (decide (y1 < (List.length a0 : Int))) (cond (decide (y1 < (List.length a1 : Int))) (obind (geti a0 y1) fun e6 => obind (geti a1 y1) fun e8 => cond (e6 != e8) (obind (geti a0 y1) fun e11 => obind (geti a1 y1) fun e13 => obind (impl_compareInts e11 e13) fun v15 => some (.inr v15)) (rec (IntKind.i64.wrap (y1 + 1)))) (some (.inl ()))) (some (.inl ()))
def impl_CompareRows (a0 : List Int) (a1 : List Int) : Option (Int) := obind (loopF (impl_CompareRows_B1 a0 a1) fz 0) fun o1 => (match o1 with
  | .inl _ => (obind (impl_compareInts (List.length a0 : Int) (List.length a1 : Int)) fun v17 => some v17)
  | .inr r => some r)
theorem impl_CompareRows_s {a0 : List Int} {a1 : List Int} {r : Int} (h : impl_CompareRows a0 a1 = some r) : SoundAt Try.prog 168 [.dat a0.length (a0.flatMap ci64), .dat a1.length (a1.flatMap ci64)] (.int .i64 r) := by
  unfold impl_CompareRows at h
  refine sound_lit tbOk lit168 (Nat.le_of_ble_eq_true rfl) rfl ?_
  unfold c168
  refine ls_keep [(0, .dat a0.length (a0.flatMap ci64)), (1, .dat a1.length (a1.flatMap ci64))] ⟨kr, kr, trivial⟩ rfl ?_
  refine ls_rs tbOk ?_
  refine evs (ev_ac rfl nofun rfl (evn ?_))
  refine ls_keep [(0, .dat a0.length (a0.flatMap ci64)), (1, .dat a1.length (a1.flatMap ci64))] ⟨kr, kr, trivial⟩ rfl ?_
  refine ls_seq_k fun K1 hK1 => ?_
  refine ls_rs tbOk ?_
  refine evs (ev_ac rfl nofun rfl (evn ?_))
  refine ls_keep [(0, .dat a0.length (a0.flatMap ci64)), (1, .dat a1.length (a1.flatMap ci64)), (5, .int .i64 0)] ⟨kr, kr, kr, trivial⟩ rfl ?_
  obtain ⟨o1, hl, hr1⟩ := ob_some h
  clear h
  have kXimpl_CompareRows_B1 : ∀ (_ : Unit), (obind (impl_compareInts (List.length a0 : Int) (List.length a1 : Int)) fun v17 => some v17) = some r → ∀ σ' : PS, okK σ' [(0, .dat a0.length (a0.flatMap ci64)), (1, .dat a1.length (a1.flatMap ci64))] → K1 σ' := by
    intro _ h σ' hk
    refine hK1 _ (ls_keep [(0, .dat a0.length (a0.flatMap ci64)), (1, .dat a1.length (a1.flatMap ci64))] hk rfl ?_)
    refine ls_rs tbOk ?_
    refine evs (ev_mv (c := .dat a0.length (a0.flatMap ci64)) rfl rfl rfl (evs (ev_len (c1 := .dat a0.length (a0.flatMap ci64)) rfl rfl rfl (evs (ev_mv (c := .dat a1.length (a1.flatMap ci64)) rfl rfl rfl (evs (ev_len (c1 := .dat a1.length (a1.flatMap ci64)) rfl rfl rfl (?_))))))))
    obtain ⟨v17, g18, h⟩ := ob_some h
    refine evs (ev_call (era rfl rfl (era rfl rfl eran)) (impl_compareInts_s g18) (evs (ev_as (c := .int .i64 v17) rfl rfl rfl (evn ?_))))
    refine ls_keep [(4, .int .i64 v17)] ⟨kr, trivial⟩ rfl ?_
    refine ls_ret ?_
    have hr := Option.some.inj h
    rw [← hr]
    exact ⟨.inl rfl, rfl⟩
  refine ls_rec (fun (y1 : Int) => [(0, .dat a0.length (a0.flatMap ci64)), (1, .dat a1.length (a1.flatMap ci64)), (5, .int .i64 y1)]) (impl_CompareRows_B1 a0 a1) fz 0 o1 hl ⟨kr, kr, kr, trivial⟩ (fun _ => rfl) ?_
  rintro m y1 N h hN
  unfold impl_CompareRows_B1 at h
  refine ls_seq_k fun K2 hK2 => ?_
  refine ls_rs tbOk ?_
  refine evs (ev_mv (c := .int .i64 y1) rfl rfl rfl (evs (ev_mv (c := .dat a0.length (a0.flatMap ci64)) rfl rfl rfl (evs (ev_len (c1 := .dat a0.length (a0.flatMap ci64)) rfl rfl rfl (evs (ev_bin (c1 := .int .i64 y1) (c2 := .int .i64 (List.length a0 : Int)) rfl rfl rfl (evs (ev_mv (c := .bool (decide (y1 < (List.length a0 : Int)))) rfl rfl rfl (?_))))))))))
  rcases cond_some h with ⟨g3, h⟩ | ⟨g3, h⟩
  · refine evs (ev_gr rfl (congrArg V.bool g3) (ev_mv (c := .int .i64 y1) rfl rfl rfl (evs (ev_gr rfl (congrArg V.bool g3) (ev_mv (c := .dat a1.length (a1.flatMap ci64)) rfl rfl rfl (evs (ev_gr rfl (congrArg V.bool g3) (ev_len (c1 := .dat a1.length (a1.flatMap ci64)) rfl rfl rfl (evs (ev_gr rfl (congrArg V.bool g3) (ev_bin (c1 := .int .i64 y1) (c2 := .int .i64 (List.length a1 : Int)) rfl rfl rfl (evs (ev_pkT (c1 := .bool (decide (y1 < (List.length a1 : Int)))) rfl g3 rfl rfl (evn ?_))))))))))))))
    refine ls_keep [(0, .dat a0.length (a0.flatMap ci64)), (1, .dat a1.length (a1.flatMap ci64)), (5, .int .i64 y1), (15, .bool (decide (y1 < (List.length a1 : Int))))] ⟨kr, kr, kr, kr, trivial⟩ rfl ?_
    rcases cond_some h with ⟨g4, h⟩ | ⟨g4, h⟩
    · refine ls_cT rfl g4 ?_
      refine ls_skip ?_
      refine hK2 _ (ls_keep [(0, .dat a0.length (a0.flatMap ci64)), (1, .dat a1.length (a1.flatMap ci64)), (5, .int .i64 y1)] ⟨kr, kr, kr, trivial⟩ rfl ?_)
      refine ls_seq_k fun K5 hK5 => ?_
      refine ls_blk ?_
      refine ls_rd tbOk mixed (by kernel_rfl) ?_
      refine evd rfl rfl (ev_mv (c := .dat a0.length (a0.flatMap ci64)) rfl rfl rfl (evd rfl rfl (ev_mv (c := .int .i64 y1) rfl rfl rfl (?_))))
      obtain ⟨e6, g7, h⟩ := ob_some h
      refine evd rfl rfl (ev_ia rfl rfl rfl ⟨(geti_some g7).1, (geti_some g7).2.1⟩ (evd rfl rfl (ev_ldE (off := 0) (v := .int .i64 e6) rfl rfl zci64 g7 rfl (Nat.le_of_ble_eq_true rfl) rfl (evd rfl rfl (ev_mv (c := .dat a1.length (a1.flatMap ci64)) rfl rfl rfl (evd rfl rfl (ev_mv (c := .int .i64 y1) rfl rfl rfl (?_))))))))
      obtain ⟨e8, g9, h⟩ := ob_some h
      refine evd rfl rfl (ev_ia rfl rfl rfl ⟨(geti_some g9).1, (geti_some g9).2.1⟩ (evd rfl rfl (ev_ldE (off := 0) (v := .int .i64 e8) rfl rfl zci64 g9 rfl (Nat.le_of_ble_eq_true rfl) rfl (evd rfl rfl (ev_bin (c1 := .int .i64 e6) (c2 := .int .i64 e8) rfl rfl rfl (evdn ?_))))))
      refine ls_keep [(0, .dat a0.length (a0.flatMap ci64)), (1, .dat a1.length (a1.flatMap ci64)), (5, .int .i64 y1), (26, .bool (e6 != e8))] ⟨kr, kr, kr, kr, trivial⟩ rfl ?_
      rcases cond_some h with ⟨g10, h⟩ | ⟨g10, h⟩
      · refine ls_cT rfl g10 ?_
        refine ls_rd tbOk mixed (by kernel_rfl) ?_
        refine evd rfl rfl (ev_mv (c := .dat a0.length (a0.flatMap ci64)) rfl rfl rfl (evd rfl rfl (ev_mv (c := .int .i64 y1) rfl rfl rfl (?_))))
        obtain ⟨e11, g12, h⟩ := ob_some h
        refine evd rfl rfl (ev_ia rfl rfl rfl ⟨(geti_some g12).1, (geti_some g12).2.1⟩ (evd rfl rfl (ev_ldE (off := 0) (v := .int .i64 e11) rfl rfl zci64 g12 rfl (Nat.le_of_ble_eq_true rfl) rfl (evd rfl rfl (ev_mv (c := .dat a1.length (a1.flatMap ci64)) rfl rfl rfl (evd rfl rfl (ev_mv (c := .int .i64 y1) rfl rfl rfl (?_))))))))
        obtain ⟨e13, g14, h⟩ := ob_some h
        refine evd rfl rfl (ev_ia rfl rfl rfl ⟨(geti_some g14).1, (geti_some g14).2.1⟩ (evd rfl rfl (ev_ldE (off := 0) (v := .int .i64 e13) rfl rfl zci64 g14 rfl (Nat.le_of_ble_eq_true rfl) rfl (?_))))
        obtain ⟨v15, g16, h⟩ := ob_some h
        refine evd rfl rfl (ev_call (era rfl rfl (era rfl rfl eran)) (impl_compareInts_s g16) (evd rfl rfl (ev_as (c := .int .i64 v15) rfl rfl rfl (evdn ?_))))
        refine ls_keep [(4, .int .i64 v15)] ⟨kr, trivial⟩ rfl ?_
        refine ls_ret ?_
        have q0 := (Option.some.inj h).symm
        have r0 := hr1
        rw [q0] at r0
        have hr := Option.some.inj r0
        rw [← hr]
        exact ⟨.inl rfl, rfl⟩
      · refine ls_cF rfl g10 ?_
        refine ls_skip ?_
        refine hK5 _ (ls_keep [(0, .dat a0.length (a0.flatMap ci64)), (1, .dat a1.length (a1.flatMap ci64)), (5, .int .i64 y1)] ⟨kr, kr, kr, trivial⟩ rfl ?_)
        refine ls_rgn tbOk ?_
        refine evs (ev_mv (c := .int .i64 y1) rfl rfl rfl (evs (ev_bin (c1 := .int .i64 y1) (c2 := .int .i64 1) rfl rfl rfl (evs (ev_as (c := .int .i64 (IntKind.i64.wrap (y1 + 1))) rfl rfl rfl (evn ?_))))))
        exact hN _ (IntKind.i64.wrap (y1 + 1)) h ⟨kr, kr, kr, trivial⟩
    · refine ls_cF rfl g4 ?_
      refine ls_exit ?_
      have q0 := (Option.some.inj h).symm
      have r0 := hr1
      rw [q0] at r0
      exact kXimpl_CompareRows_B1 () r0 _ ⟨kr, kr, trivial⟩
  · refine evs (ev_gs rfl rfl (isb_F g3) (evs (ev_gs rfl rfl (isb_F g3) (evs (ev_gs rfl rfl (isb_F g3) (evs (ev_gs rfl rfl (isb_F g3) (evs (ev_pkF (c1 := .bool false) rfl g3 rfl rfl (evn ?_))))))))))
    refine ls_keep [(0, .dat a0.length (a0.flatMap ci64)), (1, .dat a1.length (a1.flatMap ci64)), (5, .int .i64 y1), (15, .bool false)] ⟨kr, kr, kr, kr, trivial⟩ rfl ?_
    refine ls_cF rfl rfl ?_
    refine ls_exit ?_
    have q0 := (Option.some.inj h).symm
    have r0 := hr1
    rw [q0] at r0
    exact kXimpl_CompareRows_B1 () r0 _ ⟨kr, kr, trivial⟩
def impl_rowsValid_J2 (rec : Int → Option (Sum (Unit) (Bool))) (y1 : Int) (x13 : Bool) : Option (Sum (Unit) (Bool)) := cond x13 (some (.inr false)) (rec (IntKind.i64.wrap (y1 + 1)))
def impl_rowsValid_B1 (a0 : Int) (a1 : List (List Int)) (rec : Int → Option (Sum (Unit) (Bool))) (y1 : Int) : Option (Sum (Unit) (Bool)) := cond (decide (y1 < (List.length a1 : Int))) (obind (geti a1 y1) fun e10 => cond ((List.length e10 : Int) != a0) (impl_rowsValid_J2 rec y1 true) (obind (impl_AreValidValues e10) fun v16 => cond (!v16) (impl_rowsValid_J2 rec y1 true) (cond (decide (0 < y1)) (obind (geti a1 (IntKind.i64.wrap (y1 - 1))) fun e20 => obind (impl_CompareRows e20 e10) fun v22 => impl_rowsValid_J2 rec y1 (decide (0 ≤ v22))) (impl_rowsValid_J2 rec y1 false)))) (some (.inl ()))
def impl_rowsValid (a0 : Int) (a1 : List (List Int)) : Option (Bool) := obind (impl_within a0 0 5) fun v2 => cond (!v2) (some false) (cond (decide (4000 < (List.length a1 : Int))) (some false) (obind (loopF (impl_rowsValid_B1 a0 a1) fz 0) fun o1 => (match o1 with
  | .inl _ => (some true)
  | .inr r => some r)))
theorem impl_rowsValid_s {a0 : Int} {a1 : List (List Int)} {r : Bool} (h : impl_rowsValid a0 a1 = some r) : SoundAt Try.prog 149 [.int .i64 a0, .dat a1.length (a1.flatMap c30_d)] (.bool r) := by
  unfold impl_rowsValid at h
  refine sound_lit tbOk lit149 (Nat.le_of_ble_eq_true rfl) rfl ?_
  unfold c149
  refine ls_keep [(0, .int .i64 a0), (1, .dat a1.length (a1.flatMap c30_d))] ⟨kr, kr, trivial⟩ rfl ?_
  refine ls_rs tbOk ?_
  refine evs (ev_ac rfl nofun rfl (evn ?_))
  refine ls_keep [(0, .int .i64 a0), (1, .dat a1.length (a1.flatMap c30_d))] ⟨kr, kr, trivial⟩ rfl ?_
  refine ls_seq_k fun K1 hK1 => ?_
  refine ls_rs tbOk ?_
  refine evs (ev_mv (c := .int .i64 a0) rfl rfl rfl (?_))
  obtain ⟨v2, g3, h⟩ := ob_some h
  refine evs (ev_call (era rfl rfl (era rfl rfl (era rfl rfl eran))) (impl_within_s g3) (evs (ev_un (c1 := .bool v2) rfl trivial (evs (ev_mv (c := .bool (!v2)) rfl rfl rfl (?_))))))
  rcases cond_some h with ⟨g4, h⟩ | ⟨g4, h⟩
  · refine evs (ev_gs rfl rfl (isb_T g4) (evs (ev_gs rfl rfl (isb_T g4) (evs (ev_gs rfl rfl (isb_T g4) (evs (ev_pkT (c1 := .bool true) rfl g4 rfl rfl (evn ?_))))))))
    refine ls_keep [(0, .int .i64 a0), (1, .dat a1.length (a1.flatMap c30_d)), (14, .bool true)] ⟨kr, kr, kr, trivial⟩ rfl ?_
    refine ls_cT rfl rfl ?_
    refine ls_rs tbOk ?_
    refine evs (ev_ac rfl nofun rfl (evn ?_))
    refine ls_keep [(4, .bool false)] ⟨kr, trivial⟩ rfl ?_
    refine ls_ret ?_
    have hr := Option.some.inj h
    rw [← hr]
    exact ⟨.inl rfl, rfl⟩
  · refine evs (ev_gr rfl (congrArg V.bool g4) (ev_mv (c := .dat a1.length (a1.flatMap c30_d)) rfl rfl rfl (evs (ev_gr rfl (congrArg V.bool g4) (ev_len (c1 := .dat a1.length (a1.flatMap c30_d)) rfl rfl rfl (evs (ev_gr rfl (congrArg V.bool g4) (ev_bin (c1 := .int .i64 (List.length a1 : Int)) (c2 := .int .i64 4000) rfl rfl rfl (evs (ev_pkF (c1 := .bool (decide (4000 < (List.length a1 : Int)))) rfl g4 rfl rfl (evn ?_)))))))))))
    refine ls_keep [(0, .int .i64 a0), (1, .dat a1.length (a1.flatMap c30_d)), (14, .bool (decide (4000 < (List.length a1 : Int))))] ⟨kr, kr, kr, trivial⟩ rfl ?_
    rcases cond_some h with ⟨g5, h⟩ | ⟨g5, h⟩
    · refine ls_cT rfl g5 ?_
      refine ls_rs tbOk ?_
      refine evs (ev_ac rfl nofun rfl (evn ?_))
      refine ls_keep [(4, .bool false)] ⟨kr, trivial⟩ rfl ?_
      refine ls_ret ?_
      have hr := Option.some.inj h
      rw [← hr]
      exact ⟨.inl rfl, rfl⟩
    · refine ls_cF rfl g5 ?_
      refine ls_skip ?_
      refine hK1 _ (ls_keep [(0, .int .i64 a0), (1, .dat a1.length (a1.flatMap c30_d))] ⟨kr, kr, trivial⟩ rfl ?_)
      refine ls_seq_k fun K6 hK6 => ?_
      refine ls_rs tbOk ?_
      refine evs (ev_mv (c := .dat a1.length (a1.flatMap c30_d)) rfl rfl rfl (evs (ev_len (c1 := .dat a1.length (a1.flatMap c30_d)) rfl rfl rfl (evs (ev_mc rfl rfl (evn ?_))))))
      refine ls_keep [(0, .int .i64 a0), (1, .dat a1.length (a1.flatMap c30_d)), (15, .dat a1.length (a1.flatMap c30_d)), (16, .int .i64 (List.length a1 : Int)), (17, .int .i64 0)] ⟨kr, kr, kr, kr, kr, trivial⟩ rfl ?_
      obtain ⟨o1, hl, hr1⟩ := ob_some h
      clear h
      have kXimpl_rowsValid_B1 : ∀ (_ : Unit), (some true) = some r → ∀ σ' : PS, okK σ' [] → K6 σ' := by
        intro _ h σ' hk
        refine hK6 _ (ls_keep [] hk rfl ?_)
        refine ls_rs tbOk ?_
        refine evs (ev_ac rfl nofun rfl (evn ?_))
        refine ls_keep [(4, .bool true)] ⟨kr, trivial⟩ rfl ?_
        refine ls_ret ?_
        have hr := Option.some.inj h
        rw [← hr]
        exact ⟨.inl rfl, rfl⟩
      refine ls_rec (fun (y1 : Int) => [(0, .int .i64 a0), (1, .dat a1.length (a1.flatMap c30_d)), (15, .dat a1.length (a1.flatMap c30_d)), (16, .int .i64 (List.length a1 : Int)), (17, .int .i64 y1)]) (impl_rowsValid_B1 a0 a1) fz 0 o1 hl ⟨kr, kr, kr, kr, kr, trivial⟩ (fun _ => rfl) ?_
      rintro m y1 N h hN
      unfold impl_rowsValid_B1 at h
      refine ls_rs tbOk ?_
      refine evs (ev_bin (c1 := .int .i64 y1) (c2 := .int .i64 (List.length a1 : Int)) rfl rfl rfl (evn ?_))
      refine ls_keep [(0, .int .i64 a0), (1, .dat a1.length (a1.flatMap c30_d)), (15, .dat a1.length (a1.flatMap c30_d)), (16, .int .i64 (List.length a1 : Int)), (17, .int .i64 y1), (18, .bool (decide (y1 < (List.length a1 : Int))))] ⟨kr, kr, kr, kr, kr, kr, trivial⟩ rfl ?_
      refine ls_seq_k fun K7 hK7 => ?_
      rcases cond_some h with ⟨g8, h⟩ | ⟨g8, h⟩
      · refine ls_cT rfl g8 ?_
        refine ls_skip ?_
        refine hK7 _ (ls_keep [(0, .int .i64 a0), (1, .dat a1.length (a1.flatMap c30_d)), (15, .dat a1.length (a1.flatMap c30_d)), (16, .int .i64 (List.length a1 : Int)), (17, .int .i64 y1)] ⟨kr, kr, kr, kr, kr, trivial⟩ rfl ?_)
        refine ls_seq_k fun K9 hK9 => ?_
        refine ls_blk ?_
        refine ls_rs tbOk ?_
        refine evs (ev_mv (c := .int .i64 y1) rfl rfl rfl (?_))
        obtain ⟨e10, g11, h⟩ := ob_some h
        refine evs (ev_ia rfl rfl rfl ⟨(geti_some g11).1, (geti_some g11).2.1⟩ (evs (ev_ldEt (off := 0) (v := .dat e10.length (e10.flatMap ci64)) rfl rfl zc30_d g11 rfl (Nat.le_of_ble_eq_true rfl) rfl (evs (ev_as (c := .int .i64 y1) rfl rfl rfl (evs (ev_as (c := .dat e10.length (e10.flatMap ci64)) rfl rfl rfl (evn ?_))))))))
        refine ls_keep [(0, .int .i64 a0), (1, .dat a1.length (a1.flatMap c30_d)), (5, .int .i64 y1), (6, .dat e10.length (e10.flatMap ci64)), (15, .dat a1.length (a1.flatMap c30_d)), (16, .int .i64 (List.length a1 : Int)), (17, .int .i64 y1)] ⟨kr, kr, kr, kr, kr, kr, kr, trivial⟩ rfl ?_
        refine ls_rs_k tbOk fun K12 hK12 => ?_
        have kimpl_rowsValid_J2 : ∀ (x13 : Bool), impl_rowsValid_J2 (loopF (impl_rowsValid_B1 a0 a1) m) y1 x13 = some o1 → ∀ σ' : PS, okK σ' [(0, .int .i64 a0), (1, .dat a1.length (a1.flatMap c30_d)), (15, .dat a1.length (a1.flatMap c30_d)), (16, .int .i64 (List.length a1 : Int)), (17, .int .i64 y1), (44, .bool x13)] → K12 σ' := by
          intro x13 h σ' hk
          unfold impl_rowsValid_J2 at h
          refine hK12 _ (ls_keep [(0, .int .i64 a0), (1, .dat a1.length (a1.flatMap c30_d)), (15, .dat a1.length (a1.flatMap c30_d)), (16, .int .i64 (List.length a1 : Int)), (17, .int .i64 y1), (44, .bool x13)] hk rfl ?_)
          rcases cond_some h with ⟨g14, h⟩ | ⟨g14, h⟩
          · refine ls_cT rfl g14 ?_
            refine ls_rs tbOk ?_
            refine evs (ev_ac rfl nofun rfl (evn ?_))
            refine ls_keep [(4, .bool false)] ⟨kr, trivial⟩ rfl ?_
            refine ls_ret ?_
            have q0 := (Option.some.inj h).symm
            have r0 := hr1
            rw [q0] at r0
            have hr := Option.some.inj r0
            rw [← hr]
            exact ⟨.inl rfl, rfl⟩
          · refine ls_cF rfl g14 ?_
            refine ls_skip ?_
            refine hK9 _ (ls_keep [(0, .int .i64 a0), (1, .dat a1.length (a1.flatMap c30_d)), (15, .dat a1.length (a1.flatMap c30_d)), (16, .int .i64 (List.length a1 : Int)), (17, .int .i64 y1)] ⟨kr, kr, kr, kr, kr, trivial⟩ rfl ?_)
            refine ls_rgn tbOk ?_
            refine evs (ev_bin (c1 := .int .i64 y1) (c2 := .int .i64 1) rfl rfl rfl (evs (ev_mv (c := .int .i64 (IntKind.i64.wrap (y1 + 1))) rfl rfl rfl (evn ?_))))
            exact hN _ (IntKind.i64.wrap (y1 + 1)) h ⟨kr, kr, kr, kr, kr, trivial⟩
        refine evs (ev_mv (c := .dat e10.length (e10.flatMap ci64)) rfl rfl rfl (evs (ev_len (c1 := .dat e10.length (e10.flatMap ci64)) rfl rfl rfl (evs (ev_mv (c := .int .i64 a0) rfl rfl rfl (evs (ev_bin (c1 := .int .i64 (List.length e10 : Int)) (c2 := .int .i64 a0) rfl rfl rfl (evs (ev_mv (c := .bool ((List.length e10 : Int) != a0)) rfl rfl rfl (?_))))))))))
        rcases cond_some h with ⟨g15, h⟩ | ⟨g15, h⟩
        · refine evs (ev_gs rfl rfl (isb_T g15) (evs (ev_gs rfl rfl (isb_T g15) (evs (ev_gs rfl rfl (isb_T g15) (evs (ev_pkT (c1 := .bool true) rfl g15 rfl rfl (evs (ev_mv (c := .bool true) rfl rfl rfl (evs (ev_gs rfl rfl rfl (evs (ev_gs rfl rfl rfl (evs (ev_gs rfl rfl rfl (evs (ev_gs rfl rfl rfl (evs (ev_gs rfl rfl rfl (evs (ev_gs rfl rfl rfl (evs (ev_gs rfl rfl rfl (evs (ev_gs rfl rfl rfl (evs (ev_gs rfl rfl rfl (evs (ev_gs rfl rfl rfl (evs (ev_gs rfl rfl rfl (evs (ev_gs rfl rfl rfl (evs (ev_pkT (c1 := .bool true) rfl rfl rfl rfl (evn ?_))))))))))))))))))))))))))))))))))))
          exact kimpl_rowsValid_J2 true h _ ⟨kr, kr, kr, kr, kr, kr, trivial⟩
        · refine evs (ev_gr rfl (congrArg V.bool g15) (ev_mv (c := .dat e10.length (e10.flatMap ci64)) rfl rfl rfl (?_)))
          obtain ⟨v16, g17, h⟩ := ob_some h
          refine evs (ev_gr rfl (congrArg V.bool g15) (ev_call (era rfl (erD eci64 _) eran) (impl_AreValidValues_s g17) (evs (ev_gr rfl (congrArg V.bool g15) (ev_un (c1 := .bool v16) rfl trivial (evs (ev_pkF (c1 := .bool (!v16)) rfl g15 rfl rfl (evs (ev_mv (c := .bool (!v16)) rfl rfl rfl (?_))))))))))
          rcases cond_some h with ⟨g18, h⟩ | ⟨g18, h⟩
          · refine evs (ev_gs rfl rfl (isb_T g18) (evs (ev_gs rfl rfl (isb_T g18) (evs (ev_gs rfl rfl (isb_T g18) (evs (ev_gs rfl rfl rfl (evs (ev_gs rfl rfl rfl (evs (ev_gs rfl rfl rfl (evs (ev_gs rfl rfl rfl (evs (ev_gs rfl rfl rfl (evs (ev_gs rfl rfl rfl (evs (ev_gs rfl rfl rfl (evs (ev_gs rfl rfl rfl (evs (ev_gs rfl rfl (isb_T g18) (evs (ev_pkT (c1 := .bool true) rfl g18 rfl rfl (evn ?_))))))))))))))))))))))))))
            exact kimpl_rowsValid_J2 true h _ ⟨kr, kr, kr, kr, kr, kr, trivial⟩
          · refine evs (ev_gr rfl (congrArg V.bool g18) (ev_mv (c := .int .i64 y1) rfl rfl rfl (evs (ev_gr rfl (congrArg V.bool g18) (ev_bin (c1 := .int .i64 y1) (c2 := .int .i64 0) rfl rfl rfl (evs (ev_gr rfl (congrArg V.bool g18) (ev_mv (c := .bool (decide (0 < y1))) rfl rfl rfl (?_)))))))))
            rcases cond_some h with ⟨g19, h⟩ | ⟨g19, h⟩
            · refine evs (ev_gr rfl (congrArg V.bool g19) (ev_mv (c := .dat a1.length (a1.flatMap c30_d)) rfl rfl rfl (evs (ev_gr rfl (congrArg V.bool g19) (ev_mv (c := .int .i64 y1) rfl rfl rfl (evs (ev_gr rfl (congrArg V.bool g19) (ev_bin (c1 := .int .i64 y1) (c2 := .int .i64 1) rfl rfl rfl (?_)))))))))
              obtain ⟨e20, g21, h⟩ := ob_some h
              refine evs (ev_gr rfl (congrArg V.bool g19) (ev_ia rfl rfl rfl ⟨(geti_some g21).1, (geti_some g21).2.1⟩ (evs (ev_gr rfl (congrArg V.bool g19) (ev_ldE (off := 0) (v := .dat e20.length (e20.flatMap ci64)) rfl rfl zc30_d g21 rfl (Nat.le_of_ble_eq_true rfl) rfl (evs (ev_gr rfl (congrArg V.bool g19) (ev_mv (c := .dat e10.length (e10.flatMap ci64)) rfl rfl rfl (?_)))))))))
              obtain ⟨v22, g23, h⟩ := ob_some h
              refine evs (ev_gr rfl (congrArg V.bool g19) (ev_call (era rfl (erD eci64 _) (era rfl (erD eci64 _) eran)) (impl_CompareRows_s g23) (evs (ev_gr rfl (congrArg V.bool g19) (ev_bin (c1 := .int .i64 v22) (c2 := .int .i64 0) rfl rfl rfl (evs (ev_gr rfl (congrArg V.bool g18) (ev_pkT (c1 := .bool (decide (0 ≤ v22))) rfl g19 rfl rfl (evs (ev_pkF (c1 := .bool (decide (0 ≤ v22))) rfl g18 rfl rfl (evn ?_)))))))))))
              exact kimpl_rowsValid_J2 (decide (0 ≤ v22)) h _ ⟨kr, kr, kr, kr, kr, kr, trivial⟩
            · refine evs (ev_gs rfl rfl (isb_F g19) (evs (ev_gs rfl rfl (isb_F g19) (evs (ev_gs rfl rfl (isb_F g19) (evs (ev_gs rfl rfl (isb_F g19) (evs (ev_gs rfl rfl (isb_F g19) (evs (ev_gs rfl rfl (isb_F g19) (evs (ev_gs rfl rfl (isb_F g19) (evs (ev_gs rfl rfl (isb_F g19) (evs (ev_gr rfl (congrArg V.bool g18) (ev_pkF (c1 := .bool false) rfl g19 rfl rfl (evs (ev_pkF (c1 := .bool false) rfl g18 rfl rfl (evn ?_)))))))))))))))))))))
              exact kimpl_rowsValid_J2 false h _ ⟨kr, kr, kr, kr, kr, kr, trivial⟩
      · refine ls_cF rfl g8 ?_
        refine ls_exit ?_
        have q0 := (Option.some.inj h).symm
        have r0 := hr1
        rw [q0] at r0
        exact kXimpl_rowsValid_B1 () r0 _ trivial
def impl_IsValidRelation (a0 : Int × (List (List Int))) : Option (Bool) := obind (impl_rowsValid a0.1 a0.2) fun v1 => some v1
theorem impl_IsValidRelation_s {a0 : Int × (List (List Int))} {r : Bool} (h : impl_IsValidRelation a0 = some r) : SoundAt Try.prog 103 [.agg [.int .i64 a0.1, .dat a0.2.length (a0.2.flatMap c30_d)]] (.bool r) := by
  unfold impl_IsValidRelation at h
  refine sound_lit tbOk lit103 (Nat.le_of_ble_eq_true rfl) rfl ?_
  unfold c103
  refine ls_keep [(0, .agg [.int .i64 a0.1, .dat a0.2.length (a0.2.flatMap c30_d)])] ⟨kr, trivial⟩ rfl ?_
  refine ls_rs tbOk ?_
  refine evs (ev_bx (c1 := .agg [.int .i64 a0.1, .dat a0.2.length (a0.2.flatMap c30_d)]) rfl rfl rfl (evs (ev_ac rfl nofun rfl (evn ?_))))
  refine ls_keep [(1, .box [.int .i64 a0.1, .dat a0.2.length (a0.2.flatMap c30_d)])] ⟨kr, trivial⟩ rfl ?_
  refine ls_rs tbOk ?_
  refine evs (ev_fa (c1 := .cref 1 0) (v := .cref 1 0) rfl rfl rfl ⟨_, rfl⟩ rfl (evs (ev_ldB (off := 0) (v := .int .i64 a0.1) rfl rfl rfl rfl (Nat.le_of_ble_eq_true rfl) rfl (evs (ev_fa (c1 := .cref 1 0) (v := .cref 1 1) rfl rfl rfl ⟨_, rfl⟩ rfl (evs (ev_ldB (off := 1) (v := .dat a0.2.length (a0.2.flatMap c30_d)) rfl rfl rfl rfl (Nat.le_of_ble_eq_true rfl) rfl (?_))))))))
  obtain ⟨v1, g2, h⟩ := ob_some h
  refine evs (ev_call (era rfl rfl (era rfl (erD ec30_d _) eran)) (impl_rowsValid_s g2) (evs (ev_as (c := .bool v1) rfl rfl rfl (evn ?_))))
  refine ls_keep [(2, .bool v1)] ⟨kr, trivial⟩ rfl ?_
  refine ls_ret ?_
  have hr := Option.some.inj h
  rw [← hr]
  exact ⟨.inl rfl, rfl⟩
def impl_isLetters_B1 (a0 : List UInt8) (rec : Int → Option (Sum (Unit) (Bool))) (y1 : Int) : Option (Sum (Unit) (Bool)) := cond (decide (y1 < (List.length a0 : Int))) (obind (geti a0 y1) fun b8 => cond (decide ((UInt8.toNat b8 : Int) < 97)) (some (.inr false)) (obind (geti a0 y1) fun b11 => cond (decide (122 < (UInt8.toNat b11 : Int))) (some (.inr false)) (rec (IntKind.i64.wrap (y1 + 1))))) (some (.inl ()))
def impl_isLetters (a0 : List UInt8) (a1 : Int) : Option (Bool) := cond (decide ((List.length a0 : Int) < 1)) (some false) (cond (decide (a1 < (List.length a0 : Int))) (some false) (obind (loopF (impl_isLetters_B1 a0) fz 0) fun o1 => (match o1 with
  | .inl _ => (some true)
  | .inr r => some r)))
theorem impl_isLetters_s {a0 : List UInt8} {a1 : Int} {r : Bool} (h : impl_isLetters a0 a1 = some r) : SoundAt Try.prog 171 [.str a0, .int .i64 a1] (.bool r) := by
  unfold impl_isLetters at h
  refine sound_lit tbOk lit171 (Nat.le_of_ble_eq_true rfl) rfl ?_
  unfold c171
  refine ls_keep [(0, .str a0), (1, .int .i64 a1)] ⟨kr, kr, trivial⟩ rfl ?_
  refine ls_rs tbOk ?_
  refine evs (ev_ac rfl nofun rfl (evn ?_))
  refine ls_keep [(0, .str a0), (1, .int .i64 a1)] ⟨kr, kr, trivial⟩ rfl ?_
  refine ls_seq_k fun K1 hK1 => ?_
  refine ls_rs tbOk ?_
  refine evs (ev_mv (c := .str a0) rfl rfl rfl (evs (ev_lens (z := []) rfl rfl (evs (ev_bin (c1 := .int .i64 (List.length a0 : Int)) (c2 := .int .i64 1) rfl rfl rfl (evs (ev_mv (c := .bool (decide ((List.length a0 : Int) < 1))) rfl rfl rfl (?_))))))))
  rcases cond_some h with ⟨g2, h⟩ | ⟨g2, h⟩
  · refine evs (ev_gs rfl rfl (isb_T g2) (evs (ev_gs rfl rfl (isb_T g2) (evs (ev_gs rfl rfl (isb_T g2) (evs (ev_gs rfl rfl (isb_T g2) (evs (ev_pkT (c1 := .bool true) rfl g2 rfl rfl (evn ?_))))))))))
    refine ls_keep [(0, .str a0), (14, .bool true)] ⟨kr, kr, trivial⟩ rfl ?_
    refine ls_cT rfl rfl ?_
    refine ls_rs tbOk ?_
    refine evs (ev_ac rfl nofun rfl (evn ?_))
    refine ls_keep [(4, .bool false)] ⟨kr, trivial⟩ rfl ?_
    refine ls_ret ?_
    have hr := Option.some.inj h
    rw [← hr]
    exact ⟨.inl rfl, rfl⟩
  · refine evs (ev_gr rfl (congrArg V.bool g2) (ev_mv (c := .str a0) rfl rfl rfl (evs (ev_gr rfl (congrArg V.bool g2) (ev_lens (z := []) rfl rfl (evs (ev_gr rfl (congrArg V.bool g2) (ev_mv (c := .int .i64 a1) rfl rfl rfl (evs (ev_gr rfl (congrArg V.bool g2) (ev_bin (c1 := .int .i64 (List.length a0 : Int)) (c2 := .int .i64 a1) rfl rfl rfl (evs (ev_pkF (c1 := .bool (decide (a1 < (List.length a0 : Int)))) rfl g2 rfl rfl (evn ?_))))))))))))))
    refine ls_keep [(0, .str a0), (14, .bool (decide (a1 < (List.length a0 : Int))))] ⟨kr, kr, trivial⟩ rfl ?_
    rcases cond_some h with ⟨g3, h⟩ | ⟨g3, h⟩
    · refine ls_cT rfl g3 ?_
      refine ls_rs tbOk ?_
      refine evs (ev_ac rfl nofun rfl (evn ?_))
      refine ls_keep [(4, .bool false)] ⟨kr, trivial⟩ rfl ?_
      refine ls_ret ?_
      have hr := Option.some.inj h
      rw [← hr]
      exact ⟨.inl rfl, rfl⟩
    · refine ls_cF rfl g3 ?_
      refine ls_skip ?_
      refine hK1 _ (ls_keep [(0, .str a0)] ⟨kr, trivial⟩ rfl ?_)
      refine ls_seq_k fun K4 hK4 => ?_
      refine ls_rs tbOk ?_
      refine evs (ev_ac rfl nofun rfl (evn ?_))
      refine ls_keep [(0, .str a0), (5, .int .i64 0)] ⟨kr, kr, trivial⟩ rfl ?_
      obtain ⟨o1, hl, hr1⟩ := ob_some h
      clear h
      have kXimpl_isLetters_B1 : ∀ (_ : Unit), (some true) = some r → ∀ σ' : PS, okK σ' [] → K4 σ' := by
        intro _ h σ' hk
        refine hK4 _ (ls_keep [] hk rfl ?_)
        refine ls_rs tbOk ?_
        refine evs (ev_ac rfl nofun rfl (evn ?_))
        refine ls_keep [(4, .bool true)] ⟨kr, trivial⟩ rfl ?_
        refine ls_ret ?_
        have hr := Option.some.inj h
        rw [← hr]
        exact ⟨.inl rfl, rfl⟩
      refine ls_rec (fun (y1 : Int) => [(0, .str a0), (5, .int .i64 y1)]) (impl_isLetters_B1 a0) fz 0 o1 hl ⟨kr, kr, trivial⟩ (fun _ => rfl) ?_
      rintro m y1 N h hN
      unfold impl_isLetters_B1 at h
      refine ls_seq_k fun K5 hK5 => ?_
      refine ls_rs tbOk ?_
      refine evs (ev_mv (c := .int .i64 y1) rfl rfl rfl (evs (ev_mv (c := .str a0) rfl rfl rfl (evs (ev_lens (z := []) rfl rfl (evs (ev_bin (c1 := .int .i64 y1) (c2 := .int .i64 (List.length a0 : Int)) rfl rfl rfl (evn ?_))))))))
      refine ls_keep [(0, .str a0), (5, .int .i64 y1), (18, .bool (decide (y1 < (List.length a0 : Int))))] ⟨kr, kr, kr, trivial⟩ rfl ?_
      rcases cond_some h with ⟨g6, h⟩ | ⟨g6, h⟩
      · refine ls_cT rfl g6 ?_
        refine ls_skip ?_
        refine hK5 _ (ls_keep [(0, .str a0), (5, .int .i64 y1)] ⟨kr, kr, trivial⟩ rfl ?_)
        refine ls_seq_k fun K7 hK7 => ?_
        refine ls_blk ?_
        refine ls_rs tbOk ?_
        refine evs (ev_mv (c := .str a0) rfl rfl rfl (evs (ev_mv (c := .int .i64 y1) rfl rfl rfl (?_))))
        obtain ⟨b8, g9, h⟩ := ob_some h
        refine evs (ev_six rfl rfl rfl g9 (evs (ev_bin (c1 := .int .u8 (UInt8.toNat b8 : Int)) (c2 := .int .u8 97) rfl rfl rfl (evs (ev_mv (c := .bool (decide ((UInt8.toNat b8 : Int) < 97))) rfl rfl rfl (?_))))))
        rcases cond_some h with ⟨g10, h⟩ | ⟨g10, h⟩
        · refine evs (ev_gs rfl rfl (isb_T g10) (evs (ev_gs rfl rfl (isb_T g10) (evs (ev_gs rfl rfl (isb_T g10) (evs (ev_gs rfl rfl (isb_T g10) (evs (ev_pkT (c1 := .bool true) rfl g10 rfl rfl (evn ?_))))))))))
          refine ls_keep [(0, .str a0), (5, .int .i64 y1), (30, .bool true)] ⟨kr, kr, kr, trivial⟩ rfl ?_
          refine ls_cT rfl rfl ?_
          refine ls_rs tbOk ?_
          refine evs (ev_ac rfl nofun rfl (evn ?_))
          refine ls_keep [(4, .bool false)] ⟨kr, trivial⟩ rfl ?_
          refine ls_ret ?_
          have q0 := (Option.some.inj h).symm
          have r0 := hr1
          rw [q0] at r0
          have hr := Option.some.inj r0
          rw [← hr]
          exact ⟨.inl rfl, rfl⟩
        · refine evs (ev_gr rfl (congrArg V.bool g10) (ev_mv (c := .str a0) rfl rfl rfl (evs (ev_gr rfl (congrArg V.bool g10) (ev_mv (c := .int .i64 y1) rfl rfl rfl (?_))))))
          obtain ⟨b11, g12, h⟩ := ob_some h
          refine evs (ev_gr rfl (congrArg V.bool g10) (ev_six rfl rfl rfl g12 (evs (ev_gr rfl (congrArg V.bool g10) (ev_bin (c1 := .int .u8 (UInt8.toNat b11 : Int)) (c2 := .int .u8 122) rfl rfl rfl (evs (ev_pkF (c1 := .bool (decide (122 < (UInt8.toNat b11 : Int)))) rfl g10 rfl rfl (evn ?_))))))))
          refine ls_keep [(0, .str a0), (5, .int .i64 y1), (30, .bool (decide (122 < (UInt8.toNat b11 : Int))))] ⟨kr, kr, kr, trivial⟩ rfl ?_
          rcases cond_some h with ⟨g13, h⟩ | ⟨g13, h⟩
          · refine ls_cT rfl g13 ?_
            refine ls_rs tbOk ?_
            refine evs (ev_ac rfl nofun rfl (evn ?_))
            refine ls_keep [(4, .bool false)] ⟨kr, trivial⟩ rfl ?_
            refine ls_ret ?_
            have q0 := (Option.some.inj h).symm
            have r0 := hr1
            rw [q0] at r0
            have hr := Option.some.inj r0
            rw [← hr]
            exact ⟨.inl rfl, rfl⟩
          · refine ls_cF rfl g13 ?_
            refine ls_skip ?_
            refine hK7 _ (ls_keep [(0, .str a0), (5, .int .i64 y1)] ⟨kr, kr, trivial⟩ rfl ?_)
            refine ls_rgn tbOk ?_
            refine evs (ev_mv (c := .int .i64 y1) rfl rfl rfl (evs (ev_bin (c1 := .int .i64 y1) (c2 := .int .i64 1) rfl rfl rfl (evs (ev_as (c := .int .i64 (IntKind.i64.wrap (y1 + 1))) rfl rfl rfl (evn ?_))))))
            exact hN _ (IntKind.i64.wrap (y1 + 1)) h ⟨kr, kr, trivial⟩
      · refine ls_cF rfl g6 ?_
        refine ls_exit ?_
        have q0 := (Option.some.inj h).symm
        have r0 := hr1
        rw [q0] at r0
        exact kXimpl_isLetters_B1 () r0 _ trivial
def impl_IsValidName (a0 : List UInt8) : Option (Bool) := obind (impl_isLetters a0 4) fun v1 => some v1
theorem impl_IsValidName_s {a0 : List UInt8} {r : Bool} (h : impl_IsValidName a0 = some r) : SoundAt Try.prog 159 [.str a0] (.bool r) := by
  unfold impl_IsValidName at h
  refine sound_lit tbOk lit159 (Nat.le_of_ble_eq_true rfl) rfl ?_
  unfold c159
  refine ls_keep [(0, .str a0)] ⟨kr, trivial⟩ rfl ?_
  refine ls_rs tbOk ?_
  refine evs (ev_ac rfl nofun rfl (evn ?_))
  refine ls_keep [(0, .str a0)] ⟨kr, trivial⟩ rfl ?_
  refine ls_rs tbOk ?_
  refine evs (ev_mv (c := .str a0) rfl rfl rfl (?_))
  obtain ⟨v1, g2, h⟩ := ob_some h
  refine evs (ev_call (era rfl rfl (era rfl rfl eran)) (impl_isLetters_s g2) (evs (ev_as (c := .bool v1) rfl rfl rfl (evn ?_))))
  refine ls_keep [(2, .bool v1)] ⟨kr, trivial⟩ rfl ?_
  refine ls_ret ?_
  have hr := Option.some.inj h
  rw [← hr]
  exact ⟨.inl rfl, rfl⟩
def impl_IsValidDatabase_J2 (rec : Int → Option (Sum (Unit) (Bool))) (y1 : Int) (x10 : Bool) : Option (Sum (Unit) (Bool)) := cond x10 (some (.inr false)) (rec (IntKind.i64.wrap (y1 + 1)))
def impl_IsValidDatabase_B1 (a0 : (List ((List UInt8) × (Int × (List (List Int)))))) (rec : Int → Option (Sum (Unit) (Bool))) (y1 : Int) : Option (Sum (Unit) (Bool)) := cond (decide (y1 < (List.length a0 : Int))) (obind (geti a0 y1) fun e7 => obind (impl_IsValidName e7.1) fun v12 => cond (!v12) (impl_IsValidDatabase_J2 rec y1 true) (cond (decide (0 < y1)) (obind (geti a0 (IntKind.i64.wrap (y1 - 1))) fun e16 => cond (!Op.bytesLess e16.1 e7.1) (impl_IsValidDatabase_J2 rec y1 true) (obind (impl_IsValidRelation e7.2) fun v19 => cond (!v19) (impl_IsValidDatabase_J2 rec y1 true) (cond (decide (e7.2.1 < 1)) (impl_IsValidDatabase_J2 rec y1 true) (impl_IsValidDatabase_J2 rec y1 (decide (16 < (List.length e7.2.2 : Int))))))) (obind (impl_IsValidRelation e7.2) fun v23 => cond (!v23) (impl_IsValidDatabase_J2 rec y1 true) (cond (decide (e7.2.1 < 1)) (impl_IsValidDatabase_J2 rec y1 true) (impl_IsValidDatabase_J2 rec y1 (decide (16 < (List.length e7.2.2 : Int)))))))) (some (.inl ()))
def impl_IsValidDatabase (a0 : (List ((List UInt8) × (Int × (List (List Int)))))) : Option (Bool) := cond (decide (6 < (List.length a0 : Int))) (some false) (obind (loopF (impl_IsValidDatabase_B1 a0) fz 0) fun o1 => (match o1 with
  | .inl _ => (some true)
  | .inr r => some r))
theorem impl_IsValidDatabase_s {a0 : (List ((List UInt8) × (Int × (List (List Int)))))} {r : Bool} (h : impl_IsValidDatabase a0 = some r) : SoundAt Try.prog 122 [.agg [.dat a0.length (a0.flatMap c157_dd)]] (.bool r) := by
  unfold impl_IsValidDatabase at h
  refine sound_lit tbOk lit122 (Nat.le_of_ble_eq_true rfl) rfl ?_
  unfold c122
  refine ls_keep [(0, .agg [.dat a0.length (a0.flatMap c157_dd)])] ⟨kr, trivial⟩ rfl ?_
  refine ls_rs tbOk ?_
  refine evs (ev_bx (c1 := .agg [.dat a0.length (a0.flatMap c157_dd)]) rfl rfl rfl (evs (ev_ac rfl nofun rfl (evn ?_))))
  refine ls_keep [(1, .box [.dat a0.length (a0.flatMap c157_dd)])] ⟨kr, trivial⟩ rfl ?_
  refine ls_seq_k fun K1 hK1 => ?_
  refine ls_rs tbOk ?_
  refine evs (ev_fa (c1 := .cref 1 0) (v := .cref 1 0) rfl rfl rfl ⟨_, rfl⟩ rfl (evs (ev_ldB (off := 0) (v := .dat a0.length (a0.flatMap c157_dd)) rfl rfl rfl rfl (Nat.le_of_ble_eq_true rfl) rfl (evs (ev_len (c1 := .dat a0.length (a0.flatMap c157_dd)) rfl rfl rfl (evs (ev_bin (c1 := .int .i64 (List.length a0 : Int)) (c2 := .int .i64 6) rfl rfl rfl (evn ?_))))))))
  refine ls_keep [(1, .box [.dat a0.length (a0.flatMap c157_dd)]), (8, .bool (decide (6 < (List.length a0 : Int))))] ⟨kr, kr, trivial⟩ rfl ?_
  rcases cond_some h with ⟨g2, h⟩ | ⟨g2, h⟩
  · refine ls_cT rfl g2 ?_
    refine ls_rs tbOk ?_
    refine evs (ev_ac rfl nofun rfl (evn ?_))
    refine ls_keep [(2, .bool false)] ⟨kr, trivial⟩ rfl ?_
    refine ls_ret ?_
    have hr := Option.some.inj h
    rw [← hr]
    exact ⟨.inl rfl, rfl⟩
  · refine ls_cF rfl g2 ?_
    refine ls_skip ?_
    refine hK1 _ (ls_keep [(1, .box [.dat a0.length (a0.flatMap c157_dd)])] ⟨kr, trivial⟩ rfl ?_)
    refine ls_seq_k fun K3 hK3 => ?_
    refine ls_rs tbOk ?_
    refine evs (ev_fa (c1 := .cref 1 0) (v := .cref 1 0) rfl rfl rfl ⟨_, rfl⟩ rfl (evs (ev_ldB (off := 0) (v := .dat a0.length (a0.flatMap c157_dd)) rfl rfl rfl rfl (Nat.le_of_ble_eq_true rfl) rfl (evs (ev_len (c1 := .dat a0.length (a0.flatMap c157_dd)) rfl rfl rfl (evs (ev_mc rfl rfl (evn ?_))))))))
    refine ls_keep [(1, .box [.dat a0.length (a0.flatMap c157_dd)]), (10, .dat a0.length (a0.flatMap c157_dd)), (11, .int .i64 (List.length a0 : Int)), (12, .int .i64 0)] ⟨kr, kr, kr, kr, trivial⟩ rfl ?_
    obtain ⟨o1, hl, hr1⟩ := ob_some h
    clear h
    have kXimpl_IsValidDatabase_B1 : ∀ (_ : Unit), (some true) = some r → ∀ σ' : PS, okK σ' [] → K3 σ' := by
      intro _ h σ' hk
      refine hK3 _ (ls_keep [] hk rfl ?_)
      refine ls_rs tbOk ?_
      refine evs (ev_ac rfl nofun rfl (evn ?_))
      refine ls_keep [(2, .bool true)] ⟨kr, trivial⟩ rfl ?_
      refine ls_ret ?_
      have hr := Option.some.inj h
      rw [← hr]
      exact ⟨.inl rfl, rfl⟩
    refine ls_rec (fun (y1 : Int) => [(1, .box [.dat a0.length (a0.flatMap c157_dd)]), (10, .dat a0.length (a0.flatMap c157_dd)), (11, .int .i64 (List.length a0 : Int)), (12, .int .i64 y1)]) (impl_IsValidDatabase_B1 a0) fz 0 o1 hl ⟨kr, kr, kr, kr, trivial⟩ (fun _ => rfl) ?_
    rintro m y1 N h hN
    unfold impl_IsValidDatabase_B1 at h
    refine ls_rs tbOk ?_
    refine evs (ev_bin (c1 := .int .i64 y1) (c2 := .int .i64 (List.length a0 : Int)) rfl rfl rfl (evn ?_))
    refine ls_keep [(1, .box [.dat a0.length (a0.flatMap c157_dd)]), (10, .dat a0.length (a0.flatMap c157_dd)), (11, .int .i64 (List.length a0 : Int)), (12, .int .i64 y1), (13, .bool (decide (y1 < (List.length a0 : Int))))] ⟨kr, kr, kr, kr, kr, trivial⟩ rfl ?_
    refine ls_seq_k fun K4 hK4 => ?_
    rcases cond_some h with ⟨g5, h⟩ | ⟨g5, h⟩
    · refine ls_cT rfl g5 ?_
      refine ls_skip ?_
      refine hK4 _ (ls_keep [(1, .box [.dat a0.length (a0.flatMap c157_dd)]), (10, .dat a0.length (a0.flatMap c157_dd)), (11, .int .i64 (List.length a0 : Int)), (12, .int .i64 y1)] ⟨kr, kr, kr, kr, trivial⟩ rfl ?_)
      refine ls_seq_k fun K6 hK6 => ?_
      refine ls_blk ?_
      refine ls_rs tbOk ?_
      refine evs (ev_mv (c := .int .i64 y1) rfl rfl rfl (?_))
      obtain ⟨e7, g8, h⟩ := ob_some h
      refine evs (ev_ia rfl rfl rfl ⟨(geti_some g8).1, (geti_some g8).2.1⟩ (evs (ev_ldEt (off := 0) (v := .agg [.str e7.1, .int .i64 e7.2.1, .dat e7.2.2.length (e7.2.2.flatMap c30_d)]) rfl rfl zc157_dd g8 rfl (Nat.le_of_ble_eq_true rfl) rfl (evs (ev_al rfl rfl (evs (ev_as (c := .int .i64 y1) rfl rfl rfl (evs (ev_st (off := 0) (c1 := .agg [.str e7.1, .int .i64 e7.2.1, .dat e7.2.2.length (e7.2.2.flatMap c30_d)]) (cs' := [.str e7.1, .int .i64 e7.2.1, .dat e7.2.2.length (e7.2.2.flatMap c30_d)]) rfl rfl rfl rfl rfl rfl (Nat.le_of_ble_eq_true rfl) rfl (evn ?_))))))))))
      refine ls_keep [(1, .box [.dat a0.length (a0.flatMap c157_dd)]), (3, .int .i64 y1), (4, .box [.str e7.1, .int .i64 e7.2.1, .dat e7.2.2.length (e7.2.2.flatMap c30_d)]), (10, .dat a0.length (a0.flatMap c157_dd)), (11, .int .i64 (List.length a0 : Int)), (12, .int .i64 y1)] ⟨kr, kr, kr, kr, kr, kr, trivial⟩ rfl ?_
      refine ls_rd_k tbOk mixed (by kernel_rfl) fun K9 hK9 => ?_
      have kimpl_IsValidDatabase_J2 : ∀ (x10 : Bool), impl_IsValidDatabase_J2 (loopF (impl_IsValidDatabase_B1 a0) m) y1 x10 = some o1 → ∀ σ' : PS, okK σ' [(1, .box [.dat a0.length (a0.flatMap c157_dd)]), (10, .dat a0.length (a0.flatMap c157_dd)), (11, .int .i64 (List.length a0 : Int)), (12, .int .i64 y1), (55, .bool x10)] → K9 σ' := by
        intro x10 h σ' hk
        unfold impl_IsValidDatabase_J2 at h
        refine hK9 _ (ls_keep [(1, .box [.dat a0.length (a0.flatMap c157_dd)]), (10, .dat a0.length (a0.flatMap c157_dd)), (11, .int .i64 (List.length a0 : Int)), (12, .int .i64 y1), (55, .bool x10)] hk rfl ?_)
        rcases cond_some h with ⟨g11, h⟩ | ⟨g11, h⟩
        · refine ls_cT rfl g11 ?_
          refine ls_rs tbOk ?_
          refine evs (ev_ac rfl nofun rfl (evn ?_))
          refine ls_keep [(2, .bool false)] ⟨kr, trivial⟩ rfl ?_
          refine ls_ret ?_
          have q0 := (Option.some.inj h).symm
          have r0 := hr1
          rw [q0] at r0
          have hr := Option.some.inj r0
          rw [← hr]
          exact ⟨.inl rfl, rfl⟩
        · refine ls_cF rfl g11 ?_
          refine ls_skip ?_
          refine hK6 _ (ls_keep [(1, .box [.dat a0.length (a0.flatMap c157_dd)]), (10, .dat a0.length (a0.flatMap c157_dd)), (11, .int .i64 (List.length a0 : Int)), (12, .int .i64 y1)] ⟨kr, kr, kr, kr, trivial⟩ rfl ?_)
          refine ls_rgn tbOk ?_
          refine evs (ev_bin (c1 := .int .i64 y1) (c2 := .int .i64 1) rfl rfl rfl (evs (ev_mv (c := .int .i64 (IntKind.i64.wrap (y1 + 1))) rfl rfl rfl (evn ?_))))
          exact hN _ (IntKind.i64.wrap (y1 + 1)) h ⟨kr, kr, kr, kr, trivial⟩
      refine evd rfl rfl (ev_fa (c1 := .cref 4 0) (v := .cref 4 0) rfl rfl rfl ⟨_, rfl⟩ rfl (evd rfl rfl (ev_ldB (off := 0) (v := .str e7.1) rfl rfl rfl rfl (Nat.le_of_ble_eq_true rfl) rfl (?_))))
      obtain ⟨v12, g13, h⟩ := ob_some h
      refine evd rfl rfl (ev_call (era rfl rfl eran) (impl_IsValidName_s g13) (evd rfl rfl (ev_un (c1 := .bool v12) rfl trivial (evd rfl rfl (ev_mv (c := .bool (!v12)) rfl rfl rfl (?_))))))
      rcases cond_some h with ⟨g14, h⟩ | ⟨g14, h⟩
      · refine evd rfl rfl (ev_gs rfl rfl (isb_T g14) (evd rfl rfl (ev_gs rfl rfl (isb_T g14) (evd rfl rfl (ev_gs rfl rfl (isb_T g14) (evd rfl rfl (ev_gs rfl rfl rfl (evd rfl rfl (ev_gs rfl rfl rfl (evd rfl rfl (ev_gs rfl rfl rfl (evd rfl rfl (ev_gs rfl rfl rfl (evd rfl rfl (ev_gs rfl rfl rfl (evd rfl rfl (ev_gs rfl rfl rfl (evd rfl rfl (ev_gs rfl rfl rfl (evd rfl rfl (ev_gs rfl rfl rfl (evd rfl rfl (ev_gs rfl rfl rfl (evd rfl rfl (ev_gs rfl rfl rfl (evd rfl rfl (ev_gs rfl rfl (isb_T g14) (evd rfl rfl (ev_pkT (c1 := .bool true) rfl g14 rfl rfl (evd rfl rfl (ev_mv (c := .bool true) rfl rfl rfl (evd rfl rfl (ev_gs rfl rfl rfl (evd rfl rfl (ev_gs rfl rfl rfl (evd rfl rfl (ev_gs rfl rfl rfl (evd rfl rfl (ev_gs rfl rfl rfl (evd rfl rfl (ev_pkT (c1 := .bool true) rfl rfl rfl rfl (evd rfl rfl (ev_mv (c := .bool true) rfl rfl rfl (evd rfl rfl (ev_gs rfl rfl rfl (evd rfl rfl (ev_gs rfl rfl rfl (evd rfl rfl (ev_gs rfl rfl rfl (evd rfl rfl (ev_gs rfl rfl rfl (evd rfl rfl (ev_pkT (c1 := .bool true) rfl rfl rfl rfl (evd rfl rfl (ev_mv (c := .bool true) rfl rfl rfl (evd rfl rfl (ev_gs rfl rfl rfl (evd rfl rfl (ev_gs rfl rfl rfl (evd rfl rfl (ev_gs rfl rfl rfl (evd rfl rfl (ev_gs rfl rfl rfl (evd rfl rfl (ev_gs rfl rfl rfl (evd rfl rfl (ev_pkT (c1 := .bool true) rfl rfl rfl rfl (evdn ?_))))))))))))))))))))))))))))))))))))))))))))))))))))))))))))))))))))
        exact kimpl_IsValidDatabase_J2 true h _ ⟨kr, kr, kr, kr, kr, trivial⟩
      · refine evd rfl rfl (ev_gr rfl (congrArg V.bool g14) (ev_mv (c := .int .i64 y1) rfl rfl rfl (evd rfl rfl (ev_gr rfl (congrArg V.bool g14) (ev_bin (c1 := .int .i64 y1) (c2 := .int .i64 0) rfl rfl rfl (evd rfl rfl (ev_gr rfl (congrArg V.bool g14) (ev_mv (c := .bool (decide (0 < y1))) rfl rfl rfl (?_)))))))))
        rcases cond_some h with ⟨g15, h⟩ | ⟨g15, h⟩
        · refine evd rfl rfl (ev_gr rfl (congrArg V.bool g15) (ev_fa (c1 := .cref 1 0) (v := .cref 1 0) rfl rfl rfl ⟨_, rfl⟩ rfl (evd rfl rfl (ev_gr rfl (congrArg V.bool g15) (ev_ldB (off := 0) (v := .dat a0.length (a0.flatMap c157_dd)) rfl rfl rfl rfl (Nat.le_of_ble_eq_true rfl) rfl (evd rfl rfl (ev_gr rfl (congrArg V.bool g15) (ev_mv (c := .int .i64 y1) rfl rfl rfl (evd rfl rfl (ev_gr rfl (congrArg V.bool g15) (ev_bin (c1 := .int .i64 y1) (c2 := .int .i64 1) rfl rfl rfl (?_))))))))))))
          obtain ⟨e16, g17, h⟩ := ob_some h
          refine evd rfl rfl (ev_gr rfl (congrArg V.bool g15) (ev_ia rfl rfl rfl ⟨(geti_some g17).1, (geti_some g17).2.1⟩ (evd rfl rfl (ev_gr rfl (congrArg V.bool g15) (ev_fa (c1 := .adr (a0.flatMap c157_dd) (Int.toNat (IntKind.i64.wrap (y1 - 1)) * 3)) (v := .adr (a0.flatMap c157_dd) (Int.toNat (IntKind.i64.wrap (y1 - 1)) * 3)) rfl rfl rfl trivial rfl (evd rfl rfl (ev_gr rfl (congrArg V.bool g15) (ev_ldE (off := 0) (v := .str e16.1) rfl rfl zc157_dd g17 rfl (Nat.le_of_ble_eq_true rfl) rfl (evd rfl rfl (ev_gr rfl (congrArg V.bool g15) (ev_fa (c1 := .cref 4 0) (v := .cref 4 0) rfl rfl rfl ⟨_, rfl⟩ rfl (evd rfl rfl (ev_gr rfl (congrArg V.bool g15) (ev_ldB (off := 0) (v := .str e7.1) rfl rfl rfl rfl (Nat.le_of_ble_eq_true rfl) rfl (evd rfl rfl (ev_gr rfl (congrArg V.bool g15) (ev_bin (c1 := .str e16.1) (c2 := .str e7.1) rfl rfl trivial (evd rfl rfl (ev_gr rfl (congrArg V.bool g14) (ev_pkT (c1 := .bool (!Op.bytesLess e16.1 e7.1)) rfl g15 rfl rfl (evd rfl rfl (ev_pkF (c1 := .bool (!Op.bytesLess e16.1 e7.1)) rfl g14 rfl rfl (evd rfl rfl (ev_mv (c := .bool (!Op.bytesLess e16.1 e7.1)) rfl rfl rfl (?_)))))))))))))))))))))))))
          rcases cond_some h with ⟨g18, h⟩ | ⟨g18, h⟩
          · refine evd rfl rfl (ev_gs rfl rfl (isb_T g18) (evd rfl rfl (ev_gs rfl rfl (isb_T g18) (evd rfl rfl (ev_gs rfl rfl (isb_T g18) (evd rfl rfl (ev_gs rfl rfl (isb_T g18) (evd rfl rfl (ev_pkT (c1 := .bool true) rfl g18 rfl rfl (evd rfl rfl (ev_mv (c := .bool true) rfl rfl rfl (evd rfl rfl (ev_gs rfl rfl rfl (evd rfl rfl (ev_gs rfl rfl rfl (evd rfl rfl (ev_gs rfl rfl rfl (evd rfl rfl (ev_gs rfl rfl rfl (evd rfl rfl (ev_pkT (c1 := .bool true) rfl rfl rfl rfl (evd rfl rfl (ev_mv (c := .bool true) rfl rfl rfl (evd rfl rfl (ev_gs rfl rfl rfl (evd rfl rfl (ev_gs rfl rfl rfl (evd rfl rfl (ev_gs rfl rfl rfl (evd rfl rfl (ev_gs rfl rfl rfl (evd rfl rfl (ev_gs rfl rfl rfl (evd rfl rfl (ev_pkT (c1 := .bool true) rfl rfl rfl rfl (evdn ?_))))))))))))))))))))))))))))))))))))
            exact kimpl_IsValidDatabase_J2 true h _ ⟨kr, kr, kr, kr, kr, trivial⟩
          · refine evd rfl rfl (ev_gr rfl (congrArg V.bool g18) (ev_fa (c1 := .cref 4 0) (v := .cref 4 1) rfl rfl rfl ⟨_, rfl⟩ rfl (evd rfl rfl (ev_gr rfl (congrArg V.bool g18) (ev_ldB (off := 1) (v := .agg [.int .i64 e7.2.1, .dat e7.2.2.length (e7.2.2.flatMap c30_d)]) rfl rfl rfl rfl (Nat.le_of_ble_eq_true rfl) rfl (?_))))))
            obtain ⟨v19, g20, h⟩ := ob_some h
            refine evd rfl rfl (ev_gr rfl (congrArg V.bool g18) (ev_call (era rfl (erg (erc rfl (erc (erD ec30_d _) rfl))) eran) (impl_IsValidRelation_s g20) (evd rfl rfl (ev_gr rfl (congrArg V.bool g18) (ev_un (c1 := .bool v19) rfl trivial (evd rfl rfl (ev_pkF (c1 := .bool (!v19)) rfl g18 rfl rfl (evd rfl rfl (ev_mv (c := .bool (!v19)) rfl rfl rfl (?_))))))))))
            rcases cond_some h with ⟨g21, h⟩ | ⟨g21, h⟩
            · refine evd rfl rfl (ev_gs rfl rfl (isb_T g21) (evd rfl rfl (ev_gs rfl rfl (isb_T g21) (evd rfl rfl (ev_gs rfl rfl (isb_T g21) (evd rfl rfl (ev_gs rfl rfl (isb_T g21) (evd rfl rfl (ev_pkT (c1 := .bool true) rfl g21 rfl rfl (evd rfl rfl (ev_mv (c := .bool true) rfl rfl rfl (evd rfl rfl (ev_gs rfl rfl rfl (evd rfl rfl (ev_gs rfl rfl rfl (evd rfl rfl (ev_gs rfl rfl rfl (evd rfl rfl (ev_gs rfl rfl rfl (evd rfl rfl (ev_gs rfl rfl rfl (evd rfl rfl (ev_pkT (c1 := .bool true) rfl rfl rfl rfl (evdn ?_))))))))))))))))))))))))
              exact kimpl_IsValidDatabase_J2 true h _ ⟨kr, kr, kr, kr, kr, trivial⟩
            · refine evd rfl rfl (ev_gr rfl (congrArg V.bool g21) (ev_fa (c1 := .cref 4 0) (v := .cref 4 1) rfl rfl rfl ⟨_, rfl⟩ rfl (evd rfl rfl (ev_gr rfl (congrArg V.bool g21) (ev_fa (c1 := .cref 4 1) (v := .cref 4 1) rfl rfl rfl ⟨_, rfl⟩ rfl (evd rfl rfl (ev_gr rfl (congrArg V.bool g21) (ev_ldB (off := 1) (v := .int .i64 e7.2.1) rfl rfl rfl rfl (Nat.le_of_ble_eq_true rfl) rfl (evd rfl rfl (ev_gr rfl (congrArg V.bool g21) (ev_bin (c1 := .int .i64 e7.2.1) (c2 := .int .i64 1) rfl rfl rfl (evd rfl rfl (ev_pkF (c1 := .bool (decide (e7.2.1 < 1))) rfl g21 rfl rfl (evd rfl rfl (ev_mv (c := .bool (decide (e7.2.1 < 1))) rfl rfl rfl (?_))))))))))))))))
              rcases cond_some h with ⟨g22, h⟩ | ⟨g22, h⟩
              · refine evd rfl rfl (ev_gs rfl rfl (isb_T g22) (evd rfl rfl (ev_gs rfl rfl (isb_T g22) (evd rfl rfl (ev_gs rfl rfl (isb_T g22) (evd rfl rfl (ev_gs rfl rfl (isb_T g22) (evd rfl rfl (ev_gs rfl rfl (isb_T g22) (evd rfl rfl (ev_pkT (c1 := .bool true) rfl g22 rfl rfl (evdn ?_))))))))))))
                exact kimpl_IsValidDatabase_J2 true h _ ⟨kr, kr, kr, kr, kr, trivial⟩
              · refine evd rfl rfl (ev_gr rfl (congrArg V.bool g22) (ev_fa (c1 := .cref 4 0) (v := .cref 4 1) rfl rfl rfl ⟨_, rfl⟩ rfl (evd rfl rfl (ev_gr rfl (congrArg V.bool g22) (ev_fa (c1 := .cref 4 1) (v := .cref 4 2) rfl rfl rfl ⟨_, rfl⟩ rfl (evd rfl rfl (ev_gr rfl (congrArg V.bool g22) (ev_ldB (off := 2) (v := .dat e7.2.2.length (e7.2.2.flatMap c30_d)) rfl rfl rfl rfl (Nat.le_of_ble_eq_true rfl) rfl (evd rfl rfl (ev_gr rfl (congrArg V.bool g22) (ev_len (c1 := .dat e7.2.2.length (e7.2.2.flatMap c30_d)) rfl rfl rfl (evd rfl rfl (ev_gr rfl (congrArg V.bool g22) (ev_bin (c1 := .int .i64 (List.length e7.2.2 : Int)) (c2 := .int .i64 16) rfl rfl rfl (evd rfl rfl (ev_pkF (c1 := .bool (decide (16 < (List.length e7.2.2 : Int)))) rfl g22 rfl rfl (evdn ?_)))))))))))))))))
                exact kimpl_IsValidDatabase_J2 (decide (16 < (List.length e7.2.2 : Int))) h _ ⟨kr, kr, kr, kr, kr, trivial⟩
        · refine evd rfl rfl (ev_gs rfl rfl (isb_F g15) (evd rfl rfl (ev_gs rfl rfl (isb_F g15) (evd rfl rfl (ev_gs rfl rfl (isb_F g15) (evd rfl rfl (ev_gs rfl rfl (isb_F g15) (evd rfl rfl (ev_gs rfl rfl (isb_F g15) (evd rfl rfl (ev_gs rfl rfl (isb_F g15) (evd rfl rfl (ev_gs rfl rfl (isb_F g15) (evd rfl rfl (ev_gs rfl rfl (isb_F g15) (evd rfl rfl (ev_gs rfl rfl (isb_F g15) (evd rfl rfl (ev_gs rfl rfl (isb_F g15) (evd rfl rfl (ev_gr rfl (congrArg V.bool g14) (ev_pkF (c1 := .bool false) rfl g15 rfl rfl (evd rfl rfl (ev_pkF (c1 := .bool false) rfl g14 rfl rfl (evd rfl rfl (ev_mv (c := .bool false) rfl rfl rfl (evd rfl rfl (ev_gr rfl rfl (ev_fa (c1 := .cref 4 0) (v := .cref 4 1) rfl rfl rfl ⟨_, rfl⟩ rfl (evd rfl rfl (ev_gr rfl rfl (ev_ldB (off := 1) (v := .agg [.int .i64 e7.2.1, .dat e7.2.2.length (e7.2.2.flatMap c30_d)]) rfl rfl rfl rfl (Nat.le_of_ble_eq_true rfl) rfl (?_)))))))))))))))))))))))))))))))))
          obtain ⟨v23, g24, h⟩ := ob_some h
          refine evd rfl rfl (ev_gr rfl rfl (ev_call (era rfl (erg (erc rfl (erc (erD ec30_d _) rfl))) eran) (impl_IsValidRelation_s g24) (evd rfl rfl (ev_gr rfl rfl (ev_un (c1 := .bool v23) rfl trivial (evd rfl rfl (ev_pkF (c1 := .bool (!v23)) rfl rfl rfl rfl (evd rfl rfl (ev_mv (c := .bool (!v23)) rfl rfl rfl (?_))))))))))
          rcases cond_some h with ⟨g25, h⟩ | ⟨g25, h⟩
          · refine evd rfl rfl (ev_gs rfl rfl (isb_T g25) (evd rfl rfl (ev_gs rfl rfl (isb_T g25) (evd rfl rfl (ev_gs rfl rfl (isb_T g25) (evd rfl rfl (ev_gs rfl rfl (isb_T g25) (evd rfl rfl (ev_pkT (c1 := .bool true) rfl g25 rfl rfl (evd rfl rfl (ev_mv (c := .bool true) rfl rfl rfl (evd rfl rfl (ev_gs rfl rfl rfl (evd rfl rfl (ev_gs rfl rfl rfl (evd rfl rfl (ev_gs rfl rfl rfl (evd rfl rfl (ev_gs rfl rfl rfl (evd rfl rfl (ev_gs rfl rfl rfl (evd rfl rfl (ev_pkT (c1 := .bool true) rfl rfl rfl rfl (evdn ?_))))))))))))))))))))))))
            exact kimpl_IsValidDatabase_J2 true h _ ⟨kr, kr, kr, kr, kr, trivial⟩
          · refine evd rfl rfl (ev_gr rfl (congrArg V.bool g25) (ev_fa (c1 := .cref 4 0) (v := .cref 4 1) rfl rfl rfl ⟨_, rfl⟩ rfl (evd rfl rfl (ev_gr rfl (congrArg V.bool g25) (ev_fa (c1 := .cref 4 1) (v := .cref 4 1) rfl rfl rfl ⟨_, rfl⟩ rfl (evd rfl rfl (ev_gr rfl (congrArg V.bool g25) (ev_ldB (off := 1) (v := .int .i64 e7.2.1) rfl rfl rfl rfl (Nat.le_of_ble_eq_true rfl) rfl (evd rfl rfl (ev_gr rfl (congrArg V.bool g25) (ev_bin (c1 := .int .i64 e7.2.1) (c2 := .int .i64 1) rfl rfl rfl (evd rfl rfl (ev_pkF (c1 := .bool (decide (e7.2.1 < 1))) rfl g25 rfl rfl (evd rfl rfl (ev_mv (c := .bool (decide (e7.2.1 < 1))) rfl rfl rfl (?_))))))))))))))))
            rcases cond_some h with ⟨g26, h⟩ | ⟨g26, h⟩
            · refine evd rfl rfl (ev_gs rfl rfl (isb_T g26) (evd rfl rfl (ev_gs rfl rfl (isb_T g26) (evd rfl rfl (ev_gs rfl rfl (isb_T g26) (evd rfl rfl (ev_gs rfl rfl (isb_T g26) (evd rfl rfl (ev_gs rfl rfl (isb_T g26) (evd rfl rfl (ev_pkT (c1 := .bool true) rfl g26 rfl rfl (evdn ?_))))))))))))
              exact kimpl_IsValidDatabase_J2 true h _ ⟨kr, kr, kr, kr, kr, trivial⟩
            · refine evd rfl rfl (ev_gr rfl (congrArg V.bool g26) (ev_fa (c1 := .cref 4 0) (v := .cref 4 1) rfl rfl rfl ⟨_, rfl⟩ rfl (evd rfl rfl (ev_gr rfl (congrArg V.bool g26) (ev_fa (c1 := .cref 4 1) (v := .cref 4 2) rfl rfl rfl ⟨_, rfl⟩ rfl (evd rfl rfl (ev_gr rfl (congrArg V.bool g26) (ev_ldB (off := 2) (v := .dat e7.2.2.length (e7.2.2.flatMap c30_d)) rfl rfl rfl rfl (Nat.le_of_ble_eq_true rfl) rfl (evd rfl rfl (ev_gr rfl (congrArg V.bool g26) (ev_len (c1 := .dat e7.2.2.length (e7.2.2.flatMap c30_d)) rfl rfl rfl (evd rfl rfl (ev_gr rfl (congrArg V.bool g26) (ev_bin (c1 := .int .i64 (List.length e7.2.2 : Int)) (c2 := .int .i64 16) rfl rfl rfl (evd rfl rfl (ev_pkF (c1 := .bool (decide (16 < (List.length e7.2.2 : Int)))) rfl g26 rfl rfl (evdn ?_)))))))))))))))))
              exact kimpl_IsValidDatabase_J2 (decide (16 < (List.length e7.2.2 : Int))) h _ ⟨kr, kr, kr, kr, kr, trivial⟩
    · refine ls_cF rfl g5 ?_
      refine ls_exit ?_
      have q0 := (Option.some.inj h).symm
      have r0 := hr1
      rw [q0] at r0
      exact kXimpl_IsValidDatabase_B1 () r0 _ trivial
def impl_IsValidHistory_B1 (a0 : Int × (List ((List ((List UInt8) × (Int × (List (List Int)))))))) (rec : Int → Option (Sum (Unit) (Bool))) (y1 : Int) : Option (Sum (Unit) (Bool)) := cond (decide (y1 < (List.length a0.2 : Int))) (obind (geti a0.2 y1) fun e12 => obind (impl_IsValidDatabase e12) fun v14 => cond (!v14) (some (.inr false)) (rec (IntKind.i64.wrap (y1 + 1)))) (some (.inl ()))
def impl_IsValidHistory (a0 : Int × (List ((List ((List UInt8) × (Int × (List (List Int)))))))) : Option (Bool) := obind (impl_within (List.length a0.2 : Int) 1 6) fun v2 => cond (!v2) (some false) (obind (impl_within a0.1 1 (IntKind.i64.wrap ((IntKind.i64.wrap (99 - (List.length a0.2 : Int))) + 1))) fun v5 => cond (!v5) (some false) (obind (loopF (impl_IsValidHistory_B1 a0) fz 0) fun o1 => (match o1 with
  | .inl _ => (some true)
  | .inr r => some r)))
theorem impl_IsValidHistory_s {a0 : Int × (List ((List ((List UInt8) × (Int × (List (List Int)))))))} {r : Bool} (h : impl_IsValidHistory a0 = some r) : SoundAt Try.prog 48 [.agg [.int .i64 a0.1, .dat a0.2.length (a0.2.flatMap c100_ddd)]] (.bool r) := by
  unfold impl_IsValidHistory at h
  refine sound_lit tbOk lit48 (Nat.le_of_ble_eq_true rfl) rfl ?_
  unfold c48
  refine ls_keep [(0, .agg [.int .i64 a0.1, .dat a0.2.length (a0.2.flatMap c100_ddd)])] ⟨kr, trivial⟩ rfl ?_
  refine ls_rs tbOk ?_
  refine evs (ev_bx (c1 := .agg [.int .i64 a0.1, .dat a0.2.length (a0.2.flatMap c100_ddd)]) rfl rfl rfl (evs (ev_ac rfl nofun rfl (evn ?_))))
  refine ls_keep [(1, .box [.int .i64 a0.1, .dat a0.2.length (a0.2.flatMap c100_ddd)])] ⟨kr, trivial⟩ rfl ?_
  refine ls_rs tbOk ?_
  refine evs (ev_fa (c1 := .cref 1 0) (v := .cref 1 1) rfl rfl rfl ⟨_, rfl⟩ rfl (evs (ev_ldB (off := 1) (v := .dat a0.2.length (a0.2.flatMap c100_ddd)) rfl rfl rfl rfl (Nat.le_of_ble_eq_true rfl) rfl (evs (ev_len (c1 := .dat a0.2.length (a0.2.flatMap c100_ddd)) rfl rfl rfl (evs (ev_as (c := .int .i64 (List.length a0.2 : Int)) rfl rfl rfl (evn ?_))))))))
  refine ls_keep [(1, .box [.int .i64 a0.1, .dat a0.2.length (a0.2.flatMap c100_ddd)]), (3, .int .i64 (List.length a0.2 : Int))] ⟨kr, kr, trivial⟩ rfl ?_
  refine ls_seq_k fun K1 hK1 => ?_
  refine ls_rs tbOk ?_
  refine evs (ev_mv (c := .int .i64 (List.length a0.2 : Int)) rfl rfl rfl (?_))
  obtain ⟨v2, g3, h⟩ := ob_some h
  refine evs (ev_call (era rfl rfl (era rfl rfl (era rfl rfl eran))) (impl_within_s g3) (evs (ev_un (c1 := .bool v2) rfl trivial (evs (ev_mv (c := .bool (!v2)) rfl rfl rfl (?_))))))
  rcases cond_some h with ⟨g4, h⟩ | ⟨g4, h⟩
  · refine evs (ev_gs rfl rfl (isb_T g4) (evs (ev_gs rfl rfl (isb_T g4) (evs (ev_gs rfl rfl (isb_T g4) (evs (ev_gs rfl rfl (isb_T g4) (evs (ev_gs rfl rfl (isb_T g4) (evs (ev_gs rfl rfl (isb_T g4) (evs (ev_gs rfl rfl (isb_T g4) (evs (ev_pkT (c1 := .bool true) rfl g4 rfl rfl (evn ?_))))))))))))))))
    refine ls_keep [(1, .box [.int .i64 a0.1, .dat a0.2.length (a0.2.flatMap c100_ddd)]), (20, .bool true)] ⟨kr, kr, trivial⟩ rfl ?_
    refine ls_cT rfl rfl ?_
    refine ls_rs tbOk ?_
    refine evs (ev_ac rfl nofun rfl (evn ?_))
    refine ls_keep [(2, .bool false)] ⟨kr, trivial⟩ rfl ?_
    refine ls_ret ?_
    have hr := Option.some.inj h
    rw [← hr]
    exact ⟨.inl rfl, rfl⟩
  · refine evs (ev_gr rfl (congrArg V.bool g4) (ev_fa (c1 := .cref 1 0) (v := .cref 1 0) rfl rfl rfl ⟨_, rfl⟩ rfl (evs (ev_gr rfl (congrArg V.bool g4) (ev_ldB (off := 0) (v := .int .i64 a0.1) rfl rfl rfl rfl (Nat.le_of_ble_eq_true rfl) rfl (evs (ev_gr rfl (congrArg V.bool g4) (ev_mv (c := .int .i64 (List.length a0.2 : Int)) rfl rfl rfl (evs (ev_gr rfl (congrArg V.bool g4) (ev_bin (c1 := .int .i64 99) (c2 := .int .i64 (List.length a0.2 : Int)) rfl rfl rfl (evs (ev_gr rfl (congrArg V.bool g4) (ev_bin (c1 := .int .i64 (IntKind.i64.wrap (99 - (List.length a0.2 : Int)))) (c2 := .int .i64 1) rfl rfl rfl (?_)))))))))))))))
    obtain ⟨v5, g6, h⟩ := ob_some h
    refine evs (ev_gr rfl (congrArg V.bool g4) (ev_call (era rfl rfl (era rfl rfl (era rfl rfl eran))) (impl_within_s g6) (evs (ev_gr rfl (congrArg V.bool g4) (ev_un (c1 := .bool v5) rfl trivial (evs (ev_pkF (c1 := .bool (!v5)) rfl g4 rfl rfl (evn ?_))))))))
    refine ls_keep [(1, .box [.int .i64 a0.1, .dat a0.2.length (a0.2.flatMap c100_ddd)]), (20, .bool (!v5))] ⟨kr, kr, trivial⟩ rfl ?_
    rcases cond_some h with ⟨g7, h⟩ | ⟨g7, h⟩
    · refine ls_cT rfl g7 ?_
      refine ls_rs tbOk ?_
      refine evs (ev_ac rfl nofun rfl (evn ?_))
      refine ls_keep [(2, .bool false)] ⟨kr, trivial⟩ rfl ?_
      refine ls_ret ?_
      have hr := Option.some.inj h
      rw [← hr]
      exact ⟨.inl rfl, rfl⟩
    · refine ls_cF rfl g7 ?_
      refine ls_skip ?_
      refine hK1 _ (ls_keep [(1, .box [.int .i64 a0.1, .dat a0.2.length (a0.2.flatMap c100_ddd)])] ⟨kr, trivial⟩ rfl ?_)
      refine ls_seq_k fun K8 hK8 => ?_
      refine ls_rs tbOk ?_
      refine evs (ev_fa (c1 := .cref 1 0) (v := .cref 1 1) rfl rfl rfl ⟨_, rfl⟩ rfl (evs (ev_ldB (off := 1) (v := .dat a0.2.length (a0.2.flatMap c100_ddd)) rfl rfl rfl rfl (Nat.le_of_ble_eq_true rfl) rfl (evs (ev_len (c1 := .dat a0.2.length (a0.2.flatMap c100_ddd)) rfl rfl rfl (evs (ev_mc rfl rfl (evn ?_))))))))
      refine ls_keep [(22, .dat a0.2.length (a0.2.flatMap c100_ddd)), (23, .int .i64 (List.length a0.2 : Int)), (24, .int .i64 0)] ⟨kr, kr, kr, trivial⟩ rfl ?_
      obtain ⟨o1, hl, hr1⟩ := ob_some h
      clear h
      have kXimpl_IsValidHistory_B1 : ∀ (_ : Unit), (some true) = some r → ∀ σ' : PS, okK σ' [] → K8 σ' := by
        intro _ h σ' hk
        refine hK8 _ (ls_keep [] hk rfl ?_)
        refine ls_rs tbOk ?_
        refine evs (ev_ac rfl nofun rfl (evn ?_))
        refine ls_keep [(2, .bool true)] ⟨kr, trivial⟩ rfl ?_
        refine ls_ret ?_
        have hr := Option.some.inj h
        rw [← hr]
        exact ⟨.inl rfl, rfl⟩
      refine ls_rec (fun (y1 : Int) => [(22, .dat a0.2.length (a0.2.flatMap c100_ddd)), (23, .int .i64 (List.length a0.2 : Int)), (24, .int .i64 y1)]) (impl_IsValidHistory_B1 a0) fz 0 o1 hl ⟨kr, kr, kr, trivial⟩ (fun _ => rfl) ?_
      rintro m y1 N h hN
      unfold impl_IsValidHistory_B1 at h
      refine ls_rs tbOk ?_
      refine evs (ev_bin (c1 := .int .i64 y1) (c2 := .int .i64 (List.length a0.2 : Int)) rfl rfl rfl (evn ?_))
      refine ls_keep [(22, .dat a0.2.length (a0.2.flatMap c100_ddd)), (23, .int .i64 (List.length a0.2 : Int)), (24, .int .i64 y1), (25, .bool (decide (y1 < (List.length a0.2 : Int))))] ⟨kr, kr, kr, kr, trivial⟩ rfl ?_
      refine ls_seq_k fun K9 hK9 => ?_
      rcases cond_some h with ⟨g10, h⟩ | ⟨g10, h⟩
      · refine ls_cT rfl g10 ?_
        refine ls_skip ?_
        refine hK9 _ (ls_keep [(22, .dat a0.2.length (a0.2.flatMap c100_ddd)), (23, .int .i64 (List.length a0.2 : Int)), (24, .int .i64 y1)] ⟨kr, kr, kr, trivial⟩ rfl ?_)
        refine ls_seq_k fun K11 hK11 => ?_
        refine ls_blk ?_
        refine ls_rs tbOk ?_
        obtain ⟨e12, g13, h⟩ := ob_some h
        refine evs (ev_ia rfl rfl rfl ⟨(geti_some g13).1, (geti_some g13).2.1⟩ (evs (ev_ldEt (off := 0) (v := .agg [.dat e12.length (e12.flatMap c157_dd)]) rfl rfl zc100_ddd g13 rfl (Nat.le_of_ble_eq_true rfl) rfl (evs (ev_al rfl rfl (evs (ev_st (off := 0) (c1 := .agg [.dat e12.length (e12.flatMap c157_dd)]) (cs' := [.dat e12.length (e12.flatMap c157_dd)]) rfl rfl rfl rfl rfl rfl (Nat.le_of_ble_eq_true rfl) rfl (evn ?_))))))))
        refine ls_keep [(5, .box [.dat e12.length (e12.flatMap c157_dd)]), (22, .dat a0.2.length (a0.2.flatMap c100_ddd)), (23, .int .i64 (List.length a0.2 : Int)), (24, .int .i64 y1)] ⟨kr, kr, kr, kr, trivial⟩ rfl ?_
        refine ls_rs tbOk ?_
        refine evs (ev_ldB (off := 0) (v := .agg [.dat e12.length (e12.flatMap c157_dd)]) rfl rfl rfl rfl (Nat.le_of_ble_eq_true rfl) rfl (?_))
        obtain ⟨v14, g15, h⟩ := ob_some h
        refine evs (ev_call (era rfl (erg (erc (erD ec157_dd _) rfl)) eran) (impl_IsValidDatabase_s g15) (evs (ev_un (c1 := .bool v14) rfl trivial (evn ?_))))
        refine ls_keep [(22, .dat a0.2.length (a0.2.flatMap c100_ddd)), (23, .int .i64 (List.length a0.2 : Int)), (24, .int .i64 y1), (30, .bool (!v14))] ⟨kr, kr, kr, kr, trivial⟩ rfl ?_
        rcases cond_some h with ⟨g16, h⟩ | ⟨g16, h⟩
        · refine ls_cT rfl g16 ?_
          refine ls_rs tbOk ?_
          refine evs (ev_ac rfl nofun rfl (evn ?_))
          refine ls_keep [(2, .bool false)] ⟨kr, trivial⟩ rfl ?_
          refine ls_ret ?_
          have q0 := (Option.some.inj h).symm
          have r0 := hr1
          rw [q0] at r0
          have hr := Option.some.inj r0
          rw [← hr]
          exact ⟨.inl rfl, rfl⟩
        · refine ls_cF rfl g16 ?_
          refine ls_skip ?_
          refine hK11 _ (ls_keep [(22, .dat a0.2.length (a0.2.flatMap c100_ddd)), (23, .int .i64 (List.length a0.2 : Int)), (24, .int .i64 y1)] ⟨kr, kr, kr, trivial⟩ rfl ?_)
          refine ls_rgn tbOk ?_
          refine evs (ev_bin (c1 := .int .i64 y1) (c2 := .int .i64 1) rfl rfl rfl (evs (ev_mv (c := .int .i64 (IntKind.i64.wrap (y1 + 1))) rfl rfl rfl (evn ?_))))
          exact hN _ (IntKind.i64.wrap (y1 + 1)) h ⟨kr, kr, kr, trivial⟩
      · refine ls_cF rfl g10 ?_
        refine ls_exit ?_
        have q0 := (Option.some.inj h).symm
        have r0 := hr1
        rw [q0] at r0
        exact kXimpl_IsValidHistory_B1 () r0 _ trivial
end Go.Proofs.Ytkmkbpphdalgoaa
