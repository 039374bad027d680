/-
  Functions of the program as typed functions, printed by gen.py, and that the program's functions do what they say. No conditions.
-/
import Derived.Test.YtkmkbpphdalgoaaUpK4
import Derived.Test.YtkmkbpphdalgoaaLit2K4
namespace Go.Proofs.Ytkmkbpphdalgoaa
open Go.RowKit
set_option linter.unusedVariables false
set_option maxRecDepth 100000
set_option maxHeartbeats 1000000
def spec_l1In_J1 (x2 : Bool) : Option (Bool) := some x2
def spec_l1In (a0 : Int) (a1 : Int) (a2 : Int) : Option (Bool) := cond (decide (a1 ≤ a0)) (spec_l1In_J1 (decide (a0 ≤ a2))) (spec_l1In_J1 false)
theorem spec_l1In_s {a0 : Int} {a1 : Int} {a2 : Int} {r : Bool} (h : spec_l1In a0 a1 a2 = some r) : SoundAt Try.prog 80 [.int .i64 a0, .int .i64 a1, .int .i64 a2] (.bool r) := by
  unfold spec_l1In at h
  refine sound_lit tbOk lit80 (Nat.le_of_ble_eq_true rfl) rfl ?_
  unfold c80
  refine ls_keep [(0, .int .i64 a0), (1, .int .i64 a1), (2, .int .i64 a2)] ⟨kr, kr, kr, trivial⟩ rfl ?_
  refine ls_rs tbOk ?_
  refine evs (ev_ac rfl nofun rfl (evn ?_))
  refine ls_keep [(0, .int .i64 a0), (1, .int .i64 a1), (2, .int .i64 a2)] ⟨kr, kr, kr, trivial⟩ rfl ?_
  refine ls_rs_k tbOk fun K1 hK1 => ?_
  have kspec_l1In_J1 : ∀ (x2 : Bool), spec_l1In_J1 x2 = some r → ∀ σ' : PS, okK σ' [(6, .bool x2)] → K1 σ' := by
    intro x2 h σ' hk
    unfold spec_l1In_J1 at h
    refine hK1 _ (ls_keep [(6, .bool x2)] hk rfl ?_)
    refine ls_ret ?_
    have hr := Option.some.inj h
    rw [← hr]
    exact ⟨.inl rfl, rfl⟩
  refine evs (ev_mv (c := .int .i64 a0) rfl rfl rfl (evs (ev_mv (c := .int .i64 a1) rfl rfl rfl (evs (ev_bin (c1 := .int .i64 a0) (c2 := .int .i64 a1) rfl rfl rfl (evs (ev_mv (c := .bool (decide (a1 ≤ a0))) rfl rfl rfl (?_))))))))
  rcases cond_some h with ⟨g3, h⟩ | ⟨g3, h⟩
  · refine evs (ev_gr rfl (congrArg V.bool g3) (ev_mv (c := .int .i64 a0) rfl rfl rfl (evs (ev_gr rfl (congrArg V.bool g3) (ev_mv (c := .int .i64 a2) rfl rfl rfl (evs (ev_gr rfl (congrArg V.bool g3) (ev_bin (c1 := .int .i64 a0) (c2 := .int .i64 a2) rfl rfl rfl (evs (ev_pkT (c1 := .bool (decide (a0 ≤ a2))) rfl g3 rfl rfl (evs (ev_as (c := .bool (decide (a0 ≤ a2))) rfl rfl rfl (evn ?_)))))))))))))
    exact kspec_l1In_J1 (decide (a0 ≤ a2)) h _ ⟨kr, trivial⟩
  · refine evs (ev_gs rfl rfl (isb_F g3) (evs (ev_gs rfl rfl (isb_F g3) (evs (ev_gs rfl rfl (isb_F g3) (evs (ev_pkF (c1 := .bool false) rfl g3 rfl rfl (evs (ev_as (c := .bool false) rfl rfl rfl (evn ?_))))))))))
    exact kspec_l1In_J1 false h _ ⟨kr, trivial⟩
def spec_AreValidValues_B1 (a0 : List Int) (rec : Int → Option (Sum (Unit) (Bool))) (y1 : Int) : Option (Sum (Unit) (Bool)) := cond (decide (y1 < (List.length a0 : Int))) (obind (geti a0 y1) fun e5 => obind (spec_l1In e5 0 99) fun v7 => cond (!v7) (some (.inr false)) (rec (IntKind.i64.wrap (y1 + 1)))) (some (.inl ()))
def spec_AreValidValues (a0 : List Int) : Option (Bool) := obind (loopF (spec_AreValidValues_B1 a0) fz 0) fun o1 => (match o1 with
  | .inl _ => (some true)
  | .inr r => some r)
theorem spec_AreValidValues_s {a0 : List Int} {r : Bool} (h : spec_AreValidValues a0 = some r) : SoundAt Try.prog 116 [.dat a0.length (a0.flatMap ci64)] (.bool r) := by
  unfold spec_AreValidValues at h
  refine sound_lit tbOk lit116 (Nat.le_of_ble_eq_true rfl) rfl ?_
  unfold c116
  refine ls_keep [(0, .dat a0.length (a0.flatMap ci64))] ⟨kr, trivial⟩ rfl ?_
  refine ls_rs tbOk ?_
  refine evs (ev_ac rfl nofun rfl (evn ?_))
  refine ls_keep [(0, .dat a0.length (a0.flatMap ci64))] ⟨kr, trivial⟩ rfl ?_
  refine ls_seq_k fun K1 hK1 => ?_
  refine ls_rs tbOk ?_
  refine evs (ev_ac rfl nofun rfl (evn ?_))
  refine ls_keep [(0, .dat a0.length (a0.flatMap ci64)), (3, .int .i64 0)] ⟨kr, kr, trivial⟩ rfl ?_
  obtain ⟨o1, hl, hr1⟩ := ob_some h
  clear h
  have kXspec_AreValidValues_B1 : ∀ (_ : Unit), (some true) = some r → ∀ σ' : PS, okK σ' [] → K1 σ' := by
    intro _ h σ' hk
    refine hK1 _ (ls_keep [] hk rfl ?_)
    refine ls_rs tbOk ?_
    refine evs (ev_ac rfl nofun rfl (evn ?_))
    refine ls_keep [(2, .bool true)] ⟨kr, trivial⟩ rfl ?_
    refine ls_ret ?_
    have hr := Option.some.inj h
    rw [← hr]
    exact ⟨.inl rfl, rfl⟩
  refine ls_rec (fun (y1 : Int) => [(0, .dat a0.length (a0.flatMap ci64)), (3, .int .i64 y1)]) (spec_AreValidValues_B1 a0) fz 0 o1 hl ⟨kr, kr, trivial⟩ (fun _ => rfl) ?_
  rintro m y1 N h hN
  unfold spec_AreValidValues_B1 at h
  refine ls_seq_k fun K2 hK2 => ?_
  refine ls_rs tbOk ?_
  refine evs (ev_mv (c := .int .i64 y1) rfl rfl rfl (evs (ev_mv (c := .dat a0.length (a0.flatMap ci64)) rfl rfl rfl (evs (ev_len (c1 := .dat a0.length (a0.flatMap ci64)) rfl rfl rfl (evs (ev_bin (c1 := .int .i64 y1) (c2 := .int .i64 (List.length a0 : Int)) rfl rfl rfl (evn ?_))))))))
  refine ls_keep [(0, .dat a0.length (a0.flatMap ci64)), (3, .int .i64 y1), (7, .bool (decide (y1 < (List.length a0 : Int))))] ⟨kr, kr, kr, trivial⟩ rfl ?_
  rcases cond_some h with ⟨g3, h⟩ | ⟨g3, h⟩
  · refine ls_cT rfl g3 ?_
    refine ls_skip ?_
    refine hK2 _ (ls_keep [(0, .dat a0.length (a0.flatMap ci64)), (3, .int .i64 y1)] ⟨kr, kr, trivial⟩ rfl ?_)
    refine ls_seq_k fun K4 hK4 => ?_
    refine ls_blk ?_
    refine ls_rs tbOk ?_
    refine evs (ev_mv (c := .dat a0.length (a0.flatMap ci64)) rfl rfl rfl (evs (ev_mv (c := .int .i64 y1) rfl rfl rfl (?_))))
    obtain ⟨e5, g6, h⟩ := ob_some h
    refine evs (ev_ia rfl rfl rfl ⟨(geti_some g6).1, (geti_some g6).2.1⟩ (evs (ev_ldE (i := y1) (n := 1) (off := 0) (v := .int .i64 e5) rfl rfl zci64 g6 rfl (Nat.le_of_ble_eq_true rfl) rfl (?_))))
    obtain ⟨v7, g8, h⟩ := ob_some h
    refine evs (ev_call (era rfl rfl (era rfl rfl (era rfl rfl eran))) (spec_l1In_s g8) (evs (ev_un (c1 := .bool v7) rfl trivial (evn ?_))))
    refine ls_keep [(0, .dat a0.length (a0.flatMap ci64)), (3, .int .i64 y1), (15, .bool (!v7))] ⟨kr, kr, kr, trivial⟩ rfl ?_
    rcases cond_some h with ⟨g9, h⟩ | ⟨g9, h⟩
    · refine ls_cT rfl g9 ?_
      refine ls_rs tbOk ?_
      refine evs (ev_ac rfl nofun rfl (evn ?_))
      refine ls_keep [(2, .bool false)] ⟨kr, trivial⟩ rfl ?_
      refine ls_ret ?_
      have q0 := (Option.some.inj h).symm
      have r0 := hr1
      rw [q0] at r0
      have hr := Option.some.inj r0
      rw [← hr]
      exact ⟨.inl rfl, rfl⟩
    · refine ls_cF rfl g9 ?_
      refine ls_skip ?_
      refine hK4 _ (ls_keep [(0, .dat a0.length (a0.flatMap ci64)), (3, .int .i64 y1)] ⟨kr, kr, trivial⟩ rfl ?_)
      refine ls_rgn tbOk ?_
      refine evs (ev_mv (c := .int .i64 y1) rfl rfl rfl (evs (ev_bin (c1 := .int .i64 y1) (c2 := .int .i64 1) rfl rfl rfl (evs (ev_as (c := .int .i64 (IntKind.i64.wrap (y1 + 1))) rfl rfl rfl (evn ?_))))))
      exact hN _ (IntKind.i64.wrap (y1 + 1)) h ⟨kr, kr, trivial⟩
  · refine ls_cF rfl g3 ?_
    refine ls_exit ?_
    have q0 := (Option.some.inj h).symm
    have r0 := hr1
    rw [q0] at r0
    exact kXspec_AreValidValues_B1 () r0 _ trivial
def spec_CompareRows_B1 (a0 : List Int) (a1 : List Int) (rec : Int → Option (Sum (Unit) (Int))) (y1 : Int) : Option (Sum (Unit) (Int)) := cond (decide (y1 < (List.length a0 : Int))) (cond (decide (y1 < (List.length a1 : Int))) (obind (geti a0 y1) fun e7 => obind (geti a1 y1) fun e9 => cond (decide (e7 < e9)) (some (.inr (-1))) (obind (geti a0 y1) fun e12 => obind (geti a1 y1) fun e14 => cond (decide (e14 < e12)) (some (.inr 1)) (rec (IntKind.i64.wrap (y1 + 1))))) (some (.inl ()))) (some (.inl ()))
def spec_CompareRows (a0 : List Int) (a1 : List Int) : Option (Int) := obind (loopF (spec_CompareRows_B1 a0 a1) fz 0) fun o1 => (match o1 with
  | .inl _ => (cond (decide ((List.length a0 : Int) < (List.length a1 : Int))) (some (-1)) (cond (decide ((List.length a1 : Int) < (List.length a0 : Int))) (some 1) (some 0)))
  | .inr r => some r)
theorem spec_CompareRows_s {a0 : List Int} {a1 : List Int} {r : Int} (h : spec_CompareRows a0 a1 = some r) : SoundAt Try.prog 117 [.dat a0.length (a0.flatMap ci64), .dat a1.length (a1.flatMap ci64)] (.int .i64 r) := by
  unfold spec_CompareRows at h
  refine sound_lit tbOk lit117 (Nat.le_of_ble_eq_true rfl) rfl ?_
  unfold c117
  refine ls_keep [(0, .dat a0.length (a0.flatMap ci64)), (1, .dat a1.length (a1.flatMap ci64))] ⟨kr, kr, trivial⟩ rfl ?_
  refine ls_rs tbOk ?_
  refine evs (ev_ac rfl nofun rfl (evn ?_))
  refine ls_keep [(0, .dat a0.length (a0.flatMap ci64)), (1, .dat a1.length (a1.flatMap ci64))] ⟨kr, kr, trivial⟩ rfl ?_
  refine ls_seq_k fun K1 hK1 => ?_
  refine ls_rs tbOk ?_
  refine evs (ev_ac rfl nofun rfl (evn ?_))
  refine ls_keep [(0, .dat a0.length (a0.flatMap ci64)), (1, .dat a1.length (a1.flatMap ci64)), (5, .int .i64 0)] ⟨kr, kr, kr, trivial⟩ rfl ?_
  obtain ⟨o1, hl, hr1⟩ := ob_some h
  clear h
  have kXspec_CompareRows_B1 : ∀ (_ : Unit), (cond (decide ((List.length a0 : Int) < (List.length a1 : Int))) (some (-1)) (cond (decide ((List.length a1 : Int) < (List.length a0 : Int))) (some 1) (some 0))) = some r → ∀ σ' : PS, okK σ' [(0, .dat a0.length (a0.flatMap ci64)), (1, .dat a1.length (a1.flatMap ci64))] → K1 σ' := by
    intro _ h σ' hk
    refine hK1 _ (ls_keep [(0, .dat a0.length (a0.flatMap ci64)), (1, .dat a1.length (a1.flatMap ci64))] hk rfl ?_)
    refine ls_seq_k fun K17 hK17 => ?_
    refine ls_rs tbOk ?_
    refine evs (ev_mv (c := .dat a0.length (a0.flatMap ci64)) rfl rfl rfl (evs (ev_len (c1 := .dat a0.length (a0.flatMap ci64)) rfl rfl rfl (evs (ev_mv (c := .dat a1.length (a1.flatMap ci64)) rfl rfl rfl (evs (ev_len (c1 := .dat a1.length (a1.flatMap ci64)) rfl rfl rfl (evs (ev_bin (c1 := .int .i64 (List.length a0 : Int)) (c2 := .int .i64 (List.length a1 : Int)) rfl rfl rfl (evn ?_))))))))))
    refine ls_keep [(0, .dat a0.length (a0.flatMap ci64)), (1, .dat a1.length (a1.flatMap ci64)), (40, .bool (decide ((List.length a0 : Int) < (List.length a1 : Int))))] ⟨kr, kr, kr, trivial⟩ rfl ?_
    rcases cond_some h with ⟨g18, h⟩ | ⟨g18, h⟩
    · refine ls_cT rfl g18 ?_
      refine ls_rs tbOk ?_
      refine evs (ev_ac rfl nofun rfl (evn ?_))
      refine ls_keep [(4, .int .i64 (-1))] ⟨kr, trivial⟩ rfl ?_
      refine ls_ret ?_
      have hr := Option.some.inj h
      rw [← hr]
      exact ⟨.inl rfl, rfl⟩
    · refine ls_cF rfl g18 ?_
      refine ls_skip ?_
      refine hK17 _ (ls_keep [(0, .dat a0.length (a0.flatMap ci64)), (1, .dat a1.length (a1.flatMap ci64))] ⟨kr, kr, trivial⟩ rfl ?_)
      refine ls_seq_k fun K19 hK19 => ?_
      refine ls_rs tbOk ?_
      refine evs (ev_mv (c := .dat a0.length (a0.flatMap ci64)) rfl rfl rfl (evs (ev_len (c1 := .dat a0.length (a0.flatMap ci64)) rfl rfl rfl (evs (ev_mv (c := .dat a1.length (a1.flatMap ci64)) rfl rfl rfl (evs (ev_len (c1 := .dat a1.length (a1.flatMap ci64)) rfl rfl rfl (evs (ev_bin (c1 := .int .i64 (List.length a0 : Int)) (c2 := .int .i64 (List.length a1 : Int)) rfl rfl rfl (evn ?_))))))))))
      refine ls_keep [(45, .bool (decide ((List.length a1 : Int) < (List.length a0 : Int))))] ⟨kr, trivial⟩ rfl ?_
      rcases cond_some h with ⟨g20, h⟩ | ⟨g20, h⟩
      · refine ls_cT rfl g20 ?_
        refine ls_rs tbOk ?_
        refine evs (ev_ac rfl nofun rfl (evn ?_))
        refine ls_keep [(4, .int .i64 1)] ⟨kr, trivial⟩ rfl ?_
        refine ls_ret ?_
        have hr := Option.some.inj h
        rw [← hr]
        exact ⟨.inl rfl, rfl⟩
      · refine ls_cF rfl g20 ?_
        refine ls_skip ?_
        refine hK19 _ (ls_keep [] trivial rfl ?_)
        refine ls_rs tbOk ?_
        refine evs (ev_ac rfl nofun rfl (evn ?_))
        refine ls_keep [(4, .int .i64 0)] ⟨kr, trivial⟩ rfl ?_
        refine ls_ret ?_
        have hr := Option.some.inj h
        rw [← hr]
        exact ⟨.inl rfl, rfl⟩
  refine ls_rec (fun (y1 : Int) => [(0, .dat a0.length (a0.flatMap ci64)), (1, .dat a1.length (a1.flatMap ci64)), (5, .int .i64 y1)]) (spec_CompareRows_B1 a0 a1) fz 0 o1 hl ⟨kr, kr, kr, trivial⟩ (fun _ => rfl) ?_
  rintro m y1 N h hN
  unfold spec_CompareRows_B1 at h
  refine ls_seq_k fun K2 hK2 => ?_
  refine ls_rs tbOk ?_
  refine evs (ev_mv (c := .int .i64 y1) rfl rfl rfl (evs (ev_mv (c := .dat a0.length (a0.flatMap ci64)) rfl rfl rfl (evs (ev_len (c1 := .dat a0.length (a0.flatMap ci64)) rfl rfl rfl (evs (ev_bin (c1 := .int .i64 y1) (c2 := .int .i64 (List.length a0 : Int)) rfl rfl rfl (evs (ev_mv (c := .bool (decide (y1 < (List.length a0 : Int)))) rfl rfl rfl (?_))))))))))
  rcases cond_some h with ⟨g3, h⟩ | ⟨g3, h⟩
  · refine evs (ev_gr rfl (congrArg V.bool g3) (ev_mv (c := .int .i64 y1) rfl rfl rfl (evs (ev_gr rfl (congrArg V.bool g3) (ev_mv (c := .dat a1.length (a1.flatMap ci64)) rfl rfl rfl (evs (ev_gr rfl (congrArg V.bool g3) (ev_len (c1 := .dat a1.length (a1.flatMap ci64)) rfl rfl rfl (evs (ev_gr rfl (congrArg V.bool g3) (ev_bin (c1 := .int .i64 y1) (c2 := .int .i64 (List.length a1 : Int)) rfl rfl rfl (evs (ev_pkT (c1 := .bool (decide (y1 < (List.length a1 : Int)))) rfl g3 rfl rfl (evn ?_))))))))))))))
    refine ls_keep [(0, .dat a0.length (a0.flatMap ci64)), (1, .dat a1.length (a1.flatMap ci64)), (5, .int .i64 y1), (15, .bool (decide (y1 < (List.length a1 : Int))))] ⟨kr, kr, kr, kr, trivial⟩ rfl ?_
    rcases cond_some h with ⟨g4, h⟩ | ⟨g4, h⟩
    · refine ls_cT rfl g4 ?_
      refine ls_skip ?_
      refine hK2 _ (ls_keep [(0, .dat a0.length (a0.flatMap ci64)), (1, .dat a1.length (a1.flatMap ci64)), (5, .int .i64 y1)] ⟨kr, kr, kr, trivial⟩ rfl ?_)
      refine ls_seq_k fun K5 hK5 => ?_
      refine ls_blk ?_
      refine ls_seq_k fun K6 hK6 => ?_
      refine ls_rd tbOk mixed (by kernel_rfl) ?_
      refine evd rfl rfl (ev_mv (c := .dat a0.length (a0.flatMap ci64)) rfl rfl rfl (evd rfl rfl (ev_mv (c := .int .i64 y1) rfl rfl rfl (?_))))
      obtain ⟨e7, g8, h⟩ := ob_some h
      refine evd rfl rfl (ev_ia rfl rfl rfl ⟨(geti_some g8).1, (geti_some g8).2.1⟩ (evd rfl rfl (ev_ldE (i := y1) (n := 1) (off := 0) (v := .int .i64 e7) rfl rfl zci64 g8 rfl (Nat.le_of_ble_eq_true rfl) rfl (evd rfl rfl (ev_mv (c := .dat a1.length (a1.flatMap ci64)) rfl rfl rfl (evd rfl rfl (ev_mv (c := .int .i64 y1) rfl rfl rfl (?_))))))))
      obtain ⟨e9, g10, h⟩ := ob_some h
      refine evd rfl rfl (ev_ia rfl rfl rfl ⟨(geti_some g10).1, (geti_some g10).2.1⟩ (evd rfl rfl (ev_ldE (i := y1) (n := 1) (off := 0) (v := .int .i64 e9) rfl rfl zci64 g10 rfl (Nat.le_of_ble_eq_true rfl) rfl (evd rfl rfl (ev_bin (c1 := .int .i64 e7) (c2 := .int .i64 e9) rfl rfl rfl (evdn ?_))))))
      refine ls_keep [(0, .dat a0.length (a0.flatMap ci64)), (1, .dat a1.length (a1.flatMap ci64)), (5, .int .i64 y1), (26, .bool (decide (e7 < e9)))] ⟨kr, kr, kr, kr, trivial⟩ rfl ?_
      rcases cond_some h with ⟨g11, h⟩ | ⟨g11, h⟩
      · refine ls_cT rfl g11 ?_
        refine ls_rs tbOk ?_
        refine evs (ev_ac rfl nofun rfl (evn ?_))
        refine ls_keep [(4, .int .i64 (-1))] ⟨kr, trivial⟩ rfl ?_
        refine ls_ret ?_
        have q0 := (Option.some.inj h).symm
        have r0 := hr1
        rw [q0] at r0
        have hr := Option.some.inj r0
        rw [← hr]
        exact ⟨.inl rfl, rfl⟩
      · refine ls_cF rfl g11 ?_
        refine ls_skip ?_
        refine hK6 _ (ls_keep [(0, .dat a0.length (a0.flatMap ci64)), (1, .dat a1.length (a1.flatMap ci64)), (5, .int .i64 y1)] ⟨kr, kr, kr, trivial⟩ rfl ?_)
        refine ls_rd tbOk mixed (by kernel_rfl) ?_
        refine evd rfl rfl (ev_mv (c := .dat a0.length (a0.flatMap ci64)) rfl rfl rfl (evd rfl rfl (ev_mv (c := .int .i64 y1) rfl rfl rfl (?_))))
        obtain ⟨e12, g13, h⟩ := ob_some h
        refine evd rfl rfl (ev_ia rfl rfl rfl ⟨(geti_some g13).1, (geti_some g13).2.1⟩ (evd rfl rfl (ev_ldE (i := y1) (n := 1) (off := 0) (v := .int .i64 e12) rfl rfl zci64 g13 rfl (Nat.le_of_ble_eq_true rfl) rfl (evd rfl rfl (ev_mv (c := .dat a1.length (a1.flatMap ci64)) rfl rfl rfl (evd rfl rfl (ev_mv (c := .int .i64 y1) rfl rfl rfl (?_))))))))
        obtain ⟨e14, g15, h⟩ := ob_some h
        refine evd rfl rfl (ev_ia rfl rfl rfl ⟨(geti_some g15).1, (geti_some g15).2.1⟩ (evd rfl rfl (ev_ldE (i := y1) (n := 1) (off := 0) (v := .int .i64 e14) rfl rfl zci64 g15 rfl (Nat.le_of_ble_eq_true rfl) rfl (evd rfl rfl (ev_bin (c1 := .int .i64 e12) (c2 := .int .i64 e14) rfl rfl rfl (evdn ?_))))))
        refine ls_keep [(0, .dat a0.length (a0.flatMap ci64)), (1, .dat a1.length (a1.flatMap ci64)), (5, .int .i64 y1), (35, .bool (decide (e14 < e12)))] ⟨kr, kr, kr, kr, trivial⟩ rfl ?_
        rcases cond_some h with ⟨g16, h⟩ | ⟨g16, h⟩
        · refine ls_cT rfl g16 ?_
          refine ls_rs tbOk ?_
          refine evs (ev_ac rfl nofun rfl (evn ?_))
          refine ls_keep [(4, .int .i64 1)] ⟨kr, trivial⟩ rfl ?_
          refine ls_ret ?_
          have q0 := (Option.some.inj h).symm
          have r0 := hr1
          rw [q0] at r0
          have hr := Option.some.inj r0
          rw [← hr]
          exact ⟨.inl rfl, rfl⟩
        · refine ls_cF rfl g16 ?_
          refine ls_skip ?_
          refine hK5 _ (ls_keep [(0, .dat a0.length (a0.flatMap ci64)), (1, .dat a1.length (a1.flatMap ci64)), (5, .int .i64 y1)] ⟨kr, kr, kr, trivial⟩ rfl ?_)
          refine ls_rgn tbOk ?_
          refine evs (ev_mv (c := .int .i64 y1) rfl rfl rfl (evs (ev_bin (c1 := .int .i64 y1) (c2 := .int .i64 1) rfl rfl rfl (evs (ev_as (c := .int .i64 (IntKind.i64.wrap (y1 + 1))) rfl rfl rfl (evn ?_))))))
          exact hN _ (IntKind.i64.wrap (y1 + 1)) h ⟨kr, kr, kr, trivial⟩
    · refine ls_cF rfl g4 ?_
      refine ls_exit ?_
      have q0 := (Option.some.inj h).symm
      have r0 := hr1
      rw [q0] at r0
      exact kXspec_CompareRows_B1 () r0 _ ⟨kr, kr, trivial⟩
  · refine evs (ev_gs rfl rfl (isb_F g3) (evs (ev_gs rfl rfl (isb_F g3) (evs (ev_gs rfl rfl (isb_F g3) (evs (ev_gs rfl rfl (isb_F g3) (evs (ev_pkF (c1 := .bool false) rfl g3 rfl rfl (evn ?_))))))))))
    refine ls_keep [(0, .dat a0.length (a0.flatMap ci64)), (1, .dat a1.length (a1.flatMap ci64)), (5, .int .i64 y1), (15, .bool false)] ⟨kr, kr, kr, kr, trivial⟩ rfl ?_
    refine ls_cF rfl rfl ?_
    refine ls_exit ?_
    have q0 := (Option.some.inj h).symm
    have r0 := hr1
    rw [q0] at r0
    exact kXspec_CompareRows_B1 () r0 _ ⟨kr, kr, trivial⟩
def spec_IsValidRelation_J2 (rec : Int → Option (Sum (Unit) (Bool))) (y1 : Int) (x11 : Bool) : Option (Sum (Unit) (Bool)) := cond x11 (some (.inr false)) (rec (IntKind.i64.wrap (y1 + 1)))
def spec_IsValidRelation_B1 (a0 : Int × (List (List Int))) (rec : Int → Option (Sum (Unit) (Bool))) (y1 : Int) : Option (Sum (Unit) (Bool)) := cond (decide (y1 < (List.length a0.2 : Int))) (obind (geti a0.2 y1) fun e13 => cond ((List.length e13 : Int) != a0.1) (spec_IsValidRelation_J2 rec y1 true) (obind (geti a0.2 y1) fun e16 => obind (spec_AreValidValues e16) fun v18 => cond (!v18) (spec_IsValidRelation_J2 rec y1 true) (cond (decide (0 < y1)) (obind (geti a0.2 (IntKind.i64.wrap (y1 - 1))) fun e22 => obind (geti a0.2 y1) fun e24 => obind (spec_CompareRows e22 e24) fun v26 => spec_IsValidRelation_J2 rec y1 (decide (0 ≤ v26))) (spec_IsValidRelation_J2 rec y1 false)))) (some (.inl ()))
def spec_IsValidRelation (a0 : Int × (List (List Int))) : Option (Bool) := obind (spec_l1In a0.1 0 5) fun v2 => cond (!v2) (some false) (cond (decide (4000 < (List.length a0.2 : Int))) (some false) (obind (loopF (spec_IsValidRelation_B1 a0) fz 0) fun o1 => (match o1 with
  | .inl _ => (some true)
  | .inr r => some r)))
theorem spec_IsValidRelation_s {a0 : Int × (List (List Int))} {r : Bool} (h : spec_IsValidRelation a0 = some r) : SoundAt Try.prog 39 [.agg [.int .i64 a0.1, .dat a0.2.length (a0.2.flatMap c30_d)]] (.bool r) := by
  unfold spec_IsValidRelation at h
  refine sound_lit tbOk lit39 (Nat.le_of_ble_eq_true rfl) rfl ?_
  unfold c39
  refine ls_keep [(0, .agg [.int .i64 a0.1, .dat a0.2.length (a0.2.flatMap c30_d)])] ⟨kr, trivial⟩ rfl ?_
  refine ls_rs tbOk ?_
  refine evs (ev_bx (c1 := .agg [.int .i64 a0.1, .dat a0.2.length (a0.2.flatMap c30_d)]) rfl rfl rfl (evs (ev_ac rfl nofun rfl (evn ?_))))
  refine ls_keep [(1, .box [.int .i64 a0.1, .dat a0.2.length (a0.2.flatMap c30_d)])] ⟨kr, trivial⟩ rfl ?_
  refine ls_seq_k fun K1 hK1 => ?_
  refine ls_rs tbOk ?_
  refine evs (ev_fa (c1 := .cref 1 0) (v := .cref 1 0) rfl rfl rfl ⟨_, rfl⟩ rfl (evs (ev_ldB (off := 0) (v := .int .i64 a0.1) rfl rfl rfl rfl (Nat.le_of_ble_eq_true rfl) rfl (?_))))
  obtain ⟨v2, g3, h⟩ := ob_some h
  refine evs (ev_call (era rfl rfl (era rfl rfl (era rfl rfl eran))) (spec_l1In_s g3) (evs (ev_un (c1 := .bool v2) rfl trivial (evs (ev_mv (c := .bool (!v2)) rfl rfl rfl (?_))))))
  rcases cond_some h with ⟨g4, h⟩ | ⟨g4, h⟩
  · refine evs (ev_gs rfl rfl (isb_T g4) (evs (ev_gs rfl rfl (isb_T g4) (evs (ev_gs rfl rfl (isb_T g4) (evs (ev_gs rfl rfl (isb_T g4) (evs (ev_pkT (c1 := .bool true) rfl g4 rfl rfl (evn ?_))))))))))
    refine ls_keep [(1, .box [.int .i64 a0.1, .dat a0.2.length (a0.2.flatMap c30_d)]), (13, .bool true)] ⟨kr, kr, trivial⟩ rfl ?_
    refine ls_cT rfl rfl ?_
    refine ls_rs tbOk ?_
    refine evs (ev_ac rfl nofun rfl (evn ?_))
    refine ls_keep [(2, .bool false)] ⟨kr, trivial⟩ rfl ?_
    refine ls_ret ?_
    have hr := Option.some.inj h
    rw [← hr]
    exact ⟨.inl rfl, rfl⟩
  · refine evs (ev_gr rfl (congrArg V.bool g4) (ev_fa (c1 := .cref 1 0) (v := .cref 1 1) rfl rfl rfl ⟨_, rfl⟩ rfl (evs (ev_gr rfl (congrArg V.bool g4) (ev_ldB (off := 1) (v := .dat a0.2.length (a0.2.flatMap c30_d)) rfl rfl rfl rfl (Nat.le_of_ble_eq_true rfl) rfl (evs (ev_gr rfl (congrArg V.bool g4) (ev_len (c1 := .dat a0.2.length (a0.2.flatMap c30_d)) rfl rfl rfl (evs (ev_gr rfl (congrArg V.bool g4) (ev_bin (c1 := .int .i64 (List.length a0.2 : Int)) (c2 := .int .i64 4000) rfl rfl rfl (evs (ev_pkF (c1 := .bool (decide (4000 < (List.length a0.2 : Int)))) rfl g4 rfl rfl (evn ?_))))))))))))))
    refine ls_keep [(1, .box [.int .i64 a0.1, .dat a0.2.length (a0.2.flatMap c30_d)]), (13, .bool (decide (4000 < (List.length a0.2 : Int))))] ⟨kr, kr, trivial⟩ rfl ?_
    rcases cond_some h with ⟨g5, h⟩ | ⟨g5, h⟩
    · refine ls_cT rfl g5 ?_
      refine ls_rs tbOk ?_
      refine evs (ev_ac rfl nofun rfl (evn ?_))
      refine ls_keep [(2, .bool false)] ⟨kr, trivial⟩ rfl ?_
      refine ls_ret ?_
      have hr := Option.some.inj h
      rw [← hr]
      exact ⟨.inl rfl, rfl⟩
    · refine ls_cF rfl g5 ?_
      refine ls_skip ?_
      refine hK1 _ (ls_keep [(1, .box [.int .i64 a0.1, .dat a0.2.length (a0.2.flatMap c30_d)])] ⟨kr, trivial⟩ rfl ?_)
      refine ls_seq_k fun K6 hK6 => ?_
      refine ls_rs tbOk ?_
      refine evs (ev_ac rfl nofun rfl (evn ?_))
      refine ls_keep [(1, .box [.int .i64 a0.1, .dat a0.2.length (a0.2.flatMap c30_d)]), (3, .int .i64 0)] ⟨kr, kr, trivial⟩ rfl ?_
      obtain ⟨o1, hl, hr1⟩ := ob_some h
      clear h
      have kXspec_IsValidRelation_B1 : ∀ (_ : Unit), (some true) = some r → ∀ σ' : PS, okK σ' [] → K6 σ' := by
        intro _ h σ' hk
        refine hK6 _ (ls_keep [] hk rfl ?_)
        refine ls_rs tbOk ?_
        refine evs (ev_ac rfl nofun rfl (evn ?_))
        refine ls_keep [(2, .bool true)] ⟨kr, trivial⟩ rfl ?_
        refine ls_ret ?_
        have hr := Option.some.inj h
        rw [← hr]
        exact ⟨.inl rfl, rfl⟩
      refine ls_rec (fun (y1 : Int) => [(1, .box [.int .i64 a0.1, .dat a0.2.length (a0.2.flatMap c30_d)]), (3, .int .i64 y1)]) (spec_IsValidRelation_B1 a0) fz 0 o1 hl ⟨kr, kr, trivial⟩ (fun _ => rfl) ?_
      rintro m y1 N h hN
      unfold spec_IsValidRelation_B1 at h
      refine ls_seq_k fun K7 hK7 => ?_
      refine ls_rs tbOk ?_
      refine evs (ev_mv (c := .int .i64 y1) rfl rfl rfl (evs (ev_fa (c1 := .cref 1 0) (v := .cref 1 1) rfl rfl rfl ⟨_, rfl⟩ rfl (evs (ev_ldB (off := 1) (v := .dat a0.2.length (a0.2.flatMap c30_d)) rfl rfl rfl rfl (Nat.le_of_ble_eq_true rfl) rfl (evs (ev_len (c1 := .dat a0.2.length (a0.2.flatMap c30_d)) rfl rfl rfl (evs (ev_bin (c1 := .int .i64 y1) (c2 := .int .i64 (List.length a0.2 : Int)) rfl rfl rfl (evn ?_))))))))))
      refine ls_keep [(1, .box [.int .i64 a0.1, .dat a0.2.length (a0.2.flatMap c30_d)]), (3, .int .i64 y1), (18, .bool (decide (y1 < (List.length a0.2 : Int))))] ⟨kr, kr, kr, trivial⟩ rfl ?_
      rcases cond_some h with ⟨g8, h⟩ | ⟨g8, h⟩
      · refine ls_cT rfl g8 ?_
        refine ls_skip ?_
        refine hK7 _ (ls_keep [(1, .box [.int .i64 a0.1, .dat a0.2.length (a0.2.flatMap c30_d)]), (3, .int .i64 y1)] ⟨kr, kr, trivial⟩ rfl ?_)
        refine ls_seq_k fun K9 hK9 => ?_
        refine ls_blk ?_
        refine ls_rd_k tbOk mixed (by kernel_rfl) fun K10 hK10 => ?_
        have kspec_IsValidRelation_J2 : ∀ (x11 : Bool), spec_IsValidRelation_J2 (loopF (spec_IsValidRelation_B1 a0) m) y1 x11 = some o1 → ∀ σ' : PS, okK σ' [(1, .box [.int .i64 a0.1, .dat a0.2.length (a0.2.flatMap c30_d)]), (3, .int .i64 y1), (57, .bool x11)] → K10 σ' := by
          intro x11 h σ' hk
          unfold spec_IsValidRelation_J2 at h
          refine hK10 _ (ls_keep [(1, .box [.int .i64 a0.1, .dat a0.2.length (a0.2.flatMap c30_d)]), (3, .int .i64 y1), (57, .bool x11)] hk rfl ?_)
          rcases cond_some h with ⟨g12, h⟩ | ⟨g12, h⟩
          · refine ls_cT rfl g12 ?_
            refine ls_rs tbOk ?_
            refine evs (ev_ac rfl nofun rfl (evn ?_))
            refine ls_keep [(2, .bool false)] ⟨kr, trivial⟩ rfl ?_
            refine ls_ret ?_
            have q0 := (Option.some.inj h).symm
            have r0 := hr1
            rw [q0] at r0
            have hr := Option.some.inj r0
            rw [← hr]
            exact ⟨.inl rfl, rfl⟩
          · refine ls_cF rfl g12 ?_
            refine ls_skip ?_
            refine hK9 _ (ls_keep [(1, .box [.int .i64 a0.1, .dat a0.2.length (a0.2.flatMap c30_d)]), (3, .int .i64 y1)] ⟨kr, kr, trivial⟩ rfl ?_)
            refine ls_rgn tbOk ?_
            refine evs (ev_mv (c := .int .i64 y1) rfl rfl rfl (evs (ev_bin (c1 := .int .i64 y1) (c2 := .int .i64 1) rfl rfl rfl (evs (ev_as (c := .int .i64 (IntKind.i64.wrap (y1 + 1))) rfl rfl rfl (evn ?_))))))
            exact hN _ (IntKind.i64.wrap (y1 + 1)) h ⟨kr, kr, trivial⟩
        refine evd rfl rfl (ev_fa (c1 := .cref 1 0) (v := .cref 1 1) rfl rfl rfl ⟨_, rfl⟩ rfl (evd rfl rfl (ev_ldB (off := 1) (v := .dat a0.2.length (a0.2.flatMap c30_d)) rfl rfl rfl rfl (Nat.le_of_ble_eq_true rfl) rfl (evd rfl rfl (ev_mv (c := .int .i64 y1) rfl rfl rfl (?_))))))
        obtain ⟨e13, g14, h⟩ := ob_some h
        refine evd rfl rfl (ev_ia rfl rfl rfl ⟨(geti_some g14).1, (geti_some g14).2.1⟩ (evd rfl rfl (ev_ldE (i := y1) (n := 1) (off := 0) (v := .dat e13.length (e13.flatMap ci64)) rfl rfl zc30_d g14 rfl (Nat.le_of_ble_eq_true rfl) rfl (evd rfl rfl (ev_len (c1 := .dat e13.length (e13.flatMap ci64)) rfl rfl rfl (evd rfl rfl (ev_fa (c1 := .cref 1 0) (v := .cref 1 0) rfl rfl rfl ⟨_, rfl⟩ rfl (evd rfl rfl (ev_ldB (off := 0) (v := .int .i64 a0.1) rfl rfl rfl rfl (Nat.le_of_ble_eq_true rfl) rfl (evd rfl rfl (ev_bin (c1 := .int .i64 (List.length e13 : Int)) (c2 := .int .i64 a0.1) rfl rfl rfl (evd rfl rfl (ev_mv (c := .bool ((List.length e13 : Int) != a0.1)) rfl rfl rfl (?_))))))))))))))
        rcases cond_some h with ⟨g15, h⟩ | ⟨g15, h⟩
        · refine evd rfl rfl (ev_gs rfl rfl (isb_T g15) (evd rfl rfl (ev_gs rfl rfl (isb_T g15) (evd rfl rfl (ev_gs rfl rfl (isb_T g15) (evd rfl rfl (ev_gs rfl rfl (isb_T g15) (evd rfl rfl (ev_gs rfl rfl (isb_T g15) (evd rfl rfl (ev_gs rfl rfl (isb_T g15) (evd rfl rfl (ev_gs rfl rfl (isb_T g15) (evd rfl rfl (ev_pkT (c1 := .bool true) rfl g15 rfl rfl (evd rfl rfl (ev_mv (c := .bool true) rfl rfl rfl (evd rfl rfl (ev_gs rfl rfl rfl (evd rfl rfl (ev_gs rfl rfl rfl (evd rfl rfl (ev_gs rfl rfl rfl (evd rfl rfl (ev_gs rfl rfl rfl (evd rfl rfl (ev_gs rfl rfl rfl (evd rfl rfl (ev_gs rfl rfl rfl (evd rfl rfl (ev_gs rfl rfl rfl (evd rfl rfl (ev_gs rfl rfl rfl (evd rfl rfl (ev_gs rfl rfl rfl (evd rfl rfl (ev_gs rfl rfl rfl (evd rfl rfl (ev_gs rfl rfl rfl (evd rfl rfl (ev_gs rfl rfl rfl (evd rfl rfl (ev_gs rfl rfl rfl (evd rfl rfl (ev_gs rfl rfl rfl (evd rfl rfl (ev_gs rfl rfl rfl (evd rfl rfl (ev_gs rfl rfl rfl (evd rfl rfl (ev_gs rfl rfl rfl (evd rfl rfl (ev_pkT (c1 := .bool true) rfl rfl rfl rfl (evdn ?_))))))))))))))))))))))))))))))))))))))))))))))))))))))
          exact kspec_IsValidRelation_J2 true h _ ⟨kr, kr, kr, trivial⟩
        · refine evd rfl rfl (ev_gr rfl (congrArg V.bool g15) (ev_fa (c1 := .cref 1 0) (v := .cref 1 1) rfl rfl rfl ⟨_, rfl⟩ rfl (evd rfl rfl (ev_gr rfl (congrArg V.bool g15) (ev_ldB (off := 1) (v := .dat a0.2.length (a0.2.flatMap c30_d)) rfl rfl rfl rfl (Nat.le_of_ble_eq_true rfl) rfl (evd rfl rfl (ev_gr rfl (congrArg V.bool g15) (ev_mv (c := .int .i64 y1) rfl rfl rfl (?_)))))))))
          obtain ⟨e16, g17, h⟩ := ob_some h
          refine evd rfl rfl (ev_gr rfl (congrArg V.bool g15) (ev_ia rfl rfl rfl ⟨(geti_some g17).1, (geti_some g17).2.1⟩ (evd rfl rfl (ev_gr rfl (congrArg V.bool g15) (ev_ldE (i := y1) (n := 1) (off := 0) (v := .dat e16.length (e16.flatMap ci64)) rfl rfl zc30_d g17 rfl (Nat.le_of_ble_eq_true rfl) rfl (?_))))))
          obtain ⟨v18, g19, h⟩ := ob_some h
          refine evd rfl rfl (ev_gr rfl (congrArg V.bool g15) (ev_call (era rfl (erD eci64 _) eran) (spec_AreValidValues_s g19) (evd rfl rfl (ev_gr rfl (congrArg V.bool g15) (ev_un (c1 := .bool v18) rfl trivial (evd rfl rfl (ev_pkF (c1 := .bool (!v18)) rfl g15 rfl rfl (evd rfl rfl (ev_mv (c := .bool (!v18)) rfl rfl rfl (?_))))))))))
          rcases cond_some h with ⟨g20, h⟩ | ⟨g20, h⟩
          · refine evd rfl rfl (ev_gs rfl rfl (isb_T g20) (evd rfl rfl (ev_gs rfl rfl (isb_T g20) (evd rfl rfl (ev_gs rfl rfl (isb_T g20) (evd rfl rfl (ev_gs rfl rfl rfl (evd rfl rfl (ev_gs rfl rfl rfl (evd rfl rfl (ev_gs rfl rfl rfl (evd rfl rfl (ev_gs rfl rfl rfl (evd rfl rfl (ev_gs rfl rfl rfl (evd rfl rfl (ev_gs rfl rfl rfl (evd rfl rfl (ev_gs rfl rfl rfl (evd rfl rfl (ev_gs rfl rfl rfl (evd rfl rfl (ev_gs rfl rfl rfl (evd rfl rfl (ev_gs rfl rfl rfl (evd rfl rfl (ev_gs rfl rfl rfl (evd rfl rfl (ev_gs rfl rfl rfl (evd rfl rfl (ev_gs rfl rfl rfl (evd rfl rfl (ev_gs rfl rfl (isb_T g20) (evd rfl rfl (ev_pkT (c1 := .bool true) rfl g20 rfl rfl (evdn ?_))))))))))))))))))))))))))))))))))))
            exact kspec_IsValidRelation_J2 true h _ ⟨kr, kr, kr, trivial⟩
          · refine evd rfl rfl (ev_gr rfl (congrArg V.bool g20) (ev_mv (c := .int .i64 y1) rfl rfl rfl (evd rfl rfl (ev_gr rfl (congrArg V.bool g20) (ev_bin (c1 := .int .i64 y1) (c2 := .int .i64 0) rfl rfl rfl (evd rfl rfl (ev_gr rfl (congrArg V.bool g20) (ev_mv (c := .bool (decide (0 < y1))) rfl rfl rfl (?_)))))))))
            rcases cond_some h with ⟨g21, h⟩ | ⟨g21, h⟩
            · refine evd rfl rfl (ev_gr rfl (congrArg V.bool g21) (ev_fa (c1 := .cref 1 0) (v := .cref 1 1) rfl rfl rfl ⟨_, rfl⟩ rfl (evd rfl rfl (ev_gr rfl (congrArg V.bool g21) (ev_ldB (off := 1) (v := .dat a0.2.length (a0.2.flatMap c30_d)) rfl rfl rfl rfl (Nat.le_of_ble_eq_true rfl) rfl (evd rfl rfl (ev_gr rfl (congrArg V.bool g21) (ev_mv (c := .int .i64 y1) rfl rfl rfl (evd rfl rfl (ev_gr rfl (congrArg V.bool g21) (ev_bin (c1 := .int .i64 y1) (c2 := .int .i64 1) rfl rfl rfl (?_))))))))))))
              obtain ⟨e22, g23, h⟩ := ob_some h
              refine evd rfl rfl (ev_gr rfl (congrArg V.bool g21) (ev_ia rfl rfl rfl ⟨(geti_some g23).1, (geti_some g23).2.1⟩ (evd rfl rfl (ev_gr rfl (congrArg V.bool g21) (ev_ldE (i := (IntKind.i64.wrap (y1 - 1))) (n := 1) (off := 0) (v := .dat e22.length (e22.flatMap ci64)) rfl rfl zc30_d g23 rfl (Nat.le_of_ble_eq_true rfl) rfl (evd rfl rfl (ev_gr rfl (congrArg V.bool g21) (ev_fa (c1 := .cref 1 0) (v := .cref 1 1) rfl rfl rfl ⟨_, rfl⟩ rfl (evd rfl rfl (ev_gr rfl (congrArg V.bool g21) (ev_ldB (off := 1) (v := .dat a0.2.length (a0.2.flatMap c30_d)) rfl rfl rfl rfl (Nat.le_of_ble_eq_true rfl) rfl (evd rfl rfl (ev_gr rfl (congrArg V.bool g21) (ev_mv (c := .int .i64 y1) rfl rfl rfl (?_)))))))))))))))
              obtain ⟨e24, g25, h⟩ := ob_some h
              refine evd rfl rfl (ev_gr rfl (congrArg V.bool g21) (ev_ia rfl rfl rfl ⟨(geti_some g25).1, (geti_some g25).2.1⟩ (evd rfl rfl (ev_gr rfl (congrArg V.bool g21) (ev_ldE (i := y1) (n := 1) (off := 0) (v := .dat e24.length (e24.flatMap ci64)) rfl rfl zc30_d g25 rfl (Nat.le_of_ble_eq_true rfl) rfl (?_))))))
              obtain ⟨v26, g27, h⟩ := ob_some h
              refine evd rfl rfl (ev_gr rfl (congrArg V.bool g21) (ev_call (era rfl (erD eci64 _) (era rfl (erD eci64 _) eran)) (spec_CompareRows_s g27) (evd rfl rfl (ev_gr rfl (congrArg V.bool g21) (ev_bin (c1 := .int .i64 v26) (c2 := .int .i64 0) rfl rfl rfl (evd rfl rfl (ev_gr rfl (congrArg V.bool g20) (ev_pkT (c1 := .bool (decide (0 ≤ v26))) rfl g21 rfl rfl (evd rfl rfl (ev_pkF (c1 := .bool (decide (0 ≤ v26))) rfl g20 rfl rfl (evdn ?_)))))))))))
              exact kspec_IsValidRelation_J2 (decide (0 ≤ v26)) h _ ⟨kr, kr, kr, trivial⟩
            · refine evd rfl rfl (ev_gs rfl rfl (isb_F g21) (evd rfl rfl (ev_gs rfl rfl (isb_F g21) (evd rfl rfl (ev_gs rfl rfl (isb_F g21) (evd rfl rfl (ev_gs rfl rfl (isb_F g21) (evd rfl rfl (ev_gs rfl rfl (isb_F g21) (evd rfl rfl (ev_gs rfl rfl (isb_F g21) (evd rfl rfl (ev_gs rfl rfl (isb_F g21) (evd rfl rfl (ev_gs rfl rfl (isb_F g21) (evd rfl rfl (ev_gs rfl rfl (isb_F g21) (evd rfl rfl (ev_gs rfl rfl (isb_F g21) (evd rfl rfl (ev_gs rfl rfl (isb_F g21) (evd rfl rfl (ev_gs rfl rfl (isb_F g21) (evd rfl rfl (ev_gs rfl rfl (isb_F g21) (evd rfl rfl (ev_gr rfl (congrArg V.bool g20) (ev_pkF (c1 := .bool false) rfl g21 rfl rfl (evd rfl rfl (ev_pkF (c1 := .bool false) rfl g20 rfl rfl (evdn ?_)))))))))))))))))))))))))))))))
              exact kspec_IsValidRelation_J2 false h _ ⟨kr, kr, kr, trivial⟩
      · refine ls_cF rfl g8 ?_
        refine ls_exit ?_
        have q0 := (Option.some.inj h).symm
        have r0 := hr1
        rw [q0] at r0
        exact kXspec_IsValidRelation_B1 () r0 _ trivial
def spec_l5Copy_B1 (a0 : Int × (List (List Int))) (rec : ((List (List Int)) × Int) → Option ((List (List Int)))) (s : (List (List Int)) × Int) : Option ((List (List Int))) := match s with
  | (y1, y2) => cond (decide (y2 < (List.length a0.2 : Int))) (obind (geti a0.2 y2) fun e6 => chk (List.length ([] : List Int) + List.length e6 ≤ lim) (chk (List.length y1 + List.length ([([] : List Int) ++ e6]) ≤ lim) (rec ((y1 ++ ([([] : List Int) ++ e6])), (IntKind.i64.wrap (y2 + 1)))))) (some y1)
def spec_l5Copy (a0 : Int × (List (List Int))) : Option ((Int × (List (List Int)))) := obind (loopF (spec_l5Copy_B1 a0) fz (([] : List (List Int)), 0)) fun z2 => some (a0.1, z2)
theorem spec_l5Copy_s {a0 : Int × (List (List Int))} {r : (Int × (List (List Int)))} (h : spec_l5Copy a0 = some r) : SoundAt Try.prog 137 [.agg [.int .i64 a0.1, .dat a0.2.length (a0.2.flatMap c30_d)]] (.agg [.int .i64 r.1, .own 30 r.2.length (r.2.flatMap c30_o)]) := by
  unfold spec_l5Copy at h
  refine sound_lit tbOk lit137 (Nat.le_of_ble_eq_true rfl) rfl ?_
  unfold c137
  refine ls_keep [(0, .agg [.int .i64 a0.1, .dat a0.2.length (a0.2.flatMap c30_d)])] ⟨kr, trivial⟩ rfl ?_
  refine ls_rs tbOk ?_
  refine evs (ev_bx (c1 := .agg [.int .i64 a0.1, .dat a0.2.length (a0.2.flatMap c30_d)]) rfl rfl rfl (evs (ev_al rfl rfl (evn ?_))))
  refine ls_keep [(1, .box [.int .i64 a0.1, .dat a0.2.length (a0.2.flatMap c30_d)]), (2, .box [.int .i64 0, .own 30 ([] : List (List Int)).length (([] : List (List Int)).flatMap c30_o)])] ⟨kr, kr, trivial⟩ rfl ?_
  refine ls_rs tbOk ?_
  refine evs (ev_fa (c1 := .cref 1 0) (v := .cref 1 0) rfl rfl rfl ⟨_, rfl⟩ rfl (evs (ev_ldB (off := 0) (v := .int .i64 a0.1) rfl rfl rfl rfl (Nat.le_of_ble_eq_true rfl) rfl (evs (ev_bd [.int .i64 a0.1] (cs := [.int .i64 a0.1, .own 30 ([] : List (List Int)).length (([] : List (List Int)).flatMap c30_o)]) rfl ⟨rfl, trivial⟩ rfl (evs (ev_al rfl rfl (evs (ev_st (off := 0) (c1 := .agg [.int .i64 a0.1, .own 30 ([] : List (List Int)).length (([] : List (List Int)).flatMap c30_o)]) (cs' := [.int .i64 a0.1, .own 30 ([] : List (List Int)).length (([] : List (List Int)).flatMap c30_o)]) rfl rfl rfl rfl rfl rfl (Nat.le_of_ble_eq_true rfl) rfl (evn ?_))))))))))
  refine ls_keep [(1, .box [.int .i64 a0.1, .dat a0.2.length (a0.2.flatMap c30_d)]), (2, .box [.int .i64 0, .own 30 ([] : List (List Int)).length (([] : List (List Int)).flatMap c30_o)]), (3, .box [.int .i64 a0.1, .own 30 ([] : List (List Int)).length (([] : List (List Int)).flatMap c30_o)])] ⟨kr, kr, kr, trivial⟩ rfl ?_
  refine ls_seq_k fun K1 hK1 => ?_
  refine ls_rs tbOk ?_
  refine evs (ev_ac rfl nofun rfl (evn ?_))
  refine ls_keep [(1, .box [.int .i64 a0.1, .dat a0.2.length (a0.2.flatMap c30_d)]), (2, .box [.int .i64 0, .own 30 ([] : List (List Int)).length (([] : List (List Int)).flatMap c30_o)]), (3, .box [.int .i64 a0.1, .own 30 ([] : List (List Int)).length (([] : List (List Int)).flatMap c30_o)]), (4, .int .i64 0)] ⟨kr, kr, kr, kr, trivial⟩ rfl ?_
  obtain ⟨o1, hl, hr1⟩ := ob_some h
  clear h
  have kXspec_l5Copy_B1 : ∀ (z2 : List (List Int)), (some (a0.1, z2)) = some r → ∀ σ' : PS, okK σ' [(2, .box [.int .i64 0, .own 30 ([] : List (List Int)).length (([] : List (List Int)).flatMap c30_o)]), (3, .box [.int .i64 a0.1, .own 30 z2.length (z2.flatMap c30_o)])] → K1 σ' := by
    intro z2 h σ' hk
    refine hK1 _ (ls_keep [(2, .box [.int .i64 0, .own 30 ([] : List (List Int)).length (([] : List (List Int)).flatMap c30_o)]), (3, .box [.int .i64 a0.1, .own 30 z2.length (z2.flatMap c30_o)])] hk rfl ?_)
    refine ls_rs tbOk ?_
    refine evs (ev_ldBt (off := 0) (v := .agg [.int .i64 a0.1, .own 30 z2.length (z2.flatMap c30_o)]) (c' := .box [.int .i64 a0.1, .dat z2.length (z2.flatMap c30_o)]) rfl rfl rfl rfl (Nat.le_of_ble_eq_true rfl) rfl rfl (evs (ev_st (off := 0) (c1 := .agg [.int .i64 a0.1, .own 30 z2.length (z2.flatMap c30_o)]) (cs' := [.int .i64 a0.1, .own 30 z2.length (z2.flatMap c30_o)]) rfl rfl rfl rfl rfl rfl (Nat.le_of_ble_eq_true rfl) rfl (evn ?_))))
    refine ls_keep [(2, .box [.int .i64 a0.1, .own 30 z2.length (z2.flatMap c30_o)])] ⟨kr, trivial⟩ rfl ?_
    refine ls_ret ?_
    have hr := Option.some.inj h
    rw [← hr]
    exact ⟨.inl rfl, rfl⟩
  refine ls_rec (fun (s : (List (List Int)) × Int) => match s with | (y1, y2) => [(1, .box [.int .i64 a0.1, .dat a0.2.length (a0.2.flatMap c30_d)]), (2, .box [.int .i64 0, .own 30 ([] : List (List Int)).length (([] : List (List Int)).flatMap c30_o)]), (3, .box [.int .i64 a0.1, .own 30 y1.length (y1.flatMap c30_o)]), (4, .int .i64 y2)]) (spec_l5Copy_B1 a0) fz (([] : List (List Int)), 0) o1 hl ⟨kr, kr, kr, kr, trivial⟩ (fun _ => rfl) ?_
  rintro m ⟨y1, y2⟩ N h hN
  unfold spec_l5Copy_B1 at h
  dsimp only at h
  refine ls_seq_k fun K3 hK3 => ?_
  refine ls_rs tbOk ?_
  refine evs (ev_mv (c := .int .i64 y2) rfl rfl rfl (evs (ev_fa (c1 := .cref 1 0) (v := .cref 1 1) rfl rfl rfl ⟨_, rfl⟩ rfl (evs (ev_ldB (off := 1) (v := .dat a0.2.length (a0.2.flatMap c30_d)) rfl rfl rfl rfl (Nat.le_of_ble_eq_true rfl) rfl (evs (ev_len (c1 := .dat a0.2.length (a0.2.flatMap c30_d)) rfl rfl rfl (evs (ev_bin (c1 := .int .i64 y2) (c2 := .int .i64 (List.length a0.2 : Int)) rfl rfl rfl (evn ?_))))))))))
  refine ls_keep [(1, .box [.int .i64 a0.1, .dat a0.2.length (a0.2.flatMap c30_d)]), (2, .box [.int .i64 0, .own 30 ([] : List (List Int)).length (([] : List (List Int)).flatMap c30_o)]), (3, .box [.int .i64 a0.1, .own 30 y1.length (y1.flatMap c30_o)]), (4, .int .i64 y2), (12, .bool (decide (y2 < (List.length a0.2 : Int))))] ⟨kr, kr, kr, kr, kr, trivial⟩ rfl ?_
  rcases cond_some h with ⟨g4, h⟩ | ⟨g4, h⟩
  · refine ls_cT rfl g4 ?_
    refine ls_skip ?_
    refine hK3 _ (ls_keep [(1, .box [.int .i64 a0.1, .dat a0.2.length (a0.2.flatMap c30_d)]), (2, .box [.int .i64 0, .own 30 ([] : List (List Int)).length (([] : List (List Int)).flatMap c30_o)]), (3, .box [.int .i64 a0.1, .own 30 y1.length (y1.flatMap c30_o)]), (4, .int .i64 y2)] ⟨kr, kr, kr, kr, trivial⟩ rfl ?_)
    refine ls_seq_k fun K5 hK5 => ?_
    refine ls_blk ?_
    refine ls_drw tbOk mixed (by kernel_rfl) ?_
    refine evd rfl rfl (ev_fa (c1 := .cref 3 0) (v := .cref 3 1) rfl rfl rfl ⟨_, rfl⟩ rfl (evd rfl rfl (ev_ldBt (off := 1) (v := .own 30 y1.length (y1.flatMap c30_o)) (c' := .box [.int .i64 a0.1, .dat y1.length (y1.flatMap c30_o)]) rfl rfl rfl rfl (Nat.le_of_ble_eq_true rfl) rfl rfl (evd rfl rfl (ev_bs [] (cs := []) rfl trivial rfl (Nat.le_of_ble_eq_true rfl) rfl (evd rfl rfl (ev_fa (c1 := .cref 1 0) (v := .cref 1 1) rfl rfl rfl ⟨_, rfl⟩ rfl (evd rfl rfl (ev_ldB (off := 1) (v := .dat a0.2.length (a0.2.flatMap c30_d)) rfl rfl rfl rfl (Nat.le_of_ble_eq_true rfl) rfl (evd rfl rfl (ev_mv (c := .int .i64 y2) rfl rfl rfl (?_))))))))))))
    obtain ⟨e6, g7, h⟩ := ob_some h
    refine evd rfl rfl (ev_ia rfl rfl rfl ⟨(geti_some g7).1, (geti_some g7).2.1⟩ (evd rfl rfl (ev_ldEt (i := y2) (n := 1) (off := 0) (v := .dat e6.length (e6.flatMap ci64)) rfl rfl zc30_d g7 rfl (Nat.le_of_ble_eq_true rfl) rfl (?_))))
    obtain ⟨g8, h⟩ := chk_some h
    refine evd rfl rfl (ev_app (f := ci64) (l := ([] : List Int)) (m := e6) (c2 := .dat e6.length (e6.flatMap ci64)) rfl rfl rfl (flat_len zci64 e6) rfl (map_dg (fun _ => rfl) _) g8 rfl (evd rfl rfl (ev_bs [.own 3 (([] : List Int) ++ e6).length ((([] : List Int) ++ e6).flatMap ci64)] (cs := [.own 3 (([] : List Int) ++ e6).length ((([] : List Int) ++ e6).flatMap ci64)]) rfl ⟨rfl, trivial⟩ rfl (Nat.le_of_ble_eq_true rfl) rfl (?_))))
    obtain ⟨g9, h⟩ := chk_some h
    refine evd rfl rfl (ev_app (f := c30_o) (l := y1) (m := ([([] : List Int) ++ e6])) (c2 := .own 30 ([([] : List Int) ++ e6]).length (([([] : List Int) ++ e6]).flatMap c30_o)) rfl rfl rfl (flat_len zc30_o ([([] : List Int) ++ e6])) rfl rfl g9 rfl (evd rfl rfl (ev_fa (c1 := .cref 3 0) (v := .cref 3 1) rfl rfl rfl ⟨_, rfl⟩ rfl (evd rfl rfl (ev_st (off := 1) (c1 := .own 30 (y1 ++ ([([] : List Int) ++ e6])).length ((y1 ++ ([([] : List Int) ++ e6])).flatMap c30_o)) (cs' := [.int .i64 a0.1, .own 30 (y1 ++ ([([] : List Int) ++ e6])).length ((y1 ++ ([([] : List Int) ++ e6])).flatMap c30_o)]) rfl rfl rfl rfl rfl rfl (Nat.le_of_ble_eq_true rfl) rfl (evdn ?_))))))
    refine hK5 _ (ls_keep [(1, .box [.int .i64 a0.1, .dat a0.2.length (a0.2.flatMap c30_d)]), (2, .box [.int .i64 0, .own 30 ([] : List (List Int)).length (([] : List (List Int)).flatMap c30_o)]), (3, .box [.int .i64 a0.1, .own 30 (y1 ++ ([([] : List Int) ++ e6])).length ((y1 ++ ([([] : List Int) ++ e6])).flatMap c30_o)]), (4, .int .i64 y2)] ⟨kr, kr, kr, kr, trivial⟩ rfl ?_)
    refine ls_rgn tbOk ?_
    refine evs (ev_mv (c := .int .i64 y2) rfl rfl rfl (evs (ev_bin (c1 := .int .i64 y2) (c2 := .int .i64 1) rfl rfl rfl (evs (ev_as (c := .int .i64 (IntKind.i64.wrap (y2 + 1))) rfl rfl rfl (evn ?_))))))
    exact hN _ ((y1 ++ ([([] : List Int) ++ e6])), (IntKind.i64.wrap (y2 + 1))) h ⟨kr, kr, kr, kr, trivial⟩
  · refine ls_cF rfl g4 ?_
    refine ls_exit ?_
    have q0 := (Option.some.inj h).symm
    have r0 := hr1
    rw [q0] at r0
    exact kXspec_l5Copy_B1 y1 r0 _ ⟨kr, kr, trivial⟩
def spec_l5Sort_J5 (rec : ((List (List Int)) × (List (List Int)) × (List (List Int))) → Option ((List (List Int)))) (y3 : List (List Int)) (x18 : List (List Int)) (x19 : List (List Int)) (x20 : List Int) (x22 : Bool) : Option ((List (List Int))) := cond x22 (chk (List.length y3 + List.length [x20] ≤ lim) (rec (x18, x19, (y3 ++ [x20])))) (rec (x18, x19, y3))
def spec_l5Sort_J4 (rec : ((List (List Int)) × (List (List Int)) × (List (List Int))) → Option ((List (List Int)))) (y3 : List (List Int)) (x18 : List (List Int)) (x19 : List (List Int)) (x20 : List Int) : Option ((List (List Int))) := cond ((List.length y3 : Int) == 0) (spec_l5Sort_J5 rec y3 x18 x19 x20 true) (obind (geti y3 (IntKind.i64.wrap ((List.length y3 : Int) - 1))) fun e26 => obind (spec_CompareRows e26 x20) fun v28 => spec_l5Sort_J5 rec y3 x18 x19 x20 (v28 != 0))
def spec_l5Sort_J3 (rec : ((List (List Int)) × (List (List Int)) × (List (List Int))) → Option ((List (List Int)))) (y1 : List (List Int)) (y2 : List (List Int)) (y3 : List (List Int)) (x16 : Int) : Option ((List (List Int))) := cond (decide (0 < x16)) (obind (geti y2 0) fun e31 => chk ((0 : Int) ≤ 1 ∧ 1 ≤ (List.length y2 : Int) ∧ (List.length y2 : Int) ≤ (List.length y2 : Int)) (spec_l5Sort_J4 rec y3 y1 (subl y2 1 (List.length y2 : Int)) e31)) (obind (geti y1 0) fun e34 => chk ((0 : Int) ≤ 1 ∧ 1 ≤ (List.length y1 : Int) ∧ (List.length y1 : Int) ≤ (List.length y1 : Int)) (spec_l5Sort_J4 rec y3 (subl y1 1 (List.length y1 : Int)) y2 e34))
def spec_l5Sort_J2 (rec : ((List (List Int)) × (List (List Int)) × (List (List Int))) → Option ((List (List Int)))) (y1 : List (List Int)) (y2 : List (List Int)) (y3 : List (List Int)) (x13 : Bool) : Option ((List (List Int))) := cond x13 (cond ((List.length y1 : Int) == 0) (spec_l5Sort_J3 rec y1 y2 y3 1) (cond (decide (0 < (List.length y2 : Int))) (obind (geti y1 0) fun e39 => obind (geti y2 0) fun e41 => obind (spec_CompareRows e39 e41) fun v43 => spec_l5Sort_J3 rec y1 y2 y3 v43) (spec_l5Sort_J3 rec y1 y2 y3 (-1)))) (some y3)
def spec_l5Sort_B1  (rec : ((List (List Int)) × (List (List Int)) × (List (List Int))) → Option ((List (List Int)))) (s : (List (List Int)) × (List (List Int)) × (List (List Int))) : Option ((List (List Int))) := match s with
  | (y1, y2, y3) => cond (decide (0 < (List.length y1 : Int))) (spec_l5Sort_J2 rec y1 y2 y3 true) (spec_l5Sort_J2 rec y1 y2 y3 (decide (0 < (List.length y2 : Int))))
def spec_l5Sort_R (rec : ((List (List Int))) → Option ((List (List Int)))) (a0 : (List (List Int))) : Option ((List (List Int))) := cond (decide ((List.length a0 : Int) < 2)) (some a0) (chk ((0 : Int) ≤ 0 ∧ 0 ≤ IntKind.i64.wrap (Int.tdiv (List.length a0 : Int) 2) ∧ IntKind.i64.wrap (Int.tdiv (List.length a0 : Int) 2) ≤ (List.length a0 : Int)) (obind (rec (subl a0 0 (IntKind.i64.wrap (Int.tdiv (List.length a0 : Int) 2)))) fun v4 => chk ((0 : Int) ≤ IntKind.i64.wrap (Int.tdiv (List.length a0 : Int) 2) ∧ IntKind.i64.wrap (Int.tdiv (List.length a0 : Int) 2) ≤ (List.length a0 : Int) ∧ (List.length a0 : Int) ≤ (List.length a0 : Int)) (obind (rec (subl a0 (IntKind.i64.wrap (Int.tdiv (List.length a0 : Int) 2)) (List.length a0 : Int))) fun v7 => obind (loopF spec_l5Sort_B1 fz (v4, v7, ([] : List (List Int)))) fun z10 => some z10)))
def spec_l5Sort (a0 : List (List Int)) : Option ((List (List Int))) := loopF spec_l5Sort_R fz a0
theorem spec_l5Sort_s {a0 : List (List Int)} {r : (List (List Int))} (h : spec_l5Sort a0 = some r) : SoundAt Try.prog 139 [.dat a0.length (a0.flatMap c30_d)] (.dat r.length (r.flatMap c30_d)) := by
  suffices key : ∀ m (a0 : List (List Int)) (r : (List (List Int))), loopF spec_l5Sort_R m a0 = some r → SoundAt Try.prog 139 [.dat a0.length (a0.flatMap c30_d)] (.dat r.length (r.flatMap c30_d)) from key fz a0 r h
  intro m
  induction m with
  | zero => intro a0 r h; cases h
  | succ m ih0 =>
    intro a0 r h
    have ih : ∀ {a0 : List (List Int)} {r : (List (List Int))}, loopF spec_l5Sort_R m a0 = some r → SoundAt Try.prog 139 [.dat a0.length (a0.flatMap c30_d)] (.dat r.length (r.flatMap c30_d)) := fun h => ih0 _ _ h
    change spec_l5Sort_R (loopF spec_l5Sort_R m) a0 = some r at h
    unfold spec_l5Sort_R at h
    try dsimp only at h
    refine sound_lit tbOk lit139 (Nat.le_of_ble_eq_true rfl) rfl ?_
    unfold c139
    refine ls_keep [(0, .dat a0.length (a0.flatMap c30_d))] ⟨kr, trivial⟩ rfl ?_
    refine ls_rs tbOk ?_
    refine evs (ev_an rfl rfl (evn ?_))
    refine ls_keep [(0, .dat a0.length (a0.flatMap c30_d))] ⟨kr, trivial⟩ rfl ?_
    refine ls_seq_k fun K1 hK1 => ?_
    refine ls_rs tbOk ?_
    refine evs (ev_mv (c := .dat a0.length (a0.flatMap c30_d)) rfl rfl rfl (evs (ev_len (c1 := .dat a0.length (a0.flatMap c30_d)) rfl rfl rfl (evs (ev_bin (c1 := .int .i64 (List.length a0 : Int)) (c2 := .int .i64 2) rfl rfl rfl (evn ?_))))))
    refine ls_keep [(0, .dat a0.length (a0.flatMap c30_d)), (11, .bool (decide ((List.length a0 : Int) < 2)))] ⟨kr, kr, trivial⟩ rfl ?_
    rcases cond_some h with ⟨g2, h⟩ | ⟨g2, h⟩
    · refine ls_cT rfl g2 ?_
      refine ls_rs tbOk ?_
      refine evs (ev_mvt (c := .dat a0.length (a0.flatMap c30_d)) rfl rfl rfl (evs (ev_as (c := .dat a0.length (a0.flatMap c30_d)) rfl rfl rfl (evn ?_))))
      refine ls_keep [(2, .dat a0.length (a0.flatMap c30_d))] ⟨kr, trivial⟩ rfl ?_
      refine ls_ret ?_
      have hr := Option.some.inj h
      rw [← hr]
      exact ⟨.inl rfl, rfl⟩
    · refine ls_cF rfl g2 ?_
      refine ls_skip ?_
      refine hK1 _ (ls_keep [(0, .dat a0.length (a0.flatMap c30_d))] ⟨kr, trivial⟩ rfl ?_)
      refine ls_rs tbOk ?_
      refine evs (ev_mv (c := .dat a0.length (a0.flatMap c30_d)) rfl rfl rfl (evs (ev_len (c1 := .dat a0.length (a0.flatMap c30_d)) rfl rfl rfl (evs (ev_bin (c1 := .int .i64 (List.length a0 : Int)) (c2 := .int .i64 2) rfl rfl ⟨rfl, by decide⟩ (evs (ev_as (c := .int .i64 (IntKind.i64.wrap (Int.tdiv (List.length a0 : Int) 2))) rfl rfl rfl (evn ?_))))))))
      refine ls_keep [(0, .dat a0.length (a0.flatMap c30_d)), (3, .int .i64 (IntKind.i64.wrap (Int.tdiv (List.length a0 : Int) 2)))] ⟨kr, kr, trivial⟩ rfl ?_
      refine ls_rs tbOk ?_
      refine evs (ev_mv (c := .dat a0.length (a0.flatMap c30_d)) rfl rfl rfl (evs (ev_mv (c := .int .i64 (IntKind.i64.wrap (Int.tdiv (List.length a0 : Int) 2))) rfl rfl rfl (?_))))
      obtain ⟨g3, h⟩ := chk_some h
      refine evs (ev_sle (lst := a0) rfl rfl zc30_d rfl rfl g3 (?_))
      obtain ⟨v4, g5, h⟩ := ob_some h
      refine evs (ev_call (era rfl (erD ec30_d _) eran) (ih g5) (evs (ev_as (c := .dat v4.length (v4.flatMap c30_d)) rfl rfl rfl (evn ?_))))
      refine ls_keep [(0, .dat a0.length (a0.flatMap c30_d)), (3, .int .i64 (IntKind.i64.wrap (Int.tdiv (List.length a0 : Int) 2))), (4, .dat v4.length (v4.flatMap c30_d))] ⟨kr, kr, kr, trivial⟩ rfl ?_
      refine ls_rs tbOk ?_
      refine evs (ev_mv (c := .dat a0.length (a0.flatMap c30_d)) rfl rfl rfl (evs (ev_mv (c := .int .i64 (IntKind.i64.wrap (Int.tdiv (List.length a0 : Int) 2))) rfl rfl rfl (?_))))
      obtain ⟨g6, h⟩ := chk_some h
      refine evs (ev_sle (lst := a0) rfl rfl zc30_d rfl rfl g6 (?_))
      obtain ⟨v7, g8, h⟩ := ob_some h
      refine evs (ev_call (era rfl (erD ec30_d _) eran) (ih g8) (evs (ev_as (c := .dat v7.length (v7.flatMap c30_d)) rfl rfl rfl (evn ?_))))
      refine ls_keep [(4, .dat v4.length (v4.flatMap c30_d)), (5, .dat v7.length (v7.flatMap c30_d))] ⟨kr, kr, trivial⟩ rfl ?_
      refine ls_rs tbOk ?_
      refine evs (ev_bs [] (cs := []) rfl trivial rfl (Nat.le_of_ble_eq_true rfl) rfl (evs (ev_as (c := .own 30 ([] : List (List Int)).length (([] : List (List Int)).flatMap c30_o)) rfl rfl rfl (evn ?_))))
      refine ls_keep [(4, .dat v4.length (v4.flatMap c30_d)), (5, .dat v7.length (v7.flatMap c30_d)), (6, .own 30 ([] : List (List Int)).length (([] : List (List Int)).flatMap c30_o))] ⟨kr, kr, kr, trivial⟩ rfl ?_
      refine ls_seq_k fun K9 hK9 => ?_
      obtain ⟨o1, hl, hr1⟩ := ob_some h
      clear h
      have kXspec_l5Sort_B1 : ∀ (z10 : List (List Int)), (some z10) = some r → ∀ σ' : PS, okK σ' [(6, .own 30 z10.length (z10.flatMap c30_d))] → K9 σ' := by
        intro z10 h σ' hk
        refine hK9 _ (ls_keep [(6, .own 30 z10.length (z10.flatMap c30_d))] hk rfl ?_)
        refine ls_rs tbOk ?_
        refine evs (ev_mvt (c := .own 30 z10.length (z10.flatMap c30_d)) rfl rfl rfl (evs (ev_as (c := .own 30 z10.length (z10.flatMap c30_d)) rfl rfl rfl (evn ?_))))
        refine ls_keep [(2, .own 30 z10.length (z10.flatMap c30_d))] ⟨kr, trivial⟩ rfl ?_
        refine ls_keep [(2, .dat z10.length (z10.flatMap c30_d))] ⟨(ke rfl (erO ec30_d _)), trivial⟩ rfl ?_
        refine ls_ret ?_
        have hr := Option.some.inj h
        rw [← hr]
        exact ⟨.inl rfl, rfl⟩
      refine ls_rec (fun (s : (List (List Int)) × (List (List Int)) × (List (List Int))) => match s with | (y1, y2, y3) => [(4, .dat y1.length (y1.flatMap c30_d)), (5, .dat y2.length (y2.flatMap c30_d)), (6, .own 30 y3.length (y3.flatMap c30_d))]) spec_l5Sort_B1 fz (v4, v7, ([] : List (List Int))) o1 hl ⟨kr, kr, kr, trivial⟩ (fun _ => rfl) ?_
      rintro m ⟨y1, y2, y3⟩ N h hN
      unfold spec_l5Sort_B1 at h
      dsimp only at h
      refine ls_seq_k fun K11 hK11 => ?_
      refine ls_rs_k tbOk fun K12 hK12 => ?_
      have kspec_l5Sort_J2 : ∀ (x13 : Bool), spec_l5Sort_J2 (loopF spec_l5Sort_B1 m) y1 y2 y3 x13 = some o1 → ∀ σ' : PS, okK σ' [(4, .dat y1.length (y1.flatMap c30_d)), (5, .dat y2.length (y2.flatMap c30_d)), (6, .own 30 y3.length (y3.flatMap c30_d)), (32, .bool x13)] → K12 σ' := by
        intro x13 h σ' hk
        unfold spec_l5Sort_J2 at h
        refine hK12 _ (ls_keep [(4, .dat y1.length (y1.flatMap c30_d)), (5, .dat y2.length (y2.flatMap c30_d)), (6, .own 30 y3.length (y3.flatMap c30_d)), (32, .bool x13)] hk rfl ?_)
        rcases cond_some h with ⟨g14, h⟩ | ⟨g14, h⟩
        · refine ls_cT rfl g14 ?_
          refine ls_skip ?_
          refine hK11 _ (ls_keep [(4, .dat y1.length (y1.flatMap c30_d)), (5, .dat y2.length (y2.flatMap c30_d)), (6, .own 30 y3.length (y3.flatMap c30_d))] ⟨kr, kr, kr, trivial⟩ rfl ?_)
          refine ls_blk ?_
          refine ls_rs tbOk ?_
          refine evs (ev_ac rfl nofun rfl (evn ?_))
          refine ls_keep [(4, .dat y1.length (y1.flatMap c30_d)), (5, .dat y2.length (y2.flatMap c30_d)), (6, .own 30 y3.length (y3.flatMap c30_d))] ⟨kr, kr, kr, trivial⟩ rfl ?_
          refine ls_seq_k fun K15 hK15 => ?_
          refine ls_blk ?_
          refine ls_rs tbOk ?_
          refine evs (ev_mv (c := .dat y1.length (y1.flatMap c30_d)) rfl rfl rfl (evs (ev_len (c1 := .dat y1.length (y1.flatMap c30_d)) rfl rfl rfl (evs (ev_bin (c1 := .int .i64 (List.length y1 : Int)) (c2 := .int .i64 0) rfl rfl rfl (evs (ev_as (c := .bool ((List.length y1 : Int) == 0)) rfl rfl rfl (evn ?_))))))))
          refine ls_keep [(4, .dat y1.length (y1.flatMap c30_d)), (5, .dat y2.length (y2.flatMap c30_d)), (6, .own 30 y3.length (y3.flatMap c30_d)), (33, .bool ((List.length y1 : Int) == 0))] ⟨kr, kr, kr, kr, trivial⟩ rfl ?_
          have kspec_l5Sort_J3 : ∀ (x16 : Int), spec_l5Sort_J3 (loopF spec_l5Sort_B1 m) y1 y2 y3 x16 = some o1 → ∀ σ' : PS, okK σ' [(4, .dat y1.length (y1.flatMap c30_d)), (5, .dat y2.length (y2.flatMap c30_d)), (6, .own 30 y3.length (y3.flatMap c30_d)), (7, .int .i64 x16)] → K15 σ' := by
            intro x16 h σ' hk
            unfold spec_l5Sort_J3 at h
            refine hK15 _ (ls_keep [(4, .dat y1.length (y1.flatMap c30_d)), (5, .dat y2.length (y2.flatMap c30_d)), (6, .own 30 y3.length (y3.flatMap c30_d)), (7, .int .i64 x16)] hk rfl ?_)
            refine ls_rs tbOk ?_
            refine evs (ev_bs [] (cs := []) rfl trivial rfl (Nat.le_of_ble_eq_true rfl) rfl (evs (ev_as (c := .own 3 ([] : List Int).length (([] : List Int).flatMap ci64)) rfl rfl rfl (evn ?_))))
            refine ls_keep [(4, .dat y1.length (y1.flatMap c30_d)), (5, .dat y2.length (y2.flatMap c30_d)), (6, .own 30 y3.length (y3.flatMap c30_d)), (7, .int .i64 x16)] ⟨kr, kr, kr, kr, trivial⟩ rfl ?_
            refine ls_seq_k fun K17 hK17 => ?_
            refine ls_rs tbOk ?_
            refine evs (ev_mv (c := .int .i64 x16) rfl rfl rfl (evs (ev_bin (c1 := .int .i64 x16) (c2 := .int .i64 0) rfl rfl rfl (evn ?_))))
            refine ls_keep [(4, .dat y1.length (y1.flatMap c30_d)), (5, .dat y2.length (y2.flatMap c30_d)), (6, .own 30 y3.length (y3.flatMap c30_d)), (50, .bool (decide (0 < x16)))] ⟨kr, kr, kr, kr, trivial⟩ rfl ?_
            have kspec_l5Sort_J4 : ∀ (x18 : List (List Int)) (x19 : List (List Int)) (x20 : List Int), spec_l5Sort_J4 (loopF spec_l5Sort_B1 m) y3 x18 x19 x20 = some o1 → ∀ σ' : PS, okK σ' [(4, .dat x18.length (x18.flatMap c30_d)), (5, .dat x19.length (x19.flatMap c30_d)), (6, .own 30 y3.length (y3.flatMap c30_d)), (8, .dat x20.length (x20.flatMap ci64))] → K17 σ' := by
              intro x18 x19 x20 h σ' hk
              unfold spec_l5Sort_J4 at h
              refine hK17 _ (ls_keep [(4, .dat x18.length (x18.flatMap c30_d)), (5, .dat x19.length (x19.flatMap c30_d)), (6, .own 30 y3.length (y3.flatMap c30_d)), (8, .dat x20.length (x20.flatMap ci64))] hk rfl ?_)
              refine ls_rs_k tbOk fun K21 hK21 => ?_
              have kspec_l5Sort_J5 : ∀ (x22 : Bool), spec_l5Sort_J5 (loopF spec_l5Sort_B1 m) y3 x18 x19 x20 x22 = some o1 → ∀ σ' : PS, okK σ' [(4, .dat x18.length (x18.flatMap c30_d)), (5, .dat x19.length (x19.flatMap c30_d)), (6, .own 30 y3.length (y3.flatMap c30_d)), (8, .dat x20.length (x20.flatMap ci64)), (74, .bool x22)] → K21 σ' := by
                intro x22 h σ' hk
                unfold spec_l5Sort_J5 at h
                refine hK21 _ (ls_keep [(4, .dat x18.length (x18.flatMap c30_d)), (5, .dat x19.length (x19.flatMap c30_d)), (6, .own 30 y3.length (y3.flatMap c30_d)), (8, .dat x20.length (x20.flatMap ci64)), (74, .bool x22)] hk rfl ?_)
                rcases cond_some h with ⟨g23, h⟩ | ⟨g23, h⟩
                · refine ls_cT rfl g23 ?_
                  refine ls_rgn tbOk ?_
                  refine evs (ev_mvt (c := .own 30 y3.length (y3.flatMap c30_d)) rfl rfl rfl (evs (ev_mvt (c := .dat x20.length (x20.flatMap ci64)) rfl rfl rfl (evs (ev_bs [.dat x20.length (x20.flatMap ci64)] (cs := [.dat x20.length (x20.flatMap ci64)]) rfl ⟨rfl, trivial⟩ rfl (Nat.le_of_ble_eq_true rfl) rfl (?_))))))
                  obtain ⟨g24, h⟩ := chk_some h
                  refine evs (ev_app (f := c30_d) (l := y3) (m := [x20]) (c2 := .own 30 [x20].length ([x20].flatMap c30_d)) rfl rfl rfl (flat_len zc30_d [x20]) rfl rfl g24 rfl (evs (ev_as (c := .own 30 (y3 ++ [x20]).length ((y3 ++ [x20]).flatMap c30_d)) rfl rfl rfl (evn ?_))))
                  exact hN _ (x18, x19, (y3 ++ [x20])) h ⟨kr, kr, kr, trivial⟩
                · refine ls_cF rfl g23 ?_
                  refine ls_skip ?_
                  exact hN _ (x18, x19, y3) h ⟨kr, kr, kr, trivial⟩
              refine evs (ev_mv (c := .own 30 y3.length (y3.flatMap c30_d)) rfl rfl rfl (evs (ev_len (c1 := .dat y3.length (y3.flatMap c30_d)) rfl rfl rfl (evs (ev_bin (c1 := .int .i64 (List.length y3 : Int)) (c2 := .int .i64 0) rfl rfl rfl (evs (ev_mv (c := .bool ((List.length y3 : Int) == 0)) rfl rfl rfl (?_))))))))
              rcases cond_some h with ⟨g25, h⟩ | ⟨g25, h⟩
              · refine evs (ev_gs rfl rfl (isb_T g25) (evs (ev_gs rfl rfl (isb_T g25) (evs (ev_gs rfl rfl (isb_T g25) (evs (ev_gs rfl rfl (isb_T g25) (evs (ev_gs rfl rfl (isb_T g25) (evs (ev_gs rfl rfl (isb_T g25) (evs (ev_gs rfl rfl (isb_T g25) (evs (ev_gs rfl rfl (isb_T g25) (evs (ev_gs rfl rfl (isb_T g25) (evs (ev_pkT (c1 := .bool true) rfl g25 rfl rfl (evn ?_))))))))))))))))))))
                exact kspec_l5Sort_J5 true h _ ⟨kr, kr, kr, kr, kr, trivial⟩
              · refine evs (ev_gr rfl (congrArg V.bool g25) (ev_mv (c := .own 30 y3.length (y3.flatMap c30_d)) rfl rfl rfl (evs (ev_gr rfl (congrArg V.bool g25) (ev_mv (c := .own 30 y3.length (y3.flatMap c30_d)) rfl rfl rfl (evs (ev_gr rfl (congrArg V.bool g25) (ev_len (c1 := .dat y3.length (y3.flatMap c30_d)) rfl rfl rfl (evs (ev_gr rfl (congrArg V.bool g25) (ev_bin (c1 := .int .i64 (List.length y3 : Int)) (c2 := .int .i64 1) rfl rfl rfl (?_))))))))))))
                obtain ⟨e26, g27, h⟩ := ob_some h
                refine evs (ev_gr rfl (congrArg V.bool g25) (ev_ia rfl rfl rfl ⟨(geti_some g27).1, (geti_some g27).2.1⟩ (evs (ev_gr rfl (congrArg V.bool g25) (ev_ldE (i := (IntKind.i64.wrap ((List.length y3 : Int) - 1))) (n := 1) (off := 0) (v := .dat e26.length (e26.flatMap ci64)) rfl rfl zc30_d g27 rfl (Nat.le_of_ble_eq_true rfl) rfl (evs (ev_gr rfl (congrArg V.bool g25) (ev_mv (c := .dat x20.length (x20.flatMap ci64)) rfl rfl rfl (?_)))))))))
                obtain ⟨v28, g29, h⟩ := ob_some h
                refine evs (ev_gr rfl (congrArg V.bool g25) (ev_call (era rfl (erD eci64 _) (era rfl (erD eci64 _) eran)) (spec_CompareRows_s g29) (evs (ev_gr rfl (congrArg V.bool g25) (ev_bin (c1 := .int .i64 v28) (c2 := .int .i64 0) rfl rfl rfl (evs (ev_pkF (c1 := .bool (v28 != 0)) rfl g25 rfl rfl (evn ?_))))))))
                exact kspec_l5Sort_J5 (v28 != 0) h _ ⟨kr, kr, kr, kr, kr, trivial⟩
            rcases cond_some h with ⟨g30, h⟩ | ⟨g30, h⟩
            · refine ls_cT rfl g30 ?_
              refine ls_rs tbOk ?_
              refine evs (ev_mv (c := .dat y2.length (y2.flatMap c30_d)) rfl rfl rfl (?_))
              obtain ⟨e31, g32, h⟩ := ob_some h
              refine evs (ev_ia rfl rfl rfl ⟨(geti_some g32).1, (geti_some g32).2.1⟩ (evs (ev_ldEt (i := 0) (n := 1) (off := 0) (v := .dat e31.length (e31.flatMap ci64)) rfl rfl zc30_d g32 rfl (Nat.le_of_ble_eq_true rfl) rfl (evs (ev_as (c := .dat e31.length (e31.flatMap ci64)) rfl rfl rfl (evn ?_))))))
              refine ls_keep [(4, .dat y1.length (y1.flatMap c30_d)), (5, .dat y2.length (y2.flatMap c30_d)), (6, .own 30 y3.length (y3.flatMap c30_d)), (8, .dat e31.length (e31.flatMap ci64))] ⟨kr, kr, kr, kr, trivial⟩ rfl ?_
              refine ls_rgn tbOk ?_
              refine evs (ev_mv (c := .dat y2.length (y2.flatMap c30_d)) rfl rfl rfl (?_))
              obtain ⟨g33, h⟩ := chk_some h
              refine evs (ev_sle (lst := y2) rfl rfl zc30_d rfl rfl g33 (evs (ev_as (c := .dat (subl y2 1 (List.length y2 : Int)).length ((subl y2 1 (List.length y2 : Int)).flatMap c30_d)) rfl rfl rfl (evn ?_))))
              exact kspec_l5Sort_J4 y1 (subl y2 1 (List.length y2 : Int)) e31 h _ ⟨kr, kr, kr, kr, trivial⟩
            · refine ls_cF rfl g30 ?_
              refine ls_rs tbOk ?_
              refine evs (ev_mv (c := .dat y1.length (y1.flatMap c30_d)) rfl rfl rfl (?_))
              obtain ⟨e34, g35, h⟩ := ob_some h
              refine evs (ev_ia rfl rfl rfl ⟨(geti_some g35).1, (geti_some g35).2.1⟩ (evs (ev_ldEt (i := 0) (n := 1) (off := 0) (v := .dat e34.length (e34.flatMap ci64)) rfl rfl zc30_d g35 rfl (Nat.le_of_ble_eq_true rfl) rfl (evs (ev_as (c := .dat e34.length (e34.flatMap ci64)) rfl rfl rfl (evn ?_))))))
              refine ls_keep [(4, .dat y1.length (y1.flatMap c30_d)), (5, .dat y2.length (y2.flatMap c30_d)), (6, .own 30 y3.length (y3.flatMap c30_d)), (8, .dat e34.length (e34.flatMap ci64))] ⟨kr, kr, kr, kr, trivial⟩ rfl ?_
              refine ls_rgn tbOk ?_
              refine evs (ev_mv (c := .dat y1.length (y1.flatMap c30_d)) rfl rfl rfl (?_))
              obtain ⟨g36, h⟩ := chk_some h
              refine evs (ev_sle (lst := y1) rfl rfl zc30_d rfl rfl g36 (evs (ev_as (c := .dat (subl y1 1 (List.length y1 : Int)).length ((subl y1 1 (List.length y1 : Int)).flatMap c30_d)) rfl rfl rfl (evn ?_))))
              exact kspec_l5Sort_J4 (subl y1 1 (List.length y1 : Int)) y2 e34 h _ ⟨kr, kr, kr, kr, trivial⟩
          rcases cond_some h with ⟨g37, h⟩ | ⟨g37, h⟩
          · refine ls_cT rfl g37 ?_
            refine ls_rgn tbOk ?_
            refine evs (ev_ac rfl nofun rfl (evn ?_))
            exact kspec_l5Sort_J3 1 h _ ⟨kr, kr, kr, kr, trivial⟩
          · refine ls_cF rfl g37 ?_
            refine ls_rs tbOk ?_
            refine evs (ev_mv (c := .dat y2.length (y2.flatMap c30_d)) rfl rfl rfl (evs (ev_len (c1 := .dat y2.length (y2.flatMap c30_d)) rfl rfl rfl (evs (ev_bin (c1 := .int .i64 (List.length y2 : Int)) (c2 := .int .i64 0) rfl rfl rfl (evs (ev_as (c := .bool (decide (0 < (List.length y2 : Int)))) rfl rfl rfl (evn ?_))))))))
            refine ls_keep [(4, .dat y1.length (y1.flatMap c30_d)), (5, .dat y2.length (y2.flatMap c30_d)), (6, .own 30 y3.length (y3.flatMap c30_d)), (37, .bool (decide (0 < (List.length y2 : Int))))] ⟨kr, kr, kr, kr, trivial⟩ rfl ?_
            rcases cond_some h with ⟨g38, h⟩ | ⟨g38, h⟩
            · refine ls_cT rfl g38 ?_
              refine ls_drw tbOk mixed (by kernel_rfl) ?_
              refine evd rfl rfl (ev_mv (c := .dat y1.length (y1.flatMap c30_d)) rfl rfl rfl (?_))
              obtain ⟨e39, g40, h⟩ := ob_some h
              refine evd rfl rfl (ev_ia rfl rfl rfl ⟨(geti_some g40).1, (geti_some g40).2.1⟩ (evd rfl rfl (ev_ldE (i := 0) (n := 1) (off := 0) (v := .dat e39.length (e39.flatMap ci64)) rfl rfl zc30_d g40 rfl (Nat.le_of_ble_eq_true rfl) rfl (evd rfl rfl (ev_mv (c := .dat y2.length (y2.flatMap c30_d)) rfl rfl rfl (?_))))))
              obtain ⟨e41, g42, h⟩ := ob_some h
              refine evd rfl rfl (ev_ia rfl rfl rfl ⟨(geti_some g42).1, (geti_some g42).2.1⟩ (evd rfl rfl (ev_ldE (i := 0) (n := 1) (off := 0) (v := .dat e41.length (e41.flatMap ci64)) rfl rfl zc30_d g42 rfl (Nat.le_of_ble_eq_true rfl) rfl (?_))))
              obtain ⟨v43, g44, h⟩ := ob_some h
              refine evd rfl rfl (ev_call (era rfl (erD eci64 _) (era rfl (erD eci64 _) eran)) (spec_CompareRows_s g44) (evd rfl rfl (ev_as (c := .int .i64 v43) rfl rfl rfl (evdn ?_))))
              exact kspec_l5Sort_J3 v43 h _ ⟨kr, kr, kr, kr, trivial⟩
            · refine ls_cF rfl g38 ?_
              refine ls_rgn tbOk ?_
              refine evs (ev_ac rfl nofun rfl (evn ?_))
              exact kspec_l5Sort_J3 (-1) h _ ⟨kr, kr, kr, kr, trivial⟩
        · refine ls_cF rfl g14 ?_
          refine ls_exit ?_
          have q0 := (Option.some.inj h).symm
          have r0 := hr1
          rw [q0] at r0
          exact kXspec_l5Sort_B1 y3 r0 _ ⟨kr, trivial⟩
      refine evs (ev_mv (c := .dat y1.length (y1.flatMap c30_d)) rfl rfl rfl (evs (ev_len (c1 := .dat y1.length (y1.flatMap c30_d)) rfl rfl rfl (evs (ev_bin (c1 := .int .i64 (List.length y1 : Int)) (c2 := .int .i64 0) rfl rfl rfl (evs (ev_mv (c := .bool (decide (0 < (List.length y1 : Int)))) rfl rfl rfl (?_))))))))
      rcases cond_some h with ⟨g45, h⟩ | ⟨g45, h⟩
      · refine evs (ev_gs rfl rfl (isb_T g45) (evs (ev_gs rfl rfl (isb_T g45) (evs (ev_gs rfl rfl (isb_T g45) (evs (ev_pkT (c1 := .bool true) rfl g45 rfl rfl (evn ?_))))))))
        exact kspec_l5Sort_J2 true h _ ⟨kr, kr, kr, kr, trivial⟩
      · refine evs (ev_gr rfl (congrArg V.bool g45) (ev_mv (c := .dat y2.length (y2.flatMap c30_d)) rfl rfl rfl (evs (ev_gr rfl (congrArg V.bool g45) (ev_len (c1 := .dat y2.length (y2.flatMap c30_d)) rfl rfl rfl (evs (ev_gr rfl (congrArg V.bool g45) (ev_bin (c1 := .int .i64 (List.length y2 : Int)) (c2 := .int .i64 0) rfl rfl rfl (evs (ev_pkF (c1 := .bool (decide (0 < (List.length y2 : Int)))) rfl g45 rfl rfl (evn ?_)))))))))))
        exact kspec_l5Sort_J2 (decide (0 < (List.length y2 : Int))) h _ ⟨kr, kr, kr, kr, trivial⟩
def spec_NewRelation_B1 (a0 : Int) (a1 : List (List Int)) (rec : Int → Option (Sum (Unit) ((Int × (List (List Int))) × Bool))) (y1 : Int) : Option (Sum (Unit) ((Int × (List (List Int))) × Bool)) := cond (decide (y1 < (List.length a1 : Int))) (obind (geti a1 y1) fun e5 => cond ((List.length e5 : Int) != a0) (some (.inr ((0, []), false))) (obind (geti a1 y1) fun e8 => obind (spec_AreValidValues e8) fun v10 => cond (!v10) (some (.inr ((0, []), false))) (rec (IntKind.i64.wrap (y1 + 1))))) (some (.inl ()))
def spec_NewRelation (a0 : Int) (a1 : List (List Int)) : Option ((Int × (List (List Int))) × Bool) := obind (loopF (spec_NewRelation_B1 a0 a1) fz 0) fun o1 => (match o1 with
  | .inl _ => (obind (spec_l5Sort a1) fun v13 => obind (spec_l5Copy (a0, v13)) fun v15 => obind (spec_IsValidRelation v15) fun v18 => cond (!v18) (some ((0, []), false)) (some (v15, true)))
  | .inr r => some r)
theorem spec_NewRelation_s {a0 : Int} {a1 : List (List Int)} {r : (Int × (List (List Int))) × Bool} (h : spec_NewRelation a0 a1 = some r) : SoundAt Try.prog 81 [.int .i64 a0, .dat a1.length (a1.flatMap c30_d)] (.tup [.agg [.int .i64 r.1.1, .own 30 r.1.2.length (r.1.2.flatMap c30_o)], .bool r.2]) := by
  unfold spec_NewRelation at h
  refine sound_lit tbOk lit81 (Nat.le_of_ble_eq_true rfl) rfl ?_
  unfold c81
  refine ls_keep [(0, .int .i64 a0), (1, .dat a1.length (a1.flatMap c30_d))] ⟨kr, kr, trivial⟩ rfl ?_
  refine ls_rs tbOk ?_
  refine evs (ev_al rfl rfl (evs (ev_ac rfl nofun rfl (evn ?_))))
  refine ls_keep [(0, .int .i64 a0), (1, .dat a1.length (a1.flatMap c30_d)), (4, .box [.int .i64 0, .own 30 ([] : List (List Int)).length (([] : List (List Int)).flatMap c30_o)])] ⟨kr, kr, kr, trivial⟩ rfl ?_
  refine ls_seq_k fun K1 hK1 => ?_
  refine ls_rs tbOk ?_
  refine evs (ev_ac rfl nofun rfl (evn ?_))
  refine ls_keep [(0, .int .i64 a0), (1, .dat a1.length (a1.flatMap c30_d)), (4, .box [.int .i64 0, .own 30 ([] : List (List Int)).length (([] : List (List Int)).flatMap c30_o)]), (6, .int .i64 0)] ⟨kr, kr, kr, kr, trivial⟩ rfl ?_
  obtain ⟨o1, hl, hr1⟩ := ob_some h
  clear h
  have kXspec_NewRelation_B1 : ∀ (_ : Unit), (obind (spec_l5Sort a1) fun v13 => obind (spec_l5Copy (a0, v13)) fun v15 => obind (spec_IsValidRelation v15) fun v18 => cond (!v18) (some ((0, []), false)) (some (v15, true))) = some r → ∀ σ' : PS, okK σ' [(0, .int .i64 a0), (1, .dat a1.length (a1.flatMap c30_d)), (4, .box [.int .i64 0, .own 30 ([] : List (List Int)).length (([] : List (List Int)).flatMap c30_o)])] → K1 σ' := by
    intro _ h σ' hk
    refine hK1 _ (ls_keep [(0, .int .i64 a0), (1, .dat a1.length (a1.flatMap c30_d)), (4, .box [.int .i64 0, .own 30 ([] : List (List Int)).length (([] : List (List Int)).flatMap c30_o)])] hk rfl ?_)
    refine ls_rs tbOk ?_
    refine evs (ev_mv (c := .int .i64 a0) rfl rfl rfl (evs (ev_mv (c := .dat a1.length (a1.flatMap c30_d)) rfl rfl rfl (?_))))
    obtain ⟨v13, g14, h⟩ := ob_some h
    refine evs (ev_call (era rfl (erD ec30_d _) eran) (spec_l5Sort_s g14) (evs (ev_bd [.int .i64 a0, .dat v13.length (v13.flatMap c30_d)] (cs := [.int .i64 a0, .dat v13.length (v13.flatMap c30_d)]) rfl ⟨rfl, rfl, trivial⟩ rfl (?_))))
    obtain ⟨v15, g16, h⟩ := ob_some h
    refine evs (ev_call (era rfl (erg (erc rfl (erc (erD ec30_d _) rfl))) eran) (spec_l5Copy_s g16) (evs (ev_al rfl rfl (evs (ev_st (off := 0) (c1 := .agg [.int .i64 v15.1, .own 30 v15.2.length (v15.2.flatMap c30_o)]) (cs' := [.int .i64 v15.1, .own 30 v15.2.length (v15.2.flatMap c30_o)]) rfl rfl rfl rfl rfl rfl (Nat.le_of_ble_eq_true rfl) rfl (evn ?_))))))
    refine ls_keep [(4, .box [.int .i64 0, .own 30 ([] : List (List Int)).length (([] : List (List Int)).flatMap c30_o)]), (7, .box [.int .i64 v15.1, .own 30 v15.2.length (v15.2.flatMap c30_o)])] ⟨kr, kr, trivial⟩ rfl ?_
    refine ls_seq_k fun K17 hK17 => ?_
    refine ls_rs tbOk ?_
    refine evs (ev_ldB (off := 0) (v := .agg [.int .i64 v15.1, .dat v15.2.length (v15.2.flatMap c30_o)]) rfl rfl rfl rfl (Nat.le_of_ble_eq_true rfl) rfl (?_))
    obtain ⟨v18, g19, h⟩ := ob_some h
    refine evs (ev_call (era rfl (erg (erc rfl (erc (erD ec30_o _) rfl))) eran) (spec_IsValidRelation_s g19) (evs (ev_un (c1 := .bool v18) rfl trivial (evn ?_))))
    refine ls_keep [(4, .box [.int .i64 0, .own 30 ([] : List (List Int)).length (([] : List (List Int)).flatMap c30_o)]), (7, .box [.int .i64 v15.1, .own 30 v15.2.length (v15.2.flatMap c30_o)]), (37, .bool (!v18))] ⟨kr, kr, kr, trivial⟩ rfl ?_
    rcases cond_some h with ⟨g20, h⟩ | ⟨g20, h⟩
    · refine ls_cT rfl g20 ?_
      refine ls_rs tbOk ?_
      refine evs (ev_bd [] (cs := [.int .i64 0, .own 30 ([] : List (List Int)).length (([] : List (List Int)).flatMap c30_o)]) rfl trivial rfl (evs (ev_st (off := 0) (c1 := .agg [.int .i64 0, .own 30 ([] : List (List Int)).length (([] : List (List Int)).flatMap c30_o)]) (cs' := [.int .i64 0, .own 30 ([] : List (List Int)).length (([] : List (List Int)).flatMap c30_o)]) rfl rfl rfl rfl rfl rfl (Nat.le_of_ble_eq_true rfl) rfl (evs (ev_ac rfl nofun rfl (evn ?_))))))
      refine ls_keep [(4, .box [.int .i64 0, .own 30 ([] : List (List Int)).length (([] : List (List Int)).flatMap c30_o)]), (5, .bool false)] ⟨kr, kr, trivial⟩ rfl ?_
      refine ls_ret ?_
      have hr := Option.some.inj h
      rw [← hr]
      exact ⟨.inl rfl, rfl⟩
    · refine ls_cF rfl g20 ?_
      refine ls_skip ?_
      refine hK17 _ (ls_keep [(4, .box [.int .i64 0, .own 30 ([] : List (List Int)).length (([] : List (List Int)).flatMap c30_o)]), (7, .box [.int .i64 v15.1, .own 30 v15.2.length (v15.2.flatMap c30_o)])] ⟨kr, kr, trivial⟩ rfl ?_)
      refine ls_rs tbOk ?_
      refine evs (ev_ldBt (off := 0) (v := .agg [.int .i64 v15.1, .own 30 v15.2.length (v15.2.flatMap c30_o)]) (c' := .box [.int .i64 v15.1, .dat v15.2.length (v15.2.flatMap c30_o)]) rfl rfl rfl rfl (Nat.le_of_ble_eq_true rfl) rfl rfl (evs (ev_st (off := 0) (c1 := .agg [.int .i64 v15.1, .own 30 v15.2.length (v15.2.flatMap c30_o)]) (cs' := [.int .i64 v15.1, .own 30 v15.2.length (v15.2.flatMap c30_o)]) rfl rfl rfl rfl rfl rfl (Nat.le_of_ble_eq_true rfl) rfl (evs (ev_ac rfl nofun rfl (evn ?_))))))
      refine ls_keep [(4, .box [.int .i64 v15.1, .own 30 v15.2.length (v15.2.flatMap c30_o)]), (5, .bool true)] ⟨kr, kr, trivial⟩ rfl ?_
      refine ls_ret ?_
      have hr := Option.some.inj h
      rw [← hr]
      exact ⟨.inl rfl, rfl⟩
  refine ls_rec (fun (y1 : Int) => [(0, .int .i64 a0), (1, .dat a1.length (a1.flatMap c30_d)), (4, .box [.int .i64 0, .own 30 ([] : List (List Int)).length (([] : List (List Int)).flatMap c30_o)]), (6, .int .i64 y1)]) (spec_NewRelation_B1 a0 a1) fz 0 o1 hl ⟨kr, kr, kr, kr, trivial⟩ (fun _ => rfl) ?_
  rintro m y1 N h hN
  unfold spec_NewRelation_B1 at h
  refine ls_seq_k fun K2 hK2 => ?_
  refine ls_rs tbOk ?_
  refine evs (ev_mv (c := .int .i64 y1) rfl rfl rfl (evs (ev_mv (c := .dat a1.length (a1.flatMap c30_d)) rfl rfl rfl (evs (ev_len (c1 := .dat a1.length (a1.flatMap c30_d)) rfl rfl rfl (evs (ev_bin (c1 := .int .i64 y1) (c2 := .int .i64 (List.length a1 : Int)) rfl rfl rfl (evn ?_))))))))
  refine ls_keep [(0, .int .i64 a0), (1, .dat a1.length (a1.flatMap c30_d)), (4, .box [.int .i64 0, .own 30 ([] : List (List Int)).length (([] : List (List Int)).flatMap c30_o)]), (6, .int .i64 y1), (11, .bool (decide (y1 < (List.length a1 : Int))))] ⟨kr, kr, kr, kr, kr, trivial⟩ rfl ?_
  rcases cond_some h with ⟨g3, h⟩ | ⟨g3, h⟩
  · refine ls_cT rfl g3 ?_
    refine ls_skip ?_
    refine hK2 _ (ls_keep [(0, .int .i64 a0), (1, .dat a1.length (a1.flatMap c30_d)), (4, .box [.int .i64 0, .own 30 ([] : List (List Int)).length (([] : List (List Int)).flatMap c30_o)]), (6, .int .i64 y1)] ⟨kr, kr, kr, kr, trivial⟩ rfl ?_)
    refine ls_seq_k fun K4 hK4 => ?_
    refine ls_blk ?_
    refine ls_rs tbOk ?_
    refine evs (ev_mv (c := .dat a1.length (a1.flatMap c30_d)) rfl rfl rfl (evs (ev_mv (c := .int .i64 y1) rfl rfl rfl (?_))))
    obtain ⟨e5, g6, h⟩ := ob_some h
    refine evs (ev_ia rfl rfl rfl ⟨(geti_some g6).1, (geti_some g6).2.1⟩ (evs (ev_ldE (i := y1) (n := 1) (off := 0) (v := .dat e5.length (e5.flatMap ci64)) rfl rfl zc30_d g6 rfl (Nat.le_of_ble_eq_true rfl) rfl (evs (ev_len (c1 := .dat e5.length (e5.flatMap ci64)) rfl rfl rfl (evs (ev_mv (c := .int .i64 a0) rfl rfl rfl (evs (ev_bin (c1 := .int .i64 (List.length e5 : Int)) (c2 := .int .i64 a0) rfl rfl rfl (evs (ev_mv (c := .bool ((List.length e5 : Int) != a0)) rfl rfl rfl (?_))))))))))))
    rcases cond_some h with ⟨g7, h⟩ | ⟨g7, h⟩
    · refine evs (ev_gs rfl rfl (isb_T g7) (evs (ev_gs rfl rfl (isb_T g7) (evs (ev_gs rfl rfl (isb_T g7) (evs (ev_gs rfl rfl (isb_T g7) (evs (ev_gs rfl rfl (isb_T g7) (evs (ev_gs rfl rfl (isb_T g7) (evs (ev_pkT (c1 := .bool true) rfl g7 rfl rfl (evn ?_))))))))))))))
      refine ls_keep [(0, .int .i64 a0), (1, .dat a1.length (a1.flatMap c30_d)), (4, .box [.int .i64 0, .own 30 ([] : List (List Int)).length (([] : List (List Int)).flatMap c30_o)]), (6, .int .i64 y1), (28, .bool true)] ⟨kr, kr, kr, kr, kr, trivial⟩ rfl ?_
      refine ls_cT rfl rfl ?_
      refine ls_rs tbOk ?_
      refine evs (ev_bd [] (cs := [.int .i64 0, .own 30 ([] : List (List Int)).length (([] : List (List Int)).flatMap c30_o)]) rfl trivial rfl (evs (ev_st (off := 0) (c1 := .agg [.int .i64 0, .own 30 ([] : List (List Int)).length (([] : List (List Int)).flatMap c30_o)]) (cs' := [.int .i64 0, .own 30 ([] : List (List Int)).length (([] : List (List Int)).flatMap c30_o)]) rfl rfl rfl rfl rfl rfl (Nat.le_of_ble_eq_true rfl) rfl (evs (ev_ac rfl nofun rfl (evn ?_))))))
      refine ls_keep [(4, .box [.int .i64 0, .own 30 ([] : List (List Int)).length (([] : List (List Int)).flatMap c30_o)]), (5, .bool false)] ⟨kr, kr, trivial⟩ rfl ?_
      refine ls_ret ?_
      have q0 := (Option.some.inj h).symm
      have r0 := hr1
      rw [q0] at r0
      have hr := Option.some.inj r0
      rw [← hr]
      exact ⟨.inl rfl, rfl⟩
    · refine evs (ev_gr rfl (congrArg V.bool g7) (ev_mv (c := .dat a1.length (a1.flatMap c30_d)) rfl rfl rfl (evs (ev_gr rfl (congrArg V.bool g7) (ev_mv (c := .int .i64 y1) rfl rfl rfl (?_))))))
      obtain ⟨e8, g9, h⟩ := ob_some h
      refine evs (ev_gr rfl (congrArg V.bool g7) (ev_ia rfl rfl rfl ⟨(geti_some g9).1, (geti_some g9).2.1⟩ (evs (ev_gr rfl (congrArg V.bool g7) (ev_ldE (i := y1) (n := 1) (off := 0) (v := .dat e8.length (e8.flatMap ci64)) rfl rfl zc30_d g9 rfl (Nat.le_of_ble_eq_true rfl) rfl (?_))))))
      obtain ⟨v10, g11, h⟩ := ob_some h
      refine evs (ev_gr rfl (congrArg V.bool g7) (ev_call (era rfl (erD eci64 _) eran) (spec_AreValidValues_s g11) (evs (ev_gr rfl (congrArg V.bool g7) (ev_un (c1 := .bool v10) rfl trivial (evs (ev_pkF (c1 := .bool (!v10)) rfl g7 rfl rfl (evn ?_))))))))
      refine ls_keep [(0, .int .i64 a0), (1, .dat a1.length (a1.flatMap c30_d)), (4, .box [.int .i64 0, .own 30 ([] : List (List Int)).length (([] : List (List Int)).flatMap c30_o)]), (6, .int .i64 y1), (28, .bool (!v10))] ⟨kr, kr, kr, kr, kr, trivial⟩ rfl ?_
      rcases cond_some h with ⟨g12, h⟩ | ⟨g12, h⟩
      · refine ls_cT rfl g12 ?_
        refine ls_rs tbOk ?_
        refine evs (ev_bd [] (cs := [.int .i64 0, .own 30 ([] : List (List Int)).length (([] : List (List Int)).flatMap c30_o)]) rfl trivial rfl (evs (ev_st (off := 0) (c1 := .agg [.int .i64 0, .own 30 ([] : List (List Int)).length (([] : List (List Int)).flatMap c30_o)]) (cs' := [.int .i64 0, .own 30 ([] : List (List Int)).length (([] : List (List Int)).flatMap c30_o)]) rfl rfl rfl rfl rfl rfl (Nat.le_of_ble_eq_true rfl) rfl (evs (ev_ac rfl nofun rfl (evn ?_))))))
        refine ls_keep [(4, .box [.int .i64 0, .own 30 ([] : List (List Int)).length (([] : List (List Int)).flatMap c30_o)]), (5, .bool false)] ⟨kr, kr, trivial⟩ rfl ?_
        refine ls_ret ?_
        have q0 := (Option.some.inj h).symm
        have r0 := hr1
        rw [q0] at r0
        have hr := Option.some.inj r0
        rw [← hr]
        exact ⟨.inl rfl, rfl⟩
      · refine ls_cF rfl g12 ?_
        refine ls_skip ?_
        refine hK4 _ (ls_keep [(0, .int .i64 a0), (1, .dat a1.length (a1.flatMap c30_d)), (4, .box [.int .i64 0, .own 30 ([] : List (List Int)).length (([] : List (List Int)).flatMap c30_o)]), (6, .int .i64 y1)] ⟨kr, kr, kr, kr, trivial⟩ rfl ?_)
        refine ls_rgn tbOk ?_
        refine evs (ev_mv (c := .int .i64 y1) rfl rfl rfl (evs (ev_bin (c1 := .int .i64 y1) (c2 := .int .i64 1) rfl rfl rfl (evs (ev_as (c := .int .i64 (IntKind.i64.wrap (y1 + 1))) rfl rfl rfl (evn ?_))))))
        exact hN _ (IntKind.i64.wrap (y1 + 1)) h ⟨kr, kr, kr, kr, trivial⟩
  · refine ls_cF rfl g3 ?_
    refine ls_exit ?_
    have q0 := (Option.some.inj h).symm
    have r0 := hr1
    rw [q0] at r0
    exact kXspec_NewRelation_B1 () r0 _ ⟨kr, kr, kr, trivial⟩
def spec_SkewedRelation_B1 (a0 : Int) (rec : ((List (List Int)) × Int) → Option ((List (List Int)))) (s : (List (List Int)) × Int) : Option ((List (List Int))) := match s with
  | (y1, y2) => cond (decide (y2 ≤ a0)) (chk (List.length y1 + List.length ([[0, y2], [y2, 0]]) ≤ lim) (rec ((y1 ++ ([[0, y2], [y2, 0]])), (IntKind.i64.wrap (y2 + 1))))) (some y1)
def spec_SkewedRelation (a0 : Int) : Option ((Int × (List (List Int))) × Bool) := obind (spec_l1In a0 0 99) fun v2 => cond (!v2) (some ((0, []), false)) (obind (loopF (spec_SkewedRelation_B1 a0) fz (([] : List (List Int)), 0)) fun z6 => obind (spec_NewRelation 2 z6) fun v11 => some (v11.1, v11.2))
theorem spec_SkewedRelation_s {a0 : Int} {r : (Int × (List (List Int))) × Bool} (h : spec_SkewedRelation a0 = some r) : SoundAt Try.prog 15 [.int .i64 a0] (.tup [.agg [.int .i64 r.1.1, .own 30 r.1.2.length (r.1.2.flatMap c30_o)], .bool r.2]) := by
  unfold spec_SkewedRelation at h
  refine sound_lit tbOk lit15 (Nat.le_of_ble_eq_true rfl) rfl ?_
  unfold c15
  refine ls_keep [(0, .int .i64 a0)] ⟨kr, trivial⟩ rfl ?_
  refine ls_rs tbOk ?_
  refine evs (ev_al rfl rfl (evs (ev_ac rfl nofun rfl (evn ?_))))
  refine ls_keep [(0, .int .i64 a0), (2, .box [.int .i64 0, .own 30 ([] : List (List Int)).length (([] : List (List Int)).flatMap c30_o)])] ⟨kr, kr, trivial⟩ rfl ?_
  refine ls_seq_k fun K1 hK1 => ?_
  refine ls_rs tbOk ?_
  refine evs (ev_mv (c := .int .i64 a0) rfl rfl rfl (?_))
  obtain ⟨v2, g3, h⟩ := ob_some h
  refine evs (ev_call (era rfl rfl (era rfl rfl (era rfl rfl eran))) (spec_l1In_s g3) (evs (ev_un (c1 := .bool v2) rfl trivial (evn ?_))))
  refine ls_keep [(0, .int .i64 a0), (2, .box [.int .i64 0, .own 30 ([] : List (List Int)).length (([] : List (List Int)).flatMap c30_o)]), (10, .bool (!v2))] ⟨kr, kr, kr, trivial⟩ rfl ?_
  rcases cond_some h with ⟨g4, h⟩ | ⟨g4, h⟩
  · refine ls_cT rfl g4 ?_
    refine ls_rs tbOk ?_
    refine evs (ev_bd [] (cs := [.int .i64 0, .own 30 ([] : List (List Int)).length (([] : List (List Int)).flatMap c30_o)]) rfl trivial rfl (evs (ev_st (off := 0) (c1 := .agg [.int .i64 0, .own 30 ([] : List (List Int)).length (([] : List (List Int)).flatMap c30_o)]) (cs' := [.int .i64 0, .own 30 ([] : List (List Int)).length (([] : List (List Int)).flatMap c30_o)]) rfl rfl rfl rfl rfl rfl (Nat.le_of_ble_eq_true rfl) rfl (evs (ev_ac rfl nofun rfl (evn ?_))))))
    refine ls_keep [(2, .box [.int .i64 0, .own 30 ([] : List (List Int)).length (([] : List (List Int)).flatMap c30_o)]), (3, .bool false)] ⟨kr, kr, trivial⟩ rfl ?_
    refine ls_ret ?_
    have hr := Option.some.inj h
    rw [← hr]
    exact ⟨.inl rfl, rfl⟩
  · refine ls_cF rfl g4 ?_
    refine ls_skip ?_
    refine hK1 _ (ls_keep [(0, .int .i64 a0), (2, .box [.int .i64 0, .own 30 ([] : List (List Int)).length (([] : List (List Int)).flatMap c30_o)])] ⟨kr, kr, trivial⟩ rfl ?_)
    refine ls_rs tbOk ?_
    refine evs (ev_bs [] (cs := []) rfl trivial rfl (Nat.le_of_ble_eq_true rfl) rfl (evs (ev_as (c := .own 30 ([] : List (List Int)).length (([] : List (List Int)).flatMap c30_o)) rfl rfl rfl (evn ?_))))
    refine ls_keep [(0, .int .i64 a0), (2, .box [.int .i64 0, .own 30 ([] : List (List Int)).length (([] : List (List Int)).flatMap c30_o)]), (4, .own 30 ([] : List (List Int)).length (([] : List (List Int)).flatMap c30_o))] ⟨kr, kr, kr, trivial⟩ rfl ?_
    refine ls_seq_k fun K5 hK5 => ?_
    refine ls_rs tbOk ?_
    refine evs (ev_ac rfl nofun rfl (evn ?_))
    refine ls_keep [(0, .int .i64 a0), (2, .box [.int .i64 0, .own 30 ([] : List (List Int)).length (([] : List (List Int)).flatMap c30_o)]), (4, .own 30 ([] : List (List Int)).length (([] : List (List Int)).flatMap c30_o)), (5, .int .i64 0)] ⟨kr, kr, kr, kr, trivial⟩ rfl ?_
    obtain ⟨o1, hl, hr1⟩ := ob_some h
    clear h
    have kXspec_SkewedRelation_B1 : ∀ (z6 : List (List Int)), (obind (spec_NewRelation 2 z6) fun v11 => some (v11.1, v11.2)) = some r → ∀ σ' : PS, okK σ' [(2, .box [.int .i64 0, .own 30 ([] : List (List Int)).length (([] : List (List Int)).flatMap c30_o)]), (4, .own 30 z6.length (z6.flatMap c30_o))] → K5 σ' := by
      intro z6 h σ' hk
      refine hK5 _ (ls_keep [(2, .box [.int .i64 0, .own 30 ([] : List (List Int)).length (([] : List (List Int)).flatMap c30_o)]), (4, .own 30 z6.length (z6.flatMap c30_o))] hk rfl ?_)
      refine ls_rs tbOk ?_
      refine evs (ev_mv (c := .own 30 z6.length (z6.flatMap c30_o)) rfl rfl rfl (?_))
      obtain ⟨v11, g12, h⟩ := ob_some h
      refine evs (ev_call (era rfl rfl (era rfl (erD ec30_o _) eran)) (spec_NewRelation_s g12) (evs (ev_mvt (c := .tup [.agg [.int .i64 v11.1.1, .own 30 v11.1.2.length (v11.1.2.flatMap c30_o)], .bool v11.2]) rfl rfl rfl (evs (ev_ext rfl rfl rfl rfl (evs (ev_ext rfl rfl rfl rfl (evs (ev_al rfl rfl (evs (ev_st (off := 0) (c1 := .agg [.int .i64 v11.1.1, .own 30 v11.1.2.length (v11.1.2.flatMap c30_o)]) (cs' := [.int .i64 v11.1.1, .own 30 v11.1.2.length (v11.1.2.flatMap c30_o)]) rfl rfl rfl rfl rfl rfl (Nat.le_of_ble_eq_true rfl) rfl (evs (ev_as (c := .bool v11.2) rfl rfl rfl (evn ?_))))))))))))))
      refine ls_keep [(2, .box [.int .i64 0, .own 30 ([] : List (List Int)).length (([] : List (List Int)).flatMap c30_o)]), (6, .box [.int .i64 v11.1.1, .own 30 v11.1.2.length (v11.1.2.flatMap c30_o)]), (7, .bool v11.2)] ⟨kr, kr, kr, trivial⟩ rfl ?_
      refine ls_rs tbOk ?_
      refine evs (ev_ldBt (off := 0) (v := .agg [.int .i64 v11.1.1, .own 30 v11.1.2.length (v11.1.2.flatMap c30_o)]) (c' := .box [.int .i64 v11.1.1, .dat v11.1.2.length (v11.1.2.flatMap c30_o)]) rfl rfl rfl rfl (Nat.le_of_ble_eq_true rfl) rfl rfl (evs (ev_mv (c := .bool v11.2) rfl rfl rfl (evs (ev_st (off := 0) (c1 := .agg [.int .i64 v11.1.1, .own 30 v11.1.2.length (v11.1.2.flatMap c30_o)]) (cs' := [.int .i64 v11.1.1, .own 30 v11.1.2.length (v11.1.2.flatMap c30_o)]) rfl rfl rfl rfl rfl rfl (Nat.le_of_ble_eq_true rfl) rfl (evs (ev_as (c := .bool v11.2) rfl rfl rfl (evn ?_))))))))
      refine ls_keep [(2, .box [.int .i64 v11.1.1, .own 30 v11.1.2.length (v11.1.2.flatMap c30_o)]), (3, .bool v11.2)] ⟨kr, kr, trivial⟩ rfl ?_
      refine ls_ret ?_
      have hr := Option.some.inj h
      rw [← hr]
      exact ⟨.inl rfl, rfl⟩
    refine ls_rec (fun (s : (List (List Int)) × Int) => match s with | (y1, y2) => [(0, .int .i64 a0), (2, .box [.int .i64 0, .own 30 ([] : List (List Int)).length (([] : List (List Int)).flatMap c30_o)]), (4, .own 30 y1.length (y1.flatMap c30_o)), (5, .int .i64 y2)]) (spec_SkewedRelation_B1 a0) fz (([] : List (List Int)), 0) o1 hl ⟨kr, kr, kr, kr, trivial⟩ (fun _ => rfl) ?_
    rintro m ⟨y1, y2⟩ N h hN
    unfold spec_SkewedRelation_B1 at h
    dsimp only at h
    refine ls_seq_k fun K7 hK7 => ?_
    refine ls_rs tbOk ?_
    refine evs (ev_mv (c := .int .i64 y2) rfl rfl rfl (evs (ev_mv (c := .int .i64 a0) rfl rfl rfl (evs (ev_bin (c1 := .int .i64 y2) (c2 := .int .i64 a0) rfl rfl rfl (evn ?_))))))
    refine ls_keep [(0, .int .i64 a0), (2, .box [.int .i64 0, .own 30 ([] : List (List Int)).length (([] : List (List Int)).flatMap c30_o)]), (4, .own 30 y1.length (y1.flatMap c30_o)), (5, .int .i64 y2), (15, .bool (decide (y2 ≤ a0)))] ⟨kr, kr, kr, kr, kr, trivial⟩ rfl ?_
    rcases cond_some h with ⟨g8, h⟩ | ⟨g8, h⟩
    · refine ls_cT rfl g8 ?_
      refine ls_skip ?_
      refine hK7 _ (ls_keep [(0, .int .i64 a0), (2, .box [.int .i64 0, .own 30 ([] : List (List Int)).length (([] : List (List Int)).flatMap c30_o)]), (4, .own 30 y1.length (y1.flatMap c30_o)), (5, .int .i64 y2)] ⟨kr, kr, kr, kr, trivial⟩ rfl ?_)
      refine ls_seq_k fun K9 hK9 => ?_
      refine ls_blk ?_
      refine ls_rgn tbOk ?_
      refine evs (ev_mvt (c := .own 30 y1.length (y1.flatMap c30_o)) rfl rfl rfl (evs (ev_mv (c := .int .i64 y2) rfl rfl rfl (evs (ev_bs [.int .i64 0, .int .i64 y2] (cs := [.int .i64 0, .int .i64 y2]) rfl ⟨rfl, rfl, trivial⟩ rfl (Nat.le_of_ble_eq_true rfl) rfl (evs (ev_mv (c := .int .i64 y2) rfl rfl rfl (evs (ev_bs [.int .i64 y2, .int .i64 0] (cs := [.int .i64 y2, .int .i64 0]) rfl ⟨rfl, rfl, trivial⟩ rfl (Nat.le_of_ble_eq_true rfl) rfl (evs (ev_bs [.own 3 [0, y2].length ([0, y2].flatMap ci64), .own 3 [y2, 0].length ([y2, 0].flatMap ci64)] (cs := [.own 3 [0, y2].length ([0, y2].flatMap ci64), .own 3 [y2, 0].length ([y2, 0].flatMap ci64)]) rfl ⟨rfl, rfl, trivial⟩ rfl (Nat.le_of_ble_eq_true rfl) rfl (?_))))))))))))
      obtain ⟨g10, h⟩ := chk_some h
      refine evs (ev_app (f := c30_o) (l := y1) (m := ([[0, y2], [y2, 0]])) (c2 := .own 30 ([[0, y2], [y2, 0]]).length (([[0, y2], [y2, 0]]).flatMap c30_o)) rfl rfl rfl (flat_len zc30_o ([[0, y2], [y2, 0]])) rfl rfl g10 rfl (evs (ev_as (c := .own 30 (y1 ++ ([[0, y2], [y2, 0]])).length ((y1 ++ ([[0, y2], [y2, 0]])).flatMap c30_o)) rfl rfl rfl (evn ?_))))
      refine hK9 _ (ls_keep [(0, .int .i64 a0), (2, .box [.int .i64 0, .own 30 ([] : List (List Int)).length (([] : List (List Int)).flatMap c30_o)]), (4, .own 30 (y1 ++ ([[0, y2], [y2, 0]])).length ((y1 ++ ([[0, y2], [y2, 0]])).flatMap c30_o)), (5, .int .i64 y2)] ⟨kr, kr, kr, kr, trivial⟩ rfl ?_)
      refine ls_rgn tbOk ?_
      refine evs (ev_mv (c := .int .i64 y2) rfl rfl rfl (evs (ev_bin (c1 := .int .i64 y2) (c2 := .int .i64 1) rfl rfl rfl (evs (ev_as (c := .int .i64 (IntKind.i64.wrap (y2 + 1))) rfl rfl rfl (evn ?_))))))
      exact hN _ ((y1 ++ ([[0, y2], [y2, 0]])), (IntKind.i64.wrap (y2 + 1))) h ⟨kr, kr, kr, kr, trivial⟩
    · refine ls_cF rfl g8 ?_
      refine ls_exit ?_
      have q0 := (Option.some.inj h).symm
      have r0 := hr1
      rw [q0] at r0
      exact kXspec_SkewedRelation_B1 y1 r0 _ ⟨kr, kr, trivial⟩
def impl_within_J1 (x2 : Bool) : Option (Bool) := some x2
def impl_within (a0 : Int) (a1 : Int) (a2 : Int) : Option (Bool) := cond (decide (a1 ≤ a0)) (impl_within_J1 (decide (a0 ≤ a2))) (impl_within_J1 false)
theorem impl_within_s {a0 : Int} {a1 : Int} {a2 : Int} {r : Bool} (h : impl_within a0 a1 a2 = some r) : SoundAt Try.prog 82 [.int .i64 a0, .int .i64 a1, .int .i64 a2] (.bool r) := by
  unfold impl_within at h
  refine sound_lit tbOk lit82 (Nat.le_of_ble_eq_true rfl) rfl ?_
  unfold c82
  refine ls_keep [(0, .int .i64 a0), (1, .int .i64 a1), (2, .int .i64 a2)] ⟨kr, kr, kr, trivial⟩ rfl ?_
  refine ls_rs tbOk ?_
  refine evs (ev_ac rfl nofun rfl (evn ?_))
  refine ls_keep [(0, .int .i64 a0), (1, .int .i64 a1), (2, .int .i64 a2)] ⟨kr, kr, kr, trivial⟩ rfl ?_
  refine ls_rs_k tbOk fun K1 hK1 => ?_
  have kimpl_within_J1 : ∀ (x2 : Bool), impl_within_J1 x2 = some r → ∀ σ' : PS, okK σ' [(6, .bool x2)] → K1 σ' := by
    intro x2 h σ' hk
    unfold impl_within_J1 at h
    refine hK1 _ (ls_keep [(6, .bool x2)] hk rfl ?_)
    refine ls_ret ?_
    have hr := Option.some.inj h
    rw [← hr]
    exact ⟨.inl rfl, rfl⟩
  refine evs (ev_mv (c := .int .i64 a0) rfl rfl rfl (evs (ev_mv (c := .int .i64 a1) rfl rfl rfl (evs (ev_bin (c1 := .int .i64 a0) (c2 := .int .i64 a1) rfl rfl rfl (evs (ev_mv (c := .bool (decide (a1 ≤ a0))) rfl rfl rfl (?_))))))))
  rcases cond_some h with ⟨g3, h⟩ | ⟨g3, h⟩
  · refine evs (ev_gr rfl (congrArg V.bool g3) (ev_mv (c := .int .i64 a0) rfl rfl rfl (evs (ev_gr rfl (congrArg V.bool g3) (ev_mv (c := .int .i64 a2) rfl rfl rfl (evs (ev_gr rfl (congrArg V.bool g3) (ev_bin (c1 := .int .i64 a0) (c2 := .int .i64 a2) rfl rfl rfl (evs (ev_pkT (c1 := .bool (decide (a0 ≤ a2))) rfl g3 rfl rfl (evs (ev_as (c := .bool (decide (a0 ≤ a2))) rfl rfl rfl (evn ?_)))))))))))))
    exact kimpl_within_J1 (decide (a0 ≤ a2)) h _ ⟨kr, trivial⟩
  · refine evs (ev_gs rfl rfl (isb_F g3) (evs (ev_gs rfl rfl (isb_F g3) (evs (ev_gs rfl rfl (isb_F g3) (evs (ev_pkF (c1 := .bool false) rfl g3 rfl rfl (evs (ev_as (c := .bool false) rfl rfl rfl (evn ?_))))))))))
    exact kimpl_within_J1 false h _ ⟨kr, trivial⟩
def impl_AreValidValues_B1 (a0 : List Int) (rec : Int → Option (Sum (Unit) (Bool))) (y1 : Int) : Option (Sum (Unit) (Bool)) := cond (decide (y1 < (List.length a0 : Int))) (obind (geti a0 y1) fun e5 => obind (impl_within e5 0 99) fun v7 => cond (!v7) (some (.inr false)) (rec (IntKind.i64.wrap (y1 + 1)))) (some (.inl ()))
def impl_AreValidValues (a0 : List Int) : Option (Bool) := obind (loopF (impl_AreValidValues_B1 a0) fz 0) fun o1 => (match o1 with
  | .inl _ => (some true)
  | .inr r => some r)
theorem impl_AreValidValues_s {a0 : List Int} {r : Bool} (h : impl_AreValidValues a0 = some r) : SoundAt Try.prog 140 [.dat a0.length (a0.flatMap ci64)] (.bool r) := by
  unfold impl_AreValidValues at h
  refine sound_lit tbOk lit140 (Nat.le_of_ble_eq_true rfl) rfl ?_
  unfold c140
  refine ls_keep [(0, .dat a0.length (a0.flatMap ci64))] ⟨kr, trivial⟩ rfl ?_
  refine ls_rs tbOk ?_
  refine evs (ev_ac rfl nofun rfl (evn ?_))
  refine ls_keep [(0, .dat a0.length (a0.flatMap ci64))] ⟨kr, trivial⟩ rfl ?_
  refine ls_seq_k fun K1 hK1 => ?_
  refine ls_rs tbOk ?_
  refine evs (ev_mv (c := .dat a0.length (a0.flatMap ci64)) rfl rfl rfl (evs (ev_len (c1 := .dat a0.length (a0.flatMap ci64)) rfl rfl rfl (evs (ev_mc rfl rfl (evn ?_))))))
  refine ls_keep [(5, .dat a0.length (a0.flatMap ci64)), (6, .int .i64 (List.length a0 : Int)), (7, .int .i64 0)] ⟨kr, kr, kr, trivial⟩ rfl ?_
  obtain ⟨o1, hl, hr1⟩ := ob_some h
  clear h
  have kXimpl_AreValidValues_B1 : ∀ (_ : Unit), (some true) = some r → ∀ σ' : PS, okK σ' [] → K1 σ' := by
    intro _ h σ' hk
    refine hK1 _ (ls_keep [] hk rfl ?_)
    refine ls_rs tbOk ?_
    refine evs (ev_ac rfl nofun rfl (evn ?_))
    refine ls_keep [(2, .bool true)] ⟨kr, trivial⟩ rfl ?_
    refine ls_ret ?_
    have hr := Option.some.inj h
    rw [← hr]
    exact ⟨.inl rfl, rfl⟩
  refine ls_rec (fun (y1 : Int) => [(5, .dat a0.length (a0.flatMap ci64)), (6, .int .i64 (List.length a0 : Int)), (7, .int .i64 y1)]) (impl_AreValidValues_B1 a0) fz 0 o1 hl ⟨kr, kr, kr, trivial⟩ (fun _ => rfl) ?_
  rintro m y1 N h hN
  unfold impl_AreValidValues_B1 at h
  refine ls_rs tbOk ?_
  refine evs (ev_bin (c1 := .int .i64 y1) (c2 := .int .i64 (List.length a0 : Int)) rfl rfl rfl (evn ?_))
  refine ls_keep [(5, .dat a0.length (a0.flatMap ci64)), (6, .int .i64 (List.length a0 : Int)), (7, .int .i64 y1), (8, .bool (decide (y1 < (List.length a0 : Int))))] ⟨kr, kr, kr, kr, trivial⟩ rfl ?_
  refine ls_seq_k fun K2 hK2 => ?_
  rcases cond_some h with ⟨g3, h⟩ | ⟨g3, h⟩
  · refine ls_cT rfl g3 ?_
    refine ls_skip ?_
    refine hK2 _ (ls_keep [(5, .dat a0.length (a0.flatMap ci64)), (6, .int .i64 (List.length a0 : Int)), (7, .int .i64 y1)] ⟨kr, kr, kr, trivial⟩ rfl ?_)
    refine ls_seq_k fun K4 hK4 => ?_
    refine ls_blk ?_
    refine ls_rs tbOk ?_
    obtain ⟨e5, g6, h⟩ := ob_some h
    refine evs (ev_ia rfl rfl rfl ⟨(geti_some g6).1, (geti_some g6).2.1⟩ (evs (ev_ldE (i := y1) (n := 1) (off := 0) (v := .int .i64 e5) rfl rfl zci64 g6 rfl (Nat.le_of_ble_eq_true rfl) rfl (evs (ev_as (c := .int .i64 e5) rfl rfl rfl (evn ?_))))))
    refine ls_keep [(4, .int .i64 e5), (5, .dat a0.length (a0.flatMap ci64)), (6, .int .i64 (List.length a0 : Int)), (7, .int .i64 y1)] ⟨kr, kr, kr, kr, trivial⟩ rfl ?_
    refine ls_rs tbOk ?_
    refine evs (ev_mv (c := .int .i64 e5) rfl rfl rfl (?_))
    obtain ⟨v7, g8, h⟩ := ob_some h
    refine evs (ev_call (era rfl rfl (era rfl rfl (era rfl rfl eran))) (impl_within_s g8) (evs (ev_un (c1 := .bool v7) rfl trivial (evn ?_))))
    refine ls_keep [(5, .dat a0.length (a0.flatMap ci64)), (6, .int .i64 (List.length a0 : Int)), (7, .int .i64 y1), (13, .bool (!v7))] ⟨kr, kr, kr, kr, trivial⟩ rfl ?_
    rcases cond_some h with ⟨g9, h⟩ | ⟨g9, h⟩
    · refine ls_cT rfl g9 ?_
      refine ls_rs tbOk ?_
      refine evs (ev_ac rfl nofun rfl (evn ?_))
      refine ls_keep [(2, .bool false)] ⟨kr, trivial⟩ rfl ?_
      refine ls_ret ?_
      have q0 := (Option.some.inj h).symm
      have r0 := hr1
      rw [q0] at r0
      have hr := Option.some.inj r0
      rw [← hr]
      exact ⟨.inl rfl, rfl⟩
    · refine ls_cF rfl g9 ?_
      refine ls_skip ?_
      refine hK4 _ (ls_keep [(5, .dat a0.length (a0.flatMap ci64)), (6, .int .i64 (List.length a0 : Int)), (7, .int .i64 y1)] ⟨kr, kr, kr, trivial⟩ rfl ?_)
      refine ls_rgn tbOk ?_
      refine evs (ev_bin (c1 := .int .i64 y1) (c2 := .int .i64 1) rfl rfl rfl (evs (ev_mv (c := .int .i64 (IntKind.i64.wrap (y1 + 1))) rfl rfl rfl (evn ?_))))
      exact hN _ (IntKind.i64.wrap (y1 + 1)) h ⟨kr, kr, kr, trivial⟩
  · refine ls_cF rfl g3 ?_
    refine ls_exit ?_
    have q0 := (Option.some.inj h).symm
    have r0 := hr1
    rw [q0] at r0
    exact kXimpl_AreValidValues_B1 () r0 _ trivial
def impl_compareInts (a0 : Int) (a1 : Int) : Option (Int) := cond (decide (a0 < a1)) (some (-1)) (cond (decide (a1 < a0)) (some 1) (some 0))
theorem impl_compareInts_s {a0 : Int} {a1 : Int} {r : Int} (h : impl_compareInts a0 a1 = some r) : SoundAt Try.prog 175 [.int .i64 a0, .int .i64 a1] (.int .i64 r) := by
  unfold impl_compareInts at h
  refine sound_lit tbOk lit175 (Nat.le_of_ble_eq_true rfl) rfl ?_
  unfold c175
  refine ls_keep [(0, .int .i64 a0), (1, .int .i64 a1)] ⟨kr, kr, trivial⟩ rfl ?_
  refine ls_rs tbOk ?_
  refine evs (ev_ac rfl nofun rfl (evn ?_))
  refine ls_keep [(0, .int .i64 a0), (1, .int .i64 a1)] ⟨kr, kr, trivial⟩ rfl ?_
  refine ls_seq_k fun K1 hK1 => ?_
  refine ls_blk ?_
  refine ls_rs tbOk ?_
  refine evs (ev_mv (c := .int .i64 a0) rfl rfl rfl (evs (ev_mv (c := .int .i64 a1) rfl rfl rfl (evs (ev_bin (c1 := .int .i64 a0) (c2 := .int .i64 a1) rfl rfl rfl (evs (ev_as (c := .bool (decide (a0 < a1))) rfl rfl rfl (evn ?_))))))))
  refine ls_keep [(0, .int .i64 a0), (1, .int .i64 a1), (5, .bool (decide (a0 < a1)))] ⟨kr, kr, kr, trivial⟩ rfl ?_
  rcases cond_some h with ⟨g2, h⟩ | ⟨g2, h⟩
  · refine ls_cT rfl g2 ?_
    refine ls_rs tbOk ?_
    refine evs (ev_ac rfl nofun rfl (evn ?_))
    refine ls_keep [(4, .int .i64 (-1))] ⟨kr, trivial⟩ rfl ?_
    refine ls_ret ?_
    have hr := Option.some.inj h
    rw [← hr]
    exact ⟨.inl rfl, rfl⟩
  · refine ls_cF rfl g2 ?_
    refine ls_rs tbOk ?_
    refine evs (ev_mv (c := .int .i64 a0) rfl rfl rfl (evs (ev_mv (c := .int .i64 a1) rfl rfl rfl (evs (ev_bin (c1 := .int .i64 a0) (c2 := .int .i64 a1) rfl rfl rfl (evs (ev_as (c := .bool (decide (a1 < a0))) rfl rfl rfl (evn ?_))))))))
    refine ls_keep [(9, .bool (decide (a1 < a0)))] ⟨kr, trivial⟩ rfl ?_
    rcases cond_some h with ⟨g3, h⟩ | ⟨g3, h⟩
    · refine ls_cT rfl g3 ?_
      refine ls_rs tbOk ?_
      refine evs (ev_ac rfl nofun rfl (evn ?_))
      refine ls_keep [(4, .int .i64 1)] ⟨kr, trivial⟩ rfl ?_
      refine ls_ret ?_
      have hr := Option.some.inj h
      rw [← hr]
      exact ⟨.inl rfl, rfl⟩
    · refine ls_cF rfl g3 ?_
      refine ls_skip ?_
      refine hK1 _ (ls_keep [] trivial rfl ?_)
      refine ls_rs tbOk ?_
      refine evs (ev_ac rfl nofun rfl (evn ?_))
      refine ls_keep [(4, .int .i64 0)] ⟨kr, trivial⟩ rfl ?_
      refine ls_ret ?_
      have hr := Option.some.inj h
      rw [← hr]
      exact ⟨.inl rfl, rfl⟩
def impl_CompareRows_B1 (a0 : List Int) (a1 : List Int) (rec : Int → Option (Sum (Unit) (Int))) (y1 : Int) : Option (Sum (Unit) (Int)) := cond (decide (y1 < (List.length a0 : Int))) (cond (decide (y1 < (List.length a1 : Int))) (obind (geti a0 y1) fun e6 => obind (geti a1 y1) fun e8 => cond (e6 != e8) (obind (geti a0 y1) fun e11 => obind (geti a1 y1) fun e13 => obind (impl_compareInts e11 e13) fun v15 => some (.inr v15)) (rec (IntKind.i64.wrap (y1 + 1)))) (some (.inl ()))) (some (.inl ()))
def impl_CompareRows (a0 : List Int) (a1 : List Int) : Option (Int) := obind (loopF (impl_CompareRows_B1 a0 a1) fz 0) fun o1 => (match o1 with
  | .inl _ => (obind (impl_compareInts (List.length a0 : Int) (List.length a1 : Int)) fun v17 => some v17)
  | .inr r => some r)
theorem impl_CompareRows_s {a0 : List Int} {a1 : List Int} {r : Int} (h : impl_CompareRows a0 a1 = some r) : SoundAt Try.prog 168 [.dat a0.length (a0.flatMap ci64), .dat a1.length (a1.flatMap ci64)] (.int .i64 r) := by
  unfold impl_CompareRows at h
  refine sound_lit tbOk lit168 (Nat.le_of_ble_eq_true rfl) rfl ?_
  unfold c168
  refine ls_keep [(0, .dat a0.length (a0.flatMap ci64)), (1, .dat a1.length (a1.flatMap ci64))] ⟨kr, kr, trivial⟩ rfl ?_
  refine ls_rs tbOk ?_
  refine evs (ev_ac rfl nofun rfl (evn ?_))
  refine ls_keep [(0, .dat a0.length (a0.flatMap ci64)), (1, .dat a1.length (a1.flatMap ci64))] ⟨kr, kr, trivial⟩ rfl ?_
  refine ls_seq_k fun K1 hK1 => ?_
  refine ls_rs tbOk ?_
  refine evs (ev_ac rfl nofun rfl (evn ?_))
  refine ls_keep [(0, .dat a0.length (a0.flatMap ci64)), (1, .dat a1.length (a1.flatMap ci64)), (5, .int .i64 0)] ⟨kr, kr, kr, trivial⟩ rfl ?_
  obtain ⟨o1, hl, hr1⟩ := ob_some h
  clear h
  have kXimpl_CompareRows_B1 : ∀ (_ : Unit), (obind (impl_compareInts (List.length a0 : Int) (List.length a1 : Int)) fun v17 => some v17) = some r → ∀ σ' : PS, okK σ' [(0, .dat a0.length (a0.flatMap ci64)), (1, .dat a1.length (a1.flatMap ci64))] → K1 σ' := by
    intro _ h σ' hk
    refine hK1 _ (ls_keep [(0, .dat a0.length (a0.flatMap ci64)), (1, .dat a1.length (a1.flatMap ci64))] hk rfl ?_)
    refine ls_rs tbOk ?_
    refine evs (ev_mv (c := .dat a0.length (a0.flatMap ci64)) rfl rfl rfl (evs (ev_len (c1 := .dat a0.length (a0.flatMap ci64)) rfl rfl rfl (evs (ev_mv (c := .dat a1.length (a1.flatMap ci64)) rfl rfl rfl (evs (ev_len (c1 := .dat a1.length (a1.flatMap ci64)) rfl rfl rfl (?_))))))))
    obtain ⟨v17, g18, h⟩ := ob_some h
    refine evs (ev_call (era rfl rfl (era rfl rfl eran)) (impl_compareInts_s g18) (evs (ev_as (c := .int .i64 v17) rfl rfl rfl (evn ?_))))
    refine ls_keep [(4, .int .i64 v17)] ⟨kr, trivial⟩ rfl ?_
    refine ls_ret ?_
    have hr := Option.some.inj h
    rw [← hr]
    exact ⟨.inl rfl, rfl⟩
  refine ls_rec (fun (y1 : Int) => [(0, .dat a0.length (a0.flatMap ci64)), (1, .dat a1.length (a1.flatMap ci64)), (5, .int .i64 y1)]) (impl_CompareRows_B1 a0 a1) fz 0 o1 hl ⟨kr, kr, kr, trivial⟩ (fun _ => rfl) ?_
  rintro m y1 N h hN
  unfold impl_CompareRows_B1 at h
  refine ls_seq_k fun K2 hK2 => ?_
  refine ls_rs tbOk ?_
  refine evs (ev_mv (c := .int .i64 y1) rfl rfl rfl (evs (ev_mv (c := .dat a0.length (a0.flatMap ci64)) rfl rfl rfl (evs (ev_len (c1 := .dat a0.length (a0.flatMap ci64)) rfl rfl rfl (evs (ev_bin (c1 := .int .i64 y1) (c2 := .int .i64 (List.length a0 : Int)) rfl rfl rfl (evs (ev_mv (c := .bool (decide (y1 < (List.length a0 : Int)))) rfl rfl rfl (?_))))))))))
  rcases cond_some h with ⟨g3, h⟩ | ⟨g3, h⟩
  · refine evs (ev_gr rfl (congrArg V.bool g3) (ev_mv (c := .int .i64 y1) rfl rfl rfl (evs (ev_gr rfl (congrArg V.bool g3) (ev_mv (c := .dat a1.length (a1.flatMap ci64)) rfl rfl rfl (evs (ev_gr rfl (congrArg V.bool g3) (ev_len (c1 := .dat a1.length (a1.flatMap ci64)) rfl rfl rfl (evs (ev_gr rfl (congrArg V.bool g3) (ev_bin (c1 := .int .i64 y1) (c2 := .int .i64 (List.length a1 : Int)) rfl rfl rfl (evs (ev_pkT (c1 := .bool (decide (y1 < (List.length a1 : Int)))) rfl g3 rfl rfl (evn ?_))))))))))))))
    refine ls_keep [(0, .dat a0.length (a0.flatMap ci64)), (1, .dat a1.length (a1.flatMap ci64)), (5, .int .i64 y1), (15, .bool (decide (y1 < (List.length a1 : Int))))] ⟨kr, kr, kr, kr, trivial⟩ rfl ?_
    rcases cond_some h with ⟨g4, h⟩ | ⟨g4, h⟩
    · refine ls_cT rfl g4 ?_
      refine ls_skip ?_
      refine hK2 _ (ls_keep [(0, .dat a0.length (a0.flatMap ci64)), (1, .dat a1.length (a1.flatMap ci64)), (5, .int .i64 y1)] ⟨kr, kr, kr, trivial⟩ rfl ?_)
      refine ls_seq_k fun K5 hK5 => ?_
      refine ls_blk ?_
      refine ls_rd tbOk mixed (by kernel_rfl) ?_
      refine evd rfl rfl (ev_mv (c := .dat a0.length (a0.flatMap ci64)) rfl rfl rfl (evd rfl rfl (ev_mv (c := .int .i64 y1) rfl rfl rfl (?_))))
      obtain ⟨e6, g7, h⟩ := ob_some h
      refine evd rfl rfl (ev_ia rfl rfl rfl ⟨(geti_some g7).1, (geti_some g7).2.1⟩ (evd rfl rfl (ev_ldE (i := y1) (n := 1) (off := 0) (v := .int .i64 e6) rfl rfl zci64 g7 rfl (Nat.le_of_ble_eq_true rfl) rfl (evd rfl rfl (ev_mv (c := .dat a1.length (a1.flatMap ci64)) rfl rfl rfl (evd rfl rfl (ev_mv (c := .int .i64 y1) rfl rfl rfl (?_))))))))
      obtain ⟨e8, g9, h⟩ := ob_some h
      refine evd rfl rfl (ev_ia rfl rfl rfl ⟨(geti_some g9).1, (geti_some g9).2.1⟩ (evd rfl rfl (ev_ldE (i := y1) (n := 1) (off := 0) (v := .int .i64 e8) rfl rfl zci64 g9 rfl (Nat.le_of_ble_eq_true rfl) rfl (evd rfl rfl (ev_bin (c1 := .int .i64 e6) (c2 := .int .i64 e8) rfl rfl rfl (evdn ?_))))))
      refine ls_keep [(0, .dat a0.length (a0.flatMap ci64)), (1, .dat a1.length (a1.flatMap ci64)), (5, .int .i64 y1), (26, .bool (e6 != e8))] ⟨kr, kr, kr, kr, trivial⟩ rfl ?_
      rcases cond_some h with ⟨g10, h⟩ | ⟨g10, h⟩
      · refine ls_cT rfl g10 ?_
        refine ls_rd tbOk mixed (by kernel_rfl) ?_
        refine evd rfl rfl (ev_mv (c := .dat a0.length (a0.flatMap ci64)) rfl rfl rfl (evd rfl rfl (ev_mv (c := .int .i64 y1) rfl rfl rfl (?_))))
        obtain ⟨e11, g12, h⟩ := ob_some h
        refine evd rfl rfl (ev_ia rfl rfl rfl ⟨(geti_some g12).1, (geti_some g12).2.1⟩ (evd rfl rfl (ev_ldE (i := y1) (n := 1) (off := 0) (v := .int .i64 e11) rfl rfl zci64 g12 rfl (Nat.le_of_ble_eq_true rfl) rfl (evd rfl rfl (ev_mv (c := .dat a1.length (a1.flatMap ci64)) rfl rfl rfl (evd rfl rfl (ev_mv (c := .int .i64 y1) rfl rfl rfl (?_))))))))
        obtain ⟨e13, g14, h⟩ := ob_some h
        refine evd rfl rfl (ev_ia rfl rfl rfl ⟨(geti_some g14).1, (geti_some g14).2.1⟩ (evd rfl rfl (ev_ldE (i := y1) (n := 1) (off := 0) (v := .int .i64 e13) rfl rfl zci64 g14 rfl (Nat.le_of_ble_eq_true rfl) rfl (?_))))
        obtain ⟨v15, g16, h⟩ := ob_some h
        refine evd rfl rfl (ev_call (era rfl rfl (era rfl rfl eran)) (impl_compareInts_s g16) (evd rfl rfl (ev_as (c := .int .i64 v15) rfl rfl rfl (evdn ?_))))
        refine ls_keep [(4, .int .i64 v15)] ⟨kr, trivial⟩ rfl ?_
        refine ls_ret ?_
        have q0 := (Option.some.inj h).symm
        have r0 := hr1
        rw [q0] at r0
        have hr := Option.some.inj r0
        rw [← hr]
        exact ⟨.inl rfl, rfl⟩
      · refine ls_cF rfl g10 ?_
        refine ls_skip ?_
        refine hK5 _ (ls_keep [(0, .dat a0.length (a0.flatMap ci64)), (1, .dat a1.length (a1.flatMap ci64)), (5, .int .i64 y1)] ⟨kr, kr, kr, trivial⟩ rfl ?_)
        refine ls_rgn tbOk ?_
        refine evs (ev_mv (c := .int .i64 y1) rfl rfl rfl (evs (ev_bin (c1 := .int .i64 y1) (c2 := .int .i64 1) rfl rfl rfl (evs (ev_as (c := .int .i64 (IntKind.i64.wrap (y1 + 1))) rfl rfl rfl (evn ?_))))))
        exact hN _ (IntKind.i64.wrap (y1 + 1)) h ⟨kr, kr, kr, trivial⟩
    · refine ls_cF rfl g4 ?_
      refine ls_exit ?_
      have q0 := (Option.some.inj h).symm
      have r0 := hr1
      rw [q0] at r0
      exact kXimpl_CompareRows_B1 () r0 _ ⟨kr, kr, trivial⟩
  · refine evs (ev_gs rfl rfl (isb_F g3) (evs (ev_gs rfl rfl (isb_F g3) (evs (ev_gs rfl rfl (isb_F g3) (evs (ev_gs rfl rfl (isb_F g3) (evs (ev_pkF (c1 := .bool false) rfl g3 rfl rfl (evn ?_))))))))))
    refine ls_keep [(0, .dat a0.length (a0.flatMap ci64)), (1, .dat a1.length (a1.flatMap ci64)), (5, .int .i64 y1), (15, .bool false)] ⟨kr, kr, kr, kr, trivial⟩ rfl ?_
    refine ls_cF rfl rfl ?_
    refine ls_exit ?_
    have q0 := (Option.some.inj h).symm
    have r0 := hr1
    rw [q0] at r0
    exact kXimpl_CompareRows_B1 () r0 _ ⟨kr, kr, trivial⟩
def impl_rowsValid_J2 (rec : Int → Option (Sum (Unit) (Bool))) (y1 : Int) (x13 : Bool) : Option (Sum (Unit) (Bool)) := cond x13 (some (.inr false)) (rec (IntKind.i64.wrap (y1 + 1)))
def impl_rowsValid_B1 (a0 : Int) (a1 : List (List Int)) (rec : Int → Option (Sum (Unit) (Bool))) (y1 : Int) : Option (Sum (Unit) (Bool)) := cond (decide (y1 < (List.length a1 : Int))) (obind (geti a1 y1) fun e10 => cond ((List.length e10 : Int) != a0) (impl_rowsValid_J2 rec y1 true) (obind (impl_AreValidValues e10) fun v16 => cond (!v16) (impl_rowsValid_J2 rec y1 true) (cond (decide (0 < y1)) (obind (geti a1 (IntKind.i64.wrap (y1 - 1))) fun e20 => obind (impl_CompareRows e20 e10) fun v22 => impl_rowsValid_J2 rec y1 (decide (0 ≤ v22))) (impl_rowsValid_J2 rec y1 false)))) (some (.inl ()))
def impl_rowsValid (a0 : Int) (a1 : List (List Int)) : Option (Bool) := obind (impl_within a0 0 5) fun v2 => cond (!v2) (some false) (cond (decide (4000 < (List.length a1 : Int))) (some false) (obind (loopF (impl_rowsValid_B1 a0 a1) fz 0) fun o1 => (match o1 with
  | .inl _ => (some true)
  | .inr r => some r)))
theorem impl_rowsValid_s {a0 : Int} {a1 : List (List Int)} {r : Bool} (h : impl_rowsValid a0 a1 = some r) : SoundAt Try.prog 149 [.int .i64 a0, .dat a1.length (a1.flatMap c30_d)] (.bool r) := by
  unfold impl_rowsValid at h
  refine sound_lit tbOk lit149 (Nat.le_of_ble_eq_true rfl) rfl ?_
  unfold c149
  refine ls_keep [(0, .int .i64 a0), (1, .dat a1.length (a1.flatMap c30_d))] ⟨kr, kr, trivial⟩ rfl ?_
  refine ls_rs tbOk ?_
  refine evs (ev_ac rfl nofun rfl (evn ?_))
  refine ls_keep [(0, .int .i64 a0), (1, .dat a1.length (a1.flatMap c30_d))] ⟨kr, kr, trivial⟩ rfl ?_
  refine ls_seq_k fun K1 hK1 => ?_
  refine ls_rs tbOk ?_
  refine evs (ev_mv (c := .int .i64 a0) rfl rfl rfl (?_))
  obtain ⟨v2, g3, h⟩ := ob_some h
  refine evs (ev_call (era rfl rfl (era rfl rfl (era rfl rfl eran))) (impl_within_s g3) (evs (ev_un (c1 := .bool v2) rfl trivial (evs (ev_mv (c := .bool (!v2)) rfl rfl rfl (?_))))))
  rcases cond_some h with ⟨g4, h⟩ | ⟨g4, h⟩
  · refine evs (ev_gs rfl rfl (isb_T g4) (evs (ev_gs rfl rfl (isb_T g4) (evs (ev_gs rfl rfl (isb_T g4) (evs (ev_pkT (c1 := .bool true) rfl g4 rfl rfl (evn ?_))))))))
    refine ls_keep [(0, .int .i64 a0), (1, .dat a1.length (a1.flatMap c30_d)), (14, .bool true)] ⟨kr, kr, kr, trivial⟩ rfl ?_
    refine ls_cT rfl rfl ?_
    refine ls_rs tbOk ?_
    refine evs (ev_ac rfl nofun rfl (evn ?_))
    refine ls_keep [(4, .bool false)] ⟨kr, trivial⟩ rfl ?_
    refine ls_ret ?_
    have hr := Option.some.inj h
    rw [← hr]
    exact ⟨.inl rfl, rfl⟩
  · refine evs (ev_gr rfl (congrArg V.bool g4) (ev_mv (c := .dat a1.length (a1.flatMap c30_d)) rfl rfl rfl (evs (ev_gr rfl (congrArg V.bool g4) (ev_len (c1 := .dat a1.length (a1.flatMap c30_d)) rfl rfl rfl (evs (ev_gr rfl (congrArg V.bool g4) (ev_bin (c1 := .int .i64 (List.length a1 : Int)) (c2 := .int .i64 4000) rfl rfl rfl (evs (ev_pkF (c1 := .bool (decide (4000 < (List.length a1 : Int)))) rfl g4 rfl rfl (evn ?_)))))))))))
    refine ls_keep [(0, .int .i64 a0), (1, .dat a1.length (a1.flatMap c30_d)), (14, .bool (decide (4000 < (List.length a1 : Int))))] ⟨kr, kr, kr, trivial⟩ rfl ?_
    rcases cond_some h with ⟨g5, h⟩ | ⟨g5, h⟩
    · refine ls_cT rfl g5 ?_
      refine ls_rs tbOk ?_
      refine evs (ev_ac rfl nofun rfl (evn ?_))
      refine ls_keep [(4, .bool false)] ⟨kr, trivial⟩ rfl ?_
      refine ls_ret ?_
      have hr := Option.some.inj h
      rw [← hr]
      exact ⟨.inl rfl, rfl⟩
    · refine ls_cF rfl g5 ?_
      refine ls_skip ?_
      refine hK1 _ (ls_keep [(0, .int .i64 a0), (1, .dat a1.length (a1.flatMap c30_d))] ⟨kr, kr, trivial⟩ rfl ?_)
      refine ls_seq_k fun K6 hK6 => ?_
      refine ls_rs tbOk ?_
      refine evs (ev_mv (c := .dat a1.length (a1.flatMap c30_d)) rfl rfl rfl (evs (ev_len (c1 := .dat a1.length (a1.flatMap c30_d)) rfl rfl rfl (evs (ev_mc rfl rfl (evn ?_))))))
      refine ls_keep [(0, .int .i64 a0), (1, .dat a1.length (a1.flatMap c30_d)), (15, .dat a1.length (a1.flatMap c30_d)), (16, .int .i64 (List.length a1 : Int)), (17, .int .i64 0)] ⟨kr, kr, kr, kr, kr, trivial⟩ rfl ?_
      obtain ⟨o1, hl, hr1⟩ := ob_some h
      clear h
      have kXimpl_rowsValid_B1 : ∀ (_ : Unit), (some true) = some r → ∀ σ' : PS, okK σ' [] → K6 σ' := by
        intro _ h σ' hk
        refine hK6 _ (ls_keep [] hk rfl ?_)
        refine ls_rs tbOk ?_
        refine evs (ev_ac rfl nofun rfl (evn ?_))
        refine ls_keep [(4, .bool true)] ⟨kr, trivial⟩ rfl ?_
        refine ls_ret ?_
        have hr := Option.some.inj h
        rw [← hr]
        exact ⟨.inl rfl, rfl⟩
      refine ls_rec (fun (y1 : Int) => [(0, .int .i64 a0), (1, .dat a1.length (a1.flatMap c30_d)), (15, .dat a1.length (a1.flatMap c30_d)), (16, .int .i64 (List.length a1 : Int)), (17, .int .i64 y1)]) (impl_rowsValid_B1 a0 a1) fz 0 o1 hl ⟨kr, kr, kr, kr, kr, trivial⟩ (fun _ => rfl) ?_
      rintro m y1 N h hN
      unfold impl_rowsValid_B1 at h
      refine ls_rs tbOk ?_
      refine evs (ev_bin (c1 := .int .i64 y1) (c2 := .int .i64 (List.length a1 : Int)) rfl rfl rfl (evn ?_))
      refine ls_keep [(0, .int .i64 a0), (1, .dat a1.length (a1.flatMap c30_d)), (15, .dat a1.length (a1.flatMap c30_d)), (16, .int .i64 (List.length a1 : Int)), (17, .int .i64 y1), (18, .bool (decide (y1 < (List.length a1 : Int))))] ⟨kr, kr, kr, kr, kr, kr, trivial⟩ rfl ?_
      refine ls_seq_k fun K7 hK7 => ?_
      rcases cond_some h with ⟨g8, h⟩ | ⟨g8, h⟩
      · refine ls_cT rfl g8 ?_
        refine ls_skip ?_
        refine hK7 _ (ls_keep [(0, .int .i64 a0), (1, .dat a1.length (a1.flatMap c30_d)), (15, .dat a1.length (a1.flatMap c30_d)), (16, .int .i64 (List.length a1 : Int)), (17, .int .i64 y1)] ⟨kr, kr, kr, kr, kr, trivial⟩ rfl ?_)
        refine ls_seq_k fun K9 hK9 => ?_
        refine ls_blk ?_
        refine ls_rs tbOk ?_
        refine evs (ev_mv (c := .int .i64 y1) rfl rfl rfl (?_))
        obtain ⟨e10, g11, h⟩ := ob_some h
        refine evs (ev_ia rfl rfl rfl ⟨(geti_some g11).1, (geti_some g11).2.1⟩ (evs (ev_ldEt (i := y1) (n := 1) (off := 0) (v := .dat e10.length (e10.flatMap ci64)) rfl rfl zc30_d g11 rfl (Nat.le_of_ble_eq_true rfl) rfl (evs (ev_as (c := .int .i64 y1) rfl rfl rfl (evs (ev_as (c := .dat e10.length (e10.flatMap ci64)) rfl rfl rfl (evn ?_))))))))
        refine ls_keep [(0, .int .i64 a0), (1, .dat a1.length (a1.flatMap c30_d)), (5, .int .i64 y1), (6, .dat e10.length (e10.flatMap ci64)), (15, .dat a1.length (a1.flatMap c30_d)), (16, .int .i64 (List.length a1 : Int)), (17, .int .i64 y1)] ⟨kr, kr, kr, kr, kr, kr, kr, trivial⟩ rfl ?_
        refine ls_rs_k tbOk fun K12 hK12 => ?_
        have kimpl_rowsValid_J2 : ∀ (x13 : Bool), impl_rowsValid_J2 (loopF (impl_rowsValid_B1 a0 a1) m) y1 x13 = some o1 → ∀ σ' : PS, okK σ' [(0, .int .i64 a0), (1, .dat a1.length (a1.flatMap c30_d)), (15, .dat a1.length (a1.flatMap c30_d)), (16, .int .i64 (List.length a1 : Int)), (17, .int .i64 y1), (44, .bool x13)] → K12 σ' := by
          intro x13 h σ' hk
          unfold impl_rowsValid_J2 at h
          refine hK12 _ (ls_keep [(0, .int .i64 a0), (1, .dat a1.length (a1.flatMap c30_d)), (15, .dat a1.length (a1.flatMap c30_d)), (16, .int .i64 (List.length a1 : Int)), (17, .int .i64 y1), (44, .bool x13)] hk rfl ?_)
          rcases cond_some h with ⟨g14, h⟩ | ⟨g14, h⟩
          · refine ls_cT rfl g14 ?_
            refine ls_rs tbOk ?_
            refine evs (ev_ac rfl nofun rfl (evn ?_))
            refine ls_keep [(4, .bool false)] ⟨kr, trivial⟩ rfl ?_
            refine ls_ret ?_
            have q0 := (Option.some.inj h).symm
            have r0 := hr1
            rw [q0] at r0
            have hr := Option.some.inj r0
            rw [← hr]
            exact ⟨.inl rfl, rfl⟩
          · refine ls_cF rfl g14 ?_
            refine ls_skip ?_
            refine hK9 _ (ls_keep [(0, .int .i64 a0), (1, .dat a1.length (a1.flatMap c30_d)), (15, .dat a1.length (a1.flatMap c30_d)), (16, .int .i64 (List.length a1 : Int)), (17, .int .i64 y1)] ⟨kr, kr, kr, kr, kr, trivial⟩ rfl ?_)
            refine ls_rgn tbOk ?_
            refine evs (ev_bin (c1 := .int .i64 y1) (c2 := .int .i64 1) rfl rfl rfl (evs (ev_mv (c := .int .i64 (IntKind.i64.wrap (y1 + 1))) rfl rfl rfl (evn ?_))))
            exact hN _ (IntKind.i64.wrap (y1 + 1)) h ⟨kr, kr, kr, kr, kr, trivial⟩
        refine evs (ev_mv (c := .dat e10.length (e10.flatMap ci64)) rfl rfl rfl (evs (ev_len (c1 := .dat e10.length (e10.flatMap ci64)) rfl rfl rfl (evs (ev_mv (c := .int .i64 a0) rfl rfl rfl (evs (ev_bin (c1 := .int .i64 (List.length e10 : Int)) (c2 := .int .i64 a0) rfl rfl rfl (evs (ev_mv (c := .bool ((List.length e10 : Int) != a0)) rfl rfl rfl (?_))))))))))
        rcases cond_some h with ⟨g15, h⟩ | ⟨g15, h⟩
        · refine evs (ev_gs rfl rfl (isb_T g15) (evs (ev_gs rfl rfl (isb_T g15) (evs (ev_gs rfl rfl (isb_T g15) (evs (ev_pkT (c1 := .bool true) rfl g15 rfl rfl (evs (ev_mv (c := .bool true) rfl rfl rfl (evs (ev_gs rfl rfl rfl (evs (ev_gs rfl rfl rfl (evs (ev_gs rfl rfl rfl (evs (ev_gs rfl rfl rfl (evs (ev_gs rfl rfl rfl (evs (ev_gs rfl rfl rfl (evs (ev_gs rfl rfl rfl (evs (ev_gs rfl rfl rfl (evs (ev_gs rfl rfl rfl (evs (ev_gs rfl rfl rfl (evs (ev_gs rfl rfl rfl (evs (ev_gs rfl rfl rfl (evs (ev_pkT (c1 := .bool true) rfl rfl rfl rfl (evn ?_))))))))))))))))))))))))))))))))))))
          exact kimpl_rowsValid_J2 true h _ ⟨kr, kr, kr, kr, kr, kr, trivial⟩
        · refine evs (ev_gr rfl (congrArg V.bool g15) (ev_mv (c := .dat e10.length (e10.flatMap ci64)) rfl rfl rfl (?_)))
          obtain ⟨v16, g17, h⟩ := ob_some h
          refine evs (ev_gr rfl (congrArg V.bool g15) (ev_call (era rfl (erD eci64 _) eran) (impl_AreValidValues_s g17) (evs (ev_gr rfl (congrArg V.bool g15) (ev_un (c1 := .bool v16) rfl trivial (evs (ev_pkF (c1 := .bool (!v16)) rfl g15 rfl rfl (evs (ev_mv (c := .bool (!v16)) rfl rfl rfl (?_))))))))))
          rcases cond_some h with ⟨g18, h⟩ | ⟨g18, h⟩
          · refine evs (ev_gs rfl rfl (isb_T g18) (evs (ev_gs rfl rfl (isb_T g18) (evs (ev_gs rfl rfl (isb_T g18) (evs (ev_gs rfl rfl rfl (evs (ev_gs rfl rfl rfl (evs (ev_gs rfl rfl rfl (evs (ev_gs rfl rfl rfl (evs (ev_gs rfl rfl rfl (evs (ev_gs rfl rfl rfl (evs (ev_gs rfl rfl rfl (evs (ev_gs rfl rfl rfl (evs (ev_gs rfl rfl (isb_T g18) (evs (ev_pkT (c1 := .bool true) rfl g18 rfl rfl (evn ?_))))))))))))))))))))))))))
            exact kimpl_rowsValid_J2 true h _ ⟨kr, kr, kr, kr, kr, kr, trivial⟩
          · refine evs (ev_gr rfl (congrArg V.bool g18) (ev_mv (c := .int .i64 y1) rfl rfl rfl (evs (ev_gr rfl (congrArg V.bool g18) (ev_bin (c1 := .int .i64 y1) (c2 := .int .i64 0) rfl rfl rfl (evs (ev_gr rfl (congrArg V.bool g18) (ev_mv (c := .bool (decide (0 < y1))) rfl rfl rfl (?_)))))))))
            rcases cond_some h with ⟨g19, h⟩ | ⟨g19, h⟩
            · refine evs (ev_gr rfl (congrArg V.bool g19) (ev_mv (c := .dat a1.length (a1.flatMap c30_d)) rfl rfl rfl (evs (ev_gr rfl (congrArg V.bool g19) (ev_mv (c := .int .i64 y1) rfl rfl rfl (evs (ev_gr rfl (congrArg V.bool g19) (ev_bin (c1 := .int .i64 y1) (c2 := .int .i64 1) rfl rfl rfl (?_)))))))))
              obtain ⟨e20, g21, h⟩ := ob_some h
              refine evs (ev_gr rfl (congrArg V.bool g19) (ev_ia rfl rfl rfl ⟨(geti_some g21).1, (geti_some g21).2.1⟩ (evs (ev_gr rfl (congrArg V.bool g19) (ev_ldE (i := (IntKind.i64.wrap (y1 - 1))) (n := 1) (off := 0) (v := .dat e20.length (e20.flatMap ci64)) rfl rfl zc30_d g21 rfl (Nat.le_of_ble_eq_true rfl) rfl (evs (ev_gr rfl (congrArg V.bool g19) (ev_mv (c := .dat e10.length (e10.flatMap ci64)) rfl rfl rfl (?_)))))))))
              obtain ⟨v22, g23, h⟩ := ob_some h
              refine evs (ev_gr rfl (congrArg V.bool g19) (ev_call (era rfl (erD eci64 _) (era rfl (erD eci64 _) eran)) (impl_CompareRows_s g23) (evs (ev_gr rfl (congrArg V.bool g19) (ev_bin (c1 := .int .i64 v22) (c2 := .int .i64 0) rfl rfl rfl (evs (ev_gr rfl (congrArg V.bool g18) (ev_pkT (c1 := .bool (decide (0 ≤ v22))) rfl g19 rfl rfl (evs (ev_pkF (c1 := .bool (decide (0 ≤ v22))) rfl g18 rfl rfl (evn ?_)))))))))))
              exact kimpl_rowsValid_J2 (decide (0 ≤ v22)) h _ ⟨kr, kr, kr, kr, kr, kr, trivial⟩
            · refine evs (ev_gs rfl rfl (isb_F g19) (evs (ev_gs rfl rfl (isb_F g19) (evs (ev_gs rfl rfl (isb_F g19) (evs (ev_gs rfl rfl (isb_F g19) (evs (ev_gs rfl rfl (isb_F g19) (evs (ev_gs rfl rfl (isb_F g19) (evs (ev_gs rfl rfl (isb_F g19) (evs (ev_gs rfl rfl (isb_F g19) (evs (ev_gr rfl (congrArg V.bool g18) (ev_pkF (c1 := .bool false) rfl g19 rfl rfl (evs (ev_pkF (c1 := .bool false) rfl g18 rfl rfl (evn ?_)))))))))))))))))))))
              exact kimpl_rowsValid_J2 false h _ ⟨kr, kr, kr, kr, kr, kr, trivial⟩
      · refine ls_cF rfl g8 ?_
        refine ls_exit ?_
        have q0 := (Option.some.inj h).symm
        have r0 := hr1
        rw [q0] at r0
        exact kXimpl_rowsValid_B1 () r0 _ trivial
def impl_IsValidRelation (a0 : Int × (List (List Int))) : Option (Bool) := obind (impl_rowsValid a0.1 a0.2) fun v1 => some v1
theorem impl_IsValidRelation_s {a0 : Int × (List (List Int))} {r : Bool} (h : impl_IsValidRelation a0 = some r) : SoundAt Try.prog 103 [.agg [.int .i64 a0.1, .dat a0.2.length (a0.2.flatMap c30_d)]] (.bool r) := by
  unfold impl_IsValidRelation at h
  refine sound_lit tbOk lit103 (Nat.le_of_ble_eq_true rfl) rfl ?_
  unfold c103
  refine ls_keep [(0, .agg [.int .i64 a0.1, .dat a0.2.length (a0.2.flatMap c30_d)])] ⟨kr, trivial⟩ rfl ?_
  refine ls_rs tbOk ?_
  refine evs (ev_bx (c1 := .agg [.int .i64 a0.1, .dat a0.2.length (a0.2.flatMap c30_d)]) rfl rfl rfl (evs (ev_ac rfl nofun rfl (evn ?_))))
  refine ls_keep [(1, .box [.int .i64 a0.1, .dat a0.2.length (a0.2.flatMap c30_d)])] ⟨kr, trivial⟩ rfl ?_
  refine ls_rs tbOk ?_
  refine evs (ev_fa (c1 := .cref 1 0) (v := .cref 1 0) rfl rfl rfl ⟨_, rfl⟩ rfl (evs (ev_ldB (off := 0) (v := .int .i64 a0.1) rfl rfl rfl rfl (Nat.le_of_ble_eq_true rfl) rfl (evs (ev_fa (c1 := .cref 1 0) (v := .cref 1 1) rfl rfl rfl ⟨_, rfl⟩ rfl (evs (ev_ldB (off := 1) (v := .dat a0.2.length (a0.2.flatMap c30_d)) rfl rfl rfl rfl (Nat.le_of_ble_eq_true rfl) rfl (?_))))))))
  obtain ⟨v1, g2, h⟩ := ob_some h
  refine evs (ev_call (era rfl rfl (era rfl (erD ec30_d _) eran)) (impl_rowsValid_s g2) (evs (ev_as (c := .bool v1) rfl rfl rfl (evn ?_))))
  refine ls_keep [(2, .bool v1)] ⟨kr, trivial⟩ rfl ?_
  refine ls_ret ?_
  have hr := Option.some.inj h
  rw [← hr]
  exact ⟨.inl rfl, rfl⟩
def impl_copyInts (a0 : List Int) : Option ((List Int)) := chk (List.length ([] : List Int) + List.length a0 ≤ lim) (some (([] : List Int) ++ a0))
theorem impl_copyInts_s {a0 : List Int} {r : (List Int)} (h : impl_copyInts a0 = some r) : SoundAt Try.prog 105 [.dat a0.length (a0.flatMap ci64)] (.own 3 r.length (r.flatMap ci64)) := by
  unfold impl_copyInts at h
  refine sound_lit tbOk lit105 (Nat.le_of_ble_eq_true rfl) rfl ?_
  unfold c105
  refine ls_keep [(0, .dat a0.length (a0.flatMap ci64))] ⟨kr, trivial⟩ rfl ?_
  refine ls_rs tbOk ?_
  refine evs (ev_an rfl rfl (evn ?_))
  refine ls_keep [(0, .dat a0.length (a0.flatMap ci64))] ⟨kr, trivial⟩ rfl ?_
  refine ls_rs tbOk ?_
  refine evs (ev_bs [] (cs := []) rfl trivial rfl (Nat.le_of_ble_eq_true rfl) rfl (evs (ev_mvt (c := .dat a0.length (a0.flatMap ci64)) rfl rfl rfl (?_))))
  obtain ⟨g1, h⟩ := chk_some h
  refine evs (ev_app (f := ci64) (l := ([] : List Int)) (m := a0) (c2 := .dat a0.length (a0.flatMap ci64)) rfl rfl rfl (flat_len zci64 a0) rfl (map_dg (fun _ => rfl) _) g1 rfl (evs (ev_as (c := .own 3 (([] : List Int) ++ a0).length ((([] : List Int) ++ a0).flatMap ci64)) rfl rfl rfl (evn ?_))))
  refine ls_keep [(2, .own 3 (([] : List Int) ++ a0).length ((([] : List Int) ++ a0).flatMap ci64))] ⟨kr, trivial⟩ rfl ?_
  refine ls_ret ?_
  have hr := Option.some.inj h
  rw [← hr]
  exact ⟨.inl rfl, rfl⟩
def impl_copyRows_B1 (a0 : List (List Int)) (rec : ((List (List Int)) × Int) → Option ((List (List Int)))) (s : (List (List Int)) × Int) : Option ((List (List Int))) := match s with
  | (y1, y2) => cond (decide (y2 < (List.length a0 : Int))) (obind (geti a0 y2) fun e6 => obind (impl_copyInts e6) fun v8 => chk (List.length y1 + List.length [v8] ≤ lim) (rec ((y1 ++ [v8]), (IntKind.i64.wrap (y2 + 1))))) (some y1)
def impl_copyRows (a0 : List (List Int)) : Option ((List (List Int))) := obind (loopF (impl_copyRows_B1 a0) fz (([] : List (List Int)), 0)) fun z2 => some z2
theorem impl_copyRows_s {a0 : List (List Int)} {r : (List (List Int))} (h : impl_copyRows a0 = some r) : SoundAt Try.prog 118 [.dat a0.length (a0.flatMap c30_d)] (.own 30 r.length (r.flatMap c30_o)) := by
  unfold impl_copyRows at h
  refine sound_lit tbOk lit118 (Nat.le_of_ble_eq_true rfl) rfl ?_
  unfold c118
  refine ls_keep [(0, .dat a0.length (a0.flatMap c30_d))] ⟨kr, trivial⟩ rfl ?_
  refine ls_rs tbOk ?_
  refine evs (ev_an rfl rfl (evn ?_))
  refine ls_keep [(0, .dat a0.length (a0.flatMap c30_d))] ⟨kr, trivial⟩ rfl ?_
  refine ls_rs tbOk ?_
  refine evs (ev_an rfl rfl (evn ?_))
  refine ls_keep [(0, .dat a0.length (a0.flatMap c30_d)), (3, .own 30 ([] : List (List Int)).length (([] : List (List Int)).flatMap c30_o))] ⟨kr, kr, trivial⟩ rfl ?_
  refine ls_seq_k fun K1 hK1 => ?_
  refine ls_rs tbOk ?_
  refine evs (ev_mv (c := .dat a0.length (a0.flatMap c30_d)) rfl rfl rfl (evs (ev_len (c1 := .dat a0.length (a0.flatMap c30_d)) rfl rfl rfl (evs (ev_mc rfl rfl (evn ?_))))))
  refine ls_keep [(3, .own 30 ([] : List (List Int)).length (([] : List (List Int)).flatMap c30_o)), (6, .dat a0.length (a0.flatMap c30_d)), (7, .int .i64 (List.length a0 : Int)), (8, .int .i64 0)] ⟨kr, kr, kr, kr, trivial⟩ rfl ?_
  obtain ⟨o1, hl, hr1⟩ := ob_some h
  clear h
  have kXimpl_copyRows_B1 : ∀ (z2 : List (List Int)), (some z2) = some r → ∀ σ' : PS, okK σ' [(3, .own 30 z2.length (z2.flatMap c30_o))] → K1 σ' := by
    intro z2 h σ' hk
    refine hK1 _ (ls_keep [(3, .own 30 z2.length (z2.flatMap c30_o))] hk rfl ?_)
    refine ls_rs tbOk ?_
    refine evs (ev_mvt (c := .own 30 z2.length (z2.flatMap c30_o)) rfl rfl rfl (evs (ev_as (c := .own 30 z2.length (z2.flatMap c30_o)) rfl rfl rfl (evn ?_))))
    refine ls_keep [(2, .own 30 z2.length (z2.flatMap c30_o))] ⟨kr, trivial⟩ rfl ?_
    refine ls_ret ?_
    have hr := Option.some.inj h
    rw [← hr]
    exact ⟨.inl rfl, rfl⟩
  refine ls_rec (fun (s : (List (List Int)) × Int) => match s with | (y1, y2) => [(3, .own 30 y1.length (y1.flatMap c30_o)), (6, .dat a0.length (a0.flatMap c30_d)), (7, .int .i64 (List.length a0 : Int)), (8, .int .i64 y2)]) (impl_copyRows_B1 a0) fz (([] : List (List Int)), 0) o1 hl ⟨kr, kr, kr, kr, trivial⟩ (fun _ => rfl) ?_
  rintro m ⟨y1, y2⟩ N h hN
  unfold impl_copyRows_B1 at h
  dsimp only at h
  refine ls_rs tbOk ?_
  refine evs (ev_bin (c1 := .int .i64 y2) (c2 := .int .i64 (List.length a0 : Int)) rfl rfl rfl (evn ?_))
  refine ls_keep [(3, .own 30 y1.length (y1.flatMap c30_o)), (6, .dat a0.length (a0.flatMap c30_d)), (7, .int .i64 (List.length a0 : Int)), (8, .int .i64 y2), (9, .bool (decide (y2 < (List.length a0 : Int))))] ⟨kr, kr, kr, kr, kr, trivial⟩ rfl ?_
  refine ls_seq_k fun K3 hK3 => ?_
  rcases cond_some h with ⟨g4, h⟩ | ⟨g4, h⟩
  · refine ls_cT rfl g4 ?_
    refine ls_skip ?_
    refine hK3 _ (ls_keep [(3, .own 30 y1.length (y1.flatMap c30_o)), (6, .dat a0.length (a0.flatMap c30_d)), (7, .int .i64 (List.length a0 : Int)), (8, .int .i64 y2)] ⟨kr, kr, kr, kr, trivial⟩ rfl ?_)
    refine ls_seq_k fun K5 hK5 => ?_
    refine ls_blk ?_
    refine ls_rs tbOk ?_
    obtain ⟨e6, g7, h⟩ := ob_some h
    refine evs (ev_ia rfl rfl rfl ⟨(geti_some g7).1, (geti_some g7).2.1⟩ (evs (ev_ldEt (i := y2) (n := 1) (off := 0) (v := .dat e6.length (e6.flatMap ci64)) rfl rfl zc30_d g7 rfl (Nat.le_of_ble_eq_true rfl) rfl (evs (ev_as (c := .dat e6.length (e6.flatMap ci64)) rfl rfl rfl (evn ?_))))))
    refine ls_keep [(3, .own 30 y1.length (y1.flatMap c30_o)), (5, .dat e6.length (e6.flatMap ci64)), (6, .dat a0.length (a0.flatMap c30_d)), (7, .int .i64 (List.length a0 : Int)), (8, .int .i64 y2)] ⟨kr, kr, kr, kr, kr, trivial⟩ rfl ?_
    refine ls_rgn tbOk ?_
    refine evs (ev_mvt (c := .own 30 y1.length (y1.flatMap c30_o)) rfl rfl rfl (evs (ev_mv (c := .dat e6.length (e6.flatMap ci64)) rfl rfl rfl (?_))))
    obtain ⟨v8, g9, h⟩ := ob_some h
    refine evs (ev_call (era rfl (erD eci64 _) eran) (impl_copyInts_s g9) (evs (ev_bs [.own 3 v8.length (v8.flatMap ci64)] (cs := [.own 3 v8.length (v8.flatMap ci64)]) rfl ⟨rfl, trivial⟩ rfl (Nat.le_of_ble_eq_true rfl) rfl (?_))))
    obtain ⟨g10, h⟩ := chk_some h
    refine evs (ev_app (f := c30_o) (l := y1) (m := [v8]) (c2 := .own 30 [v8].length ([v8].flatMap c30_o)) rfl rfl rfl (flat_len zc30_o [v8]) rfl rfl g10 rfl (evs (ev_as (c := .own 30 (y1 ++ [v8]).length ((y1 ++ [v8]).flatMap c30_o)) rfl rfl rfl (evn ?_))))
    refine hK5 _ (ls_keep [(3, .own 30 (y1 ++ [v8]).length ((y1 ++ [v8]).flatMap c30_o)), (6, .dat a0.length (a0.flatMap c30_d)), (7, .int .i64 (List.length a0 : Int)), (8, .int .i64 y2)] ⟨kr, kr, kr, kr, trivial⟩ rfl ?_)
    refine ls_rgn tbOk ?_
    refine evs (ev_bin (c1 := .int .i64 y2) (c2 := .int .i64 1) rfl rfl rfl (evs (ev_mv (c := .int .i64 (IntKind.i64.wrap (y2 + 1))) rfl rfl rfl (evn ?_))))
    exact hN _ ((y1 ++ [v8]), (IntKind.i64.wrap (y2 + 1))) h ⟨kr, kr, kr, kr, trivial⟩
  · refine ls_cF rfl g4 ?_
    refine ls_exit ?_
    have q0 := (Option.some.inj h).symm
    have r0 := hr1
    rw [q0] at r0
    exact kXimpl_copyRows_B1 y1 r0 _ ⟨kr, trivial⟩
def impl_sorted_J5 (rec : ((List (Nat × (List Int))) × (List (Nat × (List Int))) × (List (Nat × (List Int)))) → Option ((List (Nat × (List Int))))) (y2 : List (Nat × (List Int))) (x20 : List (Nat × (List Int))) (x24 : List (Nat × (List Int))) : Option ((List (Nat × (List Int)))) := chk ((0 : Int) ≤ 1 ∧ 1 ≤ (List.length y2 : Int) ∧ (List.length y2 : Int) ≤ (List.length y2 : Int)) (rec (x20, (subl y2 1 (List.length y2 : Int)), x24))
def impl_sorted_J4 (rec : ((List (Nat × (List Int))) × (List (Nat × (List Int))) × (List (Nat × (List Int)))) → Option ((List (Nat × (List Int))))) (y2 : List (Nat × (List Int))) (x18 : Int) (x20 : List (Nat × (List Int))) (x21 : List (Nat × (List Int))) : Option ((List (Nat × (List Int)))) := cond (decide (0 ≤ x18)) (cond (decide (0 < x18)) (obind (geti y2 0) fun e27 => chk (List.length x21 + List.length [e27] ≤ lim) (impl_sorted_J5 rec y2 x20 (x21 ++ [e27]))) (impl_sorted_J5 rec y2 x20 x21)) (rec (x20, y2, x21))
def impl_sorted_J3 (rec : ((List (Nat × (List Int))) × (List (Nat × (List Int))) × (List (Nat × (List Int)))) → Option ((List (Nat × (List Int))))) (y1 : List (Nat × (List Int))) (y2 : List (Nat × (List Int))) (y3 : List (Nat × (List Int))) (x18 : Int) : Option ((List (Nat × (List Int)))) := cond (decide (x18 ≤ 0)) (obind (geti y1 0) fun e31 => chk (List.length y3 + List.length [e31] ≤ lim) (chk ((0 : Int) ≤ 1 ∧ 1 ≤ (List.length y1 : Int) ∧ (List.length y1 : Int) ≤ (List.length y1 : Int)) (impl_sorted_J4 rec y2 x18 (subl y1 1 (List.length y1 : Int)) (y3 ++ [e31])))) (impl_sorted_J4 rec y2 x18 y1 y3)
def impl_sorted_J2 (rec : ((List (Nat × (List Int))) × (List (Nat × (List Int))) × (List (Nat × (List Int)))) → Option ((List (Nat × (List Int))))) (y1 : List (Nat × (List Int))) (y2 : List (Nat × (List Int))) (y3 : List (Nat × (List Int))) (x15 : Bool) : Option ((List (Nat × (List Int)))) := cond x15 (cond ((List.length y1 : Int) == 0) (impl_sorted_J3 rec y1 y2 y3 1) (cond (decide (0 < (List.length y2 : Int))) (obind (geti y1 0) fun e37 => obind (geti y2 0) fun e39 => obind (impl_CompareRows e37.2 e39.2) fun v41 => impl_sorted_J3 rec y1 y2 y3 v41) (impl_sorted_J3 rec y1 y2 y3 (-1)))) (some y3)
def impl_sorted_B1  (rec : ((List (Nat × (List Int))) × (List (Nat × (List Int))) × (List (Nat × (List Int)))) → Option ((List (Nat × (List Int))))) (s : (List (Nat × (List Int))) × (List (Nat × (List Int))) × (List (Nat × (List Int)))) : Option ((List (Nat × (List Int)))) := match s with
  | (y1, y2, y3) => cond (decide (0 < (List.length y1 : Int))) (impl_sorted_J2 rec y1 y2 y3 true) (impl_sorted_J2 rec y1 y2 y3 (decide (0 < (List.length y2 : Int))))
def impl_sorted_R (rec : ((List (List Int))) → Option ((List (List Int)))) (a0 : (List (List Int))) : Option ((List (List Int))) := cond (decide ((List.length a0 : Int) < 2)) (obind (impl_copyRows a0) fun v3 => some v3) (chk ((0 : Int) ≤ 0 ∧ 0 ≤ IntKind.i64.wrap (Int.tdiv (List.length a0 : Int) 2) ∧ IntKind.i64.wrap (Int.tdiv (List.length a0 : Int) 2) ≤ (List.length a0 : Int)) (obind (rec (subl a0 0 (IntKind.i64.wrap (Int.tdiv (List.length a0 : Int) 2)))) fun v6 => chk ((0 : Int) ≤ IntKind.i64.wrap (Int.tdiv (List.length a0 : Int) 2) ∧ IntKind.i64.wrap (Int.tdiv (List.length a0 : Int) 2) ≤ (List.length a0 : Int) ∧ (List.length a0 : Int) ≤ (List.length a0 : Int)) (obind (rec (subl a0 (IntKind.i64.wrap (Int.tdiv (List.length a0 : Int) 2)) (List.length a0 : Int))) fun v9 => obind (loopF impl_sorted_B1 fz ((enumP 0 v6), (enumP (List.length v6) v9), ([] : List (Nat × (List Int))))) fun z12 => chk (okJ (v6 ++ v9) (List.map Sum.inl z12) [] = true) (some (List.map getM (List.map Sum.inl z12))))))
def impl_sorted (a0 : List (List Int)) : Option ((List (List Int))) := loopF impl_sorted_R fz a0
theorem impl_sorted_s {a0 : List (List Int)} {r : (List (List Int))} (h : impl_sorted a0 = some r) : SoundAt Try.prog 141 [.dat a0.length (a0.flatMap c30_d)] (.own 30 r.length (r.flatMap c30_o)) := by
  suffices key : ∀ m (a0 : List (List Int)) (r : (List (List Int))), loopF impl_sorted_R m a0 = some r → SoundAt Try.prog 141 [.dat a0.length (a0.flatMap c30_d)] (.own 30 r.length (r.flatMap c30_o)) from key fz a0 r h
  intro m
  induction m with
  | zero => intro a0 r h; cases h
  | succ m ih0 =>
    intro a0 r h
    have ih : ∀ {a0 : List (List Int)} {r : (List (List Int))}, loopF impl_sorted_R m a0 = some r → SoundAt Try.prog 141 [.dat a0.length (a0.flatMap c30_d)] (.own 30 r.length (r.flatMap c30_o)) := fun h => ih0 _ _ h
    change impl_sorted_R (loopF impl_sorted_R m) a0 = some r at h
    unfold impl_sorted_R at h
    try dsimp only at h
    refine sound_lit tbOk lit141 (Nat.le_of_ble_eq_true rfl) rfl ?_
    unfold c141
    refine ls_keep [(0, .dat a0.length (a0.flatMap c30_d))] ⟨kr, trivial⟩ rfl ?_
    refine ls_rs tbOk ?_
    refine evs (ev_an rfl rfl (evn ?_))
    refine ls_keep [(0, .dat a0.length (a0.flatMap c30_d))] ⟨kr, trivial⟩ rfl ?_
    refine ls_seq_k fun K1 hK1 => ?_
    refine ls_rs tbOk ?_
    refine evs (ev_mv (c := .dat a0.length (a0.flatMap c30_d)) rfl rfl rfl (evs (ev_len (c1 := .dat a0.length (a0.flatMap c30_d)) rfl rfl rfl (evs (ev_bin (c1 := .int .i64 (List.length a0 : Int)) (c2 := .int .i64 2) rfl rfl rfl (evn ?_))))))
    refine ls_keep [(0, .dat a0.length (a0.flatMap c30_d)), (10, .bool (decide ((List.length a0 : Int) < 2)))] ⟨kr, kr, trivial⟩ rfl ?_
    rcases cond_some h with ⟨g2, h⟩ | ⟨g2, h⟩
    · refine ls_cT rfl g2 ?_
      refine ls_rs tbOk ?_
      refine evs (ev_mv (c := .dat a0.length (a0.flatMap c30_d)) rfl rfl rfl (?_))
      obtain ⟨v3, g4, h⟩ := ob_some h
      refine evs (ev_call (era rfl (erD ec30_d _) eran) (impl_copyRows_s g4) (evs (ev_as (c := .own 30 v3.length (v3.flatMap c30_o)) rfl rfl rfl (evn ?_))))
      refine ls_keep [(2, .own 30 v3.length (v3.flatMap c30_o))] ⟨kr, trivial⟩ rfl ?_
      refine ls_ret ?_
      have hr := Option.some.inj h
      rw [← hr]
      exact ⟨.inl rfl, rfl⟩
    · refine ls_cF rfl g2 ?_
      refine ls_skip ?_
      refine hK1 _ (ls_keep [(0, .dat a0.length (a0.flatMap c30_d))] ⟨kr, trivial⟩ rfl ?_)
      refine ls_rs tbOk ?_
      refine evs (ev_mv (c := .dat a0.length (a0.flatMap c30_d)) rfl rfl rfl (evs (ev_len (c1 := .dat a0.length (a0.flatMap c30_d)) rfl rfl rfl (evs (ev_bin (c1 := .int .i64 (List.length a0 : Int)) (c2 := .int .i64 2) rfl rfl ⟨rfl, by decide⟩ (evs (ev_as (c := .int .i64 (IntKind.i64.wrap (Int.tdiv (List.length a0 : Int) 2))) rfl rfl rfl (evn ?_))))))))
      refine ls_keep [(0, .dat a0.length (a0.flatMap c30_d)), (3, .int .i64 (IntKind.i64.wrap (Int.tdiv (List.length a0 : Int) 2)))] ⟨kr, kr, trivial⟩ rfl ?_
      refine ls_rd tbOk mixed (by kernel_rfl) ?_
      refine evd rfl rfl (ev_mv (c := .dat a0.length (a0.flatMap c30_d)) rfl rfl rfl (evd rfl rfl (ev_mv (c := .int .i64 (IntKind.i64.wrap (Int.tdiv (List.length a0 : Int) 2))) rfl rfl rfl (?_))))
      obtain ⟨g5, h⟩ := chk_some h
      refine evd rfl rfl (ev_sle (lst := a0) rfl rfl zc30_d rfl rfl g5 (?_))
      obtain ⟨v6, g7, h⟩ := ob_some h
      refine evd rfl rfl (ev_call (era rfl (erD ec30_d _) eran) (ih g7) (evd rfl rfl (ev_mv (c := .dat a0.length (a0.flatMap c30_d)) rfl rfl rfl (evd rfl rfl (ev_mv (c := .int .i64 (IntKind.i64.wrap (Int.tdiv (List.length a0 : Int) 2))) rfl rfl rfl (?_))))))
      obtain ⟨g8, h⟩ := chk_some h
      refine evd rfl rfl (ev_sle (lst := a0) rfl rfl zc30_d rfl rfl g8 (?_))
      obtain ⟨v9, g10, h⟩ := ob_some h
      refine evd rfl rfl (ev_call (era rfl (erD ec30_d _) eran) (ih g10) (evd rfl rfl (ev_as (c := .own 30 v6.length (v6.flatMap c30_o)) rfl rfl rfl (evd rfl rfl (ev_as (c := .own 30 v9.length (v9.flatMap c30_o)) rfl rfl rfl (evdn ?_))))))
      refine ls_keep [(4, .own 30 v6.length (v6.flatMap c30_o)), (5, .own 30 v9.length (v9.flatMap c30_o))] ⟨kr, kr, trivial⟩ rfl ?_
      refine ls_keep [(4, .own 30 v6.length (v6.flatMap c30_o)), (5, .own 30 v9.length (v9.flatMap c30_o))] ⟨kr, kr, trivial⟩ rfl ?_
      refine ls_split2 (f := c30_o) (s1 := 4) (s2 := 5) (g1 := 900001) (g2 := 900002) rfl rfl rfl rfl ⟨by decide, by decide, by decide, by decide, by decide, by decide⟩ (split_own (fun _ => rfl)) (split_own (fun _ => rfl)) (fun _ => rfl) (fun _ => rfl) (fun _ => rfl) (fun _ => rfl) ?_
      intro U us1 us2 hu1 hu2 hU
      refine ls_keep [(4, .own 30 (enumP 0 v6).length ((enumP 0 v6).flatMap (pE c30_o U))), (5, .own 30 (enumP (List.length v6) v9).length ((enumP (List.length v6) v9).flatMap (pE c30_o U))), (900001, .gh us1 (List.map (fun x => tokC (c30_o x)) v6)), (900002, .gh us2 (List.map (fun x => tokC (c30_o x)) v9))] ⟨kr, kr, kr, kr, trivial⟩ rfl ?_
      refine ls_rs tbOk ?_
      refine evs (ev_an rfl rfl (evn ?_))
      refine ls_keep [(4, .own 30 (enumP 0 v6).length ((enumP 0 v6).flatMap (pE c30_o U))), (5, .own 30 (enumP (List.length v6) v9).length ((enumP (List.length v6) v9).flatMap (pE c30_o U))), (6, .own 30 ([] : List (List Int)).length (([] : List (List Int)).flatMap c30_o)), (900001, .gh us1 (List.map (fun x => tokC (c30_o x)) v6)), (900002, .gh us2 (List.map (fun x => tokC (c30_o x)) v9))] ⟨kr, kr, kr, kr, kr, trivial⟩ rfl ?_
      refine ls_seq_k fun K11 hK11 => ?_
      obtain ⟨o1, hl, hr1⟩ := ob_some h
      clear h
      have kXimpl_sorted_B1 : ∀ (z12 : List (Nat × (List Int))), (chk (okJ (v6 ++ v9) (List.map Sum.inl z12) [] = true) (some (List.map getM (List.map Sum.inl z12)))) = some r → ∀ σ' : PS, okK σ' [(6, .own 30 z12.length (z12.flatMap (pE c30_o U))), (900001, .gh us1 (List.map (fun x => tokC (c30_o x)) v6)), (900002, .gh us2 (List.map (fun x => tokC (c30_o x)) v9))] → K11 σ' := by
        intro z12 h σ' hk
        refine hK11 _ (ls_keep [(6, .own 30 z12.length (z12.flatMap (pE c30_o U))), (900001, .gh us1 (List.map (fun x => tokC (c30_o x)) v6)), (900002, .gh us2 (List.map (fun x => tokC (c30_o x)) v9))] hk rfl ?_)
        refine ls_keep [(6, .own 30 z12.length (z12.flatMap (pE c30_o U))), (900001, .gh us1 (List.map (fun x => tokC (c30_o x)) v6)), (900002, .gh us2 (List.map (fun x => tokC (c30_o x)) v9))] ⟨kr, kr, kr, trivial⟩ rfl ?_
        obtain ⟨g44, h⟩ := chk_some h
        refine ls_merge (g1 := 900001) (g2 := 900002) rfl rfl (by decide) ?_
        refine ls_join1 (f := c30_o) (s := 6) (q := 900001) (l := v6 ++ v9) (U := U) (L := List.map Sum.inl z12) own_inl rfl List.map_append.symm (by decide) (join_own (fun _ => rfl)) hU g44 rfl rfl ?_
        refine ls_keep [(6, .own 30 (List.map getM (List.map Sum.inl z12)).length ((List.map getM (List.map Sum.inl z12)).flatMap c30_o))] ⟨kr, trivial⟩ rfl ?_
        refine ls_rs tbOk ?_
        refine evs (ev_mvt (c := .own 30 (List.map getM (List.map Sum.inl z12)).length ((List.map getM (List.map Sum.inl z12)).flatMap c30_o)) rfl rfl rfl (evs (ev_as (c := .own 30 (List.map getM (List.map Sum.inl z12)).length ((List.map getM (List.map Sum.inl z12)).flatMap c30_o)) rfl rfl rfl (evn ?_))))
        refine ls_keep [(2, .own 30 (List.map getM (List.map Sum.inl z12)).length ((List.map getM (List.map Sum.inl z12)).flatMap c30_o))] ⟨kr, trivial⟩ rfl ?_
        refine ls_ret ?_
        have hr := Option.some.inj h
        rw [← hr]
        exact ⟨.inl rfl, rfl⟩
      refine ls_rec (fun (s : (List (Nat × (List Int))) × (List (Nat × (List Int))) × (List (Nat × (List Int)))) => match s with | (y1, y2, y3) => [(4, .dat y1.length (y1.flatMap (pE c30_o U))), (5, .dat y2.length (y2.flatMap (pE c30_o U))), (6, .own 30 y3.length (y3.flatMap (pE c30_o U))), (900001, .gh us1 (List.map (fun x => tokC (c30_o x)) v6)), (900002, .gh us2 (List.map (fun x => tokC (c30_o x)) v9))]) impl_sorted_B1 fz ((enumP 0 v6), (enumP (List.length v6) v9), ([] : List (Nat × (List Int)))) o1 hl ⟨(kd rfl rfl), (kd rfl rfl), kr, kr, kr, trivial⟩ (fun _ => rfl) ?_
      rintro m ⟨y1, y2, y3⟩ N h hN
      unfold impl_sorted_B1 at h
      dsimp only at h
      refine ls_seq_k fun K13 hK13 => ?_
      refine ls_rs_k tbOk fun K14 hK14 => ?_
      have kimpl_sorted_J2 : ∀ (x15 : Bool), impl_sorted_J2 (loopF impl_sorted_B1 m) y1 y2 y3 x15 = some o1 → ∀ σ' : PS, okK σ' [(4, .dat y1.length (y1.flatMap (pE c30_o U))), (5, .dat y2.length (y2.flatMap (pE c30_o U))), (6, .own 30 y3.length (y3.flatMap (pE c30_o U))), (31, .bool x15), (900001, .gh us1 (List.map (fun x => tokC (c30_o x)) v6)), (900002, .gh us2 (List.map (fun x => tokC (c30_o x)) v9))] → K14 σ' := by
        intro x15 h σ' hk
        unfold impl_sorted_J2 at h
        refine hK14 _ (ls_keep [(4, .dat y1.length (y1.flatMap (pE c30_o U))), (5, .dat y2.length (y2.flatMap (pE c30_o U))), (6, .own 30 y3.length (y3.flatMap (pE c30_o U))), (31, .bool x15), (900001, .gh us1 (List.map (fun x => tokC (c30_o x)) v6)), (900002, .gh us2 (List.map (fun x => tokC (c30_o x)) v9))] hk rfl ?_)
        rcases cond_some h with ⟨g16, h⟩ | ⟨g16, h⟩
        · refine ls_cT rfl g16 ?_
          refine ls_skip ?_
          refine hK13 _ (ls_keep [(4, .dat y1.length (y1.flatMap (pE c30_o U))), (5, .dat y2.length (y2.flatMap (pE c30_o U))), (6, .own 30 y3.length (y3.flatMap (pE c30_o U))), (900001, .gh us1 (List.map (fun x => tokC (c30_o x)) v6)), (900002, .gh us2 (List.map (fun x => tokC (c30_o x)) v9))] ⟨kr, kr, kr, kr, kr, trivial⟩ rfl ?_)
          refine ls_blk ?_
          refine ls_rs tbOk ?_
          refine evs (ev_ac rfl nofun rfl (evn ?_))
          refine ls_keep [(4, .dat y1.length (y1.flatMap (pE c30_o U))), (5, .dat y2.length (y2.flatMap (pE c30_o U))), (6, .own 30 y3.length (y3.flatMap (pE c30_o U))), (7, .int .i64 (-1)), (900001, .gh us1 (List.map (fun x => tokC (c30_o x)) v6)), (900002, .gh us2 (List.map (fun x => tokC (c30_o x)) v9))] ⟨kr, kr, kr, kr, kr, kr, trivial⟩ rfl ?_
          refine ls_seq_k fun K17 hK17 => ?_
          refine ls_rs tbOk ?_
          refine evs (ev_mv (c := .dat y1.length (y1.flatMap (pE c30_o U))) rfl rfl rfl (evs (ev_len (c1 := .dat y1.length (y1.flatMap (pE c30_o U))) rfl rfl rfl (evs (ev_bin (c1 := .int .i64 (List.length y1 : Int)) (c2 := .int .i64 0) rfl rfl rfl (evn ?_))))))
          refine ls_keep [(4, .dat y1.length (y1.flatMap (pE c30_o U))), (5, .dat y2.length (y2.flatMap (pE c30_o U))), (6, .own 30 y3.length (y3.flatMap (pE c30_o U))), (7, .int .i64 (-1)), (34, .bool ((List.length y1 : Int) == 0)), (900001, .gh us1 (List.map (fun x => tokC (c30_o x)) v6)), (900002, .gh us2 (List.map (fun x => tokC (c30_o x)) v9))] ⟨kr, kr, kr, kr, kr, kr, kr, trivial⟩ rfl ?_
          have kimpl_sorted_J3 : ∀ (x18 : Int), impl_sorted_J3 (loopF impl_sorted_B1 m) y1 y2 y3 x18 = some o1 → ∀ σ' : PS, okK σ' [(4, .dat y1.length (y1.flatMap (pE c30_o U))), (5, .dat y2.length (y2.flatMap (pE c30_o U))), (6, .own 30 y3.length (y3.flatMap (pE c30_o U))), (7, .int .i64 x18), (900001, .gh us1 (List.map (fun x => tokC (c30_o x)) v6)), (900002, .gh us2 (List.map (fun x => tokC (c30_o x)) v9))] → K17 σ' := by
            intro x18 h σ' hk
            unfold impl_sorted_J3 at h
            refine hK17 _ (ls_keep [(4, .dat y1.length (y1.flatMap (pE c30_o U))), (5, .dat y2.length (y2.flatMap (pE c30_o U))), (6, .own 30 y3.length (y3.flatMap (pE c30_o U))), (7, .int .i64 x18), (900001, .gh us1 (List.map (fun x => tokC (c30_o x)) v6)), (900002, .gh us2 (List.map (fun x => tokC (c30_o x)) v9))] hk rfl ?_)
            refine ls_seq_k fun K19 hK19 => ?_
            refine ls_rs tbOk ?_
            refine evs (ev_mv (c := .int .i64 x18) rfl rfl rfl (evs (ev_bin (c1 := .int .i64 x18) (c2 := .int .i64 0) rfl rfl rfl (evn ?_))))
            refine ls_keep [(4, .dat y1.length (y1.flatMap (pE c30_o U))), (5, .dat y2.length (y2.flatMap (pE c30_o U))), (6, .own 30 y3.length (y3.flatMap (pE c30_o U))), (7, .int .i64 x18), (46, .bool (decide (x18 ≤ 0))), (900001, .gh us1 (List.map (fun x => tokC (c30_o x)) v6)), (900002, .gh us2 (List.map (fun x => tokC (c30_o x)) v9))] ⟨kr, kr, kr, kr, kr, kr, kr, trivial⟩ rfl ?_
            have kimpl_sorted_J4 : ∀ (x20 : List (Nat × (List Int))) (x21 : List (Nat × (List Int))), impl_sorted_J4 (loopF impl_sorted_B1 m) y2 x18 x20 x21 = some o1 → ∀ σ' : PS, okK σ' [(4, .dat x20.length (x20.flatMap (pE c30_o U))), (5, .dat y2.length (y2.flatMap (pE c30_o U))), (6, .own 30 x21.length (x21.flatMap (pE c30_o U))), (7, .int .i64 x18), (900001, .gh us1 (List.map (fun x => tokC (c30_o x)) v6)), (900002, .gh us2 (List.map (fun x => tokC (c30_o x)) v9))] → K19 σ' := by
              intro x20 x21 h σ' hk
              unfold impl_sorted_J4 at h
              refine hK19 _ (ls_keep [(4, .dat x20.length (x20.flatMap (pE c30_o U))), (5, .dat y2.length (y2.flatMap (pE c30_o U))), (6, .own 30 x21.length (x21.flatMap (pE c30_o U))), (7, .int .i64 x18), (900001, .gh us1 (List.map (fun x => tokC (c30_o x)) v6)), (900002, .gh us2 (List.map (fun x => tokC (c30_o x)) v9))] hk rfl ?_)
              refine ls_rs tbOk ?_
              refine evs (ev_mv (c := .int .i64 x18) rfl rfl rfl (evs (ev_bin (c1 := .int .i64 x18) (c2 := .int .i64 0) rfl rfl rfl (evn ?_))))
              refine ls_keep [(4, .dat x20.length (x20.flatMap (pE c30_o U))), (5, .dat y2.length (y2.flatMap (pE c30_o U))), (6, .own 30 x21.length (x21.flatMap (pE c30_o U))), (7, .int .i64 x18), (56, .bool (decide (0 ≤ x18))), (900001, .gh us1 (List.map (fun x => tokC (c30_o x)) v6)), (900002, .gh us2 (List.map (fun x => tokC (c30_o x)) v9))] ⟨kr, kr, kr, kr, kr, kr, kr, trivial⟩ rfl ?_
              rcases cond_some h with ⟨g22, h⟩ | ⟨g22, h⟩
              · refine ls_cT rfl g22 ?_
                refine ls_seq_k fun K23 hK23 => ?_
                refine ls_rs tbOk ?_
                refine evs (ev_mv (c := .int .i64 x18) rfl rfl rfl (evs (ev_bin (c1 := .int .i64 x18) (c2 := .int .i64 0) rfl rfl rfl (evn ?_))))
                refine ls_keep [(4, .dat x20.length (x20.flatMap (pE c30_o U))), (5, .dat y2.length (y2.flatMap (pE c30_o U))), (6, .own 30 x21.length (x21.flatMap (pE c30_o U))), (58, .bool (decide (0 < x18))), (900001, .gh us1 (List.map (fun x => tokC (c30_o x)) v6)), (900002, .gh us2 (List.map (fun x => tokC (c30_o x)) v9))] ⟨kr, kr, kr, kr, kr, kr, trivial⟩ rfl ?_
                have kimpl_sorted_J5 : ∀ (x24 : List (Nat × (List Int))), impl_sorted_J5 (loopF impl_sorted_B1 m) y2 x20 x24 = some o1 → ∀ σ' : PS, okK σ' [(4, .dat x20.length (x20.flatMap (pE c30_o U))), (5, .dat y2.length (y2.flatMap (pE c30_o U))), (6, .own 30 x24.length (x24.flatMap (pE c30_o U))), (900001, .gh us1 (List.map (fun x => tokC (c30_o x)) v6)), (900002, .gh us2 (List.map (fun x => tokC (c30_o x)) v9))] → K23 σ' := by
                  intro x24 h σ' hk
                  unfold impl_sorted_J5 at h
                  refine hK23 _ (ls_keep [(4, .dat x20.length (x20.flatMap (pE c30_o U))), (5, .dat y2.length (y2.flatMap (pE c30_o U))), (6, .own 30 x24.length (x24.flatMap (pE c30_o U))), (900001, .gh us1 (List.map (fun x => tokC (c30_o x)) v6)), (900002, .gh us2 (List.map (fun x => tokC (c30_o x)) v9))] hk rfl ?_)
                  refine ls_rgn tbOk ?_
                  refine evs (ev_mv (c := .dat y2.length (y2.flatMap (pE c30_o U))) rfl rfl rfl (?_))
                  obtain ⟨g25, h⟩ := chk_some h
                  refine evs (ev_sle (lst := y2) rfl rfl (zpE zc30_o) rfl rfl g25 (evs (ev_as (c := .dat (subl y2 1 (List.length y2 : Int)).length ((subl y2 1 (List.length y2 : Int)).flatMap (pE c30_o U))) rfl rfl rfl (evn ?_))))
                  exact hN _ (x20, (subl y2 1 (List.length y2 : Int)), x24) h ⟨kr, kr, kr, kr, kr, trivial⟩
                rcases cond_some h with ⟨g26, h⟩ | ⟨g26, h⟩
                · refine ls_cT rfl g26 ?_
                  refine ls_rgn tbOk ?_
                  refine evs (ev_mvt (c := .own 30 x21.length (x21.flatMap (pE c30_o U))) rfl rfl rfl (evs (ev_mv (c := .dat y2.length (y2.flatMap (pE c30_o U))) rfl rfl rfl (?_))))
                  obtain ⟨e27, g28, h⟩ := ob_some h
                  refine evs (ev_ia rfl rfl rfl ⟨(geti_some g28).1, (geti_some g28).2.1⟩ (evs (ev_ldEt (i := 0) (n := 1) (off := 0) (v := .pin (U e27.1) e27.2.length (erL (e27.2.flatMap ci64))) rfl rfl (zpE zc30_o) g28 rfl (Nat.le_of_ble_eq_true rfl) rfl (evs (ev_bs [.pin (U e27.1) e27.2.length (erL (e27.2.flatMap ci64))] (cs := [.pin (U e27.1) e27.2.length (erL (e27.2.flatMap ci64))]) rfl ⟨rfl, trivial⟩ rfl (Nat.le_of_ble_eq_true rfl) rfl (?_))))))
                  obtain ⟨g29, h⟩ := chk_some h
                  refine evs (ev_app (f := (pE c30_o U)) (l := x21) (m := [e27]) (c2 := .own 30 [e27].length ([e27].flatMap (pE c30_o U))) rfl rfl rfl (flat_len (zpE zc30_o) [e27]) rfl rfl g29 rfl (evs (ev_as (c := .own 30 (x21 ++ [e27]).length ((x21 ++ [e27]).flatMap (pE c30_o U))) rfl rfl rfl (evn ?_))))
                  exact kimpl_sorted_J5 (x21 ++ [e27]) h _ ⟨kr, kr, kr, kr, kr, trivial⟩
                · refine ls_cF rfl g26 ?_
                  refine ls_skip ?_
                  exact kimpl_sorted_J5 x21 h _ ⟨kr, kr, kr, kr, kr, trivial⟩
              · refine ls_cF rfl g22 ?_
                refine ls_skip ?_
                exact hN _ (x20, y2, x21) h ⟨kr, kr, kr, kr, kr, trivial⟩
            rcases cond_some h with ⟨g30, h⟩ | ⟨g30, h⟩
            · refine ls_cT rfl g30 ?_
              refine ls_rs tbOk ?_
              refine evs (ev_mvt (c := .own 30 y3.length (y3.flatMap (pE c30_o U))) rfl rfl rfl (evs (ev_mv (c := .dat y1.length (y1.flatMap (pE c30_o U))) rfl rfl rfl (?_))))
              obtain ⟨e31, g32, h⟩ := ob_some h
              refine evs (ev_ia rfl rfl rfl ⟨(geti_some g32).1, (geti_some g32).2.1⟩ (evs (ev_ldEt (i := 0) (n := 1) (off := 0) (v := .pin (U e31.1) e31.2.length (erL (e31.2.flatMap ci64))) rfl rfl (zpE zc30_o) g32 rfl (Nat.le_of_ble_eq_true rfl) rfl (evs (ev_bs [.pin (U e31.1) e31.2.length (erL (e31.2.flatMap ci64))] (cs := [.pin (U e31.1) e31.2.length (erL (e31.2.flatMap ci64))]) rfl ⟨rfl, trivial⟩ rfl (Nat.le_of_ble_eq_true rfl) rfl (?_))))))
              obtain ⟨g33, h⟩ := chk_some h
              refine evs (ev_app (f := (pE c30_o U)) (l := y3) (m := [e31]) (c2 := .own 30 [e31].length ([e31].flatMap (pE c30_o U))) rfl rfl rfl (flat_len (zpE zc30_o) [e31]) rfl rfl g33 rfl (evs (ev_as (c := .own 30 (y3 ++ [e31]).length ((y3 ++ [e31]).flatMap (pE c30_o U))) rfl rfl rfl (evn ?_))))
              refine ls_keep [(4, .dat y1.length (y1.flatMap (pE c30_o U))), (5, .dat y2.length (y2.flatMap (pE c30_o U))), (6, .own 30 (y3 ++ [e31]).length ((y3 ++ [e31]).flatMap (pE c30_o U))), (7, .int .i64 x18), (900001, .gh us1 (List.map (fun x => tokC (c30_o x)) v6)), (900002, .gh us2 (List.map (fun x => tokC (c30_o x)) v9))] ⟨kr, kr, kr, kr, kr, kr, trivial⟩ rfl ?_
              refine ls_rgn tbOk ?_
              refine evs (ev_mv (c := .dat y1.length (y1.flatMap (pE c30_o U))) rfl rfl rfl (?_))
              obtain ⟨g34, h⟩ := chk_some h
              refine evs (ev_sle (lst := y1) rfl rfl (zpE zc30_o) rfl rfl g34 (evs (ev_as (c := .dat (subl y1 1 (List.length y1 : Int)).length ((subl y1 1 (List.length y1 : Int)).flatMap (pE c30_o U))) rfl rfl rfl (evn ?_))))
              exact kimpl_sorted_J4 (subl y1 1 (List.length y1 : Int)) (y3 ++ [e31]) h _ ⟨kr, kr, kr, kr, kr, kr, trivial⟩
            · refine ls_cF rfl g30 ?_
              refine ls_skip ?_
              exact kimpl_sorted_J4 y1 y3 h _ ⟨kr, kr, kr, kr, kr, kr, trivial⟩
          rcases cond_some h with ⟨g35, h⟩ | ⟨g35, h⟩
          · refine ls_cT rfl g35 ?_
            refine ls_rgn tbOk ?_
            refine evs (ev_ac rfl nofun rfl (evn ?_))
            exact kimpl_sorted_J3 1 h _ ⟨kr, kr, kr, kr, kr, kr, trivial⟩
          · refine ls_cF rfl g35 ?_
            refine ls_rs tbOk ?_
            refine evs (ev_mv (c := .dat y2.length (y2.flatMap (pE c30_o U))) rfl rfl rfl (evs (ev_len (c1 := .dat y2.length (y2.flatMap (pE c30_o U))) rfl rfl rfl (evs (ev_bin (c1 := .int .i64 (List.length y2 : Int)) (c2 := .int .i64 0) rfl rfl rfl (evn ?_))))))
            refine ls_keep [(4, .dat y1.length (y1.flatMap (pE c30_o U))), (5, .dat y2.length (y2.flatMap (pE c30_o U))), (6, .own 30 y3.length (y3.flatMap (pE c30_o U))), (7, .int .i64 (-1)), (37, .bool (decide (0 < (List.length y2 : Int)))), (900001, .gh us1 (List.map (fun x => tokC (c30_o x)) v6)), (900002, .gh us2 (List.map (fun x => tokC (c30_o x)) v9))] ⟨kr, kr, kr, kr, kr, kr, kr, trivial⟩ rfl ?_
            rcases cond_some h with ⟨g36, h⟩ | ⟨g36, h⟩
            · refine ls_cT rfl g36 ?_
              refine ls_drw tbOk mixed (by kernel_rfl) ?_
              refine evd rfl rfl (ev_mv (c := .dat y1.length (y1.flatMap (pE c30_o U))) rfl rfl rfl (?_))
              obtain ⟨e37, g38, h⟩ := ob_some h
              refine evd rfl rfl (ev_ia rfl rfl rfl ⟨(geti_some g38).1, (geti_some g38).2.1⟩ (evd rfl rfl (ev_ldE (i := 0) (n := 1) (off := 0) (v := .pin (U e37.1) e37.2.length (erL (e37.2.flatMap ci64))) rfl rfl (zpE zc30_o) g38 rfl (Nat.le_of_ble_eq_true rfl) rfl (evd rfl rfl (ev_mv (c := .dat y2.length (y2.flatMap (pE c30_o U))) rfl rfl rfl (?_))))))
              obtain ⟨e39, g40, h⟩ := ob_some h
              refine evd rfl rfl (ev_ia rfl rfl rfl ⟨(geti_some g40).1, (geti_some g40).2.1⟩ (evd rfl rfl (ev_ldE (i := 0) (n := 1) (off := 0) (v := .pin (U e39.1) e39.2.length (erL (e39.2.flatMap ci64))) rfl rfl (zpE zc30_o) g40 rfl (Nat.le_of_ble_eq_true rfl) rfl (?_))))
              obtain ⟨v41, g42, h⟩ := ob_some h
              refine evd rfl rfl (ev_call (era rfl (erP eci64 eci64 _) (era rfl (erP eci64 eci64 _) eran)) (impl_CompareRows_s g42) (evd rfl rfl (ev_as (c := .int .i64 v41) rfl rfl rfl (evdn ?_))))
              exact kimpl_sorted_J3 v41 h _ ⟨kr, kr, kr, kr, kr, kr, trivial⟩
            · refine ls_cF rfl g36 ?_
              refine ls_skip ?_
              exact kimpl_sorted_J3 (-1) h _ ⟨kr, kr, kr, kr, kr, kr, trivial⟩
        · refine ls_cF rfl g16 ?_
          refine ls_exit ?_
          have q0 := (Option.some.inj h).symm
          have r0 := hr1
          rw [q0] at r0
          exact kXimpl_sorted_B1 y3 r0 _ ⟨kr, kr, kr, trivial⟩
      refine evs (ev_mv (c := .dat y1.length (y1.flatMap (pE c30_o U))) rfl rfl rfl (evs (ev_len (c1 := .dat y1.length (y1.flatMap (pE c30_o U))) rfl rfl rfl (evs (ev_bin (c1 := .int .i64 (List.length y1 : Int)) (c2 := .int .i64 0) rfl rfl rfl (evs (ev_mv (c := .bool (decide (0 < (List.length y1 : Int)))) rfl rfl rfl (?_))))))))
      rcases cond_some h with ⟨g43, h⟩ | ⟨g43, h⟩
      · refine evs (ev_gs rfl rfl (isb_T g43) (evs (ev_gs rfl rfl (isb_T g43) (evs (ev_gs rfl rfl (isb_T g43) (evs (ev_pkT (c1 := .bool true) rfl g43 rfl rfl (evn ?_))))))))
        exact kimpl_sorted_J2 true h _ ⟨kr, kr, kr, kr, kr, kr, trivial⟩
      · refine evs (ev_gr rfl (congrArg V.bool g43) (ev_mv (c := .dat y2.length (y2.flatMap (pE c30_o U))) rfl rfl rfl (evs (ev_gr rfl (congrArg V.bool g43) (ev_len (c1 := .dat y2.length (y2.flatMap (pE c30_o U))) rfl rfl rfl (evs (ev_gr rfl (congrArg V.bool g43) (ev_bin (c1 := .int .i64 (List.length y2 : Int)) (c2 := .int .i64 0) rfl rfl rfl (evs (ev_pkF (c1 := .bool (decide (0 < (List.length y2 : Int)))) rfl g43 rfl rfl (evn ?_)))))))))))
        exact kimpl_sorted_J2 (decide (0 < (List.length y2 : Int))) h _ ⟨kr, kr, kr, kr, kr, kr, trivial⟩
def impl_NewRelation_B1 (a0 : Int) (a1 : List (List Int)) (rec : Int → Option (Sum (Unit) ((Int × (List (List Int))) × Bool))) (y1 : Int) : Option (Sum (Unit) ((Int × (List (List Int))) × Bool)) := cond (decide (y1 < (List.length a1 : Int))) (obind (geti a1 y1) fun e5 => cond ((List.length e5 : Int) != a0) (some (.inr ((0, []), false))) (obind (impl_AreValidValues e5) fun v8 => cond (!v8) (some (.inr ((0, []), false))) (rec (IntKind.i64.wrap (y1 + 1))))) (some (.inl ()))
def impl_NewRelation (a0 : Int) (a1 : List (List Int)) : Option ((Int × (List (List Int))) × Bool) := obind (loopF (impl_NewRelation_B1 a0 a1) fz 0) fun o1 => (match o1 with
  | .inl _ => (obind (impl_sorted a1) fun v11 => obind (impl_IsValidRelation (a0, v11)) fun v14 => cond (!v14) (some ((0, []), false)) (some ((a0, v11), true)))
  | .inr r => some r)
theorem impl_NewRelation_s {a0 : Int} {a1 : List (List Int)} {r : (Int × (List (List Int))) × Bool} (h : impl_NewRelation a0 a1 = some r) : SoundAt Try.prog 83 [.int .i64 a0, .dat a1.length (a1.flatMap c30_d)] (.tup [.agg [.int .i64 r.1.1, .own 30 r.1.2.length (r.1.2.flatMap c30_o)], .bool r.2]) := by
  unfold impl_NewRelation at h
  refine sound_lit tbOk lit83 (Nat.le_of_ble_eq_true rfl) rfl ?_
  unfold c83
  refine ls_keep [(0, .int .i64 a0), (1, .dat a1.length (a1.flatMap c30_d))] ⟨kr, kr, trivial⟩ rfl ?_
  refine ls_rs tbOk ?_
  refine evs (ev_al rfl rfl (evs (ev_ac rfl nofun rfl (evn ?_))))
  refine ls_keep [(0, .int .i64 a0), (1, .dat a1.length (a1.flatMap c30_d)), (4, .box [.int .i64 0, .own 30 ([] : List (List Int)).length (([] : List (List Int)).flatMap c30_o)])] ⟨kr, kr, kr, trivial⟩ rfl ?_
  refine ls_seq_k fun K1 hK1 => ?_
  refine ls_rs tbOk ?_
  refine evs (ev_mv (c := .dat a1.length (a1.flatMap c30_d)) rfl rfl rfl (evs (ev_len (c1 := .dat a1.length (a1.flatMap c30_d)) rfl rfl rfl (evs (ev_mc rfl rfl (evn ?_))))))
  refine ls_keep [(0, .int .i64 a0), (1, .dat a1.length (a1.flatMap c30_d)), (4, .box [.int .i64 0, .own 30 ([] : List (List Int)).length (([] : List (List Int)).flatMap c30_o)]), (9, .dat a1.length (a1.flatMap c30_d)), (10, .int .i64 (List.length a1 : Int)), (11, .int .i64 0)] ⟨kr, kr, kr, kr, kr, kr, trivial⟩ rfl ?_
  obtain ⟨o1, hl, hr1⟩ := ob_some h
  clear h
  have kXimpl_NewRelation_B1 : ∀ (_ : Unit), (obind (impl_sorted a1) fun v11 => obind (impl_IsValidRelation (a0, v11)) fun v14 => cond (!v14) (some ((0, []), false)) (some ((a0, v11), true))) = some r → ∀ σ' : PS, okK σ' [(0, .int .i64 a0), (1, .dat a1.length (a1.flatMap c30_d)), (4, .box [.int .i64 0, .own 30 ([] : List (List Int)).length (([] : List (List Int)).flatMap c30_o)])] → K1 σ' := by
    intro _ h σ' hk
    refine hK1 _ (ls_keep [(0, .int .i64 a0), (1, .dat a1.length (a1.flatMap c30_d)), (4, .box [.int .i64 0, .own 30 ([] : List (List Int)).length (([] : List (List Int)).flatMap c30_o)])] hk rfl ?_)
    refine ls_rs tbOk ?_
    refine evs (ev_mv (c := .int .i64 a0) rfl rfl rfl (evs (ev_mv (c := .dat a1.length (a1.flatMap c30_d)) rfl rfl rfl (?_))))
    obtain ⟨v11, g12, h⟩ := ob_some h
    refine evs (ev_call (era rfl (erD ec30_d _) eran) (impl_sorted_s g12) (evs (ev_bd [.int .i64 a0, .own 30 v11.length (v11.flatMap c30_o)] (cs := [.int .i64 a0, .own 30 v11.length (v11.flatMap c30_o)]) rfl ⟨rfl, rfl, trivial⟩ rfl (evs (ev_al rfl rfl (evs (ev_st (off := 0) (c1 := .agg [.int .i64 a0, .own 30 v11.length (v11.flatMap c30_o)]) (cs' := [.int .i64 a0, .own 30 v11.length (v11.flatMap c30_o)]) rfl rfl rfl rfl rfl rfl (Nat.le_of_ble_eq_true rfl) rfl (evn ?_))))))))
    refine ls_keep [(4, .box [.int .i64 0, .own 30 ([] : List (List Int)).length (([] : List (List Int)).flatMap c30_o)]), (8, .box [.int .i64 a0, .own 30 v11.length (v11.flatMap c30_o)])] ⟨kr, kr, trivial⟩ rfl ?_
    refine ls_seq_k fun K13 hK13 => ?_
    refine ls_rs tbOk ?_
    refine evs (ev_ldB (off := 0) (v := .agg [.int .i64 a0, .dat v11.length (v11.flatMap c30_o)]) rfl rfl rfl rfl (Nat.le_of_ble_eq_true rfl) rfl (?_))
    obtain ⟨v14, g15, h⟩ := ob_some h
    refine evs (ev_call (era rfl (erg (erc rfl (erc (erD ec30_o _) rfl))) eran) (impl_IsValidRelation_s g15) (evs (ev_un (c1 := .bool v14) rfl trivial (evn ?_))))
    refine ls_keep [(4, .box [.int .i64 0, .own 30 ([] : List (List Int)).length (([] : List (List Int)).flatMap c30_o)]), (8, .box [.int .i64 a0, .own 30 v11.length (v11.flatMap c30_o)]), (32, .bool (!v14))] ⟨kr, kr, kr, trivial⟩ rfl ?_
    rcases cond_some h with ⟨g16, h⟩ | ⟨g16, h⟩
    · refine ls_cT rfl g16 ?_
      refine ls_rs tbOk ?_
      refine evs (ev_bd [] (cs := [.int .i64 0, .own 30 ([] : List (List Int)).length (([] : List (List Int)).flatMap c30_o)]) rfl trivial rfl (evs (ev_st (off := 0) (c1 := .agg [.int .i64 0, .own 30 ([] : List (List Int)).length (([] : List (List Int)).flatMap c30_o)]) (cs' := [.int .i64 0, .own 30 ([] : List (List Int)).length (([] : List (List Int)).flatMap c30_o)]) rfl rfl rfl rfl rfl rfl (Nat.le_of_ble_eq_true rfl) rfl (evs (ev_ac rfl nofun rfl (evn ?_))))))
      refine ls_keep [(4, .box [.int .i64 0, .own 30 ([] : List (List Int)).length (([] : List (List Int)).flatMap c30_o)]), (5, .bool false)] ⟨kr, kr, trivial⟩ rfl ?_
      refine ls_ret ?_
      have hr := Option.some.inj h
      rw [← hr]
      exact ⟨.inl rfl, rfl⟩
    · refine ls_cF rfl g16 ?_
      refine ls_skip ?_
      refine hK13 _ (ls_keep [(4, .box [.int .i64 0, .own 30 ([] : List (List Int)).length (([] : List (List Int)).flatMap c30_o)]), (8, .box [.int .i64 a0, .own 30 v11.length (v11.flatMap c30_o)])] ⟨kr, kr, trivial⟩ rfl ?_)
      refine ls_rs tbOk ?_
      refine evs (ev_ldBt (off := 0) (v := .agg [.int .i64 a0, .own 30 v11.length (v11.flatMap c30_o)]) (c' := .box [.int .i64 a0, .dat v11.length (v11.flatMap c30_o)]) rfl rfl rfl rfl (Nat.le_of_ble_eq_true rfl) rfl rfl (evs (ev_st (off := 0) (c1 := .agg [.int .i64 a0, .own 30 v11.length (v11.flatMap c30_o)]) (cs' := [.int .i64 a0, .own 30 v11.length (v11.flatMap c30_o)]) rfl rfl rfl rfl rfl rfl (Nat.le_of_ble_eq_true rfl) rfl (evs (ev_ac rfl nofun rfl (evn ?_))))))
      refine ls_keep [(4, .box [.int .i64 a0, .own 30 v11.length (v11.flatMap c30_o)]), (5, .bool true)] ⟨kr, kr, trivial⟩ rfl ?_
      refine ls_ret ?_
      have hr := Option.some.inj h
      rw [← hr]
      exact ⟨.inl rfl, rfl⟩
  refine ls_rec (fun (y1 : Int) => [(0, .int .i64 a0), (1, .dat a1.length (a1.flatMap c30_d)), (4, .box [.int .i64 0, .own 30 ([] : List (List Int)).length (([] : List (List Int)).flatMap c30_o)]), (9, .dat a1.length (a1.flatMap c30_d)), (10, .int .i64 (List.length a1 : Int)), (11, .int .i64 y1)]) (impl_NewRelation_B1 a0 a1) fz 0 o1 hl ⟨kr, kr, kr, kr, kr, kr, trivial⟩ (fun _ => rfl) ?_
  rintro m y1 N h hN
  unfold impl_NewRelation_B1 at h
  refine ls_rs tbOk ?_
  refine evs (ev_bin (c1 := .int .i64 y1) (c2 := .int .i64 (List.length a1 : Int)) rfl rfl rfl (evn ?_))
  refine ls_keep [(0, .int .i64 a0), (1, .dat a1.length (a1.flatMap c30_d)), (4, .box [.int .i64 0, .own 30 ([] : List (List Int)).length (([] : List (List Int)).flatMap c30_o)]), (9, .dat a1.length (a1.flatMap c30_d)), (10, .int .i64 (List.length a1 : Int)), (11, .int .i64 y1), (12, .bool (decide (y1 < (List.length a1 : Int))))] ⟨kr, kr, kr, kr, kr, kr, kr, trivial⟩ rfl ?_
  refine ls_seq_k fun K2 hK2 => ?_
  rcases cond_some h with ⟨g3, h⟩ | ⟨g3, h⟩
  · refine ls_cT rfl g3 ?_
    refine ls_skip ?_
    refine hK2 _ (ls_keep [(0, .int .i64 a0), (1, .dat a1.length (a1.flatMap c30_d)), (4, .box [.int .i64 0, .own 30 ([] : List (List Int)).length (([] : List (List Int)).flatMap c30_o)]), (9, .dat a1.length (a1.flatMap c30_d)), (10, .int .i64 (List.length a1 : Int)), (11, .int .i64 y1)] ⟨kr, kr, kr, kr, kr, kr, trivial⟩ rfl ?_)
    refine ls_seq_k fun K4 hK4 => ?_
    refine ls_blk ?_
    refine ls_rs tbOk ?_
    obtain ⟨e5, g6, h⟩ := ob_some h
    refine evs (ev_ia rfl rfl rfl ⟨(geti_some g6).1, (geti_some g6).2.1⟩ (evs (ev_ldEt (i := y1) (n := 1) (off := 0) (v := .dat e5.length (e5.flatMap ci64)) rfl rfl zc30_d g6 rfl (Nat.le_of_ble_eq_true rfl) rfl (evs (ev_as (c := .dat e5.length (e5.flatMap ci64)) rfl rfl rfl (evn ?_))))))
    refine ls_keep [(0, .int .i64 a0), (1, .dat a1.length (a1.flatMap c30_d)), (4, .box [.int .i64 0, .own 30 ([] : List (List Int)).length (([] : List (List Int)).flatMap c30_o)]), (7, .dat e5.length (e5.flatMap ci64)), (9, .dat a1.length (a1.flatMap c30_d)), (10, .int .i64 (List.length a1 : Int)), (11, .int .i64 y1)] ⟨kr, kr, kr, kr, kr, kr, kr, trivial⟩ rfl ?_
    refine ls_rs tbOk ?_
    refine evs (ev_mv (c := .dat e5.length (e5.flatMap ci64)) rfl rfl rfl (evs (ev_len (c1 := .dat e5.length (e5.flatMap ci64)) rfl rfl rfl (evs (ev_mv (c := .int .i64 a0) rfl rfl rfl (evs (ev_bin (c1 := .int .i64 (List.length e5 : Int)) (c2 := .int .i64 a0) rfl rfl rfl (evs (ev_mv (c := .bool ((List.length e5 : Int) != a0)) rfl rfl rfl (?_))))))))))
    rcases cond_some h with ⟨g7, h⟩ | ⟨g7, h⟩
    · refine evs (ev_gs rfl rfl (isb_T g7) (evs (ev_gs rfl rfl (isb_T g7) (evs (ev_gs rfl rfl (isb_T g7) (evs (ev_pkT (c1 := .bool true) rfl g7 rfl rfl (evn ?_))))))))
      refine ls_keep [(0, .int .i64 a0), (1, .dat a1.length (a1.flatMap c30_d)), (4, .box [.int .i64 0, .own 30 ([] : List (List Int)).length (([] : List (List Int)).flatMap c30_o)]), (9, .dat a1.length (a1.flatMap c30_d)), (10, .int .i64 (List.length a1 : Int)), (11, .int .i64 y1), (23, .bool true)] ⟨kr, kr, kr, kr, kr, kr, kr, trivial⟩ rfl ?_
      refine ls_cT rfl rfl ?_
      refine ls_rs tbOk ?_
      refine evs (ev_bd [] (cs := [.int .i64 0, .own 30 ([] : List (List Int)).length (([] : List (List Int)).flatMap c30_o)]) rfl trivial rfl (evs (ev_st (off := 0) (c1 := .agg [.int .i64 0, .own 30 ([] : List (List Int)).length (([] : List (List Int)).flatMap c30_o)]) (cs' := [.int .i64 0, .own 30 ([] : List (List Int)).length (([] : List (List Int)).flatMap c30_o)]) rfl rfl rfl rfl rfl rfl (Nat.le_of_ble_eq_true rfl) rfl (evs (ev_ac rfl nofun rfl (evn ?_))))))
      refine ls_keep [(4, .box [.int .i64 0, .own 30 ([] : List (List Int)).length (([] : List (List Int)).flatMap c30_o)]), (5, .bool false)] ⟨kr, kr, trivial⟩ rfl ?_
      refine ls_ret ?_
      have q0 := (Option.some.inj h).symm
      have r0 := hr1
      rw [q0] at r0
      have hr := Option.some.inj r0
      rw [← hr]
      exact ⟨.inl rfl, rfl⟩
    · refine evs (ev_gr rfl (congrArg V.bool g7) (ev_mv (c := .dat e5.length (e5.flatMap ci64)) rfl rfl rfl (?_)))
      obtain ⟨v8, g9, h⟩ := ob_some h
      refine evs (ev_gr rfl (congrArg V.bool g7) (ev_call (era rfl (erD eci64 _) eran) (impl_AreValidValues_s g9) (evs (ev_gr rfl (congrArg V.bool g7) (ev_un (c1 := .bool v8) rfl trivial (evs (ev_pkF (c1 := .bool (!v8)) rfl g7 rfl rfl (evn ?_))))))))
      refine ls_keep [(0, .int .i64 a0), (1, .dat a1.length (a1.flatMap c30_d)), (4, .box [.int .i64 0, .own 30 ([] : List (List Int)).length (([] : List (List Int)).flatMap c30_o)]), (9, .dat a1.length (a1.flatMap c30_d)), (10, .int .i64 (List.length a1 : Int)), (11, .int .i64 y1), (23, .bool (!v8))] ⟨kr, kr, kr, kr, kr, kr, kr, trivial⟩ rfl ?_
      rcases cond_some h with ⟨g10, h⟩ | ⟨g10, h⟩
      · refine ls_cT rfl g10 ?_
        refine ls_rs tbOk ?_
        refine evs (ev_bd [] (cs := [.int .i64 0, .own 30 ([] : List (List Int)).length (([] : List (List Int)).flatMap c30_o)]) rfl trivial rfl (evs (ev_st (off := 0) (c1 := .agg [.int .i64 0, .own 30 ([] : List (List Int)).length (([] : List (List Int)).flatMap c30_o)]) (cs' := [.int .i64 0, .own 30 ([] : List (List Int)).length (([] : List (List Int)).flatMap c30_o)]) rfl rfl rfl rfl rfl rfl (Nat.le_of_ble_eq_true rfl) rfl (evs (ev_ac rfl nofun rfl (evn ?_))))))
        refine ls_keep [(4, .box [.int .i64 0, .own 30 ([] : List (List Int)).length (([] : List (List Int)).flatMap c30_o)]), (5, .bool false)] ⟨kr, kr, trivial⟩ rfl ?_
        refine ls_ret ?_
        have q0 := (Option.some.inj h).symm
        have r0 := hr1
        rw [q0] at r0
        have hr := Option.some.inj r0
        rw [← hr]
        exact ⟨.inl rfl, rfl⟩
      · refine ls_cF rfl g10 ?_
        refine ls_skip ?_
        refine hK4 _ (ls_keep [(0, .int .i64 a0), (1, .dat a1.length (a1.flatMap c30_d)), (4, .box [.int .i64 0, .own 30 ([] : List (List Int)).length (([] : List (List Int)).flatMap c30_o)]), (9, .dat a1.length (a1.flatMap c30_d)), (10, .int .i64 (List.length a1 : Int)), (11, .int .i64 y1)] ⟨kr, kr, kr, kr, kr, kr, trivial⟩ rfl ?_)
        refine ls_rgn tbOk ?_
        refine evs (ev_bin (c1 := .int .i64 y1) (c2 := .int .i64 1) rfl rfl rfl (evs (ev_mv (c := .int .i64 (IntKind.i64.wrap (y1 + 1))) rfl rfl rfl (evn ?_))))
        exact hN _ (IntKind.i64.wrap (y1 + 1)) h ⟨kr, kr, kr, kr, kr, kr, trivial⟩
  · refine ls_cF rfl g3 ?_
    refine ls_exit ?_
    have q0 := (Option.some.inj h).symm
    have r0 := hr1
    rw [q0] at r0
    exact kXimpl_NewRelation_B1 () r0 _ ⟨kr, kr, kr, trivial⟩
def impl_SkewedRelation_B1 (a0 : Int) (rec : ((List (List Int)) × Int) → Option ((List (List Int)))) (s : (List (List Int)) × Int) : Option ((List (List Int))) := match s with
  | (y1, y2) => cond (decide (y2 ≤ a0)) (chk (List.length y1 + List.length ([[0, y2], [y2, 0]]) ≤ lim) (rec ((y1 ++ ([[0, y2], [y2, 0]])), (IntKind.i64.wrap (y2 + 1))))) (some y1)
def impl_SkewedRelation (a0 : Int) : Option ((Int × (List (List Int))) × Bool) := obind (impl_within a0 0 99) fun v2 => cond (!v2) (some ((0, []), false)) (obind (loopF (impl_SkewedRelation_B1 a0) fz (([] : List (List Int)), 0)) fun z6 => obind (impl_NewRelation 2 z6) fun v11 => some (v11.1, v11.2))
theorem impl_SkewedRelation_s {a0 : Int} {r : (Int × (List (List Int))) × Bool} (h : impl_SkewedRelation a0 = some r) : SoundAt Try.prog 16 [.int .i64 a0] (.tup [.agg [.int .i64 r.1.1, .own 30 r.1.2.length (r.1.2.flatMap c30_o)], .bool r.2]) := by
  unfold impl_SkewedRelation at h
  refine sound_lit tbOk lit16 (Nat.le_of_ble_eq_true rfl) rfl ?_
  unfold c16
  refine ls_keep [(0, .int .i64 a0)] ⟨kr, trivial⟩ rfl ?_
  refine ls_rs tbOk ?_
  refine evs (ev_al rfl rfl (evs (ev_ac rfl nofun rfl (evn ?_))))
  refine ls_keep [(0, .int .i64 a0), (2, .box [.int .i64 0, .own 30 ([] : List (List Int)).length (([] : List (List Int)).flatMap c30_o)])] ⟨kr, kr, trivial⟩ rfl ?_
  refine ls_seq_k fun K1 hK1 => ?_
  refine ls_rs tbOk ?_
  refine evs (ev_mv (c := .int .i64 a0) rfl rfl rfl (?_))
  obtain ⟨v2, g3, h⟩ := ob_some h
  refine evs (ev_call (era rfl rfl (era rfl rfl (era rfl rfl eran))) (impl_within_s g3) (evs (ev_un (c1 := .bool v2) rfl trivial (evn ?_))))
  refine ls_keep [(0, .int .i64 a0), (2, .box [.int .i64 0, .own 30 ([] : List (List Int)).length (([] : List (List Int)).flatMap c30_o)]), (8, .bool (!v2))] ⟨kr, kr, kr, trivial⟩ rfl ?_
  rcases cond_some h with ⟨g4, h⟩ | ⟨g4, h⟩
  · refine ls_cT rfl g4 ?_
    refine ls_rs tbOk ?_
    refine evs (ev_bd [] (cs := [.int .i64 0, .own 30 ([] : List (List Int)).length (([] : List (List Int)).flatMap c30_o)]) rfl trivial rfl (evs (ev_st (off := 0) (c1 := .agg [.int .i64 0, .own 30 ([] : List (List Int)).length (([] : List (List Int)).flatMap c30_o)]) (cs' := [.int .i64 0, .own 30 ([] : List (List Int)).length (([] : List (List Int)).flatMap c30_o)]) rfl rfl rfl rfl rfl rfl (Nat.le_of_ble_eq_true rfl) rfl (evs (ev_ac rfl nofun rfl (evn ?_))))))
    refine ls_keep [(2, .box [.int .i64 0, .own 30 ([] : List (List Int)).length (([] : List (List Int)).flatMap c30_o)]), (3, .bool false)] ⟨kr, kr, trivial⟩ rfl ?_
    refine ls_ret ?_
    have hr := Option.some.inj h
    rw [← hr]
    exact ⟨.inl rfl, rfl⟩
  · refine ls_cF rfl g4 ?_
    refine ls_skip ?_
    refine hK1 _ (ls_keep [(0, .int .i64 a0), (2, .box [.int .i64 0, .own 30 ([] : List (List Int)).length (([] : List (List Int)).flatMap c30_o)])] ⟨kr, kr, trivial⟩ rfl ?_)
    refine ls_rs tbOk ?_
    refine evs (ev_an rfl rfl (evn ?_))
    refine ls_keep [(0, .int .i64 a0), (2, .box [.int .i64 0, .own 30 ([] : List (List Int)).length (([] : List (List Int)).flatMap c30_o)]), (4, .own 30 ([] : List (List Int)).length (([] : List (List Int)).flatMap c30_o))] ⟨kr, kr, kr, trivial⟩ rfl ?_
    refine ls_seq_k fun K5 hK5 => ?_
    refine ls_rs tbOk ?_
    refine evs (ev_ac rfl nofun rfl (evn ?_))
    refine ls_keep [(0, .int .i64 a0), (2, .box [.int .i64 0, .own 30 ([] : List (List Int)).length (([] : List (List Int)).flatMap c30_o)]), (4, .own 30 ([] : List (List Int)).length (([] : List (List Int)).flatMap c30_o)), (5, .int .i64 0)] ⟨kr, kr, kr, kr, trivial⟩ rfl ?_
    obtain ⟨o1, hl, hr1⟩ := ob_some h
    clear h
    have kXimpl_SkewedRelation_B1 : ∀ (z6 : List (List Int)), (obind (impl_NewRelation 2 z6) fun v11 => some (v11.1, v11.2)) = some r → ∀ σ' : PS, okK σ' [(2, .box [.int .i64 0, .own 30 ([] : List (List Int)).length (([] : List (List Int)).flatMap c30_o)]), (4, .own 30 z6.length (z6.flatMap c30_o))] → K5 σ' := by
      intro z6 h σ' hk
      refine hK5 _ (ls_keep [(2, .box [.int .i64 0, .own 30 ([] : List (List Int)).length (([] : List (List Int)).flatMap c30_o)]), (4, .own 30 z6.length (z6.flatMap c30_o))] hk rfl ?_)
      refine ls_rs tbOk ?_
      refine evs (ev_mv (c := .own 30 z6.length (z6.flatMap c30_o)) rfl rfl rfl (?_))
      obtain ⟨v11, g12, h⟩ := ob_some h
      refine evs (ev_call (era rfl rfl (era rfl (erD ec30_o _) eran)) (impl_NewRelation_s g12) (evs (ev_ext rfl rfl rfl rfl (evs (ev_ext rfl rfl rfl rfl (evs (ev_st (off := 0) (c1 := .agg [.int .i64 v11.1.1, .own 30 v11.1.2.length (v11.1.2.flatMap c30_o)]) (cs' := [.int .i64 v11.1.1, .own 30 v11.1.2.length (v11.1.2.flatMap c30_o)]) rfl rfl rfl rfl rfl rfl (Nat.le_of_ble_eq_true rfl) rfl (evs (ev_as (c := .bool v11.2) rfl rfl rfl (evn ?_))))))))))
      refine ls_keep [(2, .box [.int .i64 v11.1.1, .own 30 v11.1.2.length (v11.1.2.flatMap c30_o)]), (3, .bool v11.2)] ⟨kr, kr, trivial⟩ rfl ?_
      refine ls_ret ?_
      have hr := Option.some.inj h
      rw [← hr]
      exact ⟨.inl rfl, rfl⟩
    refine ls_rec (fun (s : (List (List Int)) × Int) => match s with | (y1, y2) => [(0, .int .i64 a0), (2, .box [.int .i64 0, .own 30 ([] : List (List Int)).length (([] : List (List Int)).flatMap c30_o)]), (4, .own 30 y1.length (y1.flatMap c30_o)), (5, .int .i64 y2)]) (impl_SkewedRelation_B1 a0) fz (([] : List (List Int)), 0) o1 hl ⟨kr, kr, kr, kr, trivial⟩ (fun _ => rfl) ?_
    rintro m ⟨y1, y2⟩ N h hN
    unfold impl_SkewedRelation_B1 at h
    dsimp only at h
    refine ls_seq_k fun K7 hK7 => ?_
    refine ls_rs tbOk ?_
    refine evs (ev_mv (c := .int .i64 y2) rfl rfl rfl (evs (ev_mv (c := .int .i64 a0) rfl rfl rfl (evs (ev_bin (c1 := .int .i64 y2) (c2 := .int .i64 a0) rfl rfl rfl (evn ?_))))))
    refine ls_keep [(0, .int .i64 a0), (2, .box [.int .i64 0, .own 30 ([] : List (List Int)).length (([] : List (List Int)).flatMap c30_o)]), (4, .own 30 y1.length (y1.flatMap c30_o)), (5, .int .i64 y2), (12, .bool (decide (y2 ≤ a0)))] ⟨kr, kr, kr, kr, kr, trivial⟩ rfl ?_
    rcases cond_some h with ⟨g8, h⟩ | ⟨g8, h⟩
    · refine ls_cT rfl g8 ?_
      refine ls_skip ?_
      refine hK7 _ (ls_keep [(0, .int .i64 a0), (2, .box [.int .i64 0, .own 30 ([] : List (List Int)).length (([] : List (List Int)).flatMap c30_o)]), (4, .own 30 y1.length (y1.flatMap c30_o)), (5, .int .i64 y2)] ⟨kr, kr, kr, kr, trivial⟩ rfl ?_)
      refine ls_seq_k fun K9 hK9 => ?_
      refine ls_blk ?_
      refine ls_rgn tbOk ?_
      refine evs (ev_mvt (c := .own 30 y1.length (y1.flatMap c30_o)) rfl rfl rfl (evs (ev_mv (c := .int .i64 y2) rfl rfl rfl (evs (ev_bs [.int .i64 0, .int .i64 y2] (cs := [.int .i64 0, .int .i64 y2]) rfl ⟨rfl, rfl, trivial⟩ rfl (Nat.le_of_ble_eq_true rfl) rfl (evs (ev_mv (c := .int .i64 y2) rfl rfl rfl (evs (ev_bs [.int .i64 y2, .int .i64 0] (cs := [.int .i64 y2, .int .i64 0]) rfl ⟨rfl, rfl, trivial⟩ rfl (Nat.le_of_ble_eq_true rfl) rfl (evs (ev_bs [.own 3 [0, y2].length ([0, y2].flatMap ci64), .own 3 [y2, 0].length ([y2, 0].flatMap ci64)] (cs := [.own 3 [0, y2].length ([0, y2].flatMap ci64), .own 3 [y2, 0].length ([y2, 0].flatMap ci64)]) rfl ⟨rfl, rfl, trivial⟩ rfl (Nat.le_of_ble_eq_true rfl) rfl (?_))))))))))))
      obtain ⟨g10, h⟩ := chk_some h
      refine evs (ev_app (f := c30_o) (l := y1) (m := ([[0, y2], [y2, 0]])) (c2 := .own 30 ([[0, y2], [y2, 0]]).length (([[0, y2], [y2, 0]]).flatMap c30_o)) rfl rfl rfl (flat_len zc30_o ([[0, y2], [y2, 0]])) rfl rfl g10 rfl (evs (ev_as (c := .own 30 (y1 ++ ([[0, y2], [y2, 0]])).length ((y1 ++ ([[0, y2], [y2, 0]])).flatMap c30_o)) rfl rfl rfl (evn ?_))))
      refine hK9 _ (ls_keep [(0, .int .i64 a0), (2, .box [.int .i64 0, .own 30 ([] : List (List Int)).length (([] : List (List Int)).flatMap c30_o)]), (4, .own 30 (y1 ++ ([[0, y2], [y2, 0]])).length ((y1 ++ ([[0, y2], [y2, 0]])).flatMap c30_o)), (5, .int .i64 y2)] ⟨kr, kr, kr, kr, trivial⟩ rfl ?_)
      refine ls_rgn tbOk ?_
      refine evs (ev_mv (c := .int .i64 y2) rfl rfl rfl (evs (ev_bin (c1 := .int .i64 y2) (c2 := .int .i64 1) rfl rfl rfl (evs (ev_as (c := .int .i64 (IntKind.i64.wrap (y2 + 1))) rfl rfl rfl (evn ?_))))))
      exact hN _ ((y1 ++ ([[0, y2], [y2, 0]])), (IntKind.i64.wrap (y2 + 1))) h ⟨kr, kr, kr, kr, trivial⟩
    · refine ls_cF rfl g8 ?_
      refine ls_exit ?_
      have q0 := (Option.some.inj h).symm
      have r0 := hr1
      rw [q0] at r0
      exact kXimpl_SkewedRelation_B1 y1 r0 _ ⟨kr, kr, trivial⟩
def laws_eqIntS_B1 (a0 : List Int) (a1 : List Int) (rec : Int → Option (Sum (Unit) (Bool))) (y1 : Int) : Option (Sum (Unit) (Bool)) := cond (decide (y1 < (List.length a0 : Int))) (obind (geti a0 y1) fun e7 => obind (geti a1 y1) fun e9 => cond (e7 != e9) (some (.inr false)) (rec (IntKind.i64.wrap (y1 + 1)))) (some (.inl ()))
def laws_eqIntS (a0 : List Int) (a1 : List Int) : Option (Bool) := cond ((List.length a0 : Int) != (List.length a1 : Int)) (some false) (obind (loopF (laws_eqIntS_B1 a0 a1) fz 0) fun o1 => (match o1 with
  | .inl _ => (some true)
  | .inr r => some r))
theorem laws_eqIntS_s {a0 : List Int} {a1 : List Int} {r : Bool} (h : laws_eqIntS a0 a1 = some r) : SoundAt Try.prog 35 [.dat a0.length (a0.flatMap ci64), .dat a1.length (a1.flatMap ci64)] (.bool r) := by
  unfold laws_eqIntS at h
  refine sound_lit tbOk lit35 (Nat.le_of_ble_eq_true rfl) rfl ?_
  unfold c35
  refine ls_keep [(0, .dat a0.length (a0.flatMap ci64)), (1, .dat a1.length (a1.flatMap ci64))] ⟨kr, kr, trivial⟩ rfl ?_
  refine ls_rs tbOk ?_
  refine evs (ev_ac rfl nofun rfl (evn ?_))
  refine ls_keep [(0, .dat a0.length (a0.flatMap ci64)), (1, .dat a1.length (a1.flatMap ci64))] ⟨kr, kr, trivial⟩ rfl ?_
  refine ls_seq_k fun K1 hK1 => ?_
  refine ls_rs tbOk ?_
  refine evs (ev_mv (c := .dat a0.length (a0.flatMap ci64)) rfl rfl rfl (evs (ev_len (c1 := .dat a0.length (a0.flatMap ci64)) rfl rfl rfl (evs (ev_mv (c := .dat a1.length (a1.flatMap ci64)) rfl rfl rfl (evs (ev_len (c1 := .dat a1.length (a1.flatMap ci64)) rfl rfl rfl (evs (ev_bin (c1 := .int .i64 (List.length a0 : Int)) (c2 := .int .i64 (List.length a1 : Int)) rfl rfl rfl (evn ?_))))))))))
  refine ls_keep [(0, .dat a0.length (a0.flatMap ci64)), (1, .dat a1.length (a1.flatMap ci64)), (10, .bool ((List.length a0 : Int) != (List.length a1 : Int)))] ⟨kr, kr, kr, trivial⟩ rfl ?_
  rcases cond_some h with ⟨g2, h⟩ | ⟨g2, h⟩
  · refine ls_cT rfl g2 ?_
    refine ls_rs tbOk ?_
    refine evs (ev_ac rfl nofun rfl (evn ?_))
    refine ls_keep [(4, .bool false)] ⟨kr, trivial⟩ rfl ?_
    refine ls_ret ?_
    have hr := Option.some.inj h
    rw [← hr]
    exact ⟨.inl rfl, rfl⟩
  · refine ls_cF rfl g2 ?_
    refine ls_skip ?_
    refine hK1 _ (ls_keep [(0, .dat a0.length (a0.flatMap ci64)), (1, .dat a1.length (a1.flatMap ci64))] ⟨kr, kr, trivial⟩ rfl ?_)
    refine ls_seq_k fun K3 hK3 => ?_
    refine ls_rs tbOk ?_
    refine evs (ev_ac rfl nofun rfl (evn ?_))
    refine ls_keep [(0, .dat a0.length (a0.flatMap ci64)), (1, .dat a1.length (a1.flatMap ci64)), (5, .int .i64 0)] ⟨kr, kr, kr, trivial⟩ rfl ?_
    obtain ⟨o1, hl, hr1⟩ := ob_some h
    clear h
    have kXlaws_eqIntS_B1 : ∀ (_ : Unit), (some true) = some r → ∀ σ' : PS, okK σ' [] → K3 σ' := by
      intro _ h σ' hk
      refine hK3 _ (ls_keep [] hk rfl ?_)
      refine ls_rs tbOk ?_
      refine evs (ev_ac rfl nofun rfl (evn ?_))
      refine ls_keep [(4, .bool true)] ⟨kr, trivial⟩ rfl ?_
      refine ls_ret ?_
      have hr := Option.some.inj h
      rw [← hr]
      exact ⟨.inl rfl, rfl⟩
    refine ls_rec (fun (y1 : Int) => [(0, .dat a0.length (a0.flatMap ci64)), (1, .dat a1.length (a1.flatMap ci64)), (5, .int .i64 y1)]) (laws_eqIntS_B1 a0 a1) fz 0 o1 hl ⟨kr, kr, kr, trivial⟩ (fun _ => rfl) ?_
    rintro m y1 N h hN
    unfold laws_eqIntS_B1 at h
    refine ls_seq_k fun K4 hK4 => ?_
    refine ls_rs tbOk ?_
    refine evs (ev_mv (c := .int .i64 y1) rfl rfl rfl (evs (ev_mv (c := .dat a0.length (a0.flatMap ci64)) rfl rfl rfl (evs (ev_len (c1 := .dat a0.length (a0.flatMap ci64)) rfl rfl rfl (evs (ev_bin (c1 := .int .i64 y1) (c2 := .int .i64 (List.length a0 : Int)) rfl rfl rfl (evn ?_))))))))
    refine ls_keep [(0, .dat a0.length (a0.flatMap ci64)), (1, .dat a1.length (a1.flatMap ci64)), (5, .int .i64 y1), (14, .bool (decide (y1 < (List.length a0 : Int))))] ⟨kr, kr, kr, kr, trivial⟩ rfl ?_
    rcases cond_some h with ⟨g5, h⟩ | ⟨g5, h⟩
    · refine ls_cT rfl g5 ?_
      refine ls_skip ?_
      refine hK4 _ (ls_keep [(0, .dat a0.length (a0.flatMap ci64)), (1, .dat a1.length (a1.flatMap ci64)), (5, .int .i64 y1)] ⟨kr, kr, kr, trivial⟩ rfl ?_)
      refine ls_seq_k fun K6 hK6 => ?_
      refine ls_blk ?_
      refine ls_rd tbOk mixed (by kernel_rfl) ?_
      refine evd rfl rfl (ev_mv (c := .dat a0.length (a0.flatMap ci64)) rfl rfl rfl (evd rfl rfl (ev_mv (c := .int .i64 y1) rfl rfl rfl (?_))))
      obtain ⟨e7, g8, h⟩ := ob_some h
      refine evd rfl rfl (ev_ia rfl rfl rfl ⟨(geti_some g8).1, (geti_some g8).2.1⟩ (evd rfl rfl (ev_ldE (i := y1) (n := 1) (off := 0) (v := .int .i64 e7) rfl rfl zci64 g8 rfl (Nat.le_of_ble_eq_true rfl) rfl (evd rfl rfl (ev_mv (c := .dat a1.length (a1.flatMap ci64)) rfl rfl rfl (evd rfl rfl (ev_mv (c := .int .i64 y1) rfl rfl rfl (?_))))))))
      obtain ⟨e9, g10, h⟩ := ob_some h
      refine evd rfl rfl (ev_ia rfl rfl rfl ⟨(geti_some g10).1, (geti_some g10).2.1⟩ (evd rfl rfl (ev_ldE (i := y1) (n := 1) (off := 0) (v := .int .i64 e9) rfl rfl zci64 g10 rfl (Nat.le_of_ble_eq_true rfl) rfl (evd rfl rfl (ev_bin (c1 := .int .i64 e7) (c2 := .int .i64 e9) rfl rfl rfl (evdn ?_))))))
      refine ls_keep [(0, .dat a0.length (a0.flatMap ci64)), (1, .dat a1.length (a1.flatMap ci64)), (5, .int .i64 y1), (25, .bool (e7 != e9))] ⟨kr, kr, kr, kr, trivial⟩ rfl ?_
      rcases cond_some h with ⟨g11, h⟩ | ⟨g11, h⟩
      · refine ls_cT rfl g11 ?_
        refine ls_rs tbOk ?_
        refine evs (ev_ac rfl nofun rfl (evn ?_))
        refine ls_keep [(4, .bool false)] ⟨kr, trivial⟩ rfl ?_
        refine ls_ret ?_
        have q0 := (Option.some.inj h).symm
        have r0 := hr1
        rw [q0] at r0
        have hr := Option.some.inj r0
        rw [← hr]
        exact ⟨.inl rfl, rfl⟩
      · refine ls_cF rfl g11 ?_
        refine ls_skip ?_
        refine hK6 _ (ls_keep [(0, .dat a0.length (a0.flatMap ci64)), (1, .dat a1.length (a1.flatMap ci64)), (5, .int .i64 y1)] ⟨kr, kr, kr, trivial⟩ rfl ?_)
        refine ls_rgn tbOk ?_
        refine evs (ev_mv (c := .int .i64 y1) rfl rfl rfl (evs (ev_bin (c1 := .int .i64 y1) (c2 := .int .i64 1) rfl rfl rfl (evs (ev_as (c := .int .i64 (IntKind.i64.wrap (y1 + 1))) rfl rfl rfl (evn ?_))))))
        exact hN _ (IntKind.i64.wrap (y1 + 1)) h ⟨kr, kr, kr, trivial⟩
    · refine ls_cF rfl g5 ?_
      refine ls_exit ?_
      have q0 := (Option.some.inj h).symm
      have r0 := hr1
      rw [q0] at r0
      exact kXlaws_eqIntS_B1 () r0 _ trivial
def laws_eqIntSS_B1 (a0 : List (List Int)) (a1 : List (List Int)) (rec : Int → Option (Sum (Unit) (Bool))) (y1 : Int) : Option (Sum (Unit) (Bool)) := cond (decide (y1 < (List.length a0 : Int))) (obind (geti a0 y1) fun e7 => obind (geti a1 y1) fun e9 => obind (laws_eqIntS e7 e9) fun v11 => cond (!v11) (some (.inr false)) (rec (IntKind.i64.wrap (y1 + 1)))) (some (.inl ()))
def laws_eqIntSS (a0 : List (List Int)) (a1 : List (List Int)) : Option (Bool) := cond ((List.length a0 : Int) != (List.length a1 : Int)) (some false) (obind (loopF (laws_eqIntSS_B1 a0 a1) fz 0) fun o1 => (match o1 with
  | .inl _ => (some true)
  | .inr r => some r))
theorem laws_eqIntSS_s {a0 : List (List Int)} {a1 : List (List Int)} {r : Bool} (h : laws_eqIntSS a0 a1 = some r) : SoundAt Try.prog 84 [.dat a0.length (a0.flatMap c30_d), .dat a1.length (a1.flatMap c30_d)] (.bool r) := by
  unfold laws_eqIntSS at h
  refine sound_lit tbOk lit84 (Nat.le_of_ble_eq_true rfl) rfl ?_
  unfold c84
  refine ls_keep [(0, .dat a0.length (a0.flatMap c30_d)), (1, .dat a1.length (a1.flatMap c30_d))] ⟨kr, kr, trivial⟩ rfl ?_
  refine ls_rs tbOk ?_
  refine evs (ev_ac rfl nofun rfl (evn ?_))
  refine ls_keep [(0, .dat a0.length (a0.flatMap c30_d)), (1, .dat a1.length (a1.flatMap c30_d))] ⟨kr, kr, trivial⟩ rfl ?_
  refine ls_seq_k fun K1 hK1 => ?_
  refine ls_rs tbOk ?_
  refine evs (ev_mv (c := .dat a0.length (a0.flatMap c30_d)) rfl rfl rfl (evs (ev_len (c1 := .dat a0.length (a0.flatMap c30_d)) rfl rfl rfl (evs (ev_mv (c := .dat a1.length (a1.flatMap c30_d)) rfl rfl rfl (evs (ev_len (c1 := .dat a1.length (a1.flatMap c30_d)) rfl rfl rfl (evs (ev_bin (c1 := .int .i64 (List.length a0 : Int)) (c2 := .int .i64 (List.length a1 : Int)) rfl rfl rfl (evn ?_))))))))))
  refine ls_keep [(0, .dat a0.length (a0.flatMap c30_d)), (1, .dat a1.length (a1.flatMap c30_d)), (10, .bool ((List.length a0 : Int) != (List.length a1 : Int)))] ⟨kr, kr, kr, trivial⟩ rfl ?_
  rcases cond_some h with ⟨g2, h⟩ | ⟨g2, h⟩
  · refine ls_cT rfl g2 ?_
    refine ls_rs tbOk ?_
    refine evs (ev_ac rfl nofun rfl (evn ?_))
    refine ls_keep [(4, .bool false)] ⟨kr, trivial⟩ rfl ?_
    refine ls_ret ?_
    have hr := Option.some.inj h
    rw [← hr]
    exact ⟨.inl rfl, rfl⟩
  · refine ls_cF rfl g2 ?_
    refine ls_skip ?_
    refine hK1 _ (ls_keep [(0, .dat a0.length (a0.flatMap c30_d)), (1, .dat a1.length (a1.flatMap c30_d))] ⟨kr, kr, trivial⟩ rfl ?_)
    refine ls_seq_k fun K3 hK3 => ?_
    refine ls_rs tbOk ?_
    refine evs (ev_ac rfl nofun rfl (evn ?_))
    refine ls_keep [(0, .dat a0.length (a0.flatMap c30_d)), (1, .dat a1.length (a1.flatMap c30_d)), (5, .int .i64 0)] ⟨kr, kr, kr, trivial⟩ rfl ?_
    obtain ⟨o1, hl, hr1⟩ := ob_some h
    clear h
    have kXlaws_eqIntSS_B1 : ∀ (_ : Unit), (some true) = some r → ∀ σ' : PS, okK σ' [] → K3 σ' := by
      intro _ h σ' hk
      refine hK3 _ (ls_keep [] hk rfl ?_)
      refine ls_rs tbOk ?_
      refine evs (ev_ac rfl nofun rfl (evn ?_))
      refine ls_keep [(4, .bool true)] ⟨kr, trivial⟩ rfl ?_
      refine ls_ret ?_
      have hr := Option.some.inj h
      rw [← hr]
      exact ⟨.inl rfl, rfl⟩
    refine ls_rec (fun (y1 : Int) => [(0, .dat a0.length (a0.flatMap c30_d)), (1, .dat a1.length (a1.flatMap c30_d)), (5, .int .i64 y1)]) (laws_eqIntSS_B1 a0 a1) fz 0 o1 hl ⟨kr, kr, kr, trivial⟩ (fun _ => rfl) ?_
    rintro m y1 N h hN
    unfold laws_eqIntSS_B1 at h
    refine ls_seq_k fun K4 hK4 => ?_
    refine ls_rs tbOk ?_
    refine evs (ev_mv (c := .int .i64 y1) rfl rfl rfl (evs (ev_mv (c := .dat a0.length (a0.flatMap c30_d)) rfl rfl rfl (evs (ev_len (c1 := .dat a0.length (a0.flatMap c30_d)) rfl rfl rfl (evs (ev_bin (c1 := .int .i64 y1) (c2 := .int .i64 (List.length a0 : Int)) rfl rfl rfl (evn ?_))))))))
    refine ls_keep [(0, .dat a0.length (a0.flatMap c30_d)), (1, .dat a1.length (a1.flatMap c30_d)), (5, .int .i64 y1), (14, .bool (decide (y1 < (List.length a0 : Int))))] ⟨kr, kr, kr, kr, trivial⟩ rfl ?_
    rcases cond_some h with ⟨g5, h⟩ | ⟨g5, h⟩
    · refine ls_cT rfl g5 ?_
      refine ls_skip ?_
      refine hK4 _ (ls_keep [(0, .dat a0.length (a0.flatMap c30_d)), (1, .dat a1.length (a1.flatMap c30_d)), (5, .int .i64 y1)] ⟨kr, kr, kr, trivial⟩ rfl ?_)
      refine ls_seq_k fun K6 hK6 => ?_
      refine ls_blk ?_
      refine ls_rd tbOk mixed (by kernel_rfl) ?_
      refine evd rfl rfl (ev_mv (c := .dat a0.length (a0.flatMap c30_d)) rfl rfl rfl (evd rfl rfl (ev_mv (c := .int .i64 y1) rfl rfl rfl (?_))))
      obtain ⟨e7, g8, h⟩ := ob_some h
      refine evd rfl rfl (ev_ia rfl rfl rfl ⟨(geti_some g8).1, (geti_some g8).2.1⟩ (evd rfl rfl (ev_ldE (i := y1) (n := 1) (off := 0) (v := .dat e7.length (e7.flatMap ci64)) rfl rfl zc30_d g8 rfl (Nat.le_of_ble_eq_true rfl) rfl (evd rfl rfl (ev_mv (c := .dat a1.length (a1.flatMap c30_d)) rfl rfl rfl (evd rfl rfl (ev_mv (c := .int .i64 y1) rfl rfl rfl (?_))))))))
      obtain ⟨e9, g10, h⟩ := ob_some h
      refine evd rfl rfl (ev_ia rfl rfl rfl ⟨(geti_some g10).1, (geti_some g10).2.1⟩ (evd rfl rfl (ev_ldE (i := y1) (n := 1) (off := 0) (v := .dat e9.length (e9.flatMap ci64)) rfl rfl zc30_d g10 rfl (Nat.le_of_ble_eq_true rfl) rfl (?_))))
      obtain ⟨v11, g12, h⟩ := ob_some h
      refine evd rfl rfl (ev_call (era rfl (erD eci64 _) (era rfl (erD eci64 _) eran)) (laws_eqIntS_s g12) (evd rfl rfl (ev_un (c1 := .bool v11) rfl trivial (evdn ?_))))
      refine ls_keep [(0, .dat a0.length (a0.flatMap c30_d)), (1, .dat a1.length (a1.flatMap c30_d)), (5, .int .i64 y1), (26, .bool (!v11))] ⟨kr, kr, kr, kr, trivial⟩ rfl ?_
      rcases cond_some h with ⟨g13, h⟩ | ⟨g13, h⟩
      · refine ls_cT rfl g13 ?_
        refine ls_rs tbOk ?_
        refine evs (ev_ac rfl nofun rfl (evn ?_))
        refine ls_keep [(4, .bool false)] ⟨kr, trivial⟩ rfl ?_
        refine ls_ret ?_
        have q0 := (Option.some.inj h).symm
        have r0 := hr1
        rw [q0] at r0
        have hr := Option.some.inj r0
        rw [← hr]
        exact ⟨.inl rfl, rfl⟩
      · refine ls_cF rfl g13 ?_
        refine ls_skip ?_
        refine hK6 _ (ls_keep [(0, .dat a0.length (a0.flatMap c30_d)), (1, .dat a1.length (a1.flatMap c30_d)), (5, .int .i64 y1)] ⟨kr, kr, kr, trivial⟩ rfl ?_)
        refine ls_rgn tbOk ?_
        refine evs (ev_mv (c := .int .i64 y1) rfl rfl rfl (evs (ev_bin (c1 := .int .i64 y1) (c2 := .int .i64 1) rfl rfl rfl (evs (ev_as (c := .int .i64 (IntKind.i64.wrap (y1 + 1))) rfl rfl rfl (evn ?_))))))
        exact hN _ (IntKind.i64.wrap (y1 + 1)) h ⟨kr, kr, kr, trivial⟩
    · refine ls_cF rfl g5 ?_
      refine ls_exit ?_
      have q0 := (Option.some.inj h).symm
      have r0 := hr1
      rw [q0] at r0
      exact kXlaws_eqIntSS_B1 () r0 _ trivial
def laws_eqRelation (a0 : Int × (List (List Int))) (a1 : Int × (List (List Int))) : Option (Bool) := cond (a0.1 != a1.1) (some false) (obind (laws_eqIntSS a0.2 a1.2) fun v4 => cond (!v4) (some false) (some true))
theorem laws_eqRelation_s {a0 : Int × (List (List Int))} {a1 : Int × (List (List Int))} {r : Bool} (h : laws_eqRelation a0 a1 = some r) : SoundAt Try.prog 17 [.agg [.int .i64 a0.1, .dat a0.2.length (a0.2.flatMap c30_d)], .agg [.int .i64 a1.1, .dat a1.2.length (a1.2.flatMap c30_d)]] (.bool r) := by
  unfold laws_eqRelation at h
  refine sound_lit tbOk lit17 (Nat.le_of_ble_eq_true rfl) rfl ?_
  unfold c17
  refine ls_keep [(0, .agg [.int .i64 a0.1, .dat a0.2.length (a0.2.flatMap c30_d)]), (1, .agg [.int .i64 a1.1, .dat a1.2.length (a1.2.flatMap c30_d)])] ⟨kr, kr, trivial⟩ rfl ?_
  refine ls_rs tbOk ?_
  refine evs (ev_bx (c1 := .agg [.int .i64 a0.1, .dat a0.2.length (a0.2.flatMap c30_d)]) rfl rfl rfl (evs (ev_bx (c1 := .agg [.int .i64 a1.1, .dat a1.2.length (a1.2.flatMap c30_d)]) rfl rfl rfl (evs (ev_ac rfl nofun rfl (evn ?_))))))
  refine ls_keep [(2, .box [.int .i64 a0.1, .dat a0.2.length (a0.2.flatMap c30_d)]), (3, .box [.int .i64 a1.1, .dat a1.2.length (a1.2.flatMap c30_d)])] ⟨kr, kr, trivial⟩ rfl ?_
  refine ls_seq_k fun K1 hK1 => ?_
  refine ls_rs tbOk ?_
  refine evs (ev_fa (c1 := .cref 2 0) (v := .cref 2 0) rfl rfl rfl ⟨_, rfl⟩ rfl (evs (ev_ldB (off := 0) (v := .int .i64 a0.1) rfl rfl rfl rfl (Nat.le_of_ble_eq_true rfl) rfl (evs (ev_fa (c1 := .cref 3 0) (v := .cref 3 0) rfl rfl rfl ⟨_, rfl⟩ rfl (evs (ev_ldB (off := 0) (v := .int .i64 a1.1) rfl rfl rfl rfl (Nat.le_of_ble_eq_true rfl) rfl (evs (ev_bin (c1 := .int .i64 a0.1) (c2 := .int .i64 a1.1) rfl rfl rfl (evn ?_))))))))))
  refine ls_keep [(2, .box [.int .i64 a0.1, .dat a0.2.length (a0.2.flatMap c30_d)]), (3, .box [.int .i64 a1.1, .dat a1.2.length (a1.2.flatMap c30_d)]), (9, .bool (a0.1 != a1.1))] ⟨kr, kr, kr, trivial⟩ rfl ?_
  rcases cond_some h with ⟨g2, h⟩ | ⟨g2, h⟩
  · refine ls_cT rfl g2 ?_
    refine ls_rs tbOk ?_
    refine evs (ev_ac rfl nofun rfl (evn ?_))
    refine ls_keep [(4, .bool false)] ⟨kr, trivial⟩ rfl ?_
    refine ls_ret ?_
    have hr := Option.some.inj h
    rw [← hr]
    exact ⟨.inl rfl, rfl⟩
  · refine ls_cF rfl g2 ?_
    refine ls_skip ?_
    refine hK1 _ (ls_keep [(2, .box [.int .i64 a0.1, .dat a0.2.length (a0.2.flatMap c30_d)]), (3, .box [.int .i64 a1.1, .dat a1.2.length (a1.2.flatMap c30_d)])] ⟨kr, kr, trivial⟩ rfl ?_)
    refine ls_seq_k fun K3 hK3 => ?_
    refine ls_rs tbOk ?_
    refine evs (ev_fa (c1 := .cref 2 0) (v := .cref 2 1) rfl rfl rfl ⟨_, rfl⟩ rfl (evs (ev_ldB (off := 1) (v := .dat a0.2.length (a0.2.flatMap c30_d)) rfl rfl rfl rfl (Nat.le_of_ble_eq_true rfl) rfl (evs (ev_fa (c1 := .cref 3 0) (v := .cref 3 1) rfl rfl rfl ⟨_, rfl⟩ rfl (evs (ev_ldB (off := 1) (v := .dat a1.2.length (a1.2.flatMap c30_d)) rfl rfl rfl rfl (Nat.le_of_ble_eq_true rfl) rfl (?_))))))))
    obtain ⟨v4, g5, h⟩ := ob_some h
    refine evs (ev_call (era rfl (erD ec30_d _) (era rfl (erD ec30_d _) eran)) (laws_eqIntSS_s g5) (evs (ev_un (c1 := .bool v4) rfl trivial (evn ?_))))
    refine ls_keep [(15, .bool (!v4))] ⟨kr, trivial⟩ rfl ?_
    rcases cond_some h with ⟨g6, h⟩ | ⟨g6, h⟩
    · refine ls_cT rfl g6 ?_
      refine ls_rs tbOk ?_
      refine evs (ev_ac rfl nofun rfl (evn ?_))
      refine ls_keep [(4, .bool false)] ⟨kr, trivial⟩ rfl ?_
      refine ls_ret ?_
      have hr := Option.some.inj h
      rw [← hr]
      exact ⟨.inl rfl, rfl⟩
    · refine ls_cF rfl g6 ?_
      refine ls_skip ?_
      refine hK3 _ (ls_keep [] trivial rfl ?_)
      refine ls_rs tbOk ?_
      refine evs (ev_ac rfl nofun rfl (evn ?_))
      refine ls_keep [(4, .bool true)] ⟨kr, trivial⟩ rfl ?_
      refine ls_ret ?_
      have hr := Option.some.inj h
      rw [← hr]
      exact ⟨.inl rfl, rfl⟩
def laws_heldIntS_B1 (a0 : List Int) (rec : (Int × Int) → Option (Sum (Int) (Int))) (s : Int × Int) : Option (Sum (Int) (Int)) := match s with
  | (y1, y2) => cond (decide (y2 < (List.length a0 : Int))) (obind (geti a0 y2) fun e7 => cond (e7 != y1) (some (.inr (-1))) (rec ((IntKind.i64.wrap (y1 + 1)), (IntKind.i64.wrap (y2 + 1))))) (some (.inl y1))
def laws_heldIntS (a0 : List Int) (a1 : Int) : Option (Int) := obind (loopF (laws_heldIntS_B1 a0) fz (a1, 0)) fun o1 => (match o1 with
  | .inl z2 => (some z2)
  | .inr r => some r)
theorem laws_heldIntS_s {a0 : List Int} {a1 : Int} {r : Int} (h : laws_heldIntS a0 a1 = some r) : SoundAt Try.prog 58 [.dat a0.length (a0.flatMap ci64), .int .i64 a1] (.int .i64 r) := by
  unfold laws_heldIntS at h
  refine sound_lit tbOk lit58 (Nat.le_of_ble_eq_true rfl) rfl ?_
  unfold c58
  refine ls_keep [(0, .dat a0.length (a0.flatMap ci64)), (1, .int .i64 a1)] ⟨kr, kr, trivial⟩ rfl ?_
  refine ls_rs tbOk ?_
  refine evs (ev_ac rfl nofun rfl (evn ?_))
  refine ls_keep [(0, .dat a0.length (a0.flatMap ci64)), (1, .int .i64 a1)] ⟨kr, kr, trivial⟩ rfl ?_
  refine ls_seq_k fun K1 hK1 => ?_
  refine ls_rs tbOk ?_
  refine evs (ev_ac rfl nofun rfl (evn ?_))
  refine ls_keep [(0, .dat a0.length (a0.flatMap ci64)), (1, .int .i64 a1), (5, .int .i64 0)] ⟨kr, kr, kr, trivial⟩ rfl ?_
  obtain ⟨o1, hl, hr1⟩ := ob_some h
  clear h
  have kXlaws_heldIntS_B1 : ∀ (z2 : Int), (some z2) = some r → ∀ σ' : PS, okK σ' [(1, .int .i64 z2)] → K1 σ' := by
    intro z2 h σ' hk
    refine hK1 _ (ls_keep [(1, .int .i64 z2)] hk rfl ?_)
    refine ls_rs tbOk ?_
    refine evs (ev_mv (c := .int .i64 z2) rfl rfl rfl (evs (ev_as (c := .int .i64 z2) rfl rfl rfl (evn ?_))))
    refine ls_keep [(4, .int .i64 z2)] ⟨kr, trivial⟩ rfl ?_
    refine ls_ret ?_
    have hr := Option.some.inj h
    rw [← hr]
    exact ⟨.inl rfl, rfl⟩
  refine ls_rec (fun (s : Int × Int) => match s with | (y1, y2) => [(0, .dat a0.length (a0.flatMap ci64)), (1, .int .i64 y1), (5, .int .i64 y2)]) (laws_heldIntS_B1 a0) fz (a1, 0) o1 hl ⟨kr, kr, kr, trivial⟩ (fun _ => rfl) ?_
  rintro m ⟨y1, y2⟩ N h hN
  unfold laws_heldIntS_B1 at h
  dsimp only at h
  refine ls_seq_k fun K3 hK3 => ?_
  refine ls_rs tbOk ?_
  refine evs (ev_mv (c := .int .i64 y2) rfl rfl rfl (evs (ev_mv (c := .dat a0.length (a0.flatMap ci64)) rfl rfl rfl (evs (ev_len (c1 := .dat a0.length (a0.flatMap ci64)) rfl rfl rfl (evs (ev_bin (c1 := .int .i64 y2) (c2 := .int .i64 (List.length a0 : Int)) rfl rfl rfl (evn ?_))))))))
  refine ls_keep [(0, .dat a0.length (a0.flatMap ci64)), (1, .int .i64 y1), (5, .int .i64 y2), (9, .bool (decide (y2 < (List.length a0 : Int))))] ⟨kr, kr, kr, kr, trivial⟩ rfl ?_
  rcases cond_some h with ⟨g4, h⟩ | ⟨g4, h⟩
  · refine ls_cT rfl g4 ?_
    refine ls_skip ?_
    refine hK3 _ (ls_keep [(0, .dat a0.length (a0.flatMap ci64)), (1, .int .i64 y1), (5, .int .i64 y2)] ⟨kr, kr, kr, trivial⟩ rfl ?_)
    refine ls_seq_k fun K5 hK5 => ?_
    refine ls_blk ?_
    refine ls_seq_k fun K6 hK6 => ?_
    refine ls_rs tbOk ?_
    refine evs (ev_mv (c := .dat a0.length (a0.flatMap ci64)) rfl rfl rfl (evs (ev_mv (c := .int .i64 y2) rfl rfl rfl (?_))))
    obtain ⟨e7, g8, h⟩ := ob_some h
    refine evs (ev_ia rfl rfl rfl ⟨(geti_some g8).1, (geti_some g8).2.1⟩ (evs (ev_ldE (i := y2) (n := 1) (off := 0) (v := .int .i64 e7) rfl rfl zci64 g8 rfl (Nat.le_of_ble_eq_true rfl) rfl (evs (ev_mv (c := .int .i64 y1) rfl rfl rfl (evs (ev_bin (c1 := .int .i64 e7) (c2 := .int .i64 y1) rfl rfl rfl (evn ?_))))))))
    refine ls_keep [(0, .dat a0.length (a0.flatMap ci64)), (1, .int .i64 y1), (5, .int .i64 y2), (17, .bool (e7 != y1))] ⟨kr, kr, kr, kr, trivial⟩ rfl ?_
    rcases cond_some h with ⟨g9, h⟩ | ⟨g9, h⟩
    · refine ls_cT rfl g9 ?_
      refine ls_rs tbOk ?_
      refine evs (ev_ac rfl nofun rfl (evn ?_))
      refine ls_keep [(4, .int .i64 (-1))] ⟨kr, trivial⟩ rfl ?_
      refine ls_ret ?_
      have q0 := (Option.some.inj h).symm
      have r0 := hr1
      rw [q0] at r0
      have hr := Option.some.inj r0
      rw [← hr]
      exact ⟨.inl rfl, rfl⟩
    · refine ls_cF rfl g9 ?_
      refine ls_skip ?_
      refine hK6 _ (ls_keep [(0, .dat a0.length (a0.flatMap ci64)), (1, .int .i64 y1), (5, .int .i64 y2)] ⟨kr, kr, kr, trivial⟩ rfl ?_)
      refine ls_rgn tbOk ?_
      refine evs (ev_mv (c := .int .i64 y1) rfl rfl rfl (evs (ev_bin (c1 := .int .i64 y1) (c2 := .int .i64 1) rfl rfl rfl (evs (ev_as (c := .int .i64 (IntKind.i64.wrap (y1 + 1))) rfl rfl rfl (evn ?_))))))
      refine hK5 _ (ls_keep [(0, .dat a0.length (a0.flatMap ci64)), (1, .int .i64 (IntKind.i64.wrap (y1 + 1))), (5, .int .i64 y2)] ⟨kr, kr, kr, trivial⟩ rfl ?_)
      refine ls_rgn tbOk ?_
      refine evs (ev_mv (c := .int .i64 y2) rfl rfl rfl (evs (ev_bin (c1 := .int .i64 y2) (c2 := .int .i64 1) rfl rfl rfl (evs (ev_as (c := .int .i64 (IntKind.i64.wrap (y2 + 1))) rfl rfl rfl (evn ?_))))))
      exact hN _ ((IntKind.i64.wrap (y1 + 1)), (IntKind.i64.wrap (y2 + 1))) h ⟨kr, kr, kr, trivial⟩
  · refine ls_cF rfl g4 ?_
    refine ls_exit ?_
    have q0 := (Option.some.inj h).symm
    have r0 := hr1
    rw [q0] at r0
    exact kXlaws_heldIntS_B1 y1 r0 _ ⟨kr, trivial⟩
def laws_heldIntSS_B1 (a0 : List (List Int)) (rec : (Int × Int) → Option (Sum (Int) (Int))) (s : Int × Int) : Option (Sum (Int) (Int)) := match s with
  | (y1, y2) => cond (decide (y2 < (List.length a0 : Int))) (obind (geti a0 y2) fun e6 => obind (laws_heldIntS e6 y1) fun v8 => cond (decide (v8 < 0)) (some (.inr (-1))) (rec (v8, (IntKind.i64.wrap (y2 + 1))))) (some (.inl y1))
def laws_heldIntSS (a0 : List (List Int)) (a1 : Int) : Option (Int) := obind (loopF (laws_heldIntSS_B1 a0) fz (a1, 0)) fun o1 => (match o1 with
  | .inl z2 => (some z2)
  | .inr r => some r)
theorem laws_heldIntSS_s {a0 : List (List Int)} {a1 : Int} {r : Int} (h : laws_heldIntSS a0 a1 = some r) : SoundAt Try.prog 86 [.dat a0.length (a0.flatMap c30_d), .int .i64 a1] (.int .i64 r) := by
  unfold laws_heldIntSS at h
  refine sound_lit tbOk lit86 (Nat.le_of_ble_eq_true rfl) rfl ?_
  unfold c86
  refine ls_keep [(0, .dat a0.length (a0.flatMap c30_d)), (1, .int .i64 a1)] ⟨kr, kr, trivial⟩ rfl ?_
  refine ls_rs tbOk ?_
  refine evs (ev_ac rfl nofun rfl (evn ?_))
  refine ls_keep [(0, .dat a0.length (a0.flatMap c30_d)), (1, .int .i64 a1)] ⟨kr, kr, trivial⟩ rfl ?_
  refine ls_seq_k fun K1 hK1 => ?_
  refine ls_rs tbOk ?_
  refine evs (ev_ac rfl nofun rfl (evn ?_))
  refine ls_keep [(0, .dat a0.length (a0.flatMap c30_d)), (1, .int .i64 a1), (5, .int .i64 0)] ⟨kr, kr, kr, trivial⟩ rfl ?_
  obtain ⟨o1, hl, hr1⟩ := ob_some h
  clear h
  have kXlaws_heldIntSS_B1 : ∀ (z2 : Int), (some z2) = some r → ∀ σ' : PS, okK σ' [(1, .int .i64 z2)] → K1 σ' := by
    intro z2 h σ' hk
    refine hK1 _ (ls_keep [(1, .int .i64 z2)] hk rfl ?_)
    refine ls_rs tbOk ?_
    refine evs (ev_mv (c := .int .i64 z2) rfl rfl rfl (evs (ev_as (c := .int .i64 z2) rfl rfl rfl (evn ?_))))
    refine ls_keep [(4, .int .i64 z2)] ⟨kr, trivial⟩ rfl ?_
    refine ls_ret ?_
    have hr := Option.some.inj h
    rw [← hr]
    exact ⟨.inl rfl, rfl⟩
  refine ls_rec (fun (s : Int × Int) => match s with | (y1, y2) => [(0, .dat a0.length (a0.flatMap c30_d)), (1, .int .i64 y1), (5, .int .i64 y2)]) (laws_heldIntSS_B1 a0) fz (a1, 0) o1 hl ⟨kr, kr, kr, trivial⟩ (fun _ => rfl) ?_
  rintro m ⟨y1, y2⟩ N h hN
  unfold laws_heldIntSS_B1 at h
  dsimp only at h
  refine ls_seq_k fun K3 hK3 => ?_
  refine ls_rs tbOk ?_
  refine evs (ev_mv (c := .int .i64 y2) rfl rfl rfl (evs (ev_mv (c := .dat a0.length (a0.flatMap c30_d)) rfl rfl rfl (evs (ev_len (c1 := .dat a0.length (a0.flatMap c30_d)) rfl rfl rfl (evs (ev_bin (c1 := .int .i64 y2) (c2 := .int .i64 (List.length a0 : Int)) rfl rfl rfl (evn ?_))))))))
  refine ls_keep [(0, .dat a0.length (a0.flatMap c30_d)), (1, .int .i64 y1), (5, .int .i64 y2), (9, .bool (decide (y2 < (List.length a0 : Int))))] ⟨kr, kr, kr, kr, trivial⟩ rfl ?_
  rcases cond_some h with ⟨g4, h⟩ | ⟨g4, h⟩
  · refine ls_cT rfl g4 ?_
    refine ls_skip ?_
    refine hK3 _ (ls_keep [(0, .dat a0.length (a0.flatMap c30_d)), (1, .int .i64 y1), (5, .int .i64 y2)] ⟨kr, kr, kr, trivial⟩ rfl ?_)
    refine ls_seq_k fun K5 hK5 => ?_
    refine ls_blk ?_
    refine ls_rs tbOk ?_
    refine evs (ev_mv (c := .dat a0.length (a0.flatMap c30_d)) rfl rfl rfl (evs (ev_mv (c := .int .i64 y2) rfl rfl rfl (?_))))
    obtain ⟨e6, g7, h⟩ := ob_some h
    refine evs (ev_ia rfl rfl rfl ⟨(geti_some g7).1, (geti_some g7).2.1⟩ (evs (ev_ldE (i := y2) (n := 1) (off := 0) (v := .dat e6.length (e6.flatMap ci64)) rfl rfl zc30_d g7 rfl (Nat.le_of_ble_eq_true rfl) rfl (evs (ev_mv (c := .int .i64 y1) rfl rfl rfl (?_))))))
    obtain ⟨v8, g9, h⟩ := ob_some h
    refine evs (ev_call (era rfl (erD eci64 _) (era rfl rfl eran)) (laws_heldIntS_s g9) (evs (ev_as (c := .int .i64 v8) rfl rfl rfl (evn ?_))))
    refine ls_keep [(0, .dat a0.length (a0.flatMap c30_d)), (1, .int .i64 v8), (5, .int .i64 y2)] ⟨kr, kr, kr, trivial⟩ rfl ?_
    refine ls_rs tbOk ?_
    refine evs (ev_mv (c := .int .i64 v8) rfl rfl rfl (evs (ev_bin (c1 := .int .i64 v8) (c2 := .int .i64 0) rfl rfl rfl (evn ?_))))
    refine ls_keep [(0, .dat a0.length (a0.flatMap c30_d)), (1, .int .i64 v8), (5, .int .i64 y2), (19, .bool (decide (v8 < 0)))] ⟨kr, kr, kr, kr, trivial⟩ rfl ?_
    rcases cond_some h with ⟨g10, h⟩ | ⟨g10, h⟩
    · refine ls_cT rfl g10 ?_
      refine ls_rs tbOk ?_
      refine evs (ev_ac rfl nofun rfl (evn ?_))
      refine ls_keep [(4, .int .i64 (-1))] ⟨kr, trivial⟩ rfl ?_
      refine ls_ret ?_
      have q0 := (Option.some.inj h).symm
      have r0 := hr1
      rw [q0] at r0
      have hr := Option.some.inj r0
      rw [← hr]
      exact ⟨.inl rfl, rfl⟩
    · refine ls_cF rfl g10 ?_
      refine ls_skip ?_
      refine hK5 _ (ls_keep [(0, .dat a0.length (a0.flatMap c30_d)), (1, .int .i64 v8), (5, .int .i64 y2)] ⟨kr, kr, kr, trivial⟩ rfl ?_)
      refine ls_rgn tbOk ?_
      refine evs (ev_mv (c := .int .i64 y2) rfl rfl rfl (evs (ev_bin (c1 := .int .i64 y2) (c2 := .int .i64 1) rfl rfl rfl (evs (ev_as (c := .int .i64 (IntKind.i64.wrap (y2 + 1))) rfl rfl rfl (evn ?_))))))
      exact hN _ (v8, (IntKind.i64.wrap (y2 + 1))) h ⟨kr, kr, kr, trivial⟩
  · refine ls_cF rfl g4 ?_
    refine ls_exit ?_
    have q0 := (Option.some.inj h).symm
    have r0 := hr1
    rw [q0] at r0
    exact kXlaws_heldIntSS_B1 y1 r0 _ ⟨kr, trivial⟩
def laws_heldRelation (a0 : Int × (List (List Int))) (a1 : Int) : Option (Int) := obind (laws_heldIntSS a0.2 a1) fun v1 => cond (decide (v1 < 0)) (some (-1)) (some v1)
theorem laws_heldRelation_s {a0 : Int × (List (List Int))} {a1 : Int} {r : Int} (h : laws_heldRelation a0 a1 = some r) : SoundAt Try.prog 19 [.agg [.int .i64 a0.1, .dat a0.2.length (a0.2.flatMap c30_d)], .int .i64 a1] (.int .i64 r) := by
  unfold laws_heldRelation at h
  refine sound_lit tbOk lit19 (Nat.le_of_ble_eq_true rfl) rfl ?_
  unfold c19
  refine ls_keep [(0, .agg [.int .i64 a0.1, .dat a0.2.length (a0.2.flatMap c30_d)]), (1, .int .i64 a1)] ⟨kr, kr, trivial⟩ rfl ?_
  refine ls_rs tbOk ?_
  refine evs (ev_bx (c1 := .agg [.int .i64 a0.1, .dat a0.2.length (a0.2.flatMap c30_d)]) rfl rfl rfl (evs (ev_ac rfl nofun rfl (evn ?_))))
  refine ls_keep [(1, .int .i64 a1), (2, .box [.int .i64 a0.1, .dat a0.2.length (a0.2.flatMap c30_d)])] ⟨kr, kr, trivial⟩ rfl ?_
  refine ls_rs tbOk ?_
  refine evs (ev_fa (c1 := .cref 2 0) (v := .cref 2 1) rfl rfl rfl ⟨_, rfl⟩ rfl (evs (ev_ldB (off := 1) (v := .dat a0.2.length (a0.2.flatMap c30_d)) rfl rfl rfl rfl (Nat.le_of_ble_eq_true rfl) rfl (evs (ev_mv (c := .int .i64 a1) rfl rfl rfl (?_))))))
  obtain ⟨v1, g2, h⟩ := ob_some h
  refine evs (ev_call (era rfl (erD ec30_d _) (era rfl rfl eran)) (laws_heldIntSS_s g2) (evs (ev_as (c := .int .i64 v1) rfl rfl rfl (evn ?_))))
  refine ls_keep [(1, .int .i64 v1)] ⟨kr, trivial⟩ rfl ?_
  refine ls_seq_k fun K3 hK3 => ?_
  refine ls_rs tbOk ?_
  refine evs (ev_mv (c := .int .i64 v1) rfl rfl rfl (evs (ev_bin (c1 := .int .i64 v1) (c2 := .int .i64 0) rfl rfl rfl (evn ?_))))
  refine ls_keep [(1, .int .i64 v1), (10, .bool (decide (v1 < 0)))] ⟨kr, kr, trivial⟩ rfl ?_
  rcases cond_some h with ⟨g4, h⟩ | ⟨g4, h⟩
  · refine ls_cT rfl g4 ?_
    refine ls_rs tbOk ?_
    refine evs (ev_ac rfl nofun rfl (evn ?_))
    refine ls_keep [(4, .int .i64 (-1))] ⟨kr, trivial⟩ rfl ?_
    refine ls_ret ?_
    have hr := Option.some.inj h
    rw [← hr]
    exact ⟨.inl rfl, rfl⟩
  · refine ls_cF rfl g4 ?_
    refine ls_skip ?_
    refine hK3 _ (ls_keep [(1, .int .i64 v1)] ⟨kr, trivial⟩ rfl ?_)
    refine ls_rs tbOk ?_
    refine evs (ev_mv (c := .int .i64 v1) rfl rfl rfl (evs (ev_as (c := .int .i64 v1) rfl rfl rfl (evn ?_))))
    refine ls_keep [(4, .int .i64 v1)] ⟨kr, trivial⟩ rfl ?_
    refine ls_ret ?_
    have hr := Option.some.inj h
    rw [← hr]
    exact ⟨.inl rfl, rfl⟩
def laws_FnExactSkewedRelation (a0 : Int) : Option (Bool) := obind (spec_SkewedRelation a0) fun v1 => obind (impl_SkewedRelation a0) fun v3 => obind (laws_eqRelation v3.1 v1.1) fun v6 => cond (!v6) (some false) (cond (!(v3.2 == v1.2)) (some false) (obind (laws_markRelation v3.1 1) fun v10 => obind (laws_heldRelation v10.1 1) fun v12 => cond (decide (v12 < 0)) (some false) (cond (v12 != v10.2) (some false) (obind (impl_SkewedRelation a0) fun v18 => obind (laws_eqRelation v18.1 v1.1) fun v21 => cond (!v21) (some false) (cond (!(v18.2 == v1.2)) (some false) (obind (laws_heldRelation v10.1 1) fun v25 => cond (decide (v25 < 0)) (some false) (cond (v25 != v10.2) (some false) (some true))))))))
theorem laws_FnExactSkewedRelation_s {a0 : Int} {r : Bool} (h : laws_FnExactSkewedRelation a0 = some r) : SoundAt Try.prog 3 [.int .i64 a0] (.bool r) := by
  unfold laws_FnExactSkewedRelation at h
  refine sound_lit tbOk lit3 (Nat.le_of_ble_eq_true rfl) rfl ?_
  unfold c3
  refine ls_keep [(0, .int .i64 a0)] ⟨kr, trivial⟩ rfl ?_
  refine ls_rs tbOk ?_
  refine evs (ev_ac rfl nofun rfl (evn ?_))
  refine ls_keep [(0, .int .i64 a0)] ⟨kr, trivial⟩ rfl ?_
  refine ls_rs tbOk ?_
  refine evs (ev_mv (c := .int .i64 a0) rfl rfl rfl (?_))
  obtain ⟨v1, g2, h⟩ := ob_some h
  refine evs (ev_call (era rfl rfl eran) (spec_SkewedRelation_s g2) (evs (ev_mvt (c := .tup [.agg [.int .i64 v1.1.1, .own 30 v1.1.2.length (v1.1.2.flatMap c30_o)], .bool v1.2]) rfl rfl rfl (evs (ev_ext rfl rfl rfl rfl (evs (ev_ext rfl rfl rfl rfl (evs (ev_al rfl rfl (evs (ev_st (off := 0) (c1 := .agg [.int .i64 v1.1.1, .own 30 v1.1.2.length (v1.1.2.flatMap c30_o)]) (cs' := [.int .i64 v1.1.1, .own 30 v1.1.2.length (v1.1.2.flatMap c30_o)]) rfl rfl rfl rfl rfl rfl (Nat.le_of_ble_eq_true rfl) rfl (evs (ev_as (c := .bool v1.2) rfl rfl rfl (evn ?_))))))))))))))
  refine ls_keep [(0, .int .i64 a0), (3, .box [.int .i64 v1.1.1, .own 30 v1.1.2.length (v1.1.2.flatMap c30_o)]), (4, .bool v1.2)] ⟨kr, kr, kr, trivial⟩ rfl ?_
  refine ls_rs tbOk ?_
  refine evs (ev_mv (c := .int .i64 a0) rfl rfl rfl (?_))
  obtain ⟨v3, g4, h⟩ := ob_some h
  refine evs (ev_call (era rfl rfl eran) (impl_SkewedRelation_s g4) (evs (ev_mvt (c := .tup [.agg [.int .i64 v3.1.1, .own 30 v3.1.2.length (v3.1.2.flatMap c30_o)], .bool v3.2]) rfl rfl rfl (evs (ev_ext rfl rfl rfl rfl (evs (ev_ext rfl rfl rfl rfl (evs (ev_al rfl rfl (evs (ev_st (off := 0) (c1 := .agg [.int .i64 v3.1.1, .own 30 v3.1.2.length (v3.1.2.flatMap c30_o)]) (cs' := [.int .i64 v3.1.1, .own 30 v3.1.2.length (v3.1.2.flatMap c30_o)]) rfl rfl rfl rfl rfl rfl (Nat.le_of_ble_eq_true rfl) rfl (evs (ev_as (c := .bool v3.2) rfl rfl rfl (evn ?_))))))))))))))
  refine ls_keep [(0, .int .i64 a0), (3, .box [.int .i64 v1.1.1, .own 30 v1.1.2.length (v1.1.2.flatMap c30_o)]), (4, .bool v1.2), (5, .box [.int .i64 v3.1.1, .own 30 v3.1.2.length (v3.1.2.flatMap c30_o)]), (6, .bool v3.2)] ⟨kr, kr, kr, kr, kr, trivial⟩ rfl ?_
  refine ls_seq_k fun K5 hK5 => ?_
  refine ls_rs tbOk ?_
  refine evs (ev_ldB (off := 0) (v := .agg [.int .i64 v3.1.1, .dat v3.1.2.length (v3.1.2.flatMap c30_o)]) rfl rfl rfl rfl (Nat.le_of_ble_eq_true rfl) rfl (evs (ev_ldB (off := 0) (v := .agg [.int .i64 v1.1.1, .dat v1.1.2.length (v1.1.2.flatMap c30_o)]) rfl rfl rfl rfl (Nat.le_of_ble_eq_true rfl) rfl (?_))))
  obtain ⟨v6, g7, h⟩ := ob_some h
  refine evs (ev_call (era rfl (erg (erc rfl (erc (erD ec30_o _) rfl))) (era rfl (erg (erc rfl (erc (erD ec30_o _) rfl))) eran)) (laws_eqRelation_s g7) (evs (ev_un (c1 := .bool v6) rfl trivial (evs (ev_mv (c := .bool (!v6)) rfl rfl rfl (?_))))))
  rcases cond_some h with ⟨g8, h⟩ | ⟨g8, h⟩
  · refine evs (ev_gs rfl rfl (isb_T g8) (evs (ev_gs rfl rfl (isb_T g8) (evs (ev_gs rfl rfl (isb_T g8) (evs (ev_pkT (c1 := .bool true) rfl g8 rfl rfl (evn ?_))))))))
    refine ls_keep [(0, .int .i64 a0), (3, .box [.int .i64 v1.1.1, .own 30 v1.1.2.length (v1.1.2.flatMap c30_o)]), (4, .bool v1.2), (5, .box [.int .i64 v3.1.1, .own 30 v3.1.2.length (v3.1.2.flatMap c30_o)]), (29, .bool true)] ⟨kr, kr, kr, kr, kr, trivial⟩ rfl ?_
    refine ls_cT rfl rfl ?_
    refine ls_rs tbOk ?_
    refine evs (ev_ac rfl nofun rfl (evn ?_))
    refine ls_keep [(2, .bool false)] ⟨kr, trivial⟩ rfl ?_
    refine ls_ret ?_
    have hr := Option.some.inj h
    rw [← hr]
    exact ⟨.inl rfl, rfl⟩
  · refine evs (ev_gr rfl (congrArg V.bool g8) (ev_mv (c := .bool v3.2) rfl rfl rfl (evs (ev_gr rfl (congrArg V.bool g8) (ev_mv (c := .bool v1.2) rfl rfl rfl (evs (ev_gr rfl (congrArg V.bool g8) (ev_bin (c1 := .bool v3.2) (c2 := .bool v1.2) rfl rfl rfl (evs (ev_pkF (c1 := .bool (!(v3.2 == v1.2))) rfl g8 rfl rfl (evn ?_)))))))))))
    refine ls_keep [(0, .int .i64 a0), (3, .box [.int .i64 v1.1.1, .own 30 v1.1.2.length (v1.1.2.flatMap c30_o)]), (4, .bool v1.2), (5, .box [.int .i64 v3.1.1, .own 30 v3.1.2.length (v3.1.2.flatMap c30_o)]), (29, .bool (!(v3.2 == v1.2)))] ⟨kr, kr, kr, kr, kr, trivial⟩ rfl ?_
    rcases cond_some h with ⟨g9, h⟩ | ⟨g9, h⟩
    · refine ls_cT rfl g9 ?_
      refine ls_rs tbOk ?_
      refine evs (ev_ac rfl nofun rfl (evn ?_))
      refine ls_keep [(2, .bool false)] ⟨kr, trivial⟩ rfl ?_
      refine ls_ret ?_
      have hr := Option.some.inj h
      rw [← hr]
      exact ⟨.inl rfl, rfl⟩
    · refine ls_cF rfl g9 ?_
      refine ls_skip ?_
      refine hK5 _ (ls_keep [(0, .int .i64 a0), (3, .box [.int .i64 v1.1.1, .own 30 v1.1.2.length (v1.1.2.flatMap c30_o)]), (4, .bool v1.2), (5, .box [.int .i64 v3.1.1, .own 30 v3.1.2.length (v3.1.2.flatMap c30_o)])] ⟨kr, kr, kr, kr, trivial⟩ rfl ?_)
      refine ls_rs tbOk ?_
      refine evs (ev_ac rfl nofun rfl (evn ?_))
      refine ls_keep [(0, .int .i64 a0), (3, .box [.int .i64 v1.1.1, .own 30 v1.1.2.length (v1.1.2.flatMap c30_o)]), (4, .bool v1.2), (5, .box [.int .i64 v3.1.1, .own 30 v3.1.2.length (v3.1.2.flatMap c30_o)]), (7, .int .i64 1)] ⟨kr, kr, kr, kr, kr, trivial⟩ rfl ?_
      refine ls_keep [(0, .int .i64 a0), (3, .box [.int .i64 v1.1.1, .own 30 v1.1.2.length (v1.1.2.flatMap c30_o)]), (4, .bool v1.2), (5, .box [.int .i64 v3.1.1, .own 30 v3.1.2.length (v3.1.2.flatMap c30_o)]), (7, .int .i64 1)] ⟨kr, kr, kr, kr, kr, trivial⟩ rfl ?_
      obtain ⟨v10, g11, h⟩ := ob_some h
      refine ls_mark (src_box tbOk rfl rfl rfl) rfl rfl (laws_markRelation_m g11) (dp24 _) (sf_of (sfc rfl (sfc (scc rfl (scc (sco dp30 _) scn)) (sfc rfl (sfs (sfc rfl sfn)))))) rfl rfl ⟨by decide, by decide⟩ rfl ?_
      refine ls_keep [(0, .int .i64 a0), (3, .box [.int .i64 v1.1.1, .own 30 v1.1.2.length (v1.1.2.flatMap c30_o)]), (4, .bool v1.2), (5, .box [.int .i64 v10.1.1, .own 30 v10.1.2.length (v10.1.2.flatMap c30_o)]), (7, .int .i64 v10.2)] ⟨kr, kr, kr, kr, kr, trivial⟩ rfl ?_
      refine ls_rs tbOk ?_
      refine evs (ev_ac rfl nofun rfl (evn ?_))
      refine ls_keep [(0, .int .i64 a0), (3, .box [.int .i64 v1.1.1, .own 30 v1.1.2.length (v1.1.2.flatMap c30_o)]), (4, .bool v1.2), (5, .box [.int .i64 v10.1.1, .own 30 v10.1.2.length (v10.1.2.flatMap c30_o)]), (7, .int .i64 v10.2), (8, .int .i64 1)] ⟨kr, kr, kr, kr, kr, kr, trivial⟩ rfl ?_
      refine ls_rs tbOk ?_
      refine evs (ev_ldB (off := 0) (v := .agg [.int .i64 v10.1.1, .dat v10.1.2.length (v10.1.2.flatMap c30_o)]) rfl rfl rfl rfl (Nat.le_of_ble_eq_true rfl) rfl (evs (ev_mv (c := .int .i64 1) rfl rfl rfl (?_))))
      obtain ⟨v12, g13, h⟩ := ob_some h
      refine evs (ev_call (era rfl (erg (erc rfl (erc (erD ec30_o _) rfl))) (era rfl rfl eran)) (laws_heldRelation_s g13) (evs (ev_as (c := .int .i64 v12) rfl rfl rfl (evn ?_))))
      refine ls_keep [(0, .int .i64 a0), (3, .box [.int .i64 v1.1.1, .own 30 v1.1.2.length (v1.1.2.flatMap c30_o)]), (4, .bool v1.2), (5, .box [.int .i64 v10.1.1, .own 30 v10.1.2.length (v10.1.2.flatMap c30_o)]), (7, .int .i64 v10.2), (8, .int .i64 v12)] ⟨kr, kr, kr, kr, kr, kr, trivial⟩ rfl ?_
      refine ls_seq_k fun K14 hK14 => ?_
      refine ls_rs tbOk ?_
      refine evs (ev_mv (c := .int .i64 v12) rfl rfl rfl (evs (ev_bin (c1 := .int .i64 v12) (c2 := .int .i64 0) rfl rfl rfl (evn ?_))))
      refine ls_keep [(0, .int .i64 a0), (3, .box [.int .i64 v1.1.1, .own 30 v1.1.2.length (v1.1.2.flatMap c30_o)]), (4, .bool v1.2), (5, .box [.int .i64 v10.1.1, .own 30 v10.1.2.length (v10.1.2.flatMap c30_o)]), (7, .int .i64 v10.2), (8, .int .i64 v12), (37, .bool (decide (v12 < 0)))] ⟨kr, kr, kr, kr, kr, kr, kr, trivial⟩ rfl ?_
      rcases cond_some h with ⟨g15, h⟩ | ⟨g15, h⟩
      · refine ls_cT rfl g15 ?_
        refine ls_rs tbOk ?_
        refine evs (ev_ac rfl nofun rfl (evn ?_))
        refine ls_keep [(2, .bool false)] ⟨kr, trivial⟩ rfl ?_
        refine ls_ret ?_
        have hr := Option.some.inj h
        rw [← hr]
        exact ⟨.inl rfl, rfl⟩
      · refine ls_cF rfl g15 ?_
        refine ls_skip ?_
        refine hK14 _ (ls_keep [(0, .int .i64 a0), (3, .box [.int .i64 v1.1.1, .own 30 v1.1.2.length (v1.1.2.flatMap c30_o)]), (4, .bool v1.2), (5, .box [.int .i64 v10.1.1, .own 30 v10.1.2.length (v10.1.2.flatMap c30_o)]), (7, .int .i64 v10.2), (8, .int .i64 v12)] ⟨kr, kr, kr, kr, kr, kr, trivial⟩ rfl ?_)
        refine ls_seq_k fun K16 hK16 => ?_
        refine ls_rs tbOk ?_
        refine evs (ev_mv (c := .int .i64 v12) rfl rfl rfl (evs (ev_mv (c := .int .i64 v10.2) rfl rfl rfl (evs (ev_bin (c1 := .int .i64 v12) (c2 := .int .i64 v10.2) rfl rfl rfl (evn ?_))))))
        refine ls_keep [(0, .int .i64 a0), (3, .box [.int .i64 v1.1.1, .own 30 v1.1.2.length (v1.1.2.flatMap c30_o)]), (4, .bool v1.2), (5, .box [.int .i64 v10.1.1, .own 30 v10.1.2.length (v10.1.2.flatMap c30_o)]), (7, .int .i64 v10.2), (40, .bool (v12 != v10.2))] ⟨kr, kr, kr, kr, kr, kr, trivial⟩ rfl ?_
        rcases cond_some h with ⟨g17, h⟩ | ⟨g17, h⟩
        · refine ls_cT rfl g17 ?_
          refine ls_rs tbOk ?_
          refine evs (ev_ac rfl nofun rfl (evn ?_))
          refine ls_keep [(2, .bool false)] ⟨kr, trivial⟩ rfl ?_
          refine ls_ret ?_
          have hr := Option.some.inj h
          rw [← hr]
          exact ⟨.inl rfl, rfl⟩
        · refine ls_cF rfl g17 ?_
          refine ls_skip ?_
          refine hK16 _ (ls_keep [(0, .int .i64 a0), (3, .box [.int .i64 v1.1.1, .own 30 v1.1.2.length (v1.1.2.flatMap c30_o)]), (4, .bool v1.2), (5, .box [.int .i64 v10.1.1, .own 30 v10.1.2.length (v10.1.2.flatMap c30_o)]), (7, .int .i64 v10.2)] ⟨kr, kr, kr, kr, kr, trivial⟩ rfl ?_)
          refine ls_rs tbOk ?_
          refine evs (ev_mv (c := .int .i64 a0) rfl rfl rfl (?_))
          obtain ⟨v18, g19, h⟩ := ob_some h
          refine evs (ev_call (era rfl rfl eran) (impl_SkewedRelation_s g19) (evs (ev_mvt (c := .tup [.agg [.int .i64 v18.1.1, .own 30 v18.1.2.length (v18.1.2.flatMap c30_o)], .bool v18.2]) rfl rfl rfl (evs (ev_ext rfl rfl rfl rfl (evs (ev_ext rfl rfl rfl rfl (evs (ev_al rfl rfl (evs (ev_st (off := 0) (c1 := .agg [.int .i64 v18.1.1, .own 30 v18.1.2.length (v18.1.2.flatMap c30_o)]) (cs' := [.int .i64 v18.1.1, .own 30 v18.1.2.length (v18.1.2.flatMap c30_o)]) rfl rfl rfl rfl rfl rfl (Nat.le_of_ble_eq_true rfl) rfl (evs (ev_as (c := .bool v18.2) rfl rfl rfl (evn ?_))))))))))))))
          refine ls_keep [(3, .box [.int .i64 v1.1.1, .own 30 v1.1.2.length (v1.1.2.flatMap c30_o)]), (4, .bool v1.2), (5, .box [.int .i64 v10.1.1, .own 30 v10.1.2.length (v10.1.2.flatMap c30_o)]), (7, .int .i64 v10.2), (9, .box [.int .i64 v18.1.1, .own 30 v18.1.2.length (v18.1.2.flatMap c30_o)]), (10, .bool v18.2)] ⟨kr, kr, kr, kr, kr, kr, trivial⟩ rfl ?_
          refine ls_seq_k fun K20 hK20 => ?_
          refine ls_rs tbOk ?_
          refine evs (ev_ldB (off := 0) (v := .agg [.int .i64 v18.1.1, .dat v18.1.2.length (v18.1.2.flatMap c30_o)]) rfl rfl rfl rfl (Nat.le_of_ble_eq_true rfl) rfl (evs (ev_ldB (off := 0) (v := .agg [.int .i64 v1.1.1, .dat v1.1.2.length (v1.1.2.flatMap c30_o)]) rfl rfl rfl rfl (Nat.le_of_ble_eq_true rfl) rfl (?_))))
          obtain ⟨v21, g22, h⟩ := ob_some h
          refine evs (ev_call (era rfl (erg (erc rfl (erc (erD ec30_o _) rfl))) (era rfl (erg (erc rfl (erc (erD ec30_o _) rfl))) eran)) (laws_eqRelation_s g22) (evs (ev_un (c1 := .bool v21) rfl trivial (evs (ev_mv (c := .bool (!v21)) rfl rfl rfl (?_))))))
          rcases cond_some h with ⟨g23, h⟩ | ⟨g23, h⟩
          · refine evs (ev_gs rfl rfl (isb_T g23) (evs (ev_gs rfl rfl (isb_T g23) (evs (ev_gs rfl rfl (isb_T g23) (evs (ev_pkT (c1 := .bool true) rfl g23 rfl rfl (evn ?_))))))))
            refine ls_keep [(5, .box [.int .i64 v10.1.1, .own 30 v10.1.2.length (v10.1.2.flatMap c30_o)]), (7, .int .i64 v10.2), (54, .bool true)] ⟨kr, kr, kr, trivial⟩ rfl ?_
            refine ls_cT rfl rfl ?_
            refine ls_rs tbOk ?_
            refine evs (ev_ac rfl nofun rfl (evn ?_))
            refine ls_keep [(2, .bool false)] ⟨kr, trivial⟩ rfl ?_
            refine ls_ret ?_
            have hr := Option.some.inj h
            rw [← hr]
            exact ⟨.inl rfl, rfl⟩
          · refine evs (ev_gr rfl (congrArg V.bool g23) (ev_mv (c := .bool v18.2) rfl rfl rfl (evs (ev_gr rfl (congrArg V.bool g23) (ev_mv (c := .bool v1.2) rfl rfl rfl (evs (ev_gr rfl (congrArg V.bool g23) (ev_bin (c1 := .bool v18.2) (c2 := .bool v1.2) rfl rfl rfl (evs (ev_pkF (c1 := .bool (!(v18.2 == v1.2))) rfl g23 rfl rfl (evn ?_)))))))))))
            refine ls_keep [(5, .box [.int .i64 v10.1.1, .own 30 v10.1.2.length (v10.1.2.flatMap c30_o)]), (7, .int .i64 v10.2), (54, .bool (!(v18.2 == v1.2)))] ⟨kr, kr, kr, trivial⟩ rfl ?_
            rcases cond_some h with ⟨g24, h⟩ | ⟨g24, h⟩
            · refine ls_cT rfl g24 ?_
              refine ls_rs tbOk ?_
              refine evs (ev_ac rfl nofun rfl (evn ?_))
              refine ls_keep [(2, .bool false)] ⟨kr, trivial⟩ rfl ?_
              refine ls_ret ?_
              have hr := Option.some.inj h
              rw [← hr]
              exact ⟨.inl rfl, rfl⟩
            · refine ls_cF rfl g24 ?_
              refine ls_skip ?_
              refine hK20 _ (ls_keep [(5, .box [.int .i64 v10.1.1, .own 30 v10.1.2.length (v10.1.2.flatMap c30_o)]), (7, .int .i64 v10.2)] ⟨kr, kr, trivial⟩ rfl ?_)
              refine ls_rs tbOk ?_
              refine evs (ev_ac rfl nofun rfl (evn ?_))
              refine ls_keep [(5, .box [.int .i64 v10.1.1, .own 30 v10.1.2.length (v10.1.2.flatMap c30_o)]), (7, .int .i64 v10.2), (8, .int .i64 1)] ⟨kr, kr, kr, trivial⟩ rfl ?_
              refine ls_rs tbOk ?_
              refine evs (ev_ldB (off := 0) (v := .agg [.int .i64 v10.1.1, .dat v10.1.2.length (v10.1.2.flatMap c30_o)]) rfl rfl rfl rfl (Nat.le_of_ble_eq_true rfl) rfl (evs (ev_mv (c := .int .i64 1) rfl rfl rfl (?_))))
              obtain ⟨v25, g26, h⟩ := ob_some h
              refine evs (ev_call (era rfl (erg (erc rfl (erc (erD ec30_o _) rfl))) (era rfl rfl eran)) (laws_heldRelation_s g26) (evs (ev_as (c := .int .i64 v25) rfl rfl rfl (evn ?_))))
              refine ls_keep [(7, .int .i64 v10.2), (8, .int .i64 v25)] ⟨kr, kr, trivial⟩ rfl ?_
              refine ls_seq_k fun K27 hK27 => ?_
              refine ls_rs tbOk ?_
              refine evs (ev_mv (c := .int .i64 v25) rfl rfl rfl (evs (ev_bin (c1 := .int .i64 v25) (c2 := .int .i64 0) rfl rfl rfl (evn ?_))))
              refine ls_keep [(7, .int .i64 v10.2), (8, .int .i64 v25), (59, .bool (decide (v25 < 0)))] ⟨kr, kr, kr, trivial⟩ rfl ?_
              rcases cond_some h with ⟨g28, h⟩ | ⟨g28, h⟩
              · refine ls_cT rfl g28 ?_
                refine ls_rs tbOk ?_
                refine evs (ev_ac rfl nofun rfl (evn ?_))
                refine ls_keep [(2, .bool false)] ⟨kr, trivial⟩ rfl ?_
                refine ls_ret ?_
                have hr := Option.some.inj h
                rw [← hr]
                exact ⟨.inl rfl, rfl⟩
              · refine ls_cF rfl g28 ?_
                refine ls_skip ?_
                refine hK27 _ (ls_keep [(7, .int .i64 v10.2), (8, .int .i64 v25)] ⟨kr, kr, trivial⟩ rfl ?_)
                refine ls_seq_k fun K29 hK29 => ?_
                refine ls_rs tbOk ?_
                refine evs (ev_mv (c := .int .i64 v25) rfl rfl rfl (evs (ev_mv (c := .int .i64 v10.2) rfl rfl rfl (evs (ev_bin (c1 := .int .i64 v25) (c2 := .int .i64 v10.2) rfl rfl rfl (evn ?_))))))
                refine ls_keep [(62, .bool (v25 != v10.2))] ⟨kr, trivial⟩ rfl ?_
                rcases cond_some h with ⟨g30, h⟩ | ⟨g30, h⟩
                · refine ls_cT rfl g30 ?_
                  refine ls_rs tbOk ?_
                  refine evs (ev_ac rfl nofun rfl (evn ?_))
                  refine ls_keep [(2, .bool false)] ⟨kr, trivial⟩ rfl ?_
                  refine ls_ret ?_
                  have hr := Option.some.inj h
                  rw [← hr]
                  exact ⟨.inl rfl, rfl⟩
                · refine ls_cF rfl g30 ?_
                  refine ls_skip ?_
                  refine hK29 _ (ls_keep [] trivial rfl ?_)
                  refine ls_rs tbOk ?_
                  refine evs (ev_ac rfl nofun rfl (evn ?_))
                  refine ls_keep [(2, .bool true)] ⟨kr, trivial⟩ rfl ?_
                  refine ls_ret ?_
                  have hr := Option.some.inj h
                  rw [← hr]
                  exact ⟨.inl rfl, rfl⟩
end Go.Proofs.Ytkmkbpphdalgoaa
