/-
  Functions of the program as typed functions, printed by gen.py, and that the program's functions do what they say. No conditions.
-/
import Derived.Test.YtkcfahfladikkaaGSN1
namespace Go.Proofs.Ytkcfahfladikkaa
open Go.RowKit
set_option linter.unusedVariables false
set_option maxRecDepth 100000
set_option maxHeartbeats 1000000
def impl_CompareRows_B1 (a0 : List Int) (a1 : List Int) (rec : Int → Option (Sum (Unit) (Int))) (y1 : Int) : Option (Sum (Unit) (Int)) := cond (decide (y1 < (List.length a0 : Int))) (cond (decide (y1 < (List.length a1 : Int))) (obind (geti a0 y1) fun e6 => obind (geti a1 y1) fun e8 => cond (e6 != e8) (obind (geti a0 y1) fun e11 => obind (geti a1 y1) fun e13 => obind (impl_compareInts e11 e13) fun v15 => some (.inr v15)) (rec (IntKind.i64.wrap (y1 + 1)))) (some (.inl ()))) (some (.inl ()))
def impl_CompareRows (a0 : List Int) (a1 : List Int) : Option (Int) := obind (loopF (impl_CompareRows_B1 a0 a1) fz 0) fun o1 => (match o1 with
  | .inl _ => (obind (impl_compareInts (List.length a0 : Int) (List.length a1 : Int)) fun v17 => some v17)
  | .inr r => some r)
theorem impl_CompareRows_s {a0 : List Int} {a1 : List Int} {r : Int} (h : impl_CompareRows a0 a1 = some r) : SoundAt Try.prog 255 [.dat a0.length (a0.flatMap ci64), .dat a1.length (a1.flatMap ci64)] (.int .i64 r) := by
  unfold impl_CompareRows at h
  refine sound_lit tbOk lit255 (Nat.le_of_ble_eq_true rfl) rfl ?_
  unfold c255
  refine ls_keep [(0, .dat a0.length (a0.flatMap ci64)), (1, .dat a1.length (a1.flatMap ci64))] ⟨kr, kr, trivial⟩ rfl ?_
  refine ls_rs tbOk ?_
  refine evs (ev_ac rfl nofun rfl (evn ?_))
  refine ls_keep [(0, .dat a0.length (a0.flatMap ci64)), (1, .dat a1.length (a1.flatMap ci64))] ⟨kr, kr, trivial⟩ rfl ?_
  refine ls_seq_k fun K1 hK1 => ?_
  refine ls_rs tbOk ?_
  refine evs (ev_ac rfl nofun rfl (evn ?_))
  refine ls_keep [(0, .dat a0.length (a0.flatMap ci64)), (1, .dat a1.length (a1.flatMap ci64)), (5, .int .i64 0)] ⟨kr, kr, kr, trivial⟩ rfl ?_
  obtain ⟨o1, hl, hr1⟩ := ob_some h
  clear h
  have kXimpl_CompareRows_B1 : ∀ (_ : Unit), (obind (impl_compareInts (List.length a0 : Int) (List.length a1 : Int)) fun v17 => some v17) = some r → ∀ σ' : PS, okK σ' [(0, .dat a0.length (a0.flatMap ci64)), (1, .dat a1.length (a1.flatMap ci64))] → K1 σ' := by
    intro _ h σ' hk
    refine hK1 _ (ls_keep [(0, .dat a0.length (a0.flatMap ci64)), (1, .dat a1.length (a1.flatMap ci64))] hk rfl ?_)
    refine ls_rs tbOk ?_
    refine evs (ev_mv (c := .dat a0.length (a0.flatMap ci64)) rfl rfl rfl (evs (ev_len (c1 := .dat a0.length (a0.flatMap ci64)) rfl rfl rfl (evs (ev_mv (c := .dat a1.length (a1.flatMap ci64)) rfl rfl rfl (evs (ev_len (c1 := .dat a1.length (a1.flatMap ci64)) rfl rfl rfl (?_))))))))
    obtain ⟨v17, g18, h⟩ := ob_some h
    refine evs (ev_call (era rfl rfl (era rfl rfl eran)) (impl_compareInts_s g18) (evs (ev_as (c := .int .i64 v17) rfl rfl rfl (evn ?_))))
    refine ls_keep [(4, .int .i64 v17)] ⟨kr, trivial⟩ rfl ?_
    refine ls_ret ?_
    have hr := Option.some.inj h
    rw [← hr]
    exact ⟨.inl rfl, rfl⟩
  refine ls_rec (fun (y1 : Int) => [(0, .dat a0.length (a0.flatMap ci64)), (1, .dat a1.length (a1.flatMap ci64)), (5, .int .i64 y1)]) (impl_CompareRows_B1 a0 a1) fz 0 o1 hl ⟨kr, kr, kr, trivial⟩ (fun _ => rfl) ?_
  rintro m y1 N h hN
  unfold impl_CompareRows_B1 at h
  refine ls_seq_k fun K2 hK2 => ?_
  refine ls_rs tbOk ?_
  refine evs (ev_mv (c := .int .i64 y1) rfl rfl rfl (evs (ev_mv (c := .dat a0.length (a0.flatMap ci64)) rfl rfl rfl (evs (ev_len (c1 := .dat a0.length (a0.flatMap ci64)) rfl rfl rfl (evs (ev_bin (c1 := .int .i64 y1) (c2 := .int .i64 (List.length a0 : Int)) rfl rfl rfl (evs (ev_mv (c := .bool (decide (y1 < (List.length a0 : Int)))) rfl rfl rfl (?_))))))))))
  rcases cond_some h with ⟨g3, h⟩ | ⟨g3, h⟩
  · refine evs (ev_gr rfl (congrArg V.bool g3) (ev_mv (c := .int .i64 y1) rfl rfl rfl (evs (ev_gr rfl (congrArg V.bool g3) (ev_mv (c := .dat a1.length (a1.flatMap ci64)) rfl rfl rfl (evs (ev_gr rfl (congrArg V.bool g3) (ev_len (c1 := .dat a1.length (a1.flatMap ci64)) rfl rfl rfl (evs (ev_gr rfl (congrArg V.bool g3) (ev_bin (c1 := .int .i64 y1) (c2 := .int .i64 (List.length a1 : Int)) rfl rfl rfl (evs (ev_pkT (c1 := .bool (decide (y1 < (List.length a1 : Int)))) rfl g3 rfl rfl (evn ?_))))))))))))))
    refine ls_keep [(0, .dat a0.length (a0.flatMap ci64)), (1, .dat a1.length (a1.flatMap ci64)), (5, .int .i64 y1), (15, .bool (decide (y1 < (List.length a1 : Int))))] ⟨kr, kr, kr, kr, trivial⟩ rfl ?_
    rcases cond_some h with ⟨g4, h⟩ | ⟨g4, h⟩
    · refine ls_cT rfl g4 ?_
      refine ls_skip ?_
      refine hK2 _ (ls_keep [(0, .dat a0.length (a0.flatMap ci64)), (1, .dat a1.length (a1.flatMap ci64)), (5, .int .i64 y1)] ⟨kr, kr, kr, trivial⟩ rfl ?_)
      refine ls_seq_k fun K5 hK5 => ?_
      refine ls_blk ?_
      refine ls_rd tbOk mixed (by kernel_rfl) ?_
      refine evd rfl rfl (ev_mv (c := .dat a0.length (a0.flatMap ci64)) rfl rfl rfl (evd rfl rfl (ev_mv (c := .int .i64 y1) rfl rfl rfl (?_))))
      obtain ⟨e6, g7, h⟩ := ob_some h
      refine evd rfl rfl (ev_ia rfl rfl rfl ⟨(geti_some g7).1, (geti_some g7).2.1⟩ (evd rfl rfl (ev_ldE (i := y1) (n := 1) (off := 0) (v := .int .i64 e6) rfl rfl zci64 g7 rfl (Nat.le_of_ble_eq_true rfl) rfl (evd rfl rfl (ev_mv (c := .dat a1.length (a1.flatMap ci64)) rfl rfl rfl (evd rfl rfl (ev_mv (c := .int .i64 y1) rfl rfl rfl (?_))))))))
      obtain ⟨e8, g9, h⟩ := ob_some h
      refine evd rfl rfl (ev_ia rfl rfl rfl ⟨(geti_some g9).1, (geti_some g9).2.1⟩ (evd rfl rfl (ev_ldE (i := y1) (n := 1) (off := 0) (v := .int .i64 e8) rfl rfl zci64 g9 rfl (Nat.le_of_ble_eq_true rfl) rfl (evd rfl rfl (ev_bin (c1 := .int .i64 e6) (c2 := .int .i64 e8) rfl rfl rfl (evdn ?_))))))
      refine ls_keep [(0, .dat a0.length (a0.flatMap ci64)), (1, .dat a1.length (a1.flatMap ci64)), (5, .int .i64 y1), (26, .bool (e6 != e8))] ⟨kr, kr, kr, kr, trivial⟩ rfl ?_
      rcases cond_some h with ⟨g10, h⟩ | ⟨g10, h⟩
      · refine ls_cT rfl g10 ?_
        refine ls_rd tbOk mixed (by kernel_rfl) ?_
        refine evd rfl rfl (ev_mv (c := .dat a0.length (a0.flatMap ci64)) rfl rfl rfl (evd rfl rfl (ev_mv (c := .int .i64 y1) rfl rfl rfl (?_))))
        obtain ⟨e11, g12, h⟩ := ob_some h
        refine evd rfl rfl (ev_ia rfl rfl rfl ⟨(geti_some g12).1, (geti_some g12).2.1⟩ (evd rfl rfl (ev_ldE (i := y1) (n := 1) (off := 0) (v := .int .i64 e11) rfl rfl zci64 g12 rfl (Nat.le_of_ble_eq_true rfl) rfl (evd rfl rfl (ev_mv (c := .dat a1.length (a1.flatMap ci64)) rfl rfl rfl (evd rfl rfl (ev_mv (c := .int .i64 y1) rfl rfl rfl (?_))))))))
        obtain ⟨e13, g14, h⟩ := ob_some h
        refine evd rfl rfl (ev_ia rfl rfl rfl ⟨(geti_some g14).1, (geti_some g14).2.1⟩ (evd rfl rfl (ev_ldE (i := y1) (n := 1) (off := 0) (v := .int .i64 e13) rfl rfl zci64 g14 rfl (Nat.le_of_ble_eq_true rfl) rfl (?_))))
        obtain ⟨v15, g16, h⟩ := ob_some h
        refine evd rfl rfl (ev_call (era rfl rfl (era rfl rfl eran)) (impl_compareInts_s g16) (evd rfl rfl (ev_as (c := .int .i64 v15) rfl rfl rfl (evdn ?_))))
        refine ls_keep [(4, .int .i64 v15)] ⟨kr, trivial⟩ rfl ?_
        refine ls_ret ?_
        have q0 := (Option.some.inj h).symm
        have r0 := hr1
        rw [q0] at r0
        have hr := Option.some.inj r0
        rw [← hr]
        exact ⟨.inl rfl, rfl⟩
      · refine ls_cF rfl g10 ?_
        refine ls_skip ?_
        refine hK5 _ (ls_keep [(0, .dat a0.length (a0.flatMap ci64)), (1, .dat a1.length (a1.flatMap ci64)), (5, .int .i64 y1)] ⟨kr, kr, kr, trivial⟩ rfl ?_)
        refine ls_rgn tbOk ?_
        refine evs (ev_mv (c := .int .i64 y1) rfl rfl rfl (evs (ev_bin (c1 := .int .i64 y1) (c2 := .int .i64 1) rfl rfl rfl (evs (ev_as (c := .int .i64 (IntKind.i64.wrap (y1 + 1))) rfl rfl rfl (evn ?_))))))
        exact hN _ (IntKind.i64.wrap (y1 + 1)) h ⟨kr, kr, kr, trivial⟩
    · refine ls_cF rfl g4 ?_
      refine ls_exit ?_
      have q0 := (Option.some.inj h).symm
      have r0 := hr1
      rw [q0] at r0
      exact kXimpl_CompareRows_B1 () r0 _ ⟨kr, kr, trivial⟩
  · refine evs (ev_gs rfl rfl (isb_F g3) (evs (ev_gs rfl rfl (isb_F g3) (evs (ev_gs rfl rfl (isb_F g3) (evs (ev_gs rfl rfl (isb_F g3) (evs (ev_pkF (c1 := .bool false) rfl g3 rfl rfl (evn ?_))))))))))
    refine ls_keep [(0, .dat a0.length (a0.flatMap ci64)), (1, .dat a1.length (a1.flatMap ci64)), (5, .int .i64 y1), (15, .bool false)] ⟨kr, kr, kr, kr, trivial⟩ rfl ?_
    refine ls_cF rfl rfl ?_
    refine ls_exit ?_
    have q0 := (Option.some.inj h).symm
    have r0 := hr1
    rw [q0] at r0
    exact kXimpl_CompareRows_B1 () r0 _ ⟨kr, kr, trivial⟩
def impl_AreValidValues_B1 (a0 : List Int) (rec : Int → Option (Sum (Unit) (Bool))) (y1 : Int) : Option (Sum (Unit) (Bool)) := cond (decide (y1 < (List.length a0 : Int))) (obind (geti a0 y1) fun e5 => obind (impl_within e5 0 99) fun v7 => cond (!v7) (some (.inr false)) (rec (IntKind.i64.wrap (y1 + 1)))) (some (.inl ()))
def impl_AreValidValues (a0 : List Int) : Option (Bool) := obind (loopF (impl_AreValidValues_B1 a0) fz 0) fun o1 => (match o1 with
  | .inl _ => (some true)
  | .inr r => some r)
theorem impl_AreValidValues_s {a0 : List Int} {r : Bool} (h : impl_AreValidValues a0 = some r) : SoundAt Try.prog 258 [.dat a0.length (a0.flatMap ci64)] (.bool r) := by
  unfold impl_AreValidValues at h
  refine sound_lit tbOk lit258 (Nat.le_of_ble_eq_true rfl) rfl ?_
  unfold c258
  refine ls_keep [(0, .dat a0.length (a0.flatMap ci64))] ⟨kr, trivial⟩ rfl ?_
  refine ls_rs tbOk ?_
  refine evs (ev_ac rfl nofun rfl (evn ?_))
  refine ls_keep [(0, .dat a0.length (a0.flatMap ci64))] ⟨kr, trivial⟩ rfl ?_
  refine ls_seq_k fun K1 hK1 => ?_
  refine ls_rs tbOk ?_
  refine evs (ev_mv (c := .dat a0.length (a0.flatMap ci64)) rfl rfl rfl (evs (ev_len (c1 := .dat a0.length (a0.flatMap ci64)) rfl rfl rfl (evs (ev_mc rfl rfl (evn ?_))))))
  refine ls_keep [(5, .dat a0.length (a0.flatMap ci64)), (6, .int .i64 (List.length a0 : Int)), (7, .int .i64 0)] ⟨kr, kr, kr, trivial⟩ rfl ?_
  obtain ⟨o1, hl, hr1⟩ := ob_some h
  clear h
  have kXimpl_AreValidValues_B1 : ∀ (_ : Unit), (some true) = some r → ∀ σ' : PS, okK σ' [] → K1 σ' := by
    intro _ h σ' hk
    refine hK1 _ (ls_keep [] hk rfl ?_)
    refine ls_rs tbOk ?_
    refine evs (ev_ac rfl nofun rfl (evn ?_))
    refine ls_keep [(2, .bool true)] ⟨kr, trivial⟩ rfl ?_
    refine ls_ret ?_
    have hr := Option.some.inj h
    rw [← hr]
    exact ⟨.inl rfl, rfl⟩
  refine ls_rec (fun (y1 : Int) => [(5, .dat a0.length (a0.flatMap ci64)), (6, .int .i64 (List.length a0 : Int)), (7, .int .i64 y1)]) (impl_AreValidValues_B1 a0) fz 0 o1 hl ⟨kr, kr, kr, trivial⟩ (fun _ => rfl) ?_
  rintro m y1 N h hN
  unfold impl_AreValidValues_B1 at h
  refine ls_rs tbOk ?_
  refine evs (ev_bin (c1 := .int .i64 y1) (c2 := .int .i64 (List.length a0 : Int)) rfl rfl rfl (evn ?_))
  refine ls_keep [(5, .dat a0.length (a0.flatMap ci64)), (6, .int .i64 (List.length a0 : Int)), (7, .int .i64 y1), (8, .bool (decide (y1 < (List.length a0 : Int))))] ⟨kr, kr, kr, kr, trivial⟩ rfl ?_
  refine ls_seq_k fun K2 hK2 => ?_
  rcases cond_some h with ⟨g3, h⟩ | ⟨g3, h⟩
  · refine ls_cT rfl g3 ?_
    refine ls_skip ?_
    refine hK2 _ (ls_keep [(5, .dat a0.length (a0.flatMap ci64)), (6, .int .i64 (List.length a0 : Int)), (7, .int .i64 y1)] ⟨kr, kr, kr, trivial⟩ rfl ?_)
    refine ls_seq_k fun K4 hK4 => ?_
    refine ls_blk ?_
    refine ls_rs tbOk ?_
    obtain ⟨e5, g6, h⟩ := ob_some h
    refine evs (ev_ia rfl rfl rfl ⟨(geti_some g6).1, (geti_some g6).2.1⟩ (evs (ev_ldE (i := y1) (n := 1) (off := 0) (v := .int .i64 e5) rfl rfl zci64 g6 rfl (Nat.le_of_ble_eq_true rfl) rfl (evs (ev_as (c := .int .i64 e5) rfl rfl rfl (evn ?_))))))
    refine ls_keep [(4, .int .i64 e5), (5, .dat a0.length (a0.flatMap ci64)), (6, .int .i64 (List.length a0 : Int)), (7, .int .i64 y1)] ⟨kr, kr, kr, kr, trivial⟩ rfl ?_
    refine ls_rs tbOk ?_
    refine evs (ev_mv (c := .int .i64 e5) rfl rfl rfl (?_))
    obtain ⟨v7, g8, h⟩ := ob_some h
    refine evs (ev_call (era rfl rfl (era rfl rfl (era rfl rfl eran))) (impl_within_s g8) (evs (ev_un (c1 := .bool v7) rfl trivial (evn ?_))))
    refine ls_keep [(5, .dat a0.length (a0.flatMap ci64)), (6, .int .i64 (List.length a0 : Int)), (7, .int .i64 y1), (13, .bool (!v7))] ⟨kr, kr, kr, kr, trivial⟩ rfl ?_
    rcases cond_some h with ⟨g9, h⟩ | ⟨g9, h⟩
    · refine ls_cT rfl g9 ?_
      refine ls_rs tbOk ?_
      refine evs (ev_ac rfl nofun rfl (evn ?_))
      refine ls_keep [(2, .bool false)] ⟨kr, trivial⟩ rfl ?_
      refine ls_ret ?_
      have q0 := (Option.some.inj h).symm
      have r0 := hr1
      rw [q0] at r0
      have hr := Option.some.inj r0
      rw [← hr]
      exact ⟨.inl rfl, rfl⟩
    · refine ls_cF rfl g9 ?_
      refine ls_skip ?_
      refine hK4 _ (ls_keep [(5, .dat a0.length (a0.flatMap ci64)), (6, .int .i64 (List.length a0 : Int)), (7, .int .i64 y1)] ⟨kr, kr, kr, trivial⟩ rfl ?_)
      refine ls_rgn tbOk ?_
      refine evs (ev_bin (c1 := .int .i64 y1) (c2 := .int .i64 1) rfl rfl rfl (evs (ev_mv (c := .int .i64 (IntKind.i64.wrap (y1 + 1))) rfl rfl rfl (evn ?_))))
      exact hN _ (IntKind.i64.wrap (y1 + 1)) h ⟨kr, kr, kr, trivial⟩
  · refine ls_cF rfl g3 ?_
    refine ls_exit ?_
    have q0 := (Option.some.inj h).symm
    have r0 := hr1
    rw [q0] at r0
    exact kXimpl_AreValidValues_B1 () r0 _ trivial
def impl_rowsValid_J2 (rec : Int → Option (Sum (Unit) (Bool))) (y1 : Int) (x13 : Bool) : Option (Sum (Unit) (Bool)) := cond x13 (some (.inr false)) (rec (IntKind.i64.wrap (y1 + 1)))
def impl_rowsValid_B1 (a0 : Int) (a1 : List (List Int)) (rec : Int → Option (Sum (Unit) (Bool))) (y1 : Int) : Option (Sum (Unit) (Bool)) := cond (decide (y1 < (List.length a1 : Int))) (obind (geti a1 y1) fun e10 => cond ((List.length e10 : Int) != a0) (impl_rowsValid_J2 rec y1 true) (obind (impl_AreValidValues e10) fun v16 => cond (!v16) (impl_rowsValid_J2 rec y1 true) (cond (decide (0 < y1)) (obind (geti a1 (IntKind.i64.wrap (y1 - 1))) fun e20 => obind (impl_CompareRows e20 e10) fun v22 => impl_rowsValid_J2 rec y1 (decide (0 ≤ v22))) (impl_rowsValid_J2 rec y1 false)))) (some (.inl ()))
def impl_rowsValid (a0 : Int) (a1 : List (List Int)) : Option (Bool) := obind (impl_within a0 0 5) fun v2 => cond (!v2) (some false) (cond (decide (4000 < (List.length a1 : Int))) (some false) (obind (loopF (impl_rowsValid_B1 a0 a1) fz 0) fun o1 => (match o1 with
  | .inl _ => (some true)
  | .inr r => some r)))
theorem impl_rowsValid_s {a0 : Int} {a1 : List (List Int)} {r : Bool} (h : impl_rowsValid a0 a1 = some r) : SoundAt Try.prog 244 [.int .i64 a0, .dat a1.length (a1.flatMap c25_d)] (.bool r) := by
  unfold impl_rowsValid at h
  refine sound_lit tbOk lit244 (Nat.le_of_ble_eq_true rfl) rfl ?_
  unfold c244
  refine ls_keep [(0, .int .i64 a0), (1, .dat a1.length (a1.flatMap c25_d))] ⟨kr, kr, trivial⟩ rfl ?_
  refine ls_rs tbOk ?_
  refine evs (ev_ac rfl nofun rfl (evn ?_))
  refine ls_keep [(0, .int .i64 a0), (1, .dat a1.length (a1.flatMap c25_d))] ⟨kr, kr, trivial⟩ rfl ?_
  refine ls_seq_k fun K1 hK1 => ?_
  refine ls_rs tbOk ?_
  refine evs (ev_mv (c := .int .i64 a0) rfl rfl rfl (?_))
  obtain ⟨v2, g3, h⟩ := ob_some h
  refine evs (ev_call (era rfl rfl (era rfl rfl (era rfl rfl eran))) (impl_within_s g3) (evs (ev_un (c1 := .bool v2) rfl trivial (evs (ev_mv (c := .bool (!v2)) rfl rfl rfl (?_))))))
  rcases cond_some h with ⟨g4, h⟩ | ⟨g4, h⟩
  · refine evs (ev_gs rfl rfl (isb_T g4) (evs (ev_gs rfl rfl (isb_T g4) (evs (ev_gs rfl rfl (isb_T g4) (evs (ev_pkT (c1 := .bool true) rfl g4 rfl rfl (evn ?_))))))))
    refine ls_keep [(0, .int .i64 a0), (1, .dat a1.length (a1.flatMap c25_d)), (14, .bool true)] ⟨kr, kr, kr, trivial⟩ rfl ?_
    refine ls_cT rfl rfl ?_
    refine ls_rs tbOk ?_
    refine evs (ev_ac rfl nofun rfl (evn ?_))
    refine ls_keep [(4, .bool false)] ⟨kr, trivial⟩ rfl ?_
    refine ls_ret ?_
    have hr := Option.some.inj h
    rw [← hr]
    exact ⟨.inl rfl, rfl⟩
  · refine evs (ev_gr rfl (congrArg V.bool g4) (ev_mv (c := .dat a1.length (a1.flatMap c25_d)) rfl rfl rfl (evs (ev_gr rfl (congrArg V.bool g4) (ev_len (c1 := .dat a1.length (a1.flatMap c25_d)) rfl rfl rfl (evs (ev_gr rfl (congrArg V.bool g4) (ev_bin (c1 := .int .i64 (List.length a1 : Int)) (c2 := .int .i64 4000) rfl rfl rfl (evs (ev_pkF (c1 := .bool (decide (4000 < (List.length a1 : Int)))) rfl g4 rfl rfl (evn ?_)))))))))))
    refine ls_keep [(0, .int .i64 a0), (1, .dat a1.length (a1.flatMap c25_d)), (14, .bool (decide (4000 < (List.length a1 : Int))))] ⟨kr, kr, kr, trivial⟩ rfl ?_
    rcases cond_some h with ⟨g5, h⟩ | ⟨g5, h⟩
    · refine ls_cT rfl g5 ?_
      refine ls_rs tbOk ?_
      refine evs (ev_ac rfl nofun rfl (evn ?_))
      refine ls_keep [(4, .bool false)] ⟨kr, trivial⟩ rfl ?_
      refine ls_ret ?_
      have hr := Option.some.inj h
      rw [← hr]
      exact ⟨.inl rfl, rfl⟩
    · refine ls_cF rfl g5 ?_
      refine ls_skip ?_
      refine hK1 _ (ls_keep [(0, .int .i64 a0), (1, .dat a1.length (a1.flatMap c25_d))] ⟨kr, kr, trivial⟩ rfl ?_)
      refine ls_seq_k fun K6 hK6 => ?_
      refine ls_rs tbOk ?_
      refine evs (ev_mv (c := .dat a1.length (a1.flatMap c25_d)) rfl rfl rfl (evs (ev_len (c1 := .dat a1.length (a1.flatMap c25_d)) rfl rfl rfl (evs (ev_mc rfl rfl (evn ?_))))))
      refine ls_keep [(0, .int .i64 a0), (1, .dat a1.length (a1.flatMap c25_d)), (15, .dat a1.length (a1.flatMap c25_d)), (16, .int .i64 (List.length a1 : Int)), (17, .int .i64 0)] ⟨kr, kr, kr, kr, kr, trivial⟩ rfl ?_
      obtain ⟨o1, hl, hr1⟩ := ob_some h
      clear h
      have kXimpl_rowsValid_B1 : ∀ (_ : Unit), (some true) = some r → ∀ σ' : PS, okK σ' [] → K6 σ' := by
        intro _ h σ' hk
        refine hK6 _ (ls_keep [] hk rfl ?_)
        refine ls_rs tbOk ?_
        refine evs (ev_ac rfl nofun rfl (evn ?_))
        refine ls_keep [(4, .bool true)] ⟨kr, trivial⟩ rfl ?_
        refine ls_ret ?_
        have hr := Option.some.inj h
        rw [← hr]
        exact ⟨.inl rfl, rfl⟩
      refine ls_rec (fun (y1 : Int) => [(0, .int .i64 a0), (1, .dat a1.length (a1.flatMap c25_d)), (15, .dat a1.length (a1.flatMap c25_d)), (16, .int .i64 (List.length a1 : Int)), (17, .int .i64 y1)]) (impl_rowsValid_B1 a0 a1) fz 0 o1 hl ⟨kr, kr, kr, kr, kr, trivial⟩ (fun _ => rfl) ?_
      rintro m y1 N h hN
      unfold impl_rowsValid_B1 at h
      refine ls_rs tbOk ?_
      refine evs (ev_bin (c1 := .int .i64 y1) (c2 := .int .i64 (List.length a1 : Int)) rfl rfl rfl (evn ?_))
      refine ls_keep [(0, .int .i64 a0), (1, .dat a1.length (a1.flatMap c25_d)), (15, .dat a1.length (a1.flatMap c25_d)), (16, .int .i64 (List.length a1 : Int)), (17, .int .i64 y1), (18, .bool (decide (y1 < (List.length a1 : Int))))] ⟨kr, kr, kr, kr, kr, kr, trivial⟩ rfl ?_
      refine ls_seq_k fun K7 hK7 => ?_
      rcases cond_some h with ⟨g8, h⟩ | ⟨g8, h⟩
      · refine ls_cT rfl g8 ?_
        refine ls_skip ?_
        refine hK7 _ (ls_keep [(0, .int .i64 a0), (1, .dat a1.length (a1.flatMap c25_d)), (15, .dat a1.length (a1.flatMap c25_d)), (16, .int .i64 (List.length a1 : Int)), (17, .int .i64 y1)] ⟨kr, kr, kr, kr, kr, trivial⟩ rfl ?_)
        refine ls_seq_k fun K9 hK9 => ?_
        refine ls_blk ?_
        refine ls_rs tbOk ?_
        refine evs (ev_mv (c := .int .i64 y1) rfl rfl rfl (?_))
        obtain ⟨e10, g11, h⟩ := ob_some h
        refine evs (ev_ia rfl rfl rfl ⟨(geti_some g11).1, (geti_some g11).2.1⟩ (evs (ev_ldEt (i := y1) (n := 1) (off := 0) (v := .dat e10.length (e10.flatMap ci64)) rfl rfl zc25_d g11 rfl (Nat.le_of_ble_eq_true rfl) rfl (evs (ev_as (c := .int .i64 y1) rfl rfl rfl (evs (ev_as (c := .dat e10.length (e10.flatMap ci64)) rfl rfl rfl (evn ?_))))))))
        refine ls_keep [(0, .int .i64 a0), (1, .dat a1.length (a1.flatMap c25_d)), (5, .int .i64 y1), (6, .dat e10.length (e10.flatMap ci64)), (15, .dat a1.length (a1.flatMap c25_d)), (16, .int .i64 (List.length a1 : Int)), (17, .int .i64 y1)] ⟨kr, kr, kr, kr, kr, kr, kr, trivial⟩ rfl ?_
        refine ls_rs_k tbOk fun K12 hK12 => ?_
        have kimpl_rowsValid_J2 : ∀ (x13 : Bool), impl_rowsValid_J2 (loopF (impl_rowsValid_B1 a0 a1) m) y1 x13 = some o1 → ∀ σ' : PS, okK σ' [(0, .int .i64 a0), (1, .dat a1.length (a1.flatMap c25_d)), (15, .dat a1.length (a1.flatMap c25_d)), (16, .int .i64 (List.length a1 : Int)), (17, .int .i64 y1), (44, .bool x13)] → K12 σ' := by
          intro x13 h σ' hk
          unfold impl_rowsValid_J2 at h
          refine hK12 _ (ls_keep [(0, .int .i64 a0), (1, .dat a1.length (a1.flatMap c25_d)), (15, .dat a1.length (a1.flatMap c25_d)), (16, .int .i64 (List.length a1 : Int)), (17, .int .i64 y1), (44, .bool x13)] hk rfl ?_)
          rcases cond_some h with ⟨g14, h⟩ | ⟨g14, h⟩
          · refine ls_cT rfl g14 ?_
            refine ls_rs tbOk ?_
            refine evs (ev_ac rfl nofun rfl (evn ?_))
            refine ls_keep [(4, .bool false)] ⟨kr, trivial⟩ rfl ?_
            refine ls_ret ?_
            have q0 := (Option.some.inj h).symm
            have r0 := hr1
            rw [q0] at r0
            have hr := Option.some.inj r0
            rw [← hr]
            exact ⟨.inl rfl, rfl⟩
          · refine ls_cF rfl g14 ?_
            refine ls_skip ?_
            refine hK9 _ (ls_keep [(0, .int .i64 a0), (1, .dat a1.length (a1.flatMap c25_d)), (15, .dat a1.length (a1.flatMap c25_d)), (16, .int .i64 (List.length a1 : Int)), (17, .int .i64 y1)] ⟨kr, kr, kr, kr, kr, trivial⟩ rfl ?_)
            refine ls_rgn tbOk ?_
            refine evs (ev_bin (c1 := .int .i64 y1) (c2 := .int .i64 1) rfl rfl rfl (evs (ev_mv (c := .int .i64 (IntKind.i64.wrap (y1 + 1))) rfl rfl rfl (evn ?_))))
            exact hN _ (IntKind.i64.wrap (y1 + 1)) h ⟨kr, kr, kr, kr, kr, trivial⟩
        refine evs (ev_mv (c := .dat e10.length (e10.flatMap ci64)) rfl rfl rfl (evs (ev_len (c1 := .dat e10.length (e10.flatMap ci64)) rfl rfl rfl (evs (ev_mv (c := .int .i64 a0) rfl rfl rfl (evs (ev_bin (c1 := .int .i64 (List.length e10 : Int)) (c2 := .int .i64 a0) rfl rfl rfl (evs (ev_mv (c := .bool ((List.length e10 : Int) != a0)) rfl rfl rfl (?_))))))))))
        rcases cond_some h with ⟨g15, h⟩ | ⟨g15, h⟩
        · refine evs (ev_gs rfl rfl (isb_T g15) (evs (ev_gs rfl rfl (isb_T g15) (evs (ev_gs rfl rfl (isb_T g15) (evs (ev_pkT (c1 := .bool true) rfl g15 rfl rfl (evs (ev_mv (c := .bool true) rfl rfl rfl (evs (ev_gs rfl rfl rfl (evs (ev_gs rfl rfl rfl (evs (ev_gs rfl rfl rfl (evs (ev_gs rfl rfl rfl (evs (ev_gs rfl rfl rfl (evs (ev_gs rfl rfl rfl (evs (ev_gs rfl rfl rfl (evs (ev_gs rfl rfl rfl (evs (ev_gs rfl rfl rfl (evs (ev_gs rfl rfl rfl (evs (ev_gs rfl rfl rfl (evs (ev_gs rfl rfl rfl (evs (ev_pkT (c1 := .bool true) rfl rfl rfl rfl (evn ?_))))))))))))))))))))))))))))))))))))
          exact kimpl_rowsValid_J2 true h _ ⟨kr, kr, kr, kr, kr, kr, trivial⟩
        · refine evs (ev_gr rfl (congrArg V.bool g15) (ev_mv (c := .dat e10.length (e10.flatMap ci64)) rfl rfl rfl (?_)))
          obtain ⟨v16, g17, h⟩ := ob_some h
          refine evs (ev_gr rfl (congrArg V.bool g15) (ev_call (era rfl (erD eci64 _) eran) (impl_AreValidValues_s g17) (evs (ev_gr rfl (congrArg V.bool g15) (ev_un (c1 := .bool v16) rfl trivial (evs (ev_pkF (c1 := .bool (!v16)) rfl g15 rfl rfl (evs (ev_mv (c := .bool (!v16)) rfl rfl rfl (?_))))))))))
          rcases cond_some h with ⟨g18, h⟩ | ⟨g18, h⟩
          · refine evs (ev_gs rfl rfl (isb_T g18) (evs (ev_gs rfl rfl (isb_T g18) (evs (ev_gs rfl rfl (isb_T g18) (evs (ev_gs rfl rfl rfl (evs (ev_gs rfl rfl rfl (evs (ev_gs rfl rfl rfl (evs (ev_gs rfl rfl rfl (evs (ev_gs rfl rfl rfl (evs (ev_gs rfl rfl rfl (evs (ev_gs rfl rfl rfl (evs (ev_gs rfl rfl rfl (evs (ev_gs rfl rfl (isb_T g18) (evs (ev_pkT (c1 := .bool true) rfl g18 rfl rfl (evn ?_))))))))))))))))))))))))))
            exact kimpl_rowsValid_J2 true h _ ⟨kr, kr, kr, kr, kr, kr, trivial⟩
          · refine evs (ev_gr rfl (congrArg V.bool g18) (ev_mv (c := .int .i64 y1) rfl rfl rfl (evs (ev_gr rfl (congrArg V.bool g18) (ev_bin (c1 := .int .i64 y1) (c2 := .int .i64 0) rfl rfl rfl (evs (ev_gr rfl (congrArg V.bool g18) (ev_mv (c := .bool (decide (0 < y1))) rfl rfl rfl (?_)))))))))
            rcases cond_some h with ⟨g19, h⟩ | ⟨g19, h⟩
            · refine evs (ev_gr rfl (congrArg V.bool g19) (ev_mv (c := .dat a1.length (a1.flatMap c25_d)) rfl rfl rfl (evs (ev_gr rfl (congrArg V.bool g19) (ev_mv (c := .int .i64 y1) rfl rfl rfl (evs (ev_gr rfl (congrArg V.bool g19) (ev_bin (c1 := .int .i64 y1) (c2 := .int .i64 1) rfl rfl rfl (?_)))))))))
              obtain ⟨e20, g21, h⟩ := ob_some h
              refine evs (ev_gr rfl (congrArg V.bool g19) (ev_ia rfl rfl rfl ⟨(geti_some g21).1, (geti_some g21).2.1⟩ (evs (ev_gr rfl (congrArg V.bool g19) (ev_ldE (i := (IntKind.i64.wrap (y1 - 1))) (n := 1) (off := 0) (v := .dat e20.length (e20.flatMap ci64)) rfl rfl zc25_d g21 rfl (Nat.le_of_ble_eq_true rfl) rfl (evs (ev_gr rfl (congrArg V.bool g19) (ev_mv (c := .dat e10.length (e10.flatMap ci64)) rfl rfl rfl (?_)))))))))
              obtain ⟨v22, g23, h⟩ := ob_some h
              refine evs (ev_gr rfl (congrArg V.bool g19) (ev_call (era rfl (erD eci64 _) (era rfl (erD eci64 _) eran)) (impl_CompareRows_s g23) (evs (ev_gr rfl (congrArg V.bool g19) (ev_bin (c1 := .int .i64 v22) (c2 := .int .i64 0) rfl rfl rfl (evs (ev_gr rfl (congrArg V.bool g18) (ev_pkT (c1 := .bool (decide (0 ≤ v22))) rfl g19 rfl rfl (evs (ev_pkF (c1 := .bool (decide (0 ≤ v22))) rfl g18 rfl rfl (evn ?_)))))))))))
              exact kimpl_rowsValid_J2 (decide (0 ≤ v22)) h _ ⟨kr, kr, kr, kr, kr, kr, trivial⟩
            · refine evs (ev_gs rfl rfl (isb_F g19) (evs (ev_gs rfl rfl (isb_F g19) (evs (ev_gs rfl rfl (isb_F g19) (evs (ev_gs rfl rfl (isb_F g19) (evs (ev_gs rfl rfl (isb_F g19) (evs (ev_gs rfl rfl (isb_F g19) (evs (ev_gs rfl rfl (isb_F g19) (evs (ev_gs rfl rfl (isb_F g19) (evs (ev_gr rfl (congrArg V.bool g18) (ev_pkF (c1 := .bool false) rfl g19 rfl rfl (evs (ev_pkF (c1 := .bool false) rfl g18 rfl rfl (evn ?_)))))))))))))))))))))
              exact kimpl_rowsValid_J2 false h _ ⟨kr, kr, kr, kr, kr, kr, trivial⟩
      · refine ls_cF rfl g8 ?_
        refine ls_exit ?_
        have q0 := (Option.some.inj h).symm
        have r0 := hr1
        rw [q0] at r0
        exact kXimpl_rowsValid_B1 () r0 _ trivial
def impl_IsValidRelation (a0 : Int × (List (List Int))) : Option (Bool) := obind (impl_rowsValid a0.1 a0.2) fun v1 => some v1
theorem impl_IsValidRelation_s {a0 : Int × (List (List Int))} {r : Bool} (h : impl_IsValidRelation a0 = some r) : SoundAt Try.prog 219 [.agg [.int .i64 a0.1, .dat a0.2.length (a0.2.flatMap c25_d)]] (.bool r) := by
  unfold impl_IsValidRelation at h
  refine sound_lit tbOk lit219 (Nat.le_of_ble_eq_true rfl) rfl ?_
  unfold c219
  refine ls_keep [(0, .agg [.int .i64 a0.1, .dat a0.2.length (a0.2.flatMap c25_d)])] ⟨kr, trivial⟩ rfl ?_
  refine ls_rs tbOk ?_
  refine evs (ev_bx (c1 := .agg [.int .i64 a0.1, .dat a0.2.length (a0.2.flatMap c25_d)]) rfl rfl rfl (evs (ev_ac rfl nofun rfl (evn ?_))))
  refine ls_keep [(1, .box [.int .i64 a0.1, .dat a0.2.length (a0.2.flatMap c25_d)])] ⟨kr, trivial⟩ rfl ?_
  refine ls_rs tbOk ?_
  refine evs (ev_fa (c1 := .cref 1 0) (v := .cref 1 0) rfl rfl rfl ⟨_, rfl⟩ rfl (evs (ev_ldB (off := 0) (v := .int .i64 a0.1) rfl rfl rfl rfl (Nat.le_of_ble_eq_true rfl) rfl (evs (ev_fa (c1 := .cref 1 0) (v := .cref 1 1) rfl rfl rfl ⟨_, rfl⟩ rfl (evs (ev_ldB (off := 1) (v := .dat a0.2.length (a0.2.flatMap c25_d)) rfl rfl rfl rfl (Nat.le_of_ble_eq_true rfl) rfl (?_))))))))
  obtain ⟨v1, g2, h⟩ := ob_some h
  refine evs (ev_call (era rfl rfl (era rfl (erD ec25_d _) eran)) (impl_rowsValid_s g2) (evs (ev_as (c := .bool v1) rfl rfl rfl (evn ?_))))
  refine ls_keep [(2, .bool v1)] ⟨kr, trivial⟩ rfl ?_
  refine ls_ret ?_
  have hr := Option.some.inj h
  rw [← hr]
  exact ⟨.inl rfl, rfl⟩
def impl_IsValidDatabase_J2 (rec : Int → Option (Sum (Unit) (Bool))) (y1 : Int) (x10 : Bool) : Option (Sum (Unit) (Bool)) := cond x10 (some (.inr false)) (rec (IntKind.i64.wrap (y1 + 1)))
def impl_IsValidDatabase_B1 (a0 : (List ((List UInt8) × (Int × (List (List Int)))))) (rec : Int → Option (Sum (Unit) (Bool))) (y1 : Int) : Option (Sum (Unit) (Bool)) := cond (decide (y1 < (List.length a0 : Int))) (obind (geti a0 y1) fun e7 => obind (impl_IsValidName e7.1) fun v12 => cond (!v12) (impl_IsValidDatabase_J2 rec y1 true) (cond (decide (0 < y1)) (obind (geti a0 (IntKind.i64.wrap (y1 - 1))) fun e16 => cond (!Op.bytesLess e16.1 e7.1) (impl_IsValidDatabase_J2 rec y1 true) (obind (impl_IsValidRelation e7.2) fun v19 => cond (!v19) (impl_IsValidDatabase_J2 rec y1 true) (cond (decide (e7.2.1 < 1)) (impl_IsValidDatabase_J2 rec y1 true) (impl_IsValidDatabase_J2 rec y1 (decide (16 < (List.length e7.2.2 : Int))))))) (obind (impl_IsValidRelation e7.2) fun v23 => cond (!v23) (impl_IsValidDatabase_J2 rec y1 true) (cond (decide (e7.2.1 < 1)) (impl_IsValidDatabase_J2 rec y1 true) (impl_IsValidDatabase_J2 rec y1 (decide (16 < (List.length e7.2.2 : Int)))))))) (some (.inl ()))
def impl_IsValidDatabase (a0 : (List ((List UInt8) × (Int × (List (List Int)))))) : Option (Bool) := cond (decide (6 < (List.length a0 : Int))) (some false) (obind (loopF (impl_IsValidDatabase_B1 a0) fz 0) fun o1 => (match o1 with
  | .inl _ => (some true)
  | .inr r => some r))
theorem impl_IsValidDatabase_s {a0 : (List ((List UInt8) × (Int × (List (List Int)))))} {r : Bool} (h : impl_IsValidDatabase a0 = some r) : SoundAt Try.prog 136 [.agg [.dat a0.length (a0.flatMap c208_dd)]] (.bool r) := by
  unfold impl_IsValidDatabase at h
  refine sound_lit tbOk lit136 (Nat.le_of_ble_eq_true rfl) rfl ?_
  unfold c136
  refine ls_keep [(0, .agg [.dat a0.length (a0.flatMap c208_dd)])] ⟨kr, trivial⟩ rfl ?_
  refine ls_rs tbOk ?_
  refine evs (ev_bx (c1 := .agg [.dat a0.length (a0.flatMap c208_dd)]) rfl rfl rfl (evs (ev_ac rfl nofun rfl (evn ?_))))
  refine ls_keep [(1, .box [.dat a0.length (a0.flatMap c208_dd)])] ⟨kr, trivial⟩ rfl ?_
  refine ls_seq_k fun K1 hK1 => ?_
  refine ls_rs tbOk ?_
  refine evs (ev_fa (c1 := .cref 1 0) (v := .cref 1 0) rfl rfl rfl ⟨_, rfl⟩ rfl (evs (ev_ldB (off := 0) (v := .dat a0.length (a0.flatMap c208_dd)) rfl rfl rfl rfl (Nat.le_of_ble_eq_true rfl) rfl (evs (ev_len (c1 := .dat a0.length (a0.flatMap c208_dd)) rfl rfl rfl (evs (ev_bin (c1 := .int .i64 (List.length a0 : Int)) (c2 := .int .i64 6) rfl rfl rfl (evn ?_))))))))
  refine ls_keep [(1, .box [.dat a0.length (a0.flatMap c208_dd)]), (8, .bool (decide (6 < (List.length a0 : Int))))] ⟨kr, kr, trivial⟩ rfl ?_
  rcases cond_some h with ⟨g2, h⟩ | ⟨g2, h⟩
  · refine ls_cT rfl g2 ?_
    refine ls_rs tbOk ?_
    refine evs (ev_ac rfl nofun rfl (evn ?_))
    refine ls_keep [(2, .bool false)] ⟨kr, trivial⟩ rfl ?_
    refine ls_ret ?_
    have hr := Option.some.inj h
    rw [← hr]
    exact ⟨.inl rfl, rfl⟩
  · refine ls_cF rfl g2 ?_
    refine ls_skip ?_
    refine hK1 _ (ls_keep [(1, .box [.dat a0.length (a0.flatMap c208_dd)])] ⟨kr, trivial⟩ rfl ?_)
    refine ls_seq_k fun K3 hK3 => ?_
    refine ls_rs tbOk ?_
    refine evs (ev_fa (c1 := .cref 1 0) (v := .cref 1 0) rfl rfl rfl ⟨_, rfl⟩ rfl (evs (ev_ldB (off := 0) (v := .dat a0.length (a0.flatMap c208_dd)) rfl rfl rfl rfl (Nat.le_of_ble_eq_true rfl) rfl (evs (ev_len (c1 := .dat a0.length (a0.flatMap c208_dd)) rfl rfl rfl (evs (ev_mc rfl rfl (evn ?_))))))))
    refine ls_keep [(1, .box [.dat a0.length (a0.flatMap c208_dd)]), (10, .dat a0.length (a0.flatMap c208_dd)), (11, .int .i64 (List.length a0 : Int)), (12, .int .i64 0)] ⟨kr, kr, kr, kr, trivial⟩ rfl ?_
    obtain ⟨o1, hl, hr1⟩ := ob_some h
    clear h
    have kXimpl_IsValidDatabase_B1 : ∀ (_ : Unit), (some true) = some r → ∀ σ' : PS, okK σ' [] → K3 σ' := by
      intro _ h σ' hk
      refine hK3 _ (ls_keep [] hk rfl ?_)
      refine ls_rs tbOk ?_
      refine evs (ev_ac rfl nofun rfl (evn ?_))
      refine ls_keep [(2, .bool true)] ⟨kr, trivial⟩ rfl ?_
      refine ls_ret ?_
      have hr := Option.some.inj h
      rw [← hr]
      exact ⟨.inl rfl, rfl⟩
    refine ls_rec (fun (y1 : Int) => [(1, .box [.dat a0.length (a0.flatMap c208_dd)]), (10, .dat a0.length (a0.flatMap c208_dd)), (11, .int .i64 (List.length a0 : Int)), (12, .int .i64 y1)]) (impl_IsValidDatabase_B1 a0) fz 0 o1 hl ⟨kr, kr, kr, kr, trivial⟩ (fun _ => rfl) ?_
    rintro m y1 N h hN
    unfold impl_IsValidDatabase_B1 at h
    refine ls_rs tbOk ?_
    refine evs (ev_bin (c1 := .int .i64 y1) (c2 := .int .i64 (List.length a0 : Int)) rfl rfl rfl (evn ?_))
    refine ls_keep [(1, .box [.dat a0.length (a0.flatMap c208_dd)]), (10, .dat a0.length (a0.flatMap c208_dd)), (11, .int .i64 (List.length a0 : Int)), (12, .int .i64 y1), (13, .bool (decide (y1 < (List.length a0 : Int))))] ⟨kr, kr, kr, kr, kr, trivial⟩ rfl ?_
    refine ls_seq_k fun K4 hK4 => ?_
    rcases cond_some h with ⟨g5, h⟩ | ⟨g5, h⟩
    · refine ls_cT rfl g5 ?_
      refine ls_skip ?_
      refine hK4 _ (ls_keep [(1, .box [.dat a0.length (a0.flatMap c208_dd)]), (10, .dat a0.length (a0.flatMap c208_dd)), (11, .int .i64 (List.length a0 : Int)), (12, .int .i64 y1)] ⟨kr, kr, kr, kr, trivial⟩ rfl ?_)
      refine ls_seq_k fun K6 hK6 => ?_
      refine ls_blk ?_
      refine ls_rs tbOk ?_
      refine evs (ev_mv (c := .int .i64 y1) rfl rfl rfl (?_))
      obtain ⟨e7, g8, h⟩ := ob_some h
      refine evs (ev_ia rfl rfl rfl ⟨(geti_some g8).1, (geti_some g8).2.1⟩ (evs (ev_ldEt (i := y1) (n := 3) (off := 0) (v := .agg [.str e7.1, .int .i64 e7.2.1, .dat e7.2.2.length (e7.2.2.flatMap c25_d)]) rfl rfl zc208_dd g8 rfl (Nat.le_of_ble_eq_true rfl) rfl (evs (ev_al rfl rfl (evs (ev_as (c := .int .i64 y1) rfl rfl rfl (evs (ev_st (off := 0) (c1 := .agg [.str e7.1, .int .i64 e7.2.1, .dat e7.2.2.length (e7.2.2.flatMap c25_d)]) (cs' := [.str e7.1, .int .i64 e7.2.1, .dat e7.2.2.length (e7.2.2.flatMap c25_d)]) rfl rfl rfl rfl rfl rfl (Nat.le_of_ble_eq_true rfl) rfl (evn ?_))))))))))
      refine ls_keep [(1, .box [.dat a0.length (a0.flatMap c208_dd)]), (3, .int .i64 y1), (4, .box [.str e7.1, .int .i64 e7.2.1, .dat e7.2.2.length (e7.2.2.flatMap c25_d)]), (10, .dat a0.length (a0.flatMap c208_dd)), (11, .int .i64 (List.length a0 : Int)), (12, .int .i64 y1)] ⟨kr, kr, kr, kr, kr, kr, trivial⟩ rfl ?_
      refine ls_rd_k tbOk mixed (by kernel_rfl) fun K9 hK9 => ?_
      have kimpl_IsValidDatabase_J2 : ∀ (x10 : Bool), impl_IsValidDatabase_J2 (loopF (impl_IsValidDatabase_B1 a0) m) y1 x10 = some o1 → ∀ σ' : PS, okK σ' [(1, .box [.dat a0.length (a0.flatMap c208_dd)]), (10, .dat a0.length (a0.flatMap c208_dd)), (11, .int .i64 (List.length a0 : Int)), (12, .int .i64 y1), (55, .bool x10)] → K9 σ' := by
        intro x10 h σ' hk
        unfold impl_IsValidDatabase_J2 at h
        refine hK9 _ (ls_keep [(1, .box [.dat a0.length (a0.flatMap c208_dd)]), (10, .dat a0.length (a0.flatMap c208_dd)), (11, .int .i64 (List.length a0 : Int)), (12, .int .i64 y1), (55, .bool x10)] hk rfl ?_)
        rcases cond_some h with ⟨g11, h⟩ | ⟨g11, h⟩
        · refine ls_cT rfl g11 ?_
          refine ls_rs tbOk ?_
          refine evs (ev_ac rfl nofun rfl (evn ?_))
          refine ls_keep [(2, .bool false)] ⟨kr, trivial⟩ rfl ?_
          refine ls_ret ?_
          have q0 := (Option.some.inj h).symm
          have r0 := hr1
          rw [q0] at r0
          have hr := Option.some.inj r0
          rw [← hr]
          exact ⟨.inl rfl, rfl⟩
        · refine ls_cF rfl g11 ?_
          refine ls_skip ?_
          refine hK6 _ (ls_keep [(1, .box [.dat a0.length (a0.flatMap c208_dd)]), (10, .dat a0.length (a0.flatMap c208_dd)), (11, .int .i64 (List.length a0 : Int)), (12, .int .i64 y1)] ⟨kr, kr, kr, kr, trivial⟩ rfl ?_)
          refine ls_rgn tbOk ?_
          refine evs (ev_bin (c1 := .int .i64 y1) (c2 := .int .i64 1) rfl rfl rfl (evs (ev_mv (c := .int .i64 (IntKind.i64.wrap (y1 + 1))) rfl rfl rfl (evn ?_))))
          exact hN _ (IntKind.i64.wrap (y1 + 1)) h ⟨kr, kr, kr, kr, trivial⟩
      refine evd rfl rfl (ev_fa (c1 := .cref 4 0) (v := .cref 4 0) rfl rfl rfl ⟨_, rfl⟩ rfl (evd rfl rfl (ev_ldB (off := 0) (v := .str e7.1) rfl rfl rfl rfl (Nat.le_of_ble_eq_true rfl) rfl (?_))))
      obtain ⟨v12, g13, h⟩ := ob_some h
      refine evd rfl rfl (ev_call (era rfl rfl eran) (impl_IsValidName_s g13) (evd rfl rfl (ev_un (c1 := .bool v12) rfl trivial (evd rfl rfl (ev_mv (c := .bool (!v12)) rfl rfl rfl (?_))))))
      rcases cond_some h with ⟨g14, h⟩ | ⟨g14, h⟩
      · refine evd rfl rfl (ev_gs rfl rfl (isb_T g14) (evd rfl rfl (ev_gs rfl rfl (isb_T g14) (evd rfl rfl (ev_gs rfl rfl (isb_T g14) (evd rfl rfl (ev_gs rfl rfl rfl (evd rfl rfl (ev_gs rfl rfl rfl (evd rfl rfl (ev_gs rfl rfl rfl (evd rfl rfl (ev_gs rfl rfl rfl (evd rfl rfl (ev_gs rfl rfl rfl (evd rfl rfl (ev_gs rfl rfl rfl (evd rfl rfl (ev_gs rfl rfl rfl (evd rfl rfl (ev_gs rfl rfl rfl (evd rfl rfl (ev_gs rfl rfl rfl (evd rfl rfl (ev_gs rfl rfl rfl (evd rfl rfl (ev_gs rfl rfl (isb_T g14) (evd rfl rfl (ev_pkT (c1 := .bool true) rfl g14 rfl rfl (evd rfl rfl (ev_mv (c := .bool true) rfl rfl rfl (evd rfl rfl (ev_gs rfl rfl rfl (evd rfl rfl (ev_gs rfl rfl rfl (evd rfl rfl (ev_gs rfl rfl rfl (evd rfl rfl (ev_gs rfl rfl rfl (evd rfl rfl (ev_pkT (c1 := .bool true) rfl rfl rfl rfl (evd rfl rfl (ev_mv (c := .bool true) rfl rfl rfl (evd rfl rfl (ev_gs rfl rfl rfl (evd rfl rfl (ev_gs rfl rfl rfl (evd rfl rfl (ev_gs rfl rfl rfl (evd rfl rfl (ev_gs rfl rfl rfl (evd rfl rfl (ev_pkT (c1 := .bool true) rfl rfl rfl rfl (evd rfl rfl (ev_mv (c := .bool true) rfl rfl rfl (evd rfl rfl (ev_gs rfl rfl rfl (evd rfl rfl (ev_gs rfl rfl rfl (evd rfl rfl (ev_gs rfl rfl rfl (evd rfl rfl (ev_gs rfl rfl rfl (evd rfl rfl (ev_gs rfl rfl rfl (evd rfl rfl (ev_pkT (c1 := .bool true) rfl rfl rfl rfl (evdn ?_))))))))))))))))))))))))))))))))))))))))))))))))))))))))))))))))))))
        exact kimpl_IsValidDatabase_J2 true h _ ⟨kr, kr, kr, kr, kr, trivial⟩
      · refine evd rfl rfl (ev_gr rfl (congrArg V.bool g14) (ev_mv (c := .int .i64 y1) rfl rfl rfl (evd rfl rfl (ev_gr rfl (congrArg V.bool g14) (ev_bin (c1 := .int .i64 y1) (c2 := .int .i64 0) rfl rfl rfl (evd rfl rfl (ev_gr rfl (congrArg V.bool g14) (ev_mv (c := .bool (decide (0 < y1))) rfl rfl rfl (?_)))))))))
        rcases cond_some h with ⟨g15, h⟩ | ⟨g15, h⟩
        · refine evd rfl rfl (ev_gr rfl (congrArg V.bool g15) (ev_fa (c1 := .cref 1 0) (v := .cref 1 0) rfl rfl rfl ⟨_, rfl⟩ rfl (evd rfl rfl (ev_gr rfl (congrArg V.bool g15) (ev_ldB (off := 0) (v := .dat a0.length (a0.flatMap c208_dd)) rfl rfl rfl rfl (Nat.le_of_ble_eq_true rfl) rfl (evd rfl rfl (ev_gr rfl (congrArg V.bool g15) (ev_mv (c := .int .i64 y1) rfl rfl rfl (evd rfl rfl (ev_gr rfl (congrArg V.bool g15) (ev_bin (c1 := .int .i64 y1) (c2 := .int .i64 1) rfl rfl rfl (?_))))))))))))
          obtain ⟨e16, g17, h⟩ := ob_some h
          refine evd rfl rfl (ev_gr rfl (congrArg V.bool g15) (ev_ia rfl rfl rfl ⟨(geti_some g17).1, (geti_some g17).2.1⟩ (evd rfl rfl (ev_gr rfl (congrArg V.bool g15) (ev_fa (c1 := .adr (a0.flatMap c208_dd) (Int.toNat (IntKind.i64.wrap (y1 - 1)) * 3)) (v := .adr (a0.flatMap c208_dd) (Int.toNat (IntKind.i64.wrap (y1 - 1)) * 3)) rfl rfl rfl trivial rfl (evd rfl rfl (ev_gr rfl (congrArg V.bool g15) (ev_ldE (i := (IntKind.i64.wrap (y1 - 1))) (n := 3) (off := 0) (v := .str e16.1) rfl rfl zc208_dd g17 rfl (Nat.le_of_ble_eq_true rfl) rfl (evd rfl rfl (ev_gr rfl (congrArg V.bool g15) (ev_fa (c1 := .cref 4 0) (v := .cref 4 0) rfl rfl rfl ⟨_, rfl⟩ rfl (evd rfl rfl (ev_gr rfl (congrArg V.bool g15) (ev_ldB (off := 0) (v := .str e7.1) rfl rfl rfl rfl (Nat.le_of_ble_eq_true rfl) rfl (evd rfl rfl (ev_gr rfl (congrArg V.bool g15) (ev_bin (c1 := .str e16.1) (c2 := .str e7.1) rfl rfl trivial (evd rfl rfl (ev_gr rfl (congrArg V.bool g14) (ev_pkT (c1 := .bool (!Op.bytesLess e16.1 e7.1)) rfl g15 rfl rfl (evd rfl rfl (ev_pkF (c1 := .bool (!Op.bytesLess e16.1 e7.1)) rfl g14 rfl rfl (evd rfl rfl (ev_mv (c := .bool (!Op.bytesLess e16.1 e7.1)) rfl rfl rfl (?_)))))))))))))))))))))))))
          rcases cond_some h with ⟨g18, h⟩ | ⟨g18, h⟩
          · refine evd rfl rfl (ev_gs rfl rfl (isb_T g18) (evd rfl rfl (ev_gs rfl rfl (isb_T g18) (evd rfl rfl (ev_gs rfl rfl (isb_T g18) (evd rfl rfl (ev_gs rfl rfl (isb_T g18) (evd rfl rfl (ev_pkT (c1 := .bool true) rfl g18 rfl rfl (evd rfl rfl (ev_mv (c := .bool true) rfl rfl rfl (evd rfl rfl (ev_gs rfl rfl rfl (evd rfl rfl (ev_gs rfl rfl rfl (evd rfl rfl (ev_gs rfl rfl rfl (evd rfl rfl (ev_gs rfl rfl rfl (evd rfl rfl (ev_pkT (c1 := .bool true) rfl rfl rfl rfl (evd rfl rfl (ev_mv (c := .bool true) rfl rfl rfl (evd rfl rfl (ev_gs rfl rfl rfl (evd rfl rfl (ev_gs rfl rfl rfl (evd rfl rfl (ev_gs rfl rfl rfl (evd rfl rfl (ev_gs rfl rfl rfl (evd rfl rfl (ev_gs rfl rfl rfl (evd rfl rfl (ev_pkT (c1 := .bool true) rfl rfl rfl rfl (evdn ?_))))))))))))))))))))))))))))))))))))
            exact kimpl_IsValidDatabase_J2 true h _ ⟨kr, kr, kr, kr, kr, trivial⟩
          · refine evd rfl rfl (ev_gr rfl (congrArg V.bool g18) (ev_fa (c1 := .cref 4 0) (v := .cref 4 1) rfl rfl rfl ⟨_, rfl⟩ rfl (evd rfl rfl (ev_gr rfl (congrArg V.bool g18) (ev_ldB (off := 1) (v := .agg [.int .i64 e7.2.1, .dat e7.2.2.length (e7.2.2.flatMap c25_d)]) rfl rfl rfl rfl (Nat.le_of_ble_eq_true rfl) rfl (?_))))))
            obtain ⟨v19, g20, h⟩ := ob_some h
            refine evd rfl rfl (ev_gr rfl (congrArg V.bool g18) (ev_call (era rfl (erg (erc rfl (erc (erD ec25_d _) rfl))) eran) (impl_IsValidRelation_s g20) (evd rfl rfl (ev_gr rfl (congrArg V.bool g18) (ev_un (c1 := .bool v19) rfl trivial (evd rfl rfl (ev_pkF (c1 := .bool (!v19)) rfl g18 rfl rfl (evd rfl rfl (ev_mv (c := .bool (!v19)) rfl rfl rfl (?_))))))))))
            rcases cond_some h with ⟨g21, h⟩ | ⟨g21, h⟩
            · refine evd rfl rfl (ev_gs rfl rfl (isb_T g21) (evd rfl rfl (ev_gs rfl rfl (isb_T g21) (evd rfl rfl (ev_gs rfl rfl (isb_T g21) (evd rfl rfl (ev_gs rfl rfl (isb_T g21) (evd rfl rfl (ev_pkT (c1 := .bool true) rfl g21 rfl rfl (evd rfl rfl (ev_mv (c := .bool true) rfl rfl rfl (evd rfl rfl (ev_gs rfl rfl rfl (evd rfl rfl (ev_gs rfl rfl rfl (evd rfl rfl (ev_gs rfl rfl rfl (evd rfl rfl (ev_gs rfl rfl rfl (evd rfl rfl (ev_gs rfl rfl rfl (evd rfl rfl (ev_pkT (c1 := .bool true) rfl rfl rfl rfl (evdn ?_))))))))))))))))))))))))
              exact kimpl_IsValidDatabase_J2 true h _ ⟨kr, kr, kr, kr, kr, trivial⟩
            · refine evd rfl rfl (ev_gr rfl (congrArg V.bool g21) (ev_fa (c1 := .cref 4 0) (v := .cref 4 1) rfl rfl rfl ⟨_, rfl⟩ rfl (evd rfl rfl (ev_gr rfl (congrArg V.bool g21) (ev_fa (c1 := .cref 4 1) (v := .cref 4 1) rfl rfl rfl ⟨_, rfl⟩ rfl (evd rfl rfl (ev_gr rfl (congrArg V.bool g21) (ev_ldB (off := 1) (v := .int .i64 e7.2.1) rfl rfl rfl rfl (Nat.le_of_ble_eq_true rfl) rfl (evd rfl rfl (ev_gr rfl (congrArg V.bool g21) (ev_bin (c1 := .int .i64 e7.2.1) (c2 := .int .i64 1) rfl rfl rfl (evd rfl rfl (ev_pkF (c1 := .bool (decide (e7.2.1 < 1))) rfl g21 rfl rfl (evd rfl rfl (ev_mv (c := .bool (decide (e7.2.1 < 1))) rfl rfl rfl (?_))))))))))))))))
              rcases cond_some h with ⟨g22, h⟩ | ⟨g22, h⟩
              · refine evd rfl rfl (ev_gs rfl rfl (isb_T g22) (evd rfl rfl (ev_gs rfl rfl (isb_T g22) (evd rfl rfl (ev_gs rfl rfl (isb_T g22) (evd rfl rfl (ev_gs rfl rfl (isb_T g22) (evd rfl rfl (ev_gs rfl rfl (isb_T g22) (evd rfl rfl (ev_pkT (c1 := .bool true) rfl g22 rfl rfl (evdn ?_))))))))))))
                exact kimpl_IsValidDatabase_J2 true h _ ⟨kr, kr, kr, kr, kr, trivial⟩
              · refine evd rfl rfl (ev_gr rfl (congrArg V.bool g22) (ev_fa (c1 := .cref 4 0) (v := .cref 4 1) rfl rfl rfl ⟨_, rfl⟩ rfl (evd rfl rfl (ev_gr rfl (congrArg V.bool g22) (ev_fa (c1 := .cref 4 1) (v := .cref 4 2) rfl rfl rfl ⟨_, rfl⟩ rfl (evd rfl rfl (ev_gr rfl (congrArg V.bool g22) (ev_ldB (off := 2) (v := .dat e7.2.2.length (e7.2.2.flatMap c25_d)) rfl rfl rfl rfl (Nat.le_of_ble_eq_true rfl) rfl (evd rfl rfl (ev_gr rfl (congrArg V.bool g22) (ev_len (c1 := .dat e7.2.2.length (e7.2.2.flatMap c25_d)) rfl rfl rfl (evd rfl rfl (ev_gr rfl (congrArg V.bool g22) (ev_bin (c1 := .int .i64 (List.length e7.2.2 : Int)) (c2 := .int .i64 16) rfl rfl rfl (evd rfl rfl (ev_pkF (c1 := .bool (decide (16 < (List.length e7.2.2 : Int)))) rfl g22 rfl rfl (evdn ?_)))))))))))))))))
                exact kimpl_IsValidDatabase_J2 (decide (16 < (List.length e7.2.2 : Int))) h _ ⟨kr, kr, kr, kr, kr, trivial⟩
        · refine evd rfl rfl (ev_gs rfl rfl (isb_F g15) (evd rfl rfl (ev_gs rfl rfl (isb_F g15) (evd rfl rfl (ev_gs rfl rfl (isb_F g15) (evd rfl rfl (ev_gs rfl rfl (isb_F g15) (evd rfl rfl (ev_gs rfl rfl (isb_F g15) (evd rfl rfl (ev_gs rfl rfl (isb_F g15) (evd rfl rfl (ev_gs rfl rfl (isb_F g15) (evd rfl rfl (ev_gs rfl rfl (isb_F g15) (evd rfl rfl (ev_gs rfl rfl (isb_F g15) (evd rfl rfl (ev_gs rfl rfl (isb_F g15) (evd rfl rfl (ev_gr rfl (congrArg V.bool g14) (ev_pkF (c1 := .bool false) rfl g15 rfl rfl (evd rfl rfl (ev_pkF (c1 := .bool false) rfl g14 rfl rfl (evd rfl rfl (ev_mv (c := .bool false) rfl rfl rfl (evd rfl rfl (ev_gr rfl rfl (ev_fa (c1 := .cref 4 0) (v := .cref 4 1) rfl rfl rfl ⟨_, rfl⟩ rfl (evd rfl rfl (ev_gr rfl rfl (ev_ldB (off := 1) (v := .agg [.int .i64 e7.2.1, .dat e7.2.2.length (e7.2.2.flatMap c25_d)]) rfl rfl rfl rfl (Nat.le_of_ble_eq_true rfl) rfl (?_)))))))))))))))))))))))))))))))))
          obtain ⟨v23, g24, h⟩ := ob_some h
          refine evd rfl rfl (ev_gr rfl rfl (ev_call (era rfl (erg (erc rfl (erc (erD ec25_d _) rfl))) eran) (impl_IsValidRelation_s g24) (evd rfl rfl (ev_gr rfl rfl (ev_un (c1 := .bool v23) rfl trivial (evd rfl rfl (ev_pkF (c1 := .bool (!v23)) rfl rfl rfl rfl (evd rfl rfl (ev_mv (c := .bool (!v23)) rfl rfl rfl (?_))))))))))
          rcases cond_some h with ⟨g25, h⟩ | ⟨g25, h⟩
          · refine evd rfl rfl (ev_gs rfl rfl (isb_T g25) (evd rfl rfl (ev_gs rfl rfl (isb_T g25) (evd rfl rfl (ev_gs rfl rfl (isb_T g25) (evd rfl rfl (ev_gs rfl rfl (isb_T g25) (evd rfl rfl (ev_pkT (c1 := .bool true) rfl g25 rfl rfl (evd rfl rfl (ev_mv (c := .bool true) rfl rfl rfl (evd rfl rfl (ev_gs rfl rfl rfl (evd rfl rfl (ev_gs rfl rfl rfl (evd rfl rfl (ev_gs rfl rfl rfl (evd rfl rfl (ev_gs rfl rfl rfl (evd rfl rfl (ev_gs rfl rfl rfl (evd rfl rfl (ev_pkT (c1 := .bool true) rfl rfl rfl rfl (evdn ?_))))))))))))))))))))))))
            exact kimpl_IsValidDatabase_J2 true h _ ⟨kr, kr, kr, kr, kr, trivial⟩
          · refine evd rfl rfl (ev_gr rfl (congrArg V.bool g25) (ev_fa (c1 := .cref 4 0) (v := .cref 4 1) rfl rfl rfl ⟨_, rfl⟩ rfl (evd rfl rfl (ev_gr rfl (congrArg V.bool g25) (ev_fa (c1 := .cref 4 1) (v := .cref 4 1) rfl rfl rfl ⟨_, rfl⟩ rfl (evd rfl rfl (ev_gr rfl (congrArg V.bool g25) (ev_ldB (off := 1) (v := .int .i64 e7.2.1) rfl rfl rfl rfl (Nat.le_of_ble_eq_true rfl) rfl (evd rfl rfl (ev_gr rfl (congrArg V.bool g25) (ev_bin (c1 := .int .i64 e7.2.1) (c2 := .int .i64 1) rfl rfl rfl (evd rfl rfl (ev_pkF (c1 := .bool (decide (e7.2.1 < 1))) rfl g25 rfl rfl (evd rfl rfl (ev_mv (c := .bool (decide (e7.2.1 < 1))) rfl rfl rfl (?_))))))))))))))))
            rcases cond_some h with ⟨g26, h⟩ | ⟨g26, h⟩
            · refine evd rfl rfl (ev_gs rfl rfl (isb_T g26) (evd rfl rfl (ev_gs rfl rfl (isb_T g26) (evd rfl rfl (ev_gs rfl rfl (isb_T g26) (evd rfl rfl (ev_gs rfl rfl (isb_T g26) (evd rfl rfl (ev_gs rfl rfl (isb_T g26) (evd rfl rfl (ev_pkT (c1 := .bool true) rfl g26 rfl rfl (evdn ?_))))))))))))
              exact kimpl_IsValidDatabase_J2 true h _ ⟨kr, kr, kr, kr, kr, trivial⟩
            · refine evd rfl rfl (ev_gr rfl (congrArg V.bool g26) (ev_fa (c1 := .cref 4 0) (v := .cref 4 1) rfl rfl rfl ⟨_, rfl⟩ rfl (evd rfl rfl (ev_gr rfl (congrArg V.bool g26) (ev_fa (c1 := .cref 4 1) (v := .cref 4 2) rfl rfl rfl ⟨_, rfl⟩ rfl (evd rfl rfl (ev_gr rfl (congrArg V.bool g26) (ev_ldB (off := 2) (v := .dat e7.2.2.length (e7.2.2.flatMap c25_d)) rfl rfl rfl rfl (Nat.le_of_ble_eq_true rfl) rfl (evd rfl rfl (ev_gr rfl (congrArg V.bool g26) (ev_len (c1 := .dat e7.2.2.length (e7.2.2.flatMap c25_d)) rfl rfl rfl (evd rfl rfl (ev_gr rfl (congrArg V.bool g26) (ev_bin (c1 := .int .i64 (List.length e7.2.2 : Int)) (c2 := .int .i64 16) rfl rfl rfl (evd rfl rfl (ev_pkF (c1 := .bool (decide (16 < (List.length e7.2.2 : Int)))) rfl g26 rfl rfl (evdn ?_)))))))))))))))))
              exact kimpl_IsValidDatabase_J2 (decide (16 < (List.length e7.2.2 : Int))) h _ ⟨kr, kr, kr, kr, kr, trivial⟩
    · refine ls_cF rfl g5 ?_
      refine ls_exit ?_
      have q0 := (Option.some.inj h).symm
      have r0 := hr1
      rw [q0] at r0
      exact kXimpl_IsValidDatabase_B1 () r0 _ trivial
def impl_NewNotifier (a0 : (List ((List UInt8) × (Int × (List (List Int)))))) : Option ((((List ((List UInt8) × (Int × (List (List Int)))))) × (List ((Int × (List ((List UInt8) × (List Int))) × (List Int)) × (Int × (List (List Int)) × (List Int)))) × (List (Int × (List (List Int)) × (List Int)))) × Bool) := obind (impl_IsValidDatabase a0) fun v2 => cond (!v2) (some (([], [], []), false)) (obind (impl_copyDatabase a0) fun v5 => some ((v5, [], []), true))
theorem impl_NewNotifier_s {a0 : (List ((List UInt8) × (Int × (List (List Int)))))} {r : (((List ((List UInt8) × (Int × (List (List Int)))))) × (List ((Int × (List ((List UInt8) × (List Int))) × (List Int)) × (Int × (List (List Int)) × (List Int)))) × (List (Int × (List (List Int)) × (List Int)))) × Bool} (h : impl_NewNotifier a0 = some r) : SoundAt Try.prog 52 [.agg [.dat a0.length (a0.flatMap c208_dd)]] (.tup [.agg [.own 208 r.1.1.length (r.1.1.flatMap c208_oo), .own 161 r.1.2.1.length (r.1.2.1.flatMap c161_oooooo), .own 159 r.1.2.2.length (r.1.2.2.flatMap c159_ooo)], .bool r.2]) := by
  unfold impl_NewNotifier at h
  refine sound_lit tbOk lit52 (Nat.le_of_ble_eq_true rfl) rfl ?_
  unfold c52
  refine ls_keep [(0, .agg [.dat a0.length (a0.flatMap c208_dd)])] ⟨kr, trivial⟩ rfl ?_
  refine ls_rs tbOk ?_
  refine evs (ev_bx (c1 := .agg [.dat a0.length (a0.flatMap c208_dd)]) rfl rfl rfl (evs (ev_al rfl rfl (evs (ev_ac rfl nofun rfl (evn ?_))))))
  refine ls_keep [(1, .box [.dat a0.length (a0.flatMap c208_dd)]), (2, .box [.own 208 ([] : List ((List UInt8) × (Int × (List (List Int))))).length (([] : List ((List UInt8) × (Int × (List (List Int))))).flatMap c208_oo), .own 161 ([] : List ((Int × (List ((List UInt8) × (List Int))) × (List Int)) × (Int × (List (List Int)) × (List Int)))).length (([] : List ((Int × (List ((List UInt8) × (List Int))) × (List Int)) × (Int × (List (List Int)) × (List Int)))).flatMap c161_oooooo), .own 159 ([] : List (Int × (List (List Int)) × (List Int))).length (([] : List (Int × (List (List Int)) × (List Int))).flatMap c159_ooo)])] ⟨kr, kr, trivial⟩ rfl ?_
  refine ls_seq_k fun K1 hK1 => ?_
  refine ls_rs tbOk ?_
  refine evs (ev_ldB (off := 0) (v := .agg [.dat a0.length (a0.flatMap c208_dd)]) rfl rfl rfl rfl (Nat.le_of_ble_eq_true rfl) rfl (?_))
  obtain ⟨v2, g3, h⟩ := ob_some h
  refine evs (ev_call (era rfl (erg (erc (erD ec208_dd _) rfl)) eran) (impl_IsValidDatabase_s g3) (evs (ev_un (c1 := .bool v2) rfl trivial (evn ?_))))
  refine ls_keep [(1, .box [.dat a0.length (a0.flatMap c208_dd)]), (2, .box [.own 208 ([] : List ((List UInt8) × (Int × (List (List Int))))).length (([] : List ((List UInt8) × (Int × (List (List Int))))).flatMap c208_oo), .own 161 ([] : List ((Int × (List ((List UInt8) × (List Int))) × (List Int)) × (Int × (List (List Int)) × (List Int)))).length (([] : List ((Int × (List ((List UInt8) × (List Int))) × (List Int)) × (Int × (List (List Int)) × (List Int)))).flatMap c161_oooooo), .own 159 ([] : List (Int × (List (List Int)) × (List Int))).length (([] : List (Int × (List (List Int)) × (List Int))).flatMap c159_ooo)]), (6, .bool (!v2))] ⟨kr, kr, kr, trivial⟩ rfl ?_
  rcases cond_some h with ⟨g4, h⟩ | ⟨g4, h⟩
  · refine ls_cT rfl g4 ?_
    refine ls_rs tbOk ?_
    refine evs (ev_bd [] (cs := [.own 208 ([] : List ((List UInt8) × (Int × (List (List Int))))).length (([] : List ((List UInt8) × (Int × (List (List Int))))).flatMap c208_oo), .own 161 ([] : List ((Int × (List ((List UInt8) × (List Int))) × (List Int)) × (Int × (List (List Int)) × (List Int)))).length (([] : List ((Int × (List ((List UInt8) × (List Int))) × (List Int)) × (Int × (List (List Int)) × (List Int)))).flatMap c161_oooooo), .own 159 ([] : List (Int × (List (List Int)) × (List Int))).length (([] : List (Int × (List (List Int)) × (List Int))).flatMap c159_ooo)]) rfl trivial rfl (evs (ev_st (off := 0) (c1 := .agg [.own 208 ([] : List ((List UInt8) × (Int × (List (List Int))))).length (([] : List ((List UInt8) × (Int × (List (List Int))))).flatMap c208_oo), .own 161 ([] : List ((Int × (List ((List UInt8) × (List Int))) × (List Int)) × (Int × (List (List Int)) × (List Int)))).length (([] : List ((Int × (List ((List UInt8) × (List Int))) × (List Int)) × (Int × (List (List Int)) × (List Int)))).flatMap c161_oooooo), .own 159 ([] : List (Int × (List (List Int)) × (List Int))).length (([] : List (Int × (List (List Int)) × (List Int))).flatMap c159_ooo)]) (cs' := [.own 208 ([] : List ((List UInt8) × (Int × (List (List Int))))).length (([] : List ((List UInt8) × (Int × (List (List Int))))).flatMap c208_oo), .own 161 ([] : List ((Int × (List ((List UInt8) × (List Int))) × (List Int)) × (Int × (List (List Int)) × (List Int)))).length (([] : List ((Int × (List ((List UInt8) × (List Int))) × (List Int)) × (Int × (List (List Int)) × (List Int)))).flatMap c161_oooooo), .own 159 ([] : List (Int × (List (List Int)) × (List Int))).length (([] : List (Int × (List (List Int)) × (List Int))).flatMap c159_ooo)]) rfl rfl rfl rfl rfl rfl (Nat.le_of_ble_eq_true rfl) rfl (evs (ev_ac rfl nofun rfl (evn ?_))))))
    refine ls_keep [(2, .box [.own 208 ([] : List ((List UInt8) × (Int × (List (List Int))))).length (([] : List ((List UInt8) × (Int × (List (List Int))))).flatMap c208_oo), .own 161 ([] : List ((Int × (List ((List UInt8) × (List Int))) × (List Int)) × (Int × (List (List Int)) × (List Int)))).length (([] : List ((Int × (List ((List UInt8) × (List Int))) × (List Int)) × (Int × (List (List Int)) × (List Int)))).flatMap c161_oooooo), .own 159 ([] : List (Int × (List (List Int)) × (List Int))).length (([] : List (Int × (List (List Int)) × (List Int))).flatMap c159_ooo)]), (3, .bool false)] ⟨kr, kr, trivial⟩ rfl ?_
    refine ls_ret ?_
    have hr := Option.some.inj h
    rw [← hr]
    exact ⟨.inl rfl, rfl⟩
  · refine ls_cF rfl g4 ?_
    refine ls_skip ?_
    refine hK1 _ (ls_keep [(1, .box [.dat a0.length (a0.flatMap c208_dd)]), (2, .box [.own 208 ([] : List ((List UInt8) × (Int × (List (List Int))))).length (([] : List ((List UInt8) × (Int × (List (List Int))))).flatMap c208_oo), .own 161 ([] : List ((Int × (List ((List UInt8) × (List Int))) × (List Int)) × (Int × (List (List Int)) × (List Int)))).length (([] : List ((Int × (List ((List UInt8) × (List Int))) × (List Int)) × (Int × (List (List Int)) × (List Int)))).flatMap c161_oooooo), .own 159 ([] : List (Int × (List (List Int)) × (List Int))).length (([] : List (Int × (List (List Int)) × (List Int))).flatMap c159_ooo)])] ⟨kr, kr, trivial⟩ rfl ?_)
    refine ls_rs tbOk ?_
    refine evs (ev_ldB (off := 0) (v := .agg [.dat a0.length (a0.flatMap c208_dd)]) rfl rfl rfl rfl (Nat.le_of_ble_eq_true rfl) rfl (?_))
    obtain ⟨v5, g6, h⟩ := ob_some h
    refine evs (ev_call (era rfl (erg (erc (erD ec208_dd _) rfl)) eran) (impl_copyDatabase_s g6) (evs (ev_bd [.agg [.own 208 v5.length (v5.flatMap c208_oo)]] (cs := [.own 208 v5.length (v5.flatMap c208_oo), .own 161 ([] : List ((Int × (List ((List UInt8) × (List Int))) × (List Int)) × (Int × (List (List Int)) × (List Int)))).length (([] : List ((Int × (List ((List UInt8) × (List Int))) × (List Int)) × (Int × (List (List Int)) × (List Int)))).flatMap c161_oooooo), .own 159 ([] : List (Int × (List (List Int)) × (List Int))).length (([] : List (Int × (List (List Int)) × (List Int))).flatMap c159_ooo)]) rfl ⟨rfl, trivial⟩ rfl (evs (ev_st (off := 0) (c1 := .agg [.own 208 v5.length (v5.flatMap c208_oo), .own 161 ([] : List ((Int × (List ((List UInt8) × (List Int))) × (List Int)) × (Int × (List (List Int)) × (List Int)))).length (([] : List ((Int × (List ((List UInt8) × (List Int))) × (List Int)) × (Int × (List (List Int)) × (List Int)))).flatMap c161_oooooo), .own 159 ([] : List (Int × (List (List Int)) × (List Int))).length (([] : List (Int × (List (List Int)) × (List Int))).flatMap c159_ooo)]) (cs' := [.own 208 v5.length (v5.flatMap c208_oo), .own 161 ([] : List ((Int × (List ((List UInt8) × (List Int))) × (List Int)) × (Int × (List (List Int)) × (List Int)))).length (([] : List ((Int × (List ((List UInt8) × (List Int))) × (List Int)) × (Int × (List (List Int)) × (List Int)))).flatMap c161_oooooo), .own 159 ([] : List (Int × (List (List Int)) × (List Int))).length (([] : List (Int × (List (List Int)) × (List Int))).flatMap c159_ooo)]) rfl rfl rfl rfl rfl rfl (Nat.le_of_ble_eq_true rfl) rfl (evs (ev_ac rfl nofun rfl (evn ?_))))))))
    refine ls_keep [(2, .box [.own 208 v5.length (v5.flatMap c208_oo), .own 161 ([] : List ((Int × (List ((List UInt8) × (List Int))) × (List Int)) × (Int × (List (List Int)) × (List Int)))).length (([] : List ((Int × (List ((List UInt8) × (List Int))) × (List Int)) × (Int × (List (List Int)) × (List Int)))).flatMap c161_oooooo), .own 159 ([] : List (Int × (List (List Int)) × (List Int))).length (([] : List (Int × (List (List Int)) × (List Int))).flatMap c159_ooo)]), (3, .bool true)] ⟨kr, kr, trivial⟩ rfl ?_
    refine ls_ret ?_
    have hr := Option.some.inj h
    rw [← hr]
    exact ⟨.inl rfl, rfl⟩
def laws_heldIntS_B1 (a0 : List Int) (rec : (Int × Int) → Option (Sum (Int) (Int))) (s : Int × Int) : Option (Sum (Int) (Int)) := match s with
  | (y1, y2) => cond (decide (y2 < (List.length a0 : Int))) (obind (geti a0 y2) fun e7 => cond (e7 != y1) (some (.inr (-1))) (rec ((IntKind.i64.wrap (y1 + 1)), (IntKind.i64.wrap (y2 + 1))))) (some (.inl y1))
def laws_heldIntS (a0 : List Int) (a1 : Int) : Option (Int) := obind (loopF (laws_heldIntS_B1 a0) fz (a1, 0)) fun o1 => (match o1 with
  | .inl z2 => (some z2)
  | .inr r => some r)
theorem laws_heldIntS_s {a0 : List Int} {a1 : Int} {r : Int} (h : laws_heldIntS a0 a1 = some r) : SoundAt Try.prog 25 [.dat a0.length (a0.flatMap ci64), .int .i64 a1] (.int .i64 r) := by
  unfold laws_heldIntS at h
  refine sound_lit tbOk lit25 (Nat.le_of_ble_eq_true rfl) rfl ?_
  unfold c25
  refine ls_keep [(0, .dat a0.length (a0.flatMap ci64)), (1, .int .i64 a1)] ⟨kr, kr, trivial⟩ rfl ?_
  refine ls_rs tbOk ?_
  refine evs (ev_ac rfl nofun rfl (evn ?_))
  refine ls_keep [(0, .dat a0.length (a0.flatMap ci64)), (1, .int .i64 a1)] ⟨kr, kr, trivial⟩ rfl ?_
  refine ls_seq_k fun K1 hK1 => ?_
  refine ls_rs tbOk ?_
  refine evs (ev_ac rfl nofun rfl (evn ?_))
  refine ls_keep [(0, .dat a0.length (a0.flatMap ci64)), (1, .int .i64 a1), (5, .int .i64 0)] ⟨kr, kr, kr, trivial⟩ rfl ?_
  obtain ⟨o1, hl, hr1⟩ := ob_some h
  clear h
  have kXlaws_heldIntS_B1 : ∀ (z2 : Int), (some z2) = some r → ∀ σ' : PS, okK σ' [(1, .int .i64 z2)] → K1 σ' := by
    intro z2 h σ' hk
    refine hK1 _ (ls_keep [(1, .int .i64 z2)] hk rfl ?_)
    refine ls_rs tbOk ?_
    refine evs (ev_mv (c := .int .i64 z2) rfl rfl rfl (evs (ev_as (c := .int .i64 z2) rfl rfl rfl (evn ?_))))
    refine ls_keep [(4, .int .i64 z2)] ⟨kr, trivial⟩ rfl ?_
    refine ls_ret ?_
    have hr := Option.some.inj h
    rw [← hr]
    exact ⟨.inl rfl, rfl⟩
  refine ls_rec (fun (s : Int × Int) => match s with | (y1, y2) => [(0, .dat a0.length (a0.flatMap ci64)), (1, .int .i64 y1), (5, .int .i64 y2)]) (laws_heldIntS_B1 a0) fz (a1, 0) o1 hl ⟨kr, kr, kr, trivial⟩ (fun _ => rfl) ?_
  rintro m ⟨y1, y2⟩ N h hN
  unfold laws_heldIntS_B1 at h
  dsimp only at h
  refine ls_seq_k fun K3 hK3 => ?_
  refine ls_rs tbOk ?_
  refine evs (ev_mv (c := .int .i64 y2) rfl rfl rfl (evs (ev_mv (c := .dat a0.length (a0.flatMap ci64)) rfl rfl rfl (evs (ev_len (c1 := .dat a0.length (a0.flatMap ci64)) rfl rfl rfl (evs (ev_bin (c1 := .int .i64 y2) (c2 := .int .i64 (List.length a0 : Int)) rfl rfl rfl (evn ?_))))))))
  refine ls_keep [(0, .dat a0.length (a0.flatMap ci64)), (1, .int .i64 y1), (5, .int .i64 y2), (9, .bool (decide (y2 < (List.length a0 : Int))))] ⟨kr, kr, kr, kr, trivial⟩ rfl ?_
  rcases cond_some h with ⟨g4, h⟩ | ⟨g4, h⟩
  · refine ls_cT rfl g4 ?_
    refine ls_skip ?_
    refine hK3 _ (ls_keep [(0, .dat a0.length (a0.flatMap ci64)), (1, .int .i64 y1), (5, .int .i64 y2)] ⟨kr, kr, kr, trivial⟩ rfl ?_)
    refine ls_seq_k fun K5 hK5 => ?_
    refine ls_blk ?_
    refine ls_seq_k fun K6 hK6 => ?_
    refine ls_rs tbOk ?_
    refine evs (ev_mv (c := .dat a0.length (a0.flatMap ci64)) rfl rfl rfl (evs (ev_mv (c := .int .i64 y2) rfl rfl rfl (?_))))
    obtain ⟨e7, g8, h⟩ := ob_some h
    refine evs (ev_ia rfl rfl rfl ⟨(geti_some g8).1, (geti_some g8).2.1⟩ (evs (ev_ldE (i := y2) (n := 1) (off := 0) (v := .int .i64 e7) rfl rfl zci64 g8 rfl (Nat.le_of_ble_eq_true rfl) rfl (evs (ev_mv (c := .int .i64 y1) rfl rfl rfl (evs (ev_bin (c1 := .int .i64 e7) (c2 := .int .i64 y1) rfl rfl rfl (evn ?_))))))))
    refine ls_keep [(0, .dat a0.length (a0.flatMap ci64)), (1, .int .i64 y1), (5, .int .i64 y2), (17, .bool (e7 != y1))] ⟨kr, kr, kr, kr, trivial⟩ rfl ?_
    rcases cond_some h with ⟨g9, h⟩ | ⟨g9, h⟩
    · refine ls_cT rfl g9 ?_
      refine ls_rs tbOk ?_
      refine evs (ev_ac rfl nofun rfl (evn ?_))
      refine ls_keep [(4, .int .i64 (-1))] ⟨kr, trivial⟩ rfl ?_
      refine ls_ret ?_
      have q0 := (Option.some.inj h).symm
      have r0 := hr1
      rw [q0] at r0
      have hr := Option.some.inj r0
      rw [← hr]
      exact ⟨.inl rfl, rfl⟩
    · refine ls_cF rfl g9 ?_
      refine ls_skip ?_
      refine hK6 _ (ls_keep [(0, .dat a0.length (a0.flatMap ci64)), (1, .int .i64 y1), (5, .int .i64 y2)] ⟨kr, kr, kr, trivial⟩ rfl ?_)
      refine ls_rgn tbOk ?_
      refine evs (ev_mv (c := .int .i64 y1) rfl rfl rfl (evs (ev_bin (c1 := .int .i64 y1) (c2 := .int .i64 1) rfl rfl rfl (evs (ev_as (c := .int .i64 (IntKind.i64.wrap (y1 + 1))) rfl rfl rfl (evn ?_))))))
      refine hK5 _ (ls_keep [(0, .dat a0.length (a0.flatMap ci64)), (1, .int .i64 (IntKind.i64.wrap (y1 + 1))), (5, .int .i64 y2)] ⟨kr, kr, kr, trivial⟩ rfl ?_)
      refine ls_rgn tbOk ?_
      refine evs (ev_mv (c := .int .i64 y2) rfl rfl rfl (evs (ev_bin (c1 := .int .i64 y2) (c2 := .int .i64 1) rfl rfl rfl (evs (ev_as (c := .int .i64 (IntKind.i64.wrap (y2 + 1))) rfl rfl rfl (evn ?_))))))
      exact hN _ ((IntKind.i64.wrap (y1 + 1)), (IntKind.i64.wrap (y2 + 1))) h ⟨kr, kr, kr, trivial⟩
  · refine ls_cF rfl g4 ?_
    refine ls_exit ?_
    have q0 := (Option.some.inj h).symm
    have r0 := hr1
    rw [q0] at r0
    exact kXlaws_heldIntS_B1 y1 r0 _ ⟨kr, trivial⟩
def laws_heldIntSS_B1 (a0 : List (List Int)) (rec : (Int × Int) → Option (Sum (Int) (Int))) (s : Int × Int) : Option (Sum (Int) (Int)) := match s with
  | (y1, y2) => cond (decide (y2 < (List.length a0 : Int))) (obind (geti a0 y2) fun e6 => obind (laws_heldIntS e6 y1) fun v8 => cond (decide (v8 < 0)) (some (.inr (-1))) (rec (v8, (IntKind.i64.wrap (y2 + 1))))) (some (.inl y1))
def laws_heldIntSS (a0 : List (List Int)) (a1 : Int) : Option (Int) := obind (loopF (laws_heldIntSS_B1 a0) fz (a1, 0)) fun o1 => (match o1 with
  | .inl z2 => (some z2)
  | .inr r => some r)
theorem laws_heldIntSS_s {a0 : List (List Int)} {a1 : Int} {r : Int} (h : laws_heldIntSS a0 a1 = some r) : SoundAt Try.prog 179 [.dat a0.length (a0.flatMap c25_d), .int .i64 a1] (.int .i64 r) := by
  unfold laws_heldIntSS at h
  refine sound_lit tbOk lit179 (Nat.le_of_ble_eq_true rfl) rfl ?_
  unfold c179
  refine ls_keep [(0, .dat a0.length (a0.flatMap c25_d)), (1, .int .i64 a1)] ⟨kr, kr, trivial⟩ rfl ?_
  refine ls_rs tbOk ?_
  refine evs (ev_ac rfl nofun rfl (evn ?_))
  refine ls_keep [(0, .dat a0.length (a0.flatMap c25_d)), (1, .int .i64 a1)] ⟨kr, kr, trivial⟩ rfl ?_
  refine ls_seq_k fun K1 hK1 => ?_
  refine ls_rs tbOk ?_
  refine evs (ev_ac rfl nofun rfl (evn ?_))
  refine ls_keep [(0, .dat a0.length (a0.flatMap c25_d)), (1, .int .i64 a1), (5, .int .i64 0)] ⟨kr, kr, kr, trivial⟩ rfl ?_
  obtain ⟨o1, hl, hr1⟩ := ob_some h
  clear h
  have kXlaws_heldIntSS_B1 : ∀ (z2 : Int), (some z2) = some r → ∀ σ' : PS, okK σ' [(1, .int .i64 z2)] → K1 σ' := by
    intro z2 h σ' hk
    refine hK1 _ (ls_keep [(1, .int .i64 z2)] hk rfl ?_)
    refine ls_rs tbOk ?_
    refine evs (ev_mv (c := .int .i64 z2) rfl rfl rfl (evs (ev_as (c := .int .i64 z2) rfl rfl rfl (evn ?_))))
    refine ls_keep [(4, .int .i64 z2)] ⟨kr, trivial⟩ rfl ?_
    refine ls_ret ?_
    have hr := Option.some.inj h
    rw [← hr]
    exact ⟨.inl rfl, rfl⟩
  refine ls_rec (fun (s : Int × Int) => match s with | (y1, y2) => [(0, .dat a0.length (a0.flatMap c25_d)), (1, .int .i64 y1), (5, .int .i64 y2)]) (laws_heldIntSS_B1 a0) fz (a1, 0) o1 hl ⟨kr, kr, kr, trivial⟩ (fun _ => rfl) ?_
  rintro m ⟨y1, y2⟩ N h hN
  unfold laws_heldIntSS_B1 at h
  dsimp only at h
  refine ls_seq_k fun K3 hK3 => ?_
  refine ls_rs tbOk ?_
  refine evs (ev_mv (c := .int .i64 y2) rfl rfl rfl (evs (ev_mv (c := .dat a0.length (a0.flatMap c25_d)) rfl rfl rfl (evs (ev_len (c1 := .dat a0.length (a0.flatMap c25_d)) rfl rfl rfl (evs (ev_bin (c1 := .int .i64 y2) (c2 := .int .i64 (List.length a0 : Int)) rfl rfl rfl (evn ?_))))))))
  refine ls_keep [(0, .dat a0.length (a0.flatMap c25_d)), (1, .int .i64 y1), (5, .int .i64 y2), (9, .bool (decide (y2 < (List.length a0 : Int))))] ⟨kr, kr, kr, kr, trivial⟩ rfl ?_
  rcases cond_some h with ⟨g4, h⟩ | ⟨g4, h⟩
  · refine ls_cT rfl g4 ?_
    refine ls_skip ?_
    refine hK3 _ (ls_keep [(0, .dat a0.length (a0.flatMap c25_d)), (1, .int .i64 y1), (5, .int .i64 y2)] ⟨kr, kr, kr, trivial⟩ rfl ?_)
    refine ls_seq_k fun K5 hK5 => ?_
    refine ls_blk ?_
    refine ls_rs tbOk ?_
    refine evs (ev_mv (c := .dat a0.length (a0.flatMap c25_d)) rfl rfl rfl (evs (ev_mv (c := .int .i64 y2) rfl rfl rfl (?_))))
    obtain ⟨e6, g7, h⟩ := ob_some h
    refine evs (ev_ia rfl rfl rfl ⟨(geti_some g7).1, (geti_some g7).2.1⟩ (evs (ev_ldE (i := y2) (n := 1) (off := 0) (v := .dat e6.length (e6.flatMap ci64)) rfl rfl zc25_d g7 rfl (Nat.le_of_ble_eq_true rfl) rfl (evs (ev_mv (c := .int .i64 y1) rfl rfl rfl (?_))))))
    obtain ⟨v8, g9, h⟩ := ob_some h
    refine evs (ev_call (era rfl (erD eci64 _) (era rfl rfl eran)) (laws_heldIntS_s g9) (evs (ev_as (c := .int .i64 v8) rfl rfl rfl (evn ?_))))
    refine ls_keep [(0, .dat a0.length (a0.flatMap c25_d)), (1, .int .i64 v8), (5, .int .i64 y2)] ⟨kr, kr, kr, trivial⟩ rfl ?_
    refine ls_rs tbOk ?_
    refine evs (ev_mv (c := .int .i64 v8) rfl rfl rfl (evs (ev_bin (c1 := .int .i64 v8) (c2 := .int .i64 0) rfl rfl rfl (evn ?_))))
    refine ls_keep [(0, .dat a0.length (a0.flatMap c25_d)), (1, .int .i64 v8), (5, .int .i64 y2), (19, .bool (decide (v8 < 0)))] ⟨kr, kr, kr, kr, trivial⟩ rfl ?_
    rcases cond_some h with ⟨g10, h⟩ | ⟨g10, h⟩
    · refine ls_cT rfl g10 ?_
      refine ls_rs tbOk ?_
      refine evs (ev_ac rfl nofun rfl (evn ?_))
      refine ls_keep [(4, .int .i64 (-1))] ⟨kr, trivial⟩ rfl ?_
      refine ls_ret ?_
      have q0 := (Option.some.inj h).symm
      have r0 := hr1
      rw [q0] at r0
      have hr := Option.some.inj r0
      rw [← hr]
      exact ⟨.inl rfl, rfl⟩
    · refine ls_cF rfl g10 ?_
      refine ls_skip ?_
      refine hK5 _ (ls_keep [(0, .dat a0.length (a0.flatMap c25_d)), (1, .int .i64 v8), (5, .int .i64 y2)] ⟨kr, kr, kr, trivial⟩ rfl ?_)
      refine ls_rgn tbOk ?_
      refine evs (ev_mv (c := .int .i64 y2) rfl rfl rfl (evs (ev_bin (c1 := .int .i64 y2) (c2 := .int .i64 1) rfl rfl rfl (evs (ev_as (c := .int .i64 (IntKind.i64.wrap (y2 + 1))) rfl rfl rfl (evn ?_))))))
      exact hN _ (v8, (IntKind.i64.wrap (y2 + 1))) h ⟨kr, kr, kr, trivial⟩
  · refine ls_cF rfl g4 ?_
    refine ls_exit ?_
    have q0 := (Option.some.inj h).symm
    have r0 := hr1
    rw [q0] at r0
    exact kXlaws_heldIntSS_B1 y1 r0 _ ⟨kr, trivial⟩
def laws_heldTableS_B1 (a0 : List ((List UInt8) × (Int × (List (List Int))))) (rec : (Int × Int) → Option (Sum (Int) (Int))) (s : Int × Int) : Option (Sum (Int) (Int)) := match s with
  | (y1, y2) => cond (decide (y2 < (List.length a0 : Int))) (obind (geti a0 y2) fun e7 => obind (laws_markText y1) fun v9 => cond (!(e7.1 == v9)) (some (.inr (-1))) (obind (geti a0 y2) fun e13 => cond (e13.2.1 != (IntKind.i64.wrap (y1 + 1))) (some (.inr (-1))) (obind (geti a0 y2) fun e16 => obind (laws_heldIntSS e16.2.2 (IntKind.i64.wrap ((IntKind.i64.wrap (y1 + 1)) + 1))) fun v18 => cond (decide (v18 < 0)) (some (.inr (-1))) (rec (v18, (IntKind.i64.wrap (y2 + 1))))))) (some (.inl y1))
def laws_heldTableS (a0 : List ((List UInt8) × (Int × (List (List Int))))) (a1 : Int) : Option (Int) := obind (loopF (laws_heldTableS_B1 a0) fz (a1, 0)) fun o1 => (match o1 with
  | .inl z2 => (some z2)
  | .inr r => some r)
theorem laws_heldTableS_s {a0 : List ((List UInt8) × (Int × (List (List Int))))} {a1 : Int} {r : Int} (h : laws_heldTableS a0 a1 = some r) : SoundAt Try.prog 94 [.dat a0.length (a0.flatMap c208_dd), .int .i64 a1] (.int .i64 r) := by
  unfold laws_heldTableS at h
  refine sound_lit tbOk lit94 (Nat.le_of_ble_eq_true rfl) rfl ?_
  unfold c94
  refine ls_keep [(0, .dat a0.length (a0.flatMap c208_dd)), (1, .int .i64 a1)] ⟨kr, kr, trivial⟩ rfl ?_
  refine ls_rs tbOk ?_
  refine evs (ev_ac rfl nofun rfl (evn ?_))
  refine ls_keep [(0, .dat a0.length (a0.flatMap c208_dd)), (1, .int .i64 a1)] ⟨kr, kr, trivial⟩ rfl ?_
  refine ls_seq_k fun K1 hK1 => ?_
  refine ls_rs tbOk ?_
  refine evs (ev_ac rfl nofun rfl (evn ?_))
  refine ls_keep [(0, .dat a0.length (a0.flatMap c208_dd)), (1, .int .i64 a1), (5, .int .i64 0)] ⟨kr, kr, kr, trivial⟩ rfl ?_
  obtain ⟨o1, hl, hr1⟩ := ob_some h
  clear h
  have kXlaws_heldTableS_B1 : ∀ (z2 : Int), (some z2) = some r → ∀ σ' : PS, okK σ' [(1, .int .i64 z2)] → K1 σ' := by
    intro z2 h σ' hk
    refine hK1 _ (ls_keep [(1, .int .i64 z2)] hk rfl ?_)
    refine ls_rs tbOk ?_
    refine evs (ev_mv (c := .int .i64 z2) rfl rfl rfl (evs (ev_as (c := .int .i64 z2) rfl rfl rfl (evn ?_))))
    refine ls_keep [(4, .int .i64 z2)] ⟨kr, trivial⟩ rfl ?_
    refine ls_ret ?_
    have hr := Option.some.inj h
    rw [← hr]
    exact ⟨.inl rfl, rfl⟩
  refine ls_rec (fun (s : Int × Int) => match s with | (y1, y2) => [(0, .dat a0.length (a0.flatMap c208_dd)), (1, .int .i64 y1), (5, .int .i64 y2)]) (laws_heldTableS_B1 a0) fz (a1, 0) o1 hl ⟨kr, kr, kr, trivial⟩ (fun _ => rfl) ?_
  rintro m ⟨y1, y2⟩ N h hN
  unfold laws_heldTableS_B1 at h
  dsimp only at h
  refine ls_seq_k fun K3 hK3 => ?_
  refine ls_rs tbOk ?_
  refine evs (ev_mv (c := .int .i64 y2) rfl rfl rfl (evs (ev_mv (c := .dat a0.length (a0.flatMap c208_dd)) rfl rfl rfl (evs (ev_len (c1 := .dat a0.length (a0.flatMap c208_dd)) rfl rfl rfl (evs (ev_bin (c1 := .int .i64 y2) (c2 := .int .i64 (List.length a0 : Int)) rfl rfl rfl (evn ?_))))))))
  refine ls_keep [(0, .dat a0.length (a0.flatMap c208_dd)), (1, .int .i64 y1), (5, .int .i64 y2), (9, .bool (decide (y2 < (List.length a0 : Int))))] ⟨kr, kr, kr, kr, trivial⟩ rfl ?_
  rcases cond_some h with ⟨g4, h⟩ | ⟨g4, h⟩
  · refine ls_cT rfl g4 ?_
    refine ls_skip ?_
    refine hK3 _ (ls_keep [(0, .dat a0.length (a0.flatMap c208_dd)), (1, .int .i64 y1), (5, .int .i64 y2)] ⟨kr, kr, kr, trivial⟩ rfl ?_)
    refine ls_seq_k fun K5 hK5 => ?_
    refine ls_blk ?_
    refine ls_seq_k fun K6 hK6 => ?_
    refine ls_rd tbOk mixed (by kernel_rfl) ?_
    refine evd rfl rfl (ev_mv (c := .dat a0.length (a0.flatMap c208_dd)) rfl rfl rfl (evd rfl rfl (ev_mv (c := .int .i64 y2) rfl rfl rfl (?_))))
    obtain ⟨e7, g8, h⟩ := ob_some h
    refine evd rfl rfl (ev_ia rfl rfl rfl ⟨(geti_some g8).1, (geti_some g8).2.1⟩ (evd rfl rfl (ev_fa (c1 := .adr (a0.flatMap c208_dd) (Int.toNat y2 * 3)) (v := .adr (a0.flatMap c208_dd) (Int.toNat y2 * 3)) rfl rfl rfl trivial rfl (evd rfl rfl (ev_ldE (i := y2) (n := 3) (off := 0) (v := .str e7.1) rfl rfl zc208_dd g8 rfl (Nat.le_of_ble_eq_true rfl) rfl (evd rfl rfl (ev_mv (c := .int .i64 y1) rfl rfl rfl (?_))))))))
    obtain ⟨v9, g10, h⟩ := ob_some h
    refine evd rfl rfl (ev_call (era rfl rfl eran) (laws_markText_s g10) (evd rfl rfl (ev_bin (c1 := .str e7.1) (c2 := .str v9) rfl rfl trivial (evdn ?_))))
    refine ls_keep [(0, .dat a0.length (a0.flatMap c208_dd)), (1, .int .i64 y1), (5, .int .i64 y2), (19, .bool (!(e7.1 == v9)))] ⟨kr, kr, kr, kr, trivial⟩ rfl ?_
    rcases cond_some h with ⟨g11, h⟩ | ⟨g11, h⟩
    · refine ls_cT rfl g11 ?_
      refine ls_rs tbOk ?_
      refine evs (ev_ac rfl nofun rfl (evn ?_))
      refine ls_keep [(4, .int .i64 (-1))] ⟨kr, trivial⟩ rfl ?_
      refine ls_ret ?_
      have q0 := (Option.some.inj h).symm
      have r0 := hr1
      rw [q0] at r0
      have hr := Option.some.inj r0
      rw [← hr]
      exact ⟨.inl rfl, rfl⟩
    · refine ls_cF rfl g11 ?_
      refine ls_skip ?_
      refine hK6 _ (ls_keep [(0, .dat a0.length (a0.flatMap c208_dd)), (1, .int .i64 y1), (5, .int .i64 y2)] ⟨kr, kr, kr, trivial⟩ rfl ?_)
      refine ls_rs tbOk ?_
      refine evs (ev_mv (c := .int .i64 y1) rfl rfl rfl (evs (ev_bin (c1 := .int .i64 y1) (c2 := .int .i64 1) rfl rfl rfl (evs (ev_as (c := .int .i64 (IntKind.i64.wrap (y1 + 1))) rfl rfl rfl (evn ?_))))))
      refine ls_keep [(0, .dat a0.length (a0.flatMap c208_dd)), (1, .int .i64 (IntKind.i64.wrap (y1 + 1))), (5, .int .i64 y2)] ⟨kr, kr, kr, trivial⟩ rfl ?_
      refine ls_seq_k fun K12 hK12 => ?_
      refine ls_rs tbOk ?_
      refine evs (ev_mv (c := .dat a0.length (a0.flatMap c208_dd)) rfl rfl rfl (evs (ev_mv (c := .int .i64 y2) rfl rfl rfl (?_))))
      obtain ⟨e13, g14, h⟩ := ob_some h
      refine evs (ev_ia rfl rfl rfl ⟨(geti_some g14).1, (geti_some g14).2.1⟩ (evs (ev_fa (c1 := .adr (a0.flatMap c208_dd) (Int.toNat y2 * 3)) (v := .adr (a0.flatMap c208_dd) (Int.toNat y2 * 3 + 1)) rfl rfl rfl trivial rfl (evs (ev_fa (c1 := .adr (a0.flatMap c208_dd) (Int.toNat y2 * 3 + 1)) (v := .adr (a0.flatMap c208_dd) (Int.toNat y2 * 3 + 1)) rfl rfl rfl trivial rfl (evs (ev_ldE (i := y2) (n := 3) (off := 1) (v := .int .i64 e13.2.1) rfl rfl zc208_dd g14 rfl (Nat.le_of_ble_eq_true rfl) rfl (evs (ev_mv (c := .int .i64 (IntKind.i64.wrap (y1 + 1))) rfl rfl rfl (evs (ev_bin (c1 := .int .i64 e13.2.1) (c2 := .int .i64 (IntKind.i64.wrap (y1 + 1))) rfl rfl rfl (evn ?_))))))))))))
      refine ls_keep [(0, .dat a0.length (a0.flatMap c208_dd)), (1, .int .i64 (IntKind.i64.wrap (y1 + 1))), (5, .int .i64 y2), (29, .bool (e13.2.1 != (IntKind.i64.wrap (y1 + 1))))] ⟨kr, kr, kr, kr, trivial⟩ rfl ?_
      rcases cond_some h with ⟨g15, h⟩ | ⟨g15, h⟩
      · refine ls_cT rfl g15 ?_
        refine ls_rs tbOk ?_
        refine evs (ev_ac rfl nofun rfl (evn ?_))
        refine ls_keep [(4, .int .i64 (-1))] ⟨kr, trivial⟩ rfl ?_
        refine ls_ret ?_
        have q0 := (Option.some.inj h).symm
        have r0 := hr1
        rw [q0] at r0
        have hr := Option.some.inj r0
        rw [← hr]
        exact ⟨.inl rfl, rfl⟩
      · refine ls_cF rfl g15 ?_
        refine ls_skip ?_
        refine hK12 _ (ls_keep [(0, .dat a0.length (a0.flatMap c208_dd)), (1, .int .i64 (IntKind.i64.wrap (y1 + 1))), (5, .int .i64 y2)] ⟨kr, kr, kr, trivial⟩ rfl ?_)
        refine ls_rs tbOk ?_
        refine evs (ev_mv (c := .int .i64 (IntKind.i64.wrap (y1 + 1))) rfl rfl rfl (evs (ev_bin (c1 := .int .i64 (IntKind.i64.wrap (y1 + 1))) (c2 := .int .i64 1) rfl rfl rfl (evs (ev_as (c := .int .i64 (IntKind.i64.wrap ((IntKind.i64.wrap (y1 + 1)) + 1))) rfl rfl rfl (evn ?_))))))
        refine ls_keep [(0, .dat a0.length (a0.flatMap c208_dd)), (1, .int .i64 (IntKind.i64.wrap ((IntKind.i64.wrap (y1 + 1)) + 1))), (5, .int .i64 y2)] ⟨kr, kr, kr, trivial⟩ rfl ?_
        refine ls_rs tbOk ?_
        refine evs (ev_mv (c := .dat a0.length (a0.flatMap c208_dd)) rfl rfl rfl (evs (ev_mv (c := .int .i64 y2) rfl rfl rfl (?_))))
        obtain ⟨e16, g17, h⟩ := ob_some h
        refine evs (ev_ia rfl rfl rfl ⟨(geti_some g17).1, (geti_some g17).2.1⟩ (evs (ev_fa (c1 := .adr (a0.flatMap c208_dd) (Int.toNat y2 * 3)) (v := .adr (a0.flatMap c208_dd) (Int.toNat y2 * 3 + 1)) rfl rfl rfl trivial rfl (evs (ev_fa (c1 := .adr (a0.flatMap c208_dd) (Int.toNat y2 * 3 + 1)) (v := .adr (a0.flatMap c208_dd) (Int.toNat y2 * 3 + 2)) rfl rfl rfl trivial rfl (evs (ev_ldE (i := y2) (n := 3) (off := 2) (v := .dat e16.2.2.length (e16.2.2.flatMap c25_d)) rfl rfl zc208_dd g17 rfl (Nat.le_of_ble_eq_true rfl) rfl (evs (ev_mv (c := .int .i64 (IntKind.i64.wrap ((IntKind.i64.wrap (y1 + 1)) + 1))) rfl rfl rfl (?_))))))))))
        obtain ⟨v18, g19, h⟩ := ob_some h
        refine evs (ev_call (era rfl (erD ec25_d _) (era rfl rfl eran)) (laws_heldIntSS_s g19) (evs (ev_as (c := .int .i64 v18) rfl rfl rfl (evn ?_))))
        refine ls_keep [(0, .dat a0.length (a0.flatMap c208_dd)), (1, .int .i64 v18), (5, .int .i64 y2)] ⟨kr, kr, kr, trivial⟩ rfl ?_
        refine ls_rs tbOk ?_
        refine evs (ev_mv (c := .int .i64 v18) rfl rfl rfl (evs (ev_bin (c1 := .int .i64 v18) (c2 := .int .i64 0) rfl rfl rfl (evn ?_))))
        refine ls_keep [(0, .dat a0.length (a0.flatMap c208_dd)), (1, .int .i64 v18), (5, .int .i64 y2), (41, .bool (decide (v18 < 0)))] ⟨kr, kr, kr, kr, trivial⟩ rfl ?_
        rcases cond_some h with ⟨g20, h⟩ | ⟨g20, h⟩
        · refine ls_cT rfl g20 ?_
          refine ls_rs tbOk ?_
          refine evs (ev_ac rfl nofun rfl (evn ?_))
          refine ls_keep [(4, .int .i64 (-1))] ⟨kr, trivial⟩ rfl ?_
          refine ls_ret ?_
          have q0 := (Option.some.inj h).symm
          have r0 := hr1
          rw [q0] at r0
          have hr := Option.some.inj r0
          rw [← hr]
          exact ⟨.inl rfl, rfl⟩
        · refine ls_cF rfl g20 ?_
          refine ls_skip ?_
          refine hK5 _ (ls_keep [(0, .dat a0.length (a0.flatMap c208_dd)), (1, .int .i64 v18), (5, .int .i64 y2)] ⟨kr, kr, kr, trivial⟩ rfl ?_)
          refine ls_rgn tbOk ?_
          refine evs (ev_mv (c := .int .i64 y2) rfl rfl rfl (evs (ev_bin (c1 := .int .i64 y2) (c2 := .int .i64 1) rfl rfl rfl (evs (ev_as (c := .int .i64 (IntKind.i64.wrap (y2 + 1))) rfl rfl rfl (evn ?_))))))
          exact hN _ (v18, (IntKind.i64.wrap (y2 + 1))) h ⟨kr, kr, kr, trivial⟩
  · refine ls_cF rfl g4 ?_
    refine ls_exit ?_
    have q0 := (Option.some.inj h).symm
    have r0 := hr1
    rw [q0] at r0
    exact kXlaws_heldTableS_B1 y1 r0 _ ⟨kr, trivial⟩
def laws_heldDatabase (a0 : (List ((List UInt8) × (Int × (List (List Int)))))) (a1 : Int) : Option (Int) := obind (laws_heldTableS a0 a1) fun v1 => cond (decide (v1 < 0)) (some (-1)) (some v1)
theorem laws_heldDatabase_s {a0 : (List ((List UInt8) × (Int × (List (List Int)))))} {a1 : Int} {r : Int} (h : laws_heldDatabase a0 a1 = some r) : SoundAt Try.prog 32 [.agg [.dat a0.length (a0.flatMap c208_dd)], .int .i64 a1] (.int .i64 r) := by
  unfold laws_heldDatabase at h
  refine sound_lit tbOk lit32 (Nat.le_of_ble_eq_true rfl) rfl ?_
  unfold c32
  refine ls_keep [(0, .agg [.dat a0.length (a0.flatMap c208_dd)]), (1, .int .i64 a1)] ⟨kr, kr, trivial⟩ rfl ?_
  refine ls_rs tbOk ?_
  refine evs (ev_bx (c1 := .agg [.dat a0.length (a0.flatMap c208_dd)]) rfl rfl rfl (evs (ev_ac rfl nofun rfl (evn ?_))))
  refine ls_keep [(1, .int .i64 a1), (2, .box [.dat a0.length (a0.flatMap c208_dd)])] ⟨kr, kr, trivial⟩ rfl ?_
  refine ls_rs tbOk ?_
  refine evs (ev_fa (c1 := .cref 2 0) (v := .cref 2 0) rfl rfl rfl ⟨_, rfl⟩ rfl (evs (ev_ldB (off := 0) (v := .dat a0.length (a0.flatMap c208_dd)) rfl rfl rfl rfl (Nat.le_of_ble_eq_true rfl) rfl (evs (ev_mv (c := .int .i64 a1) rfl rfl rfl (?_))))))
  obtain ⟨v1, g2, h⟩ := ob_some h
  refine evs (ev_call (era rfl (erD ec208_dd _) (era rfl rfl eran)) (laws_heldTableS_s g2) (evs (ev_as (c := .int .i64 v1) rfl rfl rfl (evn ?_))))
  refine ls_keep [(1, .int .i64 v1)] ⟨kr, trivial⟩ rfl ?_
  refine ls_seq_k fun K3 hK3 => ?_
  refine ls_rs tbOk ?_
  refine evs (ev_mv (c := .int .i64 v1) rfl rfl rfl (evs (ev_bin (c1 := .int .i64 v1) (c2 := .int .i64 0) rfl rfl rfl (evn ?_))))
  refine ls_keep [(1, .int .i64 v1), (10, .bool (decide (v1 < 0)))] ⟨kr, kr, trivial⟩ rfl ?_
  rcases cond_some h with ⟨g4, h⟩ | ⟨g4, h⟩
  · refine ls_cT rfl g4 ?_
    refine ls_rs tbOk ?_
    refine evs (ev_ac rfl nofun rfl (evn ?_))
    refine ls_keep [(4, .int .i64 (-1))] ⟨kr, trivial⟩ rfl ?_
    refine ls_ret ?_
    have hr := Option.some.inj h
    rw [← hr]
    exact ⟨.inl rfl, rfl⟩
  · refine ls_cF rfl g4 ?_
    refine ls_skip ?_
    refine hK3 _ (ls_keep [(1, .int .i64 v1)] ⟨kr, trivial⟩ rfl ?_)
    refine ls_rs tbOk ?_
    refine evs (ev_mv (c := .int .i64 v1) rfl rfl rfl (evs (ev_as (c := .int .i64 v1) rfl rfl rfl (evn ?_))))
    refine ls_keep [(4, .int .i64 v1)] ⟨kr, trivial⟩ rfl ?_
    refine ls_ret ?_
    have hr := Option.some.inj h
    rw [← hr]
    exact ⟨.inl rfl, rfl⟩
def laws_heldAtomS_B1 (a0 : List ((List UInt8) × (List Int))) (rec : (Int × Int) → Option (Sum (Int) (Int))) (s : Int × Int) : Option (Sum (Int) (Int)) := match s with
  | (y1, y2) => cond (decide (y2 < (List.length a0 : Int))) (obind (geti a0 y2) fun e7 => obind (laws_markText y1) fun v9 => cond (!(e7.1 == v9)) (some (.inr (-1))) (obind (geti a0 y2) fun e12 => obind (laws_heldIntS e12.2 (IntKind.i64.wrap (y1 + 1))) fun v14 => cond (decide (v14 < 0)) (some (.inr (-1))) (rec (v14, (IntKind.i64.wrap (y2 + 1)))))) (some (.inl y1))
def laws_heldAtomS (a0 : List ((List UInt8) × (List Int))) (a1 : Int) : Option (Int) := obind (loopF (laws_heldAtomS_B1 a0) fz (a1, 0)) fun o1 => (match o1 with
  | .inl z2 => (some z2)
  | .inr r => some r)
theorem laws_heldAtomS_s {a0 : List ((List UInt8) × (List Int))} {a1 : Int} {r : Int} (h : laws_heldAtomS a0 a1 = some r) : SoundAt Try.prog 220 [.dat a0.length (a0.flatMap c195_d), .int .i64 a1] (.int .i64 r) := by
  unfold laws_heldAtomS at h
  refine sound_lit tbOk lit220 (Nat.le_of_ble_eq_true rfl) rfl ?_
  unfold c220
  refine ls_keep [(0, .dat a0.length (a0.flatMap c195_d)), (1, .int .i64 a1)] ⟨kr, kr, trivial⟩ rfl ?_
  refine ls_rs tbOk ?_
  refine evs (ev_ac rfl nofun rfl (evn ?_))
  refine ls_keep [(0, .dat a0.length (a0.flatMap c195_d)), (1, .int .i64 a1)] ⟨kr, kr, trivial⟩ rfl ?_
  refine ls_seq_k fun K1 hK1 => ?_
  refine ls_rs tbOk ?_
  refine evs (ev_ac rfl nofun rfl (evn ?_))
  refine ls_keep [(0, .dat a0.length (a0.flatMap c195_d)), (1, .int .i64 a1), (5, .int .i64 0)] ⟨kr, kr, kr, trivial⟩ rfl ?_
  obtain ⟨o1, hl, hr1⟩ := ob_some h
  clear h
  have kXlaws_heldAtomS_B1 : ∀ (z2 : Int), (some z2) = some r → ∀ σ' : PS, okK σ' [(1, .int .i64 z2)] → K1 σ' := by
    intro z2 h σ' hk
    refine hK1 _ (ls_keep [(1, .int .i64 z2)] hk rfl ?_)
    refine ls_rs tbOk ?_
    refine evs (ev_mv (c := .int .i64 z2) rfl rfl rfl (evs (ev_as (c := .int .i64 z2) rfl rfl rfl (evn ?_))))
    refine ls_keep [(4, .int .i64 z2)] ⟨kr, trivial⟩ rfl ?_
    refine ls_ret ?_
    have hr := Option.some.inj h
    rw [← hr]
    exact ⟨.inl rfl, rfl⟩
  refine ls_rec (fun (s : Int × Int) => match s with | (y1, y2) => [(0, .dat a0.length (a0.flatMap c195_d)), (1, .int .i64 y1), (5, .int .i64 y2)]) (laws_heldAtomS_B1 a0) fz (a1, 0) o1 hl ⟨kr, kr, kr, trivial⟩ (fun _ => rfl) ?_
  rintro m ⟨y1, y2⟩ N h hN
  unfold laws_heldAtomS_B1 at h
  dsimp only at h
  refine ls_seq_k fun K3 hK3 => ?_
  refine ls_rs tbOk ?_
  refine evs (ev_mv (c := .int .i64 y2) rfl rfl rfl (evs (ev_mv (c := .dat a0.length (a0.flatMap c195_d)) rfl rfl rfl (evs (ev_len (c1 := .dat a0.length (a0.flatMap c195_d)) rfl rfl rfl (evs (ev_bin (c1 := .int .i64 y2) (c2 := .int .i64 (List.length a0 : Int)) rfl rfl rfl (evn ?_))))))))
  refine ls_keep [(0, .dat a0.length (a0.flatMap c195_d)), (1, .int .i64 y1), (5, .int .i64 y2), (9, .bool (decide (y2 < (List.length a0 : Int))))] ⟨kr, kr, kr, kr, trivial⟩ rfl ?_
  rcases cond_some h with ⟨g4, h⟩ | ⟨g4, h⟩
  · refine ls_cT rfl g4 ?_
    refine ls_skip ?_
    refine hK3 _ (ls_keep [(0, .dat a0.length (a0.flatMap c195_d)), (1, .int .i64 y1), (5, .int .i64 y2)] ⟨kr, kr, kr, trivial⟩ rfl ?_)
    refine ls_seq_k fun K5 hK5 => ?_
    refine ls_blk ?_
    refine ls_seq_k fun K6 hK6 => ?_
    refine ls_rd tbOk mixed (by kernel_rfl) ?_
    refine evd rfl rfl (ev_mv (c := .dat a0.length (a0.flatMap c195_d)) rfl rfl rfl (evd rfl rfl (ev_mv (c := .int .i64 y2) rfl rfl rfl (?_))))
    obtain ⟨e7, g8, h⟩ := ob_some h
    refine evd rfl rfl (ev_ia rfl rfl rfl ⟨(geti_some g8).1, (geti_some g8).2.1⟩ (evd rfl rfl (ev_fa (c1 := .adr (a0.flatMap c195_d) (Int.toNat y2 * 2)) (v := .adr (a0.flatMap c195_d) (Int.toNat y2 * 2)) rfl rfl rfl trivial rfl (evd rfl rfl (ev_ldE (i := y2) (n := 2) (off := 0) (v := .str e7.1) rfl rfl zc195_d g8 rfl (Nat.le_of_ble_eq_true rfl) rfl (evd rfl rfl (ev_mv (c := .int .i64 y1) rfl rfl rfl (?_))))))))
    obtain ⟨v9, g10, h⟩ := ob_some h
    refine evd rfl rfl (ev_call (era rfl rfl eran) (laws_markText_s g10) (evd rfl rfl (ev_bin (c1 := .str e7.1) (c2 := .str v9) rfl rfl trivial (evdn ?_))))
    refine ls_keep [(0, .dat a0.length (a0.flatMap c195_d)), (1, .int .i64 y1), (5, .int .i64 y2), (19, .bool (!(e7.1 == v9)))] ⟨kr, kr, kr, kr, trivial⟩ rfl ?_
    rcases cond_some h with ⟨g11, h⟩ | ⟨g11, h⟩
    · refine ls_cT rfl g11 ?_
      refine ls_rs tbOk ?_
      refine evs (ev_ac rfl nofun rfl (evn ?_))
      refine ls_keep [(4, .int .i64 (-1))] ⟨kr, trivial⟩ rfl ?_
      refine ls_ret ?_
      have q0 := (Option.some.inj h).symm
      have r0 := hr1
      rw [q0] at r0
      have hr := Option.some.inj r0
      rw [← hr]
      exact ⟨.inl rfl, rfl⟩
    · refine ls_cF rfl g11 ?_
      refine ls_skip ?_
      refine hK6 _ (ls_keep [(0, .dat a0.length (a0.flatMap c195_d)), (1, .int .i64 y1), (5, .int .i64 y2)] ⟨kr, kr, kr, trivial⟩ rfl ?_)
      refine ls_rs tbOk ?_
      refine evs (ev_mv (c := .int .i64 y1) rfl rfl rfl (evs (ev_bin (c1 := .int .i64 y1) (c2 := .int .i64 1) rfl rfl rfl (evs (ev_as (c := .int .i64 (IntKind.i64.wrap (y1 + 1))) rfl rfl rfl (evn ?_))))))
      refine ls_keep [(0, .dat a0.length (a0.flatMap c195_d)), (1, .int .i64 (IntKind.i64.wrap (y1 + 1))), (5, .int .i64 y2)] ⟨kr, kr, kr, trivial⟩ rfl ?_
      refine ls_rs tbOk ?_
      refine evs (ev_mv (c := .dat a0.length (a0.flatMap c195_d)) rfl rfl rfl (evs (ev_mv (c := .int .i64 y2) rfl rfl rfl (?_))))
      obtain ⟨e12, g13, h⟩ := ob_some h
      refine evs (ev_ia rfl rfl rfl ⟨(geti_some g13).1, (geti_some g13).2.1⟩ (evs (ev_fa (c1 := .adr (a0.flatMap c195_d) (Int.toNat y2 * 2)) (v := .adr (a0.flatMap c195_d) (Int.toNat y2 * 2 + 1)) rfl rfl rfl trivial rfl (evs (ev_ldE (i := y2) (n := 2) (off := 1) (v := .dat e12.2.length (e12.2.flatMap ci64)) rfl rfl zc195_d g13 rfl (Nat.le_of_ble_eq_true rfl) rfl (evs (ev_mv (c := .int .i64 (IntKind.i64.wrap (y1 + 1))) rfl rfl rfl (?_))))))))
      obtain ⟨v14, g15, h⟩ := ob_some h
      refine evs (ev_call (era rfl (erD eci64 _) (era rfl rfl eran)) (laws_heldIntS_s g15) (evs (ev_as (c := .int .i64 v14) rfl rfl rfl (evn ?_))))
      refine ls_keep [(0, .dat a0.length (a0.flatMap c195_d)), (1, .int .i64 v14), (5, .int .i64 y2)] ⟨kr, kr, kr, trivial⟩ rfl ?_
      refine ls_rs tbOk ?_
      refine evs (ev_mv (c := .int .i64 v14) rfl rfl rfl (evs (ev_bin (c1 := .int .i64 v14) (c2 := .int .i64 0) rfl rfl rfl (evn ?_))))
      refine ls_keep [(0, .dat a0.length (a0.flatMap c195_d)), (1, .int .i64 v14), (5, .int .i64 y2), (30, .bool (decide (v14 < 0)))] ⟨kr, kr, kr, kr, trivial⟩ rfl ?_
      rcases cond_some h with ⟨g16, h⟩ | ⟨g16, h⟩
      · refine ls_cT rfl g16 ?_
        refine ls_rs tbOk ?_
        refine evs (ev_ac rfl nofun rfl (evn ?_))
        refine ls_keep [(4, .int .i64 (-1))] ⟨kr, trivial⟩ rfl ?_
        refine ls_ret ?_
        have q0 := (Option.some.inj h).symm
        have r0 := hr1
        rw [q0] at r0
        have hr := Option.some.inj r0
        rw [← hr]
        exact ⟨.inl rfl, rfl⟩
      · refine ls_cF rfl g16 ?_
        refine ls_skip ?_
        refine hK5 _ (ls_keep [(0, .dat a0.length (a0.flatMap c195_d)), (1, .int .i64 v14), (5, .int .i64 y2)] ⟨kr, kr, kr, trivial⟩ rfl ?_)
        refine ls_rgn tbOk ?_
        refine evs (ev_mv (c := .int .i64 y2) rfl rfl rfl (evs (ev_bin (c1 := .int .i64 y2) (c2 := .int .i64 1) rfl rfl rfl (evs (ev_as (c := .int .i64 (IntKind.i64.wrap (y2 + 1))) rfl rfl rfl (evn ?_))))))
        exact hN _ (v14, (IntKind.i64.wrap (y2 + 1))) h ⟨kr, kr, kr, trivial⟩
  · refine ls_cF rfl g4 ?_
    refine ls_exit ?_
    have q0 := (Option.some.inj h).symm
    have r0 := hr1
    rw [q0] at r0
    exact kXlaws_heldAtomS_B1 y1 r0 _ ⟨kr, trivial⟩
def laws_heldViewS_B1 (a0 : List ((Int × (List ((List UInt8) × (List Int))) × (List Int)) × (Int × (List (List Int)) × (List Int)))) (rec : (Int × Int) → Option (Sum (Int) (Int))) (s : Int × Int) : Option (Sum (Int) (Int)) := match s with
  | (y1, y2) => cond (decide (y2 < (List.length a0 : Int))) (obind (geti a0 y2) fun e7 => cond (e7.1.1 != y1) (some (.inr (-1))) (obind (geti a0 y2) fun e10 => obind (laws_heldAtomS e10.1.2.1 (IntKind.i64.wrap (y1 + 1))) fun v12 => cond (decide (v12 < 0)) (some (.inr (-1))) (obind (geti a0 y2) fun e16 => obind (laws_heldIntS e16.1.2.2 v12) fun v18 => cond (decide (v18 < 0)) (some (.inr (-1))) (obind (geti a0 y2) fun e23 => cond (e23.2.1 != v18) (some (.inr (-1))) (obind (geti a0 y2) fun e26 => obind (laws_heldIntSS e26.2.2.1 (IntKind.i64.wrap (v18 + 1))) fun v28 => cond (decide (v28 < 0)) (some (.inr (-1))) (obind (geti a0 y2) fun e32 => obind (laws_heldIntS e32.2.2.2 v28) fun v34 => cond (decide (v34 < 0)) (some (.inr (-1))) (rec (v34, (IntKind.i64.wrap (y2 + 1)))))))))) (some (.inl y1))
def laws_heldViewS (a0 : List ((Int × (List ((List UInt8) × (List Int))) × (List Int)) × (Int × (List (List Int)) × (List Int)))) (a1 : Int) : Option (Int) := obind (loopF (laws_heldViewS_B1 a0) fz (a1, 0)) fun o1 => (match o1 with
  | .inl z2 => (some z2)
  | .inr r => some r)
theorem laws_heldViewS_s {a0 : List ((Int × (List ((List UInt8) × (List Int))) × (List Int)) × (Int × (List (List Int)) × (List Int)))} {a1 : Int} {r : Int} (h : laws_heldViewS a0 a1 = some r) : SoundAt Try.prog 139 [.dat a0.length (a0.flatMap c161_dddddd), .int .i64 a1] (.int .i64 r) := by
  unfold laws_heldViewS at h
  refine sound_lit tbOk lit139 (Nat.le_of_ble_eq_true rfl) rfl ?_
  unfold c139
  refine ls_keep [(0, .dat a0.length (a0.flatMap c161_dddddd)), (1, .int .i64 a1)] ⟨kr, kr, trivial⟩ rfl ?_
  refine ls_rs tbOk ?_
  refine evs (ev_ac rfl nofun rfl (evn ?_))
  refine ls_keep [(0, .dat a0.length (a0.flatMap c161_dddddd)), (1, .int .i64 a1)] ⟨kr, kr, trivial⟩ rfl ?_
  refine ls_seq_k fun K1 hK1 => ?_
  refine ls_rs tbOk ?_
  refine evs (ev_ac rfl nofun rfl (evn ?_))
  refine ls_keep [(0, .dat a0.length (a0.flatMap c161_dddddd)), (1, .int .i64 a1), (5, .int .i64 0)] ⟨kr, kr, kr, trivial⟩ rfl ?_
  obtain ⟨o1, hl, hr1⟩ := ob_some h
  clear h
  have kXlaws_heldViewS_B1 : ∀ (z2 : Int), (some z2) = some r → ∀ σ' : PS, okK σ' [(1, .int .i64 z2)] → K1 σ' := by
    intro z2 h σ' hk
    refine hK1 _ (ls_keep [(1, .int .i64 z2)] hk rfl ?_)
    refine ls_rs tbOk ?_
    refine evs (ev_mv (c := .int .i64 z2) rfl rfl rfl (evs (ev_as (c := .int .i64 z2) rfl rfl rfl (evn ?_))))
    refine ls_keep [(4, .int .i64 z2)] ⟨kr, trivial⟩ rfl ?_
    refine ls_ret ?_
    have hr := Option.some.inj h
    rw [← hr]
    exact ⟨.inl rfl, rfl⟩
  refine ls_rec (fun (s : Int × Int) => match s with | (y1, y2) => [(0, .dat a0.length (a0.flatMap c161_dddddd)), (1, .int .i64 y1), (5, .int .i64 y2)]) (laws_heldViewS_B1 a0) fz (a1, 0) o1 hl ⟨kr, kr, kr, trivial⟩ (fun _ => rfl) ?_
  rintro m ⟨y1, y2⟩ N h hN
  unfold laws_heldViewS_B1 at h
  dsimp only at h
  refine ls_seq_k fun K3 hK3 => ?_
  refine ls_rs tbOk ?_
  refine evs (ev_mv (c := .int .i64 y2) rfl rfl rfl (evs (ev_mv (c := .dat a0.length (a0.flatMap c161_dddddd)) rfl rfl rfl (evs (ev_len (c1 := .dat a0.length (a0.flatMap c161_dddddd)) rfl rfl rfl (evs (ev_bin (c1 := .int .i64 y2) (c2 := .int .i64 (List.length a0 : Int)) rfl rfl rfl (evn ?_))))))))
  refine ls_keep [(0, .dat a0.length (a0.flatMap c161_dddddd)), (1, .int .i64 y1), (5, .int .i64 y2), (9, .bool (decide (y2 < (List.length a0 : Int))))] ⟨kr, kr, kr, kr, trivial⟩ rfl ?_
  rcases cond_some h with ⟨g4, h⟩ | ⟨g4, h⟩
  · refine ls_cT rfl g4 ?_
    refine ls_skip ?_
    refine hK3 _ (ls_keep [(0, .dat a0.length (a0.flatMap c161_dddddd)), (1, .int .i64 y1), (5, .int .i64 y2)] ⟨kr, kr, kr, trivial⟩ rfl ?_)
    refine ls_seq_k fun K5 hK5 => ?_
    refine ls_blk ?_
    refine ls_seq_k fun K6 hK6 => ?_
    refine ls_rs tbOk ?_
    refine evs (ev_mv (c := .dat a0.length (a0.flatMap c161_dddddd)) rfl rfl rfl (evs (ev_mv (c := .int .i64 y2) rfl rfl rfl (?_))))
    obtain ⟨e7, g8, h⟩ := ob_some h
    refine evs (ev_ia rfl rfl rfl ⟨(geti_some g8).1, (geti_some g8).2.1⟩ (evs (ev_fa (c1 := .adr (a0.flatMap c161_dddddd) (Int.toNat y2 * 6)) (v := .adr (a0.flatMap c161_dddddd) (Int.toNat y2 * 6)) rfl rfl rfl trivial rfl (evs (ev_fa (c1 := .adr (a0.flatMap c161_dddddd) (Int.toNat y2 * 6)) (v := .adr (a0.flatMap c161_dddddd) (Int.toNat y2 * 6)) rfl rfl rfl trivial rfl (evs (ev_ldE (i := y2) (n := 6) (off := 0) (v := .int .i64 e7.1.1) rfl rfl zc161_dddddd g8 rfl (Nat.le_of_ble_eq_true rfl) rfl (evs (ev_mv (c := .int .i64 y1) rfl rfl rfl (evs (ev_bin (c1 := .int .i64 e7.1.1) (c2 := .int .i64 y1) rfl rfl rfl (evn ?_))))))))))))
    refine ls_keep [(0, .dat a0.length (a0.flatMap c161_dddddd)), (1, .int .i64 y1), (5, .int .i64 y2), (19, .bool (e7.1.1 != y1))] ⟨kr, kr, kr, kr, trivial⟩ rfl ?_
    rcases cond_some h with ⟨g9, h⟩ | ⟨g9, h⟩
    · refine ls_cT rfl g9 ?_
      refine ls_rs tbOk ?_
      refine evs (ev_ac rfl nofun rfl (evn ?_))
      refine ls_keep [(4, .int .i64 (-1))] ⟨kr, trivial⟩ rfl ?_
      refine ls_ret ?_
      have q0 := (Option.some.inj h).symm
      have r0 := hr1
      rw [q0] at r0
      have hr := Option.some.inj r0
      rw [← hr]
      exact ⟨.inl rfl, rfl⟩
    · refine ls_cF rfl g9 ?_
      refine ls_skip ?_
      refine hK6 _ (ls_keep [(0, .dat a0.length (a0.flatMap c161_dddddd)), (1, .int .i64 y1), (5, .int .i64 y2)] ⟨kr, kr, kr, trivial⟩ rfl ?_)
      refine ls_rs tbOk ?_
      refine evs (ev_mv (c := .int .i64 y1) rfl rfl rfl (evs (ev_bin (c1 := .int .i64 y1) (c2 := .int .i64 1) rfl rfl rfl (evs (ev_as (c := .int .i64 (IntKind.i64.wrap (y1 + 1))) rfl rfl rfl (evn ?_))))))
      refine ls_keep [(0, .dat a0.length (a0.flatMap c161_dddddd)), (1, .int .i64 (IntKind.i64.wrap (y1 + 1))), (5, .int .i64 y2)] ⟨kr, kr, kr, trivial⟩ rfl ?_
      refine ls_rs tbOk ?_
      refine evs (ev_mv (c := .dat a0.length (a0.flatMap c161_dddddd)) rfl rfl rfl (evs (ev_mv (c := .int .i64 y2) rfl rfl rfl (?_))))
      obtain ⟨e10, g11, h⟩ := ob_some h
      refine evs (ev_ia rfl rfl rfl ⟨(geti_some g11).1, (geti_some g11).2.1⟩ (evs (ev_fa (c1 := .adr (a0.flatMap c161_dddddd) (Int.toNat y2 * 6)) (v := .adr (a0.flatMap c161_dddddd) (Int.toNat y2 * 6)) rfl rfl rfl trivial rfl (evs (ev_fa (c1 := .adr (a0.flatMap c161_dddddd) (Int.toNat y2 * 6)) (v := .adr (a0.flatMap c161_dddddd) (Int.toNat y2 * 6 + 1)) rfl rfl rfl trivial rfl (evs (ev_ldE (i := y2) (n := 6) (off := 1) (v := .dat e10.1.2.1.length (e10.1.2.1.flatMap c195_d)) rfl rfl zc161_dddddd g11 rfl (Nat.le_of_ble_eq_true rfl) rfl (evs (ev_mv (c := .int .i64 (IntKind.i64.wrap (y1 + 1))) rfl rfl rfl (?_))))))))))
      obtain ⟨v12, g13, h⟩ := ob_some h
      refine evs (ev_call (era rfl (erD ec195_d _) (era rfl rfl eran)) (laws_heldAtomS_s g13) (evs (ev_as (c := .int .i64 v12) rfl rfl rfl (evn ?_))))
      refine ls_keep [(0, .dat a0.length (a0.flatMap c161_dddddd)), (1, .int .i64 v12), (5, .int .i64 y2)] ⟨kr, kr, kr, trivial⟩ rfl ?_
      refine ls_seq_k fun K14 hK14 => ?_
      refine ls_rs tbOk ?_
      refine evs (ev_mv (c := .int .i64 v12) rfl rfl rfl (evs (ev_bin (c1 := .int .i64 v12) (c2 := .int .i64 0) rfl rfl rfl (evn ?_))))
      refine ls_keep [(0, .dat a0.length (a0.flatMap c161_dddddd)), (1, .int .i64 v12), (5, .int .i64 y2), (31, .bool (decide (v12 < 0)))] ⟨kr, kr, kr, kr, trivial⟩ rfl ?_
      rcases cond_some h with ⟨g15, h⟩ | ⟨g15, h⟩
      · refine ls_cT rfl g15 ?_
        refine ls_rs tbOk ?_
        refine evs (ev_ac rfl nofun rfl (evn ?_))
        refine ls_keep [(4, .int .i64 (-1))] ⟨kr, trivial⟩ rfl ?_
        refine ls_ret ?_
        have q0 := (Option.some.inj h).symm
        have r0 := hr1
        rw [q0] at r0
        have hr := Option.some.inj r0
        rw [← hr]
        exact ⟨.inl rfl, rfl⟩
      · refine ls_cF rfl g15 ?_
        refine ls_skip ?_
        refine hK14 _ (ls_keep [(0, .dat a0.length (a0.flatMap c161_dddddd)), (1, .int .i64 v12), (5, .int .i64 y2)] ⟨kr, kr, kr, trivial⟩ rfl ?_)
        refine ls_rs tbOk ?_
        refine evs (ev_mv (c := .dat a0.length (a0.flatMap c161_dddddd)) rfl rfl rfl (evs (ev_mv (c := .int .i64 y2) rfl rfl rfl (?_))))
        obtain ⟨e16, g17, h⟩ := ob_some h
        refine evs (ev_ia rfl rfl rfl ⟨(geti_some g17).1, (geti_some g17).2.1⟩ (evs (ev_fa (c1 := .adr (a0.flatMap c161_dddddd) (Int.toNat y2 * 6)) (v := .adr (a0.flatMap c161_dddddd) (Int.toNat y2 * 6)) rfl rfl rfl trivial rfl (evs (ev_fa (c1 := .adr (a0.flatMap c161_dddddd) (Int.toNat y2 * 6)) (v := .adr (a0.flatMap c161_dddddd) (Int.toNat y2 * 6 + 2)) rfl rfl rfl trivial rfl (evs (ev_ldE (i := y2) (n := 6) (off := 2) (v := .dat e16.1.2.2.length (e16.1.2.2.flatMap ci64)) rfl rfl zc161_dddddd g17 rfl (Nat.le_of_ble_eq_true rfl) rfl (evs (ev_mv (c := .int .i64 v12) rfl rfl rfl (?_))))))))))
        obtain ⟨v18, g19, h⟩ := ob_some h
        refine evs (ev_call (era rfl (erD eci64 _) (era rfl rfl eran)) (laws_heldIntS_s g19) (evs (ev_as (c := .int .i64 v18) rfl rfl rfl (evn ?_))))
        refine ls_keep [(0, .dat a0.length (a0.flatMap c161_dddddd)), (1, .int .i64 v18), (5, .int .i64 y2)] ⟨kr, kr, kr, trivial⟩ rfl ?_
        refine ls_seq_k fun K20 hK20 => ?_
        refine ls_rs tbOk ?_
        refine evs (ev_mv (c := .int .i64 v18) rfl rfl rfl (evs (ev_bin (c1 := .int .i64 v18) (c2 := .int .i64 0) rfl rfl rfl (evn ?_))))
        refine ls_keep [(0, .dat a0.length (a0.flatMap c161_dddddd)), (1, .int .i64 v18), (5, .int .i64 y2), (41, .bool (decide (v18 < 0)))] ⟨kr, kr, kr, kr, trivial⟩ rfl ?_
        rcases cond_some h with ⟨g21, h⟩ | ⟨g21, h⟩
        · refine ls_cT rfl g21 ?_
          refine ls_rs tbOk ?_
          refine evs (ev_ac rfl nofun rfl (evn ?_))
          refine ls_keep [(4, .int .i64 (-1))] ⟨kr, trivial⟩ rfl ?_
          refine ls_ret ?_
          have q0 := (Option.some.inj h).symm
          have r0 := hr1
          rw [q0] at r0
          have hr := Option.some.inj r0
          rw [← hr]
          exact ⟨.inl rfl, rfl⟩
        · refine ls_cF rfl g21 ?_
          refine ls_skip ?_
          refine hK20 _ (ls_keep [(0, .dat a0.length (a0.flatMap c161_dddddd)), (1, .int .i64 v18), (5, .int .i64 y2)] ⟨kr, kr, kr, trivial⟩ rfl ?_)
          refine ls_seq_k fun K22 hK22 => ?_
          refine ls_rs tbOk ?_
          refine evs (ev_mv (c := .dat a0.length (a0.flatMap c161_dddddd)) rfl rfl rfl (evs (ev_mv (c := .int .i64 y2) rfl rfl rfl (?_))))
          obtain ⟨e23, g24, h⟩ := ob_some h
          refine evs (ev_ia rfl rfl rfl ⟨(geti_some g24).1, (geti_some g24).2.1⟩ (evs (ev_fa (c1 := .adr (a0.flatMap c161_dddddd) (Int.toNat y2 * 6)) (v := .adr (a0.flatMap c161_dddddd) (Int.toNat y2 * 6 + 3)) rfl rfl rfl trivial rfl (evs (ev_fa (c1 := .adr (a0.flatMap c161_dddddd) (Int.toNat y2 * 6 + 3)) (v := .adr (a0.flatMap c161_dddddd) (Int.toNat y2 * 6 + 3)) rfl rfl rfl trivial rfl (evs (ev_ldE (i := y2) (n := 6) (off := 3) (v := .int .i64 e23.2.1) rfl rfl zc161_dddddd g24 rfl (Nat.le_of_ble_eq_true rfl) rfl (evs (ev_mv (c := .int .i64 v18) rfl rfl rfl (evs (ev_bin (c1 := .int .i64 e23.2.1) (c2 := .int .i64 v18) rfl rfl rfl (evn ?_))))))))))))
          refine ls_keep [(0, .dat a0.length (a0.flatMap c161_dddddd)), (1, .int .i64 v18), (5, .int .i64 y2), (49, .bool (e23.2.1 != v18))] ⟨kr, kr, kr, kr, trivial⟩ rfl ?_
          rcases cond_some h with ⟨g25, h⟩ | ⟨g25, h⟩
          · refine ls_cT rfl g25 ?_
            refine ls_rs tbOk ?_
            refine evs (ev_ac rfl nofun rfl (evn ?_))
            refine ls_keep [(4, .int .i64 (-1))] ⟨kr, trivial⟩ rfl ?_
            refine ls_ret ?_
            have q0 := (Option.some.inj h).symm
            have r0 := hr1
            rw [q0] at r0
            have hr := Option.some.inj r0
            rw [← hr]
            exact ⟨.inl rfl, rfl⟩
          · refine ls_cF rfl g25 ?_
            refine ls_skip ?_
            refine hK22 _ (ls_keep [(0, .dat a0.length (a0.flatMap c161_dddddd)), (1, .int .i64 v18), (5, .int .i64 y2)] ⟨kr, kr, kr, trivial⟩ rfl ?_)
            refine ls_rs tbOk ?_
            refine evs (ev_mv (c := .int .i64 v18) rfl rfl rfl (evs (ev_bin (c1 := .int .i64 v18) (c2 := .int .i64 1) rfl rfl rfl (evs (ev_as (c := .int .i64 (IntKind.i64.wrap (v18 + 1))) rfl rfl rfl (evn ?_))))))
            refine ls_keep [(0, .dat a0.length (a0.flatMap c161_dddddd)), (1, .int .i64 (IntKind.i64.wrap (v18 + 1))), (5, .int .i64 y2)] ⟨kr, kr, kr, trivial⟩ rfl ?_
            refine ls_rs tbOk ?_
            refine evs (ev_mv (c := .dat a0.length (a0.flatMap c161_dddddd)) rfl rfl rfl (evs (ev_mv (c := .int .i64 y2) rfl rfl rfl (?_))))
            obtain ⟨e26, g27, h⟩ := ob_some h
            refine evs (ev_ia rfl rfl rfl ⟨(geti_some g27).1, (geti_some g27).2.1⟩ (evs (ev_fa (c1 := .adr (a0.flatMap c161_dddddd) (Int.toNat y2 * 6)) (v := .adr (a0.flatMap c161_dddddd) (Int.toNat y2 * 6 + 3)) rfl rfl rfl trivial rfl (evs (ev_fa (c1 := .adr (a0.flatMap c161_dddddd) (Int.toNat y2 * 6 + 3)) (v := .adr (a0.flatMap c161_dddddd) (Int.toNat y2 * 6 + 4)) rfl rfl rfl trivial rfl (evs (ev_ldE (i := y2) (n := 6) (off := 4) (v := .dat e26.2.2.1.length (e26.2.2.1.flatMap c25_d)) rfl rfl zc161_dddddd g27 rfl (Nat.le_of_ble_eq_true rfl) rfl (evs (ev_mv (c := .int .i64 (IntKind.i64.wrap (v18 + 1))) rfl rfl rfl (?_))))))))))
            obtain ⟨v28, g29, h⟩ := ob_some h
            refine evs (ev_call (era rfl (erD ec25_d _) (era rfl rfl eran)) (laws_heldIntSS_s g29) (evs (ev_as (c := .int .i64 v28) rfl rfl rfl (evn ?_))))
            refine ls_keep [(0, .dat a0.length (a0.flatMap c161_dddddd)), (1, .int .i64 v28), (5, .int .i64 y2)] ⟨kr, kr, kr, trivial⟩ rfl ?_
            refine ls_seq_k fun K30 hK30 => ?_
            refine ls_rs tbOk ?_
            refine evs (ev_mv (c := .int .i64 v28) rfl rfl rfl (evs (ev_bin (c1 := .int .i64 v28) (c2 := .int .i64 0) rfl rfl rfl (evn ?_))))
            refine ls_keep [(0, .dat a0.length (a0.flatMap c161_dddddd)), (1, .int .i64 v28), (5, .int .i64 y2), (61, .bool (decide (v28 < 0)))] ⟨kr, kr, kr, kr, trivial⟩ rfl ?_
            rcases cond_some h with ⟨g31, h⟩ | ⟨g31, h⟩
            · refine ls_cT rfl g31 ?_
              refine ls_rs tbOk ?_
              refine evs (ev_ac rfl nofun rfl (evn ?_))
              refine ls_keep [(4, .int .i64 (-1))] ⟨kr, trivial⟩ rfl ?_
              refine ls_ret ?_
              have q0 := (Option.some.inj h).symm
              have r0 := hr1
              rw [q0] at r0
              have hr := Option.some.inj r0
              rw [← hr]
              exact ⟨.inl rfl, rfl⟩
            · refine ls_cF rfl g31 ?_
              refine ls_skip ?_
              refine hK30 _ (ls_keep [(0, .dat a0.length (a0.flatMap c161_dddddd)), (1, .int .i64 v28), (5, .int .i64 y2)] ⟨kr, kr, kr, trivial⟩ rfl ?_)
              refine ls_rs tbOk ?_
              refine evs (ev_mv (c := .dat a0.length (a0.flatMap c161_dddddd)) rfl rfl rfl (evs (ev_mv (c := .int .i64 y2) rfl rfl rfl (?_))))
              obtain ⟨e32, g33, h⟩ := ob_some h
              refine evs (ev_ia rfl rfl rfl ⟨(geti_some g33).1, (geti_some g33).2.1⟩ (evs (ev_fa (c1 := .adr (a0.flatMap c161_dddddd) (Int.toNat y2 * 6)) (v := .adr (a0.flatMap c161_dddddd) (Int.toNat y2 * 6 + 3)) rfl rfl rfl trivial rfl (evs (ev_fa (c1 := .adr (a0.flatMap c161_dddddd) (Int.toNat y2 * 6 + 3)) (v := .adr (a0.flatMap c161_dddddd) (Int.toNat y2 * 6 + 5)) rfl rfl rfl trivial rfl (evs (ev_ldE (i := y2) (n := 6) (off := 5) (v := .dat e32.2.2.2.length (e32.2.2.2.flatMap ci64)) rfl rfl zc161_dddddd g33 rfl (Nat.le_of_ble_eq_true rfl) rfl (evs (ev_mv (c := .int .i64 v28) rfl rfl rfl (?_))))))))))
              obtain ⟨v34, g35, h⟩ := ob_some h
              refine evs (ev_call (era rfl (erD eci64 _) (era rfl rfl eran)) (laws_heldIntS_s g35) (evs (ev_as (c := .int .i64 v34) rfl rfl rfl (evn ?_))))
              refine ls_keep [(0, .dat a0.length (a0.flatMap c161_dddddd)), (1, .int .i64 v34), (5, .int .i64 y2)] ⟨kr, kr, kr, trivial⟩ rfl ?_
              refine ls_rs tbOk ?_
              refine evs (ev_mv (c := .int .i64 v34) rfl rfl rfl (evs (ev_bin (c1 := .int .i64 v34) (c2 := .int .i64 0) rfl rfl rfl (evn ?_))))
              refine ls_keep [(0, .dat a0.length (a0.flatMap c161_dddddd)), (1, .int .i64 v34), (5, .int .i64 y2), (71, .bool (decide (v34 < 0)))] ⟨kr, kr, kr, kr, trivial⟩ rfl ?_
              rcases cond_some h with ⟨g36, h⟩ | ⟨g36, h⟩
              · refine ls_cT rfl g36 ?_
                refine ls_rs tbOk ?_
                refine evs (ev_ac rfl nofun rfl (evn ?_))
                refine ls_keep [(4, .int .i64 (-1))] ⟨kr, trivial⟩ rfl ?_
                refine ls_ret ?_
                have q0 := (Option.some.inj h).symm
                have r0 := hr1
                rw [q0] at r0
                have hr := Option.some.inj r0
                rw [← hr]
                exact ⟨.inl rfl, rfl⟩
              · refine ls_cF rfl g36 ?_
                refine ls_skip ?_
                refine hK5 _ (ls_keep [(0, .dat a0.length (a0.flatMap c161_dddddd)), (1, .int .i64 v34), (5, .int .i64 y2)] ⟨kr, kr, kr, trivial⟩ rfl ?_)
                refine ls_rgn tbOk ?_
                refine evs (ev_mv (c := .int .i64 y2) rfl rfl rfl (evs (ev_bin (c1 := .int .i64 y2) (c2 := .int .i64 1) rfl rfl rfl (evs (ev_as (c := .int .i64 (IntKind.i64.wrap (y2 + 1))) rfl rfl rfl (evn ?_))))))
                exact hN _ (v34, (IntKind.i64.wrap (y2 + 1))) h ⟨kr, kr, kr, trivial⟩
  · refine ls_cF rfl g4 ?_
    refine ls_exit ?_
    have q0 := (Option.some.inj h).symm
    have r0 := hr1
    rw [q0] at r0
    exact kXlaws_heldViewS_B1 y1 r0 _ ⟨kr, trivial⟩
def laws_heldCountedRelationS_B1 (a0 : List (Int × (List (List Int)) × (List Int))) (rec : (Int × Int) → Option (Sum (Int) (Int))) (s : Int × Int) : Option (Sum (Int) (Int)) := match s with
  | (y1, y2) => cond (decide (y2 < (List.length a0 : Int))) (obind (geti a0 y2) fun e7 => cond (e7.1 != y1) (some (.inr (-1))) (obind (geti a0 y2) fun e10 => obind (laws_heldIntSS e10.2.1 (IntKind.i64.wrap (y1 + 1))) fun v12 => cond (decide (v12 < 0)) (some (.inr (-1))) (obind (geti a0 y2) fun e16 => obind (laws_heldIntS e16.2.2 v12) fun v18 => cond (decide (v18 < 0)) (some (.inr (-1))) (rec (v18, (IntKind.i64.wrap (y2 + 1))))))) (some (.inl y1))
def laws_heldCountedRelationS (a0 : List (Int × (List (List Int)) × (List Int))) (a1 : Int) : Option (Int) := obind (loopF (laws_heldCountedRelationS_B1 a0) fz (a1, 0)) fun o1 => (match o1 with
  | .inl z2 => (some z2)
  | .inr r => some r)
theorem laws_heldCountedRelationS_s {a0 : List (Int × (List (List Int)) × (List Int))} {a1 : Int} {r : Int} (h : laws_heldCountedRelationS a0 a1 = some r) : SoundAt Try.prog 140 [.dat a0.length (a0.flatMap c159_ddd), .int .i64 a1] (.int .i64 r) := by
  unfold laws_heldCountedRelationS at h
  refine sound_lit tbOk lit140 (Nat.le_of_ble_eq_true rfl) rfl ?_
  unfold c140
  refine ls_keep [(0, .dat a0.length (a0.flatMap c159_ddd)), (1, .int .i64 a1)] ⟨kr, kr, trivial⟩ rfl ?_
  refine ls_rs tbOk ?_
  refine evs (ev_ac rfl nofun rfl (evn ?_))
  refine ls_keep [(0, .dat a0.length (a0.flatMap c159_ddd)), (1, .int .i64 a1)] ⟨kr, kr, trivial⟩ rfl ?_
  refine ls_seq_k fun K1 hK1 => ?_
  refine ls_rs tbOk ?_
  refine evs (ev_ac rfl nofun rfl (evn ?_))
  refine ls_keep [(0, .dat a0.length (a0.flatMap c159_ddd)), (1, .int .i64 a1), (5, .int .i64 0)] ⟨kr, kr, kr, trivial⟩ rfl ?_
  obtain ⟨o1, hl, hr1⟩ := ob_some h
  clear h
  have kXlaws_heldCountedRelationS_B1 : ∀ (z2 : Int), (some z2) = some r → ∀ σ' : PS, okK σ' [(1, .int .i64 z2)] → K1 σ' := by
    intro z2 h σ' hk
    refine hK1 _ (ls_keep [(1, .int .i64 z2)] hk rfl ?_)
    refine ls_rs tbOk ?_
    refine evs (ev_mv (c := .int .i64 z2) rfl rfl rfl (evs (ev_as (c := .int .i64 z2) rfl rfl rfl (evn ?_))))
    refine ls_keep [(4, .int .i64 z2)] ⟨kr, trivial⟩ rfl ?_
    refine ls_ret ?_
    have hr := Option.some.inj h
    rw [← hr]
    exact ⟨.inl rfl, rfl⟩
  refine ls_rec (fun (s : Int × Int) => match s with | (y1, y2) => [(0, .dat a0.length (a0.flatMap c159_ddd)), (1, .int .i64 y1), (5, .int .i64 y2)]) (laws_heldCountedRelationS_B1 a0) fz (a1, 0) o1 hl ⟨kr, kr, kr, trivial⟩ (fun _ => rfl) ?_
  rintro m ⟨y1, y2⟩ N h hN
  unfold laws_heldCountedRelationS_B1 at h
  dsimp only at h
  refine ls_seq_k fun K3 hK3 => ?_
  refine ls_rs tbOk ?_
  refine evs (ev_mv (c := .int .i64 y2) rfl rfl rfl (evs (ev_mv (c := .dat a0.length (a0.flatMap c159_ddd)) rfl rfl rfl (evs (ev_len (c1 := .dat a0.length (a0.flatMap c159_ddd)) rfl rfl rfl (evs (ev_bin (c1 := .int .i64 y2) (c2 := .int .i64 (List.length a0 : Int)) rfl rfl rfl (evn ?_))))))))
  refine ls_keep [(0, .dat a0.length (a0.flatMap c159_ddd)), (1, .int .i64 y1), (5, .int .i64 y2), (9, .bool (decide (y2 < (List.length a0 : Int))))] ⟨kr, kr, kr, kr, trivial⟩ rfl ?_
  rcases cond_some h with ⟨g4, h⟩ | ⟨g4, h⟩
  · refine ls_cT rfl g4 ?_
    refine ls_skip ?_
    refine hK3 _ (ls_keep [(0, .dat a0.length (a0.flatMap c159_ddd)), (1, .int .i64 y1), (5, .int .i64 y2)] ⟨kr, kr, kr, trivial⟩ rfl ?_)
    refine ls_seq_k fun K5 hK5 => ?_
    refine ls_blk ?_
    refine ls_seq_k fun K6 hK6 => ?_
    refine ls_rs tbOk ?_
    refine evs (ev_mv (c := .dat a0.length (a0.flatMap c159_ddd)) rfl rfl rfl (evs (ev_mv (c := .int .i64 y2) rfl rfl rfl (?_))))
    obtain ⟨e7, g8, h⟩ := ob_some h
    refine evs (ev_ia rfl rfl rfl ⟨(geti_some g8).1, (geti_some g8).2.1⟩ (evs (ev_fa (c1 := .adr (a0.flatMap c159_ddd) (Int.toNat y2 * 3)) (v := .adr (a0.flatMap c159_ddd) (Int.toNat y2 * 3)) rfl rfl rfl trivial rfl (evs (ev_ldE (i := y2) (n := 3) (off := 0) (v := .int .i64 e7.1) rfl rfl zc159_ddd g8 rfl (Nat.le_of_ble_eq_true rfl) rfl (evs (ev_mv (c := .int .i64 y1) rfl rfl rfl (evs (ev_bin (c1 := .int .i64 e7.1) (c2 := .int .i64 y1) rfl rfl rfl (evn ?_))))))))))
    refine ls_keep [(0, .dat a0.length (a0.flatMap c159_ddd)), (1, .int .i64 y1), (5, .int .i64 y2), (18, .bool (e7.1 != y1))] ⟨kr, kr, kr, kr, trivial⟩ rfl ?_
    rcases cond_some h with ⟨g9, h⟩ | ⟨g9, h⟩
    · refine ls_cT rfl g9 ?_
      refine ls_rs tbOk ?_
      refine evs (ev_ac rfl nofun rfl (evn ?_))
      refine ls_keep [(4, .int .i64 (-1))] ⟨kr, trivial⟩ rfl ?_
      refine ls_ret ?_
      have q0 := (Option.some.inj h).symm
      have r0 := hr1
      rw [q0] at r0
      have hr := Option.some.inj r0
      rw [← hr]
      exact ⟨.inl rfl, rfl⟩
    · refine ls_cF rfl g9 ?_
      refine ls_skip ?_
      refine hK6 _ (ls_keep [(0, .dat a0.length (a0.flatMap c159_ddd)), (1, .int .i64 y1), (5, .int .i64 y2)] ⟨kr, kr, kr, trivial⟩ rfl ?_)
      refine ls_rs tbOk ?_
      refine evs (ev_mv (c := .int .i64 y1) rfl rfl rfl (evs (ev_bin (c1 := .int .i64 y1) (c2 := .int .i64 1) rfl rfl rfl (evs (ev_as (c := .int .i64 (IntKind.i64.wrap (y1 + 1))) rfl rfl rfl (evn ?_))))))
      refine ls_keep [(0, .dat a0.length (a0.flatMap c159_ddd)), (1, .int .i64 (IntKind.i64.wrap (y1 + 1))), (5, .int .i64 y2)] ⟨kr, kr, kr, trivial⟩ rfl ?_
      refine ls_rs tbOk ?_
      refine evs (ev_mv (c := .dat a0.length (a0.flatMap c159_ddd)) rfl rfl rfl (evs (ev_mv (c := .int .i64 y2) rfl rfl rfl (?_))))
      obtain ⟨e10, g11, h⟩ := ob_some h
      refine evs (ev_ia rfl rfl rfl ⟨(geti_some g11).1, (geti_some g11).2.1⟩ (evs (ev_fa (c1 := .adr (a0.flatMap c159_ddd) (Int.toNat y2 * 3)) (v := .adr (a0.flatMap c159_ddd) (Int.toNat y2 * 3 + 1)) rfl rfl rfl trivial rfl (evs (ev_ldE (i := y2) (n := 3) (off := 1) (v := .dat e10.2.1.length (e10.2.1.flatMap c25_d)) rfl rfl zc159_ddd g11 rfl (Nat.le_of_ble_eq_true rfl) rfl (evs (ev_mv (c := .int .i64 (IntKind.i64.wrap (y1 + 1))) rfl rfl rfl (?_))))))))
      obtain ⟨v12, g13, h⟩ := ob_some h
      refine evs (ev_call (era rfl (erD ec25_d _) (era rfl rfl eran)) (laws_heldIntSS_s g13) (evs (ev_as (c := .int .i64 v12) rfl rfl rfl (evn ?_))))
      refine ls_keep [(0, .dat a0.length (a0.flatMap c159_ddd)), (1, .int .i64 v12), (5, .int .i64 y2)] ⟨kr, kr, kr, trivial⟩ rfl ?_
      refine ls_seq_k fun K14 hK14 => ?_
      refine ls_rs tbOk ?_
      refine evs (ev_mv (c := .int .i64 v12) rfl rfl rfl (evs (ev_bin (c1 := .int .i64 v12) (c2 := .int .i64 0) rfl rfl rfl (evn ?_))))
      refine ls_keep [(0, .dat a0.length (a0.flatMap c159_ddd)), (1, .int .i64 v12), (5, .int .i64 y2), (29, .bool (decide (v12 < 0)))] ⟨kr, kr, kr, kr, trivial⟩ rfl ?_
      rcases cond_some h with ⟨g15, h⟩ | ⟨g15, h⟩
      · refine ls_cT rfl g15 ?_
        refine ls_rs tbOk ?_
        refine evs (ev_ac rfl nofun rfl (evn ?_))
        refine ls_keep [(4, .int .i64 (-1))] ⟨kr, trivial⟩ rfl ?_
        refine ls_ret ?_
        have q0 := (Option.some.inj h).symm
        have r0 := hr1
        rw [q0] at r0
        have hr := Option.some.inj r0
        rw [← hr]
        exact ⟨.inl rfl, rfl⟩
      · refine ls_cF rfl g15 ?_
        refine ls_skip ?_
        refine hK14 _ (ls_keep [(0, .dat a0.length (a0.flatMap c159_ddd)), (1, .int .i64 v12), (5, .int .i64 y2)] ⟨kr, kr, kr, trivial⟩ rfl ?_)
        refine ls_rs tbOk ?_
        refine evs (ev_mv (c := .dat a0.length (a0.flatMap c159_ddd)) rfl rfl rfl (evs (ev_mv (c := .int .i64 y2) rfl rfl rfl (?_))))
        obtain ⟨e16, g17, h⟩ := ob_some h
        refine evs (ev_ia rfl rfl rfl ⟨(geti_some g17).1, (geti_some g17).2.1⟩ (evs (ev_fa (c1 := .adr (a0.flatMap c159_ddd) (Int.toNat y2 * 3)) (v := .adr (a0.flatMap c159_ddd) (Int.toNat y2 * 3 + 2)) rfl rfl rfl trivial rfl (evs (ev_ldE (i := y2) (n := 3) (off := 2) (v := .dat e16.2.2.length (e16.2.2.flatMap ci64)) rfl rfl zc159_ddd g17 rfl (Nat.le_of_ble_eq_true rfl) rfl (evs (ev_mv (c := .int .i64 v12) rfl rfl rfl (?_))))))))
        obtain ⟨v18, g19, h⟩ := ob_some h
        refine evs (ev_call (era rfl (erD eci64 _) (era rfl rfl eran)) (laws_heldIntS_s g19) (evs (ev_as (c := .int .i64 v18) rfl rfl rfl (evn ?_))))
        refine ls_keep [(0, .dat a0.length (a0.flatMap c159_ddd)), (1, .int .i64 v18), (5, .int .i64 y2)] ⟨kr, kr, kr, trivial⟩ rfl ?_
        refine ls_rs tbOk ?_
        refine evs (ev_mv (c := .int .i64 v18) rfl rfl rfl (evs (ev_bin (c1 := .int .i64 v18) (c2 := .int .i64 0) rfl rfl rfl (evn ?_))))
        refine ls_keep [(0, .dat a0.length (a0.flatMap c159_ddd)), (1, .int .i64 v18), (5, .int .i64 y2), (38, .bool (decide (v18 < 0)))] ⟨kr, kr, kr, kr, trivial⟩ rfl ?_
        rcases cond_some h with ⟨g20, h⟩ | ⟨g20, h⟩
        · refine ls_cT rfl g20 ?_
          refine ls_rs tbOk ?_
          refine evs (ev_ac rfl nofun rfl (evn ?_))
          refine ls_keep [(4, .int .i64 (-1))] ⟨kr, trivial⟩ rfl ?_
          refine ls_ret ?_
          have q0 := (Option.some.inj h).symm
          have r0 := hr1
          rw [q0] at r0
          have hr := Option.some.inj r0
          rw [← hr]
          exact ⟨.inl rfl, rfl⟩
        · refine ls_cF rfl g20 ?_
          refine ls_skip ?_
          refine hK5 _ (ls_keep [(0, .dat a0.length (a0.flatMap c159_ddd)), (1, .int .i64 v18), (5, .int .i64 y2)] ⟨kr, kr, kr, trivial⟩ rfl ?_)
          refine ls_rgn tbOk ?_
          refine evs (ev_mv (c := .int .i64 y2) rfl rfl rfl (evs (ev_bin (c1 := .int .i64 y2) (c2 := .int .i64 1) rfl rfl rfl (evs (ev_as (c := .int .i64 (IntKind.i64.wrap (y2 + 1))) rfl rfl rfl (evn ?_))))))
          exact hN _ (v18, (IntKind.i64.wrap (y2 + 1))) h ⟨kr, kr, kr, trivial⟩
  · refine ls_cF rfl g4 ?_
    refine ls_exit ?_
    have q0 := (Option.some.inj h).symm
    have r0 := hr1
    rw [q0] at r0
    exact kXlaws_heldCountedRelationS_B1 y1 r0 _ ⟨kr, trivial⟩
def laws_heldNotifier (a0 : ((List ((List UInt8) × (Int × (List (List Int)))))) × (List ((Int × (List ((List UInt8) × (List Int))) × (List Int)) × (Int × (List (List Int)) × (List Int)))) × (List (Int × (List (List Int)) × (List Int)))) (a1 : Int) : Option (Int) := obind (laws_heldDatabase a0.1 a1) fun v1 => cond (decide (v1 < 0)) (some (-1)) (obind (laws_heldViewS a0.2.1 v1) fun v5 => cond (decide (v5 < 0)) (some (-1)) (obind (laws_heldCountedRelationS a0.2.2 v5) fun v9 => cond (decide (v9 < 0)) (some (-1)) (some v9)))
theorem laws_heldNotifier_s {a0 : ((List ((List UInt8) × (Int × (List (List Int)))))) × (List ((Int × (List ((List UInt8) × (List Int))) × (List Int)) × (Int × (List (List Int)) × (List Int)))) × (List (Int × (List (List Int)) × (List Int)))} {a1 : Int} {r : Int} (h : laws_heldNotifier a0 a1 = some r) : SoundAt Try.prog 54 [.agg [.dat a0.1.length (a0.1.flatMap c208_dd), .dat a0.2.1.length (a0.2.1.flatMap c161_dddddd), .dat a0.2.2.length (a0.2.2.flatMap c159_ddd)], .int .i64 a1] (.int .i64 r) := by
  unfold laws_heldNotifier at h
  refine sound_lit tbOk lit54 (Nat.le_of_ble_eq_true rfl) rfl ?_
  unfold c54
  refine ls_keep [(0, .agg [.dat a0.1.length (a0.1.flatMap c208_dd), .dat a0.2.1.length (a0.2.1.flatMap c161_dddddd), .dat a0.2.2.length (a0.2.2.flatMap c159_ddd)]), (1, .int .i64 a1)] ⟨kr, kr, trivial⟩ rfl ?_
  refine ls_rs tbOk ?_
  refine evs (ev_bx (c1 := .agg [.dat a0.1.length (a0.1.flatMap c208_dd), .dat a0.2.1.length (a0.2.1.flatMap c161_dddddd), .dat a0.2.2.length (a0.2.2.flatMap c159_ddd)]) rfl rfl rfl (evs (ev_ac rfl nofun rfl (evn ?_))))
  refine ls_keep [(1, .int .i64 a1), (2, .box [.dat a0.1.length (a0.1.flatMap c208_dd), .dat a0.2.1.length (a0.2.1.flatMap c161_dddddd), .dat a0.2.2.length (a0.2.2.flatMap c159_ddd)])] ⟨kr, kr, trivial⟩ rfl ?_
  refine ls_rs tbOk ?_
  refine evs (ev_fa (c1 := .cref 2 0) (v := .cref 2 0) rfl rfl rfl ⟨_, rfl⟩ rfl (evs (ev_ldB (off := 0) (v := .agg [.dat a0.1.length (a0.1.flatMap c208_dd)]) rfl rfl rfl rfl (Nat.le_of_ble_eq_true rfl) rfl (evs (ev_mv (c := .int .i64 a1) rfl rfl rfl (?_))))))
  obtain ⟨v1, g2, h⟩ := ob_some h
  refine evs (ev_call (era rfl (erg (erc (erD ec208_dd _) rfl)) (era rfl rfl eran)) (laws_heldDatabase_s g2) (evs (ev_as (c := .int .i64 v1) rfl rfl rfl (evn ?_))))
  refine ls_keep [(1, .int .i64 v1), (2, .box [.dat a0.1.length (a0.1.flatMap c208_dd), .dat a0.2.1.length (a0.2.1.flatMap c161_dddddd), .dat a0.2.2.length (a0.2.2.flatMap c159_ddd)])] ⟨kr, kr, trivial⟩ rfl ?_
  refine ls_seq_k fun K3 hK3 => ?_
  refine ls_rs tbOk ?_
  refine evs (ev_mv (c := .int .i64 v1) rfl rfl rfl (evs (ev_bin (c1 := .int .i64 v1) (c2 := .int .i64 0) rfl rfl rfl (evn ?_))))
  refine ls_keep [(1, .int .i64 v1), (2, .box [.dat a0.1.length (a0.1.flatMap c208_dd), .dat a0.2.1.length (a0.2.1.flatMap c161_dddddd), .dat a0.2.2.length (a0.2.2.flatMap c159_ddd)]), (10, .bool (decide (v1 < 0)))] ⟨kr, kr, kr, trivial⟩ rfl ?_
  rcases cond_some h with ⟨g4, h⟩ | ⟨g4, h⟩
  · refine ls_cT rfl g4 ?_
    refine ls_rs tbOk ?_
    refine evs (ev_ac rfl nofun rfl (evn ?_))
    refine ls_keep [(4, .int .i64 (-1))] ⟨kr, trivial⟩ rfl ?_
    refine ls_ret ?_
    have hr := Option.some.inj h
    rw [← hr]
    exact ⟨.inl rfl, rfl⟩
  · refine ls_cF rfl g4 ?_
    refine ls_skip ?_
    refine hK3 _ (ls_keep [(1, .int .i64 v1), (2, .box [.dat a0.1.length (a0.1.flatMap c208_dd), .dat a0.2.1.length (a0.2.1.flatMap c161_dddddd), .dat a0.2.2.length (a0.2.2.flatMap c159_ddd)])] ⟨kr, kr, trivial⟩ rfl ?_)
    refine ls_rs tbOk ?_
    refine evs (ev_fa (c1 := .cref 2 0) (v := .cref 2 1) rfl rfl rfl ⟨_, rfl⟩ rfl (evs (ev_ldB (off := 1) (v := .dat a0.2.1.length (a0.2.1.flatMap c161_dddddd)) rfl rfl rfl rfl (Nat.le_of_ble_eq_true rfl) rfl (evs (ev_mv (c := .int .i64 v1) rfl rfl rfl (?_))))))
    obtain ⟨v5, g6, h⟩ := ob_some h
    refine evs (ev_call (era rfl (erD ec161_dddddd _) (era rfl rfl eran)) (laws_heldViewS_s g6) (evs (ev_as (c := .int .i64 v5) rfl rfl rfl (evn ?_))))
    refine ls_keep [(1, .int .i64 v5), (2, .box [.dat a0.1.length (a0.1.flatMap c208_dd), .dat a0.2.1.length (a0.2.1.flatMap c161_dddddd), .dat a0.2.2.length (a0.2.2.flatMap c159_ddd)])] ⟨kr, kr, trivial⟩ rfl ?_
    refine ls_seq_k fun K7 hK7 => ?_
    refine ls_rs tbOk ?_
    refine evs (ev_mv (c := .int .i64 v5) rfl rfl rfl (evs (ev_bin (c1 := .int .i64 v5) (c2 := .int .i64 0) rfl rfl rfl (evn ?_))))
    refine ls_keep [(1, .int .i64 v5), (2, .box [.dat a0.1.length (a0.1.flatMap c208_dd), .dat a0.2.1.length (a0.2.1.flatMap c161_dddddd), .dat a0.2.2.length (a0.2.2.flatMap c159_ddd)]), (16, .bool (decide (v5 < 0)))] ⟨kr, kr, kr, trivial⟩ rfl ?_
    rcases cond_some h with ⟨g8, h⟩ | ⟨g8, h⟩
    · refine ls_cT rfl g8 ?_
      refine ls_rs tbOk ?_
      refine evs (ev_ac rfl nofun rfl (evn ?_))
      refine ls_keep [(4, .int .i64 (-1))] ⟨kr, trivial⟩ rfl ?_
      refine ls_ret ?_
      have hr := Option.some.inj h
      rw [← hr]
      exact ⟨.inl rfl, rfl⟩
    · refine ls_cF rfl g8 ?_
      refine ls_skip ?_
      refine hK7 _ (ls_keep [(1, .int .i64 v5), (2, .box [.dat a0.1.length (a0.1.flatMap c208_dd), .dat a0.2.1.length (a0.2.1.flatMap c161_dddddd), .dat a0.2.2.length (a0.2.2.flatMap c159_ddd)])] ⟨kr, kr, trivial⟩ rfl ?_)
      refine ls_rs tbOk ?_
      refine evs (ev_fa (c1 := .cref 2 0) (v := .cref 2 2) rfl rfl rfl ⟨_, rfl⟩ rfl (evs (ev_ldB (off := 2) (v := .dat a0.2.2.length (a0.2.2.flatMap c159_ddd)) rfl rfl rfl rfl (Nat.le_of_ble_eq_true rfl) rfl (evs (ev_mv (c := .int .i64 v5) rfl rfl rfl (?_))))))
      obtain ⟨v9, g10, h⟩ := ob_some h
      refine evs (ev_call (era rfl (erD ec159_ddd _) (era rfl rfl eran)) (laws_heldCountedRelationS_s g10) (evs (ev_as (c := .int .i64 v9) rfl rfl rfl (evn ?_))))
      refine ls_keep [(1, .int .i64 v9)] ⟨kr, trivial⟩ rfl ?_
      refine ls_seq_k fun K11 hK11 => ?_
      refine ls_rs tbOk ?_
      refine evs (ev_mv (c := .int .i64 v9) rfl rfl rfl (evs (ev_bin (c1 := .int .i64 v9) (c2 := .int .i64 0) rfl rfl rfl (evn ?_))))
      refine ls_keep [(1, .int .i64 v9), (22, .bool (decide (v9 < 0)))] ⟨kr, kr, trivial⟩ rfl ?_
      rcases cond_some h with ⟨g12, h⟩ | ⟨g12, h⟩
      · refine ls_cT rfl g12 ?_
        refine ls_rs tbOk ?_
        refine evs (ev_ac rfl nofun rfl (evn ?_))
        refine ls_keep [(4, .int .i64 (-1))] ⟨kr, trivial⟩ rfl ?_
        refine ls_ret ?_
        have hr := Option.some.inj h
        rw [← hr]
        exact ⟨.inl rfl, rfl⟩
      · refine ls_cF rfl g12 ?_
        refine ls_skip ?_
        refine hK11 _ (ls_keep [(1, .int .i64 v9)] ⟨kr, trivial⟩ rfl ?_)
        refine ls_rs tbOk ?_
        refine evs (ev_mv (c := .int .i64 v9) rfl rfl rfl (evs (ev_as (c := .int .i64 v9) rfl rfl rfl (evn ?_))))
        refine ls_keep [(4, .int .i64 v9)] ⟨kr, trivial⟩ rfl ?_
        refine ls_ret ?_
        have hr := Option.some.inj h
        rw [← hr]
        exact ⟨.inl rfl, rfl⟩
def laws_FnExactNewNotifier (a0 : (List ((List UInt8) × (Int × (List (List Int)))))) : Option (Bool) := obind (laws_szDatabase a0 1048576) fun v1 => cond (decide (v1 < 0)) (some true) (obind (laws_toDatabase a0) fun v5 => obind (spec_NewNotifier v5) fun v7 => obind (laws_toDatabase a0) fun v9 => obind (impl_NewNotifier v9) fun v11 => obind (laws_eqNotifier v11.1 v7.1) fun v14 => cond (!v14) (some false) (cond (!(v11.2 == v7.2)) (some false) (obind (laws_toDatabase a0) fun v19 => obind (laws_eqDatabase v9 v19) fun v21 => cond (!v21) (some false) (obind (laws_markDatabase v9 1) fun v24 => cond (decide (v24.2 < 0)) (some false) (obind (laws_eqNotifier v11.1 v7.1) fun v28 => cond (!v28) (some false) (cond (!(v11.2 == v7.2)) (some false) (obind (laws_markNotifier v11.1 1) fun v32 => obind (laws_heldNotifier v32.1 1) fun v34 => cond (decide (v34 < 0)) (some false) (cond (v34 != v32.2) (some false) (obind (laws_toDatabase a0) fun v40 => obind (impl_NewNotifier v40) fun v42 => obind (laws_eqNotifier v42.1 v7.1) fun v45 => cond (!v45) (some false) (cond (!(v42.2 == v7.2)) (some false) (obind (laws_heldNotifier v32.1 1) fun v49 => cond (decide (v49 < 0)) (some false) (cond (v49 != v32.2) (some false) (some true)))))))))))))
theorem laws_FnExactNewNotifier_s {a0 : (List ((List UInt8) × (Int × (List (List Int)))))} {r : Bool} (h : laws_FnExactNewNotifier a0 = some r) : SoundAt Try.prog 8 [.agg [.arg a0.length (a0.flatMap c206_aa)]] (.bool r) := by
  unfold laws_FnExactNewNotifier at h
  refine sound_lit tbOk lit8 (Nat.le_of_ble_eq_true rfl) rfl ?_
  unfold c8
  refine ls_keep [(0, .agg [.arg a0.length (a0.flatMap c206_aa)])] ⟨kr, trivial⟩ rfl ?_
  refine ls_rs tbOk ?_
  refine evs (ev_bx (c1 := .agg [.arg a0.length (a0.flatMap c206_aa)]) rfl rfl rfl (evs (ev_ac rfl nofun rfl (evn ?_))))
  refine ls_keep [(1, .box [.arg a0.length (a0.flatMap c206_aa)])] ⟨kr, trivial⟩ rfl ?_
  refine ls_rs tbOk ?_
  refine evs (ev_ac rfl nofun rfl (evn ?_))
  refine ls_keep [(1, .box [.arg a0.length (a0.flatMap c206_aa)]), (3, .int .i64 1048576)] ⟨kr, kr, trivial⟩ rfl ?_
  refine ls_rs tbOk ?_
  refine evs (ev_ldB (off := 0) (v := .agg [.arg a0.length (a0.flatMap c206_aa)]) rfl rfl rfl rfl (Nat.le_of_ble_eq_true rfl) rfl (evs (ev_mv (c := .int .i64 1048576) rfl rfl rfl (?_))))
  obtain ⟨v1, g2, h⟩ := ob_some h
  refine evs (ev_call (era rfl (erg (erc (erG ec206_aa _) rfl)) (era rfl rfl eran)) (laws_szDatabase_s g2) (evs (ev_as (c := .int .i64 v1) rfl rfl rfl (evn ?_))))
  refine ls_keep [(1, .box [.arg a0.length (a0.flatMap c206_aa)]), (3, .int .i64 v1)] ⟨kr, kr, trivial⟩ rfl ?_
  refine ls_seq_k fun K3 hK3 => ?_
  refine ls_rs tbOk ?_
  refine evs (ev_mv (c := .int .i64 v1) rfl rfl rfl (evs (ev_bin (c1 := .int .i64 v1) (c2 := .int .i64 0) rfl rfl rfl (evn ?_))))
  refine ls_keep [(1, .box [.arg a0.length (a0.flatMap c206_aa)]), (18, .bool (decide (v1 < 0)))] ⟨kr, kr, trivial⟩ rfl ?_
  rcases cond_some h with ⟨g4, h⟩ | ⟨g4, h⟩
  · refine ls_cT rfl g4 ?_
    refine ls_rs tbOk ?_
    refine evs (ev_ac rfl nofun rfl (evn ?_))
    refine ls_keep [(2, .bool true)] ⟨kr, trivial⟩ rfl ?_
    refine ls_ret ?_
    have hr := Option.some.inj h
    rw [← hr]
    exact ⟨.inl rfl, rfl⟩
  · refine ls_cF rfl g4 ?_
    refine ls_skip ?_
    refine hK3 _ (ls_keep [(1, .box [.arg a0.length (a0.flatMap c206_aa)])] ⟨kr, trivial⟩ rfl ?_)
    refine ls_rs tbOk ?_
    refine evs (ev_ldB (off := 0) (v := .agg [.arg a0.length (a0.flatMap c206_aa)]) rfl rfl rfl rfl (Nat.le_of_ble_eq_true rfl) rfl (?_))
    obtain ⟨v5, g6, h⟩ := ob_some h
    refine evs (ev_call (era rfl (erg (erc (erG ec206_aa _) rfl)) eran) (laws_toDatabase_s g6) (?_))
    obtain ⟨v7, g8, h⟩ := ob_some h
    refine evs (ev_call (era rfl (erg (erc (erO ec208_oo _) rfl)) eran) (spec_NewNotifier_s g8) (evs (ev_mvt (c := .tup [.agg [.own 208 v7.1.1.length (v7.1.1.flatMap c208_oo), .own 161 v7.1.2.1.length (v7.1.2.1.flatMap c161_oooooo), .own 159 v7.1.2.2.length (v7.1.2.2.flatMap c159_ooo)], .bool v7.2]) rfl rfl rfl (evs (ev_ext rfl rfl rfl rfl (evs (ev_ext rfl rfl rfl rfl (evs (ev_al rfl rfl (evs (ev_st (off := 0) (c1 := .agg [.own 208 v7.1.1.length (v7.1.1.flatMap c208_oo), .own 161 v7.1.2.1.length (v7.1.2.1.flatMap c161_oooooo), .own 159 v7.1.2.2.length (v7.1.2.2.flatMap c159_ooo)]) (cs' := [.own 208 v7.1.1.length (v7.1.1.flatMap c208_oo), .own 161 v7.1.2.1.length (v7.1.2.1.flatMap c161_oooooo), .own 159 v7.1.2.2.length (v7.1.2.2.flatMap c159_ooo)]) rfl rfl rfl rfl rfl rfl (Nat.le_of_ble_eq_true rfl) rfl (evs (ev_as (c := .bool v7.2) rfl rfl rfl (evn ?_))))))))))))))
    refine ls_keep [(1, .box [.arg a0.length (a0.flatMap c206_aa)]), (4, .box [.own 208 v7.1.1.length (v7.1.1.flatMap c208_oo), .own 161 v7.1.2.1.length (v7.1.2.1.flatMap c161_oooooo), .own 159 v7.1.2.2.length (v7.1.2.2.flatMap c159_ooo)]), (5, .bool v7.2)] ⟨kr, kr, kr, trivial⟩ rfl ?_
    refine ls_rs tbOk ?_
    refine evs (ev_ldB (off := 0) (v := .agg [.arg a0.length (a0.flatMap c206_aa)]) rfl rfl rfl rfl (Nat.le_of_ble_eq_true rfl) rfl (?_))
    obtain ⟨v9, g10, h⟩ := ob_some h
    refine evs (ev_call (era rfl (erg (erc (erG ec206_aa _) rfl)) eran) (laws_toDatabase_s g10) (evs (ev_al rfl rfl (evs (ev_st (off := 0) (c1 := .agg [.own 208 v9.length (v9.flatMap c208_oo)]) (cs' := [.own 208 v9.length (v9.flatMap c208_oo)]) rfl rfl rfl rfl rfl rfl (Nat.le_of_ble_eq_true rfl) rfl (evn ?_))))))
    refine ls_keep [(1, .box [.arg a0.length (a0.flatMap c206_aa)]), (4, .box [.own 208 v7.1.1.length (v7.1.1.flatMap c208_oo), .own 161 v7.1.2.1.length (v7.1.2.1.flatMap c161_oooooo), .own 159 v7.1.2.2.length (v7.1.2.2.flatMap c159_ooo)]), (5, .bool v7.2), (6, .box [.own 208 v9.length (v9.flatMap c208_oo)])] ⟨kr, kr, kr, kr, trivial⟩ rfl ?_
    refine ls_rs tbOk ?_
    refine evs (ev_ldB (off := 0) (v := .agg [.dat v9.length (v9.flatMap c208_oo)]) rfl rfl rfl rfl (Nat.le_of_ble_eq_true rfl) rfl (?_))
    obtain ⟨v11, g12, h⟩ := ob_some h
    refine evs (ev_call (era rfl (erg (erc (erD ec208_oo _) rfl)) eran) (impl_NewNotifier_s g12) (evs (ev_mvt (c := .tup [.agg [.own 208 v11.1.1.length (v11.1.1.flatMap c208_oo), .own 161 v11.1.2.1.length (v11.1.2.1.flatMap c161_oooooo), .own 159 v11.1.2.2.length (v11.1.2.2.flatMap c159_ooo)], .bool v11.2]) rfl rfl rfl (evs (ev_ext rfl rfl rfl rfl (evs (ev_ext rfl rfl rfl rfl (evs (ev_al rfl rfl (evs (ev_st (off := 0) (c1 := .agg [.own 208 v11.1.1.length (v11.1.1.flatMap c208_oo), .own 161 v11.1.2.1.length (v11.1.2.1.flatMap c161_oooooo), .own 159 v11.1.2.2.length (v11.1.2.2.flatMap c159_ooo)]) (cs' := [.own 208 v11.1.1.length (v11.1.1.flatMap c208_oo), .own 161 v11.1.2.1.length (v11.1.2.1.flatMap c161_oooooo), .own 159 v11.1.2.2.length (v11.1.2.2.flatMap c159_ooo)]) rfl rfl rfl rfl rfl rfl (Nat.le_of_ble_eq_true rfl) rfl (evs (ev_as (c := .bool v11.2) rfl rfl rfl (evn ?_))))))))))))))
    refine ls_keep [(1, .box [.arg a0.length (a0.flatMap c206_aa)]), (4, .box [.own 208 v7.1.1.length (v7.1.1.flatMap c208_oo), .own 161 v7.1.2.1.length (v7.1.2.1.flatMap c161_oooooo), .own 159 v7.1.2.2.length (v7.1.2.2.flatMap c159_ooo)]), (5, .bool v7.2), (6, .box [.own 208 v9.length (v9.flatMap c208_oo)]), (7, .box [.own 208 v11.1.1.length (v11.1.1.flatMap c208_oo), .own 161 v11.1.2.1.length (v11.1.2.1.flatMap c161_oooooo), .own 159 v11.1.2.2.length (v11.1.2.2.flatMap c159_ooo)]), (8, .bool v11.2)] ⟨kr, kr, kr, kr, kr, kr, trivial⟩ rfl ?_
    refine ls_seq_k fun K13 hK13 => ?_
    refine ls_rs tbOk ?_
    refine evs (ev_ldB (off := 0) (v := .agg [.dat v11.1.1.length (v11.1.1.flatMap c208_oo), .dat v11.1.2.1.length (v11.1.2.1.flatMap c161_oooooo), .dat v11.1.2.2.length (v11.1.2.2.flatMap c159_ooo)]) rfl rfl rfl rfl (Nat.le_of_ble_eq_true rfl) rfl (evs (ev_ldB (off := 0) (v := .agg [.dat v7.1.1.length (v7.1.1.flatMap c208_oo), .dat v7.1.2.1.length (v7.1.2.1.flatMap c161_oooooo), .dat v7.1.2.2.length (v7.1.2.2.flatMap c159_ooo)]) rfl rfl rfl rfl (Nat.le_of_ble_eq_true rfl) rfl (?_))))
    obtain ⟨v14, g15, h⟩ := ob_some h
    refine evs (ev_call (era rfl (erg (erc (erD ec208_oo _) (erc (erD ec161_oooooo _) (erc (erD ec159_ooo _) rfl)))) (era rfl (erg (erc (erD ec208_oo _) (erc (erD ec161_oooooo _) (erc (erD ec159_ooo _) rfl)))) eran)) (laws_eqNotifier_s g15) (evs (ev_un (c1 := .bool v14) rfl trivial (evs (ev_mv (c := .bool (!v14)) rfl rfl rfl (?_))))))
    rcases cond_some h with ⟨g16, h⟩ | ⟨g16, h⟩
    · refine evs (ev_gs rfl rfl (isb_T g16) (evs (ev_gs rfl rfl (isb_T g16) (evs (ev_gs rfl rfl (isb_T g16) (evs (ev_pkT (c1 := .bool true) rfl g16 rfl rfl (evn ?_))))))))
      refine ls_keep [(1, .box [.arg a0.length (a0.flatMap c206_aa)]), (4, .box [.own 208 v7.1.1.length (v7.1.1.flatMap c208_oo), .own 161 v7.1.2.1.length (v7.1.2.1.flatMap c161_oooooo), .own 159 v7.1.2.2.length (v7.1.2.2.flatMap c159_ooo)]), (5, .bool v7.2), (6, .box [.own 208 v9.length (v9.flatMap c208_oo)]), (7, .box [.own 208 v11.1.1.length (v11.1.1.flatMap c208_oo), .own 161 v11.1.2.1.length (v11.1.2.1.flatMap c161_oooooo), .own 159 v11.1.2.2.length (v11.1.2.2.flatMap c159_ooo)]), (8, .bool v11.2), (40, .bool true)] ⟨kr, kr, kr, kr, kr, kr, kr, trivial⟩ rfl ?_
      refine ls_cT rfl rfl ?_
      refine ls_rs tbOk ?_
      refine evs (ev_ac rfl nofun rfl (evn ?_))
      refine ls_keep [(2, .bool false)] ⟨kr, trivial⟩ rfl ?_
      refine ls_ret ?_
      have hr := Option.some.inj h
      rw [← hr]
      exact ⟨.inl rfl, rfl⟩
    · refine evs (ev_gr rfl (congrArg V.bool g16) (ev_mv (c := .bool v11.2) rfl rfl rfl (evs (ev_gr rfl (congrArg V.bool g16) (ev_mv (c := .bool v7.2) rfl rfl rfl (evs (ev_gr rfl (congrArg V.bool g16) (ev_bin (c1 := .bool v11.2) (c2 := .bool v7.2) rfl rfl rfl (evs (ev_pkF (c1 := .bool (!(v11.2 == v7.2))) rfl g16 rfl rfl (evn ?_)))))))))))
      refine ls_keep [(1, .box [.arg a0.length (a0.flatMap c206_aa)]), (4, .box [.own 208 v7.1.1.length (v7.1.1.flatMap c208_oo), .own 161 v7.1.2.1.length (v7.1.2.1.flatMap c161_oooooo), .own 159 v7.1.2.2.length (v7.1.2.2.flatMap c159_ooo)]), (5, .bool v7.2), (6, .box [.own 208 v9.length (v9.flatMap c208_oo)]), (7, .box [.own 208 v11.1.1.length (v11.1.1.flatMap c208_oo), .own 161 v11.1.2.1.length (v11.1.2.1.flatMap c161_oooooo), .own 159 v11.1.2.2.length (v11.1.2.2.flatMap c159_ooo)]), (8, .bool v11.2), (40, .bool (!(v11.2 == v7.2)))] ⟨kr, kr, kr, kr, kr, kr, kr, trivial⟩ rfl ?_
      rcases cond_some h with ⟨g17, h⟩ | ⟨g17, h⟩
      · refine ls_cT rfl g17 ?_
        refine ls_rs tbOk ?_
        refine evs (ev_ac rfl nofun rfl (evn ?_))
        refine ls_keep [(2, .bool false)] ⟨kr, trivial⟩ rfl ?_
        refine ls_ret ?_
        have hr := Option.some.inj h
        rw [← hr]
        exact ⟨.inl rfl, rfl⟩
      · refine ls_cF rfl g17 ?_
        refine ls_skip ?_
        refine hK13 _ (ls_keep [(1, .box [.arg a0.length (a0.flatMap c206_aa)]), (4, .box [.own 208 v7.1.1.length (v7.1.1.flatMap c208_oo), .own 161 v7.1.2.1.length (v7.1.2.1.flatMap c161_oooooo), .own 159 v7.1.2.2.length (v7.1.2.2.flatMap c159_ooo)]), (5, .bool v7.2), (6, .box [.own 208 v9.length (v9.flatMap c208_oo)]), (7, .box [.own 208 v11.1.1.length (v11.1.1.flatMap c208_oo), .own 161 v11.1.2.1.length (v11.1.2.1.flatMap c161_oooooo), .own 159 v11.1.2.2.length (v11.1.2.2.flatMap c159_ooo)]), (8, .bool v11.2)] ⟨kr, kr, kr, kr, kr, kr, trivial⟩ rfl ?_)
        refine ls_seq_k fun K18 hK18 => ?_
        refine ls_rd tbOk mixed (by kernel_rfl) ?_
        refine evd rfl rfl (ev_ldB (off := 0) (v := .agg [.dat v9.length (v9.flatMap c208_oo)]) rfl rfl rfl rfl (Nat.le_of_ble_eq_true rfl) rfl (evd rfl rfl (ev_ldB (off := 0) (v := .agg [.arg a0.length (a0.flatMap c206_aa)]) rfl rfl rfl rfl (Nat.le_of_ble_eq_true rfl) rfl (?_))))
        obtain ⟨v19, g20, h⟩ := ob_some h
        refine evd rfl rfl (ev_call (era rfl (erg (erc (erG ec206_aa _) rfl)) eran) (laws_toDatabase_s g20) (?_))
        obtain ⟨v21, g22, h⟩ := ob_some h
        refine evd rfl rfl (ev_call (era rfl (erg (erc (erD ec208_oo _) rfl)) (era rfl (erg (erc (erO ec208_oo _) rfl)) eran)) (laws_eqDatabase_s g22) (evd rfl rfl (ev_un (c1 := .bool v21) rfl trivial (evdn ?_))))
        refine ls_keep [(1, .box [.arg a0.length (a0.flatMap c206_aa)]), (4, .box [.own 208 v7.1.1.length (v7.1.1.flatMap c208_oo), .own 161 v7.1.2.1.length (v7.1.2.1.flatMap c161_oooooo), .own 159 v7.1.2.2.length (v7.1.2.2.flatMap c159_ooo)]), (5, .bool v7.2), (6, .box [.own 208 v9.length (v9.flatMap c208_oo)]), (7, .box [.own 208 v11.1.1.length (v11.1.1.flatMap c208_oo), .own 161 v11.1.2.1.length (v11.1.2.1.flatMap c161_oooooo), .own 159 v11.1.2.2.length (v11.1.2.2.flatMap c159_ooo)]), (8, .bool v11.2), (45, .bool (!v21))] ⟨kr, kr, kr, kr, kr, kr, kr, trivial⟩ rfl ?_
        rcases cond_some h with ⟨g23, h⟩ | ⟨g23, h⟩
        · refine ls_cT rfl g23 ?_
          refine ls_rs tbOk ?_
          refine evs (ev_ac rfl nofun rfl (evn ?_))
          refine ls_keep [(2, .bool false)] ⟨kr, trivial⟩ rfl ?_
          refine ls_ret ?_
          have hr := Option.some.inj h
          rw [← hr]
          exact ⟨.inl rfl, rfl⟩
        · refine ls_cF rfl g23 ?_
          refine ls_skip ?_
          refine hK18 _ (ls_keep [(1, .box [.arg a0.length (a0.flatMap c206_aa)]), (4, .box [.own 208 v7.1.1.length (v7.1.1.flatMap c208_oo), .own 161 v7.1.2.1.length (v7.1.2.1.flatMap c161_oooooo), .own 159 v7.1.2.2.length (v7.1.2.2.flatMap c159_ooo)]), (5, .bool v7.2), (6, .box [.own 208 v9.length (v9.flatMap c208_oo)]), (7, .box [.own 208 v11.1.1.length (v11.1.1.flatMap c208_oo), .own 161 v11.1.2.1.length (v11.1.2.1.flatMap c161_oooooo), .own 159 v11.1.2.2.length (v11.1.2.2.flatMap c159_ooo)]), (8, .bool v11.2)] ⟨kr, kr, kr, kr, kr, kr, trivial⟩ rfl ?_)
          refine ls_rs tbOk ?_
          refine evs (ev_ac rfl nofun rfl (evn ?_))
          refine ls_keep [(1, .box [.arg a0.length (a0.flatMap c206_aa)]), (4, .box [.own 208 v7.1.1.length (v7.1.1.flatMap c208_oo), .own 161 v7.1.2.1.length (v7.1.2.1.flatMap c161_oooooo), .own 159 v7.1.2.2.length (v7.1.2.2.flatMap c159_ooo)]), (5, .bool v7.2), (6, .box [.own 208 v9.length (v9.flatMap c208_oo)]), (7, .box [.own 208 v11.1.1.length (v11.1.1.flatMap c208_oo), .own 161 v11.1.2.1.length (v11.1.2.1.flatMap c161_oooooo), .own 159 v11.1.2.2.length (v11.1.2.2.flatMap c159_ooo)]), (8, .bool v11.2), (9, .int .i64 1)] ⟨kr, kr, kr, kr, kr, kr, kr, trivial⟩ rfl ?_
          refine ls_keep [(1, .box [.arg a0.length (a0.flatMap c206_aa)]), (4, .box [.own 208 v7.1.1.length (v7.1.1.flatMap c208_oo), .own 161 v7.1.2.1.length (v7.1.2.1.flatMap c161_oooooo), .own 159 v7.1.2.2.length (v7.1.2.2.flatMap c159_ooo)]), (5, .bool v7.2), (6, .box [.own 208 v9.length (v9.flatMap c208_oo)]), (7, .box [.own 208 v11.1.1.length (v11.1.1.flatMap c208_oo), .own 161 v11.1.2.1.length (v11.1.2.1.flatMap c161_oooooo), .own 159 v11.1.2.2.length (v11.1.2.2.flatMap c159_ooo)]), (8, .bool v11.2), (9, .int .i64 1)] ⟨kr, kr, kr, kr, kr, kr, kr, trivial⟩ rfl ?_
          obtain ⟨v24, g25, h⟩ := ob_some h
          refine ls_mark (src_box tbOk rfl rfl rfl) rfl rfl (laws_markDatabase_m g25) (dp33 _) (sf_of (sfc (scc (sca ad206 _) scn) (sfc (scc (sco dp208 _) (scc (sco dp161 _) (scc (sco dp159 _) scn))) (sfc rfl (sfs (sfc (scc (sco dp208 _) (scc (sco dp161 _) (scc (sco dp159 _) scn))) (sfc rfl (sfc rfl sfn)))))))) rfl rfl ⟨by decide, by decide⟩ rfl ?_
          refine ls_keep [(1, .box [.arg a0.length (a0.flatMap c206_aa)]), (4, .box [.own 208 v7.1.1.length (v7.1.1.flatMap c208_oo), .own 161 v7.1.2.1.length (v7.1.2.1.flatMap c161_oooooo), .own 159 v7.1.2.2.length (v7.1.2.2.flatMap c159_ooo)]), (5, .bool v7.2), (7, .box [.own 208 v11.1.1.length (v11.1.1.flatMap c208_oo), .own 161 v11.1.2.1.length (v11.1.2.1.flatMap c161_oooooo), .own 159 v11.1.2.2.length (v11.1.2.2.flatMap c159_ooo)]), (8, .bool v11.2), (9, .int .i64 v24.2)] ⟨kr, kr, kr, kr, kr, kr, trivial⟩ rfl ?_
          refine ls_seq_k fun K26 hK26 => ?_
          refine ls_rs tbOk ?_
          refine evs (ev_mv (c := .int .i64 v24.2) rfl rfl rfl (evs (ev_bin (c1 := .int .i64 v24.2) (c2 := .int .i64 0) rfl rfl rfl (evs (ev_mv (c := .bool (decide (v24.2 < 0))) rfl rfl rfl (?_))))))
          rcases cond_some h with ⟨g27, h⟩ | ⟨g27, h⟩
          · refine evs (ev_gs rfl rfl (isb_T g27) (evs (ev_gs rfl rfl (isb_T g27) (evs (ev_gs rfl rfl (isb_T g27) (evs (ev_gs rfl rfl (isb_T g27) (evs (ev_pkT (c1 := .bool true) rfl g27 rfl rfl (evs (ev_mv (c := .bool true) rfl rfl rfl (evs (ev_gs rfl rfl rfl (evs (ev_gs rfl rfl rfl (evs (ev_gs rfl rfl rfl (evs (ev_pkT (c1 := .bool true) rfl rfl rfl rfl (evn ?_))))))))))))))))))))
            refine ls_keep [(1, .box [.arg a0.length (a0.flatMap c206_aa)]), (4, .box [.own 208 v7.1.1.length (v7.1.1.flatMap c208_oo), .own 161 v7.1.2.1.length (v7.1.2.1.flatMap c161_oooooo), .own 159 v7.1.2.2.length (v7.1.2.2.flatMap c159_ooo)]), (5, .bool v7.2), (7, .box [.own 208 v11.1.1.length (v11.1.1.flatMap c208_oo), .own 161 v11.1.2.1.length (v11.1.2.1.flatMap c161_oooooo), .own 159 v11.1.2.2.length (v11.1.2.2.flatMap c159_ooo)]), (61, .bool true)] ⟨kr, kr, kr, kr, kr, trivial⟩ rfl ?_
            refine ls_cT rfl rfl ?_
            refine ls_rs tbOk ?_
            refine evs (ev_ac rfl nofun rfl (evn ?_))
            refine ls_keep [(2, .bool false)] ⟨kr, trivial⟩ rfl ?_
            refine ls_ret ?_
            have hr := Option.some.inj h
            rw [← hr]
            exact ⟨.inl rfl, rfl⟩
          · refine evs (ev_gr rfl (congrArg V.bool g27) (ev_ldB (off := 0) (v := .agg [.dat v11.1.1.length (v11.1.1.flatMap c208_oo), .dat v11.1.2.1.length (v11.1.2.1.flatMap c161_oooooo), .dat v11.1.2.2.length (v11.1.2.2.flatMap c159_ooo)]) rfl rfl rfl rfl (Nat.le_of_ble_eq_true rfl) rfl (evs (ev_gr rfl (congrArg V.bool g27) (ev_ldB (off := 0) (v := .agg [.dat v7.1.1.length (v7.1.1.flatMap c208_oo), .dat v7.1.2.1.length (v7.1.2.1.flatMap c161_oooooo), .dat v7.1.2.2.length (v7.1.2.2.flatMap c159_ooo)]) rfl rfl rfl rfl (Nat.le_of_ble_eq_true rfl) rfl (?_))))))
            obtain ⟨v28, g29, h⟩ := ob_some h
            refine evs (ev_gr rfl (congrArg V.bool g27) (ev_call (era rfl (erg (erc (erD ec208_oo _) (erc (erD ec161_oooooo _) (erc (erD ec159_ooo _) rfl)))) (era rfl (erg (erc (erD ec208_oo _) (erc (erD ec161_oooooo _) (erc (erD ec159_ooo _) rfl)))) eran)) (laws_eqNotifier_s g29) (evs (ev_gr rfl (congrArg V.bool g27) (ev_un (c1 := .bool v28) rfl trivial (evs (ev_pkF (c1 := .bool (!v28)) rfl g27 rfl rfl (evs (ev_mv (c := .bool (!v28)) rfl rfl rfl (?_))))))))))
            rcases cond_some h with ⟨g30, h⟩ | ⟨g30, h⟩
            · refine evs (ev_gs rfl rfl (isb_T g30) (evs (ev_gs rfl rfl (isb_T g30) (evs (ev_gs rfl rfl (isb_T g30) (evs (ev_pkT (c1 := .bool true) rfl g30 rfl rfl (evn ?_))))))))
              refine ls_keep [(1, .box [.arg a0.length (a0.flatMap c206_aa)]), (4, .box [.own 208 v7.1.1.length (v7.1.1.flatMap c208_oo), .own 161 v7.1.2.1.length (v7.1.2.1.flatMap c161_oooooo), .own 159 v7.1.2.2.length (v7.1.2.2.flatMap c159_ooo)]), (5, .bool v7.2), (7, .box [.own 208 v11.1.1.length (v11.1.1.flatMap c208_oo), .own 161 v11.1.2.1.length (v11.1.2.1.flatMap c161_oooooo), .own 159 v11.1.2.2.length (v11.1.2.2.flatMap c159_ooo)]), (61, .bool true)] ⟨kr, kr, kr, kr, kr, trivial⟩ rfl ?_
              refine ls_cT rfl rfl ?_
              refine ls_rs tbOk ?_
              refine evs (ev_ac rfl nofun rfl (evn ?_))
              refine ls_keep [(2, .bool false)] ⟨kr, trivial⟩ rfl ?_
              refine ls_ret ?_
              have hr := Option.some.inj h
              rw [← hr]
              exact ⟨.inl rfl, rfl⟩
            · refine evs (ev_gr rfl (congrArg V.bool g30) (ev_mv (c := .bool v11.2) rfl rfl rfl (evs (ev_gr rfl (congrArg V.bool g30) (ev_mv (c := .bool v7.2) rfl rfl rfl (evs (ev_gr rfl (congrArg V.bool g30) (ev_bin (c1 := .bool v11.2) (c2 := .bool v7.2) rfl rfl rfl (evs (ev_pkF (c1 := .bool (!(v11.2 == v7.2))) rfl g30 rfl rfl (evn ?_)))))))))))
              refine ls_keep [(1, .box [.arg a0.length (a0.flatMap c206_aa)]), (4, .box [.own 208 v7.1.1.length (v7.1.1.flatMap c208_oo), .own 161 v7.1.2.1.length (v7.1.2.1.flatMap c161_oooooo), .own 159 v7.1.2.2.length (v7.1.2.2.flatMap c159_ooo)]), (5, .bool v7.2), (7, .box [.own 208 v11.1.1.length (v11.1.1.flatMap c208_oo), .own 161 v11.1.2.1.length (v11.1.2.1.flatMap c161_oooooo), .own 159 v11.1.2.2.length (v11.1.2.2.flatMap c159_ooo)]), (61, .bool (!(v11.2 == v7.2)))] ⟨kr, kr, kr, kr, kr, trivial⟩ rfl ?_
              rcases cond_some h with ⟨g31, h⟩ | ⟨g31, h⟩
              · refine ls_cT rfl g31 ?_
                refine ls_rs tbOk ?_
                refine evs (ev_ac rfl nofun rfl (evn ?_))
                refine ls_keep [(2, .bool false)] ⟨kr, trivial⟩ rfl ?_
                refine ls_ret ?_
                have hr := Option.some.inj h
                rw [← hr]
                exact ⟨.inl rfl, rfl⟩
              · refine ls_cF rfl g31 ?_
                refine ls_skip ?_
                refine hK26 _ (ls_keep [(1, .box [.arg a0.length (a0.flatMap c206_aa)]), (4, .box [.own 208 v7.1.1.length (v7.1.1.flatMap c208_oo), .own 161 v7.1.2.1.length (v7.1.2.1.flatMap c161_oooooo), .own 159 v7.1.2.2.length (v7.1.2.2.flatMap c159_ooo)]), (5, .bool v7.2), (7, .box [.own 208 v11.1.1.length (v11.1.1.flatMap c208_oo), .own 161 v11.1.2.1.length (v11.1.2.1.flatMap c161_oooooo), .own 159 v11.1.2.2.length (v11.1.2.2.flatMap c159_ooo)])] ⟨kr, kr, kr, kr, trivial⟩ rfl ?_)
                refine ls_rs tbOk ?_
                refine evs (ev_ac rfl nofun rfl (evn ?_))
                refine ls_keep [(1, .box [.arg a0.length (a0.flatMap c206_aa)]), (4, .box [.own 208 v7.1.1.length (v7.1.1.flatMap c208_oo), .own 161 v7.1.2.1.length (v7.1.2.1.flatMap c161_oooooo), .own 159 v7.1.2.2.length (v7.1.2.2.flatMap c159_ooo)]), (5, .bool v7.2), (7, .box [.own 208 v11.1.1.length (v11.1.1.flatMap c208_oo), .own 161 v11.1.2.1.length (v11.1.2.1.flatMap c161_oooooo), .own 159 v11.1.2.2.length (v11.1.2.2.flatMap c159_ooo)]), (10, .int .i64 1)] ⟨kr, kr, kr, kr, kr, trivial⟩ rfl ?_
                refine ls_keep [(1, .box [.arg a0.length (a0.flatMap c206_aa)]), (4, .box [.own 208 v7.1.1.length (v7.1.1.flatMap c208_oo), .own 161 v7.1.2.1.length (v7.1.2.1.flatMap c161_oooooo), .own 159 v7.1.2.2.length (v7.1.2.2.flatMap c159_ooo)]), (5, .bool v7.2), (7, .box [.own 208 v11.1.1.length (v11.1.1.flatMap c208_oo), .own 161 v11.1.2.1.length (v11.1.2.1.flatMap c161_oooooo), .own 159 v11.1.2.2.length (v11.1.2.2.flatMap c159_ooo)]), (10, .int .i64 1)] ⟨kr, kr, kr, kr, kr, trivial⟩ rfl ?_
                obtain ⟨v32, g33, h⟩ := ob_some h
                refine ls_mark (src_box tbOk rfl rfl rfl) rfl rfl (laws_markNotifier_m g33) (dp74 _) (sf_of (sfc (scc (sca ad206 _) scn) (sfc (scc (sco dp208 _) (scc (sco dp161 _) (scc (sco dp159 _) scn))) (sfc rfl (sfs (sfc rfl sfn)))))) rfl rfl ⟨by decide, by decide⟩ rfl ?_
                refine ls_keep [(1, .box [.arg a0.length (a0.flatMap c206_aa)]), (4, .box [.own 208 v7.1.1.length (v7.1.1.flatMap c208_oo), .own 161 v7.1.2.1.length (v7.1.2.1.flatMap c161_oooooo), .own 159 v7.1.2.2.length (v7.1.2.2.flatMap c159_ooo)]), (5, .bool v7.2), (7, .box [.own 208 v32.1.1.length (v32.1.1.flatMap c208_oo), .own 161 v32.1.2.1.length (v32.1.2.1.flatMap c161_oooooo), .own 159 v32.1.2.2.length (v32.1.2.2.flatMap c159_ooo)]), (10, .int .i64 v32.2)] ⟨kr, kr, kr, kr, kr, trivial⟩ rfl ?_
                refine ls_rs tbOk ?_
                refine evs (ev_ac rfl nofun rfl (evn ?_))
                refine ls_keep [(1, .box [.arg a0.length (a0.flatMap c206_aa)]), (4, .box [.own 208 v7.1.1.length (v7.1.1.flatMap c208_oo), .own 161 v7.1.2.1.length (v7.1.2.1.flatMap c161_oooooo), .own 159 v7.1.2.2.length (v7.1.2.2.flatMap c159_ooo)]), (5, .bool v7.2), (7, .box [.own 208 v32.1.1.length (v32.1.1.flatMap c208_oo), .own 161 v32.1.2.1.length (v32.1.2.1.flatMap c161_oooooo), .own 159 v32.1.2.2.length (v32.1.2.2.flatMap c159_ooo)]), (10, .int .i64 v32.2), (11, .int .i64 1)] ⟨kr, kr, kr, kr, kr, kr, trivial⟩ rfl ?_
                refine ls_rs tbOk ?_
                refine evs (ev_ldB (off := 0) (v := .agg [.dat v32.1.1.length (v32.1.1.flatMap c208_oo), .dat v32.1.2.1.length (v32.1.2.1.flatMap c161_oooooo), .dat v32.1.2.2.length (v32.1.2.2.flatMap c159_ooo)]) rfl rfl rfl rfl (Nat.le_of_ble_eq_true rfl) rfl (evs (ev_mv (c := .int .i64 1) rfl rfl rfl (?_))))
                obtain ⟨v34, g35, h⟩ := ob_some h
                refine evs (ev_call (era rfl (erg (erc (erD ec208_oo _) (erc (erD ec161_oooooo _) (erc (erD ec159_ooo _) rfl)))) (era rfl rfl eran)) (laws_heldNotifier_s g35) (evs (ev_as (c := .int .i64 v34) rfl rfl rfl (evn ?_))))
                refine ls_keep [(1, .box [.arg a0.length (a0.flatMap c206_aa)]), (4, .box [.own 208 v7.1.1.length (v7.1.1.flatMap c208_oo), .own 161 v7.1.2.1.length (v7.1.2.1.flatMap c161_oooooo), .own 159 v7.1.2.2.length (v7.1.2.2.flatMap c159_ooo)]), (5, .bool v7.2), (7, .box [.own 208 v32.1.1.length (v32.1.1.flatMap c208_oo), .own 161 v32.1.2.1.length (v32.1.2.1.flatMap c161_oooooo), .own 159 v32.1.2.2.length (v32.1.2.2.flatMap c159_ooo)]), (10, .int .i64 v32.2), (11, .int .i64 v34)] ⟨kr, kr, kr, kr, kr, kr, trivial⟩ rfl ?_
                refine ls_seq_k fun K36 hK36 => ?_
                refine ls_rs tbOk ?_
                refine evs (ev_mv (c := .int .i64 v34) rfl rfl rfl (evs (ev_bin (c1 := .int .i64 v34) (c2 := .int .i64 0) rfl rfl rfl (evn ?_))))
                refine ls_keep [(1, .box [.arg a0.length (a0.flatMap c206_aa)]), (4, .box [.own 208 v7.1.1.length (v7.1.1.flatMap c208_oo), .own 161 v7.1.2.1.length (v7.1.2.1.flatMap c161_oooooo), .own 159 v7.1.2.2.length (v7.1.2.2.flatMap c159_ooo)]), (5, .bool v7.2), (7, .box [.own 208 v32.1.1.length (v32.1.1.flatMap c208_oo), .own 161 v32.1.2.1.length (v32.1.2.1.flatMap c161_oooooo), .own 159 v32.1.2.2.length (v32.1.2.2.flatMap c159_ooo)]), (10, .int .i64 v32.2), (11, .int .i64 v34), (69, .bool (decide (v34 < 0)))] ⟨kr, kr, kr, kr, kr, kr, kr, trivial⟩ rfl ?_
                rcases cond_some h with ⟨g37, h⟩ | ⟨g37, h⟩
                · refine ls_cT rfl g37 ?_
                  refine ls_rs tbOk ?_
                  refine evs (ev_ac rfl nofun rfl (evn ?_))
                  refine ls_keep [(2, .bool false)] ⟨kr, trivial⟩ rfl ?_
                  refine ls_ret ?_
                  have hr := Option.some.inj h
                  rw [← hr]
                  exact ⟨.inl rfl, rfl⟩
                · refine ls_cF rfl g37 ?_
                  refine ls_skip ?_
                  refine hK36 _ (ls_keep [(1, .box [.arg a0.length (a0.flatMap c206_aa)]), (4, .box [.own 208 v7.1.1.length (v7.1.1.flatMap c208_oo), .own 161 v7.1.2.1.length (v7.1.2.1.flatMap c161_oooooo), .own 159 v7.1.2.2.length (v7.1.2.2.flatMap c159_ooo)]), (5, .bool v7.2), (7, .box [.own 208 v32.1.1.length (v32.1.1.flatMap c208_oo), .own 161 v32.1.2.1.length (v32.1.2.1.flatMap c161_oooooo), .own 159 v32.1.2.2.length (v32.1.2.2.flatMap c159_ooo)]), (10, .int .i64 v32.2), (11, .int .i64 v34)] ⟨kr, kr, kr, kr, kr, kr, trivial⟩ rfl ?_)
                  refine ls_seq_k fun K38 hK38 => ?_
                  refine ls_rs tbOk ?_
                  refine evs (ev_mv (c := .int .i64 v34) rfl rfl rfl (evs (ev_mv (c := .int .i64 v32.2) rfl rfl rfl (evs (ev_bin (c1 := .int .i64 v34) (c2 := .int .i64 v32.2) rfl rfl rfl (evn ?_))))))
                  refine ls_keep [(1, .box [.arg a0.length (a0.flatMap c206_aa)]), (4, .box [.own 208 v7.1.1.length (v7.1.1.flatMap c208_oo), .own 161 v7.1.2.1.length (v7.1.2.1.flatMap c161_oooooo), .own 159 v7.1.2.2.length (v7.1.2.2.flatMap c159_ooo)]), (5, .bool v7.2), (7, .box [.own 208 v32.1.1.length (v32.1.1.flatMap c208_oo), .own 161 v32.1.2.1.length (v32.1.2.1.flatMap c161_oooooo), .own 159 v32.1.2.2.length (v32.1.2.2.flatMap c159_ooo)]), (10, .int .i64 v32.2), (72, .bool (v34 != v32.2))] ⟨kr, kr, kr, kr, kr, kr, trivial⟩ rfl ?_
                  rcases cond_some h with ⟨g39, h⟩ | ⟨g39, h⟩
                  · refine ls_cT rfl g39 ?_
                    refine ls_rs tbOk ?_
                    refine evs (ev_ac rfl nofun rfl (evn ?_))
                    refine ls_keep [(2, .bool false)] ⟨kr, trivial⟩ rfl ?_
                    refine ls_ret ?_
                    have hr := Option.some.inj h
                    rw [← hr]
                    exact ⟨.inl rfl, rfl⟩
                  · refine ls_cF rfl g39 ?_
                    refine ls_skip ?_
                    refine hK38 _ (ls_keep [(1, .box [.arg a0.length (a0.flatMap c206_aa)]), (4, .box [.own 208 v7.1.1.length (v7.1.1.flatMap c208_oo), .own 161 v7.1.2.1.length (v7.1.2.1.flatMap c161_oooooo), .own 159 v7.1.2.2.length (v7.1.2.2.flatMap c159_ooo)]), (5, .bool v7.2), (7, .box [.own 208 v32.1.1.length (v32.1.1.flatMap c208_oo), .own 161 v32.1.2.1.length (v32.1.2.1.flatMap c161_oooooo), .own 159 v32.1.2.2.length (v32.1.2.2.flatMap c159_ooo)]), (10, .int .i64 v32.2)] ⟨kr, kr, kr, kr, kr, trivial⟩ rfl ?_)
                    refine ls_rs tbOk ?_
                    refine evs (ev_ldB (off := 0) (v := .agg [.arg a0.length (a0.flatMap c206_aa)]) rfl rfl rfl rfl (Nat.le_of_ble_eq_true rfl) rfl (?_))
                    obtain ⟨v40, g41, h⟩ := ob_some h
                    refine evs (ev_call (era rfl (erg (erc (erG ec206_aa _) rfl)) eran) (laws_toDatabase_s g41) (?_))
                    obtain ⟨v42, g43, h⟩ := ob_some h
                    refine evs (ev_call (era rfl (erg (erc (erO ec208_oo _) rfl)) eran) (impl_NewNotifier_s g43) (evs (ev_mvt (c := .tup [.agg [.own 208 v42.1.1.length (v42.1.1.flatMap c208_oo), .own 161 v42.1.2.1.length (v42.1.2.1.flatMap c161_oooooo), .own 159 v42.1.2.2.length (v42.1.2.2.flatMap c159_ooo)], .bool v42.2]) rfl rfl rfl (evs (ev_ext rfl rfl rfl rfl (evs (ev_ext rfl rfl rfl rfl (evs (ev_al rfl rfl (evs (ev_st (off := 0) (c1 := .agg [.own 208 v42.1.1.length (v42.1.1.flatMap c208_oo), .own 161 v42.1.2.1.length (v42.1.2.1.flatMap c161_oooooo), .own 159 v42.1.2.2.length (v42.1.2.2.flatMap c159_ooo)]) (cs' := [.own 208 v42.1.1.length (v42.1.1.flatMap c208_oo), .own 161 v42.1.2.1.length (v42.1.2.1.flatMap c161_oooooo), .own 159 v42.1.2.2.length (v42.1.2.2.flatMap c159_ooo)]) rfl rfl rfl rfl rfl rfl (Nat.le_of_ble_eq_true rfl) rfl (evs (ev_as (c := .bool v42.2) rfl rfl rfl (evn ?_))))))))))))))
                    refine ls_keep [(4, .box [.own 208 v7.1.1.length (v7.1.1.flatMap c208_oo), .own 161 v7.1.2.1.length (v7.1.2.1.flatMap c161_oooooo), .own 159 v7.1.2.2.length (v7.1.2.2.flatMap c159_ooo)]), (5, .bool v7.2), (7, .box [.own 208 v32.1.1.length (v32.1.1.flatMap c208_oo), .own 161 v32.1.2.1.length (v32.1.2.1.flatMap c161_oooooo), .own 159 v32.1.2.2.length (v32.1.2.2.flatMap c159_ooo)]), (10, .int .i64 v32.2), (12, .box [.own 208 v42.1.1.length (v42.1.1.flatMap c208_oo), .own 161 v42.1.2.1.length (v42.1.2.1.flatMap c161_oooooo), .own 159 v42.1.2.2.length (v42.1.2.2.flatMap c159_ooo)]), (13, .bool v42.2)] ⟨kr, kr, kr, kr, kr, kr, trivial⟩ rfl ?_
                    refine ls_seq_k fun K44 hK44 => ?_
                    refine ls_rs tbOk ?_
                    refine evs (ev_ldB (off := 0) (v := .agg [.dat v42.1.1.length (v42.1.1.flatMap c208_oo), .dat v42.1.2.1.length (v42.1.2.1.flatMap c161_oooooo), .dat v42.1.2.2.length (v42.1.2.2.flatMap c159_ooo)]) rfl rfl rfl rfl (Nat.le_of_ble_eq_true rfl) rfl (evs (ev_ldB (off := 0) (v := .agg [.dat v7.1.1.length (v7.1.1.flatMap c208_oo), .dat v7.1.2.1.length (v7.1.2.1.flatMap c161_oooooo), .dat v7.1.2.2.length (v7.1.2.2.flatMap c159_ooo)]) rfl rfl rfl rfl (Nat.le_of_ble_eq_true rfl) rfl (?_))))
                    obtain ⟨v45, g46, h⟩ := ob_some h
                    refine evs (ev_call (era rfl (erg (erc (erD ec208_oo _) (erc (erD ec161_oooooo _) (erc (erD ec159_ooo _) rfl)))) (era rfl (erg (erc (erD ec208_oo _) (erc (erD ec161_oooooo _) (erc (erD ec159_ooo _) rfl)))) eran)) (laws_eqNotifier_s g46) (evs (ev_un (c1 := .bool v45) rfl trivial (evs (ev_mv (c := .bool (!v45)) rfl rfl rfl (?_))))))
                    rcases cond_some h with ⟨g47, h⟩ | ⟨g47, h⟩
                    · refine evs (ev_gs rfl rfl (isb_T g47) (evs (ev_gs rfl rfl (isb_T g47) (evs (ev_gs rfl rfl (isb_T g47) (evs (ev_pkT (c1 := .bool true) rfl g47 rfl rfl (evn ?_))))))))
                      refine ls_keep [(7, .box [.own 208 v32.1.1.length (v32.1.1.flatMap c208_oo), .own 161 v32.1.2.1.length (v32.1.2.1.flatMap c161_oooooo), .own 159 v32.1.2.2.length (v32.1.2.2.flatMap c159_ooo)]), (10, .int .i64 v32.2), (87, .bool true)] ⟨kr, kr, kr, trivial⟩ rfl ?_
                      refine ls_cT rfl rfl ?_
                      refine ls_rs tbOk ?_
                      refine evs (ev_ac rfl nofun rfl (evn ?_))
                      refine ls_keep [(2, .bool false)] ⟨kr, trivial⟩ rfl ?_
                      refine ls_ret ?_
                      have hr := Option.some.inj h
                      rw [← hr]
                      exact ⟨.inl rfl, rfl⟩
                    · refine evs (ev_gr rfl (congrArg V.bool g47) (ev_mv (c := .bool v42.2) rfl rfl rfl (evs (ev_gr rfl (congrArg V.bool g47) (ev_mv (c := .bool v7.2) rfl rfl rfl (evs (ev_gr rfl (congrArg V.bool g47) (ev_bin (c1 := .bool v42.2) (c2 := .bool v7.2) rfl rfl rfl (evs (ev_pkF (c1 := .bool (!(v42.2 == v7.2))) rfl g47 rfl rfl (evn ?_)))))))))))
                      refine ls_keep [(7, .box [.own 208 v32.1.1.length (v32.1.1.flatMap c208_oo), .own 161 v32.1.2.1.length (v32.1.2.1.flatMap c161_oooooo), .own 159 v32.1.2.2.length (v32.1.2.2.flatMap c159_ooo)]), (10, .int .i64 v32.2), (87, .bool (!(v42.2 == v7.2)))] ⟨kr, kr, kr, trivial⟩ rfl ?_
                      rcases cond_some h with ⟨g48, h⟩ | ⟨g48, h⟩
                      · refine ls_cT rfl g48 ?_
                        refine ls_rs tbOk ?_
                        refine evs (ev_ac rfl nofun rfl (evn ?_))
                        refine ls_keep [(2, .bool false)] ⟨kr, trivial⟩ rfl ?_
                        refine ls_ret ?_
                        have hr := Option.some.inj h
                        rw [← hr]
                        exact ⟨.inl rfl, rfl⟩
                      · refine ls_cF rfl g48 ?_
                        refine ls_skip ?_
                        refine hK44 _ (ls_keep [(7, .box [.own 208 v32.1.1.length (v32.1.1.flatMap c208_oo), .own 161 v32.1.2.1.length (v32.1.2.1.flatMap c161_oooooo), .own 159 v32.1.2.2.length (v32.1.2.2.flatMap c159_ooo)]), (10, .int .i64 v32.2)] ⟨kr, kr, trivial⟩ rfl ?_)
                        refine ls_rs tbOk ?_
                        refine evs (ev_ac rfl nofun rfl (evn ?_))
                        refine ls_keep [(7, .box [.own 208 v32.1.1.length (v32.1.1.flatMap c208_oo), .own 161 v32.1.2.1.length (v32.1.2.1.flatMap c161_oooooo), .own 159 v32.1.2.2.length (v32.1.2.2.flatMap c159_ooo)]), (10, .int .i64 v32.2), (11, .int .i64 1)] ⟨kr, kr, kr, trivial⟩ rfl ?_
                        refine ls_rs tbOk ?_
                        refine evs (ev_ldB (off := 0) (v := .agg [.dat v32.1.1.length (v32.1.1.flatMap c208_oo), .dat v32.1.2.1.length (v32.1.2.1.flatMap c161_oooooo), .dat v32.1.2.2.length (v32.1.2.2.flatMap c159_ooo)]) rfl rfl rfl rfl (Nat.le_of_ble_eq_true rfl) rfl (evs (ev_mv (c := .int .i64 1) rfl rfl rfl (?_))))
                        obtain ⟨v49, g50, h⟩ := ob_some h
                        refine evs (ev_call (era rfl (erg (erc (erD ec208_oo _) (erc (erD ec161_oooooo _) (erc (erD ec159_ooo _) rfl)))) (era rfl rfl eran)) (laws_heldNotifier_s g50) (evs (ev_as (c := .int .i64 v49) rfl rfl rfl (evn ?_))))
                        refine ls_keep [(10, .int .i64 v32.2), (11, .int .i64 v49)] ⟨kr, kr, trivial⟩ rfl ?_
                        refine ls_seq_k fun K51 hK51 => ?_
                        refine ls_rs tbOk ?_
                        refine evs (ev_mv (c := .int .i64 v49) rfl rfl rfl (evs (ev_bin (c1 := .int .i64 v49) (c2 := .int .i64 0) rfl rfl rfl (evn ?_))))
                        refine ls_keep [(10, .int .i64 v32.2), (11, .int .i64 v49), (92, .bool (decide (v49 < 0)))] ⟨kr, kr, kr, trivial⟩ rfl ?_
                        rcases cond_some h with ⟨g52, h⟩ | ⟨g52, h⟩
                        · refine ls_cT rfl g52 ?_
                          refine ls_rs tbOk ?_
                          refine evs (ev_ac rfl nofun rfl (evn ?_))
                          refine ls_keep [(2, .bool false)] ⟨kr, trivial⟩ rfl ?_
                          refine ls_ret ?_
                          have hr := Option.some.inj h
                          rw [← hr]
                          exact ⟨.inl rfl, rfl⟩
                        · refine ls_cF rfl g52 ?_
                          refine ls_skip ?_
                          refine hK51 _ (ls_keep [(10, .int .i64 v32.2), (11, .int .i64 v49)] ⟨kr, kr, trivial⟩ rfl ?_)
                          refine ls_seq_k fun K53 hK53 => ?_
                          refine ls_rs tbOk ?_
                          refine evs (ev_mv (c := .int .i64 v49) rfl rfl rfl (evs (ev_mv (c := .int .i64 v32.2) rfl rfl rfl (evs (ev_bin (c1 := .int .i64 v49) (c2 := .int .i64 v32.2) rfl rfl rfl (evn ?_))))))
                          refine ls_keep [(95, .bool (v49 != v32.2))] ⟨kr, trivial⟩ rfl ?_
                          rcases cond_some h with ⟨g54, h⟩ | ⟨g54, h⟩
                          · refine ls_cT rfl g54 ?_
                            refine ls_rs tbOk ?_
                            refine evs (ev_ac rfl nofun rfl (evn ?_))
                            refine ls_keep [(2, .bool false)] ⟨kr, trivial⟩ rfl ?_
                            refine ls_ret ?_
                            have hr := Option.some.inj h
                            rw [← hr]
                            exact ⟨.inl rfl, rfl⟩
                          · refine ls_cF rfl g54 ?_
                            refine ls_skip ?_
                            refine hK53 _ (ls_keep [] trivial rfl ?_)
                            refine ls_rs tbOk ?_
                            refine evs (ev_ac rfl nofun rfl (evn ?_))
                            refine ls_keep [(2, .bool true)] ⟨kr, trivial⟩ rfl ?_
                            refine ls_ret ?_
                            have hr := Option.some.inj h
                            rw [← hr]
                            exact ⟨.inl rfl, rfl⟩
end Go.Proofs.Ytkcfahfladikkaa
