/-
  Functions of the program as typed functions, printed by gen.py, and that the program's functions do what they say. No conditions.
-/
import Derived.Test.YtkcfahfladikkaaGSV1
namespace Go.Proofs.Ytkcfahfladikkaa
open Go.RowKit
set_option linter.unusedVariables false
set_option maxRecDepth 100000
set_option maxHeartbeats 1000000
def impl_IsStrictlyAscending_B1 (a0 : List Int) (rec : Int → Option (Sum (Unit) (Bool))) (y1 : Int) : Option (Sum (Unit) (Bool)) := cond (decide (y1 < (List.length a0 : Int))) (obind (geti a0 (IntKind.i64.wrap (y1 - 1))) fun e5 => obind (geti a0 y1) fun e7 => cond (decide (e7 ≤ e5)) (some (.inr false)) (rec (IntKind.i64.wrap (y1 + 1)))) (some (.inl ()))
def impl_IsStrictlyAscending (a0 : List Int) : Option (Bool) := obind (loopF (impl_IsStrictlyAscending_B1 a0) fz 1) fun o1 => (match o1 with
  | .inl _ => (some true)
  | .inr r => some r)
theorem impl_IsStrictlyAscending_s {a0 : List Int} {r : Bool} (h : impl_IsStrictlyAscending a0 = some r) : SoundAt Try.prog 174 [.dat a0.length (a0.flatMap ci64)] (.bool r) := by
  unfold impl_IsStrictlyAscending at h
  refine sound_lit tbOk lit174 (Nat.le_of_ble_eq_true rfl) rfl ?_
  unfold c174
  refine ls_keep [(0, .dat a0.length (a0.flatMap ci64))] ⟨kr, trivial⟩ rfl ?_
  refine ls_rs tbOk ?_
  refine evs (ev_ac rfl nofun rfl (evn ?_))
  refine ls_keep [(0, .dat a0.length (a0.flatMap ci64))] ⟨kr, trivial⟩ rfl ?_
  refine ls_seq_k fun K1 hK1 => ?_
  refine ls_rs tbOk ?_
  refine evs (ev_ac rfl nofun rfl (evn ?_))
  refine ls_keep [(0, .dat a0.length (a0.flatMap ci64)), (3, .int .i64 1)] ⟨kr, kr, trivial⟩ rfl ?_
  obtain ⟨o1, hl, hr1⟩ := ob_some h
  clear h
  have kXimpl_IsStrictlyAscending_B1 : ∀ (_ : Unit), (some true) = some r → ∀ σ' : PS, okK σ' [] → K1 σ' := by
    intro _ h σ' hk
    refine hK1 _ (ls_keep [] hk rfl ?_)
    refine ls_rs tbOk ?_
    refine evs (ev_ac rfl nofun rfl (evn ?_))
    refine ls_keep [(2, .bool true)] ⟨kr, trivial⟩ rfl ?_
    refine ls_ret ?_
    have hr := Option.some.inj h
    rw [← hr]
    exact ⟨.inl rfl, rfl⟩
  refine ls_rec (fun (y1 : Int) => [(0, .dat a0.length (a0.flatMap ci64)), (3, .int .i64 y1)]) (impl_IsStrictlyAscending_B1 a0) fz 1 o1 hl ⟨kr, kr, trivial⟩ (fun _ => rfl) ?_
  rintro m y1 N h hN
  unfold impl_IsStrictlyAscending_B1 at h
  refine ls_seq_k fun K2 hK2 => ?_
  refine ls_rs tbOk ?_
  refine evs (ev_mv (c := .int .i64 y1) rfl rfl rfl (evs (ev_mv (c := .dat a0.length (a0.flatMap ci64)) rfl rfl rfl (evs (ev_len (c1 := .dat a0.length (a0.flatMap ci64)) rfl rfl rfl (evs (ev_bin (c1 := .int .i64 y1) (c2 := .int .i64 (List.length a0 : Int)) rfl rfl rfl (evn ?_))))))))
  refine ls_keep [(0, .dat a0.length (a0.flatMap ci64)), (3, .int .i64 y1), (7, .bool (decide (y1 < (List.length a0 : Int))))] ⟨kr, kr, kr, trivial⟩ rfl ?_
  rcases cond_some h with ⟨g3, h⟩ | ⟨g3, h⟩
  · refine ls_cT rfl g3 ?_
    refine ls_skip ?_
    refine hK2 _ (ls_keep [(0, .dat a0.length (a0.flatMap ci64)), (3, .int .i64 y1)] ⟨kr, kr, trivial⟩ rfl ?_)
    refine ls_seq_k fun K4 hK4 => ?_
    refine ls_blk ?_
    refine ls_rd tbOk mixed (by kernel_rfl) ?_
    refine evd rfl rfl (ev_mv (c := .dat a0.length (a0.flatMap ci64)) rfl rfl rfl (evd rfl rfl (ev_mv (c := .int .i64 y1) rfl rfl rfl (evd rfl rfl (ev_bin (c1 := .int .i64 y1) (c2 := .int .i64 1) rfl rfl rfl (?_))))))
    obtain ⟨e5, g6, h⟩ := ob_some h
    refine evd rfl rfl (ev_ia rfl rfl rfl ⟨(geti_some g6).1, (geti_some g6).2.1⟩ (evd rfl rfl (ev_ldE (i := (IntKind.i64.wrap (y1 - 1))) (n := 1) (off := 0) (v := .int .i64 e5) rfl rfl zci64 g6 rfl (Nat.le_of_ble_eq_true rfl) rfl (evd rfl rfl (ev_mv (c := .dat a0.length (a0.flatMap ci64)) rfl rfl rfl (evd rfl rfl (ev_mv (c := .int .i64 y1) rfl rfl rfl (?_))))))))
    obtain ⟨e7, g8, h⟩ := ob_some h
    refine evd rfl rfl (ev_ia rfl rfl rfl ⟨(geti_some g8).1, (geti_some g8).2.1⟩ (evd rfl rfl (ev_ldE (i := y1) (n := 1) (off := 0) (v := .int .i64 e7) rfl rfl zci64 g8 rfl (Nat.le_of_ble_eq_true rfl) rfl (evd rfl rfl (ev_bin (c1 := .int .i64 e5) (c2 := .int .i64 e7) rfl rfl rfl (evdn ?_))))))
    refine ls_keep [(0, .dat a0.length (a0.flatMap ci64)), (3, .int .i64 y1), (19, .bool (decide (e7 ≤ e5)))] ⟨kr, kr, kr, trivial⟩ rfl ?_
    rcases cond_some h with ⟨g9, h⟩ | ⟨g9, h⟩
    · refine ls_cT rfl g9 ?_
      refine ls_rs tbOk ?_
      refine evs (ev_ac rfl nofun rfl (evn ?_))
      refine ls_keep [(2, .bool false)] ⟨kr, trivial⟩ rfl ?_
      refine ls_ret ?_
      have q0 := (Option.some.inj h).symm
      have r0 := hr1
      rw [q0] at r0
      have hr := Option.some.inj r0
      rw [← hr]
      exact ⟨.inl rfl, rfl⟩
    · refine ls_cF rfl g9 ?_
      refine ls_skip ?_
      refine hK4 _ (ls_keep [(0, .dat a0.length (a0.flatMap ci64)), (3, .int .i64 y1)] ⟨kr, kr, trivial⟩ rfl ?_)
      refine ls_rgn tbOk ?_
      refine evs (ev_mv (c := .int .i64 y1) rfl rfl rfl (evs (ev_bin (c1 := .int .i64 y1) (c2 := .int .i64 1) rfl rfl rfl (evs (ev_as (c := .int .i64 (IntKind.i64.wrap (y1 + 1))) rfl rfl rfl (evn ?_))))))
      exact hN _ (IntKind.i64.wrap (y1 + 1)) h ⟨kr, kr, trivial⟩
  · refine ls_cF rfl g3 ?_
    refine ls_exit ?_
    have q0 := (Option.some.inj h).symm
    have r0 := hr1
    rw [q0] at r0
    exact kXimpl_IsStrictlyAscending_B1 () r0 _ trivial
def impl_IsValidFD_B1 (a1 : (List UInt8) × (List Int) × Int) (v1 : (Int × (List (List Int))) × Bool) (rec : Int → Option (Sum (Unit) (Bool))) (y1 : Int) : Option (Sum (Unit) (Bool)) := cond (decide (y1 < (List.length a1.2.1 : Int))) (obind (geti a1.2.1 y1) fun e15 => obind (impl_within e15 0 (IntKind.i64.wrap (v1.1.1 - 1))) fun v17 => cond (!v17) (some (.inr false)) (rec (IntKind.i64.wrap (y1 + 1)))) (some (.inl ()))
def impl_IsValidFD (a0 : (List ((List UInt8) × (Int × (List (List Int)))))) (a1 : (List UInt8) × (List Int) × Int) : Option (Bool) := obind (impl_LookupRelation a0 a1.1) fun v1 => cond (!v1.2) (some false) (obind (impl_IsStrictlyAscending a1.2.1) fun v5 => cond (!v5) (some false) (obind (impl_within a1.2.2 0 (IntKind.i64.wrap (v1.1.1 - 1))) fun v8 => cond (!v8) (some false) (obind (loopF (impl_IsValidFD_B1 a1 v1) fz 0) fun o1 => (match o1 with
  | .inl _ => (some true)
  | .inr r => some r))))
theorem impl_IsValidFD_s {a0 : (List ((List UInt8) × (Int × (List (List Int)))))} {a1 : (List UInt8) × (List Int) × Int} {r : Bool} (h : impl_IsValidFD a0 a1 = some r) : SoundAt Try.prog 78 [.agg [.dat a0.length (a0.flatMap c208_dd)], .agg [.str a1.1, .dat a1.2.1.length (a1.2.1.flatMap ci64), .int .i64 a1.2.2]] (.bool r) := by
  unfold impl_IsValidFD at h
  refine sound_lit tbOk lit78 (Nat.le_of_ble_eq_true rfl) rfl ?_
  unfold c78
  refine ls_keep [(0, .agg [.dat a0.length (a0.flatMap c208_dd)]), (1, .agg [.str a1.1, .dat a1.2.1.length (a1.2.1.flatMap ci64), .int .i64 a1.2.2])] ⟨kr, kr, trivial⟩ rfl ?_
  refine ls_rs tbOk ?_
  refine evs (ev_bx (c1 := .agg [.dat a0.length (a0.flatMap c208_dd)]) rfl rfl rfl (evs (ev_bx (c1 := .agg [.str a1.1, .dat a1.2.1.length (a1.2.1.flatMap ci64), .int .i64 a1.2.2]) rfl rfl rfl (evs (ev_ac rfl nofun rfl (evn ?_))))))
  refine ls_keep [(2, .box [.dat a0.length (a0.flatMap c208_dd)]), (3, .box [.str a1.1, .dat a1.2.1.length (a1.2.1.flatMap ci64), .int .i64 a1.2.2])] ⟨kr, kr, trivial⟩ rfl ?_
  refine ls_rs tbOk ?_
  refine evs (ev_ldB (off := 0) (v := .agg [.dat a0.length (a0.flatMap c208_dd)]) rfl rfl rfl rfl (Nat.le_of_ble_eq_true rfl) rfl (evs (ev_fa (c1 := .cref 3 0) (v := .cref 3 0) rfl rfl rfl ⟨_, rfl⟩ rfl (evs (ev_ldB (off := 0) (v := .str a1.1) rfl rfl rfl rfl (Nat.le_of_ble_eq_true rfl) rfl (?_))))))
  obtain ⟨v1, g2, h⟩ := ob_some h
  refine evs (ev_call (era rfl (erg (erc (erD ec208_dd _) rfl)) (era rfl rfl eran)) (impl_LookupRelation_s g2) (evs (ev_mvt (c := .tup [.agg [.int .i64 v1.1.1, .own 25 v1.1.2.length (v1.1.2.flatMap c25_o)], .bool v1.2]) rfl rfl rfl (evs (ev_ext rfl rfl rfl rfl (evs (ev_ext rfl rfl rfl rfl (evs (ev_al rfl rfl (evs (ev_st (off := 0) (c1 := .agg [.int .i64 v1.1.1, .own 25 v1.1.2.length (v1.1.2.flatMap c25_o)]) (cs' := [.int .i64 v1.1.1, .own 25 v1.1.2.length (v1.1.2.flatMap c25_o)]) rfl rfl rfl rfl rfl rfl (Nat.le_of_ble_eq_true rfl) rfl (evs (ev_as (c := .bool v1.2) rfl rfl rfl (evn ?_))))))))))))))
  refine ls_keep [(3, .box [.str a1.1, .dat a1.2.1.length (a1.2.1.flatMap ci64), .int .i64 a1.2.2]), (5, .box [.int .i64 v1.1.1, .own 25 v1.1.2.length (v1.1.2.flatMap c25_o)]), (6, .bool v1.2)] ⟨kr, kr, kr, trivial⟩ rfl ?_
  refine ls_seq_k fun K3 hK3 => ?_
  refine ls_rs tbOk ?_
  refine evs (ev_mv (c := .bool v1.2) rfl rfl rfl (evs (ev_un (c1 := .bool v1.2) rfl trivial (evs (ev_mv (c := .bool (!v1.2)) rfl rfl rfl (?_))))))
  rcases cond_some h with ⟨g4, h⟩ | ⟨g4, h⟩
  · refine evs (ev_gs rfl rfl (isb_T g4) (evs (ev_gs rfl rfl (isb_T g4) (evs (ev_gs rfl rfl (isb_T g4) (evs (ev_gs rfl rfl (isb_T g4) (evs (ev_pkT (c1 := .bool true) rfl g4 rfl rfl (evs (ev_mv (c := .bool true) rfl rfl rfl (evs (ev_gs rfl rfl rfl (evs (ev_gs rfl rfl rfl (evs (ev_gs rfl rfl rfl (evs (ev_gs rfl rfl rfl (evs (ev_gs rfl rfl rfl (evs (ev_gs rfl rfl rfl (evs (ev_gs rfl rfl rfl (evs (ev_pkT (c1 := .bool true) rfl rfl rfl rfl (evn ?_))))))))))))))))))))))))))))
    refine ls_keep [(3, .box [.str a1.1, .dat a1.2.1.length (a1.2.1.flatMap ci64), .int .i64 a1.2.2]), (5, .box [.int .i64 v1.1.1, .own 25 v1.1.2.length (v1.1.2.flatMap c25_o)]), (32, .bool true)] ⟨kr, kr, kr, trivial⟩ rfl ?_
    refine ls_cT rfl rfl ?_
    refine ls_rs tbOk ?_
    refine evs (ev_ac rfl nofun rfl (evn ?_))
    refine ls_keep [(4, .bool false)] ⟨kr, trivial⟩ rfl ?_
    refine ls_ret ?_
    have hr := Option.some.inj h
    rw [← hr]
    exact ⟨.inl rfl, rfl⟩
  · refine evs (ev_gr rfl (congrArg V.bool g4) (ev_fa (c1 := .cref 3 0) (v := .cref 3 1) rfl rfl rfl ⟨_, rfl⟩ rfl (evs (ev_gr rfl (congrArg V.bool g4) (ev_ldB (off := 1) (v := .dat a1.2.1.length (a1.2.1.flatMap ci64)) rfl rfl rfl rfl (Nat.le_of_ble_eq_true rfl) rfl (?_))))))
    obtain ⟨v5, g6, h⟩ := ob_some h
    refine evs (ev_gr rfl (congrArg V.bool g4) (ev_call (era rfl (erD eci64 _) eran) (impl_IsStrictlyAscending_s g6) (evs (ev_gr rfl (congrArg V.bool g4) (ev_un (c1 := .bool v5) rfl trivial (evs (ev_pkF (c1 := .bool (!v5)) rfl g4 rfl rfl (evs (ev_mv (c := .bool (!v5)) rfl rfl rfl (?_))))))))))
    rcases cond_some h with ⟨g7, h⟩ | ⟨g7, h⟩
    · refine evs (ev_gs rfl rfl (isb_T g7) (evs (ev_gs rfl rfl (isb_T g7) (evs (ev_gs rfl rfl (isb_T g7) (evs (ev_gs rfl rfl (isb_T g7) (evs (ev_gs rfl rfl (isb_T g7) (evs (ev_gs rfl rfl (isb_T g7) (evs (ev_gs rfl rfl (isb_T g7) (evs (ev_pkT (c1 := .bool true) rfl g7 rfl rfl (evn ?_))))))))))))))))
      refine ls_keep [(3, .box [.str a1.1, .dat a1.2.1.length (a1.2.1.flatMap ci64), .int .i64 a1.2.2]), (5, .box [.int .i64 v1.1.1, .own 25 v1.1.2.length (v1.1.2.flatMap c25_o)]), (32, .bool true)] ⟨kr, kr, kr, trivial⟩ rfl ?_
      refine ls_cT rfl rfl ?_
      refine ls_rs tbOk ?_
      refine evs (ev_ac rfl nofun rfl (evn ?_))
      refine ls_keep [(4, .bool false)] ⟨kr, trivial⟩ rfl ?_
      refine ls_ret ?_
      have hr := Option.some.inj h
      rw [← hr]
      exact ⟨.inl rfl, rfl⟩
    · refine evs (ev_gr rfl (congrArg V.bool g7) (ev_fa (c1 := .cref 3 0) (v := .cref 3 2) rfl rfl rfl ⟨_, rfl⟩ rfl (evs (ev_gr rfl (congrArg V.bool g7) (ev_ldB (off := 2) (v := .int .i64 a1.2.2) rfl rfl rfl rfl (Nat.le_of_ble_eq_true rfl) rfl (evs (ev_gr rfl (congrArg V.bool g7) (ev_fa (c1 := .cref 5 0) (v := .cref 5 0) rfl rfl rfl ⟨_, rfl⟩ rfl (evs (ev_gr rfl (congrArg V.bool g7) (ev_ldB (off := 0) (v := .int .i64 v1.1.1) rfl rfl rfl rfl (Nat.le_of_ble_eq_true rfl) rfl (evs (ev_gr rfl (congrArg V.bool g7) (ev_bin (c1 := .int .i64 v1.1.1) (c2 := .int .i64 1) rfl rfl rfl (?_)))))))))))))))
      obtain ⟨v8, g9, h⟩ := ob_some h
      refine evs (ev_gr rfl (congrArg V.bool g7) (ev_call (era rfl rfl (era rfl rfl (era rfl rfl eran))) (impl_within_s g9) (evs (ev_gr rfl (congrArg V.bool g7) (ev_un (c1 := .bool v8) rfl trivial (evs (ev_pkF (c1 := .bool (!v8)) rfl g7 rfl rfl (evn ?_))))))))
      refine ls_keep [(3, .box [.str a1.1, .dat a1.2.1.length (a1.2.1.flatMap ci64), .int .i64 a1.2.2]), (5, .box [.int .i64 v1.1.1, .own 25 v1.1.2.length (v1.1.2.flatMap c25_o)]), (32, .bool (!v8))] ⟨kr, kr, kr, trivial⟩ rfl ?_
      rcases cond_some h with ⟨g10, h⟩ | ⟨g10, h⟩
      · refine ls_cT rfl g10 ?_
        refine ls_rs tbOk ?_
        refine evs (ev_ac rfl nofun rfl (evn ?_))
        refine ls_keep [(4, .bool false)] ⟨kr, trivial⟩ rfl ?_
        refine ls_ret ?_
        have hr := Option.some.inj h
        rw [← hr]
        exact ⟨.inl rfl, rfl⟩
      · refine ls_cF rfl g10 ?_
        refine ls_skip ?_
        refine hK3 _ (ls_keep [(3, .box [.str a1.1, .dat a1.2.1.length (a1.2.1.flatMap ci64), .int .i64 a1.2.2]), (5, .box [.int .i64 v1.1.1, .own 25 v1.1.2.length (v1.1.2.flatMap c25_o)])] ⟨kr, kr, trivial⟩ rfl ?_)
        refine ls_seq_k fun K11 hK11 => ?_
        refine ls_rs tbOk ?_
        refine evs (ev_fa (c1 := .cref 3 0) (v := .cref 3 1) rfl rfl rfl ⟨_, rfl⟩ rfl (evs (ev_ldB (off := 1) (v := .dat a1.2.1.length (a1.2.1.flatMap ci64)) rfl rfl rfl rfl (Nat.le_of_ble_eq_true rfl) rfl (evs (ev_len (c1 := .dat a1.2.1.length (a1.2.1.flatMap ci64)) rfl rfl rfl (evs (ev_mc rfl rfl (evn ?_))))))))
        refine ls_keep [(5, .box [.int .i64 v1.1.1, .own 25 v1.1.2.length (v1.1.2.flatMap c25_o)]), (34, .dat a1.2.1.length (a1.2.1.flatMap ci64)), (35, .int .i64 (List.length a1.2.1 : Int)), (36, .int .i64 0)] ⟨kr, kr, kr, kr, trivial⟩ rfl ?_
        obtain ⟨o1, hl, hr1⟩ := ob_some h
        clear h
        have kXimpl_IsValidFD_B1 : ∀ (_ : Unit), (some true) = some r → ∀ σ' : PS, okK σ' [] → K11 σ' := by
          intro _ h σ' hk
          refine hK11 _ (ls_keep [] hk rfl ?_)
          refine ls_rs tbOk ?_
          refine evs (ev_ac rfl nofun rfl (evn ?_))
          refine ls_keep [(4, .bool true)] ⟨kr, trivial⟩ rfl ?_
          refine ls_ret ?_
          have hr := Option.some.inj h
          rw [← hr]
          exact ⟨.inl rfl, rfl⟩
        refine ls_rec (fun (y1 : Int) => [(5, .box [.int .i64 v1.1.1, .own 25 v1.1.2.length (v1.1.2.flatMap c25_o)]), (34, .dat a1.2.1.length (a1.2.1.flatMap ci64)), (35, .int .i64 (List.length a1.2.1 : Int)), (36, .int .i64 y1)]) (impl_IsValidFD_B1 a1 v1) fz 0 o1 hl ⟨kr, kr, kr, kr, trivial⟩ (fun _ => rfl) ?_
        rintro m y1 N h hN
        unfold impl_IsValidFD_B1 at h
        refine ls_rs tbOk ?_
        refine evs (ev_bin (c1 := .int .i64 y1) (c2 := .int .i64 (List.length a1.2.1 : Int)) rfl rfl rfl (evn ?_))
        refine ls_keep [(5, .box [.int .i64 v1.1.1, .own 25 v1.1.2.length (v1.1.2.flatMap c25_o)]), (34, .dat a1.2.1.length (a1.2.1.flatMap ci64)), (35, .int .i64 (List.length a1.2.1 : Int)), (36, .int .i64 y1), (37, .bool (decide (y1 < (List.length a1.2.1 : Int))))] ⟨kr, kr, kr, kr, kr, trivial⟩ rfl ?_
        refine ls_seq_k fun K12 hK12 => ?_
        rcases cond_some h with ⟨g13, h⟩ | ⟨g13, h⟩
        · refine ls_cT rfl g13 ?_
          refine ls_skip ?_
          refine hK12 _ (ls_keep [(5, .box [.int .i64 v1.1.1, .own 25 v1.1.2.length (v1.1.2.flatMap c25_o)]), (34, .dat a1.2.1.length (a1.2.1.flatMap ci64)), (35, .int .i64 (List.length a1.2.1 : Int)), (36, .int .i64 y1)] ⟨kr, kr, kr, kr, trivial⟩ rfl ?_)
          refine ls_seq_k fun K14 hK14 => ?_
          refine ls_blk ?_
          refine ls_rs tbOk ?_
          obtain ⟨e15, g16, h⟩ := ob_some h
          refine evs (ev_ia rfl rfl rfl ⟨(geti_some g16).1, (geti_some g16).2.1⟩ (evs (ev_ldE (i := y1) (n := 1) (off := 0) (v := .int .i64 e15) rfl rfl zci64 g16 rfl (Nat.le_of_ble_eq_true rfl) rfl (evs (ev_as (c := .int .i64 e15) rfl rfl rfl (evn ?_))))))
          refine ls_keep [(5, .box [.int .i64 v1.1.1, .own 25 v1.1.2.length (v1.1.2.flatMap c25_o)]), (8, .int .i64 e15), (34, .dat a1.2.1.length (a1.2.1.flatMap ci64)), (35, .int .i64 (List.length a1.2.1 : Int)), (36, .int .i64 y1)] ⟨kr, kr, kr, kr, kr, trivial⟩ rfl ?_
          refine ls_rs tbOk ?_
          refine evs (ev_mv (c := .int .i64 e15) rfl rfl rfl (evs (ev_fa (c1 := .cref 5 0) (v := .cref 5 0) rfl rfl rfl ⟨_, rfl⟩ rfl (evs (ev_ldB (off := 0) (v := .int .i64 v1.1.1) rfl rfl rfl rfl (Nat.le_of_ble_eq_true rfl) rfl (evs (ev_bin (c1 := .int .i64 v1.1.1) (c2 := .int .i64 1) rfl rfl rfl (?_))))))))
          obtain ⟨v17, g18, h⟩ := ob_some h
          refine evs (ev_call (era rfl rfl (era rfl rfl (era rfl rfl eran))) (impl_within_s g18) (evs (ev_un (c1 := .bool v17) rfl trivial (evn ?_))))
          refine ls_keep [(5, .box [.int .i64 v1.1.1, .own 25 v1.1.2.length (v1.1.2.flatMap c25_o)]), (34, .dat a1.2.1.length (a1.2.1.flatMap ci64)), (35, .int .i64 (List.length a1.2.1 : Int)), (36, .int .i64 y1), (45, .bool (!v17))] ⟨kr, kr, kr, kr, kr, trivial⟩ rfl ?_
          rcases cond_some h with ⟨g19, h⟩ | ⟨g19, h⟩
          · refine ls_cT rfl g19 ?_
            refine ls_rs tbOk ?_
            refine evs (ev_ac rfl nofun rfl (evn ?_))
            refine ls_keep [(4, .bool false)] ⟨kr, trivial⟩ rfl ?_
            refine ls_ret ?_
            have q0 := (Option.some.inj h).symm
            have r0 := hr1
            rw [q0] at r0
            have hr := Option.some.inj r0
            rw [← hr]
            exact ⟨.inl rfl, rfl⟩
          · refine ls_cF rfl g19 ?_
            refine ls_skip ?_
            refine hK14 _ (ls_keep [(5, .box [.int .i64 v1.1.1, .own 25 v1.1.2.length (v1.1.2.flatMap c25_o)]), (34, .dat a1.2.1.length (a1.2.1.flatMap ci64)), (35, .int .i64 (List.length a1.2.1 : Int)), (36, .int .i64 y1)] ⟨kr, kr, kr, kr, trivial⟩ rfl ?_)
            refine ls_rgn tbOk ?_
            refine evs (ev_bin (c1 := .int .i64 y1) (c2 := .int .i64 1) rfl rfl rfl (evs (ev_mv (c := .int .i64 (IntKind.i64.wrap (y1 + 1))) rfl rfl rfl (evn ?_))))
            exact hN _ (IntKind.i64.wrap (y1 + 1)) h ⟨kr, kr, kr, kr, trivial⟩
        · refine ls_cF rfl g13 ?_
          refine ls_exit ?_
          have q0 := (Option.some.inj h).symm
          have r0 := hr1
          rw [q0] at r0
          exact kXimpl_IsValidFD_B1 () r0 _ trivial
def impl_sameInts_B1 (a0 : List Int) (a1 : List Int) (rec : Int → Option (Sum (Unit) (Bool))) (y1 : Int) : Option (Sum (Unit) (Bool)) := cond (decide (y1 < (List.length a0 : Int))) (obind (geti a0 y1) fun e7 => obind (geti a1 y1) fun e9 => cond (e7 != e9) (some (.inr false)) (rec (IntKind.i64.wrap (y1 + 1)))) (some (.inl ()))
def impl_sameInts (a0 : List Int) (a1 : List Int) : Option (Bool) := cond ((List.length a0 : Int) != (List.length a1 : Int)) (some false) (obind (loopF (impl_sameInts_B1 a0 a1) fz 0) fun o1 => (match o1 with
  | .inl _ => (some true)
  | .inr r => some r))
theorem impl_sameInts_s {a0 : List Int} {a1 : List Int} {r : Bool} (h : impl_sameInts a0 a1 = some r) : SoundAt Try.prog 80 [.dat a0.length (a0.flatMap ci64), .dat a1.length (a1.flatMap ci64)] (.bool r) := by
  unfold impl_sameInts at h
  refine sound_lit tbOk lit80 (Nat.le_of_ble_eq_true rfl) rfl ?_
  unfold c80
  refine ls_keep [(0, .dat a0.length (a0.flatMap ci64)), (1, .dat a1.length (a1.flatMap ci64))] ⟨kr, kr, trivial⟩ rfl ?_
  refine ls_rs tbOk ?_
  refine evs (ev_ac rfl nofun rfl (evn ?_))
  refine ls_keep [(0, .dat a0.length (a0.flatMap ci64)), (1, .dat a1.length (a1.flatMap ci64))] ⟨kr, kr, trivial⟩ rfl ?_
  refine ls_seq_k fun K1 hK1 => ?_
  refine ls_rs tbOk ?_
  refine evs (ev_mv (c := .dat a0.length (a0.flatMap ci64)) rfl rfl rfl (evs (ev_len (c1 := .dat a0.length (a0.flatMap ci64)) rfl rfl rfl (evs (ev_mv (c := .dat a1.length (a1.flatMap ci64)) rfl rfl rfl (evs (ev_len (c1 := .dat a1.length (a1.flatMap ci64)) rfl rfl rfl (evs (ev_bin (c1 := .int .i64 (List.length a0 : Int)) (c2 := .int .i64 (List.length a1 : Int)) rfl rfl rfl (evn ?_))))))))))
  refine ls_keep [(0, .dat a0.length (a0.flatMap ci64)), (1, .dat a1.length (a1.flatMap ci64)), (10, .bool ((List.length a0 : Int) != (List.length a1 : Int)))] ⟨kr, kr, kr, trivial⟩ rfl ?_
  rcases cond_some h with ⟨g2, h⟩ | ⟨g2, h⟩
  · refine ls_cT rfl g2 ?_
    refine ls_rs tbOk ?_
    refine evs (ev_ac rfl nofun rfl (evn ?_))
    refine ls_keep [(4, .bool false)] ⟨kr, trivial⟩ rfl ?_
    refine ls_ret ?_
    have hr := Option.some.inj h
    rw [← hr]
    exact ⟨.inl rfl, rfl⟩
  · refine ls_cF rfl g2 ?_
    refine ls_skip ?_
    refine hK1 _ (ls_keep [(0, .dat a0.length (a0.flatMap ci64)), (1, .dat a1.length (a1.flatMap ci64))] ⟨kr, kr, trivial⟩ rfl ?_)
    refine ls_seq_k fun K3 hK3 => ?_
    refine ls_rs tbOk ?_
    refine evs (ev_mv (c := .dat a0.length (a0.flatMap ci64)) rfl rfl rfl (evs (ev_len (c1 := .dat a0.length (a0.flatMap ci64)) rfl rfl rfl (evs (ev_mc rfl rfl (evn ?_))))))
    refine ls_keep [(0, .dat a0.length (a0.flatMap ci64)), (1, .dat a1.length (a1.flatMap ci64)), (12, .int .i64 (List.length a0 : Int)), (13, .int .i64 0)] ⟨kr, kr, kr, kr, trivial⟩ rfl ?_
    obtain ⟨o1, hl, hr1⟩ := ob_some h
    clear h
    have kXimpl_sameInts_B1 : ∀ (_ : Unit), (some true) = some r → ∀ σ' : PS, okK σ' [] → K3 σ' := by
      intro _ h σ' hk
      refine hK3 _ (ls_keep [] hk rfl ?_)
      refine ls_rs tbOk ?_
      refine evs (ev_ac rfl nofun rfl (evn ?_))
      refine ls_keep [(4, .bool true)] ⟨kr, trivial⟩ rfl ?_
      refine ls_ret ?_
      have hr := Option.some.inj h
      rw [← hr]
      exact ⟨.inl rfl, rfl⟩
    refine ls_rec (fun (y1 : Int) => [(0, .dat a0.length (a0.flatMap ci64)), (1, .dat a1.length (a1.flatMap ci64)), (12, .int .i64 (List.length a0 : Int)), (13, .int .i64 y1)]) (impl_sameInts_B1 a0 a1) fz 0 o1 hl ⟨kr, kr, kr, kr, trivial⟩ (fun _ => rfl) ?_
    rintro m y1 N h hN
    unfold impl_sameInts_B1 at h
    refine ls_rs tbOk ?_
    refine evs (ev_bin (c1 := .int .i64 y1) (c2 := .int .i64 (List.length a0 : Int)) rfl rfl rfl (evn ?_))
    refine ls_keep [(0, .dat a0.length (a0.flatMap ci64)), (1, .dat a1.length (a1.flatMap ci64)), (12, .int .i64 (List.length a0 : Int)), (13, .int .i64 y1), (14, .bool (decide (y1 < (List.length a0 : Int))))] ⟨kr, kr, kr, kr, kr, trivial⟩ rfl ?_
    refine ls_seq_k fun K4 hK4 => ?_
    rcases cond_some h with ⟨g5, h⟩ | ⟨g5, h⟩
    · refine ls_cT rfl g5 ?_
      refine ls_skip ?_
      refine hK4 _ (ls_keep [(0, .dat a0.length (a0.flatMap ci64)), (1, .dat a1.length (a1.flatMap ci64)), (12, .int .i64 (List.length a0 : Int)), (13, .int .i64 y1)] ⟨kr, kr, kr, kr, trivial⟩ rfl ?_)
      refine ls_seq_k fun K6 hK6 => ?_
      refine ls_blk ?_
      refine ls_rs tbOk ?_
      refine evs (ev_mv (c := .int .i64 y1) rfl rfl rfl (evs (ev_as (c := .int .i64 y1) rfl rfl rfl (evn ?_))))
      refine ls_keep [(0, .dat a0.length (a0.flatMap ci64)), (1, .dat a1.length (a1.flatMap ci64)), (5, .int .i64 y1), (12, .int .i64 (List.length a0 : Int)), (13, .int .i64 y1)] ⟨kr, kr, kr, kr, kr, trivial⟩ rfl ?_
      refine ls_rd tbOk mixed (by kernel_rfl) ?_
      refine evd rfl rfl (ev_mv (c := .dat a0.length (a0.flatMap ci64)) rfl rfl rfl (evd rfl rfl (ev_mv (c := .int .i64 y1) rfl rfl rfl (?_))))
      obtain ⟨e7, g8, h⟩ := ob_some h
      refine evd rfl rfl (ev_ia rfl rfl rfl ⟨(geti_some g8).1, (geti_some g8).2.1⟩ (evd rfl rfl (ev_ldE (i := y1) (n := 1) (off := 0) (v := .int .i64 e7) rfl rfl zci64 g8 rfl (Nat.le_of_ble_eq_true rfl) rfl (evd rfl rfl (ev_mv (c := .dat a1.length (a1.flatMap ci64)) rfl rfl rfl (evd rfl rfl (ev_mv (c := .int .i64 y1) rfl rfl rfl (?_))))))))
      obtain ⟨e9, g10, h⟩ := ob_some h
      refine evd rfl rfl (ev_ia rfl rfl rfl ⟨(geti_some g10).1, (geti_some g10).2.1⟩ (evd rfl rfl (ev_ldE (i := y1) (n := 1) (off := 0) (v := .int .i64 e9) rfl rfl zci64 g10 rfl (Nat.le_of_ble_eq_true rfl) rfl (evd rfl rfl (ev_bin (c1 := .int .i64 e7) (c2 := .int .i64 e9) rfl rfl rfl (evdn ?_))))))
      refine ls_keep [(0, .dat a0.length (a0.flatMap ci64)), (1, .dat a1.length (a1.flatMap ci64)), (12, .int .i64 (List.length a0 : Int)), (13, .int .i64 y1), (24, .bool (e7 != e9))] ⟨kr, kr, kr, kr, kr, trivial⟩ rfl ?_
      rcases cond_some h with ⟨g11, h⟩ | ⟨g11, h⟩
      · refine ls_cT rfl g11 ?_
        refine ls_rs tbOk ?_
        refine evs (ev_ac rfl nofun rfl (evn ?_))
        refine ls_keep [(4, .bool false)] ⟨kr, trivial⟩ rfl ?_
        refine ls_ret ?_
        have q0 := (Option.some.inj h).symm
        have r0 := hr1
        rw [q0] at r0
        have hr := Option.some.inj r0
        rw [← hr]
        exact ⟨.inl rfl, rfl⟩
      · refine ls_cF rfl g11 ?_
        refine ls_skip ?_
        refine hK6 _ (ls_keep [(0, .dat a0.length (a0.flatMap ci64)), (1, .dat a1.length (a1.flatMap ci64)), (12, .int .i64 (List.length a0 : Int)), (13, .int .i64 y1)] ⟨kr, kr, kr, kr, trivial⟩ rfl ?_)
        refine ls_rgn tbOk ?_
        refine evs (ev_bin (c1 := .int .i64 y1) (c2 := .int .i64 1) rfl rfl rfl (evs (ev_mv (c := .int .i64 (IntKind.i64.wrap (y1 + 1))) rfl rfl rfl (evn ?_))))
        exact hN _ (IntKind.i64.wrap (y1 + 1)) h ⟨kr, kr, kr, kr, trivial⟩
    · refine ls_cF rfl g5 ?_
      refine ls_exit ?_
      have q0 := (Option.some.inj h).symm
      have r0 := hr1
      rw [q0] at r0
      exact kXimpl_sameInts_B1 () r0 _ trivial
def impl_pick_B1 (a0 : List Int) (a1 : List Int) (rec : ((List Int) × Int) → Option ((List Int))) (s : (List Int) × Int) : Option ((List Int)) := match s with
  | (y1, y2) => cond (decide (y2 < (List.length a1 : Int))) (obind (geti a1 y2) fun e6 => obind (geti a0 e6) fun e8 => chk (List.length y1 + List.length [e8] ≤ lim) (rec ((y1 ++ [e8]), (IntKind.i64.wrap (y2 + 1))))) (some y1)
def impl_pick (a0 : List Int) (a1 : List Int) : Option ((List Int)) := obind (loopF (impl_pick_B1 a0 a1) fz (([] : List Int), 0)) fun z2 => some z2
theorem impl_pick_s {a0 : List Int} {a1 : List Int} {r : (List Int)} (h : impl_pick a0 a1 = some r) : SoundAt Try.prog 81 [.dat a0.length (a0.flatMap ci64), .dat a1.length (a1.flatMap ci64)] (.own 3 r.length (r.flatMap ci64)) := by
  unfold impl_pick at h
  refine sound_lit tbOk lit81 (Nat.le_of_ble_eq_true rfl) rfl ?_
  unfold c81
  refine ls_keep [(0, .dat a0.length (a0.flatMap ci64)), (1, .dat a1.length (a1.flatMap ci64))] ⟨kr, kr, trivial⟩ rfl ?_
  refine ls_rs tbOk ?_
  refine evs (ev_an rfl rfl (evn ?_))
  refine ls_keep [(0, .dat a0.length (a0.flatMap ci64)), (1, .dat a1.length (a1.flatMap ci64))] ⟨kr, kr, trivial⟩ rfl ?_
  refine ls_rs tbOk ?_
  refine evs (ev_bs [] (cs := []) rfl trivial rfl (Nat.le_of_ble_eq_true rfl) rfl (evs (ev_as (c := .own 3 ([] : List Int).length (([] : List Int).flatMap ci64)) rfl rfl rfl (evn ?_))))
  refine ls_keep [(0, .dat a0.length (a0.flatMap ci64)), (1, .dat a1.length (a1.flatMap ci64)), (5, .own 3 ([] : List Int).length (([] : List Int).flatMap ci64))] ⟨kr, kr, kr, trivial⟩ rfl ?_
  refine ls_seq_k fun K1 hK1 => ?_
  refine ls_rs tbOk ?_
  refine evs (ev_mv (c := .dat a1.length (a1.flatMap ci64)) rfl rfl rfl (evs (ev_len (c1 := .dat a1.length (a1.flatMap ci64)) rfl rfl rfl (evs (ev_mc rfl rfl (evn ?_))))))
  refine ls_keep [(0, .dat a0.length (a0.flatMap ci64)), (5, .own 3 ([] : List Int).length (([] : List Int).flatMap ci64)), (9, .dat a1.length (a1.flatMap ci64)), (10, .int .i64 (List.length a1 : Int)), (11, .int .i64 0)] ⟨kr, kr, kr, kr, kr, trivial⟩ rfl ?_
  obtain ⟨o1, hl, hr1⟩ := ob_some h
  clear h
  have kXimpl_pick_B1 : ∀ (z2 : List Int), (some z2) = some r → ∀ σ' : PS, okK σ' [(5, .own 3 z2.length (z2.flatMap ci64))] → K1 σ' := by
    intro z2 h σ' hk
    refine hK1 _ (ls_keep [(5, .own 3 z2.length (z2.flatMap ci64))] hk rfl ?_)
    refine ls_rs tbOk ?_
    refine evs (ev_mvt (c := .own 3 z2.length (z2.flatMap ci64)) rfl rfl rfl (evs (ev_as (c := .own 3 z2.length (z2.flatMap ci64)) rfl rfl rfl (evn ?_))))
    refine ls_keep [(4, .own 3 z2.length (z2.flatMap ci64))] ⟨kr, trivial⟩ rfl ?_
    refine ls_ret ?_
    have hr := Option.some.inj h
    rw [← hr]
    exact ⟨.inl rfl, rfl⟩
  refine ls_rec (fun (s : (List Int) × Int) => match s with | (y1, y2) => [(0, .dat a0.length (a0.flatMap ci64)), (5, .own 3 y1.length (y1.flatMap ci64)), (9, .dat a1.length (a1.flatMap ci64)), (10, .int .i64 (List.length a1 : Int)), (11, .int .i64 y2)]) (impl_pick_B1 a0 a1) fz (([] : List Int), 0) o1 hl ⟨kr, kr, kr, kr, kr, trivial⟩ (fun _ => rfl) ?_
  rintro m ⟨y1, y2⟩ N h hN
  unfold impl_pick_B1 at h
  dsimp only at h
  refine ls_rs tbOk ?_
  refine evs (ev_bin (c1 := .int .i64 y2) (c2 := .int .i64 (List.length a1 : Int)) rfl rfl rfl (evn ?_))
  refine ls_keep [(0, .dat a0.length (a0.flatMap ci64)), (5, .own 3 y1.length (y1.flatMap ci64)), (9, .dat a1.length (a1.flatMap ci64)), (10, .int .i64 (List.length a1 : Int)), (11, .int .i64 y2), (12, .bool (decide (y2 < (List.length a1 : Int))))] ⟨kr, kr, kr, kr, kr, kr, trivial⟩ rfl ?_
  refine ls_seq_k fun K3 hK3 => ?_
  rcases cond_some h with ⟨g4, h⟩ | ⟨g4, h⟩
  · refine ls_cT rfl g4 ?_
    refine ls_skip ?_
    refine hK3 _ (ls_keep [(0, .dat a0.length (a0.flatMap ci64)), (5, .own 3 y1.length (y1.flatMap ci64)), (9, .dat a1.length (a1.flatMap ci64)), (10, .int .i64 (List.length a1 : Int)), (11, .int .i64 y2)] ⟨kr, kr, kr, kr, kr, trivial⟩ rfl ?_)
    refine ls_seq_k fun K5 hK5 => ?_
    refine ls_blk ?_
    refine ls_rs tbOk ?_
    obtain ⟨e6, g7, h⟩ := ob_some h
    refine evs (ev_ia rfl rfl rfl ⟨(geti_some g7).1, (geti_some g7).2.1⟩ (evs (ev_ldE (i := y2) (n := 1) (off := 0) (v := .int .i64 e6) rfl rfl zci64 g7 rfl (Nat.le_of_ble_eq_true rfl) rfl (evs (ev_as (c := .int .i64 e6) rfl rfl rfl (evn ?_))))))
    refine ls_keep [(0, .dat a0.length (a0.flatMap ci64)), (5, .own 3 y1.length (y1.flatMap ci64)), (7, .int .i64 e6), (9, .dat a1.length (a1.flatMap ci64)), (10, .int .i64 (List.length a1 : Int)), (11, .int .i64 y2)] ⟨kr, kr, kr, kr, kr, kr, trivial⟩ rfl ?_
    refine ls_rgn tbOk ?_
    refine evs (ev_mvt (c := .own 3 y1.length (y1.flatMap ci64)) rfl rfl rfl (evs (ev_mv (c := .dat a0.length (a0.flatMap ci64)) rfl rfl rfl (evs (ev_mv (c := .int .i64 e6) rfl rfl rfl (?_))))))
    obtain ⟨e8, g9, h⟩ := ob_some h
    refine evs (ev_ia rfl rfl rfl ⟨(geti_some g9).1, (geti_some g9).2.1⟩ (evs (ev_ldE (i := e6) (n := 1) (off := 0) (v := .int .i64 e8) rfl rfl zci64 g9 rfl (Nat.le_of_ble_eq_true rfl) rfl (evs (ev_bs [.int .i64 e8] (cs := [.int .i64 e8]) rfl ⟨rfl, trivial⟩ rfl (Nat.le_of_ble_eq_true rfl) rfl (?_))))))
    obtain ⟨g10, h⟩ := chk_some h
    refine evs (ev_app (f := ci64) (l := y1) (m := [e8]) (c2 := .own 3 [e8].length ([e8].flatMap ci64)) rfl rfl rfl (flat_len zci64 [e8]) rfl rfl g10 rfl (evs (ev_as (c := .own 3 (y1 ++ [e8]).length ((y1 ++ [e8]).flatMap ci64)) rfl rfl rfl (evn ?_))))
    refine hK5 _ (ls_keep [(0, .dat a0.length (a0.flatMap ci64)), (5, .own 3 (y1 ++ [e8]).length ((y1 ++ [e8]).flatMap ci64)), (9, .dat a1.length (a1.flatMap ci64)), (10, .int .i64 (List.length a1 : Int)), (11, .int .i64 y2)] ⟨kr, kr, kr, kr, kr, trivial⟩ rfl ?_)
    refine ls_rgn tbOk ?_
    refine evs (ev_bin (c1 := .int .i64 y2) (c2 := .int .i64 1) rfl rfl rfl (evs (ev_mv (c := .int .i64 (IntKind.i64.wrap (y2 + 1))) rfl rfl rfl (evn ?_))))
    exact hN _ ((y1 ++ [e8]), (IntKind.i64.wrap (y2 + 1))) h ⟨kr, kr, kr, kr, kr, trivial⟩
  · refine ls_cF rfl g4 ?_
    refine ls_exit ?_
    have q0 := (Option.some.inj h).symm
    have r0 := hr1
    rw [q0] at r0
    exact kXimpl_pick_B1 y1 r0 _ ⟨kr, trivial⟩
def impl_FDViolation_J3 (rec : Int → Option (Sum (Unit) ((List Int)))) (y2 : Int) (y4 : Int) (x20 : Bool) : Option (Sum (Unit) ((List Int))) := cond x20 (some (.inr [y4, y2])) (rec (IntKind.i64.wrap (y4 + 1)))
def impl_FDViolation_B2 (a1 : (List UInt8) × (List Int) × Int) (v5 : (Int × (List (List Int))) × Bool) (y2 : Int) (e11 : List Int) (rec : Int → Option (Sum (Unit) ((List Int)))) (y4 : Int) : Option (Sum (Unit) ((List Int))) := cond (decide (y4 < (List.length (subl v5.1.2 0 y2) : Int))) (obind (geti (subl v5.1.2 0 y2) y4) fun e17 => obind (geti e17 a1.2.2) fun e22 => obind (geti e11 a1.2.2) fun e24 => cond (e22 != e24) (obind (impl_pick e17 a1.2.1) fun v27 => obind (impl_pick e11 a1.2.1) fun v29 => obind (impl_sameInts v27 v29) fun v31 => impl_FDViolation_J3 rec y2 y4 v31) (impl_FDViolation_J3 rec y2 y4 false)) (some (.inl ()))
def impl_FDViolation_B1 (a1 : (List UInt8) × (List Int) × Int) (v5 : (Int × (List (List Int))) × Bool) (rec : Int → Option (Sum (Unit) ((List Int)))) (y2 : Int) : Option (Sum (Unit) ((List Int))) := cond (decide (y2 < (List.length v5.1.2 : Int))) (obind (geti v5.1.2 y2) fun e11 => chk ((0 : Int) ≤ 0 ∧ 0 ≤ y2 ∧ y2 ≤ (List.length v5.1.2 : Int)) (obind (loopF (impl_FDViolation_B2 a1 v5 y2 e11) fz 0) fun o2 => (match o2 with
  | .inl _ => (rec (IntKind.i64.wrap (y2 + 1)))
  | .inr r => some (.inr r)))) (some (.inl ()))
def impl_FDViolation (a0 : (List ((List UInt8) × (Int × (List (List Int)))))) (a1 : (List UInt8) × (List Int) × Int) : Option ((List Int)) := obind (impl_IsValidFD a0 a1) fun v2 => cond (!v2) (some ([] : List Int)) (obind (impl_LookupRelation a0 a1.1) fun v5 => obind (loopF (impl_FDViolation_B1 a1 v5) fz 0) fun o1 => (match o1 with
  | .inl _ => (some ([] : List Int))
  | .inr r => some r))
theorem impl_FDViolation_s {a0 : (List ((List UInt8) × (Int × (List (List Int)))))} {a1 : (List UInt8) × (List Int) × Int} {r : (List Int)} (h : impl_FDViolation a0 a1 = some r) : SoundAt Try.prog 18 [.agg [.dat a0.length (a0.flatMap c208_dd)], .agg [.str a1.1, .dat a1.2.1.length (a1.2.1.flatMap ci64), .int .i64 a1.2.2]] (.own 3 r.length (r.flatMap ci64)) := by
  unfold impl_FDViolation at h
  refine sound_lit tbOk lit18 (Nat.le_of_ble_eq_true rfl) rfl ?_
  unfold c18
  refine ls_keep [(0, .agg [.dat a0.length (a0.flatMap c208_dd)]), (1, .agg [.str a1.1, .dat a1.2.1.length (a1.2.1.flatMap ci64), .int .i64 a1.2.2])] ⟨kr, kr, trivial⟩ rfl ?_
  refine ls_rs tbOk ?_
  refine evs (ev_bx (c1 := .agg [.dat a0.length (a0.flatMap c208_dd)]) rfl rfl rfl (evs (ev_bx (c1 := .agg [.str a1.1, .dat a1.2.1.length (a1.2.1.flatMap ci64), .int .i64 a1.2.2]) rfl rfl rfl (evs (ev_an rfl rfl (evn ?_))))))
  refine ls_keep [(2, .box [.dat a0.length (a0.flatMap c208_dd)]), (3, .box [.str a1.1, .dat a1.2.1.length (a1.2.1.flatMap ci64), .int .i64 a1.2.2])] ⟨kr, kr, trivial⟩ rfl ?_
  refine ls_seq_k fun K1 hK1 => ?_
  refine ls_rs tbOk ?_
  refine evs (ev_ldB (off := 0) (v := .agg [.dat a0.length (a0.flatMap c208_dd)]) rfl rfl rfl rfl (Nat.le_of_ble_eq_true rfl) rfl (evs (ev_ldB (off := 0) (v := .agg [.str a1.1, .dat a1.2.1.length (a1.2.1.flatMap ci64), .int .i64 a1.2.2]) rfl rfl rfl rfl (Nat.le_of_ble_eq_true rfl) rfl (?_))))
  obtain ⟨v2, g3, h⟩ := ob_some h
  refine evs (ev_call (era rfl (erg (erc (erD ec208_dd _) rfl)) (era rfl (erg (erc rfl (erc (erD eci64 _) (erc rfl rfl)))) eran)) (impl_IsValidFD_s g3) (evs (ev_un (c1 := .bool v2) rfl trivial (evn ?_))))
  refine ls_keep [(2, .box [.dat a0.length (a0.flatMap c208_dd)]), (3, .box [.str a1.1, .dat a1.2.1.length (a1.2.1.flatMap ci64), .int .i64 a1.2.2]), (14, .bool (!v2))] ⟨kr, kr, kr, trivial⟩ rfl ?_
  rcases cond_some h with ⟨g4, h⟩ | ⟨g4, h⟩
  · refine ls_cT rfl g4 ?_
    refine ls_rs tbOk ?_
    refine evs (ev_an rfl rfl (evn ?_))
    refine ls_keep [(4, .own 3 ([] : List Int).length (([] : List Int).flatMap ci64))] ⟨kr, trivial⟩ rfl ?_
    refine ls_ret ?_
    have hr := Option.some.inj h
    rw [← hr]
    exact ⟨.inl rfl, rfl⟩
  · refine ls_cF rfl g4 ?_
    refine ls_skip ?_
    refine hK1 _ (ls_keep [(2, .box [.dat a0.length (a0.flatMap c208_dd)]), (3, .box [.str a1.1, .dat a1.2.1.length (a1.2.1.flatMap ci64), .int .i64 a1.2.2])] ⟨kr, kr, trivial⟩ rfl ?_)
    refine ls_rs tbOk ?_
    refine evs (ev_ldB (off := 0) (v := .agg [.dat a0.length (a0.flatMap c208_dd)]) rfl rfl rfl rfl (Nat.le_of_ble_eq_true rfl) rfl (evs (ev_fa (c1 := .cref 3 0) (v := .cref 3 0) rfl rfl rfl ⟨_, rfl⟩ rfl (evs (ev_ldB (off := 0) (v := .str a1.1) rfl rfl rfl rfl (Nat.le_of_ble_eq_true rfl) rfl (?_))))))
    obtain ⟨v5, g6, h⟩ := ob_some h
    refine evs (ev_call (era rfl (erg (erc (erD ec208_dd _) rfl)) (era rfl rfl eran)) (impl_LookupRelation_s g6) (evs (ev_mvt (c := .tup [.agg [.int .i64 v5.1.1, .own 25 v5.1.2.length (v5.1.2.flatMap c25_o)], .bool v5.2]) rfl rfl rfl (evs (ev_ext rfl rfl rfl rfl (evs (ev_ext rfl rfl rfl rfl (evs (ev_al rfl rfl (evs (ev_st (off := 0) (c1 := .agg [.int .i64 v5.1.1, .own 25 v5.1.2.length (v5.1.2.flatMap c25_o)]) (cs' := [.int .i64 v5.1.1, .own 25 v5.1.2.length (v5.1.2.flatMap c25_o)]) rfl rfl rfl rfl rfl rfl (Nat.le_of_ble_eq_true rfl) rfl (evs (ev_as (c := .bool v5.2) rfl rfl rfl (evn ?_))))))))))))))
    refine ls_keep [(3, .box [.str a1.1, .dat a1.2.1.length (a1.2.1.flatMap ci64), .int .i64 a1.2.2]), (5, .box [.int .i64 v5.1.1, .own 25 v5.1.2.length (v5.1.2.flatMap c25_o)])] ⟨kr, kr, trivial⟩ rfl ?_
    refine ls_seq_k fun K7 hK7 => ?_
    refine ls_rs tbOk ?_
    refine evs (ev_fa (c1 := .cref 5 0) (v := .cref 5 1) rfl rfl rfl ⟨_, rfl⟩ rfl (evs (ev_ldB (off := 1) (v := .dat v5.1.2.length (v5.1.2.flatMap c25_o)) rfl rfl rfl rfl (Nat.le_of_ble_eq_true rfl) rfl (evs (ev_len (c1 := .dat v5.1.2.length (v5.1.2.flatMap c25_o)) rfl rfl rfl (evs (ev_mc rfl rfl (evn ?_))))))))
    refine ls_keep [(3, .box [.str a1.1, .dat a1.2.1.length (a1.2.1.flatMap ci64), .int .i64 a1.2.2]), (5, .box [.int .i64 v5.1.1, .own 25 v5.1.2.length (v5.1.2.flatMap c25_o)]), (23, .dat v5.1.2.length (v5.1.2.flatMap c25_o)), (24, .int .i64 (List.length v5.1.2 : Int)), (25, .int .i64 0)] ⟨kr, kr, kr, kr, kr, trivial⟩ rfl ?_
    obtain ⟨o1, hl, hr1⟩ := ob_some h
    clear h
    have kXimpl_FDViolation_B1 : ∀ (_ : Unit), (some ([] : List Int)) = some r → ∀ σ' : PS, okK σ' [] → K7 σ' := by
      intro _ h σ' hk
      refine hK7 _ (ls_keep [] hk rfl ?_)
      refine ls_rs tbOk ?_
      refine evs (ev_an rfl rfl (evn ?_))
      refine ls_keep [(4, .own 3 ([] : List Int).length (([] : List Int).flatMap ci64))] ⟨kr, trivial⟩ rfl ?_
      refine ls_ret ?_
      have hr := Option.some.inj h
      rw [← hr]
      exact ⟨.inl rfl, rfl⟩
    refine ls_rec (fun (y2 : Int) => [(3, .box [.str a1.1, .dat a1.2.1.length (a1.2.1.flatMap ci64), .int .i64 a1.2.2]), (5, .box [.int .i64 v5.1.1, .own 25 v5.1.2.length (v5.1.2.flatMap c25_o)]), (23, .dat v5.1.2.length (v5.1.2.flatMap c25_o)), (24, .int .i64 (List.length v5.1.2 : Int)), (25, .int .i64 y2)]) (impl_FDViolation_B1 a1 v5) fz 0 o1 hl ⟨kr, kr, kr, kr, kr, trivial⟩ (fun _ => rfl) ?_
    rintro m y2 N h hN
    unfold impl_FDViolation_B1 at h
    refine ls_rs tbOk ?_
    refine evs (ev_bin (c1 := .int .i64 y2) (c2 := .int .i64 (List.length v5.1.2 : Int)) rfl rfl rfl (evn ?_))
    refine ls_keep [(3, .box [.str a1.1, .dat a1.2.1.length (a1.2.1.flatMap ci64), .int .i64 a1.2.2]), (5, .box [.int .i64 v5.1.1, .own 25 v5.1.2.length (v5.1.2.flatMap c25_o)]), (23, .dat v5.1.2.length (v5.1.2.flatMap c25_o)), (24, .int .i64 (List.length v5.1.2 : Int)), (25, .int .i64 y2), (26, .bool (decide (y2 < (List.length v5.1.2 : Int))))] ⟨kr, kr, kr, kr, kr, kr, trivial⟩ rfl ?_
    refine ls_seq_k fun K8 hK8 => ?_
    rcases cond_some h with ⟨g9, h⟩ | ⟨g9, h⟩
    · refine ls_cT rfl g9 ?_
      refine ls_skip ?_
      refine hK8 _ (ls_keep [(3, .box [.str a1.1, .dat a1.2.1.length (a1.2.1.flatMap ci64), .int .i64 a1.2.2]), (5, .box [.int .i64 v5.1.1, .own 25 v5.1.2.length (v5.1.2.flatMap c25_o)]), (23, .dat v5.1.2.length (v5.1.2.flatMap c25_o)), (24, .int .i64 (List.length v5.1.2 : Int)), (25, .int .i64 y2)] ⟨kr, kr, kr, kr, kr, trivial⟩ rfl ?_)
      refine ls_seq_k fun K10 hK10 => ?_
      refine ls_blk ?_
      refine ls_rs tbOk ?_
      refine evs (ev_mv (c := .int .i64 y2) rfl rfl rfl (?_))
      obtain ⟨e11, g12, h⟩ := ob_some h
      refine evs (ev_ia rfl rfl rfl ⟨(geti_some g12).1, (geti_some g12).2.1⟩ (evs (ev_ldEt (i := y2) (n := 1) (off := 0) (v := .dat e11.length (e11.flatMap ci64)) rfl rfl zc25_o g12 rfl (Nat.le_of_ble_eq_true rfl) rfl (evs (ev_as (c := .int .i64 y2) rfl rfl rfl (evs (ev_as (c := .dat e11.length (e11.flatMap ci64)) rfl rfl rfl (evn ?_))))))))
      refine ls_keep [(3, .box [.str a1.1, .dat a1.2.1.length (a1.2.1.flatMap ci64), .int .i64 a1.2.2]), (5, .box [.int .i64 v5.1.1, .own 25 v5.1.2.length (v5.1.2.flatMap c25_o)]), (7, .int .i64 y2), (8, .dat e11.length (e11.flatMap ci64)), (23, .dat v5.1.2.length (v5.1.2.flatMap c25_o)), (24, .int .i64 (List.length v5.1.2 : Int)), (25, .int .i64 y2)] ⟨kr, kr, kr, kr, kr, kr, kr, trivial⟩ rfl ?_
      refine ls_rs tbOk ?_
      refine evs (ev_fa (c1 := .cref 5 0) (v := .cref 5 1) rfl rfl rfl ⟨_, rfl⟩ rfl (evs (ev_ldB (off := 1) (v := .dat v5.1.2.length (v5.1.2.flatMap c25_o)) rfl rfl rfl rfl (Nat.le_of_ble_eq_true rfl) rfl (evs (ev_mv (c := .int .i64 y2) rfl rfl rfl (?_))))))
      obtain ⟨g13, h⟩ := chk_some h
      refine evs (ev_sle (lst := v5.1.2) rfl rfl zc25_o rfl rfl g13 (evs (ev_len (c1 := .dat (subl v5.1.2 0 y2).length ((subl v5.1.2 0 y2).flatMap c25_o)) rfl rfl rfl (evs (ev_mc rfl rfl (evn ?_))))))
      refine ls_keep [(3, .box [.str a1.1, .dat a1.2.1.length (a1.2.1.flatMap ci64), .int .i64 a1.2.2]), (5, .box [.int .i64 v5.1.1, .own 25 v5.1.2.length (v5.1.2.flatMap c25_o)]), (7, .int .i64 y2), (8, .dat e11.length (e11.flatMap ci64)), (23, .dat v5.1.2.length (v5.1.2.flatMap c25_o)), (24, .int .i64 (List.length v5.1.2 : Int)), (25, .int .i64 y2), (33, .dat (subl v5.1.2 0 y2).length ((subl v5.1.2 0 y2).flatMap c25_o)), (34, .int .i64 (List.length (subl v5.1.2 0 y2) : Int)), (35, .int .i64 0)] ⟨kr, kr, kr, kr, kr, kr, kr, kr, kr, kr, trivial⟩ rfl ?_
      obtain ⟨o2, hl, hr2⟩ := ob_some h
      clear h
      have kXimpl_FDViolation_B2 : ∀ (_ : Unit), ((loopF (impl_FDViolation_B1 a1 v5) m) (IntKind.i64.wrap (y2 + 1))) = some o1 → ∀ σ' : PS, okK σ' [(3, .box [.str a1.1, .dat a1.2.1.length (a1.2.1.flatMap ci64), .int .i64 a1.2.2]), (5, .box [.int .i64 v5.1.1, .own 25 v5.1.2.length (v5.1.2.flatMap c25_o)]), (23, .dat v5.1.2.length (v5.1.2.flatMap c25_o)), (24, .int .i64 (List.length v5.1.2 : Int)), (25, .int .i64 y2)] → K10 σ' := by
        intro _ h σ' hk
        refine hK10 _ (ls_keep [(3, .box [.str a1.1, .dat a1.2.1.length (a1.2.1.flatMap ci64), .int .i64 a1.2.2]), (5, .box [.int .i64 v5.1.1, .own 25 v5.1.2.length (v5.1.2.flatMap c25_o)]), (23, .dat v5.1.2.length (v5.1.2.flatMap c25_o)), (24, .int .i64 (List.length v5.1.2 : Int)), (25, .int .i64 y2)] hk rfl ?_)
        refine ls_rgn tbOk ?_
        refine evs (ev_bin (c1 := .int .i64 y2) (c2 := .int .i64 1) rfl rfl rfl (evs (ev_mv (c := .int .i64 (IntKind.i64.wrap (y2 + 1))) rfl rfl rfl (evn ?_))))
        exact hN _ (IntKind.i64.wrap (y2 + 1)) h ⟨kr, kr, kr, kr, kr, trivial⟩
      refine ls_rec (fun (y4 : Int) => [(3, .box [.str a1.1, .dat a1.2.1.length (a1.2.1.flatMap ci64), .int .i64 a1.2.2]), (5, .box [.int .i64 v5.1.1, .own 25 v5.1.2.length (v5.1.2.flatMap c25_o)]), (7, .int .i64 y2), (8, .dat e11.length (e11.flatMap ci64)), (23, .dat v5.1.2.length (v5.1.2.flatMap c25_o)), (24, .int .i64 (List.length v5.1.2 : Int)), (25, .int .i64 y2), (33, .dat (subl v5.1.2 0 y2).length ((subl v5.1.2 0 y2).flatMap c25_o)), (34, .int .i64 (List.length (subl v5.1.2 0 y2) : Int)), (35, .int .i64 y4)]) (impl_FDViolation_B2 a1 v5 y2 e11) fz 0 o2 hl ⟨kr, kr, kr, kr, kr, kr, kr, kr, kr, kr, trivial⟩ (fun _ => rfl) ?_
      rintro m y4 N h hN
      unfold impl_FDViolation_B2 at h
      refine ls_rs tbOk ?_
      refine evs (ev_bin (c1 := .int .i64 y4) (c2 := .int .i64 (List.length (subl v5.1.2 0 y2) : Int)) rfl rfl rfl (evn ?_))
      refine ls_keep [(3, .box [.str a1.1, .dat a1.2.1.length (a1.2.1.flatMap ci64), .int .i64 a1.2.2]), (5, .box [.int .i64 v5.1.1, .own 25 v5.1.2.length (v5.1.2.flatMap c25_o)]), (7, .int .i64 y2), (8, .dat e11.length (e11.flatMap ci64)), (23, .dat v5.1.2.length (v5.1.2.flatMap c25_o)), (24, .int .i64 (List.length v5.1.2 : Int)), (25, .int .i64 y2), (33, .dat (subl v5.1.2 0 y2).length ((subl v5.1.2 0 y2).flatMap c25_o)), (34, .int .i64 (List.length (subl v5.1.2 0 y2) : Int)), (35, .int .i64 y4), (36, .bool (decide (y4 < (List.length (subl v5.1.2 0 y2) : Int))))] ⟨kr, kr, kr, kr, kr, kr, kr, kr, kr, kr, kr, trivial⟩ rfl ?_
      refine ls_seq_k fun K14 hK14 => ?_
      rcases cond_some h with ⟨g15, h⟩ | ⟨g15, h⟩
      · refine ls_cT rfl g15 ?_
        refine ls_skip ?_
        refine hK14 _ (ls_keep [(3, .box [.str a1.1, .dat a1.2.1.length (a1.2.1.flatMap ci64), .int .i64 a1.2.2]), (5, .box [.int .i64 v5.1.1, .own 25 v5.1.2.length (v5.1.2.flatMap c25_o)]), (7, .int .i64 y2), (8, .dat e11.length (e11.flatMap ci64)), (23, .dat v5.1.2.length (v5.1.2.flatMap c25_o)), (24, .int .i64 (List.length v5.1.2 : Int)), (25, .int .i64 y2), (33, .dat (subl v5.1.2 0 y2).length ((subl v5.1.2 0 y2).flatMap c25_o)), (34, .int .i64 (List.length (subl v5.1.2 0 y2) : Int)), (35, .int .i64 y4)] ⟨kr, kr, kr, kr, kr, kr, kr, kr, kr, kr, trivial⟩ rfl ?_)
        refine ls_seq_k fun K16 hK16 => ?_
        refine ls_blk ?_
        refine ls_rs tbOk ?_
        refine evs (ev_mv (c := .int .i64 y4) rfl rfl rfl (?_))
        obtain ⟨e17, g18, h⟩ := ob_some h
        refine evs (ev_ia rfl rfl rfl ⟨(geti_some g18).1, (geti_some g18).2.1⟩ (evs (ev_ldEt (i := y4) (n := 1) (off := 0) (v := .dat e17.length (e17.flatMap ci64)) rfl rfl zc25_o g18 rfl (Nat.le_of_ble_eq_true rfl) rfl (evs (ev_as (c := .int .i64 y4) rfl rfl rfl (evs (ev_as (c := .dat e17.length (e17.flatMap ci64)) rfl rfl rfl (evn ?_))))))))
        refine ls_keep [(3, .box [.str a1.1, .dat a1.2.1.length (a1.2.1.flatMap ci64), .int .i64 a1.2.2]), (5, .box [.int .i64 v5.1.1, .own 25 v5.1.2.length (v5.1.2.flatMap c25_o)]), (7, .int .i64 y2), (8, .dat e11.length (e11.flatMap ci64)), (9, .int .i64 y4), (10, .dat e17.length (e17.flatMap ci64)), (23, .dat v5.1.2.length (v5.1.2.flatMap c25_o)), (24, .int .i64 (List.length v5.1.2 : Int)), (25, .int .i64 y2), (33, .dat (subl v5.1.2 0 y2).length ((subl v5.1.2 0 y2).flatMap c25_o)), (34, .int .i64 (List.length (subl v5.1.2 0 y2) : Int)), (35, .int .i64 y4)] ⟨kr, kr, kr, kr, kr, kr, kr, kr, kr, kr, kr, kr, trivial⟩ rfl ?_
        refine ls_rd_k tbOk mixed (by kernel_rfl) fun K19 hK19 => ?_
        have kimpl_FDViolation_J3 : ∀ (x20 : Bool), impl_FDViolation_J3 (loopF (impl_FDViolation_B2 a1 v5 y2 e11) m) y2 y4 x20 = some o2 → ∀ σ' : PS, okK σ' [(3, .box [.str a1.1, .dat a1.2.1.length (a1.2.1.flatMap ci64), .int .i64 a1.2.2]), (5, .box [.int .i64 v5.1.1, .own 25 v5.1.2.length (v5.1.2.flatMap c25_o)]), (7, .int .i64 y2), (8, .dat e11.length (e11.flatMap ci64)), (9, .int .i64 y4), (23, .dat v5.1.2.length (v5.1.2.flatMap c25_o)), (24, .int .i64 (List.length v5.1.2 : Int)), (25, .int .i64 y2), (33, .dat (subl v5.1.2 0 y2).length ((subl v5.1.2 0 y2).flatMap c25_o)), (34, .int .i64 (List.length (subl v5.1.2 0 y2) : Int)), (35, .int .i64 y4), (61, .bool x20)] → K19 σ' := by
          intro x20 h σ' hk
          unfold impl_FDViolation_J3 at h
          refine hK19 _ (ls_keep [(3, .box [.str a1.1, .dat a1.2.1.length (a1.2.1.flatMap ci64), .int .i64 a1.2.2]), (5, .box [.int .i64 v5.1.1, .own 25 v5.1.2.length (v5.1.2.flatMap c25_o)]), (7, .int .i64 y2), (8, .dat e11.length (e11.flatMap ci64)), (9, .int .i64 y4), (23, .dat v5.1.2.length (v5.1.2.flatMap c25_o)), (24, .int .i64 (List.length v5.1.2 : Int)), (25, .int .i64 y2), (33, .dat (subl v5.1.2 0 y2).length ((subl v5.1.2 0 y2).flatMap c25_o)), (34, .int .i64 (List.length (subl v5.1.2 0 y2) : Int)), (35, .int .i64 y4), (61, .bool x20)] hk rfl ?_)
          rcases cond_some h with ⟨g21, h⟩ | ⟨g21, h⟩
          · refine ls_cT rfl g21 ?_
            refine ls_rs tbOk ?_
            refine evs (ev_mv (c := .int .i64 y4) rfl rfl rfl (evs (ev_mv (c := .int .i64 y2) rfl rfl rfl (evs (ev_bs [.int .i64 y4, .int .i64 y2] (cs := [.int .i64 y4, .int .i64 y2]) rfl ⟨rfl, rfl, trivial⟩ rfl (Nat.le_of_ble_eq_true rfl) rfl (evs (ev_as (c := .own 3 [y4, y2].length ([y4, y2].flatMap ci64)) rfl rfl rfl (evn ?_))))))))
            refine ls_keep [(4, .own 3 [y4, y2].length ([y4, y2].flatMap ci64))] ⟨kr, trivial⟩ rfl ?_
            refine ls_ret ?_
            have q0 := (Option.some.inj h).symm
            have r0 := hr2
            rw [q0] at r0
            have q1 := (Option.some.inj r0).symm
            have r1 := hr1
            rw [q1] at r1
            have hr := Option.some.inj r1
            rw [← hr]
            exact ⟨.inl rfl, rfl⟩
          · refine ls_cF rfl g21 ?_
            refine ls_skip ?_
            refine hK16 _ (ls_keep [(3, .box [.str a1.1, .dat a1.2.1.length (a1.2.1.flatMap ci64), .int .i64 a1.2.2]), (5, .box [.int .i64 v5.1.1, .own 25 v5.1.2.length (v5.1.2.flatMap c25_o)]), (7, .int .i64 y2), (8, .dat e11.length (e11.flatMap ci64)), (23, .dat v5.1.2.length (v5.1.2.flatMap c25_o)), (24, .int .i64 (List.length v5.1.2 : Int)), (25, .int .i64 y2), (33, .dat (subl v5.1.2 0 y2).length ((subl v5.1.2 0 y2).flatMap c25_o)), (34, .int .i64 (List.length (subl v5.1.2 0 y2) : Int)), (35, .int .i64 y4)] ⟨kr, kr, kr, kr, kr, kr, kr, kr, kr, kr, trivial⟩ rfl ?_)
            refine ls_rgn tbOk ?_
            refine evs (ev_bin (c1 := .int .i64 y4) (c2 := .int .i64 1) rfl rfl rfl (evs (ev_mv (c := .int .i64 (IntKind.i64.wrap (y4 + 1))) rfl rfl rfl (evn ?_))))
            exact hN _ (IntKind.i64.wrap (y4 + 1)) h ⟨kr, kr, kr, kr, kr, kr, kr, kr, kr, kr, trivial⟩
        refine evd rfl rfl (ev_mv (c := .dat e17.length (e17.flatMap ci64)) rfl rfl rfl (evd rfl rfl (ev_fa (c1 := .cref 3 0) (v := .cref 3 2) rfl rfl rfl ⟨_, rfl⟩ rfl (evd rfl rfl (ev_ldB (off := 2) (v := .int .i64 a1.2.2) rfl rfl rfl rfl (Nat.le_of_ble_eq_true rfl) rfl (?_))))))
        obtain ⟨e22, g23, h⟩ := ob_some h
        refine evd rfl rfl (ev_ia rfl rfl rfl ⟨(geti_some g23).1, (geti_some g23).2.1⟩ (evd rfl rfl (ev_ldE (i := a1.2.2) (n := 1) (off := 0) (v := .int .i64 e22) rfl rfl zci64 g23 rfl (Nat.le_of_ble_eq_true rfl) rfl (evd rfl rfl (ev_mv (c := .dat e11.length (e11.flatMap ci64)) rfl rfl rfl (evd rfl rfl (ev_fa (c1 := .cref 3 0) (v := .cref 3 2) rfl rfl rfl ⟨_, rfl⟩ rfl (evd rfl rfl (ev_ldB (off := 2) (v := .int .i64 a1.2.2) rfl rfl rfl rfl (Nat.le_of_ble_eq_true rfl) rfl (?_))))))))))
        obtain ⟨e24, g25, h⟩ := ob_some h
        refine evd rfl rfl (ev_ia rfl rfl rfl ⟨(geti_some g25).1, (geti_some g25).2.1⟩ (evd rfl rfl (ev_ldE (i := a1.2.2) (n := 1) (off := 0) (v := .int .i64 e24) rfl rfl zci64 g25 rfl (Nat.le_of_ble_eq_true rfl) rfl (evd rfl rfl (ev_bin (c1 := .int .i64 e22) (c2 := .int .i64 e24) rfl rfl rfl (evd rfl rfl (ev_mv (c := .bool (e22 != e24)) rfl rfl rfl (?_))))))))
        rcases cond_some h with ⟨g26, h⟩ | ⟨g26, h⟩
        · refine evd rfl rfl (ev_gr rfl (congrArg V.bool g26) (ev_mv (c := .dat e17.length (e17.flatMap ci64)) rfl rfl rfl (evd rfl rfl (ev_gr rfl (congrArg V.bool g26) (ev_fa (c1 := .cref 3 0) (v := .cref 3 1) rfl rfl rfl ⟨_, rfl⟩ rfl (evd rfl rfl (ev_gr rfl (congrArg V.bool g26) (ev_ldB (off := 1) (v := .dat a1.2.1.length (a1.2.1.flatMap ci64)) rfl rfl rfl rfl (Nat.le_of_ble_eq_true rfl) rfl (?_)))))))))
          obtain ⟨v27, g28, h⟩ := ob_some h
          refine evd rfl rfl (ev_gr rfl (congrArg V.bool g26) (ev_call (era rfl (erD eci64 _) (era rfl (erD eci64 _) eran)) (impl_pick_s g28) (evd rfl rfl (ev_gr rfl (congrArg V.bool g26) (ev_mv (c := .dat e11.length (e11.flatMap ci64)) rfl rfl rfl (evd rfl rfl (ev_gr rfl (congrArg V.bool g26) (ev_fa (c1 := .cref 3 0) (v := .cref 3 1) rfl rfl rfl ⟨_, rfl⟩ rfl (evd rfl rfl (ev_gr rfl (congrArg V.bool g26) (ev_ldB (off := 1) (v := .dat a1.2.1.length (a1.2.1.flatMap ci64)) rfl rfl rfl rfl (Nat.le_of_ble_eq_true rfl) rfl (?_))))))))))))
          obtain ⟨v29, g30, h⟩ := ob_some h
          refine evd rfl rfl (ev_gr rfl (congrArg V.bool g26) (ev_call (era rfl (erD eci64 _) (era rfl (erD eci64 _) eran)) (impl_pick_s g30) (?_)))
          obtain ⟨v31, g32, h⟩ := ob_some h
          refine evd rfl rfl (ev_gr rfl (congrArg V.bool g26) (ev_call (era rfl (erO eci64 _) (era rfl (erO eci64 _) eran)) (impl_sameInts_s g32) (evd rfl rfl (ev_pkT (c1 := .bool v31) rfl g26 rfl rfl (evdn ?_)))))
          exact kimpl_FDViolation_J3 v31 h _ ⟨kr, kr, kr, kr, kr, kr, kr, kr, kr, kr, kr, kr, trivial⟩
        · refine evd rfl rfl (ev_gs rfl rfl (isb_F g26) (evd rfl rfl (ev_gs rfl rfl (isb_F g26) (evd rfl rfl (ev_gs rfl rfl (isb_F g26) (evd rfl rfl (ev_gs rfl rfl (isb_F g26) (evd rfl rfl (ev_gs rfl rfl (isb_F g26) (evd rfl rfl (ev_gs rfl rfl (isb_F g26) (evd rfl rfl (ev_gs rfl rfl (isb_F g26) (evd rfl rfl (ev_gs rfl rfl (isb_F g26) (evd rfl rfl (ev_gs rfl rfl (isb_F g26) (evd rfl rfl (ev_pkF (c1 := .bool false) rfl g26 rfl rfl (evdn ?_))))))))))))))))))))
          exact kimpl_FDViolation_J3 false h _ ⟨kr, kr, kr, kr, kr, kr, kr, kr, kr, kr, kr, kr, trivial⟩
      · refine ls_cF rfl g15 ?_
        refine ls_exit ?_
        have q0 := (Option.some.inj h).symm
        have r0 := hr2
        rw [q0] at r0
        exact kXimpl_FDViolation_B2 () r0 _ ⟨kr, kr, kr, kr, kr, trivial⟩
    · refine ls_cF rfl g9 ?_
      refine ls_exit ?_
      have q0 := (Option.some.inj h).symm
      have r0 := hr1
      rw [q0] at r0
      exact kXimpl_FDViolation_B1 () r0 _ trivial
def laws_eqIntS_B1 (a0 : List Int) (a1 : List Int) (rec : Int → Option (Sum (Unit) (Bool))) (y1 : Int) : Option (Sum (Unit) (Bool)) := cond (decide (y1 < (List.length a0 : Int))) (obind (geti a0 y1) fun e7 => obind (geti a1 y1) fun e9 => cond (e7 != e9) (some (.inr false)) (rec (IntKind.i64.wrap (y1 + 1)))) (some (.inl ()))
def laws_eqIntS (a0 : List Int) (a1 : List Int) : Option (Bool) := cond ((List.length a0 : Int) != (List.length a1 : Int)) (some false) (obind (loopF (laws_eqIntS_B1 a0 a1) fz 0) fun o1 => (match o1 with
  | .inl _ => (some true)
  | .inr r => some r))
theorem laws_eqIntS_s {a0 : List Int} {a1 : List Int} {r : Bool} (h : laws_eqIntS a0 a1 = some r) : SoundAt Try.prog 19 [.dat a0.length (a0.flatMap ci64), .dat a1.length (a1.flatMap ci64)] (.bool r) := by
  unfold laws_eqIntS at h
  refine sound_lit tbOk lit19 (Nat.le_of_ble_eq_true rfl) rfl ?_
  unfold c19
  refine ls_keep [(0, .dat a0.length (a0.flatMap ci64)), (1, .dat a1.length (a1.flatMap ci64))] ⟨kr, kr, trivial⟩ rfl ?_
  refine ls_rs tbOk ?_
  refine evs (ev_ac rfl nofun rfl (evn ?_))
  refine ls_keep [(0, .dat a0.length (a0.flatMap ci64)), (1, .dat a1.length (a1.flatMap ci64))] ⟨kr, kr, trivial⟩ rfl ?_
  refine ls_seq_k fun K1 hK1 => ?_
  refine ls_rs tbOk ?_
  refine evs (ev_mv (c := .dat a0.length (a0.flatMap ci64)) rfl rfl rfl (evs (ev_len (c1 := .dat a0.length (a0.flatMap ci64)) rfl rfl rfl (evs (ev_mv (c := .dat a1.length (a1.flatMap ci64)) rfl rfl rfl (evs (ev_len (c1 := .dat a1.length (a1.flatMap ci64)) rfl rfl rfl (evs (ev_bin (c1 := .int .i64 (List.length a0 : Int)) (c2 := .int .i64 (List.length a1 : Int)) rfl rfl rfl (evn ?_))))))))))
  refine ls_keep [(0, .dat a0.length (a0.flatMap ci64)), (1, .dat a1.length (a1.flatMap ci64)), (10, .bool ((List.length a0 : Int) != (List.length a1 : Int)))] ⟨kr, kr, kr, trivial⟩ rfl ?_
  rcases cond_some h with ⟨g2, h⟩ | ⟨g2, h⟩
  · refine ls_cT rfl g2 ?_
    refine ls_rs tbOk ?_
    refine evs (ev_ac rfl nofun rfl (evn ?_))
    refine ls_keep [(4, .bool false)] ⟨kr, trivial⟩ rfl ?_
    refine ls_ret ?_
    have hr := Option.some.inj h
    rw [← hr]
    exact ⟨.inl rfl, rfl⟩
  · refine ls_cF rfl g2 ?_
    refine ls_skip ?_
    refine hK1 _ (ls_keep [(0, .dat a0.length (a0.flatMap ci64)), (1, .dat a1.length (a1.flatMap ci64))] ⟨kr, kr, trivial⟩ rfl ?_)
    refine ls_seq_k fun K3 hK3 => ?_
    refine ls_rs tbOk ?_
    refine evs (ev_ac rfl nofun rfl (evn ?_))
    refine ls_keep [(0, .dat a0.length (a0.flatMap ci64)), (1, .dat a1.length (a1.flatMap ci64)), (5, .int .i64 0)] ⟨kr, kr, kr, trivial⟩ rfl ?_
    obtain ⟨o1, hl, hr1⟩ := ob_some h
    clear h
    have kXlaws_eqIntS_B1 : ∀ (_ : Unit), (some true) = some r → ∀ σ' : PS, okK σ' [] → K3 σ' := by
      intro _ h σ' hk
      refine hK3 _ (ls_keep [] hk rfl ?_)
      refine ls_rs tbOk ?_
      refine evs (ev_ac rfl nofun rfl (evn ?_))
      refine ls_keep [(4, .bool true)] ⟨kr, trivial⟩ rfl ?_
      refine ls_ret ?_
      have hr := Option.some.inj h
      rw [← hr]
      exact ⟨.inl rfl, rfl⟩
    refine ls_rec (fun (y1 : Int) => [(0, .dat a0.length (a0.flatMap ci64)), (1, .dat a1.length (a1.flatMap ci64)), (5, .int .i64 y1)]) (laws_eqIntS_B1 a0 a1) fz 0 o1 hl ⟨kr, kr, kr, trivial⟩ (fun _ => rfl) ?_
    rintro m y1 N h hN
    unfold laws_eqIntS_B1 at h
    refine ls_seq_k fun K4 hK4 => ?_
    refine ls_rs tbOk ?_
    refine evs (ev_mv (c := .int .i64 y1) rfl rfl rfl (evs (ev_mv (c := .dat a0.length (a0.flatMap ci64)) rfl rfl rfl (evs (ev_len (c1 := .dat a0.length (a0.flatMap ci64)) rfl rfl rfl (evs (ev_bin (c1 := .int .i64 y1) (c2 := .int .i64 (List.length a0 : Int)) rfl rfl rfl (evn ?_))))))))
    refine ls_keep [(0, .dat a0.length (a0.flatMap ci64)), (1, .dat a1.length (a1.flatMap ci64)), (5, .int .i64 y1), (14, .bool (decide (y1 < (List.length a0 : Int))))] ⟨kr, kr, kr, kr, trivial⟩ rfl ?_
    rcases cond_some h with ⟨g5, h⟩ | ⟨g5, h⟩
    · refine ls_cT rfl g5 ?_
      refine ls_skip ?_
      refine hK4 _ (ls_keep [(0, .dat a0.length (a0.flatMap ci64)), (1, .dat a1.length (a1.flatMap ci64)), (5, .int .i64 y1)] ⟨kr, kr, kr, trivial⟩ rfl ?_)
      refine ls_seq_k fun K6 hK6 => ?_
      refine ls_blk ?_
      refine ls_rd tbOk mixed (by kernel_rfl) ?_
      refine evd rfl rfl (ev_mv (c := .dat a0.length (a0.flatMap ci64)) rfl rfl rfl (evd rfl rfl (ev_mv (c := .int .i64 y1) rfl rfl rfl (?_))))
      obtain ⟨e7, g8, h⟩ := ob_some h
      refine evd rfl rfl (ev_ia rfl rfl rfl ⟨(geti_some g8).1, (geti_some g8).2.1⟩ (evd rfl rfl (ev_ldE (i := y1) (n := 1) (off := 0) (v := .int .i64 e7) rfl rfl zci64 g8 rfl (Nat.le_of_ble_eq_true rfl) rfl (evd rfl rfl (ev_mv (c := .dat a1.length (a1.flatMap ci64)) rfl rfl rfl (evd rfl rfl (ev_mv (c := .int .i64 y1) rfl rfl rfl (?_))))))))
      obtain ⟨e9, g10, h⟩ := ob_some h
      refine evd rfl rfl (ev_ia rfl rfl rfl ⟨(geti_some g10).1, (geti_some g10).2.1⟩ (evd rfl rfl (ev_ldE (i := y1) (n := 1) (off := 0) (v := .int .i64 e9) rfl rfl zci64 g10 rfl (Nat.le_of_ble_eq_true rfl) rfl (evd rfl rfl (ev_bin (c1 := .int .i64 e7) (c2 := .int .i64 e9) rfl rfl rfl (evdn ?_))))))
      refine ls_keep [(0, .dat a0.length (a0.flatMap ci64)), (1, .dat a1.length (a1.flatMap ci64)), (5, .int .i64 y1), (25, .bool (e7 != e9))] ⟨kr, kr, kr, kr, trivial⟩ rfl ?_
      rcases cond_some h with ⟨g11, h⟩ | ⟨g11, h⟩
      · refine ls_cT rfl g11 ?_
        refine ls_rs tbOk ?_
        refine evs (ev_ac rfl nofun rfl (evn ?_))
        refine ls_keep [(4, .bool false)] ⟨kr, trivial⟩ rfl ?_
        refine ls_ret ?_
        have q0 := (Option.some.inj h).symm
        have r0 := hr1
        rw [q0] at r0
        have hr := Option.some.inj r0
        rw [← hr]
        exact ⟨.inl rfl, rfl⟩
      · refine ls_cF rfl g11 ?_
        refine ls_skip ?_
        refine hK6 _ (ls_keep [(0, .dat a0.length (a0.flatMap ci64)), (1, .dat a1.length (a1.flatMap ci64)), (5, .int .i64 y1)] ⟨kr, kr, kr, trivial⟩ rfl ?_)
        refine ls_rgn tbOk ?_
        refine evs (ev_mv (c := .int .i64 y1) rfl rfl rfl (evs (ev_bin (c1 := .int .i64 y1) (c2 := .int .i64 1) rfl rfl rfl (evs (ev_as (c := .int .i64 (IntKind.i64.wrap (y1 + 1))) rfl rfl rfl (evn ?_))))))
        exact hN _ (IntKind.i64.wrap (y1 + 1)) h ⟨kr, kr, kr, trivial⟩
    · refine ls_cF rfl g5 ?_
      refine ls_exit ?_
      have q0 := (Option.some.inj h).symm
      have r0 := hr1
      rw [q0] at r0
      exact kXlaws_eqIntS_B1 () r0 _ trivial
def laws_eqIntSS_B1 (a0 : List (List Int)) (a1 : List (List Int)) (rec : Int → Option (Sum (Unit) (Bool))) (y1 : Int) : Option (Sum (Unit) (Bool)) := cond (decide (y1 < (List.length a0 : Int))) (obind (geti a0 y1) fun e7 => obind (geti a1 y1) fun e9 => obind (laws_eqIntS e7 e9) fun v11 => cond (!v11) (some (.inr false)) (rec (IntKind.i64.wrap (y1 + 1)))) (some (.inl ()))
def laws_eqIntSS (a0 : List (List Int)) (a1 : List (List Int)) : Option (Bool) := cond ((List.length a0 : Int) != (List.length a1 : Int)) (some false) (obind (loopF (laws_eqIntSS_B1 a0 a1) fz 0) fun o1 => (match o1 with
  | .inl _ => (some true)
  | .inr r => some r))
theorem laws_eqIntSS_s {a0 : List (List Int)} {a1 : List (List Int)} {r : Bool} (h : laws_eqIntSS a0 a1 = some r) : SoundAt Try.prog 215 [.dat a0.length (a0.flatMap c25_d), .dat a1.length (a1.flatMap c25_d)] (.bool r) := by
  unfold laws_eqIntSS at h
  refine sound_lit tbOk lit215 (Nat.le_of_ble_eq_true rfl) rfl ?_
  unfold c215
  refine ls_keep [(0, .dat a0.length (a0.flatMap c25_d)), (1, .dat a1.length (a1.flatMap c25_d))] ⟨kr, kr, trivial⟩ rfl ?_
  refine ls_rs tbOk ?_
  refine evs (ev_ac rfl nofun rfl (evn ?_))
  refine ls_keep [(0, .dat a0.length (a0.flatMap c25_d)), (1, .dat a1.length (a1.flatMap c25_d))] ⟨kr, kr, trivial⟩ rfl ?_
  refine ls_seq_k fun K1 hK1 => ?_
  refine ls_rs tbOk ?_
  refine evs (ev_mv (c := .dat a0.length (a0.flatMap c25_d)) rfl rfl rfl (evs (ev_len (c1 := .dat a0.length (a0.flatMap c25_d)) rfl rfl rfl (evs (ev_mv (c := .dat a1.length (a1.flatMap c25_d)) rfl rfl rfl (evs (ev_len (c1 := .dat a1.length (a1.flatMap c25_d)) rfl rfl rfl (evs (ev_bin (c1 := .int .i64 (List.length a0 : Int)) (c2 := .int .i64 (List.length a1 : Int)) rfl rfl rfl (evn ?_))))))))))
  refine ls_keep [(0, .dat a0.length (a0.flatMap c25_d)), (1, .dat a1.length (a1.flatMap c25_d)), (10, .bool ((List.length a0 : Int) != (List.length a1 : Int)))] ⟨kr, kr, kr, trivial⟩ rfl ?_
  rcases cond_some h with ⟨g2, h⟩ | ⟨g2, h⟩
  · refine ls_cT rfl g2 ?_
    refine ls_rs tbOk ?_
    refine evs (ev_ac rfl nofun rfl (evn ?_))
    refine ls_keep [(4, .bool false)] ⟨kr, trivial⟩ rfl ?_
    refine ls_ret ?_
    have hr := Option.some.inj h
    rw [← hr]
    exact ⟨.inl rfl, rfl⟩
  · refine ls_cF rfl g2 ?_
    refine ls_skip ?_
    refine hK1 _ (ls_keep [(0, .dat a0.length (a0.flatMap c25_d)), (1, .dat a1.length (a1.flatMap c25_d))] ⟨kr, kr, trivial⟩ rfl ?_)
    refine ls_seq_k fun K3 hK3 => ?_
    refine ls_rs tbOk ?_
    refine evs (ev_ac rfl nofun rfl (evn ?_))
    refine ls_keep [(0, .dat a0.length (a0.flatMap c25_d)), (1, .dat a1.length (a1.flatMap c25_d)), (5, .int .i64 0)] ⟨kr, kr, kr, trivial⟩ rfl ?_
    obtain ⟨o1, hl, hr1⟩ := ob_some h
    clear h
    have kXlaws_eqIntSS_B1 : ∀ (_ : Unit), (some true) = some r → ∀ σ' : PS, okK σ' [] → K3 σ' := by
      intro _ h σ' hk
      refine hK3 _ (ls_keep [] hk rfl ?_)
      refine ls_rs tbOk ?_
      refine evs (ev_ac rfl nofun rfl (evn ?_))
      refine ls_keep [(4, .bool true)] ⟨kr, trivial⟩ rfl ?_
      refine ls_ret ?_
      have hr := Option.some.inj h
      rw [← hr]
      exact ⟨.inl rfl, rfl⟩
    refine ls_rec (fun (y1 : Int) => [(0, .dat a0.length (a0.flatMap c25_d)), (1, .dat a1.length (a1.flatMap c25_d)), (5, .int .i64 y1)]) (laws_eqIntSS_B1 a0 a1) fz 0 o1 hl ⟨kr, kr, kr, trivial⟩ (fun _ => rfl) ?_
    rintro m y1 N h hN
    unfold laws_eqIntSS_B1 at h
    refine ls_seq_k fun K4 hK4 => ?_
    refine ls_rs tbOk ?_
    refine evs (ev_mv (c := .int .i64 y1) rfl rfl rfl (evs (ev_mv (c := .dat a0.length (a0.flatMap c25_d)) rfl rfl rfl (evs (ev_len (c1 := .dat a0.length (a0.flatMap c25_d)) rfl rfl rfl (evs (ev_bin (c1 := .int .i64 y1) (c2 := .int .i64 (List.length a0 : Int)) rfl rfl rfl (evn ?_))))))))
    refine ls_keep [(0, .dat a0.length (a0.flatMap c25_d)), (1, .dat a1.length (a1.flatMap c25_d)), (5, .int .i64 y1), (14, .bool (decide (y1 < (List.length a0 : Int))))] ⟨kr, kr, kr, kr, trivial⟩ rfl ?_
    rcases cond_some h with ⟨g5, h⟩ | ⟨g5, h⟩
    · refine ls_cT rfl g5 ?_
      refine ls_skip ?_
      refine hK4 _ (ls_keep [(0, .dat a0.length (a0.flatMap c25_d)), (1, .dat a1.length (a1.flatMap c25_d)), (5, .int .i64 y1)] ⟨kr, kr, kr, trivial⟩ rfl ?_)
      refine ls_seq_k fun K6 hK6 => ?_
      refine ls_blk ?_
      refine ls_rd tbOk mixed (by kernel_rfl) ?_
      refine evd rfl rfl (ev_mv (c := .dat a0.length (a0.flatMap c25_d)) rfl rfl rfl (evd rfl rfl (ev_mv (c := .int .i64 y1) rfl rfl rfl (?_))))
      obtain ⟨e7, g8, h⟩ := ob_some h
      refine evd rfl rfl (ev_ia rfl rfl rfl ⟨(geti_some g8).1, (geti_some g8).2.1⟩ (evd rfl rfl (ev_ldE (i := y1) (n := 1) (off := 0) (v := .dat e7.length (e7.flatMap ci64)) rfl rfl zc25_d g8 rfl (Nat.le_of_ble_eq_true rfl) rfl (evd rfl rfl (ev_mv (c := .dat a1.length (a1.flatMap c25_d)) rfl rfl rfl (evd rfl rfl (ev_mv (c := .int .i64 y1) rfl rfl rfl (?_))))))))
      obtain ⟨e9, g10, h⟩ := ob_some h
      refine evd rfl rfl (ev_ia rfl rfl rfl ⟨(geti_some g10).1, (geti_some g10).2.1⟩ (evd rfl rfl (ev_ldE (i := y1) (n := 1) (off := 0) (v := .dat e9.length (e9.flatMap ci64)) rfl rfl zc25_d g10 rfl (Nat.le_of_ble_eq_true rfl) rfl (?_))))
      obtain ⟨v11, g12, h⟩ := ob_some h
      refine evd rfl rfl (ev_call (era rfl (erD eci64 _) (era rfl (erD eci64 _) eran)) (laws_eqIntS_s g12) (evd rfl rfl (ev_un (c1 := .bool v11) rfl trivial (evdn ?_))))
      refine ls_keep [(0, .dat a0.length (a0.flatMap c25_d)), (1, .dat a1.length (a1.flatMap c25_d)), (5, .int .i64 y1), (26, .bool (!v11))] ⟨kr, kr, kr, kr, trivial⟩ rfl ?_
      rcases cond_some h with ⟨g13, h⟩ | ⟨g13, h⟩
      · refine ls_cT rfl g13 ?_
        refine ls_rs tbOk ?_
        refine evs (ev_ac rfl nofun rfl (evn ?_))
        refine ls_keep [(4, .bool false)] ⟨kr, trivial⟩ rfl ?_
        refine ls_ret ?_
        have q0 := (Option.some.inj h).symm
        have r0 := hr1
        rw [q0] at r0
        have hr := Option.some.inj r0
        rw [← hr]
        exact ⟨.inl rfl, rfl⟩
      · refine ls_cF rfl g13 ?_
        refine ls_skip ?_
        refine hK6 _ (ls_keep [(0, .dat a0.length (a0.flatMap c25_d)), (1, .dat a1.length (a1.flatMap c25_d)), (5, .int .i64 y1)] ⟨kr, kr, kr, trivial⟩ rfl ?_)
        refine ls_rgn tbOk ?_
        refine evs (ev_mv (c := .int .i64 y1) rfl rfl rfl (evs (ev_bin (c1 := .int .i64 y1) (c2 := .int .i64 1) rfl rfl rfl (evs (ev_as (c := .int .i64 (IntKind.i64.wrap (y1 + 1))) rfl rfl rfl (evn ?_))))))
        exact hN _ (IntKind.i64.wrap (y1 + 1)) h ⟨kr, kr, kr, trivial⟩
    · refine ls_cF rfl g5 ?_
      refine ls_exit ?_
      have q0 := (Option.some.inj h).symm
      have r0 := hr1
      rw [q0] at r0
      exact kXlaws_eqIntSS_B1 () r0 _ trivial
def laws_eqRelation (a0 : Int × (List (List Int))) (a1 : Int × (List (List Int))) : Option (Bool) := cond (a0.1 != a1.1) (some false) (obind (laws_eqIntSS a0.2 a1.2) fun v4 => cond (!v4) (some false) (some true))
theorem laws_eqRelation_s {a0 : Int × (List (List Int))} {a1 : Int × (List (List Int))} {r : Bool} (h : laws_eqRelation a0 a1 = some r) : SoundAt Try.prog 238 [.agg [.int .i64 a0.1, .dat a0.2.length (a0.2.flatMap c25_d)], .agg [.int .i64 a1.1, .dat a1.2.length (a1.2.flatMap c25_d)]] (.bool r) := by
  unfold laws_eqRelation at h
  refine sound_lit tbOk lit238 (Nat.le_of_ble_eq_true rfl) rfl ?_
  unfold c238
  refine ls_keep [(0, .agg [.int .i64 a0.1, .dat a0.2.length (a0.2.flatMap c25_d)]), (1, .agg [.int .i64 a1.1, .dat a1.2.length (a1.2.flatMap c25_d)])] ⟨kr, kr, trivial⟩ rfl ?_
  refine ls_rs tbOk ?_
  refine evs (ev_bx (c1 := .agg [.int .i64 a0.1, .dat a0.2.length (a0.2.flatMap c25_d)]) rfl rfl rfl (evs (ev_bx (c1 := .agg [.int .i64 a1.1, .dat a1.2.length (a1.2.flatMap c25_d)]) rfl rfl rfl (evs (ev_ac rfl nofun rfl (evn ?_))))))
  refine ls_keep [(2, .box [.int .i64 a0.1, .dat a0.2.length (a0.2.flatMap c25_d)]), (3, .box [.int .i64 a1.1, .dat a1.2.length (a1.2.flatMap c25_d)])] ⟨kr, kr, trivial⟩ rfl ?_
  refine ls_seq_k fun K1 hK1 => ?_
  refine ls_rs tbOk ?_
  refine evs (ev_fa (c1 := .cref 2 0) (v := .cref 2 0) rfl rfl rfl ⟨_, rfl⟩ rfl (evs (ev_ldB (off := 0) (v := .int .i64 a0.1) rfl rfl rfl rfl (Nat.le_of_ble_eq_true rfl) rfl (evs (ev_fa (c1 := .cref 3 0) (v := .cref 3 0) rfl rfl rfl ⟨_, rfl⟩ rfl (evs (ev_ldB (off := 0) (v := .int .i64 a1.1) rfl rfl rfl rfl (Nat.le_of_ble_eq_true rfl) rfl (evs (ev_bin (c1 := .int .i64 a0.1) (c2 := .int .i64 a1.1) rfl rfl rfl (evn ?_))))))))))
  refine ls_keep [(2, .box [.int .i64 a0.1, .dat a0.2.length (a0.2.flatMap c25_d)]), (3, .box [.int .i64 a1.1, .dat a1.2.length (a1.2.flatMap c25_d)]), (9, .bool (a0.1 != a1.1))] ⟨kr, kr, kr, trivial⟩ rfl ?_
  rcases cond_some h with ⟨g2, h⟩ | ⟨g2, h⟩
  · refine ls_cT rfl g2 ?_
    refine ls_rs tbOk ?_
    refine evs (ev_ac rfl nofun rfl (evn ?_))
    refine ls_keep [(4, .bool false)] ⟨kr, trivial⟩ rfl ?_
    refine ls_ret ?_
    have hr := Option.some.inj h
    rw [← hr]
    exact ⟨.inl rfl, rfl⟩
  · refine ls_cF rfl g2 ?_
    refine ls_skip ?_
    refine hK1 _ (ls_keep [(2, .box [.int .i64 a0.1, .dat a0.2.length (a0.2.flatMap c25_d)]), (3, .box [.int .i64 a1.1, .dat a1.2.length (a1.2.flatMap c25_d)])] ⟨kr, kr, trivial⟩ rfl ?_)
    refine ls_seq_k fun K3 hK3 => ?_
    refine ls_rs tbOk ?_
    refine evs (ev_fa (c1 := .cref 2 0) (v := .cref 2 1) rfl rfl rfl ⟨_, rfl⟩ rfl (evs (ev_ldB (off := 1) (v := .dat a0.2.length (a0.2.flatMap c25_d)) rfl rfl rfl rfl (Nat.le_of_ble_eq_true rfl) rfl (evs (ev_fa (c1 := .cref 3 0) (v := .cref 3 1) rfl rfl rfl ⟨_, rfl⟩ rfl (evs (ev_ldB (off := 1) (v := .dat a1.2.length (a1.2.flatMap c25_d)) rfl rfl rfl rfl (Nat.le_of_ble_eq_true rfl) rfl (?_))))))))
    obtain ⟨v4, g5, h⟩ := ob_some h
    refine evs (ev_call (era rfl (erD ec25_d _) (era rfl (erD ec25_d _) eran)) (laws_eqIntSS_s g5) (evs (ev_un (c1 := .bool v4) rfl trivial (evn ?_))))
    refine ls_keep [(15, .bool (!v4))] ⟨kr, trivial⟩ rfl ?_
    rcases cond_some h with ⟨g6, h⟩ | ⟨g6, h⟩
    · refine ls_cT rfl g6 ?_
      refine ls_rs tbOk ?_
      refine evs (ev_ac rfl nofun rfl (evn ?_))
      refine ls_keep [(4, .bool false)] ⟨kr, trivial⟩ rfl ?_
      refine ls_ret ?_
      have hr := Option.some.inj h
      rw [← hr]
      exact ⟨.inl rfl, rfl⟩
    · refine ls_cF rfl g6 ?_
      refine ls_skip ?_
      refine hK3 _ (ls_keep [] trivial rfl ?_)
      refine ls_rs tbOk ?_
      refine evs (ev_ac rfl nofun rfl (evn ?_))
      refine ls_keep [(4, .bool true)] ⟨kr, trivial⟩ rfl ?_
      refine ls_ret ?_
      have hr := Option.some.inj h
      rw [← hr]
      exact ⟨.inl rfl, rfl⟩
def laws_eqTable (a0 : (List UInt8) × (Int × (List (List Int)))) (a1 : (List UInt8) × (Int × (List (List Int)))) : Option (Bool) := cond (!(a0.1 == a1.1)) (some false) (obind (laws_eqRelation a0.2 a1.2) fun v4 => cond (!v4) (some false) (some true))
theorem laws_eqTable_s {a0 : (List UInt8) × (Int × (List (List Int)))} {a1 : (List UInt8) × (Int × (List (List Int)))} {r : Bool} (h : laws_eqTable a0 a1 = some r) : SoundAt Try.prog 176 [.agg [.str a0.1, .int .i64 a0.2.1, .dat a0.2.2.length (a0.2.2.flatMap c25_d)], .agg [.str a1.1, .int .i64 a1.2.1, .dat a1.2.2.length (a1.2.2.flatMap c25_d)]] (.bool r) := by
  unfold laws_eqTable at h
  refine sound_lit tbOk lit176 (Nat.le_of_ble_eq_true rfl) rfl ?_
  unfold c176
  refine ls_keep [(0, .agg [.str a0.1, .int .i64 a0.2.1, .dat a0.2.2.length (a0.2.2.flatMap c25_d)]), (1, .agg [.str a1.1, .int .i64 a1.2.1, .dat a1.2.2.length (a1.2.2.flatMap c25_d)])] ⟨kr, kr, trivial⟩ rfl ?_
  refine ls_rs tbOk ?_
  refine evs (ev_bx (c1 := .agg [.str a0.1, .int .i64 a0.2.1, .dat a0.2.2.length (a0.2.2.flatMap c25_d)]) rfl rfl rfl (evs (ev_bx (c1 := .agg [.str a1.1, .int .i64 a1.2.1, .dat a1.2.2.length (a1.2.2.flatMap c25_d)]) rfl rfl rfl (evs (ev_ac rfl nofun rfl (evn ?_))))))
  refine ls_keep [(2, .box [.str a0.1, .int .i64 a0.2.1, .dat a0.2.2.length (a0.2.2.flatMap c25_d)]), (3, .box [.str a1.1, .int .i64 a1.2.1, .dat a1.2.2.length (a1.2.2.flatMap c25_d)])] ⟨kr, kr, trivial⟩ rfl ?_
  refine ls_seq_k fun K1 hK1 => ?_
  refine ls_rs tbOk ?_
  refine evs (ev_fa (c1 := .cref 2 0) (v := .cref 2 0) rfl rfl rfl ⟨_, rfl⟩ rfl (evs (ev_ldB (off := 0) (v := .str a0.1) rfl rfl rfl rfl (Nat.le_of_ble_eq_true rfl) rfl (evs (ev_fa (c1 := .cref 3 0) (v := .cref 3 0) rfl rfl rfl ⟨_, rfl⟩ rfl (evs (ev_ldB (off := 0) (v := .str a1.1) rfl rfl rfl rfl (Nat.le_of_ble_eq_true rfl) rfl (evs (ev_bin (c1 := .str a0.1) (c2 := .str a1.1) rfl rfl trivial (evn ?_))))))))))
  refine ls_keep [(2, .box [.str a0.1, .int .i64 a0.2.1, .dat a0.2.2.length (a0.2.2.flatMap c25_d)]), (3, .box [.str a1.1, .int .i64 a1.2.1, .dat a1.2.2.length (a1.2.2.flatMap c25_d)]), (9, .bool (!(a0.1 == a1.1)))] ⟨kr, kr, kr, trivial⟩ rfl ?_
  rcases cond_some h with ⟨g2, h⟩ | ⟨g2, h⟩
  · refine ls_cT rfl g2 ?_
    refine ls_rs tbOk ?_
    refine evs (ev_ac rfl nofun rfl (evn ?_))
    refine ls_keep [(4, .bool false)] ⟨kr, trivial⟩ rfl ?_
    refine ls_ret ?_
    have hr := Option.some.inj h
    rw [← hr]
    exact ⟨.inl rfl, rfl⟩
  · refine ls_cF rfl g2 ?_
    refine ls_skip ?_
    refine hK1 _ (ls_keep [(2, .box [.str a0.1, .int .i64 a0.2.1, .dat a0.2.2.length (a0.2.2.flatMap c25_d)]), (3, .box [.str a1.1, .int .i64 a1.2.1, .dat a1.2.2.length (a1.2.2.flatMap c25_d)])] ⟨kr, kr, trivial⟩ rfl ?_)
    refine ls_seq_k fun K3 hK3 => ?_
    refine ls_rs tbOk ?_
    refine evs (ev_fa (c1 := .cref 2 0) (v := .cref 2 1) rfl rfl rfl ⟨_, rfl⟩ rfl (evs (ev_ldB (off := 1) (v := .agg [.int .i64 a0.2.1, .dat a0.2.2.length (a0.2.2.flatMap c25_d)]) rfl rfl rfl rfl (Nat.le_of_ble_eq_true rfl) rfl (evs (ev_fa (c1 := .cref 3 0) (v := .cref 3 1) rfl rfl rfl ⟨_, rfl⟩ rfl (evs (ev_ldB (off := 1) (v := .agg [.int .i64 a1.2.1, .dat a1.2.2.length (a1.2.2.flatMap c25_d)]) rfl rfl rfl rfl (Nat.le_of_ble_eq_true rfl) rfl (?_))))))))
    obtain ⟨v4, g5, h⟩ := ob_some h
    refine evs (ev_call (era rfl (erg (erc rfl (erc (erD ec25_d _) rfl))) (era rfl (erg (erc rfl (erc (erD ec25_d _) rfl))) eran)) (laws_eqRelation_s g5) (evs (ev_un (c1 := .bool v4) rfl trivial (evn ?_))))
    refine ls_keep [(15, .bool (!v4))] ⟨kr, trivial⟩ rfl ?_
    rcases cond_some h with ⟨g6, h⟩ | ⟨g6, h⟩
    · refine ls_cT rfl g6 ?_
      refine ls_rs tbOk ?_
      refine evs (ev_ac rfl nofun rfl (evn ?_))
      refine ls_keep [(4, .bool false)] ⟨kr, trivial⟩ rfl ?_
      refine ls_ret ?_
      have hr := Option.some.inj h
      rw [← hr]
      exact ⟨.inl rfl, rfl⟩
    · refine ls_cF rfl g6 ?_
      refine ls_skip ?_
      refine hK3 _ (ls_keep [] trivial rfl ?_)
      refine ls_rs tbOk ?_
      refine evs (ev_ac rfl nofun rfl (evn ?_))
      refine ls_keep [(4, .bool true)] ⟨kr, trivial⟩ rfl ?_
      refine ls_ret ?_
      have hr := Option.some.inj h
      rw [← hr]
      exact ⟨.inl rfl, rfl⟩
def laws_eqTableS_B1 (a0 : List ((List UInt8) × (Int × (List (List Int))))) (a1 : List ((List UInt8) × (Int × (List (List Int))))) (rec : Int → Option (Sum (Unit) (Bool))) (y1 : Int) : Option (Sum (Unit) (Bool)) := cond (decide (y1 < (List.length a0 : Int))) (obind (geti a0 y1) fun e7 => obind (geti a1 y1) fun e9 => obind (laws_eqTable e7 e9) fun v11 => cond (!v11) (some (.inr false)) (rec (IntKind.i64.wrap (y1 + 1)))) (some (.inl ()))
def laws_eqTableS (a0 : List ((List UInt8) × (Int × (List (List Int))))) (a1 : List ((List UInt8) × (Int × (List (List Int))))) : Option (Bool) := cond ((List.length a0 : Int) != (List.length a1 : Int)) (some false) (obind (loopF (laws_eqTableS_B1 a0 a1) fz 0) fun o1 => (match o1 with
  | .inl _ => (some true)
  | .inr r => some r))
theorem laws_eqTableS_s {a0 : List ((List UInt8) × (Int × (List (List Int))))} {a1 : List ((List UInt8) × (Int × (List (List Int))))} {r : Bool} (h : laws_eqTableS a0 a1 = some r) : SoundAt Try.prog 82 [.dat a0.length (a0.flatMap c208_dd), .dat a1.length (a1.flatMap c208_dd)] (.bool r) := by
  unfold laws_eqTableS at h
  refine sound_lit tbOk lit82 (Nat.le_of_ble_eq_true rfl) rfl ?_
  unfold c82
  refine ls_keep [(0, .dat a0.length (a0.flatMap c208_dd)), (1, .dat a1.length (a1.flatMap c208_dd))] ⟨kr, kr, trivial⟩ rfl ?_
  refine ls_rs tbOk ?_
  refine evs (ev_ac rfl nofun rfl (evn ?_))
  refine ls_keep [(0, .dat a0.length (a0.flatMap c208_dd)), (1, .dat a1.length (a1.flatMap c208_dd))] ⟨kr, kr, trivial⟩ rfl ?_
  refine ls_seq_k fun K1 hK1 => ?_
  refine ls_rs tbOk ?_
  refine evs (ev_mv (c := .dat a0.length (a0.flatMap c208_dd)) rfl rfl rfl (evs (ev_len (c1 := .dat a0.length (a0.flatMap c208_dd)) rfl rfl rfl (evs (ev_mv (c := .dat a1.length (a1.flatMap c208_dd)) rfl rfl rfl (evs (ev_len (c1 := .dat a1.length (a1.flatMap c208_dd)) rfl rfl rfl (evs (ev_bin (c1 := .int .i64 (List.length a0 : Int)) (c2 := .int .i64 (List.length a1 : Int)) rfl rfl rfl (evn ?_))))))))))
  refine ls_keep [(0, .dat a0.length (a0.flatMap c208_dd)), (1, .dat a1.length (a1.flatMap c208_dd)), (10, .bool ((List.length a0 : Int) != (List.length a1 : Int)))] ⟨kr, kr, kr, trivial⟩ rfl ?_
  rcases cond_some h with ⟨g2, h⟩ | ⟨g2, h⟩
  · refine ls_cT rfl g2 ?_
    refine ls_rs tbOk ?_
    refine evs (ev_ac rfl nofun rfl (evn ?_))
    refine ls_keep [(4, .bool false)] ⟨kr, trivial⟩ rfl ?_
    refine ls_ret ?_
    have hr := Option.some.inj h
    rw [← hr]
    exact ⟨.inl rfl, rfl⟩
  · refine ls_cF rfl g2 ?_
    refine ls_skip ?_
    refine hK1 _ (ls_keep [(0, .dat a0.length (a0.flatMap c208_dd)), (1, .dat a1.length (a1.flatMap c208_dd))] ⟨kr, kr, trivial⟩ rfl ?_)
    refine ls_seq_k fun K3 hK3 => ?_
    refine ls_rs tbOk ?_
    refine evs (ev_ac rfl nofun rfl (evn ?_))
    refine ls_keep [(0, .dat a0.length (a0.flatMap c208_dd)), (1, .dat a1.length (a1.flatMap c208_dd)), (5, .int .i64 0)] ⟨kr, kr, kr, trivial⟩ rfl ?_
    obtain ⟨o1, hl, hr1⟩ := ob_some h
    clear h
    have kXlaws_eqTableS_B1 : ∀ (_ : Unit), (some true) = some r → ∀ σ' : PS, okK σ' [] → K3 σ' := by
      intro _ h σ' hk
      refine hK3 _ (ls_keep [] hk rfl ?_)
      refine ls_rs tbOk ?_
      refine evs (ev_ac rfl nofun rfl (evn ?_))
      refine ls_keep [(4, .bool true)] ⟨kr, trivial⟩ rfl ?_
      refine ls_ret ?_
      have hr := Option.some.inj h
      rw [← hr]
      exact ⟨.inl rfl, rfl⟩
    refine ls_rec (fun (y1 : Int) => [(0, .dat a0.length (a0.flatMap c208_dd)), (1, .dat a1.length (a1.flatMap c208_dd)), (5, .int .i64 y1)]) (laws_eqTableS_B1 a0 a1) fz 0 o1 hl ⟨kr, kr, kr, trivial⟩ (fun _ => rfl) ?_
    rintro m y1 N h hN
    unfold laws_eqTableS_B1 at h
    refine ls_seq_k fun K4 hK4 => ?_
    refine ls_rs tbOk ?_
    refine evs (ev_mv (c := .int .i64 y1) rfl rfl rfl (evs (ev_mv (c := .dat a0.length (a0.flatMap c208_dd)) rfl rfl rfl (evs (ev_len (c1 := .dat a0.length (a0.flatMap c208_dd)) rfl rfl rfl (evs (ev_bin (c1 := .int .i64 y1) (c2 := .int .i64 (List.length a0 : Int)) rfl rfl rfl (evn ?_))))))))
    refine ls_keep [(0, .dat a0.length (a0.flatMap c208_dd)), (1, .dat a1.length (a1.flatMap c208_dd)), (5, .int .i64 y1), (14, .bool (decide (y1 < (List.length a0 : Int))))] ⟨kr, kr, kr, kr, trivial⟩ rfl ?_
    rcases cond_some h with ⟨g5, h⟩ | ⟨g5, h⟩
    · refine ls_cT rfl g5 ?_
      refine ls_skip ?_
      refine hK4 _ (ls_keep [(0, .dat a0.length (a0.flatMap c208_dd)), (1, .dat a1.length (a1.flatMap c208_dd)), (5, .int .i64 y1)] ⟨kr, kr, kr, trivial⟩ rfl ?_)
      refine ls_seq_k fun K6 hK6 => ?_
      refine ls_blk ?_
      refine ls_rd tbOk mixed (by kernel_rfl) ?_
      refine evd rfl rfl (ev_mv (c := .dat a0.length (a0.flatMap c208_dd)) rfl rfl rfl (evd rfl rfl (ev_mv (c := .int .i64 y1) rfl rfl rfl (?_))))
      obtain ⟨e7, g8, h⟩ := ob_some h
      refine evd rfl rfl (ev_ia rfl rfl rfl ⟨(geti_some g8).1, (geti_some g8).2.1⟩ (evd rfl rfl (ev_ldE (i := y1) (n := 3) (off := 0) (v := .agg [.str e7.1, .int .i64 e7.2.1, .dat e7.2.2.length (e7.2.2.flatMap c25_d)]) rfl rfl zc208_dd g8 rfl (Nat.le_of_ble_eq_true rfl) rfl (evd rfl rfl (ev_mv (c := .dat a1.length (a1.flatMap c208_dd)) rfl rfl rfl (evd rfl rfl (ev_mv (c := .int .i64 y1) rfl rfl rfl (?_))))))))
      obtain ⟨e9, g10, h⟩ := ob_some h
      refine evd rfl rfl (ev_ia rfl rfl rfl ⟨(geti_some g10).1, (geti_some g10).2.1⟩ (evd rfl rfl (ev_ldE (i := y1) (n := 3) (off := 0) (v := .agg [.str e9.1, .int .i64 e9.2.1, .dat e9.2.2.length (e9.2.2.flatMap c25_d)]) rfl rfl zc208_dd g10 rfl (Nat.le_of_ble_eq_true rfl) rfl (?_))))
      obtain ⟨v11, g12, h⟩ := ob_some h
      refine evd rfl rfl (ev_call (era rfl (erg (erc rfl (erc rfl (erc (erD ec25_d _) rfl)))) (era rfl (erg (erc rfl (erc rfl (erc (erD ec25_d _) rfl)))) eran)) (laws_eqTable_s g12) (evd rfl rfl (ev_un (c1 := .bool v11) rfl trivial (evdn ?_))))
      refine ls_keep [(0, .dat a0.length (a0.flatMap c208_dd)), (1, .dat a1.length (a1.flatMap c208_dd)), (5, .int .i64 y1), (26, .bool (!v11))] ⟨kr, kr, kr, kr, trivial⟩ rfl ?_
      rcases cond_some h with ⟨g13, h⟩ | ⟨g13, h⟩
      · refine ls_cT rfl g13 ?_
        refine ls_rs tbOk ?_
        refine evs (ev_ac rfl nofun rfl (evn ?_))
        refine ls_keep [(4, .bool false)] ⟨kr, trivial⟩ rfl ?_
        refine ls_ret ?_
        have q0 := (Option.some.inj h).symm
        have r0 := hr1
        rw [q0] at r0
        have hr := Option.some.inj r0
        rw [← hr]
        exact ⟨.inl rfl, rfl⟩
      · refine ls_cF rfl g13 ?_
        refine ls_skip ?_
        refine hK6 _ (ls_keep [(0, .dat a0.length (a0.flatMap c208_dd)), (1, .dat a1.length (a1.flatMap c208_dd)), (5, .int .i64 y1)] ⟨kr, kr, kr, trivial⟩ rfl ?_)
        refine ls_rgn tbOk ?_
        refine evs (ev_mv (c := .int .i64 y1) rfl rfl rfl (evs (ev_bin (c1 := .int .i64 y1) (c2 := .int .i64 1) rfl rfl rfl (evs (ev_as (c := .int .i64 (IntKind.i64.wrap (y1 + 1))) rfl rfl rfl (evn ?_))))))
        exact hN _ (IntKind.i64.wrap (y1 + 1)) h ⟨kr, kr, kr, trivial⟩
    · refine ls_cF rfl g5 ?_
      refine ls_exit ?_
      have q0 := (Option.some.inj h).symm
      have r0 := hr1
      rw [q0] at r0
      exact kXlaws_eqTableS_B1 () r0 _ trivial
def laws_eqDatabase (a0 : (List ((List UInt8) × (Int × (List (List Int)))))) (a1 : (List ((List UInt8) × (Int × (List (List Int)))))) : Option (Bool) := obind (laws_eqTableS a0 a1) fun v2 => cond (!v2) (some false) (some true)
theorem laws_eqDatabase_s {a0 : (List ((List UInt8) × (Int × (List (List Int)))))} {a1 : (List ((List UInt8) × (Int × (List (List Int)))))} {r : Bool} (h : laws_eqDatabase a0 a1 = some r) : SoundAt Try.prog 20 [.agg [.dat a0.length (a0.flatMap c208_dd)], .agg [.dat a1.length (a1.flatMap c208_dd)]] (.bool r) := by
  unfold laws_eqDatabase at h
  refine sound_lit tbOk lit20 (Nat.le_of_ble_eq_true rfl) rfl ?_
  unfold c20
  refine ls_keep [(0, .agg [.dat a0.length (a0.flatMap c208_dd)]), (1, .agg [.dat a1.length (a1.flatMap c208_dd)])] ⟨kr, kr, trivial⟩ rfl ?_
  refine ls_rs tbOk ?_
  refine evs (ev_bx (c1 := .agg [.dat a0.length (a0.flatMap c208_dd)]) rfl rfl rfl (evs (ev_bx (c1 := .agg [.dat a1.length (a1.flatMap c208_dd)]) rfl rfl rfl (evs (ev_ac rfl nofun rfl (evn ?_))))))
  refine ls_keep [(2, .box [.dat a0.length (a0.flatMap c208_dd)]), (3, .box [.dat a1.length (a1.flatMap c208_dd)])] ⟨kr, kr, trivial⟩ rfl ?_
  refine ls_seq_k fun K1 hK1 => ?_
  refine ls_rs tbOk ?_
  refine evs (ev_fa (c1 := .cref 2 0) (v := .cref 2 0) rfl rfl rfl ⟨_, rfl⟩ rfl (evs (ev_ldB (off := 0) (v := .dat a0.length (a0.flatMap c208_dd)) rfl rfl rfl rfl (Nat.le_of_ble_eq_true rfl) rfl (evs (ev_fa (c1 := .cref 3 0) (v := .cref 3 0) rfl rfl rfl ⟨_, rfl⟩ rfl (evs (ev_ldB (off := 0) (v := .dat a1.length (a1.flatMap c208_dd)) rfl rfl rfl rfl (Nat.le_of_ble_eq_true rfl) rfl (?_))))))))
  obtain ⟨v2, g3, h⟩ := ob_some h
  refine evs (ev_call (era rfl (erD ec208_dd _) (era rfl (erD ec208_dd _) eran)) (laws_eqTableS_s g3) (evs (ev_un (c1 := .bool v2) rfl trivial (evn ?_))))
  refine ls_keep [(10, .bool (!v2))] ⟨kr, trivial⟩ rfl ?_
  rcases cond_some h with ⟨g4, h⟩ | ⟨g4, h⟩
  · refine ls_cT rfl g4 ?_
    refine ls_rs tbOk ?_
    refine evs (ev_ac rfl nofun rfl (evn ?_))
    refine ls_keep [(4, .bool false)] ⟨kr, trivial⟩ rfl ?_
    refine ls_ret ?_
    have hr := Option.some.inj h
    rw [← hr]
    exact ⟨.inl rfl, rfl⟩
  · refine ls_cF rfl g4 ?_
    refine ls_skip ?_
    refine hK1 _ (ls_keep [] trivial rfl ?_)
    refine ls_rs tbOk ?_
    refine evs (ev_ac rfl nofun rfl (evn ?_))
    refine ls_keep [(4, .bool true)] ⟨kr, trivial⟩ rfl ?_
    refine ls_ret ?_
    have hr := Option.some.inj h
    rw [← hr]
    exact ⟨.inl rfl, rfl⟩
def laws_eqFunctionalDependency (a0 : (List UInt8) × (List Int) × Int) (a1 : (List UInt8) × (List Int) × Int) : Option (Bool) := cond (!(a0.1 == a1.1)) (some false) (obind (laws_eqIntS a0.2.1 a1.2.1) fun v4 => cond (!v4) (some false) (cond (a0.2.2 != a1.2.2) (some false) (some true)))
theorem laws_eqFunctionalDependency_s {a0 : (List UInt8) × (List Int) × Int} {a1 : (List UInt8) × (List Int) × Int} {r : Bool} (h : laws_eqFunctionalDependency a0 a1 = some r) : SoundAt Try.prog 21 [.agg [.str a0.1, .dat a0.2.1.length (a0.2.1.flatMap ci64), .int .i64 a0.2.2], .agg [.str a1.1, .dat a1.2.1.length (a1.2.1.flatMap ci64), .int .i64 a1.2.2]] (.bool r) := by
  unfold laws_eqFunctionalDependency at h
  refine sound_lit tbOk lit21 (Nat.le_of_ble_eq_true rfl) rfl ?_
  unfold c21
  refine ls_keep [(0, .agg [.str a0.1, .dat a0.2.1.length (a0.2.1.flatMap ci64), .int .i64 a0.2.2]), (1, .agg [.str a1.1, .dat a1.2.1.length (a1.2.1.flatMap ci64), .int .i64 a1.2.2])] ⟨kr, kr, trivial⟩ rfl ?_
  refine ls_rs tbOk ?_
  refine evs (ev_bx (c1 := .agg [.str a0.1, .dat a0.2.1.length (a0.2.1.flatMap ci64), .int .i64 a0.2.2]) rfl rfl rfl (evs (ev_bx (c1 := .agg [.str a1.1, .dat a1.2.1.length (a1.2.1.flatMap ci64), .int .i64 a1.2.2]) rfl rfl rfl (evs (ev_ac rfl nofun rfl (evn ?_))))))
  refine ls_keep [(2, .box [.str a0.1, .dat a0.2.1.length (a0.2.1.flatMap ci64), .int .i64 a0.2.2]), (3, .box [.str a1.1, .dat a1.2.1.length (a1.2.1.flatMap ci64), .int .i64 a1.2.2])] ⟨kr, kr, trivial⟩ rfl ?_
  refine ls_seq_k fun K1 hK1 => ?_
  refine ls_rs tbOk ?_
  refine evs (ev_fa (c1 := .cref 2 0) (v := .cref 2 0) rfl rfl rfl ⟨_, rfl⟩ rfl (evs (ev_ldB (off := 0) (v := .str a0.1) rfl rfl rfl rfl (Nat.le_of_ble_eq_true rfl) rfl (evs (ev_fa (c1 := .cref 3 0) (v := .cref 3 0) rfl rfl rfl ⟨_, rfl⟩ rfl (evs (ev_ldB (off := 0) (v := .str a1.1) rfl rfl rfl rfl (Nat.le_of_ble_eq_true rfl) rfl (evs (ev_bin (c1 := .str a0.1) (c2 := .str a1.1) rfl rfl trivial (evn ?_))))))))))
  refine ls_keep [(2, .box [.str a0.1, .dat a0.2.1.length (a0.2.1.flatMap ci64), .int .i64 a0.2.2]), (3, .box [.str a1.1, .dat a1.2.1.length (a1.2.1.flatMap ci64), .int .i64 a1.2.2]), (9, .bool (!(a0.1 == a1.1)))] ⟨kr, kr, kr, trivial⟩ rfl ?_
  rcases cond_some h with ⟨g2, h⟩ | ⟨g2, h⟩
  · refine ls_cT rfl g2 ?_
    refine ls_rs tbOk ?_
    refine evs (ev_ac rfl nofun rfl (evn ?_))
    refine ls_keep [(4, .bool false)] ⟨kr, trivial⟩ rfl ?_
    refine ls_ret ?_
    have hr := Option.some.inj h
    rw [← hr]
    exact ⟨.inl rfl, rfl⟩
  · refine ls_cF rfl g2 ?_
    refine ls_skip ?_
    refine hK1 _ (ls_keep [(2, .box [.str a0.1, .dat a0.2.1.length (a0.2.1.flatMap ci64), .int .i64 a0.2.2]), (3, .box [.str a1.1, .dat a1.2.1.length (a1.2.1.flatMap ci64), .int .i64 a1.2.2])] ⟨kr, kr, trivial⟩ rfl ?_)
    refine ls_seq_k fun K3 hK3 => ?_
    refine ls_rs tbOk ?_
    refine evs (ev_fa (c1 := .cref 2 0) (v := .cref 2 1) rfl rfl rfl ⟨_, rfl⟩ rfl (evs (ev_ldB (off := 1) (v := .dat a0.2.1.length (a0.2.1.flatMap ci64)) rfl rfl rfl rfl (Nat.le_of_ble_eq_true rfl) rfl (evs (ev_fa (c1 := .cref 3 0) (v := .cref 3 1) rfl rfl rfl ⟨_, rfl⟩ rfl (evs (ev_ldB (off := 1) (v := .dat a1.2.1.length (a1.2.1.flatMap ci64)) rfl rfl rfl rfl (Nat.le_of_ble_eq_true rfl) rfl (?_))))))))
    obtain ⟨v4, g5, h⟩ := ob_some h
    refine evs (ev_call (era rfl (erD eci64 _) (era rfl (erD eci64 _) eran)) (laws_eqIntS_s g5) (evs (ev_un (c1 := .bool v4) rfl trivial (evn ?_))))
    refine ls_keep [(2, .box [.str a0.1, .dat a0.2.1.length (a0.2.1.flatMap ci64), .int .i64 a0.2.2]), (3, .box [.str a1.1, .dat a1.2.1.length (a1.2.1.flatMap ci64), .int .i64 a1.2.2]), (15, .bool (!v4))] ⟨kr, kr, kr, trivial⟩ rfl ?_
    rcases cond_some h with ⟨g6, h⟩ | ⟨g6, h⟩
    · refine ls_cT rfl g6 ?_
      refine ls_rs tbOk ?_
      refine evs (ev_ac rfl nofun rfl (evn ?_))
      refine ls_keep [(4, .bool false)] ⟨kr, trivial⟩ rfl ?_
      refine ls_ret ?_
      have hr := Option.some.inj h
      rw [← hr]
      exact ⟨.inl rfl, rfl⟩
    · refine ls_cF rfl g6 ?_
      refine ls_skip ?_
      refine hK3 _ (ls_keep [(2, .box [.str a0.1, .dat a0.2.1.length (a0.2.1.flatMap ci64), .int .i64 a0.2.2]), (3, .box [.str a1.1, .dat a1.2.1.length (a1.2.1.flatMap ci64), .int .i64 a1.2.2])] ⟨kr, kr, trivial⟩ rfl ?_)
      refine ls_seq_k fun K7 hK7 => ?_
      refine ls_rs tbOk ?_
      refine evs (ev_fa (c1 := .cref 2 0) (v := .cref 2 2) rfl rfl rfl ⟨_, rfl⟩ rfl (evs (ev_ldB (off := 2) (v := .int .i64 a0.2.2) rfl rfl rfl rfl (Nat.le_of_ble_eq_true rfl) rfl (evs (ev_fa (c1 := .cref 3 0) (v := .cref 3 2) rfl rfl rfl ⟨_, rfl⟩ rfl (evs (ev_ldB (off := 2) (v := .int .i64 a1.2.2) rfl rfl rfl rfl (Nat.le_of_ble_eq_true rfl) rfl (evs (ev_bin (c1 := .int .i64 a0.2.2) (c2 := .int .i64 a1.2.2) rfl rfl rfl (evn ?_))))))))))
      refine ls_keep [(20, .bool (a0.2.2 != a1.2.2))] ⟨kr, trivial⟩ rfl ?_
      rcases cond_some h with ⟨g8, h⟩ | ⟨g8, h⟩
      · refine ls_cT rfl g8 ?_
        refine ls_rs tbOk ?_
        refine evs (ev_ac rfl nofun rfl (evn ?_))
        refine ls_keep [(4, .bool false)] ⟨kr, trivial⟩ rfl ?_
        refine ls_ret ?_
        have hr := Option.some.inj h
        rw [← hr]
        exact ⟨.inl rfl, rfl⟩
      · refine ls_cF rfl g8 ?_
        refine ls_skip ?_
        refine hK7 _ (ls_keep [] trivial rfl ?_)
        refine ls_rs tbOk ?_
        refine evs (ev_ac rfl nofun rfl (evn ?_))
        refine ls_keep [(4, .bool true)] ⟨kr, trivial⟩ rfl ?_
        refine ls_ret ?_
        have hr := Option.some.inj h
        rw [← hr]
        exact ⟨.inl rfl, rfl⟩
def laws_heldIntS_B1 (a0 : List Int) (rec : (Int × Int) → Option (Sum (Int) (Int))) (s : Int × Int) : Option (Sum (Int) (Int)) := match s with
  | (y1, y2) => cond (decide (y2 < (List.length a0 : Int))) (obind (geti a0 y2) fun e7 => cond (e7 != y1) (some (.inr (-1))) (rec ((IntKind.i64.wrap (y1 + 1)), (IntKind.i64.wrap (y2 + 1))))) (some (.inl y1))
def laws_heldIntS (a0 : List Int) (a1 : Int) : Option (Int) := obind (loopF (laws_heldIntS_B1 a0) fz (a1, 0)) fun o1 => (match o1 with
  | .inl z2 => (some z2)
  | .inr r => some r)
theorem laws_heldIntS_s {a0 : List Int} {a1 : Int} {r : Int} (h : laws_heldIntS a0 a1 = some r) : SoundAt Try.prog 25 [.dat a0.length (a0.flatMap ci64), .int .i64 a1] (.int .i64 r) := by
  unfold laws_heldIntS at h
  refine sound_lit tbOk lit25 (Nat.le_of_ble_eq_true rfl) rfl ?_
  unfold c25
  refine ls_keep [(0, .dat a0.length (a0.flatMap ci64)), (1, .int .i64 a1)] ⟨kr, kr, trivial⟩ rfl ?_
  refine ls_rs tbOk ?_
  refine evs (ev_ac rfl nofun rfl (evn ?_))
  refine ls_keep [(0, .dat a0.length (a0.flatMap ci64)), (1, .int .i64 a1)] ⟨kr, kr, trivial⟩ rfl ?_
  refine ls_seq_k fun K1 hK1 => ?_
  refine ls_rs tbOk ?_
  refine evs (ev_ac rfl nofun rfl (evn ?_))
  refine ls_keep [(0, .dat a0.length (a0.flatMap ci64)), (1, .int .i64 a1), (5, .int .i64 0)] ⟨kr, kr, kr, trivial⟩ rfl ?_
  obtain ⟨o1, hl, hr1⟩ := ob_some h
  clear h
  have kXlaws_heldIntS_B1 : ∀ (z2 : Int), (some z2) = some r → ∀ σ' : PS, okK σ' [(1, .int .i64 z2)] → K1 σ' := by
    intro z2 h σ' hk
    refine hK1 _ (ls_keep [(1, .int .i64 z2)] hk rfl ?_)
    refine ls_rs tbOk ?_
    refine evs (ev_mv (c := .int .i64 z2) rfl rfl rfl (evs (ev_as (c := .int .i64 z2) rfl rfl rfl (evn ?_))))
    refine ls_keep [(4, .int .i64 z2)] ⟨kr, trivial⟩ rfl ?_
    refine ls_ret ?_
    have hr := Option.some.inj h
    rw [← hr]
    exact ⟨.inl rfl, rfl⟩
  refine ls_rec (fun (s : Int × Int) => match s with | (y1, y2) => [(0, .dat a0.length (a0.flatMap ci64)), (1, .int .i64 y1), (5, .int .i64 y2)]) (laws_heldIntS_B1 a0) fz (a1, 0) o1 hl ⟨kr, kr, kr, trivial⟩ (fun _ => rfl) ?_
  rintro m ⟨y1, y2⟩ N h hN
  unfold laws_heldIntS_B1 at h
  dsimp only at h
  refine ls_seq_k fun K3 hK3 => ?_
  refine ls_rs tbOk ?_
  refine evs (ev_mv (c := .int .i64 y2) rfl rfl rfl (evs (ev_mv (c := .dat a0.length (a0.flatMap ci64)) rfl rfl rfl (evs (ev_len (c1 := .dat a0.length (a0.flatMap ci64)) rfl rfl rfl (evs (ev_bin (c1 := .int .i64 y2) (c2 := .int .i64 (List.length a0 : Int)) rfl rfl rfl (evn ?_))))))))
  refine ls_keep [(0, .dat a0.length (a0.flatMap ci64)), (1, .int .i64 y1), (5, .int .i64 y2), (9, .bool (decide (y2 < (List.length a0 : Int))))] ⟨kr, kr, kr, kr, trivial⟩ rfl ?_
  rcases cond_some h with ⟨g4, h⟩ | ⟨g4, h⟩
  · refine ls_cT rfl g4 ?_
    refine ls_skip ?_
    refine hK3 _ (ls_keep [(0, .dat a0.length (a0.flatMap ci64)), (1, .int .i64 y1), (5, .int .i64 y2)] ⟨kr, kr, kr, trivial⟩ rfl ?_)
    refine ls_seq_k fun K5 hK5 => ?_
    refine ls_blk ?_
    refine ls_seq_k fun K6 hK6 => ?_
    refine ls_rs tbOk ?_
    refine evs (ev_mv (c := .dat a0.length (a0.flatMap ci64)) rfl rfl rfl (evs (ev_mv (c := .int .i64 y2) rfl rfl rfl (?_))))
    obtain ⟨e7, g8, h⟩ := ob_some h
    refine evs (ev_ia rfl rfl rfl ⟨(geti_some g8).1, (geti_some g8).2.1⟩ (evs (ev_ldE (i := y2) (n := 1) (off := 0) (v := .int .i64 e7) rfl rfl zci64 g8 rfl (Nat.le_of_ble_eq_true rfl) rfl (evs (ev_mv (c := .int .i64 y1) rfl rfl rfl (evs (ev_bin (c1 := .int .i64 e7) (c2 := .int .i64 y1) rfl rfl rfl (evn ?_))))))))
    refine ls_keep [(0, .dat a0.length (a0.flatMap ci64)), (1, .int .i64 y1), (5, .int .i64 y2), (17, .bool (e7 != y1))] ⟨kr, kr, kr, kr, trivial⟩ rfl ?_
    rcases cond_some h with ⟨g9, h⟩ | ⟨g9, h⟩
    · refine ls_cT rfl g9 ?_
      refine ls_rs tbOk ?_
      refine evs (ev_ac rfl nofun rfl (evn ?_))
      refine ls_keep [(4, .int .i64 (-1))] ⟨kr, trivial⟩ rfl ?_
      refine ls_ret ?_
      have q0 := (Option.some.inj h).symm
      have r0 := hr1
      rw [q0] at r0
      have hr := Option.some.inj r0
      rw [← hr]
      exact ⟨.inl rfl, rfl⟩
    · refine ls_cF rfl g9 ?_
      refine ls_skip ?_
      refine hK6 _ (ls_keep [(0, .dat a0.length (a0.flatMap ci64)), (1, .int .i64 y1), (5, .int .i64 y2)] ⟨kr, kr, kr, trivial⟩ rfl ?_)
      refine ls_rgn tbOk ?_
      refine evs (ev_mv (c := .int .i64 y1) rfl rfl rfl (evs (ev_bin (c1 := .int .i64 y1) (c2 := .int .i64 1) rfl rfl rfl (evs (ev_as (c := .int .i64 (IntKind.i64.wrap (y1 + 1))) rfl rfl rfl (evn ?_))))))
      refine hK5 _ (ls_keep [(0, .dat a0.length (a0.flatMap ci64)), (1, .int .i64 (IntKind.i64.wrap (y1 + 1))), (5, .int .i64 y2)] ⟨kr, kr, kr, trivial⟩ rfl ?_)
      refine ls_rgn tbOk ?_
      refine evs (ev_mv (c := .int .i64 y2) rfl rfl rfl (evs (ev_bin (c1 := .int .i64 y2) (c2 := .int .i64 1) rfl rfl rfl (evs (ev_as (c := .int .i64 (IntKind.i64.wrap (y2 + 1))) rfl rfl rfl (evn ?_))))))
      exact hN _ ((IntKind.i64.wrap (y1 + 1)), (IntKind.i64.wrap (y2 + 1))) h ⟨kr, kr, kr, trivial⟩
  · refine ls_cF rfl g4 ?_
    refine ls_exit ?_
    have q0 := (Option.some.inj h).symm
    have r0 := hr1
    rw [q0] at r0
    exact kXlaws_heldIntS_B1 y1 r0 _ ⟨kr, trivial⟩
def laws_FnExactFDViolation (a0 : (List ((List UInt8) × (Int × (List (List Int)))))) (a1 : (List UInt8) × (List Int) × Int) : Option (Bool) := obind (laws_szDatabase a0 1048576) fun v1 => cond (decide (v1 < 0)) (some true) (obind (laws_szFunctionalDependency a1 v1) fun v5 => cond (decide (v5 < 0)) (some true) (obind (laws_toDatabase a0) fun v9 => obind (laws_toFunctionalDependency a1) fun v11 => obind (spec_FDViolation v9 v11) fun v13 => obind (laws_toDatabase a0) fun v15 => obind (laws_toFunctionalDependency a1) fun v17 => obind (impl_FDViolation v15 v17) fun v19 => obind (laws_eqIntS v19 v13) fun v22 => cond (!v22) (some false) (obind (laws_toDatabase a0) fun v26 => obind (laws_eqDatabase v15 v26) fun v28 => cond (!v28) (some false) (obind (laws_toFunctionalDependency a1) fun v32 => obind (laws_eqFunctionalDependency v17 v32) fun v34 => cond (!v34) (some false) (obind (laws_markDatabase v15 1) fun v37 => obind (laws_markFunctionalDependency v17 v37.2) fun v39 => cond (decide (v39.2 < 0)) (some false) (obind (laws_eqIntS v19 v13) fun v43 => cond (!v43) (some false) (obind (laws_markIntS v19 1) fun v46 => obind (laws_heldIntS v46.1 1) fun v48 => cond (decide (v48 < 0)) (some false) (cond (v48 != v46.2) (some false) (obind (laws_toDatabase a0) fun v54 => obind (laws_toFunctionalDependency a1) fun v56 => obind (impl_FDViolation v54 v56) fun v58 => obind (laws_eqIntS v58 v13) fun v61 => cond (!v61) (some false) (obind (laws_heldIntS v46.1 1) fun v64 => cond (decide (v64 < 0)) (some false) (cond (v64 != v46.2) (some false) (some true))))))))))))
theorem laws_FnExactFDViolation_s {a0 : (List ((List UInt8) × (Int × (List (List Int)))))} {a1 : (List UInt8) × (List Int) × Int} {r : Bool} (h : laws_FnExactFDViolation a0 a1 = some r) : SoundAt Try.prog 3 [.agg [.arg a0.length (a0.flatMap c206_aa)], .agg [.str a1.1, .arg a1.2.1.length (a1.2.1.flatMap ci64), .int .i64 a1.2.2]] (.bool r) := by
  unfold laws_FnExactFDViolation at h
  refine sound_lit tbOk lit3 (Nat.le_of_ble_eq_true rfl) rfl ?_
  unfold c3
  refine ls_keep [(0, .agg [.arg a0.length (a0.flatMap c206_aa)]), (1, .agg [.str a1.1, .arg a1.2.1.length (a1.2.1.flatMap ci64), .int .i64 a1.2.2])] ⟨kr, kr, trivial⟩ rfl ?_
  refine ls_rs tbOk ?_
  refine evs (ev_bx (c1 := .agg [.arg a0.length (a0.flatMap c206_aa)]) rfl rfl rfl (evs (ev_bx (c1 := .agg [.str a1.1, .arg a1.2.1.length (a1.2.1.flatMap ci64), .int .i64 a1.2.2]) rfl rfl rfl (evs (ev_ac rfl nofun rfl (evn ?_))))))
  refine ls_keep [(2, .box [.arg a0.length (a0.flatMap c206_aa)]), (3, .box [.str a1.1, .arg a1.2.1.length (a1.2.1.flatMap ci64), .int .i64 a1.2.2])] ⟨kr, kr, trivial⟩ rfl ?_
  refine ls_rs tbOk ?_
  refine evs (ev_ac rfl nofun rfl (evn ?_))
  refine ls_keep [(2, .box [.arg a0.length (a0.flatMap c206_aa)]), (3, .box [.str a1.1, .arg a1.2.1.length (a1.2.1.flatMap ci64), .int .i64 a1.2.2]), (5, .int .i64 1048576)] ⟨kr, kr, kr, trivial⟩ rfl ?_
  refine ls_rs tbOk ?_
  refine evs (ev_ldB (off := 0) (v := .agg [.arg a0.length (a0.flatMap c206_aa)]) rfl rfl rfl rfl (Nat.le_of_ble_eq_true rfl) rfl (evs (ev_mv (c := .int .i64 1048576) rfl rfl rfl (?_))))
  obtain ⟨v1, g2, h⟩ := ob_some h
  refine evs (ev_call (era rfl (erg (erc (erG ec206_aa _) rfl)) (era rfl rfl eran)) (laws_szDatabase_s g2) (evs (ev_as (c := .int .i64 v1) rfl rfl rfl (evn ?_))))
  refine ls_keep [(2, .box [.arg a0.length (a0.flatMap c206_aa)]), (3, .box [.str a1.1, .arg a1.2.1.length (a1.2.1.flatMap ci64), .int .i64 a1.2.2]), (5, .int .i64 v1)] ⟨kr, kr, kr, trivial⟩ rfl ?_
  refine ls_seq_k fun K3 hK3 => ?_
  refine ls_rs tbOk ?_
  refine evs (ev_mv (c := .int .i64 v1) rfl rfl rfl (evs (ev_bin (c1 := .int .i64 v1) (c2 := .int .i64 0) rfl rfl rfl (evn ?_))))
  refine ls_keep [(2, .box [.arg a0.length (a0.flatMap c206_aa)]), (3, .box [.str a1.1, .arg a1.2.1.length (a1.2.1.flatMap ci64), .int .i64 a1.2.2]), (5, .int .i64 v1), (18, .bool (decide (v1 < 0)))] ⟨kr, kr, kr, kr, trivial⟩ rfl ?_
  rcases cond_some h with ⟨g4, h⟩ | ⟨g4, h⟩
  · refine ls_cT rfl g4 ?_
    refine ls_rs tbOk ?_
    refine evs (ev_ac rfl nofun rfl (evn ?_))
    refine ls_keep [(4, .bool true)] ⟨kr, trivial⟩ rfl ?_
    refine ls_ret ?_
    have hr := Option.some.inj h
    rw [← hr]
    exact ⟨.inl rfl, rfl⟩
  · refine ls_cF rfl g4 ?_
    refine ls_skip ?_
    refine hK3 _ (ls_keep [(2, .box [.arg a0.length (a0.flatMap c206_aa)]), (3, .box [.str a1.1, .arg a1.2.1.length (a1.2.1.flatMap ci64), .int .i64 a1.2.2]), (5, .int .i64 v1)] ⟨kr, kr, kr, trivial⟩ rfl ?_)
    refine ls_rs tbOk ?_
    refine evs (ev_ldB (off := 0) (v := .agg [.str a1.1, .arg a1.2.1.length (a1.2.1.flatMap ci64), .int .i64 a1.2.2]) rfl rfl rfl rfl (Nat.le_of_ble_eq_true rfl) rfl (evs (ev_mv (c := .int .i64 v1) rfl rfl rfl (?_))))
    obtain ⟨v5, g6, h⟩ := ob_some h
    refine evs (ev_call (era rfl (erg (erc rfl (erc (erG eci64 _) (erc rfl rfl)))) (era rfl rfl eran)) (laws_szFunctionalDependency_s g6) (evs (ev_as (c := .int .i64 v5) rfl rfl rfl (evn ?_))))
    refine ls_keep [(2, .box [.arg a0.length (a0.flatMap c206_aa)]), (3, .box [.str a1.1, .arg a1.2.1.length (a1.2.1.flatMap ci64), .int .i64 a1.2.2]), (5, .int .i64 v5)] ⟨kr, kr, kr, trivial⟩ rfl ?_
    refine ls_seq_k fun K7 hK7 => ?_
    refine ls_rs tbOk ?_
    refine evs (ev_mv (c := .int .i64 v5) rfl rfl rfl (evs (ev_bin (c1 := .int .i64 v5) (c2 := .int .i64 0) rfl rfl rfl (evn ?_))))
    refine ls_keep [(2, .box [.arg a0.length (a0.flatMap c206_aa)]), (3, .box [.str a1.1, .arg a1.2.1.length (a1.2.1.flatMap ci64), .int .i64 a1.2.2]), (23, .bool (decide (v5 < 0)))] ⟨kr, kr, kr, trivial⟩ rfl ?_
    rcases cond_some h with ⟨g8, h⟩ | ⟨g8, h⟩
    · refine ls_cT rfl g8 ?_
      refine ls_rs tbOk ?_
      refine evs (ev_ac rfl nofun rfl (evn ?_))
      refine ls_keep [(4, .bool true)] ⟨kr, trivial⟩ rfl ?_
      refine ls_ret ?_
      have hr := Option.some.inj h
      rw [← hr]
      exact ⟨.inl rfl, rfl⟩
    · refine ls_cF rfl g8 ?_
      refine ls_skip ?_
      refine hK7 _ (ls_keep [(2, .box [.arg a0.length (a0.flatMap c206_aa)]), (3, .box [.str a1.1, .arg a1.2.1.length (a1.2.1.flatMap ci64), .int .i64 a1.2.2])] ⟨kr, kr, trivial⟩ rfl ?_)
      refine ls_rd tbOk mixed (by kernel_rfl) ?_
      refine evd rfl rfl (ev_ldB (off := 0) (v := .agg [.arg a0.length (a0.flatMap c206_aa)]) rfl rfl rfl rfl (Nat.le_of_ble_eq_true rfl) rfl (?_))
      obtain ⟨v9, g10, h⟩ := ob_some h
      refine evd rfl rfl (ev_call (era rfl (erg (erc (erG ec206_aa _) rfl)) eran) (laws_toDatabase_s g10) (evd rfl rfl (ev_ldB (off := 0) (v := .agg [.str a1.1, .arg a1.2.1.length (a1.2.1.flatMap ci64), .int .i64 a1.2.2]) rfl rfl rfl rfl (Nat.le_of_ble_eq_true rfl) rfl (?_))))
      obtain ⟨v11, g12, h⟩ := ob_some h
      refine evd rfl rfl (ev_call (era rfl (erg (erc rfl (erc (erG eci64 _) (erc rfl rfl)))) eran) (laws_toFunctionalDependency_s g12) (?_))
      obtain ⟨v13, g14, h⟩ := ob_some h
      refine evd rfl rfl (ev_call (era rfl (erg (erc (erO ec208_oo _) rfl)) (era rfl (erg (erc rfl (erc (erO eci64 _) (erc rfl rfl)))) eran)) (spec_FDViolation_s g14) (evd rfl rfl (ev_as (c := .own 3 v13.length (v13.flatMap ci64)) rfl rfl rfl (evdn ?_))))
      refine ls_keep [(2, .box [.arg a0.length (a0.flatMap c206_aa)]), (3, .box [.str a1.1, .arg a1.2.1.length (a1.2.1.flatMap ci64), .int .i64 a1.2.2]), (6, .own 3 v13.length (v13.flatMap ci64))] ⟨kr, kr, kr, trivial⟩ rfl ?_
      refine ls_rs tbOk ?_
      refine evs (ev_ldB (off := 0) (v := .agg [.arg a0.length (a0.flatMap c206_aa)]) rfl rfl rfl rfl (Nat.le_of_ble_eq_true rfl) rfl (?_))
      obtain ⟨v15, g16, h⟩ := ob_some h
      refine evs (ev_call (era rfl (erg (erc (erG ec206_aa _) rfl)) eran) (laws_toDatabase_s g16) (evs (ev_al rfl rfl (evs (ev_st (off := 0) (c1 := .agg [.own 208 v15.length (v15.flatMap c208_oo)]) (cs' := [.own 208 v15.length (v15.flatMap c208_oo)]) rfl rfl rfl rfl rfl rfl (Nat.le_of_ble_eq_true rfl) rfl (evn ?_))))))
      refine ls_keep [(2, .box [.arg a0.length (a0.flatMap c206_aa)]), (3, .box [.str a1.1, .arg a1.2.1.length (a1.2.1.flatMap ci64), .int .i64 a1.2.2]), (6, .own 3 v13.length (v13.flatMap ci64)), (7, .box [.own 208 v15.length (v15.flatMap c208_oo)])] ⟨kr, kr, kr, kr, trivial⟩ rfl ?_
      refine ls_rs tbOk ?_
      refine evs (ev_ldB (off := 0) (v := .agg [.str a1.1, .arg a1.2.1.length (a1.2.1.flatMap ci64), .int .i64 a1.2.2]) rfl rfl rfl rfl (Nat.le_of_ble_eq_true rfl) rfl (?_))
      obtain ⟨v17, g18, h⟩ := ob_some h
      refine evs (ev_call (era rfl (erg (erc rfl (erc (erG eci64 _) (erc rfl rfl)))) eran) (laws_toFunctionalDependency_s g18) (evs (ev_al rfl rfl (evs (ev_st (off := 0) (c1 := .agg [.str v17.1, .own 3 v17.2.1.length (v17.2.1.flatMap ci64), .int .i64 v17.2.2]) (cs' := [.str v17.1, .own 3 v17.2.1.length (v17.2.1.flatMap ci64), .int .i64 v17.2.2]) rfl rfl rfl rfl rfl rfl (Nat.le_of_ble_eq_true rfl) rfl (evn ?_))))))
      refine ls_keep [(2, .box [.arg a0.length (a0.flatMap c206_aa)]), (3, .box [.str a1.1, .arg a1.2.1.length (a1.2.1.flatMap ci64), .int .i64 a1.2.2]), (6, .own 3 v13.length (v13.flatMap ci64)), (7, .box [.own 208 v15.length (v15.flatMap c208_oo)]), (8, .box [.str v17.1, .own 3 v17.2.1.length (v17.2.1.flatMap ci64), .int .i64 v17.2.2])] ⟨kr, kr, kr, kr, kr, trivial⟩ rfl ?_
      refine ls_rs tbOk ?_
      refine evs (ev_ldB (off := 0) (v := .agg [.dat v15.length (v15.flatMap c208_oo)]) rfl rfl rfl rfl (Nat.le_of_ble_eq_true rfl) rfl (evs (ev_ldB (off := 0) (v := .agg [.str v17.1, .dat v17.2.1.length (v17.2.1.flatMap ci64), .int .i64 v17.2.2]) rfl rfl rfl rfl (Nat.le_of_ble_eq_true rfl) rfl (?_))))
      obtain ⟨v19, g20, h⟩ := ob_some h
      refine evs (ev_call (era rfl (erg (erc (erD ec208_oo _) rfl)) (era rfl (erg (erc rfl (erc (erD eci64 _) (erc rfl rfl)))) eran)) (impl_FDViolation_s g20) (evs (ev_as (c := .own 3 v19.length (v19.flatMap ci64)) rfl rfl rfl (evn ?_))))
      refine ls_keep [(2, .box [.arg a0.length (a0.flatMap c206_aa)]), (3, .box [.str a1.1, .arg a1.2.1.length (a1.2.1.flatMap ci64), .int .i64 a1.2.2]), (6, .own 3 v13.length (v13.flatMap ci64)), (7, .box [.own 208 v15.length (v15.flatMap c208_oo)]), (8, .box [.str v17.1, .own 3 v17.2.1.length (v17.2.1.flatMap ci64), .int .i64 v17.2.2]), (9, .own 3 v19.length (v19.flatMap ci64))] ⟨kr, kr, kr, kr, kr, kr, trivial⟩ rfl ?_
      refine ls_seq_k fun K21 hK21 => ?_
      refine ls_rs tbOk ?_
      refine evs (ev_mv (c := .own 3 v19.length (v19.flatMap ci64)) rfl rfl rfl (evs (ev_mv (c := .own 3 v13.length (v13.flatMap ci64)) rfl rfl rfl (?_))))
      obtain ⟨v22, g23, h⟩ := ob_some h
      refine evs (ev_call (era rfl (erD eci64 _) (era rfl (erD eci64 _) eran)) (laws_eqIntS_s g23) (evs (ev_un (c1 := .bool v22) rfl trivial (evn ?_))))
      refine ls_keep [(2, .box [.arg a0.length (a0.flatMap c206_aa)]), (3, .box [.str a1.1, .arg a1.2.1.length (a1.2.1.flatMap ci64), .int .i64 a1.2.2]), (6, .own 3 v13.length (v13.flatMap ci64)), (7, .box [.own 208 v15.length (v15.flatMap c208_oo)]), (8, .box [.str v17.1, .own 3 v17.2.1.length (v17.2.1.flatMap ci64), .int .i64 v17.2.2]), (9, .own 3 v19.length (v19.flatMap ci64)), (39, .bool (!v22))] ⟨kr, kr, kr, kr, kr, kr, kr, trivial⟩ rfl ?_
      rcases cond_some h with ⟨g24, h⟩ | ⟨g24, h⟩
      · refine ls_cT rfl g24 ?_
        refine ls_rs tbOk ?_
        refine evs (ev_ac rfl nofun rfl (evn ?_))
        refine ls_keep [(4, .bool false)] ⟨kr, trivial⟩ rfl ?_
        refine ls_ret ?_
        have hr := Option.some.inj h
        rw [← hr]
        exact ⟨.inl rfl, rfl⟩
      · refine ls_cF rfl g24 ?_
        refine ls_skip ?_
        refine hK21 _ (ls_keep [(2, .box [.arg a0.length (a0.flatMap c206_aa)]), (3, .box [.str a1.1, .arg a1.2.1.length (a1.2.1.flatMap ci64), .int .i64 a1.2.2]), (6, .own 3 v13.length (v13.flatMap ci64)), (7, .box [.own 208 v15.length (v15.flatMap c208_oo)]), (8, .box [.str v17.1, .own 3 v17.2.1.length (v17.2.1.flatMap ci64), .int .i64 v17.2.2]), (9, .own 3 v19.length (v19.flatMap ci64))] ⟨kr, kr, kr, kr, kr, kr, trivial⟩ rfl ?_)
        refine ls_seq_k fun K25 hK25 => ?_
        refine ls_rd tbOk mixed (by kernel_rfl) ?_
        refine evd rfl rfl (ev_ldB (off := 0) (v := .agg [.dat v15.length (v15.flatMap c208_oo)]) rfl rfl rfl rfl (Nat.le_of_ble_eq_true rfl) rfl (evd rfl rfl (ev_ldB (off := 0) (v := .agg [.arg a0.length (a0.flatMap c206_aa)]) rfl rfl rfl rfl (Nat.le_of_ble_eq_true rfl) rfl (?_))))
        obtain ⟨v26, g27, h⟩ := ob_some h
        refine evd rfl rfl (ev_call (era rfl (erg (erc (erG ec206_aa _) rfl)) eran) (laws_toDatabase_s g27) (?_))
        obtain ⟨v28, g29, h⟩ := ob_some h
        refine evd rfl rfl (ev_call (era rfl (erg (erc (erD ec208_oo _) rfl)) (era rfl (erg (erc (erO ec208_oo _) rfl)) eran)) (laws_eqDatabase_s g29) (evd rfl rfl (ev_un (c1 := .bool v28) rfl trivial (evdn ?_))))
        refine ls_keep [(2, .box [.arg a0.length (a0.flatMap c206_aa)]), (3, .box [.str a1.1, .arg a1.2.1.length (a1.2.1.flatMap ci64), .int .i64 a1.2.2]), (6, .own 3 v13.length (v13.flatMap ci64)), (7, .box [.own 208 v15.length (v15.flatMap c208_oo)]), (8, .box [.str v17.1, .own 3 v17.2.1.length (v17.2.1.flatMap ci64), .int .i64 v17.2.2]), (9, .own 3 v19.length (v19.flatMap ci64)), (44, .bool (!v28))] ⟨kr, kr, kr, kr, kr, kr, kr, trivial⟩ rfl ?_
        rcases cond_some h with ⟨g30, h⟩ | ⟨g30, h⟩
        · refine ls_cT rfl g30 ?_
          refine ls_rs tbOk ?_
          refine evs (ev_ac rfl nofun rfl (evn ?_))
          refine ls_keep [(4, .bool false)] ⟨kr, trivial⟩ rfl ?_
          refine ls_ret ?_
          have hr := Option.some.inj h
          rw [← hr]
          exact ⟨.inl rfl, rfl⟩
        · refine ls_cF rfl g30 ?_
          refine ls_skip ?_
          refine hK25 _ (ls_keep [(2, .box [.arg a0.length (a0.flatMap c206_aa)]), (3, .box [.str a1.1, .arg a1.2.1.length (a1.2.1.flatMap ci64), .int .i64 a1.2.2]), (6, .own 3 v13.length (v13.flatMap ci64)), (7, .box [.own 208 v15.length (v15.flatMap c208_oo)]), (8, .box [.str v17.1, .own 3 v17.2.1.length (v17.2.1.flatMap ci64), .int .i64 v17.2.2]), (9, .own 3 v19.length (v19.flatMap ci64))] ⟨kr, kr, kr, kr, kr, kr, trivial⟩ rfl ?_)
          refine ls_seq_k fun K31 hK31 => ?_
          refine ls_rd tbOk mixed (by kernel_rfl) ?_
          refine evd rfl rfl (ev_ldB (off := 0) (v := .agg [.str v17.1, .dat v17.2.1.length (v17.2.1.flatMap ci64), .int .i64 v17.2.2]) rfl rfl rfl rfl (Nat.le_of_ble_eq_true rfl) rfl (evd rfl rfl (ev_ldB (off := 0) (v := .agg [.str a1.1, .arg a1.2.1.length (a1.2.1.flatMap ci64), .int .i64 a1.2.2]) rfl rfl rfl rfl (Nat.le_of_ble_eq_true rfl) rfl (?_))))
          obtain ⟨v32, g33, h⟩ := ob_some h
          refine evd rfl rfl (ev_call (era rfl (erg (erc rfl (erc (erG eci64 _) (erc rfl rfl)))) eran) (laws_toFunctionalDependency_s g33) (?_))
          obtain ⟨v34, g35, h⟩ := ob_some h
          refine evd rfl rfl (ev_call (era rfl (erg (erc rfl (erc (erD eci64 _) (erc rfl rfl)))) (era rfl (erg (erc rfl (erc (erO eci64 _) (erc rfl rfl)))) eran)) (laws_eqFunctionalDependency_s g35) (evd rfl rfl (ev_un (c1 := .bool v34) rfl trivial (evdn ?_))))
          refine ls_keep [(2, .box [.arg a0.length (a0.flatMap c206_aa)]), (3, .box [.str a1.1, .arg a1.2.1.length (a1.2.1.flatMap ci64), .int .i64 a1.2.2]), (6, .own 3 v13.length (v13.flatMap ci64)), (7, .box [.own 208 v15.length (v15.flatMap c208_oo)]), (8, .box [.str v17.1, .own 3 v17.2.1.length (v17.2.1.flatMap ci64), .int .i64 v17.2.2]), (9, .own 3 v19.length (v19.flatMap ci64)), (49, .bool (!v34))] ⟨kr, kr, kr, kr, kr, kr, kr, trivial⟩ rfl ?_
          rcases cond_some h with ⟨g36, h⟩ | ⟨g36, h⟩
          · refine ls_cT rfl g36 ?_
            refine ls_rs tbOk ?_
            refine evs (ev_ac rfl nofun rfl (evn ?_))
            refine ls_keep [(4, .bool false)] ⟨kr, trivial⟩ rfl ?_
            refine ls_ret ?_
            have hr := Option.some.inj h
            rw [← hr]
            exact ⟨.inl rfl, rfl⟩
          · refine ls_cF rfl g36 ?_
            refine ls_skip ?_
            refine hK31 _ (ls_keep [(2, .box [.arg a0.length (a0.flatMap c206_aa)]), (3, .box [.str a1.1, .arg a1.2.1.length (a1.2.1.flatMap ci64), .int .i64 a1.2.2]), (6, .own 3 v13.length (v13.flatMap ci64)), (7, .box [.own 208 v15.length (v15.flatMap c208_oo)]), (8, .box [.str v17.1, .own 3 v17.2.1.length (v17.2.1.flatMap ci64), .int .i64 v17.2.2]), (9, .own 3 v19.length (v19.flatMap ci64))] ⟨kr, kr, kr, kr, kr, kr, trivial⟩ rfl ?_)
            refine ls_rs tbOk ?_
            refine evs (ev_ac rfl nofun rfl (evn ?_))
            refine ls_keep [(2, .box [.arg a0.length (a0.flatMap c206_aa)]), (3, .box [.str a1.1, .arg a1.2.1.length (a1.2.1.flatMap ci64), .int .i64 a1.2.2]), (6, .own 3 v13.length (v13.flatMap ci64)), (7, .box [.own 208 v15.length (v15.flatMap c208_oo)]), (8, .box [.str v17.1, .own 3 v17.2.1.length (v17.2.1.flatMap ci64), .int .i64 v17.2.2]), (9, .own 3 v19.length (v19.flatMap ci64)), (10, .int .i64 1)] ⟨kr, kr, kr, kr, kr, kr, kr, trivial⟩ rfl ?_
            refine ls_keep [(2, .box [.arg a0.length (a0.flatMap c206_aa)]), (3, .box [.str a1.1, .arg a1.2.1.length (a1.2.1.flatMap ci64), .int .i64 a1.2.2]), (6, .own 3 v13.length (v13.flatMap ci64)), (7, .box [.own 208 v15.length (v15.flatMap c208_oo)]), (8, .box [.str v17.1, .own 3 v17.2.1.length (v17.2.1.flatMap ci64), .int .i64 v17.2.2]), (9, .own 3 v19.length (v19.flatMap ci64)), (10, .int .i64 1)] ⟨kr, kr, kr, kr, kr, kr, kr, trivial⟩ rfl ?_
            obtain ⟨v37, g38, h⟩ := ob_some h
            refine ls_mark (src_box tbOk rfl rfl rfl) rfl rfl (laws_markDatabase_m g38) (dp33 _) (sf_of (sfc (scc (sca ad206 _) scn) (sfc (scc rfl (scc (sca (fun _ => rfl) _) (scc rfl scn))) (sfc (deep_flat (fun _ => rfl) _) (sfs (sfc (scc rfl (scc (sco (fun _ => rfl) _) (scc rfl scn))) (sfc (deep_flat (fun _ => rfl) _) (sfc rfl sfn)))))))) rfl rfl ⟨by decide, by decide⟩ rfl ?_
            refine ls_keep [(2, .box [.arg a0.length (a0.flatMap c206_aa)]), (3, .box [.str a1.1, .arg a1.2.1.length (a1.2.1.flatMap ci64), .int .i64 a1.2.2]), (6, .own 3 v13.length (v13.flatMap ci64)), (8, .box [.str v17.1, .own 3 v17.2.1.length (v17.2.1.flatMap ci64), .int .i64 v17.2.2]), (9, .own 3 v19.length (v19.flatMap ci64)), (10, .int .i64 v37.2)] ⟨kr, kr, kr, kr, kr, kr, trivial⟩ rfl ?_
            refine ls_keep [(2, .box [.arg a0.length (a0.flatMap c206_aa)]), (3, .box [.str a1.1, .arg a1.2.1.length (a1.2.1.flatMap ci64), .int .i64 a1.2.2]), (6, .own 3 v13.length (v13.flatMap ci64)), (8, .box [.str v17.1, .own 3 v17.2.1.length (v17.2.1.flatMap ci64), .int .i64 v17.2.2]), (9, .own 3 v19.length (v19.flatMap ci64)), (10, .int .i64 v37.2)] ⟨kr, kr, kr, kr, kr, kr, trivial⟩ rfl ?_
            obtain ⟨v39, g40, h⟩ := ob_some h
            refine ls_mark (src_box tbOk rfl rfl rfl) rfl rfl (laws_markFunctionalDependency_m g40) (dp35 _) (sf_of (sfc (scc (sca ad206 _) scn) (sfc (scc rfl (scc (sca (fun _ => rfl) _) (scc rfl scn))) (sfc (deep_flat (fun _ => rfl) _) (sfs (sfc (deep_flat (fun _ => rfl) _) (sfc rfl sfn))))))) rfl rfl ⟨by decide, by decide⟩ rfl ?_
            refine ls_keep [(2, .box [.arg a0.length (a0.flatMap c206_aa)]), (3, .box [.str a1.1, .arg a1.2.1.length (a1.2.1.flatMap ci64), .int .i64 a1.2.2]), (6, .own 3 v13.length (v13.flatMap ci64)), (9, .own 3 v19.length (v19.flatMap ci64)), (10, .int .i64 v39.2)] ⟨kr, kr, kr, kr, kr, trivial⟩ rfl ?_
            refine ls_seq_k fun K41 hK41 => ?_
            refine ls_rs tbOk ?_
            refine evs (ev_mv (c := .int .i64 v39.2) rfl rfl rfl (evs (ev_bin (c1 := .int .i64 v39.2) (c2 := .int .i64 0) rfl rfl rfl (evs (ev_mv (c := .bool (decide (v39.2 < 0))) rfl rfl rfl (?_))))))
            rcases cond_some h with ⟨g42, h⟩ | ⟨g42, h⟩
            · refine evs (ev_gs rfl rfl (isb_T g42) (evs (ev_gs rfl rfl (isb_T g42) (evs (ev_gs rfl rfl (isb_T g42) (evs (ev_gs rfl rfl (isb_T g42) (evs (ev_pkT (c1 := .bool true) rfl g42 rfl rfl (evn ?_))))))))))
              refine ls_keep [(2, .box [.arg a0.length (a0.flatMap c206_aa)]), (3, .box [.str a1.1, .arg a1.2.1.length (a1.2.1.flatMap ci64), .int .i64 a1.2.2]), (6, .own 3 v13.length (v13.flatMap ci64)), (9, .own 3 v19.length (v19.flatMap ci64)), (63, .bool true)] ⟨kr, kr, kr, kr, kr, trivial⟩ rfl ?_
              refine ls_cT rfl rfl ?_
              refine ls_rs tbOk ?_
              refine evs (ev_ac rfl nofun rfl (evn ?_))
              refine ls_keep [(4, .bool false)] ⟨kr, trivial⟩ rfl ?_
              refine ls_ret ?_
              have hr := Option.some.inj h
              rw [← hr]
              exact ⟨.inl rfl, rfl⟩
            · refine evs (ev_gr rfl (congrArg V.bool g42) (ev_mv (c := .own 3 v19.length (v19.flatMap ci64)) rfl rfl rfl (evs (ev_gr rfl (congrArg V.bool g42) (ev_mv (c := .own 3 v13.length (v13.flatMap ci64)) rfl rfl rfl (?_))))))
              obtain ⟨v43, g44, h⟩ := ob_some h
              refine evs (ev_gr rfl (congrArg V.bool g42) (ev_call (era rfl (erD eci64 _) (era rfl (erD eci64 _) eran)) (laws_eqIntS_s g44) (evs (ev_gr rfl (congrArg V.bool g42) (ev_un (c1 := .bool v43) rfl trivial (evs (ev_pkF (c1 := .bool (!v43)) rfl g42 rfl rfl (evn ?_))))))))
              refine ls_keep [(2, .box [.arg a0.length (a0.flatMap c206_aa)]), (3, .box [.str a1.1, .arg a1.2.1.length (a1.2.1.flatMap ci64), .int .i64 a1.2.2]), (6, .own 3 v13.length (v13.flatMap ci64)), (9, .own 3 v19.length (v19.flatMap ci64)), (63, .bool (!v43))] ⟨kr, kr, kr, kr, kr, trivial⟩ rfl ?_
              rcases cond_some h with ⟨g45, h⟩ | ⟨g45, h⟩
              · refine ls_cT rfl g45 ?_
                refine ls_rs tbOk ?_
                refine evs (ev_ac rfl nofun rfl (evn ?_))
                refine ls_keep [(4, .bool false)] ⟨kr, trivial⟩ rfl ?_
                refine ls_ret ?_
                have hr := Option.some.inj h
                rw [← hr]
                exact ⟨.inl rfl, rfl⟩
              · refine ls_cF rfl g45 ?_
                refine ls_skip ?_
                refine hK41 _ (ls_keep [(2, .box [.arg a0.length (a0.flatMap c206_aa)]), (3, .box [.str a1.1, .arg a1.2.1.length (a1.2.1.flatMap ci64), .int .i64 a1.2.2]), (6, .own 3 v13.length (v13.flatMap ci64)), (9, .own 3 v19.length (v19.flatMap ci64))] ⟨kr, kr, kr, kr, trivial⟩ rfl ?_)
                refine ls_rs tbOk ?_
                refine evs (ev_ac rfl nofun rfl (evn ?_))
                refine ls_keep [(2, .box [.arg a0.length (a0.flatMap c206_aa)]), (3, .box [.str a1.1, .arg a1.2.1.length (a1.2.1.flatMap ci64), .int .i64 a1.2.2]), (6, .own 3 v13.length (v13.flatMap ci64)), (9, .own 3 v19.length (v19.flatMap ci64)), (11, .int .i64 1)] ⟨kr, kr, kr, kr, kr, trivial⟩ rfl ?_
                refine ls_keep [(2, .box [.arg a0.length (a0.flatMap c206_aa)]), (3, .box [.str a1.1, .arg a1.2.1.length (a1.2.1.flatMap ci64), .int .i64 a1.2.2]), (6, .own 3 v13.length (v13.flatMap ci64)), (9, .own 3 v19.length (v19.flatMap ci64)), (11, .int .i64 1)] ⟨kr, kr, kr, kr, kr, trivial⟩ rfl ?_
                obtain ⟨v46, g47, h⟩ := ob_some h
                refine ls_mark (src_own rfl) rfl rfl (laws_markIntS_m g47) (deep_flat (fun _ => rfl) _) (sf_of (sfc (scc (sca ad206 _) scn) (sfc (scc rfl (scc (sca (fun _ => rfl) _) (scc rfl scn))) (sfc (deep_flat (fun _ => rfl) _) (sfs (sfc rfl sfn)))))) rfl rfl ⟨by decide, by decide⟩ rfl ?_
                refine ls_keep [(2, .box [.arg a0.length (a0.flatMap c206_aa)]), (3, .box [.str a1.1, .arg a1.2.1.length (a1.2.1.flatMap ci64), .int .i64 a1.2.2]), (6, .own 3 v13.length (v13.flatMap ci64)), (9, .own 3 v46.1.length (v46.1.flatMap ci64)), (11, .int .i64 v46.2)] ⟨kr, kr, kr, kr, kr, trivial⟩ rfl ?_
                refine ls_rs tbOk ?_
                refine evs (ev_ac rfl nofun rfl (evn ?_))
                refine ls_keep [(2, .box [.arg a0.length (a0.flatMap c206_aa)]), (3, .box [.str a1.1, .arg a1.2.1.length (a1.2.1.flatMap ci64), .int .i64 a1.2.2]), (6, .own 3 v13.length (v13.flatMap ci64)), (9, .own 3 v46.1.length (v46.1.flatMap ci64)), (11, .int .i64 v46.2), (12, .int .i64 1)] ⟨kr, kr, kr, kr, kr, kr, trivial⟩ rfl ?_
                refine ls_rs tbOk ?_
                refine evs (ev_mv (c := .own 3 v46.1.length (v46.1.flatMap ci64)) rfl rfl rfl (evs (ev_mv (c := .int .i64 1) rfl rfl rfl (?_))))
                obtain ⟨v48, g49, h⟩ := ob_some h
                refine evs (ev_call (era rfl (erD eci64 _) (era rfl rfl eran)) (laws_heldIntS_s g49) (evs (ev_as (c := .int .i64 v48) rfl rfl rfl (evn ?_))))
                refine ls_keep [(2, .box [.arg a0.length (a0.flatMap c206_aa)]), (3, .box [.str a1.1, .arg a1.2.1.length (a1.2.1.flatMap ci64), .int .i64 a1.2.2]), (6, .own 3 v13.length (v13.flatMap ci64)), (9, .own 3 v46.1.length (v46.1.flatMap ci64)), (11, .int .i64 v46.2), (12, .int .i64 v48)] ⟨kr, kr, kr, kr, kr, kr, trivial⟩ rfl ?_
                refine ls_seq_k fun K50 hK50 => ?_
                refine ls_rs tbOk ?_
                refine evs (ev_mv (c := .int .i64 v48) rfl rfl rfl (evs (ev_bin (c1 := .int .i64 v48) (c2 := .int .i64 0) rfl rfl rfl (evn ?_))))
                refine ls_keep [(2, .box [.arg a0.length (a0.flatMap c206_aa)]), (3, .box [.str a1.1, .arg a1.2.1.length (a1.2.1.flatMap ci64), .int .i64 a1.2.2]), (6, .own 3 v13.length (v13.flatMap ci64)), (9, .own 3 v46.1.length (v46.1.flatMap ci64)), (11, .int .i64 v46.2), (12, .int .i64 v48), (71, .bool (decide (v48 < 0)))] ⟨kr, kr, kr, kr, kr, kr, kr, trivial⟩ rfl ?_
                rcases cond_some h with ⟨g51, h⟩ | ⟨g51, h⟩
                · refine ls_cT rfl g51 ?_
                  refine ls_rs tbOk ?_
                  refine evs (ev_ac rfl nofun rfl (evn ?_))
                  refine ls_keep [(4, .bool false)] ⟨kr, trivial⟩ rfl ?_
                  refine ls_ret ?_
                  have hr := Option.some.inj h
                  rw [← hr]
                  exact ⟨.inl rfl, rfl⟩
                · refine ls_cF rfl g51 ?_
                  refine ls_skip ?_
                  refine hK50 _ (ls_keep [(2, .box [.arg a0.length (a0.flatMap c206_aa)]), (3, .box [.str a1.1, .arg a1.2.1.length (a1.2.1.flatMap ci64), .int .i64 a1.2.2]), (6, .own 3 v13.length (v13.flatMap ci64)), (9, .own 3 v46.1.length (v46.1.flatMap ci64)), (11, .int .i64 v46.2), (12, .int .i64 v48)] ⟨kr, kr, kr, kr, kr, kr, trivial⟩ rfl ?_)
                  refine ls_seq_k fun K52 hK52 => ?_
                  refine ls_rs tbOk ?_
                  refine evs (ev_mv (c := .int .i64 v48) rfl rfl rfl (evs (ev_mv (c := .int .i64 v46.2) rfl rfl rfl (evs (ev_bin (c1 := .int .i64 v48) (c2 := .int .i64 v46.2) rfl rfl rfl (evn ?_))))))
                  refine ls_keep [(2, .box [.arg a0.length (a0.flatMap c206_aa)]), (3, .box [.str a1.1, .arg a1.2.1.length (a1.2.1.flatMap ci64), .int .i64 a1.2.2]), (6, .own 3 v13.length (v13.flatMap ci64)), (9, .own 3 v46.1.length (v46.1.flatMap ci64)), (11, .int .i64 v46.2), (74, .bool (v48 != v46.2))] ⟨kr, kr, kr, kr, kr, kr, trivial⟩ rfl ?_
                  rcases cond_some h with ⟨g53, h⟩ | ⟨g53, h⟩
                  · refine ls_cT rfl g53 ?_
                    refine ls_rs tbOk ?_
                    refine evs (ev_ac rfl nofun rfl (evn ?_))
                    refine ls_keep [(4, .bool false)] ⟨kr, trivial⟩ rfl ?_
                    refine ls_ret ?_
                    have hr := Option.some.inj h
                    rw [← hr]
                    exact ⟨.inl rfl, rfl⟩
                  · refine ls_cF rfl g53 ?_
                    refine ls_skip ?_
                    refine hK52 _ (ls_keep [(2, .box [.arg a0.length (a0.flatMap c206_aa)]), (3, .box [.str a1.1, .arg a1.2.1.length (a1.2.1.flatMap ci64), .int .i64 a1.2.2]), (6, .own 3 v13.length (v13.flatMap ci64)), (9, .own 3 v46.1.length (v46.1.flatMap ci64)), (11, .int .i64 v46.2)] ⟨kr, kr, kr, kr, kr, trivial⟩ rfl ?_)
                    refine ls_rd tbOk mixed (by kernel_rfl) ?_
                    refine evd rfl rfl (ev_ldB (off := 0) (v := .agg [.arg a0.length (a0.flatMap c206_aa)]) rfl rfl rfl rfl (Nat.le_of_ble_eq_true rfl) rfl (?_))
                    obtain ⟨v54, g55, h⟩ := ob_some h
                    refine evd rfl rfl (ev_call (era rfl (erg (erc (erG ec206_aa _) rfl)) eran) (laws_toDatabase_s g55) (evd rfl rfl (ev_ldB (off := 0) (v := .agg [.str a1.1, .arg a1.2.1.length (a1.2.1.flatMap ci64), .int .i64 a1.2.2]) rfl rfl rfl rfl (Nat.le_of_ble_eq_true rfl) rfl (?_))))
                    obtain ⟨v56, g57, h⟩ := ob_some h
                    refine evd rfl rfl (ev_call (era rfl (erg (erc rfl (erc (erG eci64 _) (erc rfl rfl)))) eran) (laws_toFunctionalDependency_s g57) (?_))
                    obtain ⟨v58, g59, h⟩ := ob_some h
                    refine evd rfl rfl (ev_call (era rfl (erg (erc (erO ec208_oo _) rfl)) (era rfl (erg (erc rfl (erc (erO eci64 _) (erc rfl rfl)))) eran)) (impl_FDViolation_s g59) (evd rfl rfl (ev_as (c := .own 3 v58.length (v58.flatMap ci64)) rfl rfl rfl (evdn ?_))))
                    refine ls_keep [(6, .own 3 v13.length (v13.flatMap ci64)), (9, .own 3 v46.1.length (v46.1.flatMap ci64)), (11, .int .i64 v46.2), (13, .own 3 v58.length (v58.flatMap ci64))] ⟨kr, kr, kr, kr, trivial⟩ rfl ?_
                    refine ls_seq_k fun K60 hK60 => ?_
                    refine ls_rs tbOk ?_
                    refine evs (ev_mv (c := .own 3 v58.length (v58.flatMap ci64)) rfl rfl rfl (evs (ev_mv (c := .own 3 v13.length (v13.flatMap ci64)) rfl rfl rfl (?_))))
                    obtain ⟨v61, g62, h⟩ := ob_some h
                    refine evs (ev_call (era rfl (erD eci64 _) (era rfl (erD eci64 _) eran)) (laws_eqIntS_s g62) (evs (ev_un (c1 := .bool v61) rfl trivial (evn ?_))))
                    refine ls_keep [(9, .own 3 v46.1.length (v46.1.flatMap ci64)), (11, .int .i64 v46.2), (83, .bool (!v61))] ⟨kr, kr, kr, trivial⟩ rfl ?_
                    rcases cond_some h with ⟨g63, h⟩ | ⟨g63, h⟩
                    · refine ls_cT rfl g63 ?_
                      refine ls_rs tbOk ?_
                      refine evs (ev_ac rfl nofun rfl (evn ?_))
                      refine ls_keep [(4, .bool false)] ⟨kr, trivial⟩ rfl ?_
                      refine ls_ret ?_
                      have hr := Option.some.inj h
                      rw [← hr]
                      exact ⟨.inl rfl, rfl⟩
                    · refine ls_cF rfl g63 ?_
                      refine ls_skip ?_
                      refine hK60 _ (ls_keep [(9, .own 3 v46.1.length (v46.1.flatMap ci64)), (11, .int .i64 v46.2)] ⟨kr, kr, trivial⟩ rfl ?_)
                      refine ls_rs tbOk ?_
                      refine evs (ev_ac rfl nofun rfl (evn ?_))
                      refine ls_keep [(9, .own 3 v46.1.length (v46.1.flatMap ci64)), (11, .int .i64 v46.2), (12, .int .i64 1)] ⟨kr, kr, kr, trivial⟩ rfl ?_
                      refine ls_rs tbOk ?_
                      refine evs (ev_mv (c := .own 3 v46.1.length (v46.1.flatMap ci64)) rfl rfl rfl (evs (ev_mv (c := .int .i64 1) rfl rfl rfl (?_))))
                      obtain ⟨v64, g65, h⟩ := ob_some h
                      refine evs (ev_call (era rfl (erD eci64 _) (era rfl rfl eran)) (laws_heldIntS_s g65) (evs (ev_as (c := .int .i64 v64) rfl rfl rfl (evn ?_))))
                      refine ls_keep [(11, .int .i64 v46.2), (12, .int .i64 v64)] ⟨kr, kr, trivial⟩ rfl ?_
                      refine ls_seq_k fun K66 hK66 => ?_
                      refine ls_rs tbOk ?_
                      refine evs (ev_mv (c := .int .i64 v64) rfl rfl rfl (evs (ev_bin (c1 := .int .i64 v64) (c2 := .int .i64 0) rfl rfl rfl (evn ?_))))
                      refine ls_keep [(11, .int .i64 v46.2), (12, .int .i64 v64), (88, .bool (decide (v64 < 0)))] ⟨kr, kr, kr, trivial⟩ rfl ?_
                      rcases cond_some h with ⟨g67, h⟩ | ⟨g67, h⟩
                      · refine ls_cT rfl g67 ?_
                        refine ls_rs tbOk ?_
                        refine evs (ev_ac rfl nofun rfl (evn ?_))
                        refine ls_keep [(4, .bool false)] ⟨kr, trivial⟩ rfl ?_
                        refine ls_ret ?_
                        have hr := Option.some.inj h
                        rw [← hr]
                        exact ⟨.inl rfl, rfl⟩
                      · refine ls_cF rfl g67 ?_
                        refine ls_skip ?_
                        refine hK66 _ (ls_keep [(11, .int .i64 v46.2), (12, .int .i64 v64)] ⟨kr, kr, trivial⟩ rfl ?_)
                        refine ls_seq_k fun K68 hK68 => ?_
                        refine ls_rs tbOk ?_
                        refine evs (ev_mv (c := .int .i64 v64) rfl rfl rfl (evs (ev_mv (c := .int .i64 v46.2) rfl rfl rfl (evs (ev_bin (c1 := .int .i64 v64) (c2 := .int .i64 v46.2) rfl rfl rfl (evn ?_))))))
                        refine ls_keep [(91, .bool (v64 != v46.2))] ⟨kr, trivial⟩ rfl ?_
                        rcases cond_some h with ⟨g69, h⟩ | ⟨g69, h⟩
                        · refine ls_cT rfl g69 ?_
                          refine ls_rs tbOk ?_
                          refine evs (ev_ac rfl nofun rfl (evn ?_))
                          refine ls_keep [(4, .bool false)] ⟨kr, trivial⟩ rfl ?_
                          refine ls_ret ?_
                          have hr := Option.some.inj h
                          rw [← hr]
                          exact ⟨.inl rfl, rfl⟩
                        · refine ls_cF rfl g69 ?_
                          refine ls_skip ?_
                          refine hK68 _ (ls_keep [] trivial rfl ?_)
                          refine ls_rs tbOk ?_
                          refine evs (ev_ac rfl nofun rfl (evn ?_))
                          refine ls_keep [(4, .bool true)] ⟨kr, trivial⟩ rfl ?_
                          refine ls_ret ?_
                          have hr := Option.some.inj h
                          rw [← hr]
                          exact ⟨.inl rfl, rfl⟩
end Go.Proofs.Ytkcfahfladikkaa
