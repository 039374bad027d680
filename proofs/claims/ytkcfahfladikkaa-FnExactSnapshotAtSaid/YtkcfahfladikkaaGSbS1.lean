/-
  Functions of the program as typed functions, printed by gen.py, and that the program's functions do what they say. No conditions.
-/
import Derived.Test.YtkcfahfladikkaaGSS1
namespace Go.Proofs.Ytkcfahfladikkaa
open Go.RowKit
set_option linter.unusedVariables false
set_option maxRecDepth 100000
set_option maxHeartbeats 1000000
def impl_IsValidHistory_B1 (a0 : Int × (List ((List ((List UInt8) × (Int × (List (List Int)))))))) (rec : Int → Option (Sum (Unit) (Bool))) (y1 : Int) : Option (Sum (Unit) (Bool)) := cond (decide (y1 < (List.length a0.2 : Int))) (obind (geti a0.2 y1) fun e12 => obind (impl_IsValidDatabase e12) fun v14 => cond (!v14) (some (.inr false)) (rec (IntKind.i64.wrap (y1 + 1)))) (some (.inl ()))
def impl_IsValidHistory (a0 : Int × (List ((List ((List UInt8) × (Int × (List (List Int)))))))) : Option (Bool) := obind (impl_within (List.length a0.2 : Int) 1 6) fun v2 => cond (!v2) (some false) (obind (impl_within a0.1 1 (IntKind.i64.wrap ((IntKind.i64.wrap (99 - (List.length a0.2 : Int))) + 1))) fun v5 => cond (!v5) (some false) (obind (loopF (impl_IsValidHistory_B1 a0) fz 0) fun o1 => (match o1 with
  | .inl _ => (some true)
  | .inr r => some r)))
theorem impl_IsValidHistory_s {a0 : Int × (List ((List ((List UInt8) × (Int × (List (List Int)))))))} {r : Bool} (h : impl_IsValidHistory a0 = some r) : SoundAt Try.prog 89 [.agg [.int .i64 a0.1, .dat a0.2.length (a0.2.flatMap c33_ddd)]] (.bool r) := by
  unfold impl_IsValidHistory at h
  refine sound_lit tbOk lit89 (Nat.le_of_ble_eq_true rfl) rfl ?_
  unfold c89
  refine ls_keep [(0, .agg [.int .i64 a0.1, .dat a0.2.length (a0.2.flatMap c33_ddd)])] ⟨kr, trivial⟩ rfl ?_
  refine ls_rs tbOk ?_
  refine evs (ev_bx (c1 := .agg [.int .i64 a0.1, .dat a0.2.length (a0.2.flatMap c33_ddd)]) rfl rfl rfl (evs (ev_ac rfl nofun rfl (evn ?_))))
  refine ls_keep [(1, .box [.int .i64 a0.1, .dat a0.2.length (a0.2.flatMap c33_ddd)])] ⟨kr, trivial⟩ rfl ?_
  refine ls_rs tbOk ?_
  refine evs (ev_fa (c1 := .cref 1 0) (v := .cref 1 1) rfl rfl rfl ⟨_, rfl⟩ rfl (evs (ev_ldB (off := 1) (v := .dat a0.2.length (a0.2.flatMap c33_ddd)) rfl rfl rfl rfl (Nat.le_of_ble_eq_true rfl) rfl (evs (ev_len (c1 := .dat a0.2.length (a0.2.flatMap c33_ddd)) rfl rfl rfl (evs (ev_as (c := .int .i64 (List.length a0.2 : Int)) rfl rfl rfl (evn ?_))))))))
  refine ls_keep [(1, .box [.int .i64 a0.1, .dat a0.2.length (a0.2.flatMap c33_ddd)]), (3, .int .i64 (List.length a0.2 : Int))] ⟨kr, kr, trivial⟩ rfl ?_
  refine ls_seq_k fun K1 hK1 => ?_
  refine ls_rs tbOk ?_
  refine evs (ev_mv (c := .int .i64 (List.length a0.2 : Int)) rfl rfl rfl (?_))
  obtain ⟨v2, g3, h⟩ := ob_some h
  refine evs (ev_call (era rfl rfl (era rfl rfl (era rfl rfl eran))) (impl_within_s g3) (evs (ev_un (c1 := .bool v2) rfl trivial (evs (ev_mv (c := .bool (!v2)) rfl rfl rfl (?_))))))
  rcases cond_some h with ⟨g4, h⟩ | ⟨g4, h⟩
  · refine evs (ev_gs rfl rfl (isb_T g4) (evs (ev_gs rfl rfl (isb_T g4) (evs (ev_gs rfl rfl (isb_T g4) (evs (ev_gs rfl rfl (isb_T g4) (evs (ev_gs rfl rfl (isb_T g4) (evs (ev_gs rfl rfl (isb_T g4) (evs (ev_gs rfl rfl (isb_T g4) (evs (ev_pkT (c1 := .bool true) rfl g4 rfl rfl (evn ?_))))))))))))))))
    refine ls_keep [(1, .box [.int .i64 a0.1, .dat a0.2.length (a0.2.flatMap c33_ddd)]), (20, .bool true)] ⟨kr, kr, trivial⟩ rfl ?_
    refine ls_cT rfl rfl ?_
    refine ls_rs tbOk ?_
    refine evs (ev_ac rfl nofun rfl (evn ?_))
    refine ls_keep [(2, .bool false)] ⟨kr, trivial⟩ rfl ?_
    refine ls_ret ?_
    have hr := Option.some.inj h
    rw [← hr]
    exact ⟨.inl rfl, rfl⟩
  · refine evs (ev_gr rfl (congrArg V.bool g4) (ev_fa (c1 := .cref 1 0) (v := .cref 1 0) rfl rfl rfl ⟨_, rfl⟩ rfl (evs (ev_gr rfl (congrArg V.bool g4) (ev_ldB (off := 0) (v := .int .i64 a0.1) rfl rfl rfl rfl (Nat.le_of_ble_eq_true rfl) rfl (evs (ev_gr rfl (congrArg V.bool g4) (ev_mv (c := .int .i64 (List.length a0.2 : Int)) rfl rfl rfl (evs (ev_gr rfl (congrArg V.bool g4) (ev_bin (c1 := .int .i64 99) (c2 := .int .i64 (List.length a0.2 : Int)) rfl rfl rfl (evs (ev_gr rfl (congrArg V.bool g4) (ev_bin (c1 := .int .i64 (IntKind.i64.wrap (99 - (List.length a0.2 : Int)))) (c2 := .int .i64 1) rfl rfl rfl (?_)))))))))))))))
    obtain ⟨v5, g6, h⟩ := ob_some h
    refine evs (ev_gr rfl (congrArg V.bool g4) (ev_call (era rfl rfl (era rfl rfl (era rfl rfl eran))) (impl_within_s g6) (evs (ev_gr rfl (congrArg V.bool g4) (ev_un (c1 := .bool v5) rfl trivial (evs (ev_pkF (c1 := .bool (!v5)) rfl g4 rfl rfl (evn ?_))))))))
    refine ls_keep [(1, .box [.int .i64 a0.1, .dat a0.2.length (a0.2.flatMap c33_ddd)]), (20, .bool (!v5))] ⟨kr, kr, trivial⟩ rfl ?_
    rcases cond_some h with ⟨g7, h⟩ | ⟨g7, h⟩
    · refine ls_cT rfl g7 ?_
      refine ls_rs tbOk ?_
      refine evs (ev_ac rfl nofun rfl (evn ?_))
      refine ls_keep [(2, .bool false)] ⟨kr, trivial⟩ rfl ?_
      refine ls_ret ?_
      have hr := Option.some.inj h
      rw [← hr]
      exact ⟨.inl rfl, rfl⟩
    · refine ls_cF rfl g7 ?_
      refine ls_skip ?_
      refine hK1 _ (ls_keep [(1, .box [.int .i64 a0.1, .dat a0.2.length (a0.2.flatMap c33_ddd)])] ⟨kr, trivial⟩ rfl ?_)
      refine ls_seq_k fun K8 hK8 => ?_
      refine ls_rs tbOk ?_
      refine evs (ev_fa (c1 := .cref 1 0) (v := .cref 1 1) rfl rfl rfl ⟨_, rfl⟩ rfl (evs (ev_ldB (off := 1) (v := .dat a0.2.length (a0.2.flatMap c33_ddd)) rfl rfl rfl rfl (Nat.le_of_ble_eq_true rfl) rfl (evs (ev_len (c1 := .dat a0.2.length (a0.2.flatMap c33_ddd)) rfl rfl rfl (evs (ev_mc rfl rfl (evn ?_))))))))
      refine ls_keep [(22, .dat a0.2.length (a0.2.flatMap c33_ddd)), (23, .int .i64 (List.length a0.2 : Int)), (24, .int .i64 0)] ⟨kr, kr, kr, trivial⟩ rfl ?_
      obtain ⟨o1, hl, hr1⟩ := ob_some h
      clear h
      have kXimpl_IsValidHistory_B1 : ∀ (_ : Unit), (some true) = some r → ∀ σ' : PS, okK σ' [] → K8 σ' := by
        intro _ h σ' hk
        refine hK8 _ (ls_keep [] hk rfl ?_)
        refine ls_rs tbOk ?_
        refine evs (ev_ac rfl nofun rfl (evn ?_))
        refine ls_keep [(2, .bool true)] ⟨kr, trivial⟩ rfl ?_
        refine ls_ret ?_
        have hr := Option.some.inj h
        rw [← hr]
        exact ⟨.inl rfl, rfl⟩
      refine ls_rec (fun (y1 : Int) => [(22, .dat a0.2.length (a0.2.flatMap c33_ddd)), (23, .int .i64 (List.length a0.2 : Int)), (24, .int .i64 y1)]) (impl_IsValidHistory_B1 a0) fz 0 o1 hl ⟨kr, kr, kr, trivial⟩ (fun _ => rfl) ?_
      rintro m y1 N h hN
      unfold impl_IsValidHistory_B1 at h
      refine ls_rs tbOk ?_
      refine evs (ev_bin (c1 := .int .i64 y1) (c2 := .int .i64 (List.length a0.2 : Int)) rfl rfl rfl (evn ?_))
      refine ls_keep [(22, .dat a0.2.length (a0.2.flatMap c33_ddd)), (23, .int .i64 (List.length a0.2 : Int)), (24, .int .i64 y1), (25, .bool (decide (y1 < (List.length a0.2 : Int))))] ⟨kr, kr, kr, kr, trivial⟩ rfl ?_
      refine ls_seq_k fun K9 hK9 => ?_
      rcases cond_some h with ⟨g10, h⟩ | ⟨g10, h⟩
      · refine ls_cT rfl g10 ?_
        refine ls_skip ?_
        refine hK9 _ (ls_keep [(22, .dat a0.2.length (a0.2.flatMap c33_ddd)), (23, .int .i64 (List.length a0.2 : Int)), (24, .int .i64 y1)] ⟨kr, kr, kr, trivial⟩ rfl ?_)
        refine ls_seq_k fun K11 hK11 => ?_
        refine ls_blk ?_
        refine ls_rs tbOk ?_
        obtain ⟨e12, g13, h⟩ := ob_some h
        refine evs (ev_ia rfl rfl rfl ⟨(geti_some g13).1, (geti_some g13).2.1⟩ (evs (ev_ldEt (i := y1) (n := 1) (off := 0) (v := .agg [.dat e12.length (e12.flatMap c208_dd)]) rfl rfl zc33_ddd g13 rfl (Nat.le_of_ble_eq_true rfl) rfl (evs (ev_al rfl rfl (evs (ev_st (off := 0) (c1 := .agg [.dat e12.length (e12.flatMap c208_dd)]) (cs' := [.dat e12.length (e12.flatMap c208_dd)]) rfl rfl rfl rfl rfl rfl (Nat.le_of_ble_eq_true rfl) rfl (evn ?_))))))))
        refine ls_keep [(5, .box [.dat e12.length (e12.flatMap c208_dd)]), (22, .dat a0.2.length (a0.2.flatMap c33_ddd)), (23, .int .i64 (List.length a0.2 : Int)), (24, .int .i64 y1)] ⟨kr, kr, kr, kr, trivial⟩ rfl ?_
        refine ls_rs tbOk ?_
        refine evs (ev_ldB (off := 0) (v := .agg [.dat e12.length (e12.flatMap c208_dd)]) rfl rfl rfl rfl (Nat.le_of_ble_eq_true rfl) rfl (?_))
        obtain ⟨v14, g15, h⟩ := ob_some h
        refine evs (ev_call (era rfl (erg (erc (erD ec208_dd _) rfl)) eran) (impl_IsValidDatabase_s g15) (evs (ev_un (c1 := .bool v14) rfl trivial (evn ?_))))
        refine ls_keep [(22, .dat a0.2.length (a0.2.flatMap c33_ddd)), (23, .int .i64 (List.length a0.2 : Int)), (24, .int .i64 y1), (30, .bool (!v14))] ⟨kr, kr, kr, kr, trivial⟩ rfl ?_
        rcases cond_some h with ⟨g16, h⟩ | ⟨g16, h⟩
        · refine ls_cT rfl g16 ?_
          refine ls_rs tbOk ?_
          refine evs (ev_ac rfl nofun rfl (evn ?_))
          refine ls_keep [(2, .bool false)] ⟨kr, trivial⟩ rfl ?_
          refine ls_ret ?_
          have q0 := (Option.some.inj h).symm
          have r0 := hr1
          rw [q0] at r0
          have hr := Option.some.inj r0
          rw [← hr]
          exact ⟨.inl rfl, rfl⟩
        · refine ls_cF rfl g16 ?_
          refine ls_skip ?_
          refine hK11 _ (ls_keep [(22, .dat a0.2.length (a0.2.flatMap c33_ddd)), (23, .int .i64 (List.length a0.2 : Int)), (24, .int .i64 y1)] ⟨kr, kr, kr, trivial⟩ rfl ?_)
          refine ls_rgn tbOk ?_
          refine evs (ev_bin (c1 := .int .i64 y1) (c2 := .int .i64 1) rfl rfl rfl (evs (ev_mv (c := .int .i64 (IntKind.i64.wrap (y1 + 1))) rfl rfl rfl (evn ?_))))
          exact hN _ (IntKind.i64.wrap (y1 + 1)) h ⟨kr, kr, kr, trivial⟩
      · refine ls_cF rfl g10 ?_
        refine ls_exit ?_
        have q0 := (Option.some.inj h).symm
        have r0 := hr1
        rw [q0] at r0
        exact kXimpl_IsValidHistory_B1 () r0 _ trivial
def impl_copyInts (a0 : List Int) : Option ((List Int)) := chk (List.length ([] : List Int) + List.length a0 ≤ lim) (some (([] : List Int) ++ a0))
theorem impl_copyInts_s {a0 : List Int} {r : (List Int)} (h : impl_copyInts a0 = some r) : SoundAt Try.prog 151 [.dat a0.length (a0.flatMap ci64)] (.own 3 r.length (r.flatMap ci64)) := by
  unfold impl_copyInts at h
  refine sound_lit tbOk lit151 (Nat.le_of_ble_eq_true rfl) rfl ?_
  unfold c151
  refine ls_keep [(0, .dat a0.length (a0.flatMap ci64))] ⟨kr, trivial⟩ rfl ?_
  refine ls_rs tbOk ?_
  refine evs (ev_an rfl rfl (evn ?_))
  refine ls_keep [(0, .dat a0.length (a0.flatMap ci64))] ⟨kr, trivial⟩ rfl ?_
  refine ls_rs tbOk ?_
  refine evs (ev_bs [] (cs := []) rfl trivial rfl (Nat.le_of_ble_eq_true rfl) rfl (evs (ev_mvt (c := .dat a0.length (a0.flatMap ci64)) rfl rfl rfl (?_))))
  obtain ⟨g1, h⟩ := chk_some h
  refine evs (ev_app (f := ci64) (l := ([] : List Int)) (m := a0) (c2 := .dat a0.length (a0.flatMap ci64)) rfl rfl rfl (flat_len zci64 a0) rfl (map_dg (fun _ => rfl) _) g1 rfl (evs (ev_as (c := .own 3 (([] : List Int) ++ a0).length ((([] : List Int) ++ a0).flatMap ci64)) rfl rfl rfl (evn ?_))))
  refine ls_keep [(2, .own 3 (([] : List Int) ++ a0).length ((([] : List Int) ++ a0).flatMap ci64))] ⟨kr, trivial⟩ rfl ?_
  refine ls_ret ?_
  have hr := Option.some.inj h
  rw [← hr]
  exact ⟨.inl rfl, rfl⟩
def impl_copyRows_B1 (a0 : List (List Int)) (rec : ((List (List Int)) × Int) → Option ((List (List Int)))) (s : (List (List Int)) × Int) : Option ((List (List Int))) := match s with
  | (y1, y2) => cond (decide (y2 < (List.length a0 : Int))) (obind (geti a0 y2) fun e6 => obind (impl_copyInts e6) fun v8 => chk (List.length y1 + List.length [v8] ≤ lim) (rec ((y1 ++ [v8]), (IntKind.i64.wrap (y2 + 1))))) (some y1)
def impl_copyRows (a0 : List (List Int)) : Option ((List (List Int))) := obind (loopF (impl_copyRows_B1 a0) fz (([] : List (List Int)), 0)) fun z2 => some z2
theorem impl_copyRows_s {a0 : List (List Int)} {r : (List (List Int))} (h : impl_copyRows a0 = some r) : SoundAt Try.prog 237 [.dat a0.length (a0.flatMap c25_d)] (.own 25 r.length (r.flatMap c25_o)) := by
  unfold impl_copyRows at h
  refine sound_lit tbOk lit237 (Nat.le_of_ble_eq_true rfl) rfl ?_
  unfold c237
  refine ls_keep [(0, .dat a0.length (a0.flatMap c25_d))] ⟨kr, trivial⟩ rfl ?_
  refine ls_rs tbOk ?_
  refine evs (ev_an rfl rfl (evn ?_))
  refine ls_keep [(0, .dat a0.length (a0.flatMap c25_d))] ⟨kr, trivial⟩ rfl ?_
  refine ls_rs tbOk ?_
  refine evs (ev_an rfl rfl (evn ?_))
  refine ls_keep [(0, .dat a0.length (a0.flatMap c25_d)), (3, .own 25 ([] : List (List Int)).length (([] : List (List Int)).flatMap c25_o))] ⟨kr, kr, trivial⟩ rfl ?_
  refine ls_seq_k fun K1 hK1 => ?_
  refine ls_rs tbOk ?_
  refine evs (ev_mv (c := .dat a0.length (a0.flatMap c25_d)) rfl rfl rfl (evs (ev_len (c1 := .dat a0.length (a0.flatMap c25_d)) rfl rfl rfl (evs (ev_mc rfl rfl (evn ?_))))))
  refine ls_keep [(3, .own 25 ([] : List (List Int)).length (([] : List (List Int)).flatMap c25_o)), (6, .dat a0.length (a0.flatMap c25_d)), (7, .int .i64 (List.length a0 : Int)), (8, .int .i64 0)] ⟨kr, kr, kr, kr, trivial⟩ rfl ?_
  obtain ⟨o1, hl, hr1⟩ := ob_some h
  clear h
  have kXimpl_copyRows_B1 : ∀ (z2 : List (List Int)), (some z2) = some r → ∀ σ' : PS, okK σ' [(3, .own 25 z2.length (z2.flatMap c25_o))] → K1 σ' := by
    intro z2 h σ' hk
    refine hK1 _ (ls_keep [(3, .own 25 z2.length (z2.flatMap c25_o))] hk rfl ?_)
    refine ls_rs tbOk ?_
    refine evs (ev_mvt (c := .own 25 z2.length (z2.flatMap c25_o)) rfl rfl rfl (evs (ev_as (c := .own 25 z2.length (z2.flatMap c25_o)) rfl rfl rfl (evn ?_))))
    refine ls_keep [(2, .own 25 z2.length (z2.flatMap c25_o))] ⟨kr, trivial⟩ rfl ?_
    refine ls_ret ?_
    have hr := Option.some.inj h
    rw [← hr]
    exact ⟨.inl rfl, rfl⟩
  refine ls_rec (fun (s : (List (List Int)) × Int) => match s with | (y1, y2) => [(3, .own 25 y1.length (y1.flatMap c25_o)), (6, .dat a0.length (a0.flatMap c25_d)), (7, .int .i64 (List.length a0 : Int)), (8, .int .i64 y2)]) (impl_copyRows_B1 a0) fz (([] : List (List Int)), 0) o1 hl ⟨kr, kr, kr, kr, trivial⟩ (fun _ => rfl) ?_
  rintro m ⟨y1, y2⟩ N h hN
  unfold impl_copyRows_B1 at h
  dsimp only at h
  refine ls_rs tbOk ?_
  refine evs (ev_bin (c1 := .int .i64 y2) (c2 := .int .i64 (List.length a0 : Int)) rfl rfl rfl (evn ?_))
  refine ls_keep [(3, .own 25 y1.length (y1.flatMap c25_o)), (6, .dat a0.length (a0.flatMap c25_d)), (7, .int .i64 (List.length a0 : Int)), (8, .int .i64 y2), (9, .bool (decide (y2 < (List.length a0 : Int))))] ⟨kr, kr, kr, kr, kr, trivial⟩ rfl ?_
  refine ls_seq_k fun K3 hK3 => ?_
  rcases cond_some h with ⟨g4, h⟩ | ⟨g4, h⟩
  · refine ls_cT rfl g4 ?_
    refine ls_skip ?_
    refine hK3 _ (ls_keep [(3, .own 25 y1.length (y1.flatMap c25_o)), (6, .dat a0.length (a0.flatMap c25_d)), (7, .int .i64 (List.length a0 : Int)), (8, .int .i64 y2)] ⟨kr, kr, kr, kr, trivial⟩ rfl ?_)
    refine ls_seq_k fun K5 hK5 => ?_
    refine ls_blk ?_
    refine ls_rs tbOk ?_
    obtain ⟨e6, g7, h⟩ := ob_some h
    refine evs (ev_ia rfl rfl rfl ⟨(geti_some g7).1, (geti_some g7).2.1⟩ (evs (ev_ldEt (i := y2) (n := 1) (off := 0) (v := .dat e6.length (e6.flatMap ci64)) rfl rfl zc25_d g7 rfl (Nat.le_of_ble_eq_true rfl) rfl (evs (ev_as (c := .dat e6.length (e6.flatMap ci64)) rfl rfl rfl (evn ?_))))))
    refine ls_keep [(3, .own 25 y1.length (y1.flatMap c25_o)), (5, .dat e6.length (e6.flatMap ci64)), (6, .dat a0.length (a0.flatMap c25_d)), (7, .int .i64 (List.length a0 : Int)), (8, .int .i64 y2)] ⟨kr, kr, kr, kr, kr, trivial⟩ rfl ?_
    refine ls_rgn tbOk ?_
    refine evs (ev_mvt (c := .own 25 y1.length (y1.flatMap c25_o)) rfl rfl rfl (evs (ev_mv (c := .dat e6.length (e6.flatMap ci64)) rfl rfl rfl (?_))))
    obtain ⟨v8, g9, h⟩ := ob_some h
    refine evs (ev_call (era rfl (erD eci64 _) eran) (impl_copyInts_s g9) (evs (ev_bs [.own 3 v8.length (v8.flatMap ci64)] (cs := [.own 3 v8.length (v8.flatMap ci64)]) rfl ⟨rfl, trivial⟩ rfl (Nat.le_of_ble_eq_true rfl) rfl (?_))))
    obtain ⟨g10, h⟩ := chk_some h
    refine evs (ev_app (f := c25_o) (l := y1) (m := [v8]) (c2 := .own 25 [v8].length ([v8].flatMap c25_o)) rfl rfl rfl (flat_len zc25_o [v8]) rfl rfl g10 rfl (evs (ev_as (c := .own 25 (y1 ++ [v8]).length ((y1 ++ [v8]).flatMap c25_o)) rfl rfl rfl (evn ?_))))
    refine hK5 _ (ls_keep [(3, .own 25 (y1 ++ [v8]).length ((y1 ++ [v8]).flatMap c25_o)), (6, .dat a0.length (a0.flatMap c25_d)), (7, .int .i64 (List.length a0 : Int)), (8, .int .i64 y2)] ⟨kr, kr, kr, kr, trivial⟩ rfl ?_)
    refine ls_rgn tbOk ?_
    refine evs (ev_bin (c1 := .int .i64 y2) (c2 := .int .i64 1) rfl rfl rfl (evs (ev_mv (c := .int .i64 (IntKind.i64.wrap (y2 + 1))) rfl rfl rfl (evn ?_))))
    exact hN _ ((y1 ++ [v8]), (IntKind.i64.wrap (y2 + 1))) h ⟨kr, kr, kr, kr, trivial⟩
  · refine ls_cF rfl g4 ?_
    refine ls_exit ?_
    have q0 := (Option.some.inj h).symm
    have r0 := hr1
    rw [q0] at r0
    exact kXimpl_copyRows_B1 y1 r0 _ ⟨kr, trivial⟩
def impl_copyRelation (a0 : Int × (List (List Int))) : Option ((Int × (List (List Int)))) := obind (impl_copyRows a0.2) fun v1 => some (a0.1, v1)
theorem impl_copyRelation_s {a0 : Int × (List (List Int))} {r : (Int × (List (List Int)))} (h : impl_copyRelation a0 = some r) : SoundAt Try.prog 175 [.agg [.int .i64 a0.1, .dat a0.2.length (a0.2.flatMap c25_d)]] (.agg [.int .i64 r.1, .own 25 r.2.length (r.2.flatMap c25_o)]) := by
  unfold impl_copyRelation at h
  refine sound_lit tbOk lit175 (Nat.le_of_ble_eq_true rfl) rfl ?_
  unfold c175
  refine ls_keep [(0, .agg [.int .i64 a0.1, .dat a0.2.length (a0.2.flatMap c25_d)])] ⟨kr, trivial⟩ rfl ?_
  refine ls_rs tbOk ?_
  refine evs (ev_bx (c1 := .agg [.int .i64 a0.1, .dat a0.2.length (a0.2.flatMap c25_d)]) rfl rfl rfl (evs (ev_al rfl rfl (evn ?_))))
  refine ls_keep [(1, .box [.int .i64 a0.1, .dat a0.2.length (a0.2.flatMap c25_d)]), (2, .box [.int .i64 0, .own 25 ([] : List (List Int)).length (([] : List (List Int)).flatMap c25_o)])] ⟨kr, kr, trivial⟩ rfl ?_
  refine ls_rd tbOk mixed (by kernel_rfl) ?_
  refine evd rfl rfl (ev_fa (c1 := .cref 1 0) (v := .cref 1 0) rfl rfl rfl ⟨_, rfl⟩ rfl (evd rfl rfl (ev_ldB (off := 0) (v := .int .i64 a0.1) rfl rfl rfl rfl (Nat.le_of_ble_eq_true rfl) rfl (evd rfl rfl (ev_fa (c1 := .cref 1 0) (v := .cref 1 1) rfl rfl rfl ⟨_, rfl⟩ rfl (evd rfl rfl (ev_ldB (off := 1) (v := .dat a0.2.length (a0.2.flatMap c25_d)) rfl rfl rfl rfl (Nat.le_of_ble_eq_true rfl) rfl (?_))))))))
  obtain ⟨v1, g2, h⟩ := ob_some h
  refine evd rfl rfl (ev_call (era rfl (erD ec25_d _) eran) (impl_copyRows_s g2) (evd rfl rfl (ev_bd [.int .i64 a0.1, .own 25 v1.length (v1.flatMap c25_o)] (cs := [.int .i64 a0.1, .own 25 v1.length (v1.flatMap c25_o)]) rfl ⟨rfl, rfl, trivial⟩ rfl (evd rfl rfl (ev_st (off := 0) (c1 := .agg [.int .i64 a0.1, .own 25 v1.length (v1.flatMap c25_o)]) (cs' := [.int .i64 a0.1, .own 25 v1.length (v1.flatMap c25_o)]) rfl rfl rfl rfl rfl rfl (Nat.le_of_ble_eq_true rfl) rfl (evdn ?_))))))
  refine ls_keep [(2, .box [.int .i64 a0.1, .own 25 v1.length (v1.flatMap c25_o)])] ⟨kr, trivial⟩ rfl ?_
  refine ls_ret ?_
  have hr := Option.some.inj h
  rw [← hr]
  exact ⟨.inl rfl, rfl⟩
def impl_copyDatabase_B1 (a0 : (List ((List UInt8) × (Int × (List (List Int)))))) (rec : ((List ((List UInt8) × (Int × (List (List Int))))) × Int) → Option ((List ((List UInt8) × (Int × (List (List Int))))))) (s : (List ((List UInt8) × (Int × (List (List Int))))) × Int) : Option ((List ((List UInt8) × (Int × (List (List Int)))))) := match s with
  | (y1, y2) => cond (decide (y2 < (List.length a0 : Int))) (obind (geti a0 y2) fun e6 => obind (impl_copyRelation e6.2) fun v8 => chk (List.length y1 + List.length [(e6.1, v8)] ≤ lim) (rec ((y1 ++ [(e6.1, v8)]), (IntKind.i64.wrap (y2 + 1))))) (some y1)
def impl_copyDatabase (a0 : (List ((List UInt8) × (Int × (List (List Int)))))) : Option (((List ((List UInt8) × (Int × (List (List Int))))))) := obind (loopF (impl_copyDatabase_B1 a0) fz (([] : List ((List UInt8) × (Int × (List (List Int))))), 0)) fun z2 => some z2
theorem impl_copyDatabase_s {a0 : (List ((List UInt8) × (Int × (List (List Int)))))} {r : ((List ((List UInt8) × (Int × (List (List Int))))))} (h : impl_copyDatabase a0 = some r) : SoundAt Try.prog 91 [.agg [.dat a0.length (a0.flatMap c208_dd)]] (.agg [.own 208 r.length (r.flatMap c208_oo)]) := by
  unfold impl_copyDatabase at h
  refine sound_lit tbOk lit91 (Nat.le_of_ble_eq_true rfl) rfl ?_
  unfold c91
  refine ls_keep [(0, .agg [.dat a0.length (a0.flatMap c208_dd)])] ⟨kr, trivial⟩ rfl ?_
  refine ls_rs tbOk ?_
  refine evs (ev_bx (c1 := .agg [.dat a0.length (a0.flatMap c208_dd)]) rfl rfl rfl (evs (ev_al rfl rfl (evn ?_))))
  refine ls_keep [(1, .box [.dat a0.length (a0.flatMap c208_dd)]), (2, .box [.own 208 ([] : List ((List UInt8) × (Int × (List (List Int))))).length (([] : List ((List UInt8) × (Int × (List (List Int))))).flatMap c208_oo)])] ⟨kr, kr, trivial⟩ rfl ?_
  refine ls_rs tbOk ?_
  refine evs (ev_al rfl rfl (evn ?_))
  refine ls_keep [(1, .box [.dat a0.length (a0.flatMap c208_dd)]), (2, .box [.own 208 ([] : List ((List UInt8) × (Int × (List (List Int))))).length (([] : List ((List UInt8) × (Int × (List (List Int))))).flatMap c208_oo)]), (3, .box [.own 208 ([] : List ((List UInt8) × (Int × (List (List Int))))).length (([] : List ((List UInt8) × (Int × (List (List Int))))).flatMap c208_oo)])] ⟨kr, kr, kr, trivial⟩ rfl ?_
  refine ls_seq_k fun K1 hK1 => ?_
  refine ls_rs tbOk ?_
  refine evs (ev_fa (c1 := .cref 1 0) (v := .cref 1 0) rfl rfl rfl ⟨_, rfl⟩ rfl (evs (ev_ldB (off := 0) (v := .dat a0.length (a0.flatMap c208_dd)) rfl rfl rfl rfl (Nat.le_of_ble_eq_true rfl) rfl (evs (ev_len (c1 := .dat a0.length (a0.flatMap c208_dd)) rfl rfl rfl (evs (ev_mc rfl rfl (evn ?_))))))))
  refine ls_keep [(2, .box [.own 208 ([] : List ((List UInt8) × (Int × (List (List Int))))).length (([] : List ((List UInt8) × (Int × (List (List Int))))).flatMap c208_oo)]), (3, .box [.own 208 ([] : List ((List UInt8) × (Int × (List (List Int))))).length (([] : List ((List UInt8) × (Int × (List (List Int))))).flatMap c208_oo)]), (7, .dat a0.length (a0.flatMap c208_dd)), (8, .int .i64 (List.length a0 : Int)), (9, .int .i64 0)] ⟨kr, kr, kr, kr, kr, trivial⟩ rfl ?_
  obtain ⟨o1, hl, hr1⟩ := ob_some h
  clear h
  have kXimpl_copyDatabase_B1 : ∀ (z2 : List ((List UInt8) × (Int × (List (List Int))))), (some z2) = some r → ∀ σ' : PS, okK σ' [(2, .box [.own 208 ([] : List ((List UInt8) × (Int × (List (List Int))))).length (([] : List ((List UInt8) × (Int × (List (List Int))))).flatMap c208_oo)]), (3, .box [.own 208 z2.length (z2.flatMap c208_oo)])] → K1 σ' := by
    intro z2 h σ' hk
    refine hK1 _ (ls_keep [(2, .box [.own 208 ([] : List ((List UInt8) × (Int × (List (List Int))))).length (([] : List ((List UInt8) × (Int × (List (List Int))))).flatMap c208_oo)]), (3, .box [.own 208 z2.length (z2.flatMap c208_oo)])] hk rfl ?_)
    refine ls_rs tbOk ?_
    refine evs (ev_ldBt (off := 0) (v := .agg [.own 208 z2.length (z2.flatMap c208_oo)]) (c' := .box [.dat z2.length (z2.flatMap c208_oo)]) rfl rfl rfl rfl (Nat.le_of_ble_eq_true rfl) rfl rfl (evs (ev_st (off := 0) (c1 := .agg [.own 208 z2.length (z2.flatMap c208_oo)]) (cs' := [.own 208 z2.length (z2.flatMap c208_oo)]) rfl rfl rfl rfl rfl rfl (Nat.le_of_ble_eq_true rfl) rfl (evn ?_))))
    refine ls_keep [(2, .box [.own 208 z2.length (z2.flatMap c208_oo)])] ⟨kr, trivial⟩ rfl ?_
    refine ls_ret ?_
    have hr := Option.some.inj h
    rw [← hr]
    exact ⟨.inl rfl, rfl⟩
  refine ls_rec (fun (s : (List ((List UInt8) × (Int × (List (List Int))))) × Int) => match s with | (y1, y2) => [(2, .box [.own 208 ([] : List ((List UInt8) × (Int × (List (List Int))))).length (([] : List ((List UInt8) × (Int × (List (List Int))))).flatMap c208_oo)]), (3, .box [.own 208 y1.length (y1.flatMap c208_oo)]), (7, .dat a0.length (a0.flatMap c208_dd)), (8, .int .i64 (List.length a0 : Int)), (9, .int .i64 y2)]) (impl_copyDatabase_B1 a0) fz (([] : List ((List UInt8) × (Int × (List (List Int))))), 0) o1 hl ⟨kr, kr, kr, kr, kr, trivial⟩ (fun _ => rfl) ?_
  rintro m ⟨y1, y2⟩ N h hN
  unfold impl_copyDatabase_B1 at h
  dsimp only at h
  refine ls_rs tbOk ?_
  refine evs (ev_bin (c1 := .int .i64 y2) (c2 := .int .i64 (List.length a0 : Int)) rfl rfl rfl (evn ?_))
  refine ls_keep [(2, .box [.own 208 ([] : List ((List UInt8) × (Int × (List (List Int))))).length (([] : List ((List UInt8) × (Int × (List (List Int))))).flatMap c208_oo)]), (3, .box [.own 208 y1.length (y1.flatMap c208_oo)]), (7, .dat a0.length (a0.flatMap c208_dd)), (8, .int .i64 (List.length a0 : Int)), (9, .int .i64 y2), (10, .bool (decide (y2 < (List.length a0 : Int))))] ⟨kr, kr, kr, kr, kr, kr, trivial⟩ rfl ?_
  refine ls_seq_k fun K3 hK3 => ?_
  rcases cond_some h with ⟨g4, h⟩ | ⟨g4, h⟩
  · refine ls_cT rfl g4 ?_
    refine ls_skip ?_
    refine hK3 _ (ls_keep [(2, .box [.own 208 ([] : List ((List UInt8) × (Int × (List (List Int))))).length (([] : List ((List UInt8) × (Int × (List (List Int))))).flatMap c208_oo)]), (3, .box [.own 208 y1.length (y1.flatMap c208_oo)]), (7, .dat a0.length (a0.flatMap c208_dd)), (8, .int .i64 (List.length a0 : Int)), (9, .int .i64 y2)] ⟨kr, kr, kr, kr, kr, trivial⟩ rfl ?_)
    refine ls_seq_k fun K5 hK5 => ?_
    refine ls_blk ?_
    refine ls_rs tbOk ?_
    obtain ⟨e6, g7, h⟩ := ob_some h
    refine evs (ev_ia rfl rfl rfl ⟨(geti_some g7).1, (geti_some g7).2.1⟩ (evs (ev_ldEt (i := y2) (n := 3) (off := 0) (v := .agg [.str e6.1, .int .i64 e6.2.1, .dat e6.2.2.length (e6.2.2.flatMap c25_d)]) rfl rfl zc208_dd g7 rfl (Nat.le_of_ble_eq_true rfl) rfl (evs (ev_al rfl rfl (evs (ev_st (off := 0) (c1 := .agg [.str e6.1, .int .i64 e6.2.1, .dat e6.2.2.length (e6.2.2.flatMap c25_d)]) (cs' := [.str e6.1, .int .i64 e6.2.1, .dat e6.2.2.length (e6.2.2.flatMap c25_d)]) rfl rfl rfl rfl rfl rfl (Nat.le_of_ble_eq_true rfl) rfl (evn ?_))))))))
    refine ls_keep [(2, .box [.own 208 ([] : List ((List UInt8) × (Int × (List (List Int))))).length (([] : List ((List UInt8) × (Int × (List (List Int))))).flatMap c208_oo)]), (3, .box [.own 208 y1.length (y1.flatMap c208_oo)]), (5, .box [.str e6.1, .int .i64 e6.2.1, .dat e6.2.2.length (e6.2.2.flatMap c25_d)]), (7, .dat a0.length (a0.flatMap c208_dd)), (8, .int .i64 (List.length a0 : Int)), (9, .int .i64 y2)] ⟨kr, kr, kr, kr, kr, kr, trivial⟩ rfl ?_
    refine ls_drw tbOk mixed (by kernel_rfl) ?_
    refine evd rfl rfl (ev_fa (c1 := .cref 3 0) (v := .cref 3 0) rfl rfl rfl ⟨_, rfl⟩ rfl (evd rfl rfl (ev_ldBt (off := 0) (v := .own 208 y1.length (y1.flatMap c208_oo)) (c' := .box [.dat y1.length (y1.flatMap c208_oo)]) rfl rfl rfl rfl (Nat.le_of_ble_eq_true rfl) rfl rfl (evd rfl rfl (ev_fa (c1 := .cref 5 0) (v := .cref 5 0) rfl rfl rfl ⟨_, rfl⟩ rfl (evd rfl rfl (ev_ldB (off := 0) (v := .str e6.1) rfl rfl rfl rfl (Nat.le_of_ble_eq_true rfl) rfl (evd rfl rfl (ev_fa (c1 := .cref 5 0) (v := .cref 5 1) rfl rfl rfl ⟨_, rfl⟩ rfl (evd rfl rfl (ev_ldB (off := 1) (v := .agg [.int .i64 e6.2.1, .dat e6.2.2.length (e6.2.2.flatMap c25_d)]) rfl rfl rfl rfl (Nat.le_of_ble_eq_true rfl) rfl (?_))))))))))))
    obtain ⟨v8, g9, h⟩ := ob_some h
    refine evd rfl rfl (ev_call (era rfl (erg (erc rfl (erc (erD ec25_d _) rfl))) eran) (impl_copyRelation_s g9) (evd rfl rfl (ev_bd [.str e6.1, .agg [.int .i64 v8.1, .own 25 v8.2.length (v8.2.flatMap c25_o)]] (cs := [.str e6.1, .int .i64 v8.1, .own 25 v8.2.length (v8.2.flatMap c25_o)]) rfl ⟨rfl, rfl, trivial⟩ rfl (evd rfl rfl (ev_bs [.agg [.str e6.1, .int .i64 v8.1, .own 25 v8.2.length (v8.2.flatMap c25_o)]] (cs := [.str e6.1, .int .i64 v8.1, .own 25 v8.2.length (v8.2.flatMap c25_o)]) rfl ⟨rfl, trivial⟩ rfl (Nat.le_of_ble_eq_true rfl) rfl (?_))))))
    obtain ⟨g10, h⟩ := chk_some h
    refine evd rfl rfl (ev_app (f := c208_oo) (l := y1) (m := [(e6.1, v8)]) (c2 := .own 208 [(e6.1, v8)].length ([(e6.1, v8)].flatMap c208_oo)) rfl rfl rfl (flat_len zc208_oo [(e6.1, v8)]) rfl rfl g10 rfl (evd rfl rfl (ev_fa (c1 := .cref 3 0) (v := .cref 3 0) rfl rfl rfl ⟨_, rfl⟩ rfl (evd rfl rfl (ev_st (off := 0) (c1 := .own 208 (y1 ++ [(e6.1, v8)]).length ((y1 ++ [(e6.1, v8)]).flatMap c208_oo)) (cs' := [.own 208 (y1 ++ [(e6.1, v8)]).length ((y1 ++ [(e6.1, v8)]).flatMap c208_oo)]) rfl rfl rfl rfl rfl rfl (Nat.le_of_ble_eq_true rfl) rfl (evdn ?_))))))
    refine hK5 _ (ls_keep [(2, .box [.own 208 ([] : List ((List UInt8) × (Int × (List (List Int))))).length (([] : List ((List UInt8) × (Int × (List (List Int))))).flatMap c208_oo)]), (3, .box [.own 208 (y1 ++ [(e6.1, v8)]).length ((y1 ++ [(e6.1, v8)]).flatMap c208_oo)]), (7, .dat a0.length (a0.flatMap c208_dd)), (8, .int .i64 (List.length a0 : Int)), (9, .int .i64 y2)] ⟨kr, kr, kr, kr, kr, trivial⟩ rfl ?_)
    refine ls_rgn tbOk ?_
    refine evs (ev_bin (c1 := .int .i64 y2) (c2 := .int .i64 1) rfl rfl rfl (evs (ev_mv (c := .int .i64 (IntKind.i64.wrap (y2 + 1))) rfl rfl rfl (evn ?_))))
    exact hN _ ((y1 ++ [(e6.1, v8)]), (IntKind.i64.wrap (y2 + 1))) h ⟨kr, kr, kr, kr, kr, trivial⟩
  · refine ls_cF rfl g4 ?_
    refine ls_exit ?_
    have q0 := (Option.some.inj h).symm
    have r0 := hr1
    rw [q0] at r0
    exact kXimpl_copyDatabase_B1 y1 r0 _ ⟨kr, kr, trivial⟩
def impl_SnapshotAt (a0 : Int × (List ((List ((List UInt8) × (Int × (List (List Int)))))))) (a1 : Int) : Option (((List ((List UInt8) × (Int × (List (List Int)))))) × Bool) := obind (impl_IsValidHistory a0) fun v2 => cond (!v2) (some ([], false)) (obind (impl_within a1 a0.1 (IntKind.i64.wrap ((IntKind.i64.wrap (a0.1 + (List.length a0.2 : Int))) - 1))) fun v5 => cond (!v5) (some ([], false)) (obind (geti a0.2 (IntKind.i64.wrap (a1 - a0.1))) fun e8 => obind (impl_copyDatabase e8) fun v10 => some (v10, true)))
theorem impl_SnapshotAt_s {a0 : Int × (List ((List ((List UInt8) × (Int × (List (List Int)))))))} {a1 : Int} {r : ((List ((List UInt8) × (Int × (List (List Int)))))) × Bool} (h : impl_SnapshotAt a0 a1 = some r) : SoundAt Try.prog 29 [.agg [.int .i64 a0.1, .dat a0.2.length (a0.2.flatMap c33_ddd)], .int .i64 a1] (.tup [.agg [.own 208 r.1.length (r.1.flatMap c208_oo)], .bool r.2]) := by
  unfold impl_SnapshotAt at h
  refine sound_lit tbOk lit29 (Nat.le_of_ble_eq_true rfl) rfl ?_
  unfold c29
  refine ls_keep [(0, .agg [.int .i64 a0.1, .dat a0.2.length (a0.2.flatMap c33_ddd)]), (1, .int .i64 a1)] ⟨kr, kr, trivial⟩ rfl ?_
  refine ls_rs tbOk ?_
  refine evs (ev_bx (c1 := .agg [.int .i64 a0.1, .dat a0.2.length (a0.2.flatMap c33_ddd)]) rfl rfl rfl (evs (ev_al rfl rfl (evs (ev_ac rfl nofun rfl (evn ?_))))))
  refine ls_keep [(1, .int .i64 a1), (2, .box [.int .i64 a0.1, .dat a0.2.length (a0.2.flatMap c33_ddd)]), (4, .box [.own 208 ([] : List ((List UInt8) × (Int × (List (List Int))))).length (([] : List ((List UInt8) × (Int × (List (List Int))))).flatMap c208_oo)])] ⟨kr, kr, kr, trivial⟩ rfl ?_
  refine ls_seq_k fun K1 hK1 => ?_
  refine ls_rs tbOk ?_
  refine evs (ev_ldB (off := 0) (v := .agg [.int .i64 a0.1, .dat a0.2.length (a0.2.flatMap c33_ddd)]) rfl rfl rfl rfl (Nat.le_of_ble_eq_true rfl) rfl (?_))
  obtain ⟨v2, g3, h⟩ := ob_some h
  refine evs (ev_call (era rfl (erg (erc rfl (erc (erD ec33_ddd _) rfl))) eran) (impl_IsValidHistory_s g3) (evs (ev_un (c1 := .bool v2) rfl trivial (evs (ev_mv (c := .bool (!v2)) rfl rfl rfl (?_))))))
  rcases cond_some h with ⟨g4, h⟩ | ⟨g4, h⟩
  · refine evs (ev_gs rfl rfl (isb_T g4) (evs (ev_gs rfl rfl (isb_T g4) (evs (ev_gs rfl rfl (isb_T g4) (evs (ev_gs rfl rfl (isb_T g4) (evs (ev_gs rfl rfl (isb_T g4) (evs (ev_gs rfl rfl (isb_T g4) (evs (ev_gs rfl rfl (isb_T g4) (evs (ev_gs rfl rfl (isb_T g4) (evs (ev_gs rfl rfl (isb_T g4) (evs (ev_gs rfl rfl (isb_T g4) (evs (ev_gs rfl rfl (isb_T g4) (evs (ev_gs rfl rfl (isb_T g4) (evs (ev_pkT (c1 := .bool true) rfl g4 rfl rfl (evn ?_))))))))))))))))))))))))))
    refine ls_keep [(1, .int .i64 a1), (2, .box [.int .i64 a0.1, .dat a0.2.length (a0.2.flatMap c33_ddd)]), (4, .box [.own 208 ([] : List ((List UInt8) × (Int × (List (List Int))))).length (([] : List ((List UInt8) × (Int × (List (List Int))))).flatMap c208_oo)]), (22, .bool true)] ⟨kr, kr, kr, kr, trivial⟩ rfl ?_
    refine ls_cT rfl rfl ?_
    refine ls_rs tbOk ?_
    refine evs (ev_bd [] (cs := [.own 208 ([] : List ((List UInt8) × (Int × (List (List Int))))).length (([] : List ((List UInt8) × (Int × (List (List Int))))).flatMap c208_oo)]) rfl trivial rfl (evs (ev_st (off := 0) (c1 := .agg [.own 208 ([] : List ((List UInt8) × (Int × (List (List Int))))).length (([] : List ((List UInt8) × (Int × (List (List Int))))).flatMap c208_oo)]) (cs' := [.own 208 ([] : List ((List UInt8) × (Int × (List (List Int))))).length (([] : List ((List UInt8) × (Int × (List (List Int))))).flatMap c208_oo)]) rfl rfl rfl rfl rfl rfl (Nat.le_of_ble_eq_true rfl) rfl (evs (ev_ac rfl nofun rfl (evn ?_))))))
    refine ls_keep [(4, .box [.own 208 ([] : List ((List UInt8) × (Int × (List (List Int))))).length (([] : List ((List UInt8) × (Int × (List (List Int))))).flatMap c208_oo)]), (5, .bool false)] ⟨kr, kr, trivial⟩ rfl ?_
    refine ls_ret ?_
    have hr := Option.some.inj h
    rw [← hr]
    exact ⟨.inl rfl, rfl⟩
  · refine evs (ev_gr rfl (congrArg V.bool g4) (ev_mv (c := .int .i64 a1) rfl rfl rfl (evs (ev_gr rfl (congrArg V.bool g4) (ev_fa (c1 := .cref 2 0) (v := .cref 2 0) rfl rfl rfl ⟨_, rfl⟩ rfl (evs (ev_gr rfl (congrArg V.bool g4) (ev_ldB (off := 0) (v := .int .i64 a0.1) rfl rfl rfl rfl (Nat.le_of_ble_eq_true rfl) rfl (evs (ev_gr rfl (congrArg V.bool g4) (ev_fa (c1 := .cref 2 0) (v := .cref 2 0) rfl rfl rfl ⟨_, rfl⟩ rfl (evs (ev_gr rfl (congrArg V.bool g4) (ev_ldB (off := 0) (v := .int .i64 a0.1) rfl rfl rfl rfl (Nat.le_of_ble_eq_true rfl) rfl (evs (ev_gr rfl (congrArg V.bool g4) (ev_fa (c1 := .cref 2 0) (v := .cref 2 1) rfl rfl rfl ⟨_, rfl⟩ rfl (evs (ev_gr rfl (congrArg V.bool g4) (ev_ldB (off := 1) (v := .dat a0.2.length (a0.2.flatMap c33_ddd)) rfl rfl rfl rfl (Nat.le_of_ble_eq_true rfl) rfl (evs (ev_gr rfl (congrArg V.bool g4) (ev_len (c1 := .dat a0.2.length (a0.2.flatMap c33_ddd)) rfl rfl rfl (evs (ev_gr rfl (congrArg V.bool g4) (ev_bin (c1 := .int .i64 a0.1) (c2 := .int .i64 (List.length a0.2 : Int)) rfl rfl rfl (evs (ev_gr rfl (congrArg V.bool g4) (ev_bin (c1 := .int .i64 (IntKind.i64.wrap (a0.1 + (List.length a0.2 : Int)))) (c2 := .int .i64 1) rfl rfl rfl (?_))))))))))))))))))))))))))))))
    obtain ⟨v5, g6, h⟩ := ob_some h
    refine evs (ev_gr rfl (congrArg V.bool g4) (ev_call (era rfl rfl (era rfl rfl (era rfl rfl eran))) (impl_within_s g6) (evs (ev_gr rfl (congrArg V.bool g4) (ev_un (c1 := .bool v5) rfl trivial (evs (ev_pkF (c1 := .bool (!v5)) rfl g4 rfl rfl (evn ?_))))))))
    refine ls_keep [(1, .int .i64 a1), (2, .box [.int .i64 a0.1, .dat a0.2.length (a0.2.flatMap c33_ddd)]), (4, .box [.own 208 ([] : List ((List UInt8) × (Int × (List (List Int))))).length (([] : List ((List UInt8) × (Int × (List (List Int))))).flatMap c208_oo)]), (22, .bool (!v5))] ⟨kr, kr, kr, kr, trivial⟩ rfl ?_
    rcases cond_some h with ⟨g7, h⟩ | ⟨g7, h⟩
    · refine ls_cT rfl g7 ?_
      refine ls_rs tbOk ?_
      refine evs (ev_bd [] (cs := [.own 208 ([] : List ((List UInt8) × (Int × (List (List Int))))).length (([] : List ((List UInt8) × (Int × (List (List Int))))).flatMap c208_oo)]) rfl trivial rfl (evs (ev_st (off := 0) (c1 := .agg [.own 208 ([] : List ((List UInt8) × (Int × (List (List Int))))).length (([] : List ((List UInt8) × (Int × (List (List Int))))).flatMap c208_oo)]) (cs' := [.own 208 ([] : List ((List UInt8) × (Int × (List (List Int))))).length (([] : List ((List UInt8) × (Int × (List (List Int))))).flatMap c208_oo)]) rfl rfl rfl rfl rfl rfl (Nat.le_of_ble_eq_true rfl) rfl (evs (ev_ac rfl nofun rfl (evn ?_))))))
      refine ls_keep [(4, .box [.own 208 ([] : List ((List UInt8) × (Int × (List (List Int))))).length (([] : List ((List UInt8) × (Int × (List (List Int))))).flatMap c208_oo)]), (5, .bool false)] ⟨kr, kr, trivial⟩ rfl ?_
      refine ls_ret ?_
      have hr := Option.some.inj h
      rw [← hr]
      exact ⟨.inl rfl, rfl⟩
    · refine ls_cF rfl g7 ?_
      refine ls_skip ?_
      refine hK1 _ (ls_keep [(1, .int .i64 a1), (2, .box [.int .i64 a0.1, .dat a0.2.length (a0.2.flatMap c33_ddd)]), (4, .box [.own 208 ([] : List ((List UInt8) × (Int × (List (List Int))))).length (([] : List ((List UInt8) × (Int × (List (List Int))))).flatMap c208_oo)])] ⟨kr, kr, kr, trivial⟩ rfl ?_)
      refine ls_rs tbOk ?_
      refine evs (ev_fa (c1 := .cref 2 0) (v := .cref 2 1) rfl rfl rfl ⟨_, rfl⟩ rfl (evs (ev_ldB (off := 1) (v := .dat a0.2.length (a0.2.flatMap c33_ddd)) rfl rfl rfl rfl (Nat.le_of_ble_eq_true rfl) rfl (evs (ev_mv (c := .int .i64 a1) rfl rfl rfl (evs (ev_fa (c1 := .cref 2 0) (v := .cref 2 0) rfl rfl rfl ⟨_, rfl⟩ rfl (evs (ev_ldB (off := 0) (v := .int .i64 a0.1) rfl rfl rfl rfl (Nat.le_of_ble_eq_true rfl) rfl (evs (ev_bin (c1 := .int .i64 a1) (c2 := .int .i64 a0.1) rfl rfl rfl (?_))))))))))))
      obtain ⟨e8, g9, h⟩ := ob_some h
      refine evs (ev_ia rfl rfl rfl ⟨(geti_some g9).1, (geti_some g9).2.1⟩ (evs (ev_ldE (i := (IntKind.i64.wrap (a1 - a0.1))) (n := 1) (off := 0) (v := .agg [.dat e8.length (e8.flatMap c208_dd)]) rfl rfl zc33_ddd g9 rfl (Nat.le_of_ble_eq_true rfl) rfl (?_))))
      obtain ⟨v10, g11, h⟩ := ob_some h
      refine evs (ev_call (era rfl (erg (erc (erD ec208_dd _) rfl)) eran) (impl_copyDatabase_s g11) (evs (ev_st (off := 0) (c1 := .agg [.own 208 v10.length (v10.flatMap c208_oo)]) (cs' := [.own 208 v10.length (v10.flatMap c208_oo)]) rfl rfl rfl rfl rfl rfl (Nat.le_of_ble_eq_true rfl) rfl (evs (ev_ac rfl nofun rfl (evn ?_))))))
      refine ls_keep [(4, .box [.own 208 v10.length (v10.flatMap c208_oo)]), (5, .bool true)] ⟨kr, kr, trivial⟩ rfl ?_
      refine ls_ret ?_
      have hr := Option.some.inj h
      rw [← hr]
      exact ⟨.inl rfl, rfl⟩
def laws_eqDatabaseS_B1 (a0 : List ((List ((List UInt8) × (Int × (List (List Int))))))) (a1 : List ((List ((List UInt8) × (Int × (List (List Int))))))) (rec : Int → Option (Sum (Unit) (Bool))) (y1 : Int) : Option (Sum (Unit) (Bool)) := cond (decide (y1 < (List.length a0 : Int))) (obind (geti a0 y1) fun e7 => obind (geti a1 y1) fun e9 => obind (laws_eqDatabase e7 e9) fun v11 => cond (!v11) (some (.inr false)) (rec (IntKind.i64.wrap (y1 + 1)))) (some (.inl ()))
def laws_eqDatabaseS (a0 : List ((List ((List UInt8) × (Int × (List (List Int))))))) (a1 : List ((List ((List UInt8) × (Int × (List (List Int))))))) : Option (Bool) := cond ((List.length a0 : Int) != (List.length a1 : Int)) (some false) (obind (loopF (laws_eqDatabaseS_B1 a0 a1) fz 0) fun o1 => (match o1 with
  | .inl _ => (some true)
  | .inr r => some r))
theorem laws_eqDatabaseS_s {a0 : List ((List ((List UInt8) × (Int × (List (List Int))))))} {a1 : List ((List ((List UInt8) × (Int × (List (List Int))))))} {r : Bool} (h : laws_eqDatabaseS a0 a1 = some r) : SoundAt Try.prog 92 [.dat a0.length (a0.flatMap c33_ddd), .dat a1.length (a1.flatMap c33_ddd)] (.bool r) := by
  unfold laws_eqDatabaseS at h
  refine sound_lit tbOk lit92 (Nat.le_of_ble_eq_true rfl) rfl ?_
  unfold c92
  refine ls_keep [(0, .dat a0.length (a0.flatMap c33_ddd)), (1, .dat a1.length (a1.flatMap c33_ddd))] ⟨kr, kr, trivial⟩ rfl ?_
  refine ls_rs tbOk ?_
  refine evs (ev_ac rfl nofun rfl (evn ?_))
  refine ls_keep [(0, .dat a0.length (a0.flatMap c33_ddd)), (1, .dat a1.length (a1.flatMap c33_ddd))] ⟨kr, kr, trivial⟩ rfl ?_
  refine ls_seq_k fun K1 hK1 => ?_
  refine ls_rs tbOk ?_
  refine evs (ev_mv (c := .dat a0.length (a0.flatMap c33_ddd)) rfl rfl rfl (evs (ev_len (c1 := .dat a0.length (a0.flatMap c33_ddd)) rfl rfl rfl (evs (ev_mv (c := .dat a1.length (a1.flatMap c33_ddd)) rfl rfl rfl (evs (ev_len (c1 := .dat a1.length (a1.flatMap c33_ddd)) rfl rfl rfl (evs (ev_bin (c1 := .int .i64 (List.length a0 : Int)) (c2 := .int .i64 (List.length a1 : Int)) rfl rfl rfl (evn ?_))))))))))
  refine ls_keep [(0, .dat a0.length (a0.flatMap c33_ddd)), (1, .dat a1.length (a1.flatMap c33_ddd)), (10, .bool ((List.length a0 : Int) != (List.length a1 : Int)))] ⟨kr, kr, kr, trivial⟩ rfl ?_
  rcases cond_some h with ⟨g2, h⟩ | ⟨g2, h⟩
  · refine ls_cT rfl g2 ?_
    refine ls_rs tbOk ?_
    refine evs (ev_ac rfl nofun rfl (evn ?_))
    refine ls_keep [(4, .bool false)] ⟨kr, trivial⟩ rfl ?_
    refine ls_ret ?_
    have hr := Option.some.inj h
    rw [← hr]
    exact ⟨.inl rfl, rfl⟩
  · refine ls_cF rfl g2 ?_
    refine ls_skip ?_
    refine hK1 _ (ls_keep [(0, .dat a0.length (a0.flatMap c33_ddd)), (1, .dat a1.length (a1.flatMap c33_ddd))] ⟨kr, kr, trivial⟩ rfl ?_)
    refine ls_seq_k fun K3 hK3 => ?_
    refine ls_rs tbOk ?_
    refine evs (ev_ac rfl nofun rfl (evn ?_))
    refine ls_keep [(0, .dat a0.length (a0.flatMap c33_ddd)), (1, .dat a1.length (a1.flatMap c33_ddd)), (5, .int .i64 0)] ⟨kr, kr, kr, trivial⟩ rfl ?_
    obtain ⟨o1, hl, hr1⟩ := ob_some h
    clear h
    have kXlaws_eqDatabaseS_B1 : ∀ (_ : Unit), (some true) = some r → ∀ σ' : PS, okK σ' [] → K3 σ' := by
      intro _ h σ' hk
      refine hK3 _ (ls_keep [] hk rfl ?_)
      refine ls_rs tbOk ?_
      refine evs (ev_ac rfl nofun rfl (evn ?_))
      refine ls_keep [(4, .bool true)] ⟨kr, trivial⟩ rfl ?_
      refine ls_ret ?_
      have hr := Option.some.inj h
      rw [← hr]
      exact ⟨.inl rfl, rfl⟩
    refine ls_rec (fun (y1 : Int) => [(0, .dat a0.length (a0.flatMap c33_ddd)), (1, .dat a1.length (a1.flatMap c33_ddd)), (5, .int .i64 y1)]) (laws_eqDatabaseS_B1 a0 a1) fz 0 o1 hl ⟨kr, kr, kr, trivial⟩ (fun _ => rfl) ?_
    rintro m y1 N h hN
    unfold laws_eqDatabaseS_B1 at h
    refine ls_seq_k fun K4 hK4 => ?_
    refine ls_rs tbOk ?_
    refine evs (ev_mv (c := .int .i64 y1) rfl rfl rfl (evs (ev_mv (c := .dat a0.length (a0.flatMap c33_ddd)) rfl rfl rfl (evs (ev_len (c1 := .dat a0.length (a0.flatMap c33_ddd)) rfl rfl rfl (evs (ev_bin (c1 := .int .i64 y1) (c2 := .int .i64 (List.length a0 : Int)) rfl rfl rfl (evn ?_))))))))
    refine ls_keep [(0, .dat a0.length (a0.flatMap c33_ddd)), (1, .dat a1.length (a1.flatMap c33_ddd)), (5, .int .i64 y1), (14, .bool (decide (y1 < (List.length a0 : Int))))] ⟨kr, kr, kr, kr, trivial⟩ rfl ?_
    rcases cond_some h with ⟨g5, h⟩ | ⟨g5, h⟩
    · refine ls_cT rfl g5 ?_
      refine ls_skip ?_
      refine hK4 _ (ls_keep [(0, .dat a0.length (a0.flatMap c33_ddd)), (1, .dat a1.length (a1.flatMap c33_ddd)), (5, .int .i64 y1)] ⟨kr, kr, kr, trivial⟩ rfl ?_)
      refine ls_seq_k fun K6 hK6 => ?_
      refine ls_blk ?_
      refine ls_rd tbOk mixed (by kernel_rfl) ?_
      refine evd rfl rfl (ev_mv (c := .dat a0.length (a0.flatMap c33_ddd)) rfl rfl rfl (evd rfl rfl (ev_mv (c := .int .i64 y1) rfl rfl rfl (?_))))
      obtain ⟨e7, g8, h⟩ := ob_some h
      refine evd rfl rfl (ev_ia rfl rfl rfl ⟨(geti_some g8).1, (geti_some g8).2.1⟩ (evd rfl rfl (ev_ldE (i := y1) (n := 1) (off := 0) (v := .agg [.dat e7.length (e7.flatMap c208_dd)]) rfl rfl zc33_ddd g8 rfl (Nat.le_of_ble_eq_true rfl) rfl (evd rfl rfl (ev_mv (c := .dat a1.length (a1.flatMap c33_ddd)) rfl rfl rfl (evd rfl rfl (ev_mv (c := .int .i64 y1) rfl rfl rfl (?_))))))))
      obtain ⟨e9, g10, h⟩ := ob_some h
      refine evd rfl rfl (ev_ia rfl rfl rfl ⟨(geti_some g10).1, (geti_some g10).2.1⟩ (evd rfl rfl (ev_ldE (i := y1) (n := 1) (off := 0) (v := .agg [.dat e9.length (e9.flatMap c208_dd)]) rfl rfl zc33_ddd g10 rfl (Nat.le_of_ble_eq_true rfl) rfl (?_))))
      obtain ⟨v11, g12, h⟩ := ob_some h
      refine evd rfl rfl (ev_call (era rfl (erg (erc (erD ec208_dd _) rfl)) (era rfl (erg (erc (erD ec208_dd _) rfl)) eran)) (laws_eqDatabase_s g12) (evd rfl rfl (ev_un (c1 := .bool v11) rfl trivial (evdn ?_))))
      refine ls_keep [(0, .dat a0.length (a0.flatMap c33_ddd)), (1, .dat a1.length (a1.flatMap c33_ddd)), (5, .int .i64 y1), (26, .bool (!v11))] ⟨kr, kr, kr, kr, trivial⟩ rfl ?_
      rcases cond_some h with ⟨g13, h⟩ | ⟨g13, h⟩
      · refine ls_cT rfl g13 ?_
        refine ls_rs tbOk ?_
        refine evs (ev_ac rfl nofun rfl (evn ?_))
        refine ls_keep [(4, .bool false)] ⟨kr, trivial⟩ rfl ?_
        refine ls_ret ?_
        have q0 := (Option.some.inj h).symm
        have r0 := hr1
        rw [q0] at r0
        have hr := Option.some.inj r0
        rw [← hr]
        exact ⟨.inl rfl, rfl⟩
      · refine ls_cF rfl g13 ?_
        refine ls_skip ?_
        refine hK6 _ (ls_keep [(0, .dat a0.length (a0.flatMap c33_ddd)), (1, .dat a1.length (a1.flatMap c33_ddd)), (5, .int .i64 y1)] ⟨kr, kr, kr, trivial⟩ rfl ?_)
        refine ls_rgn tbOk ?_
        refine evs (ev_mv (c := .int .i64 y1) rfl rfl rfl (evs (ev_bin (c1 := .int .i64 y1) (c2 := .int .i64 1) rfl rfl rfl (evs (ev_as (c := .int .i64 (IntKind.i64.wrap (y1 + 1))) rfl rfl rfl (evn ?_))))))
        exact hN _ (IntKind.i64.wrap (y1 + 1)) h ⟨kr, kr, kr, trivial⟩
    · refine ls_cF rfl g5 ?_
      refine ls_exit ?_
      have q0 := (Option.some.inj h).symm
      have r0 := hr1
      rw [q0] at r0
      exact kXlaws_eqDatabaseS_B1 () r0 _ trivial
def laws_eqHistory (a0 : Int × (List ((List ((List UInt8) × (Int × (List (List Int)))))))) (a1 : Int × (List ((List ((List UInt8) × (Int × (List (List Int)))))))) : Option (Bool) := cond (a0.1 != a1.1) (some false) (obind (laws_eqDatabaseS a0.2 a1.2) fun v4 => cond (!v4) (some false) (some true))
theorem laws_eqHistory_s {a0 : Int × (List ((List ((List UInt8) × (Int × (List (List Int)))))))} {a1 : Int × (List ((List ((List UInt8) × (Int × (List (List Int)))))))} {r : Bool} (h : laws_eqHistory a0 a1 = some r) : SoundAt Try.prog 30 [.agg [.int .i64 a0.1, .dat a0.2.length (a0.2.flatMap c33_ddd)], .agg [.int .i64 a1.1, .dat a1.2.length (a1.2.flatMap c33_ddd)]] (.bool r) := by
  unfold laws_eqHistory at h
  refine sound_lit tbOk lit30 (Nat.le_of_ble_eq_true rfl) rfl ?_
  unfold c30
  refine ls_keep [(0, .agg [.int .i64 a0.1, .dat a0.2.length (a0.2.flatMap c33_ddd)]), (1, .agg [.int .i64 a1.1, .dat a1.2.length (a1.2.flatMap c33_ddd)])] ⟨kr, kr, trivial⟩ rfl ?_
  refine ls_rs tbOk ?_
  refine evs (ev_bx (c1 := .agg [.int .i64 a0.1, .dat a0.2.length (a0.2.flatMap c33_ddd)]) rfl rfl rfl (evs (ev_bx (c1 := .agg [.int .i64 a1.1, .dat a1.2.length (a1.2.flatMap c33_ddd)]) rfl rfl rfl (evs (ev_ac rfl nofun rfl (evn ?_))))))
  refine ls_keep [(2, .box [.int .i64 a0.1, .dat a0.2.length (a0.2.flatMap c33_ddd)]), (3, .box [.int .i64 a1.1, .dat a1.2.length (a1.2.flatMap c33_ddd)])] ⟨kr, kr, trivial⟩ rfl ?_
  refine ls_seq_k fun K1 hK1 => ?_
  refine ls_rs tbOk ?_
  refine evs (ev_fa (c1 := .cref 2 0) (v := .cref 2 0) rfl rfl rfl ⟨_, rfl⟩ rfl (evs (ev_ldB (off := 0) (v := .int .i64 a0.1) rfl rfl rfl rfl (Nat.le_of_ble_eq_true rfl) rfl (evs (ev_fa (c1 := .cref 3 0) (v := .cref 3 0) rfl rfl rfl ⟨_, rfl⟩ rfl (evs (ev_ldB (off := 0) (v := .int .i64 a1.1) rfl rfl rfl rfl (Nat.le_of_ble_eq_true rfl) rfl (evs (ev_bin (c1 := .int .i64 a0.1) (c2 := .int .i64 a1.1) rfl rfl rfl (evn ?_))))))))))
  refine ls_keep [(2, .box [.int .i64 a0.1, .dat a0.2.length (a0.2.flatMap c33_ddd)]), (3, .box [.int .i64 a1.1, .dat a1.2.length (a1.2.flatMap c33_ddd)]), (9, .bool (a0.1 != a1.1))] ⟨kr, kr, kr, trivial⟩ rfl ?_
  rcases cond_some h with ⟨g2, h⟩ | ⟨g2, h⟩
  · refine ls_cT rfl g2 ?_
    refine ls_rs tbOk ?_
    refine evs (ev_ac rfl nofun rfl (evn ?_))
    refine ls_keep [(4, .bool false)] ⟨kr, trivial⟩ rfl ?_
    refine ls_ret ?_
    have hr := Option.some.inj h
    rw [← hr]
    exact ⟨.inl rfl, rfl⟩
  · refine ls_cF rfl g2 ?_
    refine ls_skip ?_
    refine hK1 _ (ls_keep [(2, .box [.int .i64 a0.1, .dat a0.2.length (a0.2.flatMap c33_ddd)]), (3, .box [.int .i64 a1.1, .dat a1.2.length (a1.2.flatMap c33_ddd)])] ⟨kr, kr, trivial⟩ rfl ?_)
    refine ls_seq_k fun K3 hK3 => ?_
    refine ls_rs tbOk ?_
    refine evs (ev_fa (c1 := .cref 2 0) (v := .cref 2 1) rfl rfl rfl ⟨_, rfl⟩ rfl (evs (ev_ldB (off := 1) (v := .dat a0.2.length (a0.2.flatMap c33_ddd)) rfl rfl rfl rfl (Nat.le_of_ble_eq_true rfl) rfl (evs (ev_fa (c1 := .cref 3 0) (v := .cref 3 1) rfl rfl rfl ⟨_, rfl⟩ rfl (evs (ev_ldB (off := 1) (v := .dat a1.2.length (a1.2.flatMap c33_ddd)) rfl rfl rfl rfl (Nat.le_of_ble_eq_true rfl) rfl (?_))))))))
    obtain ⟨v4, g5, h⟩ := ob_some h
    refine evs (ev_call (era rfl (erD ec33_ddd _) (era rfl (erD ec33_ddd _) eran)) (laws_eqDatabaseS_s g5) (evs (ev_un (c1 := .bool v4) rfl trivial (evn ?_))))
    refine ls_keep [(15, .bool (!v4))] ⟨kr, trivial⟩ rfl ?_
    rcases cond_some h with ⟨g6, h⟩ | ⟨g6, h⟩
    · refine ls_cT rfl g6 ?_
      refine ls_rs tbOk ?_
      refine evs (ev_ac rfl nofun rfl (evn ?_))
      refine ls_keep [(4, .bool false)] ⟨kr, trivial⟩ rfl ?_
      refine ls_ret ?_
      have hr := Option.some.inj h
      rw [← hr]
      exact ⟨.inl rfl, rfl⟩
    · refine ls_cF rfl g6 ?_
      refine ls_skip ?_
      refine hK3 _ (ls_keep [] trivial rfl ?_)
      refine ls_rs tbOk ?_
      refine evs (ev_ac rfl nofun rfl (evn ?_))
      refine ls_keep [(4, .bool true)] ⟨kr, trivial⟩ rfl ?_
      refine ls_ret ?_
      have hr := Option.some.inj h
      rw [← hr]
      exact ⟨.inl rfl, rfl⟩
def laws_heldIntS_B1 (a0 : List Int) (rec : (Int × Int) → Option (Sum (Int) (Int))) (s : Int × Int) : Option (Sum (Int) (Int)) := match s with
  | (y1, y2) => cond (decide (y2 < (List.length a0 : Int))) (obind (geti a0 y2) fun e7 => cond (e7 != y1) (some (.inr (-1))) (rec ((IntKind.i64.wrap (y1 + 1)), (IntKind.i64.wrap (y2 + 1))))) (some (.inl y1))
def laws_heldIntS (a0 : List Int) (a1 : Int) : Option (Int) := obind (loopF (laws_heldIntS_B1 a0) fz (a1, 0)) fun o1 => (match o1 with
  | .inl z2 => (some z2)
  | .inr r => some r)
theorem laws_heldIntS_s {a0 : List Int} {a1 : Int} {r : Int} (h : laws_heldIntS a0 a1 = some r) : SoundAt Try.prog 25 [.dat a0.length (a0.flatMap ci64), .int .i64 a1] (.int .i64 r) := by
  unfold laws_heldIntS at h
  refine sound_lit tbOk lit25 (Nat.le_of_ble_eq_true rfl) rfl ?_
  unfold c25
  refine ls_keep [(0, .dat a0.length (a0.flatMap ci64)), (1, .int .i64 a1)] ⟨kr, kr, trivial⟩ rfl ?_
  refine ls_rs tbOk ?_
  refine evs (ev_ac rfl nofun rfl (evn ?_))
  refine ls_keep [(0, .dat a0.length (a0.flatMap ci64)), (1, .int .i64 a1)] ⟨kr, kr, trivial⟩ rfl ?_
  refine ls_seq_k fun K1 hK1 => ?_
  refine ls_rs tbOk ?_
  refine evs (ev_ac rfl nofun rfl (evn ?_))
  refine ls_keep [(0, .dat a0.length (a0.flatMap ci64)), (1, .int .i64 a1), (5, .int .i64 0)] ⟨kr, kr, kr, trivial⟩ rfl ?_
  obtain ⟨o1, hl, hr1⟩ := ob_some h
  clear h
  have kXlaws_heldIntS_B1 : ∀ (z2 : Int), (some z2) = some r → ∀ σ' : PS, okK σ' [(1, .int .i64 z2)] → K1 σ' := by
    intro z2 h σ' hk
    refine hK1 _ (ls_keep [(1, .int .i64 z2)] hk rfl ?_)
    refine ls_rs tbOk ?_
    refine evs (ev_mv (c := .int .i64 z2) rfl rfl rfl (evs (ev_as (c := .int .i64 z2) rfl rfl rfl (evn ?_))))
    refine ls_keep [(4, .int .i64 z2)] ⟨kr, trivial⟩ rfl ?_
    refine ls_ret ?_
    have hr := Option.some.inj h
    rw [← hr]
    exact ⟨.inl rfl, rfl⟩
  refine ls_rec (fun (s : Int × Int) => match s with | (y1, y2) => [(0, .dat a0.length (a0.flatMap ci64)), (1, .int .i64 y1), (5, .int .i64 y2)]) (laws_heldIntS_B1 a0) fz (a1, 0) o1 hl ⟨kr, kr, kr, trivial⟩ (fun _ => rfl) ?_
  rintro m ⟨y1, y2⟩ N h hN
  unfold laws_heldIntS_B1 at h
  dsimp only at h
  refine ls_seq_k fun K3 hK3 => ?_
  refine ls_rs tbOk ?_
  refine evs (ev_mv (c := .int .i64 y2) rfl rfl rfl (evs (ev_mv (c := .dat a0.length (a0.flatMap ci64)) rfl rfl rfl (evs (ev_len (c1 := .dat a0.length (a0.flatMap ci64)) rfl rfl rfl (evs (ev_bin (c1 := .int .i64 y2) (c2 := .int .i64 (List.length a0 : Int)) rfl rfl rfl (evn ?_))))))))
  refine ls_keep [(0, .dat a0.length (a0.flatMap ci64)), (1, .int .i64 y1), (5, .int .i64 y2), (9, .bool (decide (y2 < (List.length a0 : Int))))] ⟨kr, kr, kr, kr, trivial⟩ rfl ?_
  rcases cond_some h with ⟨g4, h⟩ | ⟨g4, h⟩
  · refine ls_cT rfl g4 ?_
    refine ls_skip ?_
    refine hK3 _ (ls_keep [(0, .dat a0.length (a0.flatMap ci64)), (1, .int .i64 y1), (5, .int .i64 y2)] ⟨kr, kr, kr, trivial⟩ rfl ?_)
    refine ls_seq_k fun K5 hK5 => ?_
    refine ls_blk ?_
    refine ls_seq_k fun K6 hK6 => ?_
    refine ls_rs tbOk ?_
    refine evs (ev_mv (c := .dat a0.length (a0.flatMap ci64)) rfl rfl rfl (evs (ev_mv (c := .int .i64 y2) rfl rfl rfl (?_))))
    obtain ⟨e7, g8, h⟩ := ob_some h
    refine evs (ev_ia rfl rfl rfl ⟨(geti_some g8).1, (geti_some g8).2.1⟩ (evs (ev_ldE (i := y2) (n := 1) (off := 0) (v := .int .i64 e7) rfl rfl zci64 g8 rfl (Nat.le_of_ble_eq_true rfl) rfl (evs (ev_mv (c := .int .i64 y1) rfl rfl rfl (evs (ev_bin (c1 := .int .i64 e7) (c2 := .int .i64 y1) rfl rfl rfl (evn ?_))))))))
    refine ls_keep [(0, .dat a0.length (a0.flatMap ci64)), (1, .int .i64 y1), (5, .int .i64 y2), (17, .bool (e7 != y1))] ⟨kr, kr, kr, kr, trivial⟩ rfl ?_
    rcases cond_some h with ⟨g9, h⟩ | ⟨g9, h⟩
    · refine ls_cT rfl g9 ?_
      refine ls_rs tbOk ?_
      refine evs (ev_ac rfl nofun rfl (evn ?_))
      refine ls_keep [(4, .int .i64 (-1))] ⟨kr, trivial⟩ rfl ?_
      refine ls_ret ?_
      have q0 := (Option.some.inj h).symm
      have r0 := hr1
      rw [q0] at r0
      have hr := Option.some.inj r0
      rw [← hr]
      exact ⟨.inl rfl, rfl⟩
    · refine ls_cF rfl g9 ?_
      refine ls_skip ?_
      refine hK6 _ (ls_keep [(0, .dat a0.length (a0.flatMap ci64)), (1, .int .i64 y1), (5, .int .i64 y2)] ⟨kr, kr, kr, trivial⟩ rfl ?_)
      refine ls_rgn tbOk ?_
      refine evs (ev_mv (c := .int .i64 y1) rfl rfl rfl (evs (ev_bin (c1 := .int .i64 y1) (c2 := .int .i64 1) rfl rfl rfl (evs (ev_as (c := .int .i64 (IntKind.i64.wrap (y1 + 1))) rfl rfl rfl (evn ?_))))))
      refine hK5 _ (ls_keep [(0, .dat a0.length (a0.flatMap ci64)), (1, .int .i64 (IntKind.i64.wrap (y1 + 1))), (5, .int .i64 y2)] ⟨kr, kr, kr, trivial⟩ rfl ?_)
      refine ls_rgn tbOk ?_
      refine evs (ev_mv (c := .int .i64 y2) rfl rfl rfl (evs (ev_bin (c1 := .int .i64 y2) (c2 := .int .i64 1) rfl rfl rfl (evs (ev_as (c := .int .i64 (IntKind.i64.wrap (y2 + 1))) rfl rfl rfl (evn ?_))))))
      exact hN _ ((IntKind.i64.wrap (y1 + 1)), (IntKind.i64.wrap (y2 + 1))) h ⟨kr, kr, kr, trivial⟩
  · refine ls_cF rfl g4 ?_
    refine ls_exit ?_
    have q0 := (Option.some.inj h).symm
    have r0 := hr1
    rw [q0] at r0
    exact kXlaws_heldIntS_B1 y1 r0 _ ⟨kr, trivial⟩
def laws_heldIntSS_B1 (a0 : List (List Int)) (rec : (Int × Int) → Option (Sum (Int) (Int))) (s : Int × Int) : Option (Sum (Int) (Int)) := match s with
  | (y1, y2) => cond (decide (y2 < (List.length a0 : Int))) (obind (geti a0 y2) fun e6 => obind (laws_heldIntS e6 y1) fun v8 => cond (decide (v8 < 0)) (some (.inr (-1))) (rec (v8, (IntKind.i64.wrap (y2 + 1))))) (some (.inl y1))
def laws_heldIntSS (a0 : List (List Int)) (a1 : Int) : Option (Int) := obind (loopF (laws_heldIntSS_B1 a0) fz (a1, 0)) fun o1 => (match o1 with
  | .inl z2 => (some z2)
  | .inr r => some r)
theorem laws_heldIntSS_s {a0 : List (List Int)} {a1 : Int} {r : Int} (h : laws_heldIntSS a0 a1 = some r) : SoundAt Try.prog 179 [.dat a0.length (a0.flatMap c25_d), .int .i64 a1] (.int .i64 r) := by
  unfold laws_heldIntSS at h
  refine sound_lit tbOk lit179 (Nat.le_of_ble_eq_true rfl) rfl ?_
  unfold c179
  refine ls_keep [(0, .dat a0.length (a0.flatMap c25_d)), (1, .int .i64 a1)] ⟨kr, kr, trivial⟩ rfl ?_
  refine ls_rs tbOk ?_
  refine evs (ev_ac rfl nofun rfl (evn ?_))
  refine ls_keep [(0, .dat a0.length (a0.flatMap c25_d)), (1, .int .i64 a1)] ⟨kr, kr, trivial⟩ rfl ?_
  refine ls_seq_k fun K1 hK1 => ?_
  refine ls_rs tbOk ?_
  refine evs (ev_ac rfl nofun rfl (evn ?_))
  refine ls_keep [(0, .dat a0.length (a0.flatMap c25_d)), (1, .int .i64 a1), (5, .int .i64 0)] ⟨kr, kr, kr, trivial⟩ rfl ?_
  obtain ⟨o1, hl, hr1⟩ := ob_some h
  clear h
  have kXlaws_heldIntSS_B1 : ∀ (z2 : Int), (some z2) = some r → ∀ σ' : PS, okK σ' [(1, .int .i64 z2)] → K1 σ' := by
    intro z2 h σ' hk
    refine hK1 _ (ls_keep [(1, .int .i64 z2)] hk rfl ?_)
    refine ls_rs tbOk ?_
    refine evs (ev_mv (c := .int .i64 z2) rfl rfl rfl (evs (ev_as (c := .int .i64 z2) rfl rfl rfl (evn ?_))))
    refine ls_keep [(4, .int .i64 z2)] ⟨kr, trivial⟩ rfl ?_
    refine ls_ret ?_
    have hr := Option.some.inj h
    rw [← hr]
    exact ⟨.inl rfl, rfl⟩
  refine ls_rec (fun (s : Int × Int) => match s with | (y1, y2) => [(0, .dat a0.length (a0.flatMap c25_d)), (1, .int .i64 y1), (5, .int .i64 y2)]) (laws_heldIntSS_B1 a0) fz (a1, 0) o1 hl ⟨kr, kr, kr, trivial⟩ (fun _ => rfl) ?_
  rintro m ⟨y1, y2⟩ N h hN
  unfold laws_heldIntSS_B1 at h
  dsimp only at h
  refine ls_seq_k fun K3 hK3 => ?_
  refine ls_rs tbOk ?_
  refine evs (ev_mv (c := .int .i64 y2) rfl rfl rfl (evs (ev_mv (c := .dat a0.length (a0.flatMap c25_d)) rfl rfl rfl (evs (ev_len (c1 := .dat a0.length (a0.flatMap c25_d)) rfl rfl rfl (evs (ev_bin (c1 := .int .i64 y2) (c2 := .int .i64 (List.length a0 : Int)) rfl rfl rfl (evn ?_))))))))
  refine ls_keep [(0, .dat a0.length (a0.flatMap c25_d)), (1, .int .i64 y1), (5, .int .i64 y2), (9, .bool (decide (y2 < (List.length a0 : Int))))] ⟨kr, kr, kr, kr, trivial⟩ rfl ?_
  rcases cond_some h with ⟨g4, h⟩ | ⟨g4, h⟩
  · refine ls_cT rfl g4 ?_
    refine ls_skip ?_
    refine hK3 _ (ls_keep [(0, .dat a0.length (a0.flatMap c25_d)), (1, .int .i64 y1), (5, .int .i64 y2)] ⟨kr, kr, kr, trivial⟩ rfl ?_)
    refine ls_seq_k fun K5 hK5 => ?_
    refine ls_blk ?_
    refine ls_rs tbOk ?_
    refine evs (ev_mv (c := .dat a0.length (a0.flatMap c25_d)) rfl rfl rfl (evs (ev_mv (c := .int .i64 y2) rfl rfl rfl (?_))))
    obtain ⟨e6, g7, h⟩ := ob_some h
    refine evs (ev_ia rfl rfl rfl ⟨(geti_some g7).1, (geti_some g7).2.1⟩ (evs (ev_ldE (i := y2) (n := 1) (off := 0) (v := .dat e6.length (e6.flatMap ci64)) rfl rfl zc25_d g7 rfl (Nat.le_of_ble_eq_true rfl) rfl (evs (ev_mv (c := .int .i64 y1) rfl rfl rfl (?_))))))
    obtain ⟨v8, g9, h⟩ := ob_some h
    refine evs (ev_call (era rfl (erD eci64 _) (era rfl rfl eran)) (laws_heldIntS_s g9) (evs (ev_as (c := .int .i64 v8) rfl rfl rfl (evn ?_))))
    refine ls_keep [(0, .dat a0.length (a0.flatMap c25_d)), (1, .int .i64 v8), (5, .int .i64 y2)] ⟨kr, kr, kr, trivial⟩ rfl ?_
    refine ls_rs tbOk ?_
    refine evs (ev_mv (c := .int .i64 v8) rfl rfl rfl (evs (ev_bin (c1 := .int .i64 v8) (c2 := .int .i64 0) rfl rfl rfl (evn ?_))))
    refine ls_keep [(0, .dat a0.length (a0.flatMap c25_d)), (1, .int .i64 v8), (5, .int .i64 y2), (19, .bool (decide (v8 < 0)))] ⟨kr, kr, kr, kr, trivial⟩ rfl ?_
    rcases cond_some h with ⟨g10, h⟩ | ⟨g10, h⟩
    · refine ls_cT rfl g10 ?_
      refine ls_rs tbOk ?_
      refine evs (ev_ac rfl nofun rfl (evn ?_))
      refine ls_keep [(4, .int .i64 (-1))] ⟨kr, trivial⟩ rfl ?_
      refine ls_ret ?_
      have q0 := (Option.some.inj h).symm
      have r0 := hr1
      rw [q0] at r0
      have hr := Option.some.inj r0
      rw [← hr]
      exact ⟨.inl rfl, rfl⟩
    · refine ls_cF rfl g10 ?_
      refine ls_skip ?_
      refine hK5 _ (ls_keep [(0, .dat a0.length (a0.flatMap c25_d)), (1, .int .i64 v8), (5, .int .i64 y2)] ⟨kr, kr, kr, trivial⟩ rfl ?_)
      refine ls_rgn tbOk ?_
      refine evs (ev_mv (c := .int .i64 y2) rfl rfl rfl (evs (ev_bin (c1 := .int .i64 y2) (c2 := .int .i64 1) rfl rfl rfl (evs (ev_as (c := .int .i64 (IntKind.i64.wrap (y2 + 1))) rfl rfl rfl (evn ?_))))))
      exact hN _ (v8, (IntKind.i64.wrap (y2 + 1))) h ⟨kr, kr, kr, trivial⟩
  · refine ls_cF rfl g4 ?_
    refine ls_exit ?_
    have q0 := (Option.some.inj h).symm
    have r0 := hr1
    rw [q0] at r0
    exact kXlaws_heldIntSS_B1 y1 r0 _ ⟨kr, trivial⟩
def laws_heldTableS_B1 (a0 : List ((List UInt8) × (Int × (List (List Int))))) (rec : (Int × Int) → Option (Sum (Int) (Int))) (s : Int × Int) : Option (Sum (Int) (Int)) := match s with
  | (y1, y2) => cond (decide (y2 < (List.length a0 : Int))) (obind (geti a0 y2) fun e7 => obind (laws_markText y1) fun v9 => cond (!(e7.1 == v9)) (some (.inr (-1))) (obind (geti a0 y2) fun e13 => cond (e13.2.1 != (IntKind.i64.wrap (y1 + 1))) (some (.inr (-1))) (obind (geti a0 y2) fun e16 => obind (laws_heldIntSS e16.2.2 (IntKind.i64.wrap ((IntKind.i64.wrap (y1 + 1)) + 1))) fun v18 => cond (decide (v18 < 0)) (some (.inr (-1))) (rec (v18, (IntKind.i64.wrap (y2 + 1))))))) (some (.inl y1))
def laws_heldTableS (a0 : List ((List UInt8) × (Int × (List (List Int))))) (a1 : Int) : Option (Int) := obind (loopF (laws_heldTableS_B1 a0) fz (a1, 0)) fun o1 => (match o1 with
  | .inl z2 => (some z2)
  | .inr r => some r)
theorem laws_heldTableS_s {a0 : List ((List UInt8) × (Int × (List (List Int))))} {a1 : Int} {r : Int} (h : laws_heldTableS a0 a1 = some r) : SoundAt Try.prog 94 [.dat a0.length (a0.flatMap c208_dd), .int .i64 a1] (.int .i64 r) := by
  unfold laws_heldTableS at h
  refine sound_lit tbOk lit94 (Nat.le_of_ble_eq_true rfl) rfl ?_
  unfold c94
  refine ls_keep [(0, .dat a0.length (a0.flatMap c208_dd)), (1, .int .i64 a1)] ⟨kr, kr, trivial⟩ rfl ?_
  refine ls_rs tbOk ?_
  refine evs (ev_ac rfl nofun rfl (evn ?_))
  refine ls_keep [(0, .dat a0.length (a0.flatMap c208_dd)), (1, .int .i64 a1)] ⟨kr, kr, trivial⟩ rfl ?_
  refine ls_seq_k fun K1 hK1 => ?_
  refine ls_rs tbOk ?_
  refine evs (ev_ac rfl nofun rfl (evn ?_))
  refine ls_keep [(0, .dat a0.length (a0.flatMap c208_dd)), (1, .int .i64 a1), (5, .int .i64 0)] ⟨kr, kr, kr, trivial⟩ rfl ?_
  obtain ⟨o1, hl, hr1⟩ := ob_some h
  clear h
  have kXlaws_heldTableS_B1 : ∀ (z2 : Int), (some z2) = some r → ∀ σ' : PS, okK σ' [(1, .int .i64 z2)] → K1 σ' := by
    intro z2 h σ' hk
    refine hK1 _ (ls_keep [(1, .int .i64 z2)] hk rfl ?_)
    refine ls_rs tbOk ?_
    refine evs (ev_mv (c := .int .i64 z2) rfl rfl rfl (evs (ev_as (c := .int .i64 z2) rfl rfl rfl (evn ?_))))
    refine ls_keep [(4, .int .i64 z2)] ⟨kr, trivial⟩ rfl ?_
    refine ls_ret ?_
    have hr := Option.some.inj h
    rw [← hr]
    exact ⟨.inl rfl, rfl⟩
  refine ls_rec (fun (s : Int × Int) => match s with | (y1, y2) => [(0, .dat a0.length (a0.flatMap c208_dd)), (1, .int .i64 y1), (5, .int .i64 y2)]) (laws_heldTableS_B1 a0) fz (a1, 0) o1 hl ⟨kr, kr, kr, trivial⟩ (fun _ => rfl) ?_
  rintro m ⟨y1, y2⟩ N h hN
  unfold laws_heldTableS_B1 at h
  dsimp only at h
  refine ls_seq_k fun K3 hK3 => ?_
  refine ls_rs tbOk ?_
  refine evs (ev_mv (c := .int .i64 y2) rfl rfl rfl (evs (ev_mv (c := .dat a0.length (a0.flatMap c208_dd)) rfl rfl rfl (evs (ev_len (c1 := .dat a0.length (a0.flatMap c208_dd)) rfl rfl rfl (evs (ev_bin (c1 := .int .i64 y2) (c2 := .int .i64 (List.length a0 : Int)) rfl rfl rfl (evn ?_))))))))
  refine ls_keep [(0, .dat a0.length (a0.flatMap c208_dd)), (1, .int .i64 y1), (5, .int .i64 y2), (9, .bool (decide (y2 < (List.length a0 : Int))))] ⟨kr, kr, kr, kr, trivial⟩ rfl ?_
  rcases cond_some h with ⟨g4, h⟩ | ⟨g4, h⟩
  · refine ls_cT rfl g4 ?_
    refine ls_skip ?_
    refine hK3 _ (ls_keep [(0, .dat a0.length (a0.flatMap c208_dd)), (1, .int .i64 y1), (5, .int .i64 y2)] ⟨kr, kr, kr, trivial⟩ rfl ?_)
    refine ls_seq_k fun K5 hK5 => ?_
    refine ls_blk ?_
    refine ls_seq_k fun K6 hK6 => ?_
    refine ls_rd tbOk mixed (by kernel_rfl) ?_
    refine evd rfl rfl (ev_mv (c := .dat a0.length (a0.flatMap c208_dd)) rfl rfl rfl (evd rfl rfl (ev_mv (c := .int .i64 y2) rfl rfl rfl (?_))))
    obtain ⟨e7, g8, h⟩ := ob_some h
    refine evd rfl rfl (ev_ia rfl rfl rfl ⟨(geti_some g8).1, (geti_some g8).2.1⟩ (evd rfl rfl (ev_fa (c1 := .adr (a0.flatMap c208_dd) (Int.toNat y2 * 3)) (v := .adr (a0.flatMap c208_dd) (Int.toNat y2 * 3)) rfl rfl rfl trivial rfl (evd rfl rfl (ev_ldE (i := y2) (n := 3) (off := 0) (v := .str e7.1) rfl rfl zc208_dd g8 rfl (Nat.le_of_ble_eq_true rfl) rfl (evd rfl rfl (ev_mv (c := .int .i64 y1) rfl rfl rfl (?_))))))))
    obtain ⟨v9, g10, h⟩ := ob_some h
    refine evd rfl rfl (ev_call (era rfl rfl eran) (laws_markText_s g10) (evd rfl rfl (ev_bin (c1 := .str e7.1) (c2 := .str v9) rfl rfl trivial (evdn ?_))))
    refine ls_keep [(0, .dat a0.length (a0.flatMap c208_dd)), (1, .int .i64 y1), (5, .int .i64 y2), (19, .bool (!(e7.1 == v9)))] ⟨kr, kr, kr, kr, trivial⟩ rfl ?_
    rcases cond_some h with ⟨g11, h⟩ | ⟨g11, h⟩
    · refine ls_cT rfl g11 ?_
      refine ls_rs tbOk ?_
      refine evs (ev_ac rfl nofun rfl (evn ?_))
      refine ls_keep [(4, .int .i64 (-1))] ⟨kr, trivial⟩ rfl ?_
      refine ls_ret ?_
      have q0 := (Option.some.inj h).symm
      have r0 := hr1
      rw [q0] at r0
      have hr := Option.some.inj r0
      rw [← hr]
      exact ⟨.inl rfl, rfl⟩
    · refine ls_cF rfl g11 ?_
      refine ls_skip ?_
      refine hK6 _ (ls_keep [(0, .dat a0.length (a0.flatMap c208_dd)), (1, .int .i64 y1), (5, .int .i64 y2)] ⟨kr, kr, kr, trivial⟩ rfl ?_)
      refine ls_rs tbOk ?_
      refine evs (ev_mv (c := .int .i64 y1) rfl rfl rfl (evs (ev_bin (c1 := .int .i64 y1) (c2 := .int .i64 1) rfl rfl rfl (evs (ev_as (c := .int .i64 (IntKind.i64.wrap (y1 + 1))) rfl rfl rfl (evn ?_))))))
      refine ls_keep [(0, .dat a0.length (a0.flatMap c208_dd)), (1, .int .i64 (IntKind.i64.wrap (y1 + 1))), (5, .int .i64 y2)] ⟨kr, kr, kr, trivial⟩ rfl ?_
      refine ls_seq_k fun K12 hK12 => ?_
      refine ls_rs tbOk ?_
      refine evs (ev_mv (c := .dat a0.length (a0.flatMap c208_dd)) rfl rfl rfl (evs (ev_mv (c := .int .i64 y2) rfl rfl rfl (?_))))
      obtain ⟨e13, g14, h⟩ := ob_some h
      refine evs (ev_ia rfl rfl rfl ⟨(geti_some g14).1, (geti_some g14).2.1⟩ (evs (ev_fa (c1 := .adr (a0.flatMap c208_dd) (Int.toNat y2 * 3)) (v := .adr (a0.flatMap c208_dd) (Int.toNat y2 * 3 + 1)) rfl rfl rfl trivial rfl (evs (ev_fa (c1 := .adr (a0.flatMap c208_dd) (Int.toNat y2 * 3 + 1)) (v := .adr (a0.flatMap c208_dd) (Int.toNat y2 * 3 + 1)) rfl rfl rfl trivial rfl (evs (ev_ldE (i := y2) (n := 3) (off := 1) (v := .int .i64 e13.2.1) rfl rfl zc208_dd g14 rfl (Nat.le_of_ble_eq_true rfl) rfl (evs (ev_mv (c := .int .i64 (IntKind.i64.wrap (y1 + 1))) rfl rfl rfl (evs (ev_bin (c1 := .int .i64 e13.2.1) (c2 := .int .i64 (IntKind.i64.wrap (y1 + 1))) rfl rfl rfl (evn ?_))))))))))))
      refine ls_keep [(0, .dat a0.length (a0.flatMap c208_dd)), (1, .int .i64 (IntKind.i64.wrap (y1 + 1))), (5, .int .i64 y2), (29, .bool (e13.2.1 != (IntKind.i64.wrap (y1 + 1))))] ⟨kr, kr, kr, kr, trivial⟩ rfl ?_
      rcases cond_some h with ⟨g15, h⟩ | ⟨g15, h⟩
      · refine ls_cT rfl g15 ?_
        refine ls_rs tbOk ?_
        refine evs (ev_ac rfl nofun rfl (evn ?_))
        refine ls_keep [(4, .int .i64 (-1))] ⟨kr, trivial⟩ rfl ?_
        refine ls_ret ?_
        have q0 := (Option.some.inj h).symm
        have r0 := hr1
        rw [q0] at r0
        have hr := Option.some.inj r0
        rw [← hr]
        exact ⟨.inl rfl, rfl⟩
      · refine ls_cF rfl g15 ?_
        refine ls_skip ?_
        refine hK12 _ (ls_keep [(0, .dat a0.length (a0.flatMap c208_dd)), (1, .int .i64 (IntKind.i64.wrap (y1 + 1))), (5, .int .i64 y2)] ⟨kr, kr, kr, trivial⟩ rfl ?_)
        refine ls_rs tbOk ?_
        refine evs (ev_mv (c := .int .i64 (IntKind.i64.wrap (y1 + 1))) rfl rfl rfl (evs (ev_bin (c1 := .int .i64 (IntKind.i64.wrap (y1 + 1))) (c2 := .int .i64 1) rfl rfl rfl (evs (ev_as (c := .int .i64 (IntKind.i64.wrap ((IntKind.i64.wrap (y1 + 1)) + 1))) rfl rfl rfl (evn ?_))))))
        refine ls_keep [(0, .dat a0.length (a0.flatMap c208_dd)), (1, .int .i64 (IntKind.i64.wrap ((IntKind.i64.wrap (y1 + 1)) + 1))), (5, .int .i64 y2)] ⟨kr, kr, kr, trivial⟩ rfl ?_
        refine ls_rs tbOk ?_
        refine evs (ev_mv (c := .dat a0.length (a0.flatMap c208_dd)) rfl rfl rfl (evs (ev_mv (c := .int .i64 y2) rfl rfl rfl (?_))))
        obtain ⟨e16, g17, h⟩ := ob_some h
        refine evs (ev_ia rfl rfl rfl ⟨(geti_some g17).1, (geti_some g17).2.1⟩ (evs (ev_fa (c1 := .adr (a0.flatMap c208_dd) (Int.toNat y2 * 3)) (v := .adr (a0.flatMap c208_dd) (Int.toNat y2 * 3 + 1)) rfl rfl rfl trivial rfl (evs (ev_fa (c1 := .adr (a0.flatMap c208_dd) (Int.toNat y2 * 3 + 1)) (v := .adr (a0.flatMap c208_dd) (Int.toNat y2 * 3 + 2)) rfl rfl rfl trivial rfl (evs (ev_ldE (i := y2) (n := 3) (off := 2) (v := .dat e16.2.2.length (e16.2.2.flatMap c25_d)) rfl rfl zc208_dd g17 rfl (Nat.le_of_ble_eq_true rfl) rfl (evs (ev_mv (c := .int .i64 (IntKind.i64.wrap ((IntKind.i64.wrap (y1 + 1)) + 1))) rfl rfl rfl (?_))))))))))
        obtain ⟨v18, g19, h⟩ := ob_some h
        refine evs (ev_call (era rfl (erD ec25_d _) (era rfl rfl eran)) (laws_heldIntSS_s g19) (evs (ev_as (c := .int .i64 v18) rfl rfl rfl (evn ?_))))
        refine ls_keep [(0, .dat a0.length (a0.flatMap c208_dd)), (1, .int .i64 v18), (5, .int .i64 y2)] ⟨kr, kr, kr, trivial⟩ rfl ?_
        refine ls_rs tbOk ?_
        refine evs (ev_mv (c := .int .i64 v18) rfl rfl rfl (evs (ev_bin (c1 := .int .i64 v18) (c2 := .int .i64 0) rfl rfl rfl (evn ?_))))
        refine ls_keep [(0, .dat a0.length (a0.flatMap c208_dd)), (1, .int .i64 v18), (5, .int .i64 y2), (41, .bool (decide (v18 < 0)))] ⟨kr, kr, kr, kr, trivial⟩ rfl ?_
        rcases cond_some h with ⟨g20, h⟩ | ⟨g20, h⟩
        · refine ls_cT rfl g20 ?_
          refine ls_rs tbOk ?_
          refine evs (ev_ac rfl nofun rfl (evn ?_))
          refine ls_keep [(4, .int .i64 (-1))] ⟨kr, trivial⟩ rfl ?_
          refine ls_ret ?_
          have q0 := (Option.some.inj h).symm
          have r0 := hr1
          rw [q0] at r0
          have hr := Option.some.inj r0
          rw [← hr]
          exact ⟨.inl rfl, rfl⟩
        · refine ls_cF rfl g20 ?_
          refine ls_skip ?_
          refine hK5 _ (ls_keep [(0, .dat a0.length (a0.flatMap c208_dd)), (1, .int .i64 v18), (5, .int .i64 y2)] ⟨kr, kr, kr, trivial⟩ rfl ?_)
          refine ls_rgn tbOk ?_
          refine evs (ev_mv (c := .int .i64 y2) rfl rfl rfl (evs (ev_bin (c1 := .int .i64 y2) (c2 := .int .i64 1) rfl rfl rfl (evs (ev_as (c := .int .i64 (IntKind.i64.wrap (y2 + 1))) rfl rfl rfl (evn ?_))))))
          exact hN _ (v18, (IntKind.i64.wrap (y2 + 1))) h ⟨kr, kr, kr, trivial⟩
  · refine ls_cF rfl g4 ?_
    refine ls_exit ?_
    have q0 := (Option.some.inj h).symm
    have r0 := hr1
    rw [q0] at r0
    exact kXlaws_heldTableS_B1 y1 r0 _ ⟨kr, trivial⟩
def laws_heldDatabase (a0 : (List ((List UInt8) × (Int × (List (List Int)))))) (a1 : Int) : Option (Int) := obind (laws_heldTableS a0 a1) fun v1 => cond (decide (v1 < 0)) (some (-1)) (some v1)
theorem laws_heldDatabase_s {a0 : (List ((List UInt8) × (Int × (List (List Int)))))} {a1 : Int} {r : Int} (h : laws_heldDatabase a0 a1 = some r) : SoundAt Try.prog 32 [.agg [.dat a0.length (a0.flatMap c208_dd)], .int .i64 a1] (.int .i64 r) := by
  unfold laws_heldDatabase at h
  refine sound_lit tbOk lit32 (Nat.le_of_ble_eq_true rfl) rfl ?_
  unfold c32
  refine ls_keep [(0, .agg [.dat a0.length (a0.flatMap c208_dd)]), (1, .int .i64 a1)] ⟨kr, kr, trivial⟩ rfl ?_
  refine ls_rs tbOk ?_
  refine evs (ev_bx (c1 := .agg [.dat a0.length (a0.flatMap c208_dd)]) rfl rfl rfl (evs (ev_ac rfl nofun rfl (evn ?_))))
  refine ls_keep [(1, .int .i64 a1), (2, .box [.dat a0.length (a0.flatMap c208_dd)])] ⟨kr, kr, trivial⟩ rfl ?_
  refine ls_rs tbOk ?_
  refine evs (ev_fa (c1 := .cref 2 0) (v := .cref 2 0) rfl rfl rfl ⟨_, rfl⟩ rfl (evs (ev_ldB (off := 0) (v := .dat a0.length (a0.flatMap c208_dd)) rfl rfl rfl rfl (Nat.le_of_ble_eq_true rfl) rfl (evs (ev_mv (c := .int .i64 a1) rfl rfl rfl (?_))))))
  obtain ⟨v1, g2, h⟩ := ob_some h
  refine evs (ev_call (era rfl (erD ec208_dd _) (era rfl rfl eran)) (laws_heldTableS_s g2) (evs (ev_as (c := .int .i64 v1) rfl rfl rfl (evn ?_))))
  refine ls_keep [(1, .int .i64 v1)] ⟨kr, trivial⟩ rfl ?_
  refine ls_seq_k fun K3 hK3 => ?_
  refine ls_rs tbOk ?_
  refine evs (ev_mv (c := .int .i64 v1) rfl rfl rfl (evs (ev_bin (c1 := .int .i64 v1) (c2 := .int .i64 0) rfl rfl rfl (evn ?_))))
  refine ls_keep [(1, .int .i64 v1), (10, .bool (decide (v1 < 0)))] ⟨kr, kr, trivial⟩ rfl ?_
  rcases cond_some h with ⟨g4, h⟩ | ⟨g4, h⟩
  · refine ls_cT rfl g4 ?_
    refine ls_rs tbOk ?_
    refine evs (ev_ac rfl nofun rfl (evn ?_))
    refine ls_keep [(4, .int .i64 (-1))] ⟨kr, trivial⟩ rfl ?_
    refine ls_ret ?_
    have hr := Option.some.inj h
    rw [← hr]
    exact ⟨.inl rfl, rfl⟩
  · refine ls_cF rfl g4 ?_
    refine ls_skip ?_
    refine hK3 _ (ls_keep [(1, .int .i64 v1)] ⟨kr, trivial⟩ rfl ?_)
    refine ls_rs tbOk ?_
    refine evs (ev_mv (c := .int .i64 v1) rfl rfl rfl (evs (ev_as (c := .int .i64 v1) rfl rfl rfl (evn ?_))))
    refine ls_keep [(4, .int .i64 v1)] ⟨kr, trivial⟩ rfl ?_
    refine ls_ret ?_
    have hr := Option.some.inj h
    rw [← hr]
    exact ⟨.inl rfl, rfl⟩
def laws_FnExactSnapshotAt (a0 : Int × (List ((List ((List UInt8) × (Int × (List (List Int)))))))) (a1 : Int) : Option (Bool) := obind (laws_szHistory a0 1048576) fun v1 => cond (decide (v1 < 0)) (some true) (obind (laws_toHistory a0) fun v5 => obind (spec_SnapshotAt v5 a1) fun v7 => obind (laws_toHistory a0) fun v9 => obind (impl_SnapshotAt v9 a1) fun v11 => obind (laws_eqDatabase v11.1 v7.1) fun v14 => cond (!v14) (some false) (cond (!(v11.2 == v7.2)) (some false) (obind (laws_toHistory a0) fun v19 => obind (laws_eqHistory v9 v19) fun v21 => cond (!v21) (some false) (obind (laws_markHistory v9 1) fun v24 => cond (decide (v24.2 < 0)) (some false) (obind (laws_eqDatabase v11.1 v7.1) fun v28 => cond (!v28) (some false) (cond (!(v11.2 == v7.2)) (some false) (obind (laws_markDatabase v11.1 1) fun v32 => obind (laws_heldDatabase v32.1 1) fun v34 => cond (decide (v34 < 0)) (some false) (cond (v34 != v32.2) (some false) (obind (laws_toHistory a0) fun v40 => obind (impl_SnapshotAt v40 a1) fun v42 => obind (laws_eqDatabase v42.1 v7.1) fun v45 => cond (!v45) (some false) (cond (!(v42.2 == v7.2)) (some false) (obind (laws_heldDatabase v32.1 1) fun v49 => cond (decide (v49 < 0)) (some false) (cond (v49 != v32.2) (some false) (some true)))))))))))))
theorem laws_FnExactSnapshotAt_s {a0 : Int × (List ((List ((List UInt8) × (Int × (List (List Int)))))))} {a1 : Int} {r : Bool} (h : laws_FnExactSnapshotAt a0 a1 = some r) : SoundAt Try.prog 4 [.agg [.int .i64 a0.1, .arg a0.2.length (a0.2.flatMap c24_aaa)], .int .i64 a1] (.bool r) := by
  unfold laws_FnExactSnapshotAt at h
  refine sound_lit tbOk lit4 (Nat.le_of_ble_eq_true rfl) rfl ?_
  unfold c4
  refine ls_keep [(0, .agg [.int .i64 a0.1, .arg a0.2.length (a0.2.flatMap c24_aaa)]), (1, .int .i64 a1)] ⟨kr, kr, trivial⟩ rfl ?_
  refine ls_rs tbOk ?_
  refine evs (ev_bx (c1 := .agg [.int .i64 a0.1, .arg a0.2.length (a0.2.flatMap c24_aaa)]) rfl rfl rfl (evs (ev_ac rfl nofun rfl (evn ?_))))
  refine ls_keep [(1, .int .i64 a1), (2, .box [.int .i64 a0.1, .arg a0.2.length (a0.2.flatMap c24_aaa)])] ⟨kr, kr, trivial⟩ rfl ?_
  refine ls_rs tbOk ?_
  refine evs (ev_ac rfl nofun rfl (evn ?_))
  refine ls_keep [(1, .int .i64 a1), (2, .box [.int .i64 a0.1, .arg a0.2.length (a0.2.flatMap c24_aaa)]), (5, .int .i64 1048576)] ⟨kr, kr, kr, trivial⟩ rfl ?_
  refine ls_rs tbOk ?_
  refine evs (ev_ldB (off := 0) (v := .agg [.int .i64 a0.1, .arg a0.2.length (a0.2.flatMap c24_aaa)]) rfl rfl rfl rfl (Nat.le_of_ble_eq_true rfl) rfl (evs (ev_mv (c := .int .i64 1048576) rfl rfl rfl (?_))))
  obtain ⟨v1, g2, h⟩ := ob_some h
  refine evs (ev_call (era rfl (erg (erc rfl (erc (erG ec24_aaa _) rfl))) (era rfl rfl eran)) (laws_szHistory_s g2) (evs (ev_as (c := .int .i64 v1) rfl rfl rfl (evn ?_))))
  refine ls_keep [(1, .int .i64 a1), (2, .box [.int .i64 a0.1, .arg a0.2.length (a0.2.flatMap c24_aaa)]), (5, .int .i64 v1)] ⟨kr, kr, kr, trivial⟩ rfl ?_
  refine ls_seq_k fun K3 hK3 => ?_
  refine ls_rs tbOk ?_
  refine evs (ev_mv (c := .int .i64 v1) rfl rfl rfl (evs (ev_bin (c1 := .int .i64 v1) (c2 := .int .i64 0) rfl rfl rfl (evn ?_))))
  refine ls_keep [(1, .int .i64 a1), (2, .box [.int .i64 a0.1, .arg a0.2.length (a0.2.flatMap c24_aaa)]), (20, .bool (decide (v1 < 0)))] ⟨kr, kr, kr, trivial⟩ rfl ?_
  rcases cond_some h with ⟨g4, h⟩ | ⟨g4, h⟩
  · refine ls_cT rfl g4 ?_
    refine ls_rs tbOk ?_
    refine evs (ev_ac rfl nofun rfl (evn ?_))
    refine ls_keep [(4, .bool true)] ⟨kr, trivial⟩ rfl ?_
    refine ls_ret ?_
    have hr := Option.some.inj h
    rw [← hr]
    exact ⟨.inl rfl, rfl⟩
  · refine ls_cF rfl g4 ?_
    refine ls_skip ?_
    refine hK3 _ (ls_keep [(1, .int .i64 a1), (2, .box [.int .i64 a0.1, .arg a0.2.length (a0.2.flatMap c24_aaa)])] ⟨kr, kr, trivial⟩ rfl ?_)
    refine ls_rs tbOk ?_
    refine evs (ev_ldB (off := 0) (v := .agg [.int .i64 a0.1, .arg a0.2.length (a0.2.flatMap c24_aaa)]) rfl rfl rfl rfl (Nat.le_of_ble_eq_true rfl) rfl (?_))
    obtain ⟨v5, g6, h⟩ := ob_some h
    refine evs (ev_call (era rfl (erg (erc rfl (erc (erG ec24_aaa _) rfl))) eran) (laws_toHistory_s g6) (evs (ev_mv (c := .int .i64 a1) rfl rfl rfl (?_))))
    obtain ⟨v7, g8, h⟩ := ob_some h
    refine evs (ev_call (era rfl (erg (erc rfl (erc (erO ec33_ooo _) rfl))) (era rfl rfl eran)) (spec_SnapshotAt_s g8) (evs (ev_mvt (c := .tup [.agg [.own 208 v7.1.length (v7.1.flatMap c208_oo)], .bool v7.2]) rfl rfl rfl (evs (ev_ext rfl rfl rfl rfl (evs (ev_ext rfl rfl rfl rfl (evs (ev_al rfl rfl (evs (ev_st (off := 0) (c1 := .agg [.own 208 v7.1.length (v7.1.flatMap c208_oo)]) (cs' := [.own 208 v7.1.length (v7.1.flatMap c208_oo)]) rfl rfl rfl rfl rfl rfl (Nat.le_of_ble_eq_true rfl) rfl (evs (ev_as (c := .bool v7.2) rfl rfl rfl (evn ?_))))))))))))))
    refine ls_keep [(1, .int .i64 a1), (2, .box [.int .i64 a0.1, .arg a0.2.length (a0.2.flatMap c24_aaa)]), (6, .box [.own 208 v7.1.length (v7.1.flatMap c208_oo)]), (7, .bool v7.2)] ⟨kr, kr, kr, kr, trivial⟩ rfl ?_
    refine ls_rs tbOk ?_
    refine evs (ev_ldB (off := 0) (v := .agg [.int .i64 a0.1, .arg a0.2.length (a0.2.flatMap c24_aaa)]) rfl rfl rfl rfl (Nat.le_of_ble_eq_true rfl) rfl (?_))
    obtain ⟨v9, g10, h⟩ := ob_some h
    refine evs (ev_call (era rfl (erg (erc rfl (erc (erG ec24_aaa _) rfl))) eran) (laws_toHistory_s g10) (evs (ev_al rfl rfl (evs (ev_st (off := 0) (c1 := .agg [.int .i64 v9.1, .own 33 v9.2.length (v9.2.flatMap c33_ooo)]) (cs' := [.int .i64 v9.1, .own 33 v9.2.length (v9.2.flatMap c33_ooo)]) rfl rfl rfl rfl rfl rfl (Nat.le_of_ble_eq_true rfl) rfl (evn ?_))))))
    refine ls_keep [(1, .int .i64 a1), (2, .box [.int .i64 a0.1, .arg a0.2.length (a0.2.flatMap c24_aaa)]), (6, .box [.own 208 v7.1.length (v7.1.flatMap c208_oo)]), (7, .bool v7.2), (8, .box [.int .i64 v9.1, .own 33 v9.2.length (v9.2.flatMap c33_ooo)])] ⟨kr, kr, kr, kr, kr, trivial⟩ rfl ?_
    refine ls_rs tbOk ?_
    refine evs (ev_ldB (off := 0) (v := .agg [.int .i64 v9.1, .dat v9.2.length (v9.2.flatMap c33_ooo)]) rfl rfl rfl rfl (Nat.le_of_ble_eq_true rfl) rfl (evs (ev_mv (c := .int .i64 a1) rfl rfl rfl (?_))))
    obtain ⟨v11, g12, h⟩ := ob_some h
    refine evs (ev_call (era rfl (erg (erc rfl (erc (erD ec33_ooo _) rfl))) (era rfl rfl eran)) (impl_SnapshotAt_s g12) (evs (ev_mvt (c := .tup [.agg [.own 208 v11.1.length (v11.1.flatMap c208_oo)], .bool v11.2]) rfl rfl rfl (evs (ev_ext rfl rfl rfl rfl (evs (ev_ext rfl rfl rfl rfl (evs (ev_al rfl rfl (evs (ev_st (off := 0) (c1 := .agg [.own 208 v11.1.length (v11.1.flatMap c208_oo)]) (cs' := [.own 208 v11.1.length (v11.1.flatMap c208_oo)]) rfl rfl rfl rfl rfl rfl (Nat.le_of_ble_eq_true rfl) rfl (evs (ev_as (c := .bool v11.2) rfl rfl rfl (evn ?_))))))))))))))
    refine ls_keep [(1, .int .i64 a1), (2, .box [.int .i64 a0.1, .arg a0.2.length (a0.2.flatMap c24_aaa)]), (6, .box [.own 208 v7.1.length (v7.1.flatMap c208_oo)]), (7, .bool v7.2), (8, .box [.int .i64 v9.1, .own 33 v9.2.length (v9.2.flatMap c33_ooo)]), (9, .box [.own 208 v11.1.length (v11.1.flatMap c208_oo)]), (10, .bool v11.2)] ⟨kr, kr, kr, kr, kr, kr, kr, trivial⟩ rfl ?_
    refine ls_seq_k fun K13 hK13 => ?_
    refine ls_rs tbOk ?_
    refine evs (ev_ldB (off := 0) (v := .agg [.dat v11.1.length (v11.1.flatMap c208_oo)]) rfl rfl rfl rfl (Nat.le_of_ble_eq_true rfl) rfl (evs (ev_ldB (off := 0) (v := .agg [.dat v7.1.length (v7.1.flatMap c208_oo)]) rfl rfl rfl rfl (Nat.le_of_ble_eq_true rfl) rfl (?_))))
    obtain ⟨v14, g15, h⟩ := ob_some h
    refine evs (ev_call (era rfl (erg (erc (erD ec208_oo _) rfl)) (era rfl (erg (erc (erD ec208_oo _) rfl)) eran)) (laws_eqDatabase_s g15) (evs (ev_un (c1 := .bool v14) rfl trivial (evs (ev_mv (c := .bool (!v14)) rfl rfl rfl (?_))))))
    rcases cond_some h with ⟨g16, h⟩ | ⟨g16, h⟩
    · refine evs (ev_gs rfl rfl (isb_T g16) (evs (ev_gs rfl rfl (isb_T g16) (evs (ev_gs rfl rfl (isb_T g16) (evs (ev_pkT (c1 := .bool true) rfl g16 rfl rfl (evn ?_))))))))
      refine ls_keep [(1, .int .i64 a1), (2, .box [.int .i64 a0.1, .arg a0.2.length (a0.2.flatMap c24_aaa)]), (6, .box [.own 208 v7.1.length (v7.1.flatMap c208_oo)]), (7, .bool v7.2), (8, .box [.int .i64 v9.1, .own 33 v9.2.length (v9.2.flatMap c33_ooo)]), (9, .box [.own 208 v11.1.length (v11.1.flatMap c208_oo)]), (10, .bool v11.2), (44, .bool true)] ⟨kr, kr, kr, kr, kr, kr, kr, kr, trivial⟩ rfl ?_
      refine ls_cT rfl rfl ?_
      refine ls_rs tbOk ?_
      refine evs (ev_ac rfl nofun rfl (evn ?_))
      refine ls_keep [(4, .bool false)] ⟨kr, trivial⟩ rfl ?_
      refine ls_ret ?_
      have hr := Option.some.inj h
      rw [← hr]
      exact ⟨.inl rfl, rfl⟩
    · refine evs (ev_gr rfl (congrArg V.bool g16) (ev_mv (c := .bool v11.2) rfl rfl rfl (evs (ev_gr rfl (congrArg V.bool g16) (ev_mv (c := .bool v7.2) rfl rfl rfl (evs (ev_gr rfl (congrArg V.bool g16) (ev_bin (c1 := .bool v11.2) (c2 := .bool v7.2) rfl rfl rfl (evs (ev_pkF (c1 := .bool (!(v11.2 == v7.2))) rfl g16 rfl rfl (evn ?_)))))))))))
      refine ls_keep [(1, .int .i64 a1), (2, .box [.int .i64 a0.1, .arg a0.2.length (a0.2.flatMap c24_aaa)]), (6, .box [.own 208 v7.1.length (v7.1.flatMap c208_oo)]), (7, .bool v7.2), (8, .box [.int .i64 v9.1, .own 33 v9.2.length (v9.2.flatMap c33_ooo)]), (9, .box [.own 208 v11.1.length (v11.1.flatMap c208_oo)]), (10, .bool v11.2), (44, .bool (!(v11.2 == v7.2)))] ⟨kr, kr, kr, kr, kr, kr, kr, kr, trivial⟩ rfl ?_
      rcases cond_some h with ⟨g17, h⟩ | ⟨g17, h⟩
      · refine ls_cT rfl g17 ?_
        refine ls_rs tbOk ?_
        refine evs (ev_ac rfl nofun rfl (evn ?_))
        refine ls_keep [(4, .bool false)] ⟨kr, trivial⟩ rfl ?_
        refine ls_ret ?_
        have hr := Option.some.inj h
        rw [← hr]
        exact ⟨.inl rfl, rfl⟩
      · refine ls_cF rfl g17 ?_
        refine ls_skip ?_
        refine hK13 _ (ls_keep [(1, .int .i64 a1), (2, .box [.int .i64 a0.1, .arg a0.2.length (a0.2.flatMap c24_aaa)]), (6, .box [.own 208 v7.1.length (v7.1.flatMap c208_oo)]), (7, .bool v7.2), (8, .box [.int .i64 v9.1, .own 33 v9.2.length (v9.2.flatMap c33_ooo)]), (9, .box [.own 208 v11.1.length (v11.1.flatMap c208_oo)]), (10, .bool v11.2)] ⟨kr, kr, kr, kr, kr, kr, kr, trivial⟩ rfl ?_)
        refine ls_seq_k fun K18 hK18 => ?_
        refine ls_rd tbOk mixed (by kernel_rfl) ?_
        refine evd rfl rfl (ev_ldB (off := 0) (v := .agg [.int .i64 v9.1, .dat v9.2.length (v9.2.flatMap c33_ooo)]) rfl rfl rfl rfl (Nat.le_of_ble_eq_true rfl) rfl (evd rfl rfl (ev_ldB (off := 0) (v := .agg [.int .i64 a0.1, .arg a0.2.length (a0.2.flatMap c24_aaa)]) rfl rfl rfl rfl (Nat.le_of_ble_eq_true rfl) rfl (?_))))
        obtain ⟨v19, g20, h⟩ := ob_some h
        refine evd rfl rfl (ev_call (era rfl (erg (erc rfl (erc (erG ec24_aaa _) rfl))) eran) (laws_toHistory_s g20) (?_))
        obtain ⟨v21, g22, h⟩ := ob_some h
        refine evd rfl rfl (ev_call (era rfl (erg (erc rfl (erc (erD ec33_ooo _) rfl))) (era rfl (erg (erc rfl (erc (erO ec33_ooo _) rfl))) eran)) (laws_eqHistory_s g22) (evd rfl rfl (ev_un (c1 := .bool v21) rfl trivial (evdn ?_))))
        refine ls_keep [(1, .int .i64 a1), (2, .box [.int .i64 a0.1, .arg a0.2.length (a0.2.flatMap c24_aaa)]), (6, .box [.own 208 v7.1.length (v7.1.flatMap c208_oo)]), (7, .bool v7.2), (8, .box [.int .i64 v9.1, .own 33 v9.2.length (v9.2.flatMap c33_ooo)]), (9, .box [.own 208 v11.1.length (v11.1.flatMap c208_oo)]), (10, .bool v11.2), (49, .bool (!v21))] ⟨kr, kr, kr, kr, kr, kr, kr, kr, trivial⟩ rfl ?_
        rcases cond_some h with ⟨g23, h⟩ | ⟨g23, h⟩
        · refine ls_cT rfl g23 ?_
          refine ls_rs tbOk ?_
          refine evs (ev_ac rfl nofun rfl (evn ?_))
          refine ls_keep [(4, .bool false)] ⟨kr, trivial⟩ rfl ?_
          refine ls_ret ?_
          have hr := Option.some.inj h
          rw [← hr]
          exact ⟨.inl rfl, rfl⟩
        · refine ls_cF rfl g23 ?_
          refine ls_skip ?_
          refine hK18 _ (ls_keep [(1, .int .i64 a1), (2, .box [.int .i64 a0.1, .arg a0.2.length (a0.2.flatMap c24_aaa)]), (6, .box [.own 208 v7.1.length (v7.1.flatMap c208_oo)]), (7, .bool v7.2), (8, .box [.int .i64 v9.1, .own 33 v9.2.length (v9.2.flatMap c33_ooo)]), (9, .box [.own 208 v11.1.length (v11.1.flatMap c208_oo)]), (10, .bool v11.2)] ⟨kr, kr, kr, kr, kr, kr, kr, trivial⟩ rfl ?_)
          refine ls_rs tbOk ?_
          refine evs (ev_ac rfl nofun rfl (evn ?_))
          refine ls_keep [(1, .int .i64 a1), (2, .box [.int .i64 a0.1, .arg a0.2.length (a0.2.flatMap c24_aaa)]), (6, .box [.own 208 v7.1.length (v7.1.flatMap c208_oo)]), (7, .bool v7.2), (8, .box [.int .i64 v9.1, .own 33 v9.2.length (v9.2.flatMap c33_ooo)]), (9, .box [.own 208 v11.1.length (v11.1.flatMap c208_oo)]), (10, .bool v11.2), (11, .int .i64 1)] ⟨kr, kr, kr, kr, kr, kr, kr, kr, trivial⟩ rfl ?_
          refine ls_keep [(1, .int .i64 a1), (2, .box [.int .i64 a0.1, .arg a0.2.length (a0.2.flatMap c24_aaa)]), (6, .box [.own 208 v7.1.length (v7.1.flatMap c208_oo)]), (7, .bool v7.2), (8, .box [.int .i64 v9.1, .own 33 v9.2.length (v9.2.flatMap c33_ooo)]), (9, .box [.own 208 v11.1.length (v11.1.flatMap c208_oo)]), (10, .bool v11.2), (11, .int .i64 1)] ⟨kr, kr, kr, kr, kr, kr, kr, kr, trivial⟩ rfl ?_
          obtain ⟨v24, g25, h⟩ := ob_some h
          refine ls_mark (src_box tbOk rfl rfl rfl) rfl rfl (laws_markHistory_m g25) (dp52 _) (sf_of (sfc rfl (sfc (scc rfl (scc (sca ad24 _) scn)) (sfc (scc (sco dp208 _) scn) (sfc rfl (sfs (sfc (scc (sco dp208 _) scn) (sfc rfl (sfc rfl sfn))))))))) rfl rfl ⟨by decide, by decide⟩ rfl ?_
          refine ls_keep [(1, .int .i64 a1), (2, .box [.int .i64 a0.1, .arg a0.2.length (a0.2.flatMap c24_aaa)]), (6, .box [.own 208 v7.1.length (v7.1.flatMap c208_oo)]), (7, .bool v7.2), (9, .box [.own 208 v11.1.length (v11.1.flatMap c208_oo)]), (10, .bool v11.2), (11, .int .i64 v24.2)] ⟨kr, kr, kr, kr, kr, kr, kr, trivial⟩ rfl ?_
          refine ls_seq_k fun K26 hK26 => ?_
          refine ls_rs tbOk ?_
          refine evs (ev_mv (c := .int .i64 v24.2) rfl rfl rfl (evs (ev_bin (c1 := .int .i64 v24.2) (c2 := .int .i64 0) rfl rfl rfl (evs (ev_mv (c := .bool (decide (v24.2 < 0))) rfl rfl rfl (?_))))))
          rcases cond_some h with ⟨g27, h⟩ | ⟨g27, h⟩
          · refine evs (ev_gs rfl rfl (isb_T g27) (evs (ev_gs rfl rfl (isb_T g27) (evs (ev_gs rfl rfl (isb_T g27) (evs (ev_gs rfl rfl (isb_T g27) (evs (ev_pkT (c1 := .bool true) rfl g27 rfl rfl (evs (ev_mv (c := .bool true) rfl rfl rfl (evs (ev_gs rfl rfl rfl (evs (ev_gs rfl rfl rfl (evs (ev_gs rfl rfl rfl (evs (ev_pkT (c1 := .bool true) rfl rfl rfl rfl (evn ?_))))))))))))))))))))
            refine ls_keep [(1, .int .i64 a1), (2, .box [.int .i64 a0.1, .arg a0.2.length (a0.2.flatMap c24_aaa)]), (6, .box [.own 208 v7.1.length (v7.1.flatMap c208_oo)]), (7, .bool v7.2), (9, .box [.own 208 v11.1.length (v11.1.flatMap c208_oo)]), (65, .bool true)] ⟨kr, kr, kr, kr, kr, kr, trivial⟩ rfl ?_
            refine ls_cT rfl rfl ?_
            refine ls_rs tbOk ?_
            refine evs (ev_ac rfl nofun rfl (evn ?_))
            refine ls_keep [(4, .bool false)] ⟨kr, trivial⟩ rfl ?_
            refine ls_ret ?_
            have hr := Option.some.inj h
            rw [← hr]
            exact ⟨.inl rfl, rfl⟩
          · refine evs (ev_gr rfl (congrArg V.bool g27) (ev_ldB (off := 0) (v := .agg [.dat v11.1.length (v11.1.flatMap c208_oo)]) rfl rfl rfl rfl (Nat.le_of_ble_eq_true rfl) rfl (evs (ev_gr rfl (congrArg V.bool g27) (ev_ldB (off := 0) (v := .agg [.dat v7.1.length (v7.1.flatMap c208_oo)]) rfl rfl rfl rfl (Nat.le_of_ble_eq_true rfl) rfl (?_))))))
            obtain ⟨v28, g29, h⟩ := ob_some h
            refine evs (ev_gr rfl (congrArg V.bool g27) (ev_call (era rfl (erg (erc (erD ec208_oo _) rfl)) (era rfl (erg (erc (erD ec208_oo _) rfl)) eran)) (laws_eqDatabase_s g29) (evs (ev_gr rfl (congrArg V.bool g27) (ev_un (c1 := .bool v28) rfl trivial (evs (ev_pkF (c1 := .bool (!v28)) rfl g27 rfl rfl (evs (ev_mv (c := .bool (!v28)) rfl rfl rfl (?_))))))))))
            rcases cond_some h with ⟨g30, h⟩ | ⟨g30, h⟩
            · refine evs (ev_gs rfl rfl (isb_T g30) (evs (ev_gs rfl rfl (isb_T g30) (evs (ev_gs rfl rfl (isb_T g30) (evs (ev_pkT (c1 := .bool true) rfl g30 rfl rfl (evn ?_))))))))
              refine ls_keep [(1, .int .i64 a1), (2, .box [.int .i64 a0.1, .arg a0.2.length (a0.2.flatMap c24_aaa)]), (6, .box [.own 208 v7.1.length (v7.1.flatMap c208_oo)]), (7, .bool v7.2), (9, .box [.own 208 v11.1.length (v11.1.flatMap c208_oo)]), (65, .bool true)] ⟨kr, kr, kr, kr, kr, kr, trivial⟩ rfl ?_
              refine ls_cT rfl rfl ?_
              refine ls_rs tbOk ?_
              refine evs (ev_ac rfl nofun rfl (evn ?_))
              refine ls_keep [(4, .bool false)] ⟨kr, trivial⟩ rfl ?_
              refine ls_ret ?_
              have hr := Option.some.inj h
              rw [← hr]
              exact ⟨.inl rfl, rfl⟩
            · refine evs (ev_gr rfl (congrArg V.bool g30) (ev_mv (c := .bool v11.2) rfl rfl rfl (evs (ev_gr rfl (congrArg V.bool g30) (ev_mv (c := .bool v7.2) rfl rfl rfl (evs (ev_gr rfl (congrArg V.bool g30) (ev_bin (c1 := .bool v11.2) (c2 := .bool v7.2) rfl rfl rfl (evs (ev_pkF (c1 := .bool (!(v11.2 == v7.2))) rfl g30 rfl rfl (evn ?_)))))))))))
              refine ls_keep [(1, .int .i64 a1), (2, .box [.int .i64 a0.1, .arg a0.2.length (a0.2.flatMap c24_aaa)]), (6, .box [.own 208 v7.1.length (v7.1.flatMap c208_oo)]), (7, .bool v7.2), (9, .box [.own 208 v11.1.length (v11.1.flatMap c208_oo)]), (65, .bool (!(v11.2 == v7.2)))] ⟨kr, kr, kr, kr, kr, kr, trivial⟩ rfl ?_
              rcases cond_some h with ⟨g31, h⟩ | ⟨g31, h⟩
              · refine ls_cT rfl g31 ?_
                refine ls_rs tbOk ?_
                refine evs (ev_ac rfl nofun rfl (evn ?_))
                refine ls_keep [(4, .bool false)] ⟨kr, trivial⟩ rfl ?_
                refine ls_ret ?_
                have hr := Option.some.inj h
                rw [← hr]
                exact ⟨.inl rfl, rfl⟩
              · refine ls_cF rfl g31 ?_
                refine ls_skip ?_
                refine hK26 _ (ls_keep [(1, .int .i64 a1), (2, .box [.int .i64 a0.1, .arg a0.2.length (a0.2.flatMap c24_aaa)]), (6, .box [.own 208 v7.1.length (v7.1.flatMap c208_oo)]), (7, .bool v7.2), (9, .box [.own 208 v11.1.length (v11.1.flatMap c208_oo)])] ⟨kr, kr, kr, kr, kr, trivial⟩ rfl ?_)
                refine ls_rs tbOk ?_
                refine evs (ev_ac rfl nofun rfl (evn ?_))
                refine ls_keep [(1, .int .i64 a1), (2, .box [.int .i64 a0.1, .arg a0.2.length (a0.2.flatMap c24_aaa)]), (6, .box [.own 208 v7.1.length (v7.1.flatMap c208_oo)]), (7, .bool v7.2), (9, .box [.own 208 v11.1.length (v11.1.flatMap c208_oo)]), (12, .int .i64 1)] ⟨kr, kr, kr, kr, kr, kr, trivial⟩ rfl ?_
                refine ls_keep [(1, .int .i64 a1), (2, .box [.int .i64 a0.1, .arg a0.2.length (a0.2.flatMap c24_aaa)]), (6, .box [.own 208 v7.1.length (v7.1.flatMap c208_oo)]), (7, .bool v7.2), (9, .box [.own 208 v11.1.length (v11.1.flatMap c208_oo)]), (12, .int .i64 1)] ⟨kr, kr, kr, kr, kr, kr, trivial⟩ rfl ?_
                obtain ⟨v32, g33, h⟩ := ob_some h
                refine ls_mark (src_box tbOk rfl rfl rfl) rfl rfl (laws_markDatabase_m g33) (dp33 _) (sf_of (sfc rfl (sfc (scc rfl (scc (sca ad24 _) scn)) (sfc (scc (sco dp208 _) scn) (sfc rfl (sfs (sfc rfl sfn))))))) rfl rfl ⟨by decide, by decide⟩ rfl ?_
                refine ls_keep [(1, .int .i64 a1), (2, .box [.int .i64 a0.1, .arg a0.2.length (a0.2.flatMap c24_aaa)]), (6, .box [.own 208 v7.1.length (v7.1.flatMap c208_oo)]), (7, .bool v7.2), (9, .box [.own 208 v32.1.length (v32.1.flatMap c208_oo)]), (12, .int .i64 v32.2)] ⟨kr, kr, kr, kr, kr, kr, trivial⟩ rfl ?_
                refine ls_rs tbOk ?_
                refine evs (ev_ac rfl nofun rfl (evn ?_))
                refine ls_keep [(1, .int .i64 a1), (2, .box [.int .i64 a0.1, .arg a0.2.length (a0.2.flatMap c24_aaa)]), (6, .box [.own 208 v7.1.length (v7.1.flatMap c208_oo)]), (7, .bool v7.2), (9, .box [.own 208 v32.1.length (v32.1.flatMap c208_oo)]), (12, .int .i64 v32.2), (13, .int .i64 1)] ⟨kr, kr, kr, kr, kr, kr, kr, trivial⟩ rfl ?_
                refine ls_rs tbOk ?_
                refine evs (ev_ldB (off := 0) (v := .agg [.dat v32.1.length (v32.1.flatMap c208_oo)]) rfl rfl rfl rfl (Nat.le_of_ble_eq_true rfl) rfl (evs (ev_mv (c := .int .i64 1) rfl rfl rfl (?_))))
                obtain ⟨v34, g35, h⟩ := ob_some h
                refine evs (ev_call (era rfl (erg (erc (erD ec208_oo _) rfl)) (era rfl rfl eran)) (laws_heldDatabase_s g35) (evs (ev_as (c := .int .i64 v34) rfl rfl rfl (evn ?_))))
                refine ls_keep [(1, .int .i64 a1), (2, .box [.int .i64 a0.1, .arg a0.2.length (a0.2.flatMap c24_aaa)]), (6, .box [.own 208 v7.1.length (v7.1.flatMap c208_oo)]), (7, .bool v7.2), (9, .box [.own 208 v32.1.length (v32.1.flatMap c208_oo)]), (12, .int .i64 v32.2), (13, .int .i64 v34)] ⟨kr, kr, kr, kr, kr, kr, kr, trivial⟩ rfl ?_
                refine ls_seq_k fun K36 hK36 => ?_
                refine ls_rs tbOk ?_
                refine evs (ev_mv (c := .int .i64 v34) rfl rfl rfl (evs (ev_bin (c1 := .int .i64 v34) (c2 := .int .i64 0) rfl rfl rfl (evn ?_))))
                refine ls_keep [(1, .int .i64 a1), (2, .box [.int .i64 a0.1, .arg a0.2.length (a0.2.flatMap c24_aaa)]), (6, .box [.own 208 v7.1.length (v7.1.flatMap c208_oo)]), (7, .bool v7.2), (9, .box [.own 208 v32.1.length (v32.1.flatMap c208_oo)]), (12, .int .i64 v32.2), (13, .int .i64 v34), (73, .bool (decide (v34 < 0)))] ⟨kr, kr, kr, kr, kr, kr, kr, kr, trivial⟩ rfl ?_
                rcases cond_some h with ⟨g37, h⟩ | ⟨g37, h⟩
                · refine ls_cT rfl g37 ?_
                  refine ls_rs tbOk ?_
                  refine evs (ev_ac rfl nofun rfl (evn ?_))
                  refine ls_keep [(4, .bool false)] ⟨kr, trivial⟩ rfl ?_
                  refine ls_ret ?_
                  have hr := Option.some.inj h
                  rw [← hr]
                  exact ⟨.inl rfl, rfl⟩
                · refine ls_cF rfl g37 ?_
                  refine ls_skip ?_
                  refine hK36 _ (ls_keep [(1, .int .i64 a1), (2, .box [.int .i64 a0.1, .arg a0.2.length (a0.2.flatMap c24_aaa)]), (6, .box [.own 208 v7.1.length (v7.1.flatMap c208_oo)]), (7, .bool v7.2), (9, .box [.own 208 v32.1.length (v32.1.flatMap c208_oo)]), (12, .int .i64 v32.2), (13, .int .i64 v34)] ⟨kr, kr, kr, kr, kr, kr, kr, trivial⟩ rfl ?_)
                  refine ls_seq_k fun K38 hK38 => ?_
                  refine ls_rs tbOk ?_
                  refine evs (ev_mv (c := .int .i64 v34) rfl rfl rfl (evs (ev_mv (c := .int .i64 v32.2) rfl rfl rfl (evs (ev_bin (c1 := .int .i64 v34) (c2 := .int .i64 v32.2) rfl rfl rfl (evn ?_))))))
                  refine ls_keep [(1, .int .i64 a1), (2, .box [.int .i64 a0.1, .arg a0.2.length (a0.2.flatMap c24_aaa)]), (6, .box [.own 208 v7.1.length (v7.1.flatMap c208_oo)]), (7, .bool v7.2), (9, .box [.own 208 v32.1.length (v32.1.flatMap c208_oo)]), (12, .int .i64 v32.2), (76, .bool (v34 != v32.2))] ⟨kr, kr, kr, kr, kr, kr, kr, trivial⟩ rfl ?_
                  rcases cond_some h with ⟨g39, h⟩ | ⟨g39, h⟩
                  · refine ls_cT rfl g39 ?_
                    refine ls_rs tbOk ?_
                    refine evs (ev_ac rfl nofun rfl (evn ?_))
                    refine ls_keep [(4, .bool false)] ⟨kr, trivial⟩ rfl ?_
                    refine ls_ret ?_
                    have hr := Option.some.inj h
                    rw [← hr]
                    exact ⟨.inl rfl, rfl⟩
                  · refine ls_cF rfl g39 ?_
                    refine ls_skip ?_
                    refine hK38 _ (ls_keep [(1, .int .i64 a1), (2, .box [.int .i64 a0.1, .arg a0.2.length (a0.2.flatMap c24_aaa)]), (6, .box [.own 208 v7.1.length (v7.1.flatMap c208_oo)]), (7, .bool v7.2), (9, .box [.own 208 v32.1.length (v32.1.flatMap c208_oo)]), (12, .int .i64 v32.2)] ⟨kr, kr, kr, kr, kr, kr, trivial⟩ rfl ?_)
                    refine ls_rs tbOk ?_
                    refine evs (ev_ldB (off := 0) (v := .agg [.int .i64 a0.1, .arg a0.2.length (a0.2.flatMap c24_aaa)]) rfl rfl rfl rfl (Nat.le_of_ble_eq_true rfl) rfl (?_))
                    obtain ⟨v40, g41, h⟩ := ob_some h
                    refine evs (ev_call (era rfl (erg (erc rfl (erc (erG ec24_aaa _) rfl))) eran) (laws_toHistory_s g41) (evs (ev_mv (c := .int .i64 a1) rfl rfl rfl (?_))))
                    obtain ⟨v42, g43, h⟩ := ob_some h
                    refine evs (ev_call (era rfl (erg (erc rfl (erc (erO ec33_ooo _) rfl))) (era rfl rfl eran)) (impl_SnapshotAt_s g43) (evs (ev_mvt (c := .tup [.agg [.own 208 v42.1.length (v42.1.flatMap c208_oo)], .bool v42.2]) rfl rfl rfl (evs (ev_ext rfl rfl rfl rfl (evs (ev_ext rfl rfl rfl rfl (evs (ev_al rfl rfl (evs (ev_st (off := 0) (c1 := .agg [.own 208 v42.1.length (v42.1.flatMap c208_oo)]) (cs' := [.own 208 v42.1.length (v42.1.flatMap c208_oo)]) rfl rfl rfl rfl rfl rfl (Nat.le_of_ble_eq_true rfl) rfl (evs (ev_as (c := .bool v42.2) rfl rfl rfl (evn ?_))))))))))))))
                    refine ls_keep [(6, .box [.own 208 v7.1.length (v7.1.flatMap c208_oo)]), (7, .bool v7.2), (9, .box [.own 208 v32.1.length (v32.1.flatMap c208_oo)]), (12, .int .i64 v32.2), (14, .box [.own 208 v42.1.length (v42.1.flatMap c208_oo)]), (15, .bool v42.2)] ⟨kr, kr, kr, kr, kr, kr, trivial⟩ rfl ?_
                    refine ls_seq_k fun K44 hK44 => ?_
                    refine ls_rs tbOk ?_
                    refine evs (ev_ldB (off := 0) (v := .agg [.dat v42.1.length (v42.1.flatMap c208_oo)]) rfl rfl rfl rfl (Nat.le_of_ble_eq_true rfl) rfl (evs (ev_ldB (off := 0) (v := .agg [.dat v7.1.length (v7.1.flatMap c208_oo)]) rfl rfl rfl rfl (Nat.le_of_ble_eq_true rfl) rfl (?_))))
                    obtain ⟨v45, g46, h⟩ := ob_some h
                    refine evs (ev_call (era rfl (erg (erc (erD ec208_oo _) rfl)) (era rfl (erg (erc (erD ec208_oo _) rfl)) eran)) (laws_eqDatabase_s g46) (evs (ev_un (c1 := .bool v45) rfl trivial (evs (ev_mv (c := .bool (!v45)) rfl rfl rfl (?_))))))
                    rcases cond_some h with ⟨g47, h⟩ | ⟨g47, h⟩
                    · refine evs (ev_gs rfl rfl (isb_T g47) (evs (ev_gs rfl rfl (isb_T g47) (evs (ev_gs rfl rfl (isb_T g47) (evs (ev_pkT (c1 := .bool true) rfl g47 rfl rfl (evn ?_))))))))
                      refine ls_keep [(9, .box [.own 208 v32.1.length (v32.1.flatMap c208_oo)]), (12, .int .i64 v32.2), (92, .bool true)] ⟨kr, kr, kr, trivial⟩ rfl ?_
                      refine ls_cT rfl rfl ?_
                      refine ls_rs tbOk ?_
                      refine evs (ev_ac rfl nofun rfl (evn ?_))
                      refine ls_keep [(4, .bool false)] ⟨kr, trivial⟩ rfl ?_
                      refine ls_ret ?_
                      have hr := Option.some.inj h
                      rw [← hr]
                      exact ⟨.inl rfl, rfl⟩
                    · refine evs (ev_gr rfl (congrArg V.bool g47) (ev_mv (c := .bool v42.2) rfl rfl rfl (evs (ev_gr rfl (congrArg V.bool g47) (ev_mv (c := .bool v7.2) rfl rfl rfl (evs (ev_gr rfl (congrArg V.bool g47) (ev_bin (c1 := .bool v42.2) (c2 := .bool v7.2) rfl rfl rfl (evs (ev_pkF (c1 := .bool (!(v42.2 == v7.2))) rfl g47 rfl rfl (evn ?_)))))))))))
                      refine ls_keep [(9, .box [.own 208 v32.1.length (v32.1.flatMap c208_oo)]), (12, .int .i64 v32.2), (92, .bool (!(v42.2 == v7.2)))] ⟨kr, kr, kr, trivial⟩ rfl ?_
                      rcases cond_some h with ⟨g48, h⟩ | ⟨g48, h⟩
                      · refine ls_cT rfl g48 ?_
                        refine ls_rs tbOk ?_
                        refine evs (ev_ac rfl nofun rfl (evn ?_))
                        refine ls_keep [(4, .bool false)] ⟨kr, trivial⟩ rfl ?_
                        refine ls_ret ?_
                        have hr := Option.some.inj h
                        rw [← hr]
                        exact ⟨.inl rfl, rfl⟩
                      · refine ls_cF rfl g48 ?_
                        refine ls_skip ?_
                        refine hK44 _ (ls_keep [(9, .box [.own 208 v32.1.length (v32.1.flatMap c208_oo)]), (12, .int .i64 v32.2)] ⟨kr, kr, trivial⟩ rfl ?_)
                        refine ls_rs tbOk ?_
                        refine evs (ev_ac rfl nofun rfl (evn ?_))
                        refine ls_keep [(9, .box [.own 208 v32.1.length (v32.1.flatMap c208_oo)]), (12, .int .i64 v32.2), (13, .int .i64 1)] ⟨kr, kr, kr, trivial⟩ rfl ?_
                        refine ls_rs tbOk ?_
                        refine evs (ev_ldB (off := 0) (v := .agg [.dat v32.1.length (v32.1.flatMap c208_oo)]) rfl rfl rfl rfl (Nat.le_of_ble_eq_true rfl) rfl (evs (ev_mv (c := .int .i64 1) rfl rfl rfl (?_))))
                        obtain ⟨v49, g50, h⟩ := ob_some h
                        refine evs (ev_call (era rfl (erg (erc (erD ec208_oo _) rfl)) (era rfl rfl eran)) (laws_heldDatabase_s g50) (evs (ev_as (c := .int .i64 v49) rfl rfl rfl (evn ?_))))
                        refine ls_keep [(12, .int .i64 v32.2), (13, .int .i64 v49)] ⟨kr, kr, trivial⟩ rfl ?_
                        refine ls_seq_k fun K51 hK51 => ?_
                        refine ls_rs tbOk ?_
                        refine evs (ev_mv (c := .int .i64 v49) rfl rfl rfl (evs (ev_bin (c1 := .int .i64 v49) (c2 := .int .i64 0) rfl rfl rfl (evn ?_))))
                        refine ls_keep [(12, .int .i64 v32.2), (13, .int .i64 v49), (97, .bool (decide (v49 < 0)))] ⟨kr, kr, kr, trivial⟩ rfl ?_
                        rcases cond_some h with ⟨g52, h⟩ | ⟨g52, h⟩
                        · refine ls_cT rfl g52 ?_
                          refine ls_rs tbOk ?_
                          refine evs (ev_ac rfl nofun rfl (evn ?_))
                          refine ls_keep [(4, .bool false)] ⟨kr, trivial⟩ rfl ?_
                          refine ls_ret ?_
                          have hr := Option.some.inj h
                          rw [← hr]
                          exact ⟨.inl rfl, rfl⟩
                        · refine ls_cF rfl g52 ?_
                          refine ls_skip ?_
                          refine hK51 _ (ls_keep [(12, .int .i64 v32.2), (13, .int .i64 v49)] ⟨kr, kr, trivial⟩ rfl ?_)
                          refine ls_seq_k fun K53 hK53 => ?_
                          refine ls_rs tbOk ?_
                          refine evs (ev_mv (c := .int .i64 v49) rfl rfl rfl (evs (ev_mv (c := .int .i64 v32.2) rfl rfl rfl (evs (ev_bin (c1 := .int .i64 v49) (c2 := .int .i64 v32.2) rfl rfl rfl (evn ?_))))))
                          refine ls_keep [(100, .bool (v49 != v32.2))] ⟨kr, trivial⟩ rfl ?_
                          rcases cond_some h with ⟨g54, h⟩ | ⟨g54, h⟩
                          · refine ls_cT rfl g54 ?_
                            refine ls_rs tbOk ?_
                            refine evs (ev_ac rfl nofun rfl (evn ?_))
                            refine ls_keep [(4, .bool false)] ⟨kr, trivial⟩ rfl ?_
                            refine ls_ret ?_
                            have hr := Option.some.inj h
                            rw [← hr]
                            exact ⟨.inl rfl, rfl⟩
                          · refine ls_cF rfl g54 ?_
                            refine ls_skip ?_
                            refine hK53 _ (ls_keep [] trivial rfl ?_)
                            refine ls_rs tbOk ?_
                            refine evs (ev_ac rfl nofun rfl (evn ?_))
                            refine ls_keep [(4, .bool true)] ⟨kr, trivial⟩ rfl ?_
                            refine ls_ret ?_
                            have hr := Option.some.inj h
                            rw [← hr]
                            exact ⟨.inl rfl, rfl⟩
end Go.Proofs.Ytkcfahfladikkaa
