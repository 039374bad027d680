/-
  Functions of the program as typed functions, printed by gen.py, and that the program's functions do what they say. No conditions.
-/
import Derived.Test.YtkcfahfladikkaaGSE1
namespace Go.Proofs.Ytkcfahfladikkaa
open Go.RowKit
set_option linter.unusedVariables false
set_option maxRecDepth 100000
set_option maxHeartbeats 1000000
def laws_eqIntS_B1 (a0 : List Int) (a1 : List Int) (rec : Int → Option (Sum (Unit) (Bool))) (y1 : Int) : Option (Sum (Unit) (Bool)) := cond (decide (y1 < (List.length a0 : Int))) (obind (geti a0 y1) fun e7 => obind (geti a1 y1) fun e9 => cond (e7 != e9) (some (.inr false)) (rec (IntKind.i64.wrap (y1 + 1)))) (some (.inl ()))
def laws_eqIntS (a0 : List Int) (a1 : List Int) : Option (Bool) := cond ((List.length a0 : Int) != (List.length a1 : Int)) (some false) (obind (loopF (laws_eqIntS_B1 a0 a1) fz 0) fun o1 => (match o1 with
  | .inl _ => (some true)
  | .inr r => some r))
theorem laws_eqIntS_s {a0 : List Int} {a1 : List Int} {r : Bool} (h : laws_eqIntS a0 a1 = some r) : SoundAt Try.prog 19 [dL ci64 a0, dL ci64 a1] (.bool r) := by
  unfold laws_eqIntS at h
  refine sound_lit tbOk lit19 (nb rfl) rfl ?_
  unfold c19
  refine ls_keep [(0, dL ci64 a0), (1, dL ci64 a1)] ⟨kr, kr, trivial⟩ rfl ?_
  refine ls_rs tbOk ?_
  refine evs (ev_ac rfl nofun rfl (evn ?_))
  refine ls_keep [(0, dL ci64 a0), (1, dL ci64 a1)] ⟨kr, kr, trivial⟩ rfl ?_
  refine ls_seq_k fun K1 hK1 => ?_
  refine ls_rs tbOk ?_
  refine evs (ev_mv (c := dL ci64 a0) rfl rfl rfl (evs (ev_len (c1 := dL ci64 a0) rfl rfl rfl (evs (ev_mv (c := dL ci64 a1) rfl rfl rfl (evs (ev_len (c1 := dL ci64 a1) rfl rfl rfl (evs (ev_bin (c1 := nI (List.length a0 : Int)) (c2 := nI (List.length a1 : Int)) rfl rfl rfl (evn ?_))))))))))
  refine ls_keep [(0, dL ci64 a0), (1, dL ci64 a1), (10, .bool ((List.length a0 : Int) != (List.length a1 : Int)))] ⟨kr, kr, kr, trivial⟩ rfl ?_
  rcases cond_some h with ⟨g2, h⟩ | ⟨g2, h⟩
  · refine ls_cT rfl g2 ?_
    refine ls_rs tbOk ?_
    refine evs (ev_ac rfl nofun rfl (evn ?_))
    refine ls_keep [(4, .bool false)] ⟨kr, trivial⟩ rfl ?_
    refine ls_ret ?_
    have hr := Option.some.inj h
    rw [← hr]
    exact ⟨.inl rfl, rfl⟩
  · refine ls_cF rfl g2 ?_
    refine ls_skip ?_
    refine hK1 _ (ls_keep [(0, dL ci64 a0), (1, dL ci64 a1)] ⟨kr, kr, trivial⟩ rfl ?_)
    refine ls_seq_k fun K3 hK3 => ?_
    refine ls_rs tbOk ?_
    refine evs (ev_ac rfl nofun rfl (evn ?_))
    refine ls_keep [(0, dL ci64 a0), (1, dL ci64 a1), (5, nI 0)] ⟨kr, kr, kr, trivial⟩ rfl ?_
    obtain ⟨o1, hl, hr1⟩ := ob_some h
    clear h
    have kXlaws_eqIntS_B1 : ∀ (_ : Unit), (some true) = some r → ∀ σ' : PS, okK σ' [] → K3 σ' := by
      intro _ h σ' hk
      refine hK3 _ (ls_keep [] hk rfl ?_)
      refine ls_rs tbOk ?_
      refine evs (ev_ac rfl nofun rfl (evn ?_))
      refine ls_keep [(4, .bool true)] ⟨kr, trivial⟩ rfl ?_
      refine ls_ret ?_
      have hr := Option.some.inj h
      rw [← hr]
      exact ⟨.inl rfl, rfl⟩
    refine ls_rec (fun (y1 : Int) => [(0, dL ci64 a0), (1, dL ci64 a1), (5, nI y1)]) (laws_eqIntS_B1 a0 a1) fz 0 o1 hl ⟨kr, kr, kr, trivial⟩ (fun _ => rfl) ?_
    rintro m y1 N h hN
    unfold laws_eqIntS_B1 at h
    refine ls_seq_k fun K4 hK4 => ?_
    refine ls_rs tbOk ?_
    refine evs (ev_mv (c := nI y1) rfl rfl rfl (evs (ev_mv (c := dL ci64 a0) rfl rfl rfl (evs (ev_len (c1 := dL ci64 a0) rfl rfl rfl (evs (ev_bin (c1 := nI y1) (c2 := nI (List.length a0 : Int)) rfl rfl rfl (evn ?_))))))))
    refine ls_keep [(0, dL ci64 a0), (1, dL ci64 a1), (5, nI y1), (14, .bool (decide (y1 < (List.length a0 : Int))))] ⟨kr, kr, kr, kr, trivial⟩ rfl ?_
    rcases cond_some h with ⟨g5, h⟩ | ⟨g5, h⟩
    · refine ls_cT rfl g5 ?_
      refine ls_skip ?_
      refine hK4 _ (ls_keep [(0, dL ci64 a0), (1, dL ci64 a1), (5, nI y1)] ⟨kr, kr, kr, trivial⟩ rfl ?_)
      refine ls_seq_k fun K6 hK6 => ?_
      refine ls_blk ?_
      refine ls_rd tbOk mixed (by kernel_rfl) ?_
      refine evd rfl rfl (ev_mv (c := dL ci64 a0) rfl rfl rfl (evd rfl rfl (ev_mv (c := nI y1) rfl rfl rfl (?_))))
      obtain ⟨e7, g8, h⟩ := ob_some h
      refine evd rfl rfl (ev_ia rfl rfl rfl ⟨(geti_some g8).1, (geti_some g8).2.1⟩ (evd rfl rfl (ev_ldE (i := y1) (n := 1) (off := 0) (v := nI e7) rfl rfl zci64 g8 rfl (nb rfl) rfl (evd rfl rfl (ev_mv (c := dL ci64 a1) rfl rfl rfl (evd rfl rfl (ev_mv (c := nI y1) rfl rfl rfl (?_))))))))
      obtain ⟨e9, g10, h⟩ := ob_some h
      refine evd rfl rfl (ev_ia rfl rfl rfl ⟨(geti_some g10).1, (geti_some g10).2.1⟩ (evd rfl rfl (ev_ldE (i := y1) (n := 1) (off := 0) (v := nI e9) rfl rfl zci64 g10 rfl (nb rfl) rfl (evd rfl rfl (ev_bin (c1 := nI e7) (c2 := nI e9) rfl rfl rfl (evdn ?_))))))
      refine ls_keep [(0, dL ci64 a0), (1, dL ci64 a1), (5, nI y1), (25, .bool (e7 != e9))] ⟨kr, kr, kr, kr, trivial⟩ rfl ?_
      rcases cond_some h with ⟨g11, h⟩ | ⟨g11, h⟩
      · refine ls_cT rfl g11 ?_
        refine ls_rs tbOk ?_
        refine evs (ev_ac rfl nofun rfl (evn ?_))
        refine ls_keep [(4, .bool false)] ⟨kr, trivial⟩ rfl ?_
        refine ls_ret ?_
        have q0 := (Option.some.inj h).symm
        have r0 := hr1
        rw [q0] at r0
        have hr := Option.some.inj r0
        rw [← hr]
        exact ⟨.inl rfl, rfl⟩
      · refine ls_cF rfl g11 ?_
        refine ls_skip ?_
        refine hK6 _ (ls_keep [(0, dL ci64 a0), (1, dL ci64 a1), (5, nI y1)] ⟨kr, kr, kr, trivial⟩ rfl ?_)
        refine ls_rgn tbOk ?_
        refine evs (ev_mv (c := nI y1) rfl rfl rfl (evs (ev_bin (c1 := nI y1) (c2 := nI 1) rfl rfl rfl (evs (ev_as (c := nI (IntKind.i64.wrap (y1 + 1))) rfl rfl rfl (evn ?_))))))
        exact hN _ (IntKind.i64.wrap (y1 + 1)) h ⟨kr, kr, kr, trivial⟩
    · refine ls_cF rfl g5 ?_
      refine ls_exit ?_
      have q0 := (Option.some.inj h).symm
      have r0 := hr1
      rw [q0] at r0
      exact kXlaws_eqIntS_B1 () r0 _ trivial
def laws_eqIntSS_B1 (a0 : List (List Int)) (a1 : List (List Int)) (rec : Int → Option (Sum (Unit) (Bool))) (y1 : Int) : Option (Sum (Unit) (Bool)) := cond (decide (y1 < (List.length a0 : Int))) (obind (geti a0 y1) fun e7 => obind (geti a1 y1) fun e9 => obind (laws_eqIntS e7 e9) fun v11 => cond (!v11) (some (.inr false)) (rec (IntKind.i64.wrap (y1 + 1)))) (some (.inl ()))
def laws_eqIntSS (a0 : List (List Int)) (a1 : List (List Int)) : Option (Bool) := cond ((List.length a0 : Int) != (List.length a1 : Int)) (some false) (obind (loopF (laws_eqIntSS_B1 a0 a1) fz 0) fun o1 => (match o1 with
  | .inl _ => (some true)
  | .inr r => some r))
theorem laws_eqIntSS_s {a0 : List (List Int)} {a1 : List (List Int)} {r : Bool} (h : laws_eqIntSS a0 a1 = some r) : SoundAt Try.prog 215 [dL c25_d a0, dL c25_d a1] (.bool r) := by
  unfold laws_eqIntSS at h
  refine sound_lit tbOk lit215 (nb rfl) rfl ?_
  unfold c215
  refine ls_keep [(0, dL c25_d a0), (1, dL c25_d a1)] ⟨kr, kr, trivial⟩ rfl ?_
  refine ls_rs tbOk ?_
  refine evs (ev_ac rfl nofun rfl (evn ?_))
  refine ls_keep [(0, dL c25_d a0), (1, dL c25_d a1)] ⟨kr, kr, trivial⟩ rfl ?_
  refine ls_seq_k fun K1 hK1 => ?_
  refine ls_rs tbOk ?_
  refine evs (ev_mv (c := dL c25_d a0) rfl rfl rfl (evs (ev_len (c1 := dL c25_d a0) rfl rfl rfl (evs (ev_mv (c := dL c25_d a1) rfl rfl rfl (evs (ev_len (c1 := dL c25_d a1) rfl rfl rfl (evs (ev_bin (c1 := nI (List.length a0 : Int)) (c2 := nI (List.length a1 : Int)) rfl rfl rfl (evn ?_))))))))))
  refine ls_keep [(0, dL c25_d a0), (1, dL c25_d a1), (10, .bool ((List.length a0 : Int) != (List.length a1 : Int)))] ⟨kr, kr, kr, trivial⟩ rfl ?_
  rcases cond_some h with ⟨g2, h⟩ | ⟨g2, h⟩
  · refine ls_cT rfl g2 ?_
    refine ls_rs tbOk ?_
    refine evs (ev_ac rfl nofun rfl (evn ?_))
    refine ls_keep [(4, .bool false)] ⟨kr, trivial⟩ rfl ?_
    refine ls_ret ?_
    have hr := Option.some.inj h
    rw [← hr]
    exact ⟨.inl rfl, rfl⟩
  · refine ls_cF rfl g2 ?_
    refine ls_skip ?_
    refine hK1 _ (ls_keep [(0, dL c25_d a0), (1, dL c25_d a1)] ⟨kr, kr, trivial⟩ rfl ?_)
    refine ls_seq_k fun K3 hK3 => ?_
    refine ls_rs tbOk ?_
    refine evs (ev_ac rfl nofun rfl (evn ?_))
    refine ls_keep [(0, dL c25_d a0), (1, dL c25_d a1), (5, nI 0)] ⟨kr, kr, kr, trivial⟩ rfl ?_
    obtain ⟨o1, hl, hr1⟩ := ob_some h
    clear h
    have kXlaws_eqIntSS_B1 : ∀ (_ : Unit), (some true) = some r → ∀ σ' : PS, okK σ' [] → K3 σ' := by
      intro _ h σ' hk
      refine hK3 _ (ls_keep [] hk rfl ?_)
      refine ls_rs tbOk ?_
      refine evs (ev_ac rfl nofun rfl (evn ?_))
      refine ls_keep [(4, .bool true)] ⟨kr, trivial⟩ rfl ?_
      refine ls_ret ?_
      have hr := Option.some.inj h
      rw [← hr]
      exact ⟨.inl rfl, rfl⟩
    refine ls_rec (fun (y1 : Int) => [(0, dL c25_d a0), (1, dL c25_d a1), (5, nI y1)]) (laws_eqIntSS_B1 a0 a1) fz 0 o1 hl ⟨kr, kr, kr, trivial⟩ (fun _ => rfl) ?_
    rintro m y1 N h hN
    unfold laws_eqIntSS_B1 at h
    refine ls_seq_k fun K4 hK4 => ?_
    refine ls_rs tbOk ?_
    refine evs (ev_mv (c := nI y1) rfl rfl rfl (evs (ev_mv (c := dL c25_d a0) rfl rfl rfl (evs (ev_len (c1 := dL c25_d a0) rfl rfl rfl (evs (ev_bin (c1 := nI y1) (c2 := nI (List.length a0 : Int)) rfl rfl rfl (evn ?_))))))))
    refine ls_keep [(0, dL c25_d a0), (1, dL c25_d a1), (5, nI y1), (14, .bool (decide (y1 < (List.length a0 : Int))))] ⟨kr, kr, kr, kr, trivial⟩ rfl ?_
    rcases cond_some h with ⟨g5, h⟩ | ⟨g5, h⟩
    · refine ls_cT rfl g5 ?_
      refine ls_skip ?_
      refine hK4 _ (ls_keep [(0, dL c25_d a0), (1, dL c25_d a1), (5, nI y1)] ⟨kr, kr, kr, trivial⟩ rfl ?_)
      refine ls_seq_k fun K6 hK6 => ?_
      refine ls_blk ?_
      refine ls_rd tbOk mixed (by kernel_rfl) ?_
      refine evd rfl rfl (ev_mv (c := dL c25_d a0) rfl rfl rfl (evd rfl rfl (ev_mv (c := nI y1) rfl rfl rfl (?_))))
      obtain ⟨e7, g8, h⟩ := ob_some h
      refine evd rfl rfl (ev_ia rfl rfl rfl ⟨(geti_some g8).1, (geti_some g8).2.1⟩ (evd rfl rfl (ev_ldE (i := y1) (n := 1) (off := 0) (v := dL ci64 e7) rfl rfl zc25_d g8 rfl (nb rfl) rfl (evd rfl rfl (ev_mv (c := dL c25_d a1) rfl rfl rfl (evd rfl rfl (ev_mv (c := nI y1) rfl rfl rfl (?_))))))))
      obtain ⟨e9, g10, h⟩ := ob_some h
      refine evd rfl rfl (ev_ia rfl rfl rfl ⟨(geti_some g10).1, (geti_some g10).2.1⟩ (evd rfl rfl (ev_ldE (i := y1) (n := 1) (off := 0) (v := dL ci64 e9) rfl rfl zc25_d g10 rfl (nb rfl) rfl (?_))))
      obtain ⟨v11, g12, h⟩ := ob_some h
      refine evd rfl rfl (ev_call (era rfl (erD eci64 _) (era rfl (erD eci64 _) eran)) (laws_eqIntS_s g12) (evd rfl rfl (ev_un (c1 := .bool v11) rfl trivial (evdn ?_))))
      refine ls_keep [(0, dL c25_d a0), (1, dL c25_d a1), (5, nI y1), (26, .bool (!v11))] ⟨kr, kr, kr, kr, trivial⟩ rfl ?_
      rcases cond_some h with ⟨g13, h⟩ | ⟨g13, h⟩
      · refine ls_cT rfl g13 ?_
        refine ls_rs tbOk ?_
        refine evs (ev_ac rfl nofun rfl (evn ?_))
        refine ls_keep [(4, .bool false)] ⟨kr, trivial⟩ rfl ?_
        refine ls_ret ?_
        have q0 := (Option.some.inj h).symm
        have r0 := hr1
        rw [q0] at r0
        have hr := Option.some.inj r0
        rw [← hr]
        exact ⟨.inl rfl, rfl⟩
      · refine ls_cF rfl g13 ?_
        refine ls_skip ?_
        refine hK6 _ (ls_keep [(0, dL c25_d a0), (1, dL c25_d a1), (5, nI y1)] ⟨kr, kr, kr, trivial⟩ rfl ?_)
        refine ls_rgn tbOk ?_
        refine evs (ev_mv (c := nI y1) rfl rfl rfl (evs (ev_bin (c1 := nI y1) (c2 := nI 1) rfl rfl rfl (evs (ev_as (c := nI (IntKind.i64.wrap (y1 + 1))) rfl rfl rfl (evn ?_))))))
        exact hN _ (IntKind.i64.wrap (y1 + 1)) h ⟨kr, kr, kr, trivial⟩
    · refine ls_cF rfl g5 ?_
      refine ls_exit ?_
      have q0 := (Option.some.inj h).symm
      have r0 := hr1
      rw [q0] at r0
      exact kXlaws_eqIntSS_B1 () r0 _ trivial
def laws_eqRelation (a0 : Y127) (a1 : Y127) : Option (Bool) := cond (a0.1 != a1.1) (some false) (obind (laws_eqIntSS a0.2 a1.2) fun v4 => cond (!v4) (some false) (some true))
theorem laws_eqRelation_s {a0 : Y127} {a1 : Y127} {r : Bool} (h : laws_eqRelation a0 a1 = some r) : SoundAt Try.prog 238 [.agg (c128_dd a0), .agg (c128_dd a1)] (.bool r) := by
  unfold laws_eqRelation at h
  refine sound_lit tbOk lit238 (nb rfl) rfl ?_
  unfold c238
  refine ls_keep [(0, .agg (c128_dd a0)), (1, .agg (c128_dd a1))] ⟨kr, kr, trivial⟩ rfl ?_
  refine ls_rs tbOk ?_
  refine evs (ev_bx (c1 := .agg (c128_dd a0)) rfl rfl rfl (evs (ev_bx (c1 := .agg (c128_dd a1)) rfl rfl rfl (evs (ev_ac rfl nofun rfl (evn ?_))))))
  refine ls_keep [(2, .box [nI a0.1, dL c25_d a0.2]), (3, .box [nI a1.1, dL c25_d a1.2])] ⟨kr, kr, trivial⟩ rfl ?_
  refine ls_seq_k fun K1 hK1 => ?_
  refine ls_rs tbOk ?_
  refine evs (ev_fa (c1 := .cref 2 0) (v := .cref 2 0) rfl rfl rfl ⟨_, rfl⟩ rfl (evs (ev_ldB (off := 0) (v := nI a0.1) rfl rfl rfl rfl (nb rfl) rfl (evs (ev_fa (c1 := .cref 3 0) (v := .cref 3 0) rfl rfl rfl ⟨_, rfl⟩ rfl (evs (ev_ldB (off := 0) (v := nI a1.1) rfl rfl rfl rfl (nb rfl) rfl (evs (ev_bin (c1 := nI a0.1) (c2 := nI a1.1) rfl rfl rfl (evn ?_))))))))))
  refine ls_keep [(2, .box [nI a0.1, dL c25_d a0.2]), (3, .box [nI a1.1, dL c25_d a1.2]), (9, .bool (a0.1 != a1.1))] ⟨kr, kr, kr, trivial⟩ rfl ?_
  rcases cond_some h with ⟨g2, h⟩ | ⟨g2, h⟩
  · refine ls_cT rfl g2 ?_
    refine ls_rs tbOk ?_
    refine evs (ev_ac rfl nofun rfl (evn ?_))
    refine ls_keep [(4, .bool false)] ⟨kr, trivial⟩ rfl ?_
    refine ls_ret ?_
    have hr := Option.some.inj h
    rw [← hr]
    exact ⟨.inl rfl, rfl⟩
  · refine ls_cF rfl g2 ?_
    refine ls_skip ?_
    refine hK1 _ (ls_keep [(2, .box [nI a0.1, dL c25_d a0.2]), (3, .box [nI a1.1, dL c25_d a1.2])] ⟨kr, kr, trivial⟩ rfl ?_)
    refine ls_seq_k fun K3 hK3 => ?_
    refine ls_rs tbOk ?_
    refine evs (ev_fa (c1 := .cref 2 0) (v := .cref 2 1) rfl rfl rfl ⟨_, rfl⟩ rfl (evs (ev_ldB (off := 1) (v := dL c25_d a0.2) rfl rfl rfl rfl (nb rfl) rfl (evs (ev_fa (c1 := .cref 3 0) (v := .cref 3 1) rfl rfl rfl ⟨_, rfl⟩ rfl (evs (ev_ldB (off := 1) (v := dL c25_d a1.2) rfl rfl rfl rfl (nb rfl) rfl (?_))))))))
    obtain ⟨v4, g5, h⟩ := ob_some h
    refine evs (ev_call (era rfl (erD ec25_d _) (era rfl (erD ec25_d _) eran)) (laws_eqIntSS_s g5) (evs (ev_un (c1 := .bool v4) rfl trivial (evn ?_))))
    refine ls_keep [(15, .bool (!v4))] ⟨kr, trivial⟩ rfl ?_
    rcases cond_some h with ⟨g6, h⟩ | ⟨g6, h⟩
    · refine ls_cT rfl g6 ?_
      refine ls_rs tbOk ?_
      refine evs (ev_ac rfl nofun rfl (evn ?_))
      refine ls_keep [(4, .bool false)] ⟨kr, trivial⟩ rfl ?_
      refine ls_ret ?_
      have hr := Option.some.inj h
      rw [← hr]
      exact ⟨.inl rfl, rfl⟩
    · refine ls_cF rfl g6 ?_
      refine ls_skip ?_
      refine hK3 _ (ls_keep [] trivial rfl ?_)
      refine ls_rs tbOk ?_
      refine evs (ev_ac rfl nofun rfl (evn ?_))
      refine ls_keep [(4, .bool true)] ⟨kr, trivial⟩ rfl ?_
      refine ls_ret ?_
      have hr := Option.some.inj h
      rw [← hr]
      exact ⟨.inl rfl, rfl⟩
def laws_eqTable (a0 : Y207) (a1 : Y207) : Option (Bool) := cond (!(a0.1 == a1.1)) (some false) (obind (laws_eqRelation a0.2 a1.2) fun v4 => cond (!v4) (some false) (some true))
theorem laws_eqTable_s {a0 : Y207} {a1 : Y207} {r : Bool} (h : laws_eqTable a0 a1 = some r) : SoundAt Try.prog 176 [.agg (c208_dd a0), .agg (c208_dd a1)] (.bool r) := by
  unfold laws_eqTable at h
  refine sound_lit tbOk lit176 (nb rfl) rfl ?_
  unfold c176
  refine ls_keep [(0, .agg (c208_dd a0)), (1, .agg (c208_dd a1))] ⟨kr, kr, trivial⟩ rfl ?_
  refine ls_rs tbOk ?_
  refine evs (ev_bx (c1 := .agg (c208_dd a0)) rfl rfl rfl (evs (ev_bx (c1 := .agg (c208_dd a1)) rfl rfl rfl (evs (ev_ac rfl nofun rfl (evn ?_))))))
  refine ls_keep [(2, .box [.str a0.1, nI a0.2.1, dL c25_d a0.2.2]), (3, .box [.str a1.1, nI a1.2.1, dL c25_d a1.2.2])] ⟨kr, kr, trivial⟩ rfl ?_
  refine ls_seq_k fun K1 hK1 => ?_
  refine ls_rs tbOk ?_
  refine evs (ev_fa (c1 := .cref 2 0) (v := .cref 2 0) rfl rfl rfl ⟨_, rfl⟩ rfl (evs (ev_ldB (off := 0) (v := .str a0.1) rfl rfl rfl rfl (nb rfl) rfl (evs (ev_fa (c1 := .cref 3 0) (v := .cref 3 0) rfl rfl rfl ⟨_, rfl⟩ rfl (evs (ev_ldB (off := 0) (v := .str a1.1) rfl rfl rfl rfl (nb rfl) rfl (evs (ev_bin (c1 := .str a0.1) (c2 := .str a1.1) rfl rfl trivial (evn ?_))))))))))
  refine ls_keep [(2, .box [.str a0.1, nI a0.2.1, dL c25_d a0.2.2]), (3, .box [.str a1.1, nI a1.2.1, dL c25_d a1.2.2]), (9, .bool (!(a0.1 == a1.1)))] ⟨kr, kr, kr, trivial⟩ rfl ?_
  rcases cond_some h with ⟨g2, h⟩ | ⟨g2, h⟩
  · refine ls_cT rfl g2 ?_
    refine ls_rs tbOk ?_
    refine evs (ev_ac rfl nofun rfl (evn ?_))
    refine ls_keep [(4, .bool false)] ⟨kr, trivial⟩ rfl ?_
    refine ls_ret ?_
    have hr := Option.some.inj h
    rw [← hr]
    exact ⟨.inl rfl, rfl⟩
  · refine ls_cF rfl g2 ?_
    refine ls_skip ?_
    refine hK1 _ (ls_keep [(2, .box [.str a0.1, nI a0.2.1, dL c25_d a0.2.2]), (3, .box [.str a1.1, nI a1.2.1, dL c25_d a1.2.2])] ⟨kr, kr, trivial⟩ rfl ?_)
    refine ls_seq_k fun K3 hK3 => ?_
    refine ls_rs tbOk ?_
    refine evs (ev_fa (c1 := .cref 2 0) (v := .cref 2 1) rfl rfl rfl ⟨_, rfl⟩ rfl (evs (ev_ldB (off := 1) (v := .agg (c128_dd a0.2)) rfl rfl rfl rfl (nb rfl) rfl (evs (ev_fa (c1 := .cref 3 0) (v := .cref 3 1) rfl rfl rfl ⟨_, rfl⟩ rfl (evs (ev_ldB (off := 1) (v := .agg (c128_dd a1.2)) rfl rfl rfl rfl (nb rfl) rfl (?_))))))))
    obtain ⟨v4, g5, h⟩ := ob_some h
    refine evs (ev_call (era rfl (erg (erc rfl (erc (erD ec25_d _) rfl))) (era rfl (erg (erc rfl (erc (erD ec25_d _) rfl))) eran)) (laws_eqRelation_s g5) (evs (ev_un (c1 := .bool v4) rfl trivial (evn ?_))))
    refine ls_keep [(15, .bool (!v4))] ⟨kr, trivial⟩ rfl ?_
    rcases cond_some h with ⟨g6, h⟩ | ⟨g6, h⟩
    · refine ls_cT rfl g6 ?_
      refine ls_rs tbOk ?_
      refine evs (ev_ac rfl nofun rfl (evn ?_))
      refine ls_keep [(4, .bool false)] ⟨kr, trivial⟩ rfl ?_
      refine ls_ret ?_
      have hr := Option.some.inj h
      rw [← hr]
      exact ⟨.inl rfl, rfl⟩
    · refine ls_cF rfl g6 ?_
      refine ls_skip ?_
      refine hK3 _ (ls_keep [] trivial rfl ?_)
      refine ls_rs tbOk ?_
      refine evs (ev_ac rfl nofun rfl (evn ?_))
      refine ls_keep [(4, .bool true)] ⟨kr, trivial⟩ rfl ?_
      refine ls_ret ?_
      have hr := Option.some.inj h
      rw [← hr]
      exact ⟨.inl rfl, rfl⟩
def laws_eqTableS_B1 (a0 : List Y207) (a1 : List Y207) (rec : Int → Option (Sum (Unit) (Bool))) (y1 : Int) : Option (Sum (Unit) (Bool)) := cond (decide (y1 < (List.length a0 : Int))) (obind (geti a0 y1) fun e7 => obind (geti a1 y1) fun e9 => obind (laws_eqTable e7 e9) fun v11 => cond (!v11) (some (.inr false)) (rec (IntKind.i64.wrap (y1 + 1)))) (some (.inl ()))
def laws_eqTableS (a0 : List Y207) (a1 : List Y207) : Option (Bool) := cond ((List.length a0 : Int) != (List.length a1 : Int)) (some false) (obind (loopF (laws_eqTableS_B1 a0 a1) fz 0) fun o1 => (match o1 with
  | .inl _ => (some true)
  | .inr r => some r))
theorem laws_eqTableS_s {a0 : List Y207} {a1 : List Y207} {r : Bool} (h : laws_eqTableS a0 a1 = some r) : SoundAt Try.prog 82 [dL c208_dd a0, dL c208_dd a1] (.bool r) := by
  unfold laws_eqTableS at h
  refine sound_lit tbOk lit82 (nb rfl) rfl ?_
  unfold c82
  refine ls_keep [(0, dL c208_dd a0), (1, dL c208_dd a1)] ⟨kr, kr, trivial⟩ rfl ?_
  refine ls_rs tbOk ?_
  refine evs (ev_ac rfl nofun rfl (evn ?_))
  refine ls_keep [(0, dL c208_dd a0), (1, dL c208_dd a1)] ⟨kr, kr, trivial⟩ rfl ?_
  refine ls_seq_k fun K1 hK1 => ?_
  refine ls_rs tbOk ?_
  refine evs (ev_mv (c := dL c208_dd a0) rfl rfl rfl (evs (ev_len (c1 := dL c208_dd a0) rfl rfl rfl (evs (ev_mv (c := dL c208_dd a1) rfl rfl rfl (evs (ev_len (c1 := dL c208_dd a1) rfl rfl rfl (evs (ev_bin (c1 := nI (List.length a0 : Int)) (c2 := nI (List.length a1 : Int)) rfl rfl rfl (evn ?_))))))))))
  refine ls_keep [(0, dL c208_dd a0), (1, dL c208_dd a1), (10, .bool ((List.length a0 : Int) != (List.length a1 : Int)))] ⟨kr, kr, kr, trivial⟩ rfl ?_
  rcases cond_some h with ⟨g2, h⟩ | ⟨g2, h⟩
  · refine ls_cT rfl g2 ?_
    refine ls_rs tbOk ?_
    refine evs (ev_ac rfl nofun rfl (evn ?_))
    refine ls_keep [(4, .bool false)] ⟨kr, trivial⟩ rfl ?_
    refine ls_ret ?_
    have hr := Option.some.inj h
    rw [← hr]
    exact ⟨.inl rfl, rfl⟩
  · refine ls_cF rfl g2 ?_
    refine ls_skip ?_
    refine hK1 _ (ls_keep [(0, dL c208_dd a0), (1, dL c208_dd a1)] ⟨kr, kr, trivial⟩ rfl ?_)
    refine ls_seq_k fun K3 hK3 => ?_
    refine ls_rs tbOk ?_
    refine evs (ev_ac rfl nofun rfl (evn ?_))
    refine ls_keep [(0, dL c208_dd a0), (1, dL c208_dd a1), (5, nI 0)] ⟨kr, kr, kr, trivial⟩ rfl ?_
    obtain ⟨o1, hl, hr1⟩ := ob_some h
    clear h
    have kXlaws_eqTableS_B1 : ∀ (_ : Unit), (some true) = some r → ∀ σ' : PS, okK σ' [] → K3 σ' := by
      intro _ h σ' hk
      refine hK3 _ (ls_keep [] hk rfl ?_)
      refine ls_rs tbOk ?_
      refine evs (ev_ac rfl nofun rfl (evn ?_))
      refine ls_keep [(4, .bool true)] ⟨kr, trivial⟩ rfl ?_
      refine ls_ret ?_
      have hr := Option.some.inj h
      rw [← hr]
      exact ⟨.inl rfl, rfl⟩
    refine ls_rec (fun (y1 : Int) => [(0, dL c208_dd a0), (1, dL c208_dd a1), (5, nI y1)]) (laws_eqTableS_B1 a0 a1) fz 0 o1 hl ⟨kr, kr, kr, trivial⟩ (fun _ => rfl) ?_
    rintro m y1 N h hN
    unfold laws_eqTableS_B1 at h
    refine ls_seq_k fun K4 hK4 => ?_
    refine ls_rs tbOk ?_
    refine evs (ev_mv (c := nI y1) rfl rfl rfl (evs (ev_mv (c := dL c208_dd a0) rfl rfl rfl (evs (ev_len (c1 := dL c208_dd a0) rfl rfl rfl (evs (ev_bin (c1 := nI y1) (c2 := nI (List.length a0 : Int)) rfl rfl rfl (evn ?_))))))))
    refine ls_keep [(0, dL c208_dd a0), (1, dL c208_dd a1), (5, nI y1), (14, .bool (decide (y1 < (List.length a0 : Int))))] ⟨kr, kr, kr, kr, trivial⟩ rfl ?_
    rcases cond_some h with ⟨g5, h⟩ | ⟨g5, h⟩
    · refine ls_cT rfl g5 ?_
      refine ls_skip ?_
      refine hK4 _ (ls_keep [(0, dL c208_dd a0), (1, dL c208_dd a1), (5, nI y1)] ⟨kr, kr, kr, trivial⟩ rfl ?_)
      refine ls_seq_k fun K6 hK6 => ?_
      refine ls_blk ?_
      refine ls_rd tbOk mixed (by kernel_rfl) ?_
      refine evd rfl rfl (ev_mv (c := dL c208_dd a0) rfl rfl rfl (evd rfl rfl (ev_mv (c := nI y1) rfl rfl rfl (?_))))
      obtain ⟨e7, g8, h⟩ := ob_some h
      refine evd rfl rfl (ev_ia rfl rfl rfl ⟨(geti_some g8).1, (geti_some g8).2.1⟩ (evd rfl rfl (ev_ldE (i := y1) (n := 3) (off := 0) (v := .agg (c208_dd e7)) rfl rfl zc208_dd g8 rfl (nb rfl) rfl (evd rfl rfl (ev_mv (c := dL c208_dd a1) rfl rfl rfl (evd rfl rfl (ev_mv (c := nI y1) rfl rfl rfl (?_))))))))
      obtain ⟨e9, g10, h⟩ := ob_some h
      refine evd rfl rfl (ev_ia rfl rfl rfl ⟨(geti_some g10).1, (geti_some g10).2.1⟩ (evd rfl rfl (ev_ldE (i := y1) (n := 3) (off := 0) (v := .agg (c208_dd e9)) rfl rfl zc208_dd g10 rfl (nb rfl) rfl (?_))))
      obtain ⟨v11, g12, h⟩ := ob_some h
      refine evd rfl rfl (ev_call (era rfl (erg (erc rfl (erc rfl (erc (erD ec25_d _) rfl)))) (era rfl (erg (erc rfl (erc rfl (erc (erD ec25_d _) rfl)))) eran)) (laws_eqTable_s g12) (evd rfl rfl (ev_un (c1 := .bool v11) rfl trivial (evdn ?_))))
      refine ls_keep [(0, dL c208_dd a0), (1, dL c208_dd a1), (5, nI y1), (26, .bool (!v11))] ⟨kr, kr, kr, kr, trivial⟩ rfl ?_
      rcases cond_some h with ⟨g13, h⟩ | ⟨g13, h⟩
      · refine ls_cT rfl g13 ?_
        refine ls_rs tbOk ?_
        refine evs (ev_ac rfl nofun rfl (evn ?_))
        refine ls_keep [(4, .bool false)] ⟨kr, trivial⟩ rfl ?_
        refine ls_ret ?_
        have q0 := (Option.some.inj h).symm
        have r0 := hr1
        rw [q0] at r0
        have hr := Option.some.inj r0
        rw [← hr]
        exact ⟨.inl rfl, rfl⟩
      · refine ls_cF rfl g13 ?_
        refine ls_skip ?_
        refine hK6 _ (ls_keep [(0, dL c208_dd a0), (1, dL c208_dd a1), (5, nI y1)] ⟨kr, kr, kr, trivial⟩ rfl ?_)
        refine ls_rgn tbOk ?_
        refine evs (ev_mv (c := nI y1) rfl rfl rfl (evs (ev_bin (c1 := nI y1) (c2 := nI 1) rfl rfl rfl (evs (ev_as (c := nI (IntKind.i64.wrap (y1 + 1))) rfl rfl rfl (evn ?_))))))
        exact hN _ (IntKind.i64.wrap (y1 + 1)) h ⟨kr, kr, kr, trivial⟩
    · refine ls_cF rfl g5 ?_
      refine ls_exit ?_
      have q0 := (Option.some.inj h).symm
      have r0 := hr1
      rw [q0] at r0
      exact kXlaws_eqTableS_B1 () r0 _ trivial
def laws_eqDatabase (a0 : List Y207) (a1 : List Y207) : Option (Bool) := obind (laws_eqTableS a0 a1) fun v2 => cond (!v2) (some false) (some true)
theorem laws_eqDatabase_s {a0 : List Y207} {a1 : List Y207} {r : Bool} (h : laws_eqDatabase a0 a1 = some r) : SoundAt Try.prog 20 [.agg [dL c208_dd a0], .agg [dL c208_dd a1]] (.bool r) := by
  unfold laws_eqDatabase at h
  refine sound_lit tbOk lit20 (nb rfl) rfl ?_
  unfold c20
  refine ls_keep [(0, .agg [dL c208_dd a0]), (1, .agg [dL c208_dd a1])] ⟨kr, kr, trivial⟩ rfl ?_
  refine ls_rs tbOk ?_
  refine evs (ev_bx (c1 := .agg [dL c208_dd a0]) rfl rfl rfl (evs (ev_bx (c1 := .agg [dL c208_dd a1]) rfl rfl rfl (evs (ev_ac rfl nofun rfl (evn ?_))))))
  refine ls_keep [(2, .box [dL c208_dd a0]), (3, .box [dL c208_dd a1])] ⟨kr, kr, trivial⟩ rfl ?_
  refine ls_seq_k fun K1 hK1 => ?_
  refine ls_rs tbOk ?_
  refine evs (ev_fa (c1 := .cref 2 0) (v := .cref 2 0) rfl rfl rfl ⟨_, rfl⟩ rfl (evs (ev_ldB (off := 0) (v := dL c208_dd a0) rfl rfl rfl rfl (nb rfl) rfl (evs (ev_fa (c1 := .cref 3 0) (v := .cref 3 0) rfl rfl rfl ⟨_, rfl⟩ rfl (evs (ev_ldB (off := 0) (v := dL c208_dd a1) rfl rfl rfl rfl (nb rfl) rfl (?_))))))))
  obtain ⟨v2, g3, h⟩ := ob_some h
  refine evs (ev_call (era rfl (erD ec208_dd _) (era rfl (erD ec208_dd _) eran)) (laws_eqTableS_s g3) (evs (ev_un (c1 := .bool v2) rfl trivial (evn ?_))))
  refine ls_keep [(10, .bool (!v2))] ⟨kr, trivial⟩ rfl ?_
  rcases cond_some h with ⟨g4, h⟩ | ⟨g4, h⟩
  · refine ls_cT rfl g4 ?_
    refine ls_rs tbOk ?_
    refine evs (ev_ac rfl nofun rfl (evn ?_))
    refine ls_keep [(4, .bool false)] ⟨kr, trivial⟩ rfl ?_
    refine ls_ret ?_
    have hr := Option.some.inj h
    rw [← hr]
    exact ⟨.inl rfl, rfl⟩
  · refine ls_cF rfl g4 ?_
    refine ls_skip ?_
    refine hK1 _ (ls_keep [] trivial rfl ?_)
    refine ls_rs tbOk ?_
    refine evs (ev_ac rfl nofun rfl (evn ?_))
    refine ls_keep [(4, .bool true)] ⟨kr, trivial⟩ rfl ?_
    refine ls_ret ?_
    have hr := Option.some.inj h
    rw [← hr]
    exact ⟨.inl rfl, rfl⟩
def laws_eqAtom (a0 : Y194) (a1 : Y194) : Option (Bool) := cond (!(a0.1 == a1.1)) (some false) (obind (laws_eqIntS a0.2 a1.2) fun v4 => cond (!v4) (some false) (some true))
theorem laws_eqAtom_s {a0 : Y194} {a1 : Y194} {r : Bool} (h : laws_eqAtom a0 a1 = some r) : SoundAt Try.prog 214 [.agg (c195_d a0), .agg (c195_d a1)] (.bool r) := by
  unfold laws_eqAtom at h
  refine sound_lit tbOk lit214 (nb rfl) rfl ?_
  unfold c214
  refine ls_keep [(0, .agg (c195_d a0)), (1, .agg (c195_d a1))] ⟨kr, kr, trivial⟩ rfl ?_
  refine ls_rs tbOk ?_
  refine evs (ev_bx (c1 := .agg (c195_d a0)) rfl rfl rfl (evs (ev_bx (c1 := .agg (c195_d a1)) rfl rfl rfl (evs (ev_ac rfl nofun rfl (evn ?_))))))
  refine ls_keep [(2, .box [.str a0.1, dL ci64 a0.2]), (3, .box [.str a1.1, dL ci64 a1.2])] ⟨kr, kr, trivial⟩ rfl ?_
  refine ls_seq_k fun K1 hK1 => ?_
  refine ls_rs tbOk ?_
  refine evs (ev_fa (c1 := .cref 2 0) (v := .cref 2 0) rfl rfl rfl ⟨_, rfl⟩ rfl (evs (ev_ldB (off := 0) (v := .str a0.1) rfl rfl rfl rfl (nb rfl) rfl (evs (ev_fa (c1 := .cref 3 0) (v := .cref 3 0) rfl rfl rfl ⟨_, rfl⟩ rfl (evs (ev_ldB (off := 0) (v := .str a1.1) rfl rfl rfl rfl (nb rfl) rfl (evs (ev_bin (c1 := .str a0.1) (c2 := .str a1.1) rfl rfl trivial (evn ?_))))))))))
  refine ls_keep [(2, .box [.str a0.1, dL ci64 a0.2]), (3, .box [.str a1.1, dL ci64 a1.2]), (9, .bool (!(a0.1 == a1.1)))] ⟨kr, kr, kr, trivial⟩ rfl ?_
  rcases cond_some h with ⟨g2, h⟩ | ⟨g2, h⟩
  · refine ls_cT rfl g2 ?_
    refine ls_rs tbOk ?_
    refine evs (ev_ac rfl nofun rfl (evn ?_))
    refine ls_keep [(4, .bool false)] ⟨kr, trivial⟩ rfl ?_
    refine ls_ret ?_
    have hr := Option.some.inj h
    rw [← hr]
    exact ⟨.inl rfl, rfl⟩
  · refine ls_cF rfl g2 ?_
    refine ls_skip ?_
    refine hK1 _ (ls_keep [(2, .box [.str a0.1, dL ci64 a0.2]), (3, .box [.str a1.1, dL ci64 a1.2])] ⟨kr, kr, trivial⟩ rfl ?_)
    refine ls_seq_k fun K3 hK3 => ?_
    refine ls_rs tbOk ?_
    refine evs (ev_fa (c1 := .cref 2 0) (v := .cref 2 1) rfl rfl rfl ⟨_, rfl⟩ rfl (evs (ev_ldB (off := 1) (v := dL ci64 a0.2) rfl rfl rfl rfl (nb rfl) rfl (evs (ev_fa (c1 := .cref 3 0) (v := .cref 3 1) rfl rfl rfl ⟨_, rfl⟩ rfl (evs (ev_ldB (off := 1) (v := dL ci64 a1.2) rfl rfl rfl rfl (nb rfl) rfl (?_))))))))
    obtain ⟨v4, g5, h⟩ := ob_some h
    refine evs (ev_call (era rfl (erD eci64 _) (era rfl (erD eci64 _) eran)) (laws_eqIntS_s g5) (evs (ev_un (c1 := .bool v4) rfl trivial (evn ?_))))
    refine ls_keep [(15, .bool (!v4))] ⟨kr, trivial⟩ rfl ?_
    rcases cond_some h with ⟨g6, h⟩ | ⟨g6, h⟩
    · refine ls_cT rfl g6 ?_
      refine ls_rs tbOk ?_
      refine evs (ev_ac rfl nofun rfl (evn ?_))
      refine ls_keep [(4, .bool false)] ⟨kr, trivial⟩ rfl ?_
      refine ls_ret ?_
      have hr := Option.some.inj h
      rw [← hr]
      exact ⟨.inl rfl, rfl⟩
    · refine ls_cF rfl g6 ?_
      refine ls_skip ?_
      refine hK3 _ (ls_keep [] trivial rfl ?_)
      refine ls_rs tbOk ?_
      refine evs (ev_ac rfl nofun rfl (evn ?_))
      refine ls_keep [(4, .bool true)] ⟨kr, trivial⟩ rfl ?_
      refine ls_ret ?_
      have hr := Option.some.inj h
      rw [← hr]
      exact ⟨.inl rfl, rfl⟩
def laws_eqAtomS_B1 (a0 : List Y194) (a1 : List Y194) (rec : Int → Option (Sum (Unit) (Bool))) (y1 : Int) : Option (Sum (Unit) (Bool)) := cond (decide (y1 < (List.length a0 : Int))) (obind (geti a0 y1) fun e7 => obind (geti a1 y1) fun e9 => obind (laws_eqAtom e7 e9) fun v11 => cond (!v11) (some (.inr false)) (rec (IntKind.i64.wrap (y1 + 1)))) (some (.inl ()))
def laws_eqAtomS (a0 : List Y194) (a1 : List Y194) : Option (Bool) := cond ((List.length a0 : Int) != (List.length a1 : Int)) (some false) (obind (loopF (laws_eqAtomS_B1 a0 a1) fz 0) fun o1 => (match o1 with
  | .inl _ => (some true)
  | .inr r => some r))
theorem laws_eqAtomS_s {a0 : List Y194} {a1 : List Y194} {r : Bool} (h : laws_eqAtomS a0 a1 = some r) : SoundAt Try.prog 132 [dL c195_d a0, dL c195_d a1] (.bool r) := by
  unfold laws_eqAtomS at h
  refine sound_lit tbOk lit132 (nb rfl) rfl ?_
  unfold c132
  refine ls_keep [(0, dL c195_d a0), (1, dL c195_d a1)] ⟨kr, kr, trivial⟩ rfl ?_
  refine ls_rs tbOk ?_
  refine evs (ev_ac rfl nofun rfl (evn ?_))
  refine ls_keep [(0, dL c195_d a0), (1, dL c195_d a1)] ⟨kr, kr, trivial⟩ rfl ?_
  refine ls_seq_k fun K1 hK1 => ?_
  refine ls_rs tbOk ?_
  refine evs (ev_mv (c := dL c195_d a0) rfl rfl rfl (evs (ev_len (c1 := dL c195_d a0) rfl rfl rfl (evs (ev_mv (c := dL c195_d a1) rfl rfl rfl (evs (ev_len (c1 := dL c195_d a1) rfl rfl rfl (evs (ev_bin (c1 := nI (List.length a0 : Int)) (c2 := nI (List.length a1 : Int)) rfl rfl rfl (evn ?_))))))))))
  refine ls_keep [(0, dL c195_d a0), (1, dL c195_d a1), (10, .bool ((List.length a0 : Int) != (List.length a1 : Int)))] ⟨kr, kr, kr, trivial⟩ rfl ?_
  rcases cond_some h with ⟨g2, h⟩ | ⟨g2, h⟩
  · refine ls_cT rfl g2 ?_
    refine ls_rs tbOk ?_
    refine evs (ev_ac rfl nofun rfl (evn ?_))
    refine ls_keep [(4, .bool false)] ⟨kr, trivial⟩ rfl ?_
    refine ls_ret ?_
    have hr := Option.some.inj h
    rw [← hr]
    exact ⟨.inl rfl, rfl⟩
  · refine ls_cF rfl g2 ?_
    refine ls_skip ?_
    refine hK1 _ (ls_keep [(0, dL c195_d a0), (1, dL c195_d a1)] ⟨kr, kr, trivial⟩ rfl ?_)
    refine ls_seq_k fun K3 hK3 => ?_
    refine ls_rs tbOk ?_
    refine evs (ev_ac rfl nofun rfl (evn ?_))
    refine ls_keep [(0, dL c195_d a0), (1, dL c195_d a1), (5, nI 0)] ⟨kr, kr, kr, trivial⟩ rfl ?_
    obtain ⟨o1, hl, hr1⟩ := ob_some h
    clear h
    have kXlaws_eqAtomS_B1 : ∀ (_ : Unit), (some true) = some r → ∀ σ' : PS, okK σ' [] → K3 σ' := by
      intro _ h σ' hk
      refine hK3 _ (ls_keep [] hk rfl ?_)
      refine ls_rs tbOk ?_
      refine evs (ev_ac rfl nofun rfl (evn ?_))
      refine ls_keep [(4, .bool true)] ⟨kr, trivial⟩ rfl ?_
      refine ls_ret ?_
      have hr := Option.some.inj h
      rw [← hr]
      exact ⟨.inl rfl, rfl⟩
    refine ls_rec (fun (y1 : Int) => [(0, dL c195_d a0), (1, dL c195_d a1), (5, nI y1)]) (laws_eqAtomS_B1 a0 a1) fz 0 o1 hl ⟨kr, kr, kr, trivial⟩ (fun _ => rfl) ?_
    rintro m y1 N h hN
    unfold laws_eqAtomS_B1 at h
    refine ls_seq_k fun K4 hK4 => ?_
    refine ls_rs tbOk ?_
    refine evs (ev_mv (c := nI y1) rfl rfl rfl (evs (ev_mv (c := dL c195_d a0) rfl rfl rfl (evs (ev_len (c1 := dL c195_d a0) rfl rfl rfl (evs (ev_bin (c1 := nI y1) (c2 := nI (List.length a0 : Int)) rfl rfl rfl (evn ?_))))))))
    refine ls_keep [(0, dL c195_d a0), (1, dL c195_d a1), (5, nI y1), (14, .bool (decide (y1 < (List.length a0 : Int))))] ⟨kr, kr, kr, kr, trivial⟩ rfl ?_
    rcases cond_some h with ⟨g5, h⟩ | ⟨g5, h⟩
    · refine ls_cT rfl g5 ?_
      refine ls_skip ?_
      refine hK4 _ (ls_keep [(0, dL c195_d a0), (1, dL c195_d a1), (5, nI y1)] ⟨kr, kr, kr, trivial⟩ rfl ?_)
      refine ls_seq_k fun K6 hK6 => ?_
      refine ls_blk ?_
      refine ls_rd tbOk mixed (by kernel_rfl) ?_
      refine evd rfl rfl (ev_mv (c := dL c195_d a0) rfl rfl rfl (evd rfl rfl (ev_mv (c := nI y1) rfl rfl rfl (?_))))
      obtain ⟨e7, g8, h⟩ := ob_some h
      refine evd rfl rfl (ev_ia rfl rfl rfl ⟨(geti_some g8).1, (geti_some g8).2.1⟩ (evd rfl rfl (ev_ldE (i := y1) (n := 2) (off := 0) (v := .agg (c195_d e7)) rfl rfl zc195_d g8 rfl (nb rfl) rfl (evd rfl rfl (ev_mv (c := dL c195_d a1) rfl rfl rfl (evd rfl rfl (ev_mv (c := nI y1) rfl rfl rfl (?_))))))))
      obtain ⟨e9, g10, h⟩ := ob_some h
      refine evd rfl rfl (ev_ia rfl rfl rfl ⟨(geti_some g10).1, (geti_some g10).2.1⟩ (evd rfl rfl (ev_ldE (i := y1) (n := 2) (off := 0) (v := .agg (c195_d e9)) rfl rfl zc195_d g10 rfl (nb rfl) rfl (?_))))
      obtain ⟨v11, g12, h⟩ := ob_some h
      refine evd rfl rfl (ev_call (era rfl (erg (erc rfl (erc (erD eci64 _) rfl))) (era rfl (erg (erc rfl (erc (erD eci64 _) rfl))) eran)) (laws_eqAtom_s g12) (evd rfl rfl (ev_un (c1 := .bool v11) rfl trivial (evdn ?_))))
      refine ls_keep [(0, dL c195_d a0), (1, dL c195_d a1), (5, nI y1), (26, .bool (!v11))] ⟨kr, kr, kr, kr, trivial⟩ rfl ?_
      rcases cond_some h with ⟨g13, h⟩ | ⟨g13, h⟩
      · refine ls_cT rfl g13 ?_
        refine ls_rs tbOk ?_
        refine evs (ev_ac rfl nofun rfl (evn ?_))
        refine ls_keep [(4, .bool false)] ⟨kr, trivial⟩ rfl ?_
        refine ls_ret ?_
        have q0 := (Option.some.inj h).symm
        have r0 := hr1
        rw [q0] at r0
        have hr := Option.some.inj r0
        rw [← hr]
        exact ⟨.inl rfl, rfl⟩
      · refine ls_cF rfl g13 ?_
        refine ls_skip ?_
        refine hK6 _ (ls_keep [(0, dL c195_d a0), (1, dL c195_d a1), (5, nI y1)] ⟨kr, kr, kr, trivial⟩ rfl ?_)
        refine ls_rgn tbOk ?_
        refine evs (ev_mv (c := nI y1) rfl rfl rfl (evs (ev_bin (c1 := nI y1) (c2 := nI 1) rfl rfl rfl (evs (ev_as (c := nI (IntKind.i64.wrap (y1 + 1))) rfl rfl rfl (evn ?_))))))
        exact hN _ (IntKind.i64.wrap (y1 + 1)) h ⟨kr, kr, kr, trivial⟩
    · refine ls_cF rfl g5 ?_
      refine ls_exit ?_
      have q0 := (Option.some.inj h).symm
      have r0 := hr1
      rw [q0] at r0
      exact kXlaws_eqAtomS_B1 () r0 _ trivial
def laws_eqQuery (a0 : Y91) (a1 : Y91) : Option (Bool) := cond (a0.1 != a1.1) (some false) (obind (laws_eqAtomS a0.2.1 a1.2.1) fun v4 => cond (!v4) (some false) (obind (laws_eqIntS a0.2.2 a1.2.2) fun v8 => cond (!v8) (some false) (some true)))
theorem laws_eqQuery_s {a0 : Y91} {a1 : Y91} {r : Bool} (h : laws_eqQuery a0 a1 = some r) : SoundAt Try.prog 49 [.agg (c92_ddd a0), .agg (c92_ddd a1)] (.bool r) := by
  unfold laws_eqQuery at h
  refine sound_lit tbOk lit49 (nb rfl) rfl ?_
  unfold c49
  refine ls_keep [(0, .agg (c92_ddd a0)), (1, .agg (c92_ddd a1))] ⟨kr, kr, trivial⟩ rfl ?_
  refine ls_rs tbOk ?_
  refine evs (ev_bx (c1 := .agg (c92_ddd a0)) rfl rfl rfl (evs (ev_bx (c1 := .agg (c92_ddd a1)) rfl rfl rfl (evs (ev_ac rfl nofun rfl (evn ?_))))))
  refine ls_keep [(2, .box [nI a0.1, dL c195_d a0.2.1, dL ci64 a0.2.2]), (3, .box [nI a1.1, dL c195_d a1.2.1, dL ci64 a1.2.2])] ⟨kr, kr, trivial⟩ rfl ?_
  refine ls_seq_k fun K1 hK1 => ?_
  refine ls_rs tbOk ?_
  refine evs (ev_fa (c1 := .cref 2 0) (v := .cref 2 0) rfl rfl rfl ⟨_, rfl⟩ rfl (evs (ev_ldB (off := 0) (v := nI a0.1) rfl rfl rfl rfl (nb rfl) rfl (evs (ev_fa (c1 := .cref 3 0) (v := .cref 3 0) rfl rfl rfl ⟨_, rfl⟩ rfl (evs (ev_ldB (off := 0) (v := nI a1.1) rfl rfl rfl rfl (nb rfl) rfl (evs (ev_bin (c1 := nI a0.1) (c2 := nI a1.1) rfl rfl rfl (evn ?_))))))))))
  refine ls_keep [(2, .box [nI a0.1, dL c195_d a0.2.1, dL ci64 a0.2.2]), (3, .box [nI a1.1, dL c195_d a1.2.1, dL ci64 a1.2.2]), (9, .bool (a0.1 != a1.1))] ⟨kr, kr, kr, trivial⟩ rfl ?_
  rcases cond_some h with ⟨g2, h⟩ | ⟨g2, h⟩
  · refine ls_cT rfl g2 ?_
    refine ls_rs tbOk ?_
    refine evs (ev_ac rfl nofun rfl (evn ?_))
    refine ls_keep [(4, .bool false)] ⟨kr, trivial⟩ rfl ?_
    refine ls_ret ?_
    have hr := Option.some.inj h
    rw [← hr]
    exact ⟨.inl rfl, rfl⟩
  · refine ls_cF rfl g2 ?_
    refine ls_skip ?_
    refine hK1 _ (ls_keep [(2, .box [nI a0.1, dL c195_d a0.2.1, dL ci64 a0.2.2]), (3, .box [nI a1.1, dL c195_d a1.2.1, dL ci64 a1.2.2])] ⟨kr, kr, trivial⟩ rfl ?_)
    refine ls_seq_k fun K3 hK3 => ?_
    refine ls_rs tbOk ?_
    refine evs (ev_fa (c1 := .cref 2 0) (v := .cref 2 1) rfl rfl rfl ⟨_, rfl⟩ rfl (evs (ev_ldB (off := 1) (v := dL c195_d a0.2.1) rfl rfl rfl rfl (nb rfl) rfl (evs (ev_fa (c1 := .cref 3 0) (v := .cref 3 1) rfl rfl rfl ⟨_, rfl⟩ rfl (evs (ev_ldB (off := 1) (v := dL c195_d a1.2.1) rfl rfl rfl rfl (nb rfl) rfl (?_))))))))
    obtain ⟨v4, g5, h⟩ := ob_some h
    refine evs (ev_call (era rfl (erD ec195_d _) (era rfl (erD ec195_d _) eran)) (laws_eqAtomS_s g5) (evs (ev_un (c1 := .bool v4) rfl trivial (evn ?_))))
    refine ls_keep [(2, .box [nI a0.1, dL c195_d a0.2.1, dL ci64 a0.2.2]), (3, .box [nI a1.1, dL c195_d a1.2.1, dL ci64 a1.2.2]), (15, .bool (!v4))] ⟨kr, kr, kr, trivial⟩ rfl ?_
    rcases cond_some h with ⟨g6, h⟩ | ⟨g6, h⟩
    · refine ls_cT rfl g6 ?_
      refine ls_rs tbOk ?_
      refine evs (ev_ac rfl nofun rfl (evn ?_))
      refine ls_keep [(4, .bool false)] ⟨kr, trivial⟩ rfl ?_
      refine ls_ret ?_
      have hr := Option.some.inj h
      rw [← hr]
      exact ⟨.inl rfl, rfl⟩
    · refine ls_cF rfl g6 ?_
      refine ls_skip ?_
      refine hK3 _ (ls_keep [(2, .box [nI a0.1, dL c195_d a0.2.1, dL ci64 a0.2.2]), (3, .box [nI a1.1, dL c195_d a1.2.1, dL ci64 a1.2.2])] ⟨kr, kr, trivial⟩ rfl ?_)
      refine ls_seq_k fun K7 hK7 => ?_
      refine ls_rs tbOk ?_
      refine evs (ev_fa (c1 := .cref 2 0) (v := .cref 2 2) rfl rfl rfl ⟨_, rfl⟩ rfl (evs (ev_ldB (off := 2) (v := dL ci64 a0.2.2) rfl rfl rfl rfl (nb rfl) rfl (evs (ev_fa (c1 := .cref 3 0) (v := .cref 3 2) rfl rfl rfl ⟨_, rfl⟩ rfl (evs (ev_ldB (off := 2) (v := dL ci64 a1.2.2) rfl rfl rfl rfl (nb rfl) rfl (?_))))))))
      obtain ⟨v8, g9, h⟩ := ob_some h
      refine evs (ev_call (era rfl (erD eci64 _) (era rfl (erD eci64 _) eran)) (laws_eqIntS_s g9) (evs (ev_un (c1 := .bool v8) rfl trivial (evn ?_))))
      refine ls_keep [(21, .bool (!v8))] ⟨kr, trivial⟩ rfl ?_
      rcases cond_some h with ⟨g10, h⟩ | ⟨g10, h⟩
      · refine ls_cT rfl g10 ?_
        refine ls_rs tbOk ?_
        refine evs (ev_ac rfl nofun rfl (evn ?_))
        refine ls_keep [(4, .bool false)] ⟨kr, trivial⟩ rfl ?_
        refine ls_ret ?_
        have hr := Option.some.inj h
        rw [← hr]
        exact ⟨.inl rfl, rfl⟩
      · refine ls_cF rfl g10 ?_
        refine ls_skip ?_
        refine hK7 _ (ls_keep [] trivial rfl ?_)
        refine ls_rs tbOk ?_
        refine evs (ev_ac rfl nofun rfl (evn ?_))
        refine ls_keep [(4, .bool true)] ⟨kr, trivial⟩ rfl ?_
        refine ls_ret ?_
        have hr := Option.some.inj h
        rw [← hr]
        exact ⟨.inl rfl, rfl⟩
def laws_eqCountedRelation (a0 : Y158) (a1 : Y158) : Option (Bool) := cond (a0.1 != a1.1) (some false) (obind (laws_eqIntSS a0.2.1 a1.2.1) fun v4 => cond (!v4) (some false) (obind (laws_eqIntS a0.2.2 a1.2.2) fun v8 => cond (!v8) (some false) (some true)))
theorem laws_eqCountedRelation_s {a0 : Y158} {a1 : Y158} {r : Bool} (h : laws_eqCountedRelation a0 a1 = some r) : SoundAt Try.prog 197 [.agg (c159_ddd a0), .agg (c159_ddd a1)] (.bool r) := by
  unfold laws_eqCountedRelation at h
  refine sound_lit tbOk lit197 (nb rfl) rfl ?_
  unfold c197
  refine ls_keep [(0, .agg (c159_ddd a0)), (1, .agg (c159_ddd a1))] ⟨kr, kr, trivial⟩ rfl ?_
  refine ls_rs tbOk ?_
  refine evs (ev_bx (c1 := .agg (c159_ddd a0)) rfl rfl rfl (evs (ev_bx (c1 := .agg (c159_ddd a1)) rfl rfl rfl (evs (ev_ac rfl nofun rfl (evn ?_))))))
  refine ls_keep [(2, .box [nI a0.1, dL c25_d a0.2.1, dL ci64 a0.2.2]), (3, .box [nI a1.1, dL c25_d a1.2.1, dL ci64 a1.2.2])] ⟨kr, kr, trivial⟩ rfl ?_
  refine ls_seq_k fun K1 hK1 => ?_
  refine ls_rs tbOk ?_
  refine evs (ev_fa (c1 := .cref 2 0) (v := .cref 2 0) rfl rfl rfl ⟨_, rfl⟩ rfl (evs (ev_ldB (off := 0) (v := nI a0.1) rfl rfl rfl rfl (nb rfl) rfl (evs (ev_fa (c1 := .cref 3 0) (v := .cref 3 0) rfl rfl rfl ⟨_, rfl⟩ rfl (evs (ev_ldB (off := 0) (v := nI a1.1) rfl rfl rfl rfl (nb rfl) rfl (evs (ev_bin (c1 := nI a0.1) (c2 := nI a1.1) rfl rfl rfl (evn ?_))))))))))
  refine ls_keep [(2, .box [nI a0.1, dL c25_d a0.2.1, dL ci64 a0.2.2]), (3, .box [nI a1.1, dL c25_d a1.2.1, dL ci64 a1.2.2]), (9, .bool (a0.1 != a1.1))] ⟨kr, kr, kr, trivial⟩ rfl ?_
  rcases cond_some h with ⟨g2, h⟩ | ⟨g2, h⟩
  · refine ls_cT rfl g2 ?_
    refine ls_rs tbOk ?_
    refine evs (ev_ac rfl nofun rfl (evn ?_))
    refine ls_keep [(4, .bool false)] ⟨kr, trivial⟩ rfl ?_
    refine ls_ret ?_
    have hr := Option.some.inj h
    rw [← hr]
    exact ⟨.inl rfl, rfl⟩
  · refine ls_cF rfl g2 ?_
    refine ls_skip ?_
    refine hK1 _ (ls_keep [(2, .box [nI a0.1, dL c25_d a0.2.1, dL ci64 a0.2.2]), (3, .box [nI a1.1, dL c25_d a1.2.1, dL ci64 a1.2.2])] ⟨kr, kr, trivial⟩ rfl ?_)
    refine ls_seq_k fun K3 hK3 => ?_
    refine ls_rs tbOk ?_
    refine evs (ev_fa (c1 := .cref 2 0) (v := .cref 2 1) rfl rfl rfl ⟨_, rfl⟩ rfl (evs (ev_ldB (off := 1) (v := dL c25_d a0.2.1) rfl rfl rfl rfl (nb rfl) rfl (evs (ev_fa (c1 := .cref 3 0) (v := .cref 3 1) rfl rfl rfl ⟨_, rfl⟩ rfl (evs (ev_ldB (off := 1) (v := dL c25_d a1.2.1) rfl rfl rfl rfl (nb rfl) rfl (?_))))))))
    obtain ⟨v4, g5, h⟩ := ob_some h
    refine evs (ev_call (era rfl (erD ec25_d _) (era rfl (erD ec25_d _) eran)) (laws_eqIntSS_s g5) (evs (ev_un (c1 := .bool v4) rfl trivial (evn ?_))))
    refine ls_keep [(2, .box [nI a0.1, dL c25_d a0.2.1, dL ci64 a0.2.2]), (3, .box [nI a1.1, dL c25_d a1.2.1, dL ci64 a1.2.2]), (15, .bool (!v4))] ⟨kr, kr, kr, trivial⟩ rfl ?_
    rcases cond_some h with ⟨g6, h⟩ | ⟨g6, h⟩
    · refine ls_cT rfl g6 ?_
      refine ls_rs tbOk ?_
      refine evs (ev_ac rfl nofun rfl (evn ?_))
      refine ls_keep [(4, .bool false)] ⟨kr, trivial⟩ rfl ?_
      refine ls_ret ?_
      have hr := Option.some.inj h
      rw [← hr]
      exact ⟨.inl rfl, rfl⟩
    · refine ls_cF rfl g6 ?_
      refine ls_skip ?_
      refine hK3 _ (ls_keep [(2, .box [nI a0.1, dL c25_d a0.2.1, dL ci64 a0.2.2]), (3, .box [nI a1.1, dL c25_d a1.2.1, dL ci64 a1.2.2])] ⟨kr, kr, trivial⟩ rfl ?_)
      refine ls_seq_k fun K7 hK7 => ?_
      refine ls_rs tbOk ?_
      refine evs (ev_fa (c1 := .cref 2 0) (v := .cref 2 2) rfl rfl rfl ⟨_, rfl⟩ rfl (evs (ev_ldB (off := 2) (v := dL ci64 a0.2.2) rfl rfl rfl rfl (nb rfl) rfl (evs (ev_fa (c1 := .cref 3 0) (v := .cref 3 2) rfl rfl rfl ⟨_, rfl⟩ rfl (evs (ev_ldB (off := 2) (v := dL ci64 a1.2.2) rfl rfl rfl rfl (nb rfl) rfl (?_))))))))
      obtain ⟨v8, g9, h⟩ := ob_some h
      refine evs (ev_call (era rfl (erD eci64 _) (era rfl (erD eci64 _) eran)) (laws_eqIntS_s g9) (evs (ev_un (c1 := .bool v8) rfl trivial (evn ?_))))
      refine ls_keep [(21, .bool (!v8))] ⟨kr, trivial⟩ rfl ?_
      rcases cond_some h with ⟨g10, h⟩ | ⟨g10, h⟩
      · refine ls_cT rfl g10 ?_
        refine ls_rs tbOk ?_
        refine evs (ev_ac rfl nofun rfl (evn ?_))
        refine ls_keep [(4, .bool false)] ⟨kr, trivial⟩ rfl ?_
        refine ls_ret ?_
        have hr := Option.some.inj h
        rw [← hr]
        exact ⟨.inl rfl, rfl⟩
      · refine ls_cF rfl g10 ?_
        refine ls_skip ?_
        refine hK7 _ (ls_keep [] trivial rfl ?_)
        refine ls_rs tbOk ?_
        refine evs (ev_ac rfl nofun rfl (evn ?_))
        refine ls_keep [(4, .bool true)] ⟨kr, trivial⟩ rfl ?_
        refine ls_ret ?_
        have hr := Option.some.inj h
        rw [← hr]
        exact ⟨.inl rfl, rfl⟩
def laws_eqView (a0 : Y160) (a1 : Y160) : Option (Bool) := obind (laws_eqQuery a0.1 a1.1) fun v2 => cond (!v2) (some false) (obind (laws_eqCountedRelation a0.2 a1.2) fun v6 => cond (!v6) (some false) (some true))
theorem laws_eqView_s {a0 : Y160} {a1 : Y160} {r : Bool} (h : laws_eqView a0 a1 = some r) : SoundAt Try.prog 196 [.agg (c161_dddddd a0), .agg (c161_dddddd a1)] (.bool r) := by
  unfold laws_eqView at h
  refine sound_lit tbOk lit196 (nb rfl) rfl ?_
  unfold c196
  refine ls_keep [(0, .agg (c161_dddddd a0)), (1, .agg (c161_dddddd a1))] ⟨kr, kr, trivial⟩ rfl ?_
  refine ls_rs tbOk ?_
  refine evs (ev_bx (c1 := .agg (c161_dddddd a0)) rfl rfl rfl (evs (ev_bx (c1 := .agg (c161_dddddd a1)) rfl rfl rfl (evs (ev_ac rfl nofun rfl (evn ?_))))))
  refine ls_keep [(2, .box [nI a0.1.1, dL c195_d a0.1.2.1, dL ci64 a0.1.2.2, nI a0.2.1, dL c25_d a0.2.2.1, dL ci64 a0.2.2.2]), (3, .box [nI a1.1.1, dL c195_d a1.1.2.1, dL ci64 a1.1.2.2, nI a1.2.1, dL c25_d a1.2.2.1, dL ci64 a1.2.2.2])] ⟨kr, kr, trivial⟩ rfl ?_
  refine ls_seq_k fun K1 hK1 => ?_
  refine ls_rs tbOk ?_
  refine evs (ev_fa (c1 := .cref 2 0) (v := .cref 2 0) rfl rfl rfl ⟨_, rfl⟩ rfl (evs (ev_ldB (off := 0) (v := .agg (c92_ddd a0.1)) rfl rfl rfl rfl (nb rfl) rfl (evs (ev_fa (c1 := .cref 3 0) (v := .cref 3 0) rfl rfl rfl ⟨_, rfl⟩ rfl (evs (ev_ldB (off := 0) (v := .agg (c92_ddd a1.1)) rfl rfl rfl rfl (nb rfl) rfl (?_))))))))
  obtain ⟨v2, g3, h⟩ := ob_some h
  refine evs (ev_call (era rfl (erg (erc rfl (erc (erD ec195_d _) (erc (erD eci64 _) rfl)))) (era rfl (erg (erc rfl (erc (erD ec195_d _) (erc (erD eci64 _) rfl)))) eran)) (laws_eqQuery_s g3) (evs (ev_un (c1 := .bool v2) rfl trivial (evn ?_))))
  refine ls_keep [(2, .box [nI a0.1.1, dL c195_d a0.1.2.1, dL ci64 a0.1.2.2, nI a0.2.1, dL c25_d a0.2.2.1, dL ci64 a0.2.2.2]), (3, .box [nI a1.1.1, dL c195_d a1.1.2.1, dL ci64 a1.1.2.2, nI a1.2.1, dL c25_d a1.2.2.1, dL ci64 a1.2.2.2]), (10, .bool (!v2))] ⟨kr, kr, kr, trivial⟩ rfl ?_
  rcases cond_some h with ⟨g4, h⟩ | ⟨g4, h⟩
  · refine ls_cT rfl g4 ?_
    refine ls_rs tbOk ?_
    refine evs (ev_ac rfl nofun rfl (evn ?_))
    refine ls_keep [(4, .bool false)] ⟨kr, trivial⟩ rfl ?_
    refine ls_ret ?_
    have hr := Option.some.inj h
    rw [← hr]
    exact ⟨.inl rfl, rfl⟩
  · refine ls_cF rfl g4 ?_
    refine ls_skip ?_
    refine hK1 _ (ls_keep [(2, .box [nI a0.1.1, dL c195_d a0.1.2.1, dL ci64 a0.1.2.2, nI a0.2.1, dL c25_d a0.2.2.1, dL ci64 a0.2.2.2]), (3, .box [nI a1.1.1, dL c195_d a1.1.2.1, dL ci64 a1.1.2.2, nI a1.2.1, dL c25_d a1.2.2.1, dL ci64 a1.2.2.2])] ⟨kr, kr, trivial⟩ rfl ?_)
    refine ls_seq_k fun K5 hK5 => ?_
    refine ls_rs tbOk ?_
    refine evs (ev_fa (c1 := .cref 2 0) (v := .cref 2 3) rfl rfl rfl ⟨_, rfl⟩ rfl (evs (ev_ldB (off := 3) (v := .agg (c159_ddd a0.2)) rfl rfl rfl rfl (nb rfl) rfl (evs (ev_fa (c1 := .cref 3 0) (v := .cref 3 3) rfl rfl rfl ⟨_, rfl⟩ rfl (evs (ev_ldB (off := 3) (v := .agg (c159_ddd a1.2)) rfl rfl rfl rfl (nb rfl) rfl (?_))))))))
    obtain ⟨v6, g7, h⟩ := ob_some h
    refine evs (ev_call (era rfl (erg (erc rfl (erc (erD ec25_d _) (erc (erD eci64 _) rfl)))) (era rfl (erg (erc rfl (erc (erD ec25_d _) (erc (erD eci64 _) rfl)))) eran)) (laws_eqCountedRelation_s g7) (evs (ev_un (c1 := .bool v6) rfl trivial (evn ?_))))
    refine ls_keep [(16, .bool (!v6))] ⟨kr, trivial⟩ rfl ?_
    rcases cond_some h with ⟨g8, h⟩ | ⟨g8, h⟩
    · refine ls_cT rfl g8 ?_
      refine ls_rs tbOk ?_
      refine evs (ev_ac rfl nofun rfl (evn ?_))
      refine ls_keep [(4, .bool false)] ⟨kr, trivial⟩ rfl ?_
      refine ls_ret ?_
      have hr := Option.some.inj h
      rw [← hr]
      exact ⟨.inl rfl, rfl⟩
    · refine ls_cF rfl g8 ?_
      refine ls_skip ?_
      refine hK5 _ (ls_keep [] trivial rfl ?_)
      refine ls_rs tbOk ?_
      refine evs (ev_ac rfl nofun rfl (evn ?_))
      refine ls_keep [(4, .bool true)] ⟨kr, trivial⟩ rfl ?_
      refine ls_ret ?_
      have hr := Option.some.inj h
      rw [← hr]
      exact ⟨.inl rfl, rfl⟩
def laws_eqViewS_B1 (a0 : List Y160) (a1 : List Y160) (rec : Int → Option (Sum (Unit) (Bool))) (y1 : Int) : Option (Sum (Unit) (Bool)) := cond (decide (y1 < (List.length a0 : Int))) (obind (geti a0 y1) fun e7 => obind (geti a1 y1) fun e9 => obind (laws_eqView e7 e9) fun v11 => cond (!v11) (some (.inr false)) (rec (IntKind.i64.wrap (y1 + 1)))) (some (.inl ()))
def laws_eqViewS (a0 : List Y160) (a1 : List Y160) : Option (Bool) := cond ((List.length a0 : Int) != (List.length a1 : Int)) (some false) (obind (loopF (laws_eqViewS_B1 a0 a1) fz 0) fun o1 => (match o1 with
  | .inl _ => (some true)
  | .inr r => some r))
theorem laws_eqViewS_s {a0 : List Y160} {a1 : List Y160} {r : Bool} (h : laws_eqViewS a0 a1 = some r) : SoundAt Try.prog 118 [dL c161_dddddd a0, dL c161_dddddd a1] (.bool r) := by
  unfold laws_eqViewS at h
  refine sound_lit tbOk lit118 (nb rfl) rfl ?_
  unfold c118
  refine ls_keep [(0, dL c161_dddddd a0), (1, dL c161_dddddd a1)] ⟨kr, kr, trivial⟩ rfl ?_
  refine ls_rs tbOk ?_
  refine evs (ev_ac rfl nofun rfl (evn ?_))
  refine ls_keep [(0, dL c161_dddddd a0), (1, dL c161_dddddd a1)] ⟨kr, kr, trivial⟩ rfl ?_
  refine ls_seq_k fun K1 hK1 => ?_
  refine ls_rs tbOk ?_
  refine evs (ev_mv (c := dL c161_dddddd a0) rfl rfl rfl (evs (ev_len (c1 := dL c161_dddddd a0) rfl rfl rfl (evs (ev_mv (c := dL c161_dddddd a1) rfl rfl rfl (evs (ev_len (c1 := dL c161_dddddd a1) rfl rfl rfl (evs (ev_bin (c1 := nI (List.length a0 : Int)) (c2 := nI (List.length a1 : Int)) rfl rfl rfl (evn ?_))))))))))
  refine ls_keep [(0, dL c161_dddddd a0), (1, dL c161_dddddd a1), (10, .bool ((List.length a0 : Int) != (List.length a1 : Int)))] ⟨kr, kr, kr, trivial⟩ rfl ?_
  rcases cond_some h with ⟨g2, h⟩ | ⟨g2, h⟩
  · refine ls_cT rfl g2 ?_
    refine ls_rs tbOk ?_
    refine evs (ev_ac rfl nofun rfl (evn ?_))
    refine ls_keep [(4, .bool false)] ⟨kr, trivial⟩ rfl ?_
    refine ls_ret ?_
    have hr := Option.some.inj h
    rw [← hr]
    exact ⟨.inl rfl, rfl⟩
  · refine ls_cF rfl g2 ?_
    refine ls_skip ?_
    refine hK1 _ (ls_keep [(0, dL c161_dddddd a0), (1, dL c161_dddddd a1)] ⟨kr, kr, trivial⟩ rfl ?_)
    refine ls_seq_k fun K3 hK3 => ?_
    refine ls_rs tbOk ?_
    refine evs (ev_ac rfl nofun rfl (evn ?_))
    refine ls_keep [(0, dL c161_dddddd a0), (1, dL c161_dddddd a1), (5, nI 0)] ⟨kr, kr, kr, trivial⟩ rfl ?_
    obtain ⟨o1, hl, hr1⟩ := ob_some h
    clear h
    have kXlaws_eqViewS_B1 : ∀ (_ : Unit), (some true) = some r → ∀ σ' : PS, okK σ' [] → K3 σ' := by
      intro _ h σ' hk
      refine hK3 _ (ls_keep [] hk rfl ?_)
      refine ls_rs tbOk ?_
      refine evs (ev_ac rfl nofun rfl (evn ?_))
      refine ls_keep [(4, .bool true)] ⟨kr, trivial⟩ rfl ?_
      refine ls_ret ?_
      have hr := Option.some.inj h
      rw [← hr]
      exact ⟨.inl rfl, rfl⟩
    refine ls_rec (fun (y1 : Int) => [(0, dL c161_dddddd a0), (1, dL c161_dddddd a1), (5, nI y1)]) (laws_eqViewS_B1 a0 a1) fz 0 o1 hl ⟨kr, kr, kr, trivial⟩ (fun _ => rfl) ?_
    rintro m y1 N h hN
    unfold laws_eqViewS_B1 at h
    refine ls_seq_k fun K4 hK4 => ?_
    refine ls_rs tbOk ?_
    refine evs (ev_mv (c := nI y1) rfl rfl rfl (evs (ev_mv (c := dL c161_dddddd a0) rfl rfl rfl (evs (ev_len (c1 := dL c161_dddddd a0) rfl rfl rfl (evs (ev_bin (c1 := nI y1) (c2 := nI (List.length a0 : Int)) rfl rfl rfl (evn ?_))))))))
    refine ls_keep [(0, dL c161_dddddd a0), (1, dL c161_dddddd a1), (5, nI y1), (14, .bool (decide (y1 < (List.length a0 : Int))))] ⟨kr, kr, kr, kr, trivial⟩ rfl ?_
    rcases cond_some h with ⟨g5, h⟩ | ⟨g5, h⟩
    · refine ls_cT rfl g5 ?_
      refine ls_skip ?_
      refine hK4 _ (ls_keep [(0, dL c161_dddddd a0), (1, dL c161_dddddd a1), (5, nI y1)] ⟨kr, kr, kr, trivial⟩ rfl ?_)
      refine ls_seq_k fun K6 hK6 => ?_
      refine ls_blk ?_
      refine ls_rd tbOk mixed (by kernel_rfl) ?_
      refine evd rfl rfl (ev_mv (c := dL c161_dddddd a0) rfl rfl rfl (evd rfl rfl (ev_mv (c := nI y1) rfl rfl rfl (?_))))
      obtain ⟨e7, g8, h⟩ := ob_some h
      refine evd rfl rfl (ev_ia rfl rfl rfl ⟨(geti_some g8).1, (geti_some g8).2.1⟩ (evd rfl rfl (ev_ldE (i := y1) (n := 6) (off := 0) (v := .agg (c161_dddddd e7)) rfl rfl zc161_dddddd g8 rfl (nb rfl) rfl (evd rfl rfl (ev_mv (c := dL c161_dddddd a1) rfl rfl rfl (evd rfl rfl (ev_mv (c := nI y1) rfl rfl rfl (?_))))))))
      obtain ⟨e9, g10, h⟩ := ob_some h
      refine evd rfl rfl (ev_ia rfl rfl rfl ⟨(geti_some g10).1, (geti_some g10).2.1⟩ (evd rfl rfl (ev_ldE (i := y1) (n := 6) (off := 0) (v := .agg (c161_dddddd e9)) rfl rfl zc161_dddddd g10 rfl (nb rfl) rfl (?_))))
      obtain ⟨v11, g12, h⟩ := ob_some h
      refine evd rfl rfl (ev_call (era rfl (erg (erc rfl (erc (erD ec195_d _) (erc (erD eci64 _) (erc rfl (erc (erD ec25_d _) (erc (erD eci64 _) rfl))))))) (era rfl (erg (erc rfl (erc (erD ec195_d _) (erc (erD eci64 _) (erc rfl (erc (erD ec25_d _) (erc (erD eci64 _) rfl))))))) eran)) (laws_eqView_s g12) (evd rfl rfl (ev_un (c1 := .bool v11) rfl trivial (evdn ?_))))
      refine ls_keep [(0, dL c161_dddddd a0), (1, dL c161_dddddd a1), (5, nI y1), (26, .bool (!v11))] ⟨kr, kr, kr, kr, trivial⟩ rfl ?_
      rcases cond_some h with ⟨g13, h⟩ | ⟨g13, h⟩
      · refine ls_cT rfl g13 ?_
        refine ls_rs tbOk ?_
        refine evs (ev_ac rfl nofun rfl (evn ?_))
        refine ls_keep [(4, .bool false)] ⟨kr, trivial⟩ rfl ?_
        refine ls_ret ?_
        have q0 := (Option.some.inj h).symm
        have r0 := hr1
        rw [q0] at r0
        have hr := Option.some.inj r0
        rw [← hr]
        exact ⟨.inl rfl, rfl⟩
      · refine ls_cF rfl g13 ?_
        refine ls_skip ?_
        refine hK6 _ (ls_keep [(0, dL c161_dddddd a0), (1, dL c161_dddddd a1), (5, nI y1)] ⟨kr, kr, kr, trivial⟩ rfl ?_)
        refine ls_rgn tbOk ?_
        refine evs (ev_mv (c := nI y1) rfl rfl rfl (evs (ev_bin (c1 := nI y1) (c2 := nI 1) rfl rfl rfl (evs (ev_as (c := nI (IntKind.i64.wrap (y1 + 1))) rfl rfl rfl (evn ?_))))))
        exact hN _ (IntKind.i64.wrap (y1 + 1)) h ⟨kr, kr, kr, trivial⟩
    · refine ls_cF rfl g5 ?_
      refine ls_exit ?_
      have q0 := (Option.some.inj h).symm
      have r0 := hr1
      rw [q0] at r0
      exact kXlaws_eqViewS_B1 () r0 _ trivial
def laws_eqCountedRelationS_B1 (a0 : List Y158) (a1 : List Y158) (rec : Int → Option (Sum (Unit) (Bool))) (y1 : Int) : Option (Sum (Unit) (Bool)) := cond (decide (y1 < (List.length a0 : Int))) (obind (geti a0 y1) fun e7 => obind (geti a1 y1) fun e9 => obind (laws_eqCountedRelation e7 e9) fun v11 => cond (!v11) (some (.inr false)) (rec (IntKind.i64.wrap (y1 + 1)))) (some (.inl ()))
def laws_eqCountedRelationS (a0 : List Y158) (a1 : List Y158) : Option (Bool) := cond ((List.length a0 : Int) != (List.length a1 : Int)) (some false) (obind (loopF (laws_eqCountedRelationS_B1 a0 a1) fz 0) fun o1 => (match o1 with
  | .inl _ => (some true)
  | .inr r => some r))
theorem laws_eqCountedRelationS_s {a0 : List Y158} {a1 : List Y158} {r : Bool} (h : laws_eqCountedRelationS a0 a1 = some r) : SoundAt Try.prog 119 [dL c159_ddd a0, dL c159_ddd a1] (.bool r) := by
  unfold laws_eqCountedRelationS at h
  refine sound_lit tbOk lit119 (nb rfl) rfl ?_
  unfold c119
  refine ls_keep [(0, dL c159_ddd a0), (1, dL c159_ddd a1)] ⟨kr, kr, trivial⟩ rfl ?_
  refine ls_rs tbOk ?_
  refine evs (ev_ac rfl nofun rfl (evn ?_))
  refine ls_keep [(0, dL c159_ddd a0), (1, dL c159_ddd a1)] ⟨kr, kr, trivial⟩ rfl ?_
  refine ls_seq_k fun K1 hK1 => ?_
  refine ls_rs tbOk ?_
  refine evs (ev_mv (c := dL c159_ddd a0) rfl rfl rfl (evs (ev_len (c1 := dL c159_ddd a0) rfl rfl rfl (evs (ev_mv (c := dL c159_ddd a1) rfl rfl rfl (evs (ev_len (c1 := dL c159_ddd a1) rfl rfl rfl (evs (ev_bin (c1 := nI (List.length a0 : Int)) (c2 := nI (List.length a1 : Int)) rfl rfl rfl (evn ?_))))))))))
  refine ls_keep [(0, dL c159_ddd a0), (1, dL c159_ddd a1), (10, .bool ((List.length a0 : Int) != (List.length a1 : Int)))] ⟨kr, kr, kr, trivial⟩ rfl ?_
  rcases cond_some h with ⟨g2, h⟩ | ⟨g2, h⟩
  · refine ls_cT rfl g2 ?_
    refine ls_rs tbOk ?_
    refine evs (ev_ac rfl nofun rfl (evn ?_))
    refine ls_keep [(4, .bool false)] ⟨kr, trivial⟩ rfl ?_
    refine ls_ret ?_
    have hr := Option.some.inj h
    rw [← hr]
    exact ⟨.inl rfl, rfl⟩
  · refine ls_cF rfl g2 ?_
    refine ls_skip ?_
    refine hK1 _ (ls_keep [(0, dL c159_ddd a0), (1, dL c159_ddd a1)] ⟨kr, kr, trivial⟩ rfl ?_)
    refine ls_seq_k fun K3 hK3 => ?_
    refine ls_rs tbOk ?_
    refine evs (ev_ac rfl nofun rfl (evn ?_))
    refine ls_keep [(0, dL c159_ddd a0), (1, dL c159_ddd a1), (5, nI 0)] ⟨kr, kr, kr, trivial⟩ rfl ?_
    obtain ⟨o1, hl, hr1⟩ := ob_some h
    clear h
    have kXlaws_eqCountedRelationS_B1 : ∀ (_ : Unit), (some true) = some r → ∀ σ' : PS, okK σ' [] → K3 σ' := by
      intro _ h σ' hk
      refine hK3 _ (ls_keep [] hk rfl ?_)
      refine ls_rs tbOk ?_
      refine evs (ev_ac rfl nofun rfl (evn ?_))
      refine ls_keep [(4, .bool true)] ⟨kr, trivial⟩ rfl ?_
      refine ls_ret ?_
      have hr := Option.some.inj h
      rw [← hr]
      exact ⟨.inl rfl, rfl⟩
    refine ls_rec (fun (y1 : Int) => [(0, dL c159_ddd a0), (1, dL c159_ddd a1), (5, nI y1)]) (laws_eqCountedRelationS_B1 a0 a1) fz 0 o1 hl ⟨kr, kr, kr, trivial⟩ (fun _ => rfl) ?_
    rintro m y1 N h hN
    unfold laws_eqCountedRelationS_B1 at h
    refine ls_seq_k fun K4 hK4 => ?_
    refine ls_rs tbOk ?_
    refine evs (ev_mv (c := nI y1) rfl rfl rfl (evs (ev_mv (c := dL c159_ddd a0) rfl rfl rfl (evs (ev_len (c1 := dL c159_ddd a0) rfl rfl rfl (evs (ev_bin (c1 := nI y1) (c2 := nI (List.length a0 : Int)) rfl rfl rfl (evn ?_))))))))
    refine ls_keep [(0, dL c159_ddd a0), (1, dL c159_ddd a1), (5, nI y1), (14, .bool (decide (y1 < (List.length a0 : Int))))] ⟨kr, kr, kr, kr, trivial⟩ rfl ?_
    rcases cond_some h with ⟨g5, h⟩ | ⟨g5, h⟩
    · refine ls_cT rfl g5 ?_
      refine ls_skip ?_
      refine hK4 _ (ls_keep [(0, dL c159_ddd a0), (1, dL c159_ddd a1), (5, nI y1)] ⟨kr, kr, kr, trivial⟩ rfl ?_)
      refine ls_seq_k fun K6 hK6 => ?_
      refine ls_blk ?_
      refine ls_rd tbOk mixed (by kernel_rfl) ?_
      refine evd rfl rfl (ev_mv (c := dL c159_ddd a0) rfl rfl rfl (evd rfl rfl (ev_mv (c := nI y1) rfl rfl rfl (?_))))
      obtain ⟨e7, g8, h⟩ := ob_some h
      refine evd rfl rfl (ev_ia rfl rfl rfl ⟨(geti_some g8).1, (geti_some g8).2.1⟩ (evd rfl rfl (ev_ldE (i := y1) (n := 3) (off := 0) (v := .agg (c159_ddd e7)) rfl rfl zc159_ddd g8 rfl (nb rfl) rfl (evd rfl rfl (ev_mv (c := dL c159_ddd a1) rfl rfl rfl (evd rfl rfl (ev_mv (c := nI y1) rfl rfl rfl (?_))))))))
      obtain ⟨e9, g10, h⟩ := ob_some h
      refine evd rfl rfl (ev_ia rfl rfl rfl ⟨(geti_some g10).1, (geti_some g10).2.1⟩ (evd rfl rfl (ev_ldE (i := y1) (n := 3) (off := 0) (v := .agg (c159_ddd e9)) rfl rfl zc159_ddd g10 rfl (nb rfl) rfl (?_))))
      obtain ⟨v11, g12, h⟩ := ob_some h
      refine evd rfl rfl (ev_call (era rfl (erg (erc rfl (erc (erD ec25_d _) (erc (erD eci64 _) rfl)))) (era rfl (erg (erc rfl (erc (erD ec25_d _) (erc (erD eci64 _) rfl)))) eran)) (laws_eqCountedRelation_s g12) (evd rfl rfl (ev_un (c1 := .bool v11) rfl trivial (evdn ?_))))
      refine ls_keep [(0, dL c159_ddd a0), (1, dL c159_ddd a1), (5, nI y1), (26, .bool (!v11))] ⟨kr, kr, kr, kr, trivial⟩ rfl ?_
      rcases cond_some h with ⟨g13, h⟩ | ⟨g13, h⟩
      · refine ls_cT rfl g13 ?_
        refine ls_rs tbOk ?_
        refine evs (ev_ac rfl nofun rfl (evn ?_))
        refine ls_keep [(4, .bool false)] ⟨kr, trivial⟩ rfl ?_
        refine ls_ret ?_
        have q0 := (Option.some.inj h).symm
        have r0 := hr1
        rw [q0] at r0
        have hr := Option.some.inj r0
        rw [← hr]
        exact ⟨.inl rfl, rfl⟩
      · refine ls_cF rfl g13 ?_
        refine ls_skip ?_
        refine hK6 _ (ls_keep [(0, dL c159_ddd a0), (1, dL c159_ddd a1), (5, nI y1)] ⟨kr, kr, kr, trivial⟩ rfl ?_)
        refine ls_rgn tbOk ?_
        refine evs (ev_mv (c := nI y1) rfl rfl rfl (evs (ev_bin (c1 := nI y1) (c2 := nI 1) rfl rfl rfl (evs (ev_as (c := nI (IntKind.i64.wrap (y1 + 1))) rfl rfl rfl (evn ?_))))))
        exact hN _ (IntKind.i64.wrap (y1 + 1)) h ⟨kr, kr, kr, trivial⟩
    · refine ls_cF rfl g5 ?_
      refine ls_exit ?_
      have q0 := (Option.some.inj h).symm
      have r0 := hr1
      rw [q0] at r0
      exact kXlaws_eqCountedRelationS_B1 () r0 _ trivial
def laws_eqNotifier (a0 : Y73) (a1 : Y73) : Option (Bool) := obind (laws_eqDatabase a0.1 a1.1) fun v2 => cond (!v2) (some false) (obind (laws_eqViewS a0.2.1 a1.2.1) fun v6 => cond (!v6) (some false) (obind (laws_eqCountedRelationS a0.2.2 a1.2.2) fun v10 => cond (!v10) (some false) (some true)))
theorem laws_eqNotifier_s {a0 : Y73} {a1 : Y73} {r : Bool} (h : laws_eqNotifier a0 a1 = some r) : SoundAt Try.prog 42 [.agg (c74_dddddddddddddd a0), .agg (c74_dddddddddddddd a1)] (.bool r) := by
  unfold laws_eqNotifier at h
  refine sound_lit tbOk lit42 (nb rfl) rfl ?_
  unfold c42
  refine ls_keep [(0, .agg (c74_dddddddddddddd a0)), (1, .agg (c74_dddddddddddddd a1))] ⟨kr, kr, trivial⟩ rfl ?_
  refine ls_rs tbOk ?_
  refine evs (ev_bx (c1 := .agg (c74_dddddddddddddd a0)) rfl rfl rfl (evs (ev_bx (c1 := .agg (c74_dddddddddddddd a1)) rfl rfl rfl (evs (ev_ac rfl nofun rfl (evn ?_))))))
  refine ls_keep [(2, .box [dL c208_dd a0.1, dL c161_dddddd a0.2.1, dL c159_ddd a0.2.2]), (3, .box [dL c208_dd a1.1, dL c161_dddddd a1.2.1, dL c159_ddd a1.2.2])] ⟨kr, kr, trivial⟩ rfl ?_
  refine ls_seq_k fun K1 hK1 => ?_
  refine ls_rs tbOk ?_
  refine evs (ev_fa (c1 := .cref 2 0) (v := .cref 2 0) rfl rfl rfl ⟨_, rfl⟩ rfl (evs (ev_ldB (off := 0) (v := .agg [dL c208_dd a0.1]) rfl rfl rfl rfl (nb rfl) rfl (evs (ev_fa (c1 := .cref 3 0) (v := .cref 3 0) rfl rfl rfl ⟨_, rfl⟩ rfl (evs (ev_ldB (off := 0) (v := .agg [dL c208_dd a1.1]) rfl rfl rfl rfl (nb rfl) rfl (?_))))))))
  obtain ⟨v2, g3, h⟩ := ob_some h
  refine evs (ev_call (era rfl (erg (erc (erD ec208_dd _) rfl)) (era rfl (erg (erc (erD ec208_dd _) rfl)) eran)) (laws_eqDatabase_s g3) (evs (ev_un (c1 := .bool v2) rfl trivial (evn ?_))))
  refine ls_keep [(2, .box [dL c208_dd a0.1, dL c161_dddddd a0.2.1, dL c159_ddd a0.2.2]), (3, .box [dL c208_dd a1.1, dL c161_dddddd a1.2.1, dL c159_ddd a1.2.2]), (10, .bool (!v2))] ⟨kr, kr, kr, trivial⟩ rfl ?_
  rcases cond_some h with ⟨g4, h⟩ | ⟨g4, h⟩
  · refine ls_cT rfl g4 ?_
    refine ls_rs tbOk ?_
    refine evs (ev_ac rfl nofun rfl (evn ?_))
    refine ls_keep [(4, .bool false)] ⟨kr, trivial⟩ rfl ?_
    refine ls_ret ?_
    have hr := Option.some.inj h
    rw [← hr]
    exact ⟨.inl rfl, rfl⟩
  · refine ls_cF rfl g4 ?_
    refine ls_skip ?_
    refine hK1 _ (ls_keep [(2, .box [dL c208_dd a0.1, dL c161_dddddd a0.2.1, dL c159_ddd a0.2.2]), (3, .box [dL c208_dd a1.1, dL c161_dddddd a1.2.1, dL c159_ddd a1.2.2])] ⟨kr, kr, trivial⟩ rfl ?_)
    refine ls_seq_k fun K5 hK5 => ?_
    refine ls_rs tbOk ?_
    refine evs (ev_fa (c1 := .cref 2 0) (v := .cref 2 1) rfl rfl rfl ⟨_, rfl⟩ rfl (evs (ev_ldB (off := 1) (v := dL c161_dddddd a0.2.1) rfl rfl rfl rfl (nb rfl) rfl (evs (ev_fa (c1 := .cref 3 0) (v := .cref 3 1) rfl rfl rfl ⟨_, rfl⟩ rfl (evs (ev_ldB (off := 1) (v := dL c161_dddddd a1.2.1) rfl rfl rfl rfl (nb rfl) rfl (?_))))))))
    obtain ⟨v6, g7, h⟩ := ob_some h
    refine evs (ev_call (era rfl (erD ec161_dddddd _) (era rfl (erD ec161_dddddd _) eran)) (laws_eqViewS_s g7) (evs (ev_un (c1 := .bool v6) rfl trivial (evn ?_))))
    refine ls_keep [(2, .box [dL c208_dd a0.1, dL c161_dddddd a0.2.1, dL c159_ddd a0.2.2]), (3, .box [dL c208_dd a1.1, dL c161_dddddd a1.2.1, dL c159_ddd a1.2.2]), (16, .bool (!v6))] ⟨kr, kr, kr, trivial⟩ rfl ?_
    rcases cond_some h with ⟨g8, h⟩ | ⟨g8, h⟩
    · refine ls_cT rfl g8 ?_
      refine ls_rs tbOk ?_
      refine evs (ev_ac rfl nofun rfl (evn ?_))
      refine ls_keep [(4, .bool false)] ⟨kr, trivial⟩ rfl ?_
      refine ls_ret ?_
      have hr := Option.some.inj h
      rw [← hr]
      exact ⟨.inl rfl, rfl⟩
    · refine ls_cF rfl g8 ?_
      refine ls_skip ?_
      refine hK5 _ (ls_keep [(2, .box [dL c208_dd a0.1, dL c161_dddddd a0.2.1, dL c159_ddd a0.2.2]), (3, .box [dL c208_dd a1.1, dL c161_dddddd a1.2.1, dL c159_ddd a1.2.2])] ⟨kr, kr, trivial⟩ rfl ?_)
      refine ls_seq_k fun K9 hK9 => ?_
      refine ls_rs tbOk ?_
      refine evs (ev_fa (c1 := .cref 2 0) (v := .cref 2 2) rfl rfl rfl ⟨_, rfl⟩ rfl (evs (ev_ldB (off := 2) (v := dL c159_ddd a0.2.2) rfl rfl rfl rfl (nb rfl) rfl (evs (ev_fa (c1 := .cref 3 0) (v := .cref 3 2) rfl rfl rfl ⟨_, rfl⟩ rfl (evs (ev_ldB (off := 2) (v := dL c159_ddd a1.2.2) rfl rfl rfl rfl (nb rfl) rfl (?_))))))))
      obtain ⟨v10, g11, h⟩ := ob_some h
      refine evs (ev_call (era rfl (erD ec159_ddd _) (era rfl (erD ec159_ddd _) eran)) (laws_eqCountedRelationS_s g11) (evs (ev_un (c1 := .bool v10) rfl trivial (evn ?_))))
      refine ls_keep [(22, .bool (!v10))] ⟨kr, trivial⟩ rfl ?_
      rcases cond_some h with ⟨g12, h⟩ | ⟨g12, h⟩
      · refine ls_cT rfl g12 ?_
        refine ls_rs tbOk ?_
        refine evs (ev_ac rfl nofun rfl (evn ?_))
        refine ls_keep [(4, .bool false)] ⟨kr, trivial⟩ rfl ?_
        refine ls_ret ?_
        have hr := Option.some.inj h
        rw [← hr]
        exact ⟨.inl rfl, rfl⟩
      · refine ls_cF rfl g12 ?_
        refine ls_skip ?_
        refine hK9 _ (ls_keep [] trivial rfl ?_)
        refine ls_rs tbOk ?_
        refine evs (ev_ac rfl nofun rfl (evn ?_))
        refine ls_keep [(4, .bool true)] ⟨kr, trivial⟩ rfl ?_
        refine ls_ret ?_
        have hr := Option.some.inj h
        rw [← hr]
        exact ⟨.inl rfl, rfl⟩
def c74_doodoooooodooo (x : Y73) : List V := [dL c208_oo x.1, dL c161_oooooo x.2.1, dL c159_ooo x.2.2]
theorem zc74_doodoooooodooo (x : Y73) : (c74_doodoooooodooo x).length = 3 := rfl
theorem ec74_doodoooooodooo (x : Y73) : erL (c74_doodoooooodooo x) = c74_dddddddddddddd x := (erc (erD ec208_oo _) (erc (erD ec161_oooooo _) (erc (erD ec159_ooo _) rfl)))
def laws_FnExactEqualNotifiers (a0 : Y67) (a1 : Y67) : Option (Bool) := obind (laws_szNotifier a0 1048576) fun v1 => cond (decide (v1 < 0)) (some true) (obind (laws_szNotifier a1 v1) fun v5 => cond (decide (v5 < 0)) (some true) (obind (laws_toNotifier a0) fun v9 => obind (laws_toNotifier a1) fun v11 => obind (spec_EqualNotifiers v9 v11) fun v13 => obind (laws_toNotifier a0) fun v15 => obind (laws_toNotifier a1) fun v17 => obind (impl_EqualNotifiers v15 v17) fun v19 => cond (!(v19 == v13)) (some false) (obind (laws_toNotifier a0) fun v24 => obind (laws_eqNotifier v15 v24) fun v26 => cond (!v26) (some false) (obind (laws_toNotifier a1) fun v30 => obind (laws_eqNotifier v17 v30) fun v32 => cond (!v32) (some false) (some true)))))
theorem laws_FnExactEqualNotifiers_s {a0 : Y67} {a1 : Y67} {r : Bool} (h : laws_FnExactEqualNotifiers a0 a1 = some r) : SoundAt Try.prog 6 [.agg (c68_dddddddddddddd a0), .agg (c68_dddddddddddddd a1)] (.bool r) := by
  unfold laws_FnExactEqualNotifiers at h
  refine sound_lit tbOk lit6 (nb rfl) rfl ?_
  unfold c6
  refine ls_keep [(0, .agg (c68_dddddddddddddd a0)), (1, .agg (c68_dddddddddddddd a1))] ⟨kr, kr, trivial⟩ rfl ?_
  refine ls_rs tbOk ?_
  refine evs (ev_bx (c1 := .agg (c68_dddddddddddddd a0)) rfl rfl rfl (evs (ev_bx (c1 := .agg (c68_dddddddddddddd a1)) rfl rfl rfl (evs (ev_ac rfl nofun rfl (evn ?_))))))
  refine ls_keep [(2, .box [dL c206_dd a0.1, dL c223_dddddd a0.2.1, dL c221_ddd a0.2.2]), (3, .box [dL c206_dd a1.1, dL c223_dddddd a1.2.1, dL c221_ddd a1.2.2])] ⟨kr, kr, trivial⟩ rfl ?_
  refine ls_rs tbOk ?_
  refine evs (ev_ac rfl nofun rfl (evn ?_))
  refine ls_keep [(2, .box [dL c206_dd a0.1, dL c223_dddddd a0.2.1, dL c221_ddd a0.2.2]), (3, .box [dL c206_dd a1.1, dL c223_dddddd a1.2.1, dL c221_ddd a1.2.2]), (5, nI 1048576)] ⟨kr, kr, kr, trivial⟩ rfl ?_
  refine ls_rs tbOk ?_
  refine evs (ev_ldB (off := 0) (v := .agg (c68_dddddddddddddd a0)) rfl rfl rfl rfl (nb rfl) rfl (evs (ev_mv (c := nI 1048576) rfl rfl rfl (?_))))
  obtain ⟨v1, g2, h⟩ := ob_some h
  refine evs (ev_call (era rfl (erg (erc (erD ec206_dd _) (erc (erD ec223_dddddd _) (erc (erD ec221_ddd _) rfl)))) (era rfl rfl eran)) (laws_szNotifier_s g2) (evs (ev_as (c := nI v1) rfl rfl rfl (evn ?_))))
  refine ls_keep [(2, .box [dL c206_dd a0.1, dL c223_dddddd a0.2.1, dL c221_ddd a0.2.2]), (3, .box [dL c206_dd a1.1, dL c223_dddddd a1.2.1, dL c221_ddd a1.2.2]), (5, nI v1)] ⟨kr, kr, kr, trivial⟩ rfl ?_
  refine ls_seq_k fun K3 hK3 => ?_
  refine ls_rs tbOk ?_
  refine evs (ev_mv (c := nI v1) rfl rfl rfl (evs (ev_bin (c1 := nI v1) (c2 := nI 0) rfl rfl rfl (evn ?_))))
  refine ls_keep [(2, .box [dL c206_dd a0.1, dL c223_dddddd a0.2.1, dL c221_ddd a0.2.2]), (3, .box [dL c206_dd a1.1, dL c223_dddddd a1.2.1, dL c221_ddd a1.2.2]), (5, nI v1), (14, .bool (decide (v1 < 0)))] ⟨kr, kr, kr, kr, trivial⟩ rfl ?_
  rcases cond_some h with ⟨g4, h⟩ | ⟨g4, h⟩
  · refine ls_cT rfl g4 ?_
    refine ls_rs tbOk ?_
    refine evs (ev_ac rfl nofun rfl (evn ?_))
    refine ls_keep [(4, .bool true)] ⟨kr, trivial⟩ rfl ?_
    refine ls_ret ?_
    have hr := Option.some.inj h
    rw [← hr]
    exact ⟨.inl rfl, rfl⟩
  · refine ls_cF rfl g4 ?_
    refine ls_skip ?_
    refine hK3 _ (ls_keep [(2, .box [dL c206_dd a0.1, dL c223_dddddd a0.2.1, dL c221_ddd a0.2.2]), (3, .box [dL c206_dd a1.1, dL c223_dddddd a1.2.1, dL c221_ddd a1.2.2]), (5, nI v1)] ⟨kr, kr, kr, trivial⟩ rfl ?_)
    refine ls_rs tbOk ?_
    refine evs (ev_ldB (off := 0) (v := .agg (c68_dddddddddddddd a1)) rfl rfl rfl rfl (nb rfl) rfl (evs (ev_mv (c := nI v1) rfl rfl rfl (?_))))
    obtain ⟨v5, g6, h⟩ := ob_some h
    refine evs (ev_call (era rfl (erg (erc (erD ec206_dd _) (erc (erD ec223_dddddd _) (erc (erD ec221_ddd _) rfl)))) (era rfl rfl eran)) (laws_szNotifier_s g6) (evs (ev_as (c := nI v5) rfl rfl rfl (evn ?_))))
    refine ls_keep [(2, .box [dL c206_dd a0.1, dL c223_dddddd a0.2.1, dL c221_ddd a0.2.2]), (3, .box [dL c206_dd a1.1, dL c223_dddddd a1.2.1, dL c221_ddd a1.2.2]), (5, nI v5)] ⟨kr, kr, kr, trivial⟩ rfl ?_
    refine ls_seq_k fun K7 hK7 => ?_
    refine ls_rs tbOk ?_
    refine evs (ev_mv (c := nI v5) rfl rfl rfl (evs (ev_bin (c1 := nI v5) (c2 := nI 0) rfl rfl rfl (evn ?_))))
    refine ls_keep [(2, .box [dL c206_dd a0.1, dL c223_dddddd a0.2.1, dL c221_ddd a0.2.2]), (3, .box [dL c206_dd a1.1, dL c223_dddddd a1.2.1, dL c221_ddd a1.2.2]), (19, .bool (decide (v5 < 0)))] ⟨kr, kr, kr, trivial⟩ rfl ?_
    rcases cond_some h with ⟨g8, h⟩ | ⟨g8, h⟩
    · refine ls_cT rfl g8 ?_
      refine ls_rs tbOk ?_
      refine evs (ev_ac rfl nofun rfl (evn ?_))
      refine ls_keep [(4, .bool true)] ⟨kr, trivial⟩ rfl ?_
      refine ls_ret ?_
      have hr := Option.some.inj h
      rw [← hr]
      exact ⟨.inl rfl, rfl⟩
    · refine ls_cF rfl g8 ?_
      refine ls_skip ?_
      refine hK7 _ (ls_keep [(2, .box [dL c206_dd a0.1, dL c223_dddddd a0.2.1, dL c221_ddd a0.2.2]), (3, .box [dL c206_dd a1.1, dL c223_dddddd a1.2.1, dL c221_ddd a1.2.2])] ⟨kr, kr, trivial⟩ rfl ?_)
      refine ls_rd tbOk mixed (by kernel_rfl) ?_
      refine evd rfl rfl (ev_ldB (off := 0) (v := .agg (c68_dddddddddddddd a0)) rfl rfl rfl rfl (nb rfl) rfl (?_))
      obtain ⟨v9, g10, h⟩ := ob_some h
      refine evd rfl rfl (ev_call (era rfl (erg (erc (erD ec206_dd _) (erc (erD ec223_dddddd _) (erc (erD ec221_ddd _) rfl)))) eran) (laws_toNotifier_s g10) (evd rfl rfl (ev_ldB (off := 0) (v := .agg (c68_dddddddddddddd a1)) rfl rfl rfl rfl (nb rfl) rfl (?_))))
      obtain ⟨v11, g12, h⟩ := ob_some h
      refine evd rfl rfl (ev_call (era rfl (erg (erc (erD ec206_dd _) (erc (erD ec223_dddddd _) (erc (erD ec221_ddd _) rfl)))) eran) (laws_toNotifier_s g12) (?_))
      obtain ⟨v13, g14, h⟩ := ob_some h
      refine evd rfl rfl (ev_call (era rfl (erg (erc (erO ec208_oo _) (erc (erO ec161_oooooo _) (erc (erO ec159_ooo _) rfl)))) (era rfl (erg (erc (erO ec208_oo _) (erc (erO ec161_oooooo _) (erc (erO ec159_ooo _) rfl)))) eran)) (spec_EqualNotifiers_s g14) (evd rfl rfl (ev_as (c := .bool v13) rfl rfl rfl (evdn ?_))))
      refine ls_keep [(2, .box [dL c206_dd a0.1, dL c223_dddddd a0.2.1, dL c221_ddd a0.2.2]), (3, .box [dL c206_dd a1.1, dL c223_dddddd a1.2.1, dL c221_ddd a1.2.2]), (6, .bool v13)] ⟨kr, kr, kr, trivial⟩ rfl ?_
      refine ls_rs tbOk ?_
      refine evs (ev_ldB (off := 0) (v := .agg (c68_dddddddddddddd a0)) rfl rfl rfl rfl (nb rfl) rfl (?_))
      obtain ⟨v15, g16, h⟩ := ob_some h
      refine evs (ev_call (era rfl (erg (erc (erD ec206_dd _) (erc (erD ec223_dddddd _) (erc (erD ec221_ddd _) rfl)))) eran) (laws_toNotifier_s g16) (evs (ev_al rfl rfl (evs (ev_st (off := 0) (c1 := .agg (c74_oooooooooooooo v15)) (cs' := [oL 208 c208_oo v15.1, oL 161 c161_oooooo v15.2.1, oL 159 c159_ooo v15.2.2]) rfl rfl rfl rfl rfl rfl (nb rfl) rfl (evn ?_))))))
      refine ls_keep [(2, .box [dL c206_dd a0.1, dL c223_dddddd a0.2.1, dL c221_ddd a0.2.2]), (3, .box [dL c206_dd a1.1, dL c223_dddddd a1.2.1, dL c221_ddd a1.2.2]), (6, .bool v13), (7, .box [oL 208 c208_oo v15.1, oL 161 c161_oooooo v15.2.1, oL 159 c159_ooo v15.2.2])] ⟨kr, kr, kr, kr, trivial⟩ rfl ?_
      refine ls_rs tbOk ?_
      refine evs (ev_ldB (off := 0) (v := .agg (c68_dddddddddddddd a1)) rfl rfl rfl rfl (nb rfl) rfl (?_))
      obtain ⟨v17, g18, h⟩ := ob_some h
      refine evs (ev_call (era rfl (erg (erc (erD ec206_dd _) (erc (erD ec223_dddddd _) (erc (erD ec221_ddd _) rfl)))) eran) (laws_toNotifier_s g18) (evs (ev_al rfl rfl (evs (ev_st (off := 0) (c1 := .agg (c74_oooooooooooooo v17)) (cs' := [oL 208 c208_oo v17.1, oL 161 c161_oooooo v17.2.1, oL 159 c159_ooo v17.2.2]) rfl rfl rfl rfl rfl rfl (nb rfl) rfl (evn ?_))))))
      refine ls_keep [(2, .box [dL c206_dd a0.1, dL c223_dddddd a0.2.1, dL c221_ddd a0.2.2]), (3, .box [dL c206_dd a1.1, dL c223_dddddd a1.2.1, dL c221_ddd a1.2.2]), (6, .bool v13), (7, .box [oL 208 c208_oo v15.1, oL 161 c161_oooooo v15.2.1, oL 159 c159_ooo v15.2.2]), (8, .box [oL 208 c208_oo v17.1, oL 161 c161_oooooo v17.2.1, oL 159 c159_ooo v17.2.2])] ⟨kr, kr, kr, kr, kr, trivial⟩ rfl ?_
      refine ls_rs tbOk ?_
      refine evs (ev_ldB (off := 0) (v := .agg (c74_doodoooooodooo v15)) rfl rfl rfl rfl (nb rfl) rfl (evs (ev_ldB (off := 0) (v := .agg (c74_doodoooooodooo v17)) rfl rfl rfl rfl (nb rfl) rfl (?_))))
      obtain ⟨v19, g20, h⟩ := ob_some h
      refine evs (ev_call (era rfl (erg (erc (erD ec208_oo _) (erc (erD ec161_oooooo _) (erc (erD ec159_ooo _) rfl)))) (era rfl (erg (erc (erD ec208_oo _) (erc (erD ec161_oooooo _) (erc (erD ec159_ooo _) rfl)))) eran)) (impl_EqualNotifiers_s g20) (evs (ev_as (c := .bool v19) rfl rfl rfl (evn ?_))))
      refine ls_keep [(2, .box [dL c206_dd a0.1, dL c223_dddddd a0.2.1, dL c221_ddd a0.2.2]), (3, .box [dL c206_dd a1.1, dL c223_dddddd a1.2.1, dL c221_ddd a1.2.2]), (6, .bool v13), (7, .box [oL 208 c208_oo v15.1, oL 161 c161_oooooo v15.2.1, oL 159 c159_ooo v15.2.2]), (8, .box [oL 208 c208_oo v17.1, oL 161 c161_oooooo v17.2.1, oL 159 c159_ooo v17.2.2]), (9, .bool v19)] ⟨kr, kr, kr, kr, kr, kr, trivial⟩ rfl ?_
      refine ls_seq_k fun K21 hK21 => ?_
      refine ls_rs tbOk ?_
      refine evs (ev_mv (c := .bool v19) rfl rfl rfl (evs (ev_mv (c := .bool v13) rfl rfl rfl (evs (ev_bin (c1 := .bool v19) (c2 := .bool v13) rfl rfl rfl (evn ?_))))))
      refine ls_keep [(2, .box [dL c206_dd a0.1, dL c223_dddddd a0.2.1, dL c221_ddd a0.2.2]), (3, .box [dL c206_dd a1.1, dL c223_dddddd a1.2.1, dL c221_ddd a1.2.2]), (7, .box [oL 208 c208_oo v15.1, oL 161 c161_oooooo v15.2.1, oL 159 c159_ooo v15.2.2]), (8, .box [oL 208 c208_oo v17.1, oL 161 c161_oooooo v17.2.1, oL 159 c159_ooo v17.2.2]), (34, .bool (!(v19 == v13)))] ⟨kr, kr, kr, kr, kr, trivial⟩ rfl ?_
      rcases cond_some h with ⟨g22, h⟩ | ⟨g22, h⟩
      · refine ls_cT rfl g22 ?_
        refine ls_rs tbOk ?_
        refine evs (ev_ac rfl nofun rfl (evn ?_))
        refine ls_keep [(4, .bool false)] ⟨kr, trivial⟩ rfl ?_
        refine ls_ret ?_
        have hr := Option.some.inj h
        rw [← hr]
        exact ⟨.inl rfl, rfl⟩
      · refine ls_cF rfl g22 ?_
        refine ls_skip ?_
        refine hK21 _ (ls_keep [(2, .box [dL c206_dd a0.1, dL c223_dddddd a0.2.1, dL c221_ddd a0.2.2]), (3, .box [dL c206_dd a1.1, dL c223_dddddd a1.2.1, dL c221_ddd a1.2.2]), (7, .box [oL 208 c208_oo v15.1, oL 161 c161_oooooo v15.2.1, oL 159 c159_ooo v15.2.2]), (8, .box [oL 208 c208_oo v17.1, oL 161 c161_oooooo v17.2.1, oL 159 c159_ooo v17.2.2])] ⟨kr, kr, kr, kr, trivial⟩ rfl ?_)
        refine ls_seq_k fun K23 hK23 => ?_
        refine ls_rd tbOk mixed (by kernel_rfl) ?_
        refine evd rfl rfl (ev_ldB (off := 0) (v := .agg (c74_doodoooooodooo v15)) rfl rfl rfl rfl (nb rfl) rfl (evd rfl rfl (ev_ldB (off := 0) (v := .agg (c68_dddddddddddddd a0)) rfl rfl rfl rfl (nb rfl) rfl (?_))))
        obtain ⟨v24, g25, h⟩ := ob_some h
        refine evd rfl rfl (ev_call (era rfl (erg (erc (erD ec206_dd _) (erc (erD ec223_dddddd _) (erc (erD ec221_ddd _) rfl)))) eran) (laws_toNotifier_s g25) (?_))
        obtain ⟨v26, g27, h⟩ := ob_some h
        refine evd rfl rfl (ev_call (era rfl (erg (erc (erD ec208_oo _) (erc (erD ec161_oooooo _) (erc (erD ec159_ooo _) rfl)))) (era rfl (erg (erc (erO ec208_oo _) (erc (erO ec161_oooooo _) (erc (erO ec159_ooo _) rfl)))) eran)) (laws_eqNotifier_s g27) (evd rfl rfl (ev_un (c1 := .bool v26) rfl trivial (evdn ?_))))
        refine ls_keep [(3, .box [dL c206_dd a1.1, dL c223_dddddd a1.2.1, dL c221_ddd a1.2.2]), (8, .box [oL 208 c208_oo v17.1, oL 161 c161_oooooo v17.2.1, oL 159 c159_ooo v17.2.2]), (39, .bool (!v26))] ⟨kr, kr, kr, trivial⟩ rfl ?_
        rcases cond_some h with ⟨g28, h⟩ | ⟨g28, h⟩
        · refine ls_cT rfl g28 ?_
          refine ls_rs tbOk ?_
          refine evs (ev_ac rfl nofun rfl (evn ?_))
          refine ls_keep [(4, .bool false)] ⟨kr, trivial⟩ rfl ?_
          refine ls_ret ?_
          have hr := Option.some.inj h
          rw [← hr]
          exact ⟨.inl rfl, rfl⟩
        · refine ls_cF rfl g28 ?_
          refine ls_skip ?_
          refine hK23 _ (ls_keep [(3, .box [dL c206_dd a1.1, dL c223_dddddd a1.2.1, dL c221_ddd a1.2.2]), (8, .box [oL 208 c208_oo v17.1, oL 161 c161_oooooo v17.2.1, oL 159 c159_ooo v17.2.2])] ⟨kr, kr, trivial⟩ rfl ?_)
          refine ls_seq_k fun K29 hK29 => ?_
          refine ls_rd tbOk mixed (by kernel_rfl) ?_
          refine evd rfl rfl (ev_ldB (off := 0) (v := .agg (c74_doodoooooodooo v17)) rfl rfl rfl rfl (nb rfl) rfl (evd rfl rfl (ev_ldB (off := 0) (v := .agg (c68_dddddddddddddd a1)) rfl rfl rfl rfl (nb rfl) rfl (?_))))
          obtain ⟨v30, g31, h⟩ := ob_some h
          refine evd rfl rfl (ev_call (era rfl (erg (erc (erD ec206_dd _) (erc (erD ec223_dddddd _) (erc (erD ec221_ddd _) rfl)))) eran) (laws_toNotifier_s g31) (?_))
          obtain ⟨v32, g33, h⟩ := ob_some h
          refine evd rfl rfl (ev_call (era rfl (erg (erc (erD ec208_oo _) (erc (erD ec161_oooooo _) (erc (erD ec159_ooo _) rfl)))) (era rfl (erg (erc (erO ec208_oo _) (erc (erO ec161_oooooo _) (erc (erO ec159_ooo _) rfl)))) eran)) (laws_eqNotifier_s g33) (evd rfl rfl (ev_un (c1 := .bool v32) rfl trivial (evdn ?_))))
          refine ls_keep [(44, .bool (!v32))] ⟨kr, trivial⟩ rfl ?_
          rcases cond_some h with ⟨g34, h⟩ | ⟨g34, h⟩
          · refine ls_cT rfl g34 ?_
            refine ls_rs tbOk ?_
            refine evs (ev_ac rfl nofun rfl (evn ?_))
            refine ls_keep [(4, .bool false)] ⟨kr, trivial⟩ rfl ?_
            refine ls_ret ?_
            have hr := Option.some.inj h
            rw [← hr]
            exact ⟨.inl rfl, rfl⟩
          · refine ls_cF rfl g34 ?_
            refine ls_skip ?_
            refine hK29 _ (ls_keep [] trivial rfl ?_)
            refine ls_rs tbOk ?_
            refine evs (ev_ac rfl nofun rfl (evn ?_))
            refine ls_keep [(4, .bool true)] ⟨kr, trivial⟩ rfl ?_
            refine ls_ret ?_
            have hr := Option.some.inj h
            rw [← hr]
            exact ⟨.inl rfl, rfl⟩
end Go.Proofs.Ytkcfahfladikkaa
