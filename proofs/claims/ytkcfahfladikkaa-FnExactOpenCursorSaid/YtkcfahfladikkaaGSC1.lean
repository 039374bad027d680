/-
  Functions of the program as typed functions, printed by gen.py, and that the program's functions do what they say. No conditions.
-/
import Derived.Test.YtkcfahfladikkaaUpC1
import Derived.Test.YtkcfahfladikkaaLit2C1
namespace Go.Proofs.Ytkcfahfladikkaa
open Go.RowKit
set_option linter.unusedVariables false
set_option maxRecDepth 100000
set_option maxHeartbeats 1000000
def laws_eqIntS_B1 (a0 : List Int) (a1 : List Int) (rec : Int → Option (Sum (Unit) (Bool))) (y1 : Int) : Option (Sum (Unit) (Bool)) := cond (decide (y1 < (List.length a0 : Int))) (obind (geti a0 y1) fun e7 => obind (geti a1 y1) fun e9 => cond (e7 != e9) (some (.inr false)) (rec (IntKind.i64.wrap (y1 + 1)))) (some (.inl ()))
def laws_eqIntS (a0 : List Int) (a1 : List Int) : Option (Bool) := cond ((List.length a0 : Int) != (List.length a1 : Int)) (some false) (obind (loopF (laws_eqIntS_B1 a0 a1) fz 0) fun o1 => (match o1 with
  | .inl _ => (some true)
  | .inr r => some r))
theorem laws_eqIntS_s {a0 : List Int} {a1 : List Int} {r : Bool} (h : laws_eqIntS a0 a1 = some r) : SoundAt Try.prog 19 [dL ci64 a0, dL ci64 a1] (.bool r) := by
  unfold laws_eqIntS at h
  refine sound_lit tbOk lit19 (nb rfl) rfl ?_
  unfold c19
  refine ls_keep [(0, dL ci64 a0), (1, dL ci64 a1)] ⟨kr, kr, trivial⟩ rfl ?_
  refine ls_rs tbOk ?_
  refine evs (ev_ac rfl nofun rfl (evn ?_))
  refine ls_keep [(0, dL ci64 a0), (1, dL ci64 a1)] ⟨kr, kr, trivial⟩ rfl ?_
  refine ls_seq_k fun K1 hK1 => ?_
  refine ls_rs tbOk ?_
  refine evs (ev_mv (c := dL ci64 a0) rfl rfl rfl (evs (ev_len (c1 := dL ci64 a0) rfl rfl rfl (evs (ev_mv (c := dL ci64 a1) rfl rfl rfl (evs (ev_len (c1 := dL ci64 a1) rfl rfl rfl (evs (ev_bin (c1 := nI (List.length a0 : Int)) (c2 := nI (List.length a1 : Int)) rfl rfl rfl (evn ?_))))))))))
  refine ls_keep [(0, dL ci64 a0), (1, dL ci64 a1), (10, .bool ((List.length a0 : Int) != (List.length a1 : Int)))] ⟨kr, kr, kr, trivial⟩ rfl ?_
  rcases cond_some h with ⟨g2, h⟩ | ⟨g2, h⟩
  · refine ls_cT rfl g2 ?_
    refine ls_rs tbOk ?_
    refine evs (ev_ac rfl nofun rfl (evn ?_))
    refine ls_keep [(4, .bool false)] ⟨kr, trivial⟩ rfl ?_
    refine ls_ret ?_
    have hr := Option.some.inj h
    rw [← hr]
    exact ⟨.inl rfl, rfl⟩
  · refine ls_cF rfl g2 ?_
    refine ls_skip ?_
    refine hK1 _ (ls_keep [(0, dL ci64 a0), (1, dL ci64 a1)] ⟨kr, kr, trivial⟩ rfl ?_)
    refine ls_seq_k fun K3 hK3 => ?_
    refine ls_rs tbOk ?_
    refine evs (ev_ac rfl nofun rfl (evn ?_))
    refine ls_keep [(0, dL ci64 a0), (1, dL ci64 a1), (5, nI 0)] ⟨kr, kr, kr, trivial⟩ rfl ?_
    obtain ⟨o1, hl, hr1⟩ := ob_some h
    clear h
    have kXlaws_eqIntS_B1 : ∀ (_ : Unit), (some true) = some r → ∀ σ' : PS, okK σ' [] → K3 σ' := by
      intro _ h σ' hk
      refine hK3 _ (ls_keep [] hk rfl ?_)
      refine ls_rs tbOk ?_
      refine evs (ev_ac rfl nofun rfl (evn ?_))
      refine ls_keep [(4, .bool true)] ⟨kr, trivial⟩ rfl ?_
      refine ls_ret ?_
      have hr := Option.some.inj h
      rw [← hr]
      exact ⟨.inl rfl, rfl⟩
    refine ls_rec (fun (y1 : Int) => [(0, dL ci64 a0), (1, dL ci64 a1), (5, nI y1)]) (laws_eqIntS_B1 a0 a1) fz 0 o1 hl ⟨kr, kr, kr, trivial⟩ (fun _ => rfl) ?_
    rintro m y1 N h hN
    unfold laws_eqIntS_B1 at h
    refine ls_seq_k fun K4 hK4 => ?_
    refine ls_rs tbOk ?_
    refine evs (ev_mv (c := nI y1) rfl rfl rfl (evs (ev_mv (c := dL ci64 a0) rfl rfl rfl (evs (ev_len (c1 := dL ci64 a0) rfl rfl rfl (evs (ev_bin (c1 := nI y1) (c2 := nI (List.length a0 : Int)) rfl rfl rfl (evn ?_))))))))
    refine ls_keep [(0, dL ci64 a0), (1, dL ci64 a1), (5, nI y1), (14, .bool (decide (y1 < (List.length a0 : Int))))] ⟨kr, kr, kr, kr, trivial⟩ rfl ?_
    rcases cond_some h with ⟨g5, h⟩ | ⟨g5, h⟩
    · refine ls_cT rfl g5 ?_
      refine ls_skip ?_
      refine hK4 _ (ls_keep [(0, dL ci64 a0), (1, dL ci64 a1), (5, nI y1)] ⟨kr, kr, kr, trivial⟩ rfl ?_)
      refine ls_seq_k fun K6 hK6 => ?_
      refine ls_blk ?_
      refine ls_rd tbOk mixed (by kernel_rfl) ?_
      refine evd rfl rfl (ev_mv (c := dL ci64 a0) rfl rfl rfl (evd rfl rfl (ev_mv (c := nI y1) rfl rfl rfl (?_))))
      obtain ⟨e7, g8, h⟩ := ob_some h
      refine evd rfl rfl (ev_ia rfl rfl rfl ⟨(geti_some g8).1, (geti_some g8).2.1⟩ (evd rfl rfl (ev_ldE (i := y1) (n := 1) (off := 0) (v := nI e7) rfl rfl zci64 g8 rfl (nb rfl) rfl (evd rfl rfl (ev_mv (c := dL ci64 a1) rfl rfl rfl (evd rfl rfl (ev_mv (c := nI y1) rfl rfl rfl (?_))))))))
      obtain ⟨e9, g10, h⟩ := ob_some h
      refine evd rfl rfl (ev_ia rfl rfl rfl ⟨(geti_some g10).1, (geti_some g10).2.1⟩ (evd rfl rfl (ev_ldE (i := y1) (n := 1) (off := 0) (v := nI e9) rfl rfl zci64 g10 rfl (nb rfl) rfl (evd rfl rfl (ev_bin (c1 := nI e7) (c2 := nI e9) rfl rfl rfl (evdn ?_))))))
      refine ls_keep [(0, dL ci64 a0), (1, dL ci64 a1), (5, nI y1), (25, .bool (e7 != e9))] ⟨kr, kr, kr, kr, trivial⟩ rfl ?_
      rcases cond_some h with ⟨g11, h⟩ | ⟨g11, h⟩
      · refine ls_cT rfl g11 ?_
        refine ls_rs tbOk ?_
        refine evs (ev_ac rfl nofun rfl (evn ?_))
        refine ls_keep [(4, .bool false)] ⟨kr, trivial⟩ rfl ?_
        refine ls_ret ?_
        have q0 := (Option.some.inj h).symm
        have r0 := hr1
        rw [q0] at r0
        have hr := Option.some.inj r0
        rw [← hr]
        exact ⟨.inl rfl, rfl⟩
      · refine ls_cF rfl g11 ?_
        refine ls_skip ?_
        refine hK6 _ (ls_keep [(0, dL ci64 a0), (1, dL ci64 a1), (5, nI y1)] ⟨kr, kr, kr, trivial⟩ rfl ?_)
        refine ls_rgn tbOk ?_
        refine evs (ev_mv (c := nI y1) rfl rfl rfl (evs (ev_bin (c1 := nI y1) (c2 := nI 1) rfl rfl rfl (evs (ev_as (c := nI (IntKind.i64.wrap (y1 + 1))) rfl rfl rfl (evn ?_))))))
        exact hN _ (IntKind.i64.wrap (y1 + 1)) h ⟨kr, kr, kr, trivial⟩
    · refine ls_cF rfl g5 ?_
      refine ls_exit ?_
      have q0 := (Option.some.inj h).symm
      have r0 := hr1
      rw [q0] at r0
      exact kXlaws_eqIntS_B1 () r0 _ trivial
def laws_szIntS (a0 : List Int) (a1 : Int) : Option (Int) := cond (decide ((IntKind.i64.wrap (a1 - (List.length a0 : Int))) < 0)) (some (-1)) (some (IntKind.i64.wrap (a1 - (List.length a0 : Int))))
theorem laws_szIntS_s {a0 : List Int} {a1 : Int} {r : Int} (h : laws_szIntS a0 a1 = some r) : SoundAt Try.prog 72 [dL ci64 a0, nI a1] (nI r) := by
  unfold laws_szIntS at h
  refine sound_lit tbOk lit72 (nb rfl) rfl ?_
  unfold c72
  refine ls_keep [(0, dL ci64 a0), (1, nI a1)] ⟨kr, kr, trivial⟩ rfl ?_
  refine ls_rs tbOk ?_
  refine evs (ev_ac rfl nofun rfl (evn ?_))
  refine ls_keep [(0, dL ci64 a0), (1, nI a1)] ⟨kr, kr, trivial⟩ rfl ?_
  refine ls_rs tbOk ?_
  refine evs (ev_mv (c := nI a1) rfl rfl rfl (evs (ev_mv (c := dL ci64 a0) rfl rfl rfl (evs (ev_len (c1 := dL ci64 a0) rfl rfl rfl (evs (ev_bin (c1 := nI a1) (c2 := nI (List.length a0 : Int)) rfl rfl rfl (evs (ev_as (c := nI (IntKind.i64.wrap (a1 - (List.length a0 : Int)))) rfl rfl rfl (evn ?_))))))))))
  refine ls_keep [(1, nI (IntKind.i64.wrap (a1 - (List.length a0 : Int))))] ⟨kr, trivial⟩ rfl ?_
  refine ls_seq_k fun K1 hK1 => ?_
  refine ls_rs tbOk ?_
  refine evs (ev_mv (c := nI (IntKind.i64.wrap (a1 - (List.length a0 : Int)))) rfl rfl rfl (evs (ev_bin (c1 := nI (IntKind.i64.wrap (a1 - (List.length a0 : Int)))) (c2 := nI 0) rfl rfl rfl (evn ?_))))
  refine ls_keep [(1, nI (IntKind.i64.wrap (a1 - (List.length a0 : Int)))), (10, .bool (decide ((IntKind.i64.wrap (a1 - (List.length a0 : Int))) < 0)))] ⟨kr, kr, trivial⟩ rfl ?_
  rcases cond_some h with ⟨g2, h⟩ | ⟨g2, h⟩
  · refine ls_cT rfl g2 ?_
    refine ls_rs tbOk ?_
    refine evs (ev_ac rfl nofun rfl (evn ?_))
    refine ls_keep [(4, nI (-1))] ⟨kr, trivial⟩ rfl ?_
    refine ls_ret ?_
    have hr := Option.some.inj h
    rw [← hr]
    exact ⟨.inl rfl, rfl⟩
  · refine ls_cF rfl g2 ?_
    refine ls_skip ?_
    refine hK1 _ (ls_keep [(1, nI (IntKind.i64.wrap (a1 - (List.length a0 : Int))))] ⟨kr, trivial⟩ rfl ?_)
    refine ls_rs tbOk ?_
    refine evs (ev_mv (c := nI (IntKind.i64.wrap (a1 - (List.length a0 : Int)))) rfl rfl rfl (evs (ev_as (c := nI (IntKind.i64.wrap (a1 - (List.length a0 : Int)))) rfl rfl rfl (evn ?_))))
    refine ls_keep [(4, nI (IntKind.i64.wrap (a1 - (List.length a0 : Int))))] ⟨kr, trivial⟩ rfl ?_
    refine ls_ret ?_
    have hr := Option.some.inj h
    rw [← hr]
    exact ⟨.inl rfl, rfl⟩
def laws_szIntSS_B1 (a0 : List (List Int)) (rec : (Int × Int) → Option (Sum (Int) (Int))) (s : Int × Int) : Option (Sum (Int) (Int)) := match s with
  | (y1, y2) => cond (decide (y2 < (List.length a0 : Int))) (obind (geti a0 y2) fun e8 => obind (laws_szIntS e8 y1) fun v10 => cond (decide (v10 < 0)) (some (.inr (-1))) (rec (v10, (IntKind.i64.wrap (y2 + 1))))) (some (.inl y1))
def laws_szIntSS (a0 : List (List Int)) (a1 : Int) : Option (Int) := cond (decide ((IntKind.i64.wrap (a1 - (List.length a0 : Int))) < 0)) (some (-1)) (obind (loopF (laws_szIntSS_B1 a0) fz ((IntKind.i64.wrap (a1 - (List.length a0 : Int))), 0)) fun o1 => (match o1 with
  | .inl z4 => (some z4)
  | .inr r => some r))
theorem laws_szIntSS_s {a0 : List (List Int)} {a1 : Int} {r : Int} (h : laws_szIntSS a0 a1 = some r) : SoundAt Try.prog 199 [dL c25_d a0, nI a1] (nI r) := by
  unfold laws_szIntSS at h
  refine sound_lit tbOk lit199 (nb rfl) rfl ?_
  unfold c199
  refine ls_keep [(0, dL c25_d a0), (1, nI a1)] ⟨kr, kr, trivial⟩ rfl ?_
  refine ls_rs tbOk ?_
  refine evs (ev_ac rfl nofun rfl (evn ?_))
  refine ls_keep [(0, dL c25_d a0), (1, nI a1)] ⟨kr, kr, trivial⟩ rfl ?_
  refine ls_rs tbOk ?_
  refine evs (ev_mv (c := nI a1) rfl rfl rfl (evs (ev_mv (c := dL c25_d a0) rfl rfl rfl (evs (ev_len (c1 := dL c25_d a0) rfl rfl rfl (evs (ev_bin (c1 := nI a1) (c2 := nI (List.length a0 : Int)) rfl rfl rfl (evs (ev_as (c := nI (IntKind.i64.wrap (a1 - (List.length a0 : Int)))) rfl rfl rfl (evn ?_))))))))))
  refine ls_keep [(0, dL c25_d a0), (1, nI (IntKind.i64.wrap (a1 - (List.length a0 : Int))))] ⟨kr, kr, trivial⟩ rfl ?_
  refine ls_seq_k fun K1 hK1 => ?_
  refine ls_rs tbOk ?_
  refine evs (ev_mv (c := nI (IntKind.i64.wrap (a1 - (List.length a0 : Int)))) rfl rfl rfl (evs (ev_bin (c1 := nI (IntKind.i64.wrap (a1 - (List.length a0 : Int)))) (c2 := nI 0) rfl rfl rfl (evn ?_))))
  refine ls_keep [(0, dL c25_d a0), (1, nI (IntKind.i64.wrap (a1 - (List.length a0 : Int)))), (11, .bool (decide ((IntKind.i64.wrap (a1 - (List.length a0 : Int))) < 0)))] ⟨kr, kr, kr, trivial⟩ rfl ?_
  rcases cond_some h with ⟨g2, h⟩ | ⟨g2, h⟩
  · refine ls_cT rfl g2 ?_
    refine ls_rs tbOk ?_
    refine evs (ev_ac rfl nofun rfl (evn ?_))
    refine ls_keep [(4, nI (-1))] ⟨kr, trivial⟩ rfl ?_
    refine ls_ret ?_
    have hr := Option.some.inj h
    rw [← hr]
    exact ⟨.inl rfl, rfl⟩
  · refine ls_cF rfl g2 ?_
    refine ls_skip ?_
    refine hK1 _ (ls_keep [(0, dL c25_d a0), (1, nI (IntKind.i64.wrap (a1 - (List.length a0 : Int))))] ⟨kr, kr, trivial⟩ rfl ?_)
    refine ls_seq_k fun K3 hK3 => ?_
    refine ls_rs tbOk ?_
    refine evs (ev_ac rfl nofun rfl (evn ?_))
    refine ls_keep [(0, dL c25_d a0), (1, nI (IntKind.i64.wrap (a1 - (List.length a0 : Int)))), (5, nI 0)] ⟨kr, kr, kr, trivial⟩ rfl ?_
    obtain ⟨o1, hl, hr1⟩ := ob_some h
    clear h
    have kXlaws_szIntSS_B1 : ∀ (z4 : Int), (some z4) = some r → ∀ σ' : PS, okK σ' [(1, nI z4)] → K3 σ' := by
      intro z4 h σ' hk
      refine hK3 _ (ls_keep [(1, nI z4)] hk rfl ?_)
      refine ls_rs tbOk ?_
      refine evs (ev_mv (c := nI z4) rfl rfl rfl (evs (ev_as (c := nI z4) rfl rfl rfl (evn ?_))))
      refine ls_keep [(4, nI z4)] ⟨kr, trivial⟩ rfl ?_
      refine ls_ret ?_
      have hr := Option.some.inj h
      rw [← hr]
      exact ⟨.inl rfl, rfl⟩
    refine ls_rec (fun (s : Int × Int) => match s with | (y1, y2) => [(0, dL c25_d a0), (1, nI y1), (5, nI y2)]) (laws_szIntSS_B1 a0) fz ((IntKind.i64.wrap (a1 - (List.length a0 : Int))), 0) o1 hl ⟨kr, kr, kr, trivial⟩ (fun _ => rfl) ?_
    rintro m ⟨y1, y2⟩ N h hN
    unfold laws_szIntSS_B1 at h
    dsimp only at h
    refine ls_seq_k fun K5 hK5 => ?_
    refine ls_rs tbOk ?_
    refine evs (ev_mv (c := nI y2) rfl rfl rfl (evs (ev_mv (c := dL c25_d a0) rfl rfl rfl (evs (ev_len (c1 := dL c25_d a0) rfl rfl rfl (evs (ev_bin (c1 := nI y2) (c2 := nI (List.length a0 : Int)) rfl rfl rfl (evn ?_))))))))
    refine ls_keep [(0, dL c25_d a0), (1, nI y1), (5, nI y2), (15, .bool (decide (y2 < (List.length a0 : Int))))] ⟨kr, kr, kr, kr, trivial⟩ rfl ?_
    rcases cond_some h with ⟨g6, h⟩ | ⟨g6, h⟩
    · refine ls_cT rfl g6 ?_
      refine ls_skip ?_
      refine hK5 _ (ls_keep [(0, dL c25_d a0), (1, nI y1), (5, nI y2)] ⟨kr, kr, kr, trivial⟩ rfl ?_)
      refine ls_seq_k fun K7 hK7 => ?_
      refine ls_blk ?_
      refine ls_rs tbOk ?_
      refine evs (ev_mv (c := dL c25_d a0) rfl rfl rfl (evs (ev_mv (c := nI y2) rfl rfl rfl (?_))))
      obtain ⟨e8, g9, h⟩ := ob_some h
      refine evs (ev_ia rfl rfl rfl ⟨(geti_some g9).1, (geti_some g9).2.1⟩ (evs (ev_ldE (i := y2) (n := 1) (off := 0) (v := dL ci64 e8) rfl rfl zc25_d g9 rfl (nb rfl) rfl (evs (ev_mv (c := nI y1) rfl rfl rfl (?_))))))
      obtain ⟨v10, g11, h⟩ := ob_some h
      refine evs (ev_call (era rfl (erD eci64 _) (era rfl rfl eran)) (laws_szIntS_s g11) (evs (ev_as (c := nI v10) rfl rfl rfl (evn ?_))))
      refine ls_keep [(0, dL c25_d a0), (1, nI v10), (5, nI y2)] ⟨kr, kr, kr, trivial⟩ rfl ?_
      refine ls_rs tbOk ?_
      refine evs (ev_mv (c := nI v10) rfl rfl rfl (evs (ev_bin (c1 := nI v10) (c2 := nI 0) rfl rfl rfl (evn ?_))))
      refine ls_keep [(0, dL c25_d a0), (1, nI v10), (5, nI y2), (25, .bool (decide (v10 < 0)))] ⟨kr, kr, kr, kr, trivial⟩ rfl ?_
      rcases cond_some h with ⟨g12, h⟩ | ⟨g12, h⟩
      · refine ls_cT rfl g12 ?_
        refine ls_rs tbOk ?_
        refine evs (ev_ac rfl nofun rfl (evn ?_))
        refine ls_keep [(4, nI (-1))] ⟨kr, trivial⟩ rfl ?_
        refine ls_ret ?_
        have q0 := (Option.some.inj h).symm
        have r0 := hr1
        rw [q0] at r0
        have hr := Option.some.inj r0
        rw [← hr]
        exact ⟨.inl rfl, rfl⟩
      · refine ls_cF rfl g12 ?_
        refine ls_skip ?_
        refine hK7 _ (ls_keep [(0, dL c25_d a0), (1, nI v10), (5, nI y2)] ⟨kr, kr, kr, trivial⟩ rfl ?_)
        refine ls_rgn tbOk ?_
        refine evs (ev_mv (c := nI y2) rfl rfl rfl (evs (ev_bin (c1 := nI y2) (c2 := nI 1) rfl rfl rfl (evs (ev_as (c := nI (IntKind.i64.wrap (y2 + 1))) rfl rfl rfl (evn ?_))))))
        exact hN _ (v10, (IntKind.i64.wrap (y2 + 1))) h ⟨kr, kr, kr, trivial⟩
    · refine ls_cF rfl g6 ?_
      refine ls_exit ?_
      have q0 := (Option.some.inj h).symm
      have r0 := hr1
      rw [q0] at r0
      exact kXlaws_szIntSS_B1 y1 r0 _ ⟨kr, trivial⟩
def laws_szRelation (a0 : Y127) (a1 : Int) : Option (Int) := obind (laws_szIntSS a0.2 a1) fun v1 => cond (decide (v1 < 0)) (some (-1)) (some v1)
theorem laws_szRelation_s {a0 : Y127} {a1 : Int} {r : Int} (h : laws_szRelation a0 a1 = some r) : SoundAt Try.prog 235 [.agg (c204_dd a0), nI a1] (nI r) := by
  unfold laws_szRelation at h
  refine sound_lit tbOk lit235 (nb rfl) rfl ?_
  unfold c235
  refine ls_keep [(0, .agg (c204_dd a0)), (1, nI a1)] ⟨kr, kr, trivial⟩ rfl ?_
  refine ls_rs tbOk ?_
  refine evs (ev_bx (c1 := .agg (c204_dd a0)) rfl rfl rfl (evs (ev_ac rfl nofun rfl (evn ?_))))
  refine ls_keep [(1, nI a1), (2, .box [nI a0.1, dL c25_d a0.2])] ⟨kr, kr, trivial⟩ rfl ?_
  refine ls_rs tbOk ?_
  refine evs (ev_fa (c1 := .cref 2 0) (v := .cref 2 1) rfl rfl rfl ⟨_, rfl⟩ rfl (evs (ev_ldB (off := 1) (v := dL c25_d a0.2) rfl rfl rfl rfl (nb rfl) rfl (evs (ev_mv (c := nI a1) rfl rfl rfl (?_))))))
  obtain ⟨v1, g2, h⟩ := ob_some h
  refine evs (ev_call (era rfl (erD ec25_d _) (era rfl rfl eran)) (laws_szIntSS_s g2) (evs (ev_as (c := nI v1) rfl rfl rfl (evn ?_))))
  refine ls_keep [(1, nI v1)] ⟨kr, trivial⟩ rfl ?_
  refine ls_seq_k fun K3 hK3 => ?_
  refine ls_rs tbOk ?_
  refine evs (ev_mv (c := nI v1) rfl rfl rfl (evs (ev_bin (c1 := nI v1) (c2 := nI 0) rfl rfl rfl (evn ?_))))
  refine ls_keep [(1, nI v1), (10, .bool (decide (v1 < 0)))] ⟨kr, kr, trivial⟩ rfl ?_
  rcases cond_some h with ⟨g4, h⟩ | ⟨g4, h⟩
  · refine ls_cT rfl g4 ?_
    refine ls_rs tbOk ?_
    refine evs (ev_ac rfl nofun rfl (evn ?_))
    refine ls_keep [(4, nI (-1))] ⟨kr, trivial⟩ rfl ?_
    refine ls_ret ?_
    have hr := Option.some.inj h
    rw [← hr]
    exact ⟨.inl rfl, rfl⟩
  · refine ls_cF rfl g4 ?_
    refine ls_skip ?_
    refine hK3 _ (ls_keep [(1, nI v1)] ⟨kr, trivial⟩ rfl ?_)
    refine ls_rs tbOk ?_
    refine evs (ev_mv (c := nI v1) rfl rfl rfl (evs (ev_as (c := nI v1) rfl rfl rfl (evn ?_))))
    refine ls_keep [(4, nI v1)] ⟨kr, trivial⟩ rfl ?_
    refine ls_ret ?_
    have hr := Option.some.inj h
    rw [← hr]
    exact ⟨.inl rfl, rfl⟩
def laws_szTable (a0 : Y205) (a1 : Int) : Option (Int) := cond (decide ((IntKind.i64.wrap (a1 - (List.length a0.1 : Int))) < 0)) (some (-1)) (obind (laws_szRelation a0.2 (IntKind.i64.wrap (a1 - (List.length a0.1 : Int)))) fun v3 => cond (decide (v3 < 0)) (some (-1)) (some v3))
theorem laws_szTable_s {a0 : Y205} {a1 : Int} {r : Int} (h : laws_szTable a0 a1 = some r) : SoundAt Try.prog 171 [.agg (c206_dd a0), nI a1] (nI r) := by
  unfold laws_szTable at h
  refine sound_lit tbOk lit171 (nb rfl) rfl ?_
  unfold c171
  refine ls_keep [(0, .agg (c206_dd a0)), (1, nI a1)] ⟨kr, kr, trivial⟩ rfl ?_
  refine ls_rs tbOk ?_
  refine evs (ev_bx (c1 := .agg (c206_dd a0)) rfl rfl rfl (evs (ev_ac rfl nofun rfl (evn ?_))))
  refine ls_keep [(1, nI a1), (2, .box [.str a0.1, nI a0.2.1, dL c25_d a0.2.2])] ⟨kr, kr, trivial⟩ rfl ?_
  refine ls_rs tbOk ?_
  refine evs (ev_mv (c := nI a1) rfl rfl rfl (evs (ev_fa (c1 := .cref 2 0) (v := .cref 2 0) rfl rfl rfl ⟨_, rfl⟩ rfl (evs (ev_ldB (off := 0) (v := .str a0.1) rfl rfl rfl rfl (nb rfl) rfl (evs (ev_lens (z := []) rfl rfl (evs (ev_bin (c1 := nI a1) (c2 := nI (List.length a0.1 : Int)) rfl rfl rfl (evs (ev_as (c := nI (IntKind.i64.wrap (a1 - (List.length a0.1 : Int)))) rfl rfl rfl (evn ?_))))))))))))
  refine ls_keep [(1, nI (IntKind.i64.wrap (a1 - (List.length a0.1 : Int)))), (2, .box [.str a0.1, nI a0.2.1, dL c25_d a0.2.2])] ⟨kr, kr, trivial⟩ rfl ?_
  refine ls_seq_k fun K1 hK1 => ?_
  refine ls_rs tbOk ?_
  refine evs (ev_mv (c := nI (IntKind.i64.wrap (a1 - (List.length a0.1 : Int)))) rfl rfl rfl (evs (ev_bin (c1 := nI (IntKind.i64.wrap (a1 - (List.length a0.1 : Int)))) (c2 := nI 0) rfl rfl rfl (evn ?_))))
  refine ls_keep [(1, nI (IntKind.i64.wrap (a1 - (List.length a0.1 : Int)))), (2, .box [.str a0.1, nI a0.2.1, dL c25_d a0.2.2]), (11, .bool (decide ((IntKind.i64.wrap (a1 - (List.length a0.1 : Int))) < 0)))] ⟨kr, kr, kr, trivial⟩ rfl ?_
  rcases cond_some h with ⟨g2, h⟩ | ⟨g2, h⟩
  · refine ls_cT rfl g2 ?_
    refine ls_rs tbOk ?_
    refine evs (ev_ac rfl nofun rfl (evn ?_))
    refine ls_keep [(4, nI (-1))] ⟨kr, trivial⟩ rfl ?_
    refine ls_ret ?_
    have hr := Option.some.inj h
    rw [← hr]
    exact ⟨.inl rfl, rfl⟩
  · refine ls_cF rfl g2 ?_
    refine ls_skip ?_
    refine hK1 _ (ls_keep [(1, nI (IntKind.i64.wrap (a1 - (List.length a0.1 : Int)))), (2, .box [.str a0.1, nI a0.2.1, dL c25_d a0.2.2])] ⟨kr, kr, trivial⟩ rfl ?_)
    refine ls_rs tbOk ?_
    refine evs (ev_fa (c1 := .cref 2 0) (v := .cref 2 1) rfl rfl rfl ⟨_, rfl⟩ rfl (evs (ev_ldB (off := 1) (v := .agg (c204_dd a0.2)) rfl rfl rfl rfl (nb rfl) rfl (evs (ev_mv (c := nI (IntKind.i64.wrap (a1 - (List.length a0.1 : Int)))) rfl rfl rfl (?_))))))
    obtain ⟨v3, g4, h⟩ := ob_some h
    refine evs (ev_call (era rfl (erg (erc rfl (erc (erD ec25_d _) rfl))) (era rfl rfl eran)) (laws_szRelation_s g4) (evs (ev_as (c := nI v3) rfl rfl rfl (evn ?_))))
    refine ls_keep [(1, nI v3)] ⟨kr, trivial⟩ rfl ?_
    refine ls_seq_k fun K5 hK5 => ?_
    refine ls_rs tbOk ?_
    refine evs (ev_mv (c := nI v3) rfl rfl rfl (evs (ev_bin (c1 := nI v3) (c2 := nI 0) rfl rfl rfl (evn ?_))))
    refine ls_keep [(1, nI v3), (17, .bool (decide (v3 < 0)))] ⟨kr, kr, trivial⟩ rfl ?_
    rcases cond_some h with ⟨g6, h⟩ | ⟨g6, h⟩
    · refine ls_cT rfl g6 ?_
      refine ls_rs tbOk ?_
      refine evs (ev_ac rfl nofun rfl (evn ?_))
      refine ls_keep [(4, nI (-1))] ⟨kr, trivial⟩ rfl ?_
      refine ls_ret ?_
      have hr := Option.some.inj h
      rw [← hr]
      exact ⟨.inl rfl, rfl⟩
    · refine ls_cF rfl g6 ?_
      refine ls_skip ?_
      refine hK5 _ (ls_keep [(1, nI v3)] ⟨kr, trivial⟩ rfl ?_)
      refine ls_rs tbOk ?_
      refine evs (ev_mv (c := nI v3) rfl rfl rfl (evs (ev_as (c := nI v3) rfl rfl rfl (evn ?_))))
      refine ls_keep [(4, nI v3)] ⟨kr, trivial⟩ rfl ?_
      refine ls_ret ?_
      have hr := Option.some.inj h
      rw [← hr]
      exact ⟨.inl rfl, rfl⟩
def laws_szTableS_B1 (a0 : List Y205) (rec : (Int × Int) → Option (Sum (Int) (Int))) (s : Int × Int) : Option (Sum (Int) (Int)) := match s with
  | (y1, y2) => cond (decide (y2 < (List.length a0 : Int))) (obind (geti a0 y2) fun e8 => obind (laws_szTable e8 y1) fun v10 => cond (decide (v10 < 0)) (some (.inr (-1))) (rec (v10, (IntKind.i64.wrap (y2 + 1))))) (some (.inl y1))
def laws_szTableS (a0 : List Y205) (a1 : Int) : Option (Int) := cond (decide ((IntKind.i64.wrap (a1 - (List.length a0 : Int))) < 0)) (some (-1)) (obind (loopF (laws_szTableS_B1 a0) fz ((IntKind.i64.wrap (a1 - (List.length a0 : Int))), 0)) fun o1 => (match o1 with
  | .inl z4 => (some z4)
  | .inr r => some r))
theorem laws_szTableS_s {a0 : List Y205} {a1 : Int} {r : Int} (h : laws_szTableS a0 a1 = some r) : SoundAt Try.prog 71 [dL c206_dd a0, nI a1] (nI r) := by
  unfold laws_szTableS at h
  refine sound_lit tbOk lit71 (nb rfl) rfl ?_
  unfold c71
  refine ls_keep [(0, dL c206_dd a0), (1, nI a1)] ⟨kr, kr, trivial⟩ rfl ?_
  refine ls_rs tbOk ?_
  refine evs (ev_ac rfl nofun rfl (evn ?_))
  refine ls_keep [(0, dL c206_dd a0), (1, nI a1)] ⟨kr, kr, trivial⟩ rfl ?_
  refine ls_rs tbOk ?_
  refine evs (ev_mv (c := nI a1) rfl rfl rfl (evs (ev_mv (c := dL c206_dd a0) rfl rfl rfl (evs (ev_len (c1 := dL c206_dd a0) rfl rfl rfl (evs (ev_bin (c1 := nI a1) (c2 := nI (List.length a0 : Int)) rfl rfl rfl (evs (ev_as (c := nI (IntKind.i64.wrap (a1 - (List.length a0 : Int)))) rfl rfl rfl (evn ?_))))))))))
  refine ls_keep [(0, dL c206_dd a0), (1, nI (IntKind.i64.wrap (a1 - (List.length a0 : Int))))] ⟨kr, kr, trivial⟩ rfl ?_
  refine ls_seq_k fun K1 hK1 => ?_
  refine ls_rs tbOk ?_
  refine evs (ev_mv (c := nI (IntKind.i64.wrap (a1 - (List.length a0 : Int)))) rfl rfl rfl (evs (ev_bin (c1 := nI (IntKind.i64.wrap (a1 - (List.length a0 : Int)))) (c2 := nI 0) rfl rfl rfl (evn ?_))))
  refine ls_keep [(0, dL c206_dd a0), (1, nI (IntKind.i64.wrap (a1 - (List.length a0 : Int)))), (11, .bool (decide ((IntKind.i64.wrap (a1 - (List.length a0 : Int))) < 0)))] ⟨kr, kr, kr, trivial⟩ rfl ?_
  rcases cond_some h with ⟨g2, h⟩ | ⟨g2, h⟩
  · refine ls_cT rfl g2 ?_
    refine ls_rs tbOk ?_
    refine evs (ev_ac rfl nofun rfl (evn ?_))
    refine ls_keep [(4, nI (-1))] ⟨kr, trivial⟩ rfl ?_
    refine ls_ret ?_
    have hr := Option.some.inj h
    rw [← hr]
    exact ⟨.inl rfl, rfl⟩
  · refine ls_cF rfl g2 ?_
    refine ls_skip ?_
    refine hK1 _ (ls_keep [(0, dL c206_dd a0), (1, nI (IntKind.i64.wrap (a1 - (List.length a0 : Int))))] ⟨kr, kr, trivial⟩ rfl ?_)
    refine ls_seq_k fun K3 hK3 => ?_
    refine ls_rs tbOk ?_
    refine evs (ev_ac rfl nofun rfl (evn ?_))
    refine ls_keep [(0, dL c206_dd a0), (1, nI (IntKind.i64.wrap (a1 - (List.length a0 : Int)))), (5, nI 0)] ⟨kr, kr, kr, trivial⟩ rfl ?_
    obtain ⟨o1, hl, hr1⟩ := ob_some h
    clear h
    have kXlaws_szTableS_B1 : ∀ (z4 : Int), (some z4) = some r → ∀ σ' : PS, okK σ' [(1, nI z4)] → K3 σ' := by
      intro z4 h σ' hk
      refine hK3 _ (ls_keep [(1, nI z4)] hk rfl ?_)
      refine ls_rs tbOk ?_
      refine evs (ev_mv (c := nI z4) rfl rfl rfl (evs (ev_as (c := nI z4) rfl rfl rfl (evn ?_))))
      refine ls_keep [(4, nI z4)] ⟨kr, trivial⟩ rfl ?_
      refine ls_ret ?_
      have hr := Option.some.inj h
      rw [← hr]
      exact ⟨.inl rfl, rfl⟩
    refine ls_rec (fun (s : Int × Int) => match s with | (y1, y2) => [(0, dL c206_dd a0), (1, nI y1), (5, nI y2)]) (laws_szTableS_B1 a0) fz ((IntKind.i64.wrap (a1 - (List.length a0 : Int))), 0) o1 hl ⟨kr, kr, kr, trivial⟩ (fun _ => rfl) ?_
    rintro m ⟨y1, y2⟩ N h hN
    unfold laws_szTableS_B1 at h
    dsimp only at h
    refine ls_seq_k fun K5 hK5 => ?_
    refine ls_rs tbOk ?_
    refine evs (ev_mv (c := nI y2) rfl rfl rfl (evs (ev_mv (c := dL c206_dd a0) rfl rfl rfl (evs (ev_len (c1 := dL c206_dd a0) rfl rfl rfl (evs (ev_bin (c1 := nI y2) (c2 := nI (List.length a0 : Int)) rfl rfl rfl (evn ?_))))))))
    refine ls_keep [(0, dL c206_dd a0), (1, nI y1), (5, nI y2), (15, .bool (decide (y2 < (List.length a0 : Int))))] ⟨kr, kr, kr, kr, trivial⟩ rfl ?_
    rcases cond_some h with ⟨g6, h⟩ | ⟨g6, h⟩
    · refine ls_cT rfl g6 ?_
      refine ls_skip ?_
      refine hK5 _ (ls_keep [(0, dL c206_dd a0), (1, nI y1), (5, nI y2)] ⟨kr, kr, kr, trivial⟩ rfl ?_)
      refine ls_seq_k fun K7 hK7 => ?_
      refine ls_blk ?_
      refine ls_rs tbOk ?_
      refine evs (ev_mv (c := dL c206_dd a0) rfl rfl rfl (evs (ev_mv (c := nI y2) rfl rfl rfl (?_))))
      obtain ⟨e8, g9, h⟩ := ob_some h
      refine evs (ev_ia rfl rfl rfl ⟨(geti_some g9).1, (geti_some g9).2.1⟩ (evs (ev_ldE (i := y2) (n := 3) (off := 0) (v := .agg (c206_dd e8)) rfl rfl zc206_dd g9 rfl (nb rfl) rfl (evs (ev_mv (c := nI y1) rfl rfl rfl (?_))))))
      obtain ⟨v10, g11, h⟩ := ob_some h
      refine evs (ev_call (era rfl (erg (erc rfl (erc rfl (erc (erD ec25_d _) rfl)))) (era rfl rfl eran)) (laws_szTable_s g11) (evs (ev_as (c := nI v10) rfl rfl rfl (evn ?_))))
      refine ls_keep [(0, dL c206_dd a0), (1, nI v10), (5, nI y2)] ⟨kr, kr, kr, trivial⟩ rfl ?_
      refine ls_rs tbOk ?_
      refine evs (ev_mv (c := nI v10) rfl rfl rfl (evs (ev_bin (c1 := nI v10) (c2 := nI 0) rfl rfl rfl (evn ?_))))
      refine ls_keep [(0, dL c206_dd a0), (1, nI v10), (5, nI y2), (25, .bool (decide (v10 < 0)))] ⟨kr, kr, kr, kr, trivial⟩ rfl ?_
      rcases cond_some h with ⟨g12, h⟩ | ⟨g12, h⟩
      · refine ls_cT rfl g12 ?_
        refine ls_rs tbOk ?_
        refine evs (ev_ac rfl nofun rfl (evn ?_))
        refine ls_keep [(4, nI (-1))] ⟨kr, trivial⟩ rfl ?_
        refine ls_ret ?_
        have q0 := (Option.some.inj h).symm
        have r0 := hr1
        rw [q0] at r0
        have hr := Option.some.inj r0
        rw [← hr]
        exact ⟨.inl rfl, rfl⟩
      · refine ls_cF rfl g12 ?_
        refine ls_skip ?_
        refine hK7 _ (ls_keep [(0, dL c206_dd a0), (1, nI v10), (5, nI y2)] ⟨kr, kr, kr, trivial⟩ rfl ?_)
        refine ls_rgn tbOk ?_
        refine evs (ev_mv (c := nI y2) rfl rfl rfl (evs (ev_bin (c1 := nI y2) (c2 := nI 1) rfl rfl rfl (evs (ev_as (c := nI (IntKind.i64.wrap (y2 + 1))) rfl rfl rfl (evn ?_))))))
        exact hN _ (v10, (IntKind.i64.wrap (y2 + 1))) h ⟨kr, kr, kr, trivial⟩
    · refine ls_cF rfl g6 ?_
      refine ls_exit ?_
      have q0 := (Option.some.inj h).symm
      have r0 := hr1
      rw [q0] at r0
      exact kXlaws_szTableS_B1 y1 r0 _ ⟨kr, trivial⟩
def laws_szDatabase (a0 : List Y205) (a1 : Int) : Option (Int) := obind (laws_szTableS a0 a1) fun v1 => cond (decide (v1 < 0)) (some (-1)) (some v1)
theorem laws_szDatabase_s {a0 : List Y205} {a1 : Int} {r : Int} (h : laws_szDatabase a0 a1 = some r) : SoundAt Try.prog 13 [.agg [dL c206_dd a0], nI a1] (nI r) := by
  unfold laws_szDatabase at h
  refine sound_lit tbOk lit13 (nb rfl) rfl ?_
  unfold c13
  refine ls_keep [(0, .agg [dL c206_dd a0]), (1, nI a1)] ⟨kr, kr, trivial⟩ rfl ?_
  refine ls_rs tbOk ?_
  refine evs (ev_bx (c1 := .agg [dL c206_dd a0]) rfl rfl rfl (evs (ev_ac rfl nofun rfl (evn ?_))))
  refine ls_keep [(1, nI a1), (2, .box [dL c206_dd a0])] ⟨kr, kr, trivial⟩ rfl ?_
  refine ls_rs tbOk ?_
  refine evs (ev_fa (c1 := .cref 2 0) (v := .cref 2 0) rfl rfl rfl ⟨_, rfl⟩ rfl (evs (ev_ldB (off := 0) (v := dL c206_dd a0) rfl rfl rfl rfl (nb rfl) rfl (evs (ev_mv (c := nI a1) rfl rfl rfl (?_))))))
  obtain ⟨v1, g2, h⟩ := ob_some h
  refine evs (ev_call (era rfl (erD ec206_dd _) (era rfl rfl eran)) (laws_szTableS_s g2) (evs (ev_as (c := nI v1) rfl rfl rfl (evn ?_))))
  refine ls_keep [(1, nI v1)] ⟨kr, trivial⟩ rfl ?_
  refine ls_seq_k fun K3 hK3 => ?_
  refine ls_rs tbOk ?_
  refine evs (ev_mv (c := nI v1) rfl rfl rfl (evs (ev_bin (c1 := nI v1) (c2 := nI 0) rfl rfl rfl (evn ?_))))
  refine ls_keep [(1, nI v1), (10, .bool (decide (v1 < 0)))] ⟨kr, kr, trivial⟩ rfl ?_
  rcases cond_some h with ⟨g4, h⟩ | ⟨g4, h⟩
  · refine ls_cT rfl g4 ?_
    refine ls_rs tbOk ?_
    refine evs (ev_ac rfl nofun rfl (evn ?_))
    refine ls_keep [(4, nI (-1))] ⟨kr, trivial⟩ rfl ?_
    refine ls_ret ?_
    have hr := Option.some.inj h
    rw [← hr]
    exact ⟨.inl rfl, rfl⟩
  · refine ls_cF rfl g4 ?_
    refine ls_skip ?_
    refine hK3 _ (ls_keep [(1, nI v1)] ⟨kr, trivial⟩ rfl ?_)
    refine ls_rs tbOk ?_
    refine evs (ev_mv (c := nI v1) rfl rfl rfl (evs (ev_as (c := nI v1) rfl rfl rfl (evn ?_))))
    refine ls_keep [(4, nI v1)] ⟨kr, trivial⟩ rfl ?_
    refine ls_ret ?_
    have hr := Option.some.inj h
    rw [← hr]
    exact ⟨.inl rfl, rfl⟩
def laws_szDatabaseS_B1 (a0 : List (List Y205)) (rec : (Int × Int) → Option (Sum (Int) (Int))) (s : Int × Int) : Option (Sum (Int) (Int)) := match s with
  | (y1, y2) => cond (decide (y2 < (List.length a0 : Int))) (obind (geti a0 y2) fun e8 => obind (laws_szDatabase e8 y1) fun v10 => cond (decide (v10 < 0)) (some (.inr (-1))) (rec (v10, (IntKind.i64.wrap (y2 + 1))))) (some (.inl y1))
def laws_szDatabaseS (a0 : List (List Y205)) (a1 : Int) : Option (Int) := cond (decide ((IntKind.i64.wrap (a1 - (List.length a0 : Int))) < 0)) (some (-1)) (obind (loopF (laws_szDatabaseS_B1 a0) fz ((IntKind.i64.wrap (a1 - (List.length a0 : Int))), 0)) fun o1 => (match o1 with
  | .inl z4 => (some z4)
  | .inr r => some r))
theorem laws_szDatabaseS_s {a0 : List (List Y205)} {a1 : Int} {r : Int} (h : laws_szDatabaseS a0 a1 = some r) : SoundAt Try.prog 84 [dL c24_ddd a0, nI a1] (nI r) := by
  unfold laws_szDatabaseS at h
  refine sound_lit tbOk lit84 (nb rfl) rfl ?_
  unfold c84
  refine ls_keep [(0, dL c24_ddd a0), (1, nI a1)] ⟨kr, kr, trivial⟩ rfl ?_
  refine ls_rs tbOk ?_
  refine evs (ev_ac rfl nofun rfl (evn ?_))
  refine ls_keep [(0, dL c24_ddd a0), (1, nI a1)] ⟨kr, kr, trivial⟩ rfl ?_
  refine ls_rs tbOk ?_
  refine evs (ev_mv (c := nI a1) rfl rfl rfl (evs (ev_mv (c := dL c24_ddd a0) rfl rfl rfl (evs (ev_len (c1 := dL c24_ddd a0) rfl rfl rfl (evs (ev_bin (c1 := nI a1) (c2 := nI (List.length a0 : Int)) rfl rfl rfl (evs (ev_as (c := nI (IntKind.i64.wrap (a1 - (List.length a0 : Int)))) rfl rfl rfl (evn ?_))))))))))
  refine ls_keep [(0, dL c24_ddd a0), (1, nI (IntKind.i64.wrap (a1 - (List.length a0 : Int))))] ⟨kr, kr, trivial⟩ rfl ?_
  refine ls_seq_k fun K1 hK1 => ?_
  refine ls_rs tbOk ?_
  refine evs (ev_mv (c := nI (IntKind.i64.wrap (a1 - (List.length a0 : Int)))) rfl rfl rfl (evs (ev_bin (c1 := nI (IntKind.i64.wrap (a1 - (List.length a0 : Int)))) (c2 := nI 0) rfl rfl rfl (evn ?_))))
  refine ls_keep [(0, dL c24_ddd a0), (1, nI (IntKind.i64.wrap (a1 - (List.length a0 : Int)))), (11, .bool (decide ((IntKind.i64.wrap (a1 - (List.length a0 : Int))) < 0)))] ⟨kr, kr, kr, trivial⟩ rfl ?_
  rcases cond_some h with ⟨g2, h⟩ | ⟨g2, h⟩
  · refine ls_cT rfl g2 ?_
    refine ls_rs tbOk ?_
    refine evs (ev_ac rfl nofun rfl (evn ?_))
    refine ls_keep [(4, nI (-1))] ⟨kr, trivial⟩ rfl ?_
    refine ls_ret ?_
    have hr := Option.some.inj h
    rw [← hr]
    exact ⟨.inl rfl, rfl⟩
  · refine ls_cF rfl g2 ?_
    refine ls_skip ?_
    refine hK1 _ (ls_keep [(0, dL c24_ddd a0), (1, nI (IntKind.i64.wrap (a1 - (List.length a0 : Int))))] ⟨kr, kr, trivial⟩ rfl ?_)
    refine ls_seq_k fun K3 hK3 => ?_
    refine ls_rs tbOk ?_
    refine evs (ev_ac rfl nofun rfl (evn ?_))
    refine ls_keep [(0, dL c24_ddd a0), (1, nI (IntKind.i64.wrap (a1 - (List.length a0 : Int)))), (5, nI 0)] ⟨kr, kr, kr, trivial⟩ rfl ?_
    obtain ⟨o1, hl, hr1⟩ := ob_some h
    clear h
    have kXlaws_szDatabaseS_B1 : ∀ (z4 : Int), (some z4) = some r → ∀ σ' : PS, okK σ' [(1, nI z4)] → K3 σ' := by
      intro z4 h σ' hk
      refine hK3 _ (ls_keep [(1, nI z4)] hk rfl ?_)
      refine ls_rs tbOk ?_
      refine evs (ev_mv (c := nI z4) rfl rfl rfl (evs (ev_as (c := nI z4) rfl rfl rfl (evn ?_))))
      refine ls_keep [(4, nI z4)] ⟨kr, trivial⟩ rfl ?_
      refine ls_ret ?_
      have hr := Option.some.inj h
      rw [← hr]
      exact ⟨.inl rfl, rfl⟩
    refine ls_rec (fun (s : Int × Int) => match s with | (y1, y2) => [(0, dL c24_ddd a0), (1, nI y1), (5, nI y2)]) (laws_szDatabaseS_B1 a0) fz ((IntKind.i64.wrap (a1 - (List.length a0 : Int))), 0) o1 hl ⟨kr, kr, kr, trivial⟩ (fun _ => rfl) ?_
    rintro m ⟨y1, y2⟩ N h hN
    unfold laws_szDatabaseS_B1 at h
    dsimp only at h
    refine ls_seq_k fun K5 hK5 => ?_
    refine ls_rs tbOk ?_
    refine evs (ev_mv (c := nI y2) rfl rfl rfl (evs (ev_mv (c := dL c24_ddd a0) rfl rfl rfl (evs (ev_len (c1 := dL c24_ddd a0) rfl rfl rfl (evs (ev_bin (c1 := nI y2) (c2 := nI (List.length a0 : Int)) rfl rfl rfl (evn ?_))))))))
    refine ls_keep [(0, dL c24_ddd a0), (1, nI y1), (5, nI y2), (15, .bool (decide (y2 < (List.length a0 : Int))))] ⟨kr, kr, kr, kr, trivial⟩ rfl ?_
    rcases cond_some h with ⟨g6, h⟩ | ⟨g6, h⟩
    · refine ls_cT rfl g6 ?_
      refine ls_skip ?_
      refine hK5 _ (ls_keep [(0, dL c24_ddd a0), (1, nI y1), (5, nI y2)] ⟨kr, kr, kr, trivial⟩ rfl ?_)
      refine ls_seq_k fun K7 hK7 => ?_
      refine ls_blk ?_
      refine ls_rs tbOk ?_
      refine evs (ev_mv (c := dL c24_ddd a0) rfl rfl rfl (evs (ev_mv (c := nI y2) rfl rfl rfl (?_))))
      obtain ⟨e8, g9, h⟩ := ob_some h
      refine evs (ev_ia rfl rfl rfl ⟨(geti_some g9).1, (geti_some g9).2.1⟩ (evs (ev_ldE (i := y2) (n := 1) (off := 0) (v := .agg [dL c206_dd e8]) rfl rfl zc24_ddd g9 rfl (nb rfl) rfl (evs (ev_mv (c := nI y1) rfl rfl rfl (?_))))))
      obtain ⟨v10, g11, h⟩ := ob_some h
      refine evs (ev_call (era rfl (erg (erc (erD ec206_dd _) rfl)) (era rfl rfl eran)) (laws_szDatabase_s g11) (evs (ev_as (c := nI v10) rfl rfl rfl (evn ?_))))
      refine ls_keep [(0, dL c24_ddd a0), (1, nI v10), (5, nI y2)] ⟨kr, kr, kr, trivial⟩ rfl ?_
      refine ls_rs tbOk ?_
      refine evs (ev_mv (c := nI v10) rfl rfl rfl (evs (ev_bin (c1 := nI v10) (c2 := nI 0) rfl rfl rfl (evn ?_))))
      refine ls_keep [(0, dL c24_ddd a0), (1, nI v10), (5, nI y2), (25, .bool (decide (v10 < 0)))] ⟨kr, kr, kr, kr, trivial⟩ rfl ?_
      rcases cond_some h with ⟨g12, h⟩ | ⟨g12, h⟩
      · refine ls_cT rfl g12 ?_
        refine ls_rs tbOk ?_
        refine evs (ev_ac rfl nofun rfl (evn ?_))
        refine ls_keep [(4, nI (-1))] ⟨kr, trivial⟩ rfl ?_
        refine ls_ret ?_
        have q0 := (Option.some.inj h).symm
        have r0 := hr1
        rw [q0] at r0
        have hr := Option.some.inj r0
        rw [← hr]
        exact ⟨.inl rfl, rfl⟩
      · refine ls_cF rfl g12 ?_
        refine ls_skip ?_
        refine hK7 _ (ls_keep [(0, dL c24_ddd a0), (1, nI v10), (5, nI y2)] ⟨kr, kr, kr, trivial⟩ rfl ?_)
        refine ls_rgn tbOk ?_
        refine evs (ev_mv (c := nI y2) rfl rfl rfl (evs (ev_bin (c1 := nI y2) (c2 := nI 1) rfl rfl rfl (evs (ev_as (c := nI (IntKind.i64.wrap (y2 + 1))) rfl rfl rfl (evn ?_))))))
        exact hN _ (v10, (IntKind.i64.wrap (y2 + 1))) h ⟨kr, kr, kr, trivial⟩
    · refine ls_cF rfl g6 ?_
      refine ls_exit ?_
      have q0 := (Option.some.inj h).symm
      have r0 := hr1
      rw [q0] at r0
      exact kXlaws_szDatabaseS_B1 y1 r0 _ ⟨kr, trivial⟩
def laws_szHistory (a0 : Y45) (a1 : Int) : Option (Int) := obind (laws_szDatabaseS a0.2 a1) fun v1 => cond (decide (v1 < 0)) (some (-1)) (some v1)
theorem laws_szHistory_s {a0 : Y45} {a1 : Int} {r : Int} (h : laws_szHistory a0 a1 = some r) : SoundAt Try.prog 26 [.agg (c46_dddd a0), nI a1] (nI r) := by
  unfold laws_szHistory at h
  refine sound_lit tbOk lit26 (nb rfl) rfl ?_
  unfold c26
  refine ls_keep [(0, .agg (c46_dddd a0)), (1, nI a1)] ⟨kr, kr, trivial⟩ rfl ?_
  refine ls_rs tbOk ?_
  refine evs (ev_bx (c1 := .agg (c46_dddd a0)) rfl rfl rfl (evs (ev_ac rfl nofun rfl (evn ?_))))
  refine ls_keep [(1, nI a1), (2, .box [nI a0.1, dL c24_ddd a0.2])] ⟨kr, kr, trivial⟩ rfl ?_
  refine ls_rs tbOk ?_
  refine evs (ev_fa (c1 := .cref 2 0) (v := .cref 2 1) rfl rfl rfl ⟨_, rfl⟩ rfl (evs (ev_ldB (off := 1) (v := dL c24_ddd a0.2) rfl rfl rfl rfl (nb rfl) rfl (evs (ev_mv (c := nI a1) rfl rfl rfl (?_))))))
  obtain ⟨v1, g2, h⟩ := ob_some h
  refine evs (ev_call (era rfl (erD ec24_ddd _) (era rfl rfl eran)) (laws_szDatabaseS_s g2) (evs (ev_as (c := nI v1) rfl rfl rfl (evn ?_))))
  refine ls_keep [(1, nI v1)] ⟨kr, trivial⟩ rfl ?_
  refine ls_seq_k fun K3 hK3 => ?_
  refine ls_rs tbOk ?_
  refine evs (ev_mv (c := nI v1) rfl rfl rfl (evs (ev_bin (c1 := nI v1) (c2 := nI 0) rfl rfl rfl (evn ?_))))
  refine ls_keep [(1, nI v1), (10, .bool (decide (v1 < 0)))] ⟨kr, kr, trivial⟩ rfl ?_
  rcases cond_some h with ⟨g4, h⟩ | ⟨g4, h⟩
  · refine ls_cT rfl g4 ?_
    refine ls_rs tbOk ?_
    refine evs (ev_ac rfl nofun rfl (evn ?_))
    refine ls_keep [(4, nI (-1))] ⟨kr, trivial⟩ rfl ?_
    refine ls_ret ?_
    have hr := Option.some.inj h
    rw [← hr]
    exact ⟨.inl rfl, rfl⟩
  · refine ls_cF rfl g4 ?_
    refine ls_skip ?_
    refine hK3 _ (ls_keep [(1, nI v1)] ⟨kr, trivial⟩ rfl ?_)
    refine ls_rs tbOk ?_
    refine evs (ev_mv (c := nI v1) rfl rfl rfl (evs (ev_as (c := nI v1) rfl rfl rfl (evn ?_))))
    refine ls_keep [(4, nI v1)] ⟨kr, trivial⟩ rfl ?_
    refine ls_ret ?_
    have hr := Option.some.inj h
    rw [← hr]
    exact ⟨.inl rfl, rfl⟩
def laws_toIntS_B1 (a0 : List Int) (rec : ((List Int) × Int) → Option ((List Int))) (s : (List Int) × Int) : Option ((List Int)) := match s with
  | (y1, y2) => cond (decide (y2 < (List.length a0 : Int))) (obind (geti a0 y2) fun e7 => obind (geti y1 y2) fun e9 => rec ((seti y1 y2 e7), (IntKind.i64.wrap (y2 + 1)))) (some y1)
def laws_toIntS (a0 : List Int) : Option ((List Int)) := chk ((0 : Int) ≤ (List.length a0 : Int) ∧ Int.toNat (List.length a0 : Int) ≤ lim) (obind (loopF (laws_toIntS_B1 a0) fz ((List.replicate (Int.toNat (List.length a0 : Int)) (0 : Int)), 0)) fun z3 => some z3)
theorem laws_toIntS_s {a0 : List Int} {r : (List Int)} (h : laws_toIntS a0 = some r) : SoundAt Try.prog 58 [dL ci64 a0] (oL 3 ci64 r) := by
  unfold laws_toIntS at h
  refine sound_lit tbOk lit58 (nb rfl) rfl ?_
  unfold c58
  refine ls_keep [(0, dL ci64 a0)] ⟨kr, trivial⟩ rfl ?_
  refine ls_rs tbOk ?_
  refine evs (ev_an rfl rfl (evn ?_))
  refine ls_keep [(0, dL ci64 a0)] ⟨kr, trivial⟩ rfl ?_
  refine ls_rs tbOk ?_
  refine evs (ev_mv (c := dL ci64 a0) rfl rfl rfl (evs (ev_len (c1 := dL ci64 a0) rfl rfl rfl (?_))))
  obtain ⟨g1, h⟩ := chk_some h
  refine evs (ev_mku (f := ci64) (z := (0 : Int)) rfl rfl rfl rfl rfl rfl g1 rfl (evs (ev_asu rfl rfl rfl (evn ?_))))
  refine ls_keep [(0, dL ci64 a0), (3, wL 3 ci64 (List.replicate (Int.toNat (List.length a0 : Int)) (0 : Int)))] ⟨kr, kr, trivial⟩ rfl ?_
  refine ls_seq_k fun K2 hK2 => ?_
  refine ls_rs tbOk ?_
  refine evs (ev_ac rfl nofun rfl (evn ?_))
  refine ls_keep [(0, dL ci64 a0), (3, wL 3 ci64 (List.replicate (Int.toNat (List.length a0 : Int)) (0 : Int))), (4, nI 0)] ⟨kr, kr, kr, trivial⟩ rfl ?_
  obtain ⟨o1, hl, hr1⟩ := ob_some h
  clear h
  have kXlaws_toIntS_B1 : ∀ (z3 : List Int), (some z3) = some r → ∀ σ' : PS, okK σ' [(3, wL 3 ci64 z3)] → K2 σ' := by
    intro z3 h σ' hk
    refine hK2 _ (ls_keep [(3, wL 3 ci64 z3)] hk rfl ?_)
    refine ls_rs tbOk ?_
    refine evs (ev_mvtu rfl rfl (evs (ev_as (c := oL 3 ci64 z3) rfl rfl rfl (evn ?_))))
    refine ls_keep [(2, oL 3 ci64 z3)] ⟨kr, trivial⟩ rfl ?_
    refine ls_ret ?_
    have hr := Option.some.inj h
    rw [← hr]
    exact ⟨.inl rfl, rfl⟩
  refine ls_rec (fun (s : (List Int) × Int) => match s with | (y1, y2) => [(0, dL ci64 a0), (3, wL 3 ci64 y1), (4, nI y2)]) (laws_toIntS_B1 a0) fz ((List.replicate (Int.toNat (List.length a0 : Int)) (0 : Int)), 0) o1 hl ⟨kr, kr, kr, trivial⟩ (fun _ => rfl) ?_
  rintro m ⟨y1, y2⟩ N h hN
  unfold laws_toIntS_B1 at h
  dsimp only at h
  refine ls_seq_k fun K4 hK4 => ?_
  refine ls_rs tbOk ?_
  refine evs (ev_mv (c := nI y2) rfl rfl rfl (evs (ev_mv (c := dL ci64 a0) rfl rfl rfl (evs (ev_len (c1 := dL ci64 a0) rfl rfl rfl (evs (ev_bin (c1 := nI y2) (c2 := nI (List.length a0 : Int)) rfl rfl rfl (evn ?_))))))))
  refine ls_keep [(0, dL ci64 a0), (3, wL 3 ci64 y1), (4, nI y2), (11, .bool (decide (y2 < (List.length a0 : Int))))] ⟨kr, kr, kr, kr, trivial⟩ rfl ?_
  rcases cond_some h with ⟨g5, h⟩ | ⟨g5, h⟩
  · refine ls_cT rfl g5 ?_
    refine ls_skip ?_
    refine hK4 _ (ls_keep [(0, dL ci64 a0), (3, wL 3 ci64 y1), (4, nI y2)] ⟨kr, kr, kr, trivial⟩ rfl ?_)
    refine ls_seq_k fun K6 hK6 => ?_
    refine ls_blk ?_
    refine ls_rgn tbOk ?_
    refine evs (ev_mvu rfl rfl (evs (ev_mv (c := nI y2) rfl rfl rfl (evs (ev_mv (c := dL ci64 a0) rfl rfl rfl (evs (ev_mv (c := nI y2) rfl rfl rfl (?_))))))))
    obtain ⟨e7, g8, h⟩ := ob_some h
    refine evs (ev_ia rfl rfl rfl ⟨(geti_some g8).1, (geti_some g8).2.1⟩ (evs (ev_ldE (i := y2) (n := 1) (off := 0) (v := nI e7) rfl rfl zci64 g8 rfl (nb rfl) rfl (?_))))
    obtain ⟨e9, g10, h⟩ := ob_some h
    refine evs (ev_iau rfl rfl rfl rfl ⟨(geti_some g10).1, (geti_some g10).2.1⟩ (evs (ev_stu (e := e7) (c1 := nI e7) rfl rfl zci64 ⟨(geti_some g10).1, (geti_some g10).2.1⟩ rfl rfl rfl rfl rfl (evn ?_))))
    refine hK6 _ (ls_keep [(0, dL ci64 a0), (3, wL 3 ci64 (seti y1 y2 e7)), (4, nI y2)] ⟨kr, kr, kr, trivial⟩ rfl ?_)
    refine ls_rgn tbOk ?_
    refine evs (ev_mv (c := nI y2) rfl rfl rfl (evs (ev_bin (c1 := nI y2) (c2 := nI 1) rfl rfl rfl (evs (ev_as (c := nI (IntKind.i64.wrap (y2 + 1))) rfl rfl rfl (evn ?_))))))
    exact hN _ ((seti y1 y2 e7), (IntKind.i64.wrap (y2 + 1))) h ⟨kr, kr, kr, trivial⟩
  · refine ls_cF rfl g5 ?_
    refine ls_exit ?_
    have q0 := (Option.some.inj h).symm
    have r0 := hr1
    rw [q0] at r0
    exact kXlaws_toIntS_B1 y1 r0 _ ⟨kr, trivial⟩
def laws_toIntSS_B1 (a0 : List (List Int)) (rec : ((List (List Int)) × Int) → Option ((List (List Int)))) (s : (List (List Int)) × Int) : Option ((List (List Int))) := match s with
  | (y1, y2) => cond (decide (y2 < (List.length a0 : Int))) (obind (geti a0 y2) fun e7 => obind (laws_toIntS e7) fun v9 => obind (geti y1 y2) fun e11 => rec ((seti y1 y2 v9), (IntKind.i64.wrap (y2 + 1)))) (some y1)
def laws_toIntSS (a0 : List (List Int)) : Option ((List (List Int))) := chk ((0 : Int) ≤ (List.length a0 : Int) ∧ Int.toNat (List.length a0 : Int) ≤ lim) (obind (loopF (laws_toIntSS_B1 a0) fz ((List.replicate (Int.toNat (List.length a0 : Int)) ([] : List Int)), 0)) fun z3 => some z3)
theorem laws_toIntSS_s {a0 : List (List Int)} {r : (List (List Int))} (h : laws_toIntSS a0 = some r) : SoundAt Try.prog 208 [dL c25_d a0] (oL 25 c25_o r) := by
  unfold laws_toIntSS at h
  refine sound_lit tbOk lit208 (nb rfl) rfl ?_
  unfold c208
  refine ls_keep [(0, dL c25_d a0)] ⟨kr, trivial⟩ rfl ?_
  refine ls_rs tbOk ?_
  refine evs (ev_an rfl rfl (evn ?_))
  refine ls_keep [(0, dL c25_d a0)] ⟨kr, trivial⟩ rfl ?_
  refine ls_rs tbOk ?_
  refine evs (ev_mv (c := dL c25_d a0) rfl rfl rfl (evs (ev_len (c1 := dL c25_d a0) rfl rfl rfl (?_))))
  obtain ⟨g1, h⟩ := chk_some h
  refine evs (ev_mku (f := c25_o) (z := ([] : List Int)) rfl rfl rfl rfl rfl rfl g1 rfl (evs (ev_asu rfl rfl rfl (evn ?_))))
  refine ls_keep [(0, dL c25_d a0), (3, wL 25 c25_o (List.replicate (Int.toNat (List.length a0 : Int)) ([] : List Int)))] ⟨kr, kr, trivial⟩ rfl ?_
  refine ls_seq_k fun K2 hK2 => ?_
  refine ls_rs tbOk ?_
  refine evs (ev_ac rfl nofun rfl (evn ?_))
  refine ls_keep [(0, dL c25_d a0), (3, wL 25 c25_o (List.replicate (Int.toNat (List.length a0 : Int)) ([] : List Int))), (4, nI 0)] ⟨kr, kr, kr, trivial⟩ rfl ?_
  obtain ⟨o1, hl, hr1⟩ := ob_some h
  clear h
  have kXlaws_toIntSS_B1 : ∀ (z3 : List (List Int)), (some z3) = some r → ∀ σ' : PS, okK σ' [(3, wL 25 c25_o z3)] → K2 σ' := by
    intro z3 h σ' hk
    refine hK2 _ (ls_keep [(3, wL 25 c25_o z3)] hk rfl ?_)
    refine ls_rs tbOk ?_
    refine evs (ev_mvtu rfl rfl (evs (ev_as (c := oL 25 c25_o z3) rfl rfl rfl (evn ?_))))
    refine ls_keep [(2, oL 25 c25_o z3)] ⟨kr, trivial⟩ rfl ?_
    refine ls_ret ?_
    have hr := Option.some.inj h
    rw [← hr]
    exact ⟨.inl rfl, rfl⟩
  refine ls_rec (fun (s : (List (List Int)) × Int) => match s with | (y1, y2) => [(0, dL c25_d a0), (3, wL 25 c25_o y1), (4, nI y2)]) (laws_toIntSS_B1 a0) fz ((List.replicate (Int.toNat (List.length a0 : Int)) ([] : List Int)), 0) o1 hl ⟨kr, kr, kr, trivial⟩ (fun _ => rfl) ?_
  rintro m ⟨y1, y2⟩ N h hN
  unfold laws_toIntSS_B1 at h
  dsimp only at h
  refine ls_seq_k fun K4 hK4 => ?_
  refine ls_rs tbOk ?_
  refine evs (ev_mv (c := nI y2) rfl rfl rfl (evs (ev_mv (c := dL c25_d a0) rfl rfl rfl (evs (ev_len (c1 := dL c25_d a0) rfl rfl rfl (evs (ev_bin (c1 := nI y2) (c2 := nI (List.length a0 : Int)) rfl rfl rfl (evn ?_))))))))
  refine ls_keep [(0, dL c25_d a0), (3, wL 25 c25_o y1), (4, nI y2), (11, .bool (decide (y2 < (List.length a0 : Int))))] ⟨kr, kr, kr, kr, trivial⟩ rfl ?_
  rcases cond_some h with ⟨g5, h⟩ | ⟨g5, h⟩
  · refine ls_cT rfl g5 ?_
    refine ls_skip ?_
    refine hK4 _ (ls_keep [(0, dL c25_d a0), (3, wL 25 c25_o y1), (4, nI y2)] ⟨kr, kr, kr, trivial⟩ rfl ?_)
    refine ls_seq_k fun K6 hK6 => ?_
    refine ls_blk ?_
    refine ls_rgn tbOk ?_
    refine evs (ev_mvu rfl rfl (evs (ev_mv (c := nI y2) rfl rfl rfl (evs (ev_mv (c := dL c25_d a0) rfl rfl rfl (evs (ev_mv (c := nI y2) rfl rfl rfl (?_))))))))
    obtain ⟨e7, g8, h⟩ := ob_some h
    refine evs (ev_ia rfl rfl rfl ⟨(geti_some g8).1, (geti_some g8).2.1⟩ (evs (ev_ldE (i := y2) (n := 1) (off := 0) (v := dL ci64 e7) rfl rfl zc25_d g8 rfl (nb rfl) rfl (?_))))
    obtain ⟨v9, g10, h⟩ := ob_some h
    refine evs (ev_call (era rfl (erD eci64 _) eran) (laws_toIntS_s g10) (?_))
    obtain ⟨e11, g12, h⟩ := ob_some h
    refine evs (ev_iau rfl rfl rfl rfl ⟨(geti_some g12).1, (geti_some g12).2.1⟩ (evs (ev_stu (e := v9) (c1 := oL 3 ci64 v9) rfl rfl zc25_o ⟨(geti_some g12).1, (geti_some g12).2.1⟩ rfl rfl rfl rfl rfl (evn ?_))))
    refine hK6 _ (ls_keep [(0, dL c25_d a0), (3, wL 25 c25_o (seti y1 y2 v9)), (4, nI y2)] ⟨kr, kr, kr, trivial⟩ rfl ?_)
    refine ls_rgn tbOk ?_
    refine evs (ev_mv (c := nI y2) rfl rfl rfl (evs (ev_bin (c1 := nI y2) (c2 := nI 1) rfl rfl rfl (evs (ev_as (c := nI (IntKind.i64.wrap (y2 + 1))) rfl rfl rfl (evn ?_))))))
    exact hN _ ((seti y1 y2 v9), (IntKind.i64.wrap (y2 + 1))) h ⟨kr, kr, kr, trivial⟩
  · refine ls_cF rfl g5 ?_
    refine ls_exit ?_
    have q0 := (Option.some.inj h).symm
    have r0 := hr1
    rw [q0] at r0
    exact kXlaws_toIntSS_B1 y1 r0 _ ⟨kr, trivial⟩
def laws_toRelation (a0 : Y127) : Option (Y127) := obind (laws_toIntSS a0.2) fun v1 => some (a0.1, v1)
theorem laws_toRelation_s {a0 : Y127} {r : Y127} (h : laws_toRelation a0 = some r) : SoundAt Try.prog 236 [.agg (c204_dd a0)] (.agg (c128_oo r)) := by
  unfold laws_toRelation at h
  refine sound_lit tbOk lit236 (nb rfl) rfl ?_
  unfold c236
  refine ls_keep [(0, .agg (c204_dd a0))] ⟨kr, trivial⟩ rfl ?_
  refine ls_rs tbOk ?_
  refine evs (ev_bx (c1 := .agg (c204_dd a0)) rfl rfl rfl (evs (ev_al rfl rfl (evn ?_))))
  refine ls_keep [(1, .box [nI a0.1, dL c25_d a0.2]), (2, .box [nI 0, oL 25 c25_o []])] ⟨kr, kr, trivial⟩ rfl ?_
  refine ls_rs tbOk ?_
  refine evs (ev_al rfl rfl (evn ?_))
  refine ls_keep [(1, .box [nI a0.1, dL c25_d a0.2]), (2, .box [nI 0, oL 25 c25_o []]), (3, .box [nI 0, oL 25 c25_o []])] ⟨kr, kr, kr, trivial⟩ rfl ?_
  refine ls_rs tbOk ?_
  refine evs (ev_fa (c1 := .cref 1 0) (v := .cref 1 0) rfl rfl rfl ⟨_, rfl⟩ rfl (evs (ev_ldB (off := 0) (v := nI a0.1) rfl rfl rfl rfl (nb rfl) rfl (evs (ev_fa (c1 := .cref 3 0) (v := .cref 3 0) rfl rfl rfl ⟨_, rfl⟩ rfl (evs (ev_st (off := 0) (c1 := nI a0.1) (cs' := [nI a0.1, oL 25 c25_o []]) rfl rfl rfl rfl rfl rfl (nb rfl) rfl (evn ?_))))))))
  refine ls_keep [(1, .box [nI a0.1, dL c25_d a0.2]), (2, .box [nI 0, oL 25 c25_o []]), (3, .box [nI a0.1, oL 25 c25_o []])] ⟨kr, kr, kr, trivial⟩ rfl ?_
  refine ls_rs tbOk ?_
  refine evs (ev_fa (c1 := .cref 1 0) (v := .cref 1 1) rfl rfl rfl ⟨_, rfl⟩ rfl (evs (ev_ldB (off := 1) (v := dL c25_d a0.2) rfl rfl rfl rfl (nb rfl) rfl (?_))))
  obtain ⟨v1, g2, h⟩ := ob_some h
  refine evs (ev_call (era rfl (erD ec25_d _) eran) (laws_toIntSS_s g2) (evs (ev_fa (c1 := .cref 3 0) (v := .cref 3 1) rfl rfl rfl ⟨_, rfl⟩ rfl (evs (ev_st (off := 1) (c1 := oL 25 c25_o v1) (cs' := [nI a0.1, oL 25 c25_o v1]) rfl rfl rfl rfl rfl rfl (nb rfl) rfl (evn ?_))))))
  refine ls_keep [(2, .box [nI 0, oL 25 c25_o []]), (3, .box [nI a0.1, oL 25 c25_o v1])] ⟨kr, kr, trivial⟩ rfl ?_
  refine ls_rs tbOk ?_
  refine evs (ev_ldBt (off := 0) (v := .agg [nI a0.1, oL 25 c25_o v1]) (c' := .box [nI a0.1, dL c25_o v1]) rfl rfl rfl rfl (nb rfl) rfl rfl (evs (ev_st (off := 0) (c1 := .agg [nI a0.1, oL 25 c25_o v1]) (cs' := [nI a0.1, oL 25 c25_o v1]) rfl rfl rfl rfl rfl rfl (nb rfl) rfl (evn ?_))))
  refine ls_keep [(2, .box [nI a0.1, oL 25 c25_o v1])] ⟨kr, trivial⟩ rfl ?_
  refine ls_ret ?_
  have hr := Option.some.inj h
  rw [← hr]
  exact ⟨.inl rfl, rfl⟩
def laws_toTable (a0 : Y205) : Option (Y207) := obind (laws_toRelation a0.2) fun v1 => some (a0.1, v1)
theorem laws_toTable_s {a0 : Y205} {r : Y207} (h : laws_toTable a0 = some r) : SoundAt Try.prog 173 [.agg (c206_dd a0)] (.agg (c208_oo r)) := by
  unfold laws_toTable at h
  refine sound_lit tbOk lit173 (nb rfl) rfl ?_
  unfold c173
  refine ls_keep [(0, .agg (c206_dd a0))] ⟨kr, trivial⟩ rfl ?_
  refine ls_rs tbOk ?_
  refine evs (ev_bx (c1 := .agg (c206_dd a0)) rfl rfl rfl (evs (ev_al rfl rfl (evn ?_))))
  refine ls_keep [(1, .box [.str a0.1, nI a0.2.1, dL c25_d a0.2.2]), (2, .box [.str [], nI 0, oL 25 c25_o []])] ⟨kr, kr, trivial⟩ rfl ?_
  refine ls_rs tbOk ?_
  refine evs (ev_al rfl rfl (evn ?_))
  refine ls_keep [(1, .box [.str a0.1, nI a0.2.1, dL c25_d a0.2.2]), (2, .box [.str [], nI 0, oL 25 c25_o []]), (3, .box [.str [], nI 0, oL 25 c25_o []])] ⟨kr, kr, kr, trivial⟩ rfl ?_
  refine ls_rs tbOk ?_
  refine evs (ev_fa (c1 := .cref 1 0) (v := .cref 1 0) rfl rfl rfl ⟨_, rfl⟩ rfl (evs (ev_ldB (off := 0) (v := .str a0.1) rfl rfl rfl rfl (nb rfl) rfl (evs (ev_fa (c1 := .cref 3 0) (v := .cref 3 0) rfl rfl rfl ⟨_, rfl⟩ rfl (evs (ev_st (off := 0) (c1 := .str a0.1) (cs' := [.str a0.1, nI 0, oL 25 c25_o []]) rfl rfl rfl rfl rfl rfl (nb rfl) rfl (evn ?_))))))))
  refine ls_keep [(1, .box [.str a0.1, nI a0.2.1, dL c25_d a0.2.2]), (2, .box [.str [], nI 0, oL 25 c25_o []]), (3, .box [.str a0.1, nI 0, oL 25 c25_o []])] ⟨kr, kr, kr, trivial⟩ rfl ?_
  refine ls_rs tbOk ?_
  refine evs (ev_fa (c1 := .cref 1 0) (v := .cref 1 1) rfl rfl rfl ⟨_, rfl⟩ rfl (evs (ev_ldB (off := 1) (v := .agg (c204_dd a0.2)) rfl rfl rfl rfl (nb rfl) rfl (?_))))
  obtain ⟨v1, g2, h⟩ := ob_some h
  refine evs (ev_call (era rfl (erg (erc rfl (erc (erD ec25_d _) rfl))) eran) (laws_toRelation_s g2) (evs (ev_fa (c1 := .cref 3 0) (v := .cref 3 1) rfl rfl rfl ⟨_, rfl⟩ rfl (evs (ev_st (off := 1) (c1 := .agg (c128_oo v1)) (cs' := [.str a0.1, nI v1.1, oL 25 c25_o v1.2]) rfl rfl rfl rfl rfl rfl (nb rfl) rfl (evn ?_))))))
  refine ls_keep [(2, .box [.str [], nI 0, oL 25 c25_o []]), (3, .box [.str a0.1, nI v1.1, oL 25 c25_o v1.2])] ⟨kr, kr, trivial⟩ rfl ?_
  refine ls_rs tbOk ?_
  refine evs (ev_ldBt (off := 0) (v := .agg [.str a0.1, nI v1.1, oL 25 c25_o v1.2]) (c' := .box [.str a0.1, nI v1.1, dL c25_o v1.2]) rfl rfl rfl rfl (nb rfl) rfl rfl (evs (ev_st (off := 0) (c1 := .agg [.str a0.1, nI v1.1, oL 25 c25_o v1.2]) (cs' := [.str a0.1, nI v1.1, oL 25 c25_o v1.2]) rfl rfl rfl rfl rfl rfl (nb rfl) rfl (evn ?_))))
  refine ls_keep [(2, .box [.str a0.1, nI v1.1, oL 25 c25_o v1.2])] ⟨kr, trivial⟩ rfl ?_
  refine ls_ret ?_
  have hr := Option.some.inj h
  rw [← hr]
  exact ⟨.inl rfl, rfl⟩
def laws_toTableS_B1 (a0 : List Y205) (rec : ((List Y207) × Int) → Option ((List Y207))) (s : (List Y207) × Int) : Option ((List Y207)) := match s with
  | (y1, y2) => cond (decide (y2 < (List.length a0 : Int))) (obind (geti a0 y2) fun e7 => obind (laws_toTable e7) fun v9 => obind (geti y1 y2) fun e11 => rec ((seti y1 y2 v9), (IntKind.i64.wrap (y2 + 1)))) (some y1)
def laws_toTableS (a0 : List Y205) : Option ((List Y207)) := chk ((0 : Int) ≤ (List.length a0 : Int) ∧ Int.toNat (List.length a0 : Int) ≤ lim) (obind (loopF (laws_toTableS_B1 a0) fz ((List.replicate (Int.toNat (List.length a0 : Int)) (([], (0, [])) : Y207)), 0)) fun z3 => some z3)
theorem laws_toTableS_s {a0 : List Y205} {r : (List Y207)} (h : laws_toTableS a0 = some r) : SoundAt Try.prog 77 [dL c206_dd a0] (oL 208 c208_oo r) := by
  unfold laws_toTableS at h
  refine sound_lit tbOk lit77 (nb rfl) rfl ?_
  unfold c77
  refine ls_keep [(0, dL c206_dd a0)] ⟨kr, trivial⟩ rfl ?_
  refine ls_rs tbOk ?_
  refine evs (ev_an rfl rfl (evn ?_))
  refine ls_keep [(0, dL c206_dd a0)] ⟨kr, trivial⟩ rfl ?_
  refine ls_rs tbOk ?_
  refine evs (ev_mv (c := dL c206_dd a0) rfl rfl rfl (evs (ev_len (c1 := dL c206_dd a0) rfl rfl rfl (?_))))
  obtain ⟨g1, h⟩ := chk_some h
  refine evs (ev_mku (f := c208_oo) (z := (([], (0, [])) : Y207)) rfl rfl rfl rfl rfl rfl g1 rfl (evs (ev_asu rfl rfl rfl (evn ?_))))
  refine ls_keep [(0, dL c206_dd a0), (3, wL 208 c208_oo (List.replicate (Int.toNat (List.length a0 : Int)) (([], (0, [])) : Y207)))] ⟨kr, kr, trivial⟩ rfl ?_
  refine ls_seq_k fun K2 hK2 => ?_
  refine ls_rs tbOk ?_
  refine evs (ev_ac rfl nofun rfl (evn ?_))
  refine ls_keep [(0, dL c206_dd a0), (3, wL 208 c208_oo (List.replicate (Int.toNat (List.length a0 : Int)) (([], (0, [])) : Y207))), (4, nI 0)] ⟨kr, kr, kr, trivial⟩ rfl ?_
  obtain ⟨o1, hl, hr1⟩ := ob_some h
  clear h
  have kXlaws_toTableS_B1 : ∀ (z3 : List Y207), (some z3) = some r → ∀ σ' : PS, okK σ' [(3, wL 208 c208_oo z3)] → K2 σ' := by
    intro z3 h σ' hk
    refine hK2 _ (ls_keep [(3, wL 208 c208_oo z3)] hk rfl ?_)
    refine ls_rs tbOk ?_
    refine evs (ev_mvtu rfl rfl (evs (ev_as (c := oL 208 c208_oo z3) rfl rfl rfl (evn ?_))))
    refine ls_keep [(2, oL 208 c208_oo z3)] ⟨kr, trivial⟩ rfl ?_
    refine ls_ret ?_
    have hr := Option.some.inj h
    rw [← hr]
    exact ⟨.inl rfl, rfl⟩
  refine ls_rec (fun (s : (List Y207) × Int) => match s with | (y1, y2) => [(0, dL c206_dd a0), (3, wL 208 c208_oo y1), (4, nI y2)]) (laws_toTableS_B1 a0) fz ((List.replicate (Int.toNat (List.length a0 : Int)) (([], (0, [])) : Y207)), 0) o1 hl ⟨kr, kr, kr, trivial⟩ (fun _ => rfl) ?_
  rintro m ⟨y1, y2⟩ N h hN
  unfold laws_toTableS_B1 at h
  dsimp only at h
  refine ls_seq_k fun K4 hK4 => ?_
  refine ls_rs tbOk ?_
  refine evs (ev_mv (c := nI y2) rfl rfl rfl (evs (ev_mv (c := dL c206_dd a0) rfl rfl rfl (evs (ev_len (c1 := dL c206_dd a0) rfl rfl rfl (evs (ev_bin (c1 := nI y2) (c2 := nI (List.length a0 : Int)) rfl rfl rfl (evn ?_))))))))
  refine ls_keep [(0, dL c206_dd a0), (3, wL 208 c208_oo y1), (4, nI y2), (11, .bool (decide (y2 < (List.length a0 : Int))))] ⟨kr, kr, kr, kr, trivial⟩ rfl ?_
  rcases cond_some h with ⟨g5, h⟩ | ⟨g5, h⟩
  · refine ls_cT rfl g5 ?_
    refine ls_skip ?_
    refine hK4 _ (ls_keep [(0, dL c206_dd a0), (3, wL 208 c208_oo y1), (4, nI y2)] ⟨kr, kr, kr, trivial⟩ rfl ?_)
    refine ls_seq_k fun K6 hK6 => ?_
    refine ls_blk ?_
    refine ls_rgn tbOk ?_
    refine evs (ev_mvu rfl rfl (evs (ev_mv (c := nI y2) rfl rfl rfl (evs (ev_mv (c := dL c206_dd a0) rfl rfl rfl (evs (ev_mv (c := nI y2) rfl rfl rfl (?_))))))))
    obtain ⟨e7, g8, h⟩ := ob_some h
    refine evs (ev_ia rfl rfl rfl ⟨(geti_some g8).1, (geti_some g8).2.1⟩ (evs (ev_ldE (i := y2) (n := 3) (off := 0) (v := .agg (c206_dd e7)) rfl rfl zc206_dd g8 rfl (nb rfl) rfl (?_))))
    obtain ⟨v9, g10, h⟩ := ob_some h
    refine evs (ev_call (era rfl (erg (erc rfl (erc rfl (erc (erD ec25_d _) rfl)))) eran) (laws_toTable_s g10) (?_))
    obtain ⟨e11, g12, h⟩ := ob_some h
    refine evs (ev_iau rfl rfl rfl rfl ⟨(geti_some g12).1, (geti_some g12).2.1⟩ (evs (ev_stu (e := v9) (c1 := .agg (c208_oo v9)) rfl rfl zc208_oo ⟨(geti_some g12).1, (geti_some g12).2.1⟩ rfl rfl rfl rfl rfl (evn ?_))))
    refine hK6 _ (ls_keep [(0, dL c206_dd a0), (3, wL 208 c208_oo (seti y1 y2 v9)), (4, nI y2)] ⟨kr, kr, kr, trivial⟩ rfl ?_)
    refine ls_rgn tbOk ?_
    refine evs (ev_mv (c := nI y2) rfl rfl rfl (evs (ev_bin (c1 := nI y2) (c2 := nI 1) rfl rfl rfl (evs (ev_as (c := nI (IntKind.i64.wrap (y2 + 1))) rfl rfl rfl (evn ?_))))))
    exact hN _ ((seti y1 y2 v9), (IntKind.i64.wrap (y2 + 1))) h ⟨kr, kr, kr, trivial⟩
  · refine ls_cF rfl g5 ?_
    refine ls_exit ?_
    have q0 := (Option.some.inj h).symm
    have r0 := hr1
    rw [q0] at r0
    exact kXlaws_toTableS_B1 y1 r0 _ ⟨kr, trivial⟩
def laws_toDatabase (a0 : List Y205) : Option ((List Y207)) := obind (laws_toTableS a0) fun v1 => some v1
theorem laws_toDatabase_s {a0 : List Y205} {r : (List Y207)} (h : laws_toDatabase a0 = some r) : SoundAt Try.prog 16 [.agg [dL c206_dd a0]] (.agg [oL 208 c208_oo r]) := by
  unfold laws_toDatabase at h
  refine sound_lit tbOk lit16 (nb rfl) rfl ?_
  unfold c16
  refine ls_keep [(0, .agg [dL c206_dd a0])] ⟨kr, trivial⟩ rfl ?_
  refine ls_rs tbOk ?_
  refine evs (ev_bx (c1 := .agg [dL c206_dd a0]) rfl rfl rfl (evs (ev_al rfl rfl (evn ?_))))
  refine ls_keep [(1, .box [dL c206_dd a0]), (2, .box [oL 208 c208_oo []])] ⟨kr, kr, trivial⟩ rfl ?_
  refine ls_rs tbOk ?_
  refine evs (ev_al rfl rfl (evn ?_))
  refine ls_keep [(1, .box [dL c206_dd a0]), (2, .box [oL 208 c208_oo []]), (3, .box [oL 208 c208_oo []])] ⟨kr, kr, kr, trivial⟩ rfl ?_
  refine ls_rs tbOk ?_
  refine evs (ev_fa (c1 := .cref 1 0) (v := .cref 1 0) rfl rfl rfl ⟨_, rfl⟩ rfl (evs (ev_ldB (off := 0) (v := dL c206_dd a0) rfl rfl rfl rfl (nb rfl) rfl (?_))))
  obtain ⟨v1, g2, h⟩ := ob_some h
  refine evs (ev_call (era rfl (erD ec206_dd _) eran) (laws_toTableS_s g2) (evs (ev_fa (c1 := .cref 3 0) (v := .cref 3 0) rfl rfl rfl ⟨_, rfl⟩ rfl (evs (ev_st (off := 0) (c1 := oL 208 c208_oo v1) (cs' := [oL 208 c208_oo v1]) rfl rfl rfl rfl rfl rfl (nb rfl) rfl (evn ?_))))))
  refine ls_keep [(2, .box [oL 208 c208_oo []]), (3, .box [oL 208 c208_oo v1])] ⟨kr, kr, trivial⟩ rfl ?_
  refine ls_rs tbOk ?_
  refine evs (ev_ldBt (off := 0) (v := .agg [oL 208 c208_oo v1]) (c' := .box [dL c208_oo v1]) rfl rfl rfl rfl (nb rfl) rfl rfl (evs (ev_st (off := 0) (c1 := .agg [oL 208 c208_oo v1]) (cs' := [oL 208 c208_oo v1]) rfl rfl rfl rfl rfl rfl (nb rfl) rfl (evn ?_))))
  refine ls_keep [(2, .box [oL 208 c208_oo v1])] ⟨kr, trivial⟩ rfl ?_
  refine ls_ret ?_
  have hr := Option.some.inj h
  rw [← hr]
  exact ⟨.inl rfl, rfl⟩
def laws_toDatabaseS_B1 (a0 : List (List Y205)) (rec : ((List (List Y207)) × Int) → Option ((List (List Y207)))) (s : (List (List Y207)) × Int) : Option ((List (List Y207))) := match s with
  | (y1, y2) => cond (decide (y2 < (List.length a0 : Int))) (obind (geti a0 y2) fun e7 => obind (laws_toDatabase e7) fun v9 => obind (geti y1 y2) fun e11 => rec ((seti y1 y2 v9), (IntKind.i64.wrap (y2 + 1)))) (some y1)
def laws_toDatabaseS (a0 : List (List Y205)) : Option ((List (List Y207))) := chk ((0 : Int) ≤ (List.length a0 : Int) ∧ Int.toNat (List.length a0 : Int) ≤ lim) (obind (loopF (laws_toDatabaseS_B1 a0) fz ((List.replicate (Int.toNat (List.length a0 : Int)) ([] : List Y207)), 0)) fun z3 => some z3)
theorem laws_toDatabaseS_s {a0 : List (List Y205)} {r : (List (List Y207))} (h : laws_toDatabaseS a0 = some r) : SoundAt Try.prog 88 [dL c24_ddd a0] (oL 33 c33_ooo r) := by
  unfold laws_toDatabaseS at h
  refine sound_lit tbOk lit88 (nb rfl) rfl ?_
  unfold c88
  refine ls_keep [(0, dL c24_ddd a0)] ⟨kr, trivial⟩ rfl ?_
  refine ls_rs tbOk ?_
  refine evs (ev_an rfl rfl (evn ?_))
  refine ls_keep [(0, dL c24_ddd a0)] ⟨kr, trivial⟩ rfl ?_
  refine ls_rs tbOk ?_
  refine evs (ev_mv (c := dL c24_ddd a0) rfl rfl rfl (evs (ev_len (c1 := dL c24_ddd a0) rfl rfl rfl (?_))))
  obtain ⟨g1, h⟩ := chk_some h
  refine evs (ev_mku (f := c33_ooo) (z := ([] : List Y207)) rfl rfl rfl rfl rfl rfl g1 rfl (evs (ev_asu rfl rfl rfl (evn ?_))))
  refine ls_keep [(0, dL c24_ddd a0), (3, wL 33 c33_ooo (List.replicate (Int.toNat (List.length a0 : Int)) ([] : List Y207)))] ⟨kr, kr, trivial⟩ rfl ?_
  refine ls_seq_k fun K2 hK2 => ?_
  refine ls_rs tbOk ?_
  refine evs (ev_ac rfl nofun rfl (evn ?_))
  refine ls_keep [(0, dL c24_ddd a0), (3, wL 33 c33_ooo (List.replicate (Int.toNat (List.length a0 : Int)) ([] : List Y207))), (4, nI 0)] ⟨kr, kr, kr, trivial⟩ rfl ?_
  obtain ⟨o1, hl, hr1⟩ := ob_some h
  clear h
  have kXlaws_toDatabaseS_B1 : ∀ (z3 : List (List Y207)), (some z3) = some r → ∀ σ' : PS, okK σ' [(3, wL 33 c33_ooo z3)] → K2 σ' := by
    intro z3 h σ' hk
    refine hK2 _ (ls_keep [(3, wL 33 c33_ooo z3)] hk rfl ?_)
    refine ls_rs tbOk ?_
    refine evs (ev_mvtu rfl rfl (evs (ev_as (c := oL 33 c33_ooo z3) rfl rfl rfl (evn ?_))))
    refine ls_keep [(2, oL 33 c33_ooo z3)] ⟨kr, trivial⟩ rfl ?_
    refine ls_ret ?_
    have hr := Option.some.inj h
    rw [← hr]
    exact ⟨.inl rfl, rfl⟩
  refine ls_rec (fun (s : (List (List Y207)) × Int) => match s with | (y1, y2) => [(0, dL c24_ddd a0), (3, wL 33 c33_ooo y1), (4, nI y2)]) (laws_toDatabaseS_B1 a0) fz ((List.replicate (Int.toNat (List.length a0 : Int)) ([] : List Y207)), 0) o1 hl ⟨kr, kr, kr, trivial⟩ (fun _ => rfl) ?_
  rintro m ⟨y1, y2⟩ N h hN
  unfold laws_toDatabaseS_B1 at h
  dsimp only at h
  refine ls_seq_k fun K4 hK4 => ?_
  refine ls_rs tbOk ?_
  refine evs (ev_mv (c := nI y2) rfl rfl rfl (evs (ev_mv (c := dL c24_ddd a0) rfl rfl rfl (evs (ev_len (c1 := dL c24_ddd a0) rfl rfl rfl (evs (ev_bin (c1 := nI y2) (c2 := nI (List.length a0 : Int)) rfl rfl rfl (evn ?_))))))))
  refine ls_keep [(0, dL c24_ddd a0), (3, wL 33 c33_ooo y1), (4, nI y2), (11, .bool (decide (y2 < (List.length a0 : Int))))] ⟨kr, kr, kr, kr, trivial⟩ rfl ?_
  rcases cond_some h with ⟨g5, h⟩ | ⟨g5, h⟩
  · refine ls_cT rfl g5 ?_
    refine ls_skip ?_
    refine hK4 _ (ls_keep [(0, dL c24_ddd a0), (3, wL 33 c33_ooo y1), (4, nI y2)] ⟨kr, kr, kr, trivial⟩ rfl ?_)
    refine ls_seq_k fun K6 hK6 => ?_
    refine ls_blk ?_
    refine ls_rgn tbOk ?_
    refine evs (ev_mvu rfl rfl (evs (ev_mv (c := nI y2) rfl rfl rfl (evs (ev_mv (c := dL c24_ddd a0) rfl rfl rfl (evs (ev_mv (c := nI y2) rfl rfl rfl (?_))))))))
    obtain ⟨e7, g8, h⟩ := ob_some h
    refine evs (ev_ia rfl rfl rfl ⟨(geti_some g8).1, (geti_some g8).2.1⟩ (evs (ev_ldE (i := y2) (n := 1) (off := 0) (v := .agg [dL c206_dd e7]) rfl rfl zc24_ddd g8 rfl (nb rfl) rfl (?_))))
    obtain ⟨v9, g10, h⟩ := ob_some h
    refine evs (ev_call (era rfl (erg (erc (erD ec206_dd _) rfl)) eran) (laws_toDatabase_s g10) (?_))
    obtain ⟨e11, g12, h⟩ := ob_some h
    refine evs (ev_iau rfl rfl rfl rfl ⟨(geti_some g12).1, (geti_some g12).2.1⟩ (evs (ev_stu (e := v9) (c1 := .agg [oL 208 c208_oo v9]) rfl rfl zc33_ooo ⟨(geti_some g12).1, (geti_some g12).2.1⟩ rfl rfl rfl rfl rfl (evn ?_))))
    refine hK6 _ (ls_keep [(0, dL c24_ddd a0), (3, wL 33 c33_ooo (seti y1 y2 v9)), (4, nI y2)] ⟨kr, kr, kr, trivial⟩ rfl ?_)
    refine ls_rgn tbOk ?_
    refine evs (ev_mv (c := nI y2) rfl rfl rfl (evs (ev_bin (c1 := nI y2) (c2 := nI 1) rfl rfl rfl (evs (ev_as (c := nI (IntKind.i64.wrap (y2 + 1))) rfl rfl rfl (evn ?_))))))
    exact hN _ ((seti y1 y2 v9), (IntKind.i64.wrap (y2 + 1))) h ⟨kr, kr, kr, trivial⟩
  · refine ls_cF rfl g5 ?_
    refine ls_exit ?_
    have q0 := (Option.some.inj h).symm
    have r0 := hr1
    rw [q0] at r0
    exact kXlaws_toDatabaseS_B1 y1 r0 _ ⟨kr, trivial⟩
def laws_toHistory (a0 : Y45) : Option (Y51) := obind (laws_toDatabaseS a0.2) fun v1 => some (a0.1, v1)
theorem laws_toHistory_s {a0 : Y45} {r : Y51} (h : laws_toHistory a0 = some r) : SoundAt Try.prog 28 [.agg (c46_dddd a0)] (.agg (c52_oooo r)) := by
  unfold laws_toHistory at h
  refine sound_lit tbOk lit28 (nb rfl) rfl ?_
  unfold c28
  refine ls_keep [(0, .agg (c46_dddd a0))] ⟨kr, trivial⟩ rfl ?_
  refine ls_rs tbOk ?_
  refine evs (ev_bx (c1 := .agg (c46_dddd a0)) rfl rfl rfl (evs (ev_al rfl rfl (evn ?_))))
  refine ls_keep [(1, .box [nI a0.1, dL c24_ddd a0.2]), (2, .box [nI 0, oL 33 c33_ooo []])] ⟨kr, kr, trivial⟩ rfl ?_
  refine ls_rs tbOk ?_
  refine evs (ev_al rfl rfl (evn ?_))
  refine ls_keep [(1, .box [nI a0.1, dL c24_ddd a0.2]), (2, .box [nI 0, oL 33 c33_ooo []]), (3, .box [nI 0, oL 33 c33_ooo []])] ⟨kr, kr, kr, trivial⟩ rfl ?_
  refine ls_rs tbOk ?_
  refine evs (ev_fa (c1 := .cref 1 0) (v := .cref 1 0) rfl rfl rfl ⟨_, rfl⟩ rfl (evs (ev_ldB (off := 0) (v := nI a0.1) rfl rfl rfl rfl (nb rfl) rfl (evs (ev_fa (c1 := .cref 3 0) (v := .cref 3 0) rfl rfl rfl ⟨_, rfl⟩ rfl (evs (ev_st (off := 0) (c1 := nI a0.1) (cs' := [nI a0.1, oL 33 c33_ooo []]) rfl rfl rfl rfl rfl rfl (nb rfl) rfl (evn ?_))))))))
  refine ls_keep [(1, .box [nI a0.1, dL c24_ddd a0.2]), (2, .box [nI 0, oL 33 c33_ooo []]), (3, .box [nI a0.1, oL 33 c33_ooo []])] ⟨kr, kr, kr, trivial⟩ rfl ?_
  refine ls_rs tbOk ?_
  refine evs (ev_fa (c1 := .cref 1 0) (v := .cref 1 1) rfl rfl rfl ⟨_, rfl⟩ rfl (evs (ev_ldB (off := 1) (v := dL c24_ddd a0.2) rfl rfl rfl rfl (nb rfl) rfl (?_))))
  obtain ⟨v1, g2, h⟩ := ob_some h
  refine evs (ev_call (era rfl (erD ec24_ddd _) eran) (laws_toDatabaseS_s g2) (evs (ev_fa (c1 := .cref 3 0) (v := .cref 3 1) rfl rfl rfl ⟨_, rfl⟩ rfl (evs (ev_st (off := 1) (c1 := oL 33 c33_ooo v1) (cs' := [nI a0.1, oL 33 c33_ooo v1]) rfl rfl rfl rfl rfl rfl (nb rfl) rfl (evn ?_))))))
  refine ls_keep [(2, .box [nI 0, oL 33 c33_ooo []]), (3, .box [nI a0.1, oL 33 c33_ooo v1])] ⟨kr, kr, trivial⟩ rfl ?_
  refine ls_rs tbOk ?_
  refine evs (ev_ldBt (off := 0) (v := .agg [nI a0.1, oL 33 c33_ooo v1]) (c' := .box [nI a0.1, dL c33_ooo v1]) rfl rfl rfl rfl (nb rfl) rfl rfl (evs (ev_st (off := 0) (c1 := .agg [nI a0.1, oL 33 c33_ooo v1]) (cs' := [nI a0.1, oL 33 c33_ooo v1]) rfl rfl rfl rfl rfl rfl (nb rfl) rfl (evn ?_))))
  refine ls_keep [(2, .box [nI a0.1, oL 33 c33_ooo v1])] ⟨kr, trivial⟩ rfl ?_
  refine ls_ret ?_
  have hr := Option.some.inj h
  rw [← hr]
  exact ⟨.inl rfl, rfl⟩
def laws_eqIntSS_B1 (a0 : List (List Int)) (a1 : List (List Int)) (rec : Int → Option (Sum (Unit) (Bool))) (y1 : Int) : Option (Sum (Unit) (Bool)) := cond (decide (y1 < (List.length a0 : Int))) (obind (geti a0 y1) fun e7 => obind (geti a1 y1) fun e9 => obind (laws_eqIntS e7 e9) fun v11 => cond (!v11) (some (.inr false)) (rec (IntKind.i64.wrap (y1 + 1)))) (some (.inl ()))
def laws_eqIntSS (a0 : List (List Int)) (a1 : List (List Int)) : Option (Bool) := cond ((List.length a0 : Int) != (List.length a1 : Int)) (some false) (obind (loopF (laws_eqIntSS_B1 a0 a1) fz 0) fun o1 => (match o1 with
  | .inl _ => (some true)
  | .inr r => some r))
theorem laws_eqIntSS_s {a0 : List (List Int)} {a1 : List (List Int)} {r : Bool} (h : laws_eqIntSS a0 a1 = some r) : SoundAt Try.prog 215 [dL c25_d a0, dL c25_d a1] (.bool r) := by
  unfold laws_eqIntSS at h
  refine sound_lit tbOk lit215 (nb rfl) rfl ?_
  unfold c215
  refine ls_keep [(0, dL c25_d a0), (1, dL c25_d a1)] ⟨kr, kr, trivial⟩ rfl ?_
  refine ls_rs tbOk ?_
  refine evs (ev_ac rfl nofun rfl (evn ?_))
  refine ls_keep [(0, dL c25_d a0), (1, dL c25_d a1)] ⟨kr, kr, trivial⟩ rfl ?_
  refine ls_seq_k fun K1 hK1 => ?_
  refine ls_rs tbOk ?_
  refine evs (ev_mv (c := dL c25_d a0) rfl rfl rfl (evs (ev_len (c1 := dL c25_d a0) rfl rfl rfl (evs (ev_mv (c := dL c25_d a1) rfl rfl rfl (evs (ev_len (c1 := dL c25_d a1) rfl rfl rfl (evs (ev_bin (c1 := nI (List.length a0 : Int)) (c2 := nI (List.length a1 : Int)) rfl rfl rfl (evn ?_))))))))))
  refine ls_keep [(0, dL c25_d a0), (1, dL c25_d a1), (10, .bool ((List.length a0 : Int) != (List.length a1 : Int)))] ⟨kr, kr, kr, trivial⟩ rfl ?_
  rcases cond_some h with ⟨g2, h⟩ | ⟨g2, h⟩
  · refine ls_cT rfl g2 ?_
    refine ls_rs tbOk ?_
    refine evs (ev_ac rfl nofun rfl (evn ?_))
    refine ls_keep [(4, .bool false)] ⟨kr, trivial⟩ rfl ?_
    refine ls_ret ?_
    have hr := Option.some.inj h
    rw [← hr]
    exact ⟨.inl rfl, rfl⟩
  · refine ls_cF rfl g2 ?_
    refine ls_skip ?_
    refine hK1 _ (ls_keep [(0, dL c25_d a0), (1, dL c25_d a1)] ⟨kr, kr, trivial⟩ rfl ?_)
    refine ls_seq_k fun K3 hK3 => ?_
    refine ls_rs tbOk ?_
    refine evs (ev_ac rfl nofun rfl (evn ?_))
    refine ls_keep [(0, dL c25_d a0), (1, dL c25_d a1), (5, nI 0)] ⟨kr, kr, kr, trivial⟩ rfl ?_
    obtain ⟨o1, hl, hr1⟩ := ob_some h
    clear h
    have kXlaws_eqIntSS_B1 : ∀ (_ : Unit), (some true) = some r → ∀ σ' : PS, okK σ' [] → K3 σ' := by
      intro _ h σ' hk
      refine hK3 _ (ls_keep [] hk rfl ?_)
      refine ls_rs tbOk ?_
      refine evs (ev_ac rfl nofun rfl (evn ?_))
      refine ls_keep [(4, .bool true)] ⟨kr, trivial⟩ rfl ?_
      refine ls_ret ?_
      have hr := Option.some.inj h
      rw [← hr]
      exact ⟨.inl rfl, rfl⟩
    refine ls_rec (fun (y1 : Int) => [(0, dL c25_d a0), (1, dL c25_d a1), (5, nI y1)]) (laws_eqIntSS_B1 a0 a1) fz 0 o1 hl ⟨kr, kr, kr, trivial⟩ (fun _ => rfl) ?_
    rintro m y1 N h hN
    unfold laws_eqIntSS_B1 at h
    refine ls_seq_k fun K4 hK4 => ?_
    refine ls_rs tbOk ?_
    refine evs (ev_mv (c := nI y1) rfl rfl rfl (evs (ev_mv (c := dL c25_d a0) rfl rfl rfl (evs (ev_len (c1 := dL c25_d a0) rfl rfl rfl (evs (ev_bin (c1 := nI y1) (c2 := nI (List.length a0 : Int)) rfl rfl rfl (evn ?_))))))))
    refine ls_keep [(0, dL c25_d a0), (1, dL c25_d a1), (5, nI y1), (14, .bool (decide (y1 < (List.length a0 : Int))))] ⟨kr, kr, kr, kr, trivial⟩ rfl ?_
    rcases cond_some h with ⟨g5, h⟩ | ⟨g5, h⟩
    · refine ls_cT rfl g5 ?_
      refine ls_skip ?_
      refine hK4 _ (ls_keep [(0, dL c25_d a0), (1, dL c25_d a1), (5, nI y1)] ⟨kr, kr, kr, trivial⟩ rfl ?_)
      refine ls_seq_k fun K6 hK6 => ?_
      refine ls_blk ?_
      refine ls_rd tbOk mixed (by kernel_rfl) ?_
      refine evd rfl rfl (ev_mv (c := dL c25_d a0) rfl rfl rfl (evd rfl rfl (ev_mv (c := nI y1) rfl rfl rfl (?_))))
      obtain ⟨e7, g8, h⟩ := ob_some h
      refine evd rfl rfl (ev_ia rfl rfl rfl ⟨(geti_some g8).1, (geti_some g8).2.1⟩ (evd rfl rfl (ev_ldE (i := y1) (n := 1) (off := 0) (v := dL ci64 e7) rfl rfl zc25_d g8 rfl (nb rfl) rfl (evd rfl rfl (ev_mv (c := dL c25_d a1) rfl rfl rfl (evd rfl rfl (ev_mv (c := nI y1) rfl rfl rfl (?_))))))))
      obtain ⟨e9, g10, h⟩ := ob_some h
      refine evd rfl rfl (ev_ia rfl rfl rfl ⟨(geti_some g10).1, (geti_some g10).2.1⟩ (evd rfl rfl (ev_ldE (i := y1) (n := 1) (off := 0) (v := dL ci64 e9) rfl rfl zc25_d g10 rfl (nb rfl) rfl (?_))))
      obtain ⟨v11, g12, h⟩ := ob_some h
      refine evd rfl rfl (ev_call (era rfl (erD eci64 _) (era rfl (erD eci64 _) eran)) (laws_eqIntS_s g12) (evd rfl rfl (ev_un (c1 := .bool v11) rfl trivial (evdn ?_))))
      refine ls_keep [(0, dL c25_d a0), (1, dL c25_d a1), (5, nI y1), (26, .bool (!v11))] ⟨kr, kr, kr, kr, trivial⟩ rfl ?_
      rcases cond_some h with ⟨g13, h⟩ | ⟨g13, h⟩
      · refine ls_cT rfl g13 ?_
        refine ls_rs tbOk ?_
        refine evs (ev_ac rfl nofun rfl (evn ?_))
        refine ls_keep [(4, .bool false)] ⟨kr, trivial⟩ rfl ?_
        refine ls_ret ?_
        have q0 := (Option.some.inj h).symm
        have r0 := hr1
        rw [q0] at r0
        have hr := Option.some.inj r0
        rw [← hr]
        exact ⟨.inl rfl, rfl⟩
      · refine ls_cF rfl g13 ?_
        refine ls_skip ?_
        refine hK6 _ (ls_keep [(0, dL c25_d a0), (1, dL c25_d a1), (5, nI y1)] ⟨kr, kr, kr, trivial⟩ rfl ?_)
        refine ls_rgn tbOk ?_
        refine evs (ev_mv (c := nI y1) rfl rfl rfl (evs (ev_bin (c1 := nI y1) (c2 := nI 1) rfl rfl rfl (evs (ev_as (c := nI (IntKind.i64.wrap (y1 + 1))) rfl rfl rfl (evn ?_))))))
        exact hN _ (IntKind.i64.wrap (y1 + 1)) h ⟨kr, kr, kr, trivial⟩
    · refine ls_cF rfl g5 ?_
      refine ls_exit ?_
      have q0 := (Option.some.inj h).symm
      have r0 := hr1
      rw [q0] at r0
      exact kXlaws_eqIntSS_B1 () r0 _ trivial
def laws_eqRelation (a0 : Y127) (a1 : Y127) : Option (Bool) := cond (a0.1 != a1.1) (some false) (obind (laws_eqIntSS a0.2 a1.2) fun v4 => cond (!v4) (some false) (some true))
theorem laws_eqRelation_s {a0 : Y127} {a1 : Y127} {r : Bool} (h : laws_eqRelation a0 a1 = some r) : SoundAt Try.prog 238 [.agg (c128_dd a0), .agg (c128_dd a1)] (.bool r) := by
  unfold laws_eqRelation at h
  refine sound_lit tbOk lit238 (nb rfl) rfl ?_
  unfold c238
  refine ls_keep [(0, .agg (c128_dd a0)), (1, .agg (c128_dd a1))] ⟨kr, kr, trivial⟩ rfl ?_
  refine ls_rs tbOk ?_
  refine evs (ev_bx (c1 := .agg (c128_dd a0)) rfl rfl rfl (evs (ev_bx (c1 := .agg (c128_dd a1)) rfl rfl rfl (evs (ev_ac rfl nofun rfl (evn ?_))))))
  refine ls_keep [(2, .box [nI a0.1, dL c25_d a0.2]), (3, .box [nI a1.1, dL c25_d a1.2])] ⟨kr, kr, trivial⟩ rfl ?_
  refine ls_seq_k fun K1 hK1 => ?_
  refine ls_rs tbOk ?_
  refine evs (ev_fa (c1 := .cref 2 0) (v := .cref 2 0) rfl rfl rfl ⟨_, rfl⟩ rfl (evs (ev_ldB (off := 0) (v := nI a0.1) rfl rfl rfl rfl (nb rfl) rfl (evs (ev_fa (c1 := .cref 3 0) (v := .cref 3 0) rfl rfl rfl ⟨_, rfl⟩ rfl (evs (ev_ldB (off := 0) (v := nI a1.1) rfl rfl rfl rfl (nb rfl) rfl (evs (ev_bin (c1 := nI a0.1) (c2 := nI a1.1) rfl rfl rfl (evn ?_))))))))))
  refine ls_keep [(2, .box [nI a0.1, dL c25_d a0.2]), (3, .box [nI a1.1, dL c25_d a1.2]), (9, .bool (a0.1 != a1.1))] ⟨kr, kr, kr, trivial⟩ rfl ?_
  rcases cond_some h with ⟨g2, h⟩ | ⟨g2, h⟩
  · refine ls_cT rfl g2 ?_
    refine ls_rs tbOk ?_
    refine evs (ev_ac rfl nofun rfl (evn ?_))
    refine ls_keep [(4, .bool false)] ⟨kr, trivial⟩ rfl ?_
    refine ls_ret ?_
    have hr := Option.some.inj h
    rw [← hr]
    exact ⟨.inl rfl, rfl⟩
  · refine ls_cF rfl g2 ?_
    refine ls_skip ?_
    refine hK1 _ (ls_keep [(2, .box [nI a0.1, dL c25_d a0.2]), (3, .box [nI a1.1, dL c25_d a1.2])] ⟨kr, kr, trivial⟩ rfl ?_)
    refine ls_seq_k fun K3 hK3 => ?_
    refine ls_rs tbOk ?_
    refine evs (ev_fa (c1 := .cref 2 0) (v := .cref 2 1) rfl rfl rfl ⟨_, rfl⟩ rfl (evs (ev_ldB (off := 1) (v := dL c25_d a0.2) rfl rfl rfl rfl (nb rfl) rfl (evs (ev_fa (c1 := .cref 3 0) (v := .cref 3 1) rfl rfl rfl ⟨_, rfl⟩ rfl (evs (ev_ldB (off := 1) (v := dL c25_d a1.2) rfl rfl rfl rfl (nb rfl) rfl (?_))))))))
    obtain ⟨v4, g5, h⟩ := ob_some h
    refine evs (ev_call (era rfl (erD ec25_d _) (era rfl (erD ec25_d _) eran)) (laws_eqIntSS_s g5) (evs (ev_un (c1 := .bool v4) rfl trivial (evn ?_))))
    refine ls_keep [(15, .bool (!v4))] ⟨kr, trivial⟩ rfl ?_
    rcases cond_some h with ⟨g6, h⟩ | ⟨g6, h⟩
    · refine ls_cT rfl g6 ?_
      refine ls_rs tbOk ?_
      refine evs (ev_ac rfl nofun rfl (evn ?_))
      refine ls_keep [(4, .bool false)] ⟨kr, trivial⟩ rfl ?_
      refine ls_ret ?_
      have hr := Option.some.inj h
      rw [← hr]
      exact ⟨.inl rfl, rfl⟩
    · refine ls_cF rfl g6 ?_
      refine ls_skip ?_
      refine hK3 _ (ls_keep [] trivial rfl ?_)
      refine ls_rs tbOk ?_
      refine evs (ev_ac rfl nofun rfl (evn ?_))
      refine ls_keep [(4, .bool true)] ⟨kr, trivial⟩ rfl ?_
      refine ls_ret ?_
      have hr := Option.some.inj h
      rw [← hr]
      exact ⟨.inl rfl, rfl⟩
def laws_eqTable (a0 : Y207) (a1 : Y207) : Option (Bool) := cond (!(a0.1 == a1.1)) (some false) (obind (laws_eqRelation a0.2 a1.2) fun v4 => cond (!v4) (some false) (some true))
theorem laws_eqTable_s {a0 : Y207} {a1 : Y207} {r : Bool} (h : laws_eqTable a0 a1 = some r) : SoundAt Try.prog 176 [.agg (c208_dd a0), .agg (c208_dd a1)] (.bool r) := by
  unfold laws_eqTable at h
  refine sound_lit tbOk lit176 (nb rfl) rfl ?_
  unfold c176
  refine ls_keep [(0, .agg (c208_dd a0)), (1, .agg (c208_dd a1))] ⟨kr, kr, trivial⟩ rfl ?_
  refine ls_rs tbOk ?_
  refine evs (ev_bx (c1 := .agg (c208_dd a0)) rfl rfl rfl (evs (ev_bx (c1 := .agg (c208_dd a1)) rfl rfl rfl (evs (ev_ac rfl nofun rfl (evn ?_))))))
  refine ls_keep [(2, .box [.str a0.1, nI a0.2.1, dL c25_d a0.2.2]), (3, .box [.str a1.1, nI a1.2.1, dL c25_d a1.2.2])] ⟨kr, kr, trivial⟩ rfl ?_
  refine ls_seq_k fun K1 hK1 => ?_
  refine ls_rs tbOk ?_
  refine evs (ev_fa (c1 := .cref 2 0) (v := .cref 2 0) rfl rfl rfl ⟨_, rfl⟩ rfl (evs (ev_ldB (off := 0) (v := .str a0.1) rfl rfl rfl rfl (nb rfl) rfl (evs (ev_fa (c1 := .cref 3 0) (v := .cref 3 0) rfl rfl rfl ⟨_, rfl⟩ rfl (evs (ev_ldB (off := 0) (v := .str a1.1) rfl rfl rfl rfl (nb rfl) rfl (evs (ev_bin (c1 := .str a0.1) (c2 := .str a1.1) rfl rfl trivial (evn ?_))))))))))
  refine ls_keep [(2, .box [.str a0.1, nI a0.2.1, dL c25_d a0.2.2]), (3, .box [.str a1.1, nI a1.2.1, dL c25_d a1.2.2]), (9, .bool (!(a0.1 == a1.1)))] ⟨kr, kr, kr, trivial⟩ rfl ?_
  rcases cond_some h with ⟨g2, h⟩ | ⟨g2, h⟩
  · refine ls_cT rfl g2 ?_
    refine ls_rs tbOk ?_
    refine evs (ev_ac rfl nofun rfl (evn ?_))
    refine ls_keep [(4, .bool false)] ⟨kr, trivial⟩ rfl ?_
    refine ls_ret ?_
    have hr := Option.some.inj h
    rw [← hr]
    exact ⟨.inl rfl, rfl⟩
  · refine ls_cF rfl g2 ?_
    refine ls_skip ?_
    refine hK1 _ (ls_keep [(2, .box [.str a0.1, nI a0.2.1, dL c25_d a0.2.2]), (3, .box [.str a1.1, nI a1.2.1, dL c25_d a1.2.2])] ⟨kr, kr, trivial⟩ rfl ?_)
    refine ls_seq_k fun K3 hK3 => ?_
    refine ls_rs tbOk ?_
    refine evs (ev_fa (c1 := .cref 2 0) (v := .cref 2 1) rfl rfl rfl ⟨_, rfl⟩ rfl (evs (ev_ldB (off := 1) (v := .agg (c128_dd a0.2)) rfl rfl rfl rfl (nb rfl) rfl (evs (ev_fa (c1 := .cref 3 0) (v := .cref 3 1) rfl rfl rfl ⟨_, rfl⟩ rfl (evs (ev_ldB (off := 1) (v := .agg (c128_dd a1.2)) rfl rfl rfl rfl (nb rfl) rfl (?_))))))))
    obtain ⟨v4, g5, h⟩ := ob_some h
    refine evs (ev_call (era rfl (erg (erc rfl (erc (erD ec25_d _) rfl))) (era rfl (erg (erc rfl (erc (erD ec25_d _) rfl))) eran)) (laws_eqRelation_s g5) (evs (ev_un (c1 := .bool v4) rfl trivial (evn ?_))))
    refine ls_keep [(15, .bool (!v4))] ⟨kr, trivial⟩ rfl ?_
    rcases cond_some h with ⟨g6, h⟩ | ⟨g6, h⟩
    · refine ls_cT rfl g6 ?_
      refine ls_rs tbOk ?_
      refine evs (ev_ac rfl nofun rfl (evn ?_))
      refine ls_keep [(4, .bool false)] ⟨kr, trivial⟩ rfl ?_
      refine ls_ret ?_
      have hr := Option.some.inj h
      rw [← hr]
      exact ⟨.inl rfl, rfl⟩
    · refine ls_cF rfl g6 ?_
      refine ls_skip ?_
      refine hK3 _ (ls_keep [] trivial rfl ?_)
      refine ls_rs tbOk ?_
      refine evs (ev_ac rfl nofun rfl (evn ?_))
      refine ls_keep [(4, .bool true)] ⟨kr, trivial⟩ rfl ?_
      refine ls_ret ?_
      have hr := Option.some.inj h
      rw [← hr]
      exact ⟨.inl rfl, rfl⟩
def laws_eqTableS_B1 (a0 : List Y207) (a1 : List Y207) (rec : Int → Option (Sum (Unit) (Bool))) (y1 : Int) : Option (Sum (Unit) (Bool)) := cond (decide (y1 < (List.length a0 : Int))) (obind (geti a0 y1) fun e7 => obind (geti a1 y1) fun e9 => obind (laws_eqTable e7 e9) fun v11 => cond (!v11) (some (.inr false)) (rec (IntKind.i64.wrap (y1 + 1)))) (some (.inl ()))
def laws_eqTableS (a0 : List Y207) (a1 : List Y207) : Option (Bool) := cond ((List.length a0 : Int) != (List.length a1 : Int)) (some false) (obind (loopF (laws_eqTableS_B1 a0 a1) fz 0) fun o1 => (match o1 with
  | .inl _ => (some true)
  | .inr r => some r))
theorem laws_eqTableS_s {a0 : List Y207} {a1 : List Y207} {r : Bool} (h : laws_eqTableS a0 a1 = some r) : SoundAt Try.prog 82 [dL c208_dd a0, dL c208_dd a1] (.bool r) := by
  unfold laws_eqTableS at h
  refine sound_lit tbOk lit82 (nb rfl) rfl ?_
  unfold c82
  refine ls_keep [(0, dL c208_dd a0), (1, dL c208_dd a1)] ⟨kr, kr, trivial⟩ rfl ?_
  refine ls_rs tbOk ?_
  refine evs (ev_ac rfl nofun rfl (evn ?_))
  refine ls_keep [(0, dL c208_dd a0), (1, dL c208_dd a1)] ⟨kr, kr, trivial⟩ rfl ?_
  refine ls_seq_k fun K1 hK1 => ?_
  refine ls_rs tbOk ?_
  refine evs (ev_mv (c := dL c208_dd a0) rfl rfl rfl (evs (ev_len (c1 := dL c208_dd a0) rfl rfl rfl (evs (ev_mv (c := dL c208_dd a1) rfl rfl rfl (evs (ev_len (c1 := dL c208_dd a1) rfl rfl rfl (evs (ev_bin (c1 := nI (List.length a0 : Int)) (c2 := nI (List.length a1 : Int)) rfl rfl rfl (evn ?_))))))))))
  refine ls_keep [(0, dL c208_dd a0), (1, dL c208_dd a1), (10, .bool ((List.length a0 : Int) != (List.length a1 : Int)))] ⟨kr, kr, kr, trivial⟩ rfl ?_
  rcases cond_some h with ⟨g2, h⟩ | ⟨g2, h⟩
  · refine ls_cT rfl g2 ?_
    refine ls_rs tbOk ?_
    refine evs (ev_ac rfl nofun rfl (evn ?_))
    refine ls_keep [(4, .bool false)] ⟨kr, trivial⟩ rfl ?_
    refine ls_ret ?_
    have hr := Option.some.inj h
    rw [← hr]
    exact ⟨.inl rfl, rfl⟩
  · refine ls_cF rfl g2 ?_
    refine ls_skip ?_
    refine hK1 _ (ls_keep [(0, dL c208_dd a0), (1, dL c208_dd a1)] ⟨kr, kr, trivial⟩ rfl ?_)
    refine ls_seq_k fun K3 hK3 => ?_
    refine ls_rs tbOk ?_
    refine evs (ev_ac rfl nofun rfl (evn ?_))
    refine ls_keep [(0, dL c208_dd a0), (1, dL c208_dd a1), (5, nI 0)] ⟨kr, kr, kr, trivial⟩ rfl ?_
    obtain ⟨o1, hl, hr1⟩ := ob_some h
    clear h
    have kXlaws_eqTableS_B1 : ∀ (_ : Unit), (some true) = some r → ∀ σ' : PS, okK σ' [] → K3 σ' := by
      intro _ h σ' hk
      refine hK3 _ (ls_keep [] hk rfl ?_)
      refine ls_rs tbOk ?_
      refine evs (ev_ac rfl nofun rfl (evn ?_))
      refine ls_keep [(4, .bool true)] ⟨kr, trivial⟩ rfl ?_
      refine ls_ret ?_
      have hr := Option.some.inj h
      rw [← hr]
      exact ⟨.inl rfl, rfl⟩
    refine ls_rec (fun (y1 : Int) => [(0, dL c208_dd a0), (1, dL c208_dd a1), (5, nI y1)]) (laws_eqTableS_B1 a0 a1) fz 0 o1 hl ⟨kr, kr, kr, trivial⟩ (fun _ => rfl) ?_
    rintro m y1 N h hN
    unfold laws_eqTableS_B1 at h
    refine ls_seq_k fun K4 hK4 => ?_
    refine ls_rs tbOk ?_
    refine evs (ev_mv (c := nI y1) rfl rfl rfl (evs (ev_mv (c := dL c208_dd a0) rfl rfl rfl (evs (ev_len (c1 := dL c208_dd a0) rfl rfl rfl (evs (ev_bin (c1 := nI y1) (c2 := nI (List.length a0 : Int)) rfl rfl rfl (evn ?_))))))))
    refine ls_keep [(0, dL c208_dd a0), (1, dL c208_dd a1), (5, nI y1), (14, .bool (decide (y1 < (List.length a0 : Int))))] ⟨kr, kr, kr, kr, trivial⟩ rfl ?_
    rcases cond_some h with ⟨g5, h⟩ | ⟨g5, h⟩
    · refine ls_cT rfl g5 ?_
      refine ls_skip ?_
      refine hK4 _ (ls_keep [(0, dL c208_dd a0), (1, dL c208_dd a1), (5, nI y1)] ⟨kr, kr, kr, trivial⟩ rfl ?_)
      refine ls_seq_k fun K6 hK6 => ?_
      refine ls_blk ?_
      refine ls_rd tbOk mixed (by kernel_rfl) ?_
      refine evd rfl rfl (ev_mv (c := dL c208_dd a0) rfl rfl rfl (evd rfl rfl (ev_mv (c := nI y1) rfl rfl rfl (?_))))
      obtain ⟨e7, g8, h⟩ := ob_some h
      refine evd rfl rfl (ev_ia rfl rfl rfl ⟨(geti_some g8).1, (geti_some g8).2.1⟩ (evd rfl rfl (ev_ldE (i := y1) (n := 3) (off := 0) (v := .agg (c208_dd e7)) rfl rfl zc208_dd g8 rfl (nb rfl) rfl (evd rfl rfl (ev_mv (c := dL c208_dd a1) rfl rfl rfl (evd rfl rfl (ev_mv (c := nI y1) rfl rfl rfl (?_))))))))
      obtain ⟨e9, g10, h⟩ := ob_some h
      refine evd rfl rfl (ev_ia rfl rfl rfl ⟨(geti_some g10).1, (geti_some g10).2.1⟩ (evd rfl rfl (ev_ldE (i := y1) (n := 3) (off := 0) (v := .agg (c208_dd e9)) rfl rfl zc208_dd g10 rfl (nb rfl) rfl (?_))))
      obtain ⟨v11, g12, h⟩ := ob_some h
      refine evd rfl rfl (ev_call (era rfl (erg (erc rfl (erc rfl (erc (erD ec25_d _) rfl)))) (era rfl (erg (erc rfl (erc rfl (erc (erD ec25_d _) rfl)))) eran)) (laws_eqTable_s g12) (evd rfl rfl (ev_un (c1 := .bool v11) rfl trivial (evdn ?_))))
      refine ls_keep [(0, dL c208_dd a0), (1, dL c208_dd a1), (5, nI y1), (26, .bool (!v11))] ⟨kr, kr, kr, kr, trivial⟩ rfl ?_
      rcases cond_some h with ⟨g13, h⟩ | ⟨g13, h⟩
      · refine ls_cT rfl g13 ?_
        refine ls_rs tbOk ?_
        refine evs (ev_ac rfl nofun rfl (evn ?_))
        refine ls_keep [(4, .bool false)] ⟨kr, trivial⟩ rfl ?_
        refine ls_ret ?_
        have q0 := (Option.some.inj h).symm
        have r0 := hr1
        rw [q0] at r0
        have hr := Option.some.inj r0
        rw [← hr]
        exact ⟨.inl rfl, rfl⟩
      · refine ls_cF rfl g13 ?_
        refine ls_skip ?_
        refine hK6 _ (ls_keep [(0, dL c208_dd a0), (1, dL c208_dd a1), (5, nI y1)] ⟨kr, kr, kr, trivial⟩ rfl ?_)
        refine ls_rgn tbOk ?_
        refine evs (ev_mv (c := nI y1) rfl rfl rfl (evs (ev_bin (c1 := nI y1) (c2 := nI 1) rfl rfl rfl (evs (ev_as (c := nI (IntKind.i64.wrap (y1 + 1))) rfl rfl rfl (evn ?_))))))
        exact hN _ (IntKind.i64.wrap (y1 + 1)) h ⟨kr, kr, kr, trivial⟩
    · refine ls_cF rfl g5 ?_
      refine ls_exit ?_
      have q0 := (Option.some.inj h).symm
      have r0 := hr1
      rw [q0] at r0
      exact kXlaws_eqTableS_B1 () r0 _ trivial
def laws_eqDatabase (a0 : List Y207) (a1 : List Y207) : Option (Bool) := obind (laws_eqTableS a0 a1) fun v2 => cond (!v2) (some false) (some true)
theorem laws_eqDatabase_s {a0 : List Y207} {a1 : List Y207} {r : Bool} (h : laws_eqDatabase a0 a1 = some r) : SoundAt Try.prog 20 [.agg [dL c208_dd a0], .agg [dL c208_dd a1]] (.bool r) := by
  unfold laws_eqDatabase at h
  refine sound_lit tbOk lit20 (nb rfl) rfl ?_
  unfold c20
  refine ls_keep [(0, .agg [dL c208_dd a0]), (1, .agg [dL c208_dd a1])] ⟨kr, kr, trivial⟩ rfl ?_
  refine ls_rs tbOk ?_
  refine evs (ev_bx (c1 := .agg [dL c208_dd a0]) rfl rfl rfl (evs (ev_bx (c1 := .agg [dL c208_dd a1]) rfl rfl rfl (evs (ev_ac rfl nofun rfl (evn ?_))))))
  refine ls_keep [(2, .box [dL c208_dd a0]), (3, .box [dL c208_dd a1])] ⟨kr, kr, trivial⟩ rfl ?_
  refine ls_seq_k fun K1 hK1 => ?_
  refine ls_rs tbOk ?_
  refine evs (ev_fa (c1 := .cref 2 0) (v := .cref 2 0) rfl rfl rfl ⟨_, rfl⟩ rfl (evs (ev_ldB (off := 0) (v := dL c208_dd a0) rfl rfl rfl rfl (nb rfl) rfl (evs (ev_fa (c1 := .cref 3 0) (v := .cref 3 0) rfl rfl rfl ⟨_, rfl⟩ rfl (evs (ev_ldB (off := 0) (v := dL c208_dd a1) rfl rfl rfl rfl (nb rfl) rfl (?_))))))))
  obtain ⟨v2, g3, h⟩ := ob_some h
  refine evs (ev_call (era rfl (erD ec208_dd _) (era rfl (erD ec208_dd _) eran)) (laws_eqTableS_s g3) (evs (ev_un (c1 := .bool v2) rfl trivial (evn ?_))))
  refine ls_keep [(10, .bool (!v2))] ⟨kr, trivial⟩ rfl ?_
  rcases cond_some h with ⟨g4, h⟩ | ⟨g4, h⟩
  · refine ls_cT rfl g4 ?_
    refine ls_rs tbOk ?_
    refine evs (ev_ac rfl nofun rfl (evn ?_))
    refine ls_keep [(4, .bool false)] ⟨kr, trivial⟩ rfl ?_
    refine ls_ret ?_
    have hr := Option.some.inj h
    rw [← hr]
    exact ⟨.inl rfl, rfl⟩
  · refine ls_cF rfl g4 ?_
    refine ls_skip ?_
    refine hK1 _ (ls_keep [] trivial rfl ?_)
    refine ls_rs tbOk ?_
    refine evs (ev_ac rfl nofun rfl (evn ?_))
    refine ls_keep [(4, .bool true)] ⟨kr, trivial⟩ rfl ?_
    refine ls_ret ?_
    have hr := Option.some.inj h
    rw [← hr]
    exact ⟨.inl rfl, rfl⟩
def laws_eqDatabaseS_B1 (a0 : List (List Y207)) (a1 : List (List Y207)) (rec : Int → Option (Sum (Unit) (Bool))) (y1 : Int) : Option (Sum (Unit) (Bool)) := cond (decide (y1 < (List.length a0 : Int))) (obind (geti a0 y1) fun e7 => obind (geti a1 y1) fun e9 => obind (laws_eqDatabase e7 e9) fun v11 => cond (!v11) (some (.inr false)) (rec (IntKind.i64.wrap (y1 + 1)))) (some (.inl ()))
def laws_eqDatabaseS (a0 : List (List Y207)) (a1 : List (List Y207)) : Option (Bool) := cond ((List.length a0 : Int) != (List.length a1 : Int)) (some false) (obind (loopF (laws_eqDatabaseS_B1 a0 a1) fz 0) fun o1 => (match o1 with
  | .inl _ => (some true)
  | .inr r => some r))
theorem laws_eqDatabaseS_s {a0 : List (List Y207)} {a1 : List (List Y207)} {r : Bool} (h : laws_eqDatabaseS a0 a1 = some r) : SoundAt Try.prog 92 [dL c33_ddd a0, dL c33_ddd a1] (.bool r) := by
  unfold laws_eqDatabaseS at h
  refine sound_lit tbOk lit92 (nb rfl) rfl ?_
  unfold c92
  refine ls_keep [(0, dL c33_ddd a0), (1, dL c33_ddd a1)] ⟨kr, kr, trivial⟩ rfl ?_
  refine ls_rs tbOk ?_
  refine evs (ev_ac rfl nofun rfl (evn ?_))
  refine ls_keep [(0, dL c33_ddd a0), (1, dL c33_ddd a1)] ⟨kr, kr, trivial⟩ rfl ?_
  refine ls_seq_k fun K1 hK1 => ?_
  refine ls_rs tbOk ?_
  refine evs (ev_mv (c := dL c33_ddd a0) rfl rfl rfl (evs (ev_len (c1 := dL c33_ddd a0) rfl rfl rfl (evs (ev_mv (c := dL c33_ddd a1) rfl rfl rfl (evs (ev_len (c1 := dL c33_ddd a1) rfl rfl rfl (evs (ev_bin (c1 := nI (List.length a0 : Int)) (c2 := nI (List.length a1 : Int)) rfl rfl rfl (evn ?_))))))))))
  refine ls_keep [(0, dL c33_ddd a0), (1, dL c33_ddd a1), (10, .bool ((List.length a0 : Int) != (List.length a1 : Int)))] ⟨kr, kr, kr, trivial⟩ rfl ?_
  rcases cond_some h with ⟨g2, h⟩ | ⟨g2, h⟩
  · refine ls_cT rfl g2 ?_
    refine ls_rs tbOk ?_
    refine evs (ev_ac rfl nofun rfl (evn ?_))
    refine ls_keep [(4, .bool false)] ⟨kr, trivial⟩ rfl ?_
    refine ls_ret ?_
    have hr := Option.some.inj h
    rw [← hr]
    exact ⟨.inl rfl, rfl⟩
  · refine ls_cF rfl g2 ?_
    refine ls_skip ?_
    refine hK1 _ (ls_keep [(0, dL c33_ddd a0), (1, dL c33_ddd a1)] ⟨kr, kr, trivial⟩ rfl ?_)
    refine ls_seq_k fun K3 hK3 => ?_
    refine ls_rs tbOk ?_
    refine evs (ev_ac rfl nofun rfl (evn ?_))
    refine ls_keep [(0, dL c33_ddd a0), (1, dL c33_ddd a1), (5, nI 0)] ⟨kr, kr, kr, trivial⟩ rfl ?_
    obtain ⟨o1, hl, hr1⟩ := ob_some h
    clear h
    have kXlaws_eqDatabaseS_B1 : ∀ (_ : Unit), (some true) = some r → ∀ σ' : PS, okK σ' [] → K3 σ' := by
      intro _ h σ' hk
      refine hK3 _ (ls_keep [] hk rfl ?_)
      refine ls_rs tbOk ?_
      refine evs (ev_ac rfl nofun rfl (evn ?_))
      refine ls_keep [(4, .bool true)] ⟨kr, trivial⟩ rfl ?_
      refine ls_ret ?_
      have hr := Option.some.inj h
      rw [← hr]
      exact ⟨.inl rfl, rfl⟩
    refine ls_rec (fun (y1 : Int) => [(0, dL c33_ddd a0), (1, dL c33_ddd a1), (5, nI y1)]) (laws_eqDatabaseS_B1 a0 a1) fz 0 o1 hl ⟨kr, kr, kr, trivial⟩ (fun _ => rfl) ?_
    rintro m y1 N h hN
    unfold laws_eqDatabaseS_B1 at h
    refine ls_seq_k fun K4 hK4 => ?_
    refine ls_rs tbOk ?_
    refine evs (ev_mv (c := nI y1) rfl rfl rfl (evs (ev_mv (c := dL c33_ddd a0) rfl rfl rfl (evs (ev_len (c1 := dL c33_ddd a0) rfl rfl rfl (evs (ev_bin (c1 := nI y1) (c2 := nI (List.length a0 : Int)) rfl rfl rfl (evn ?_))))))))
    refine ls_keep [(0, dL c33_ddd a0), (1, dL c33_ddd a1), (5, nI y1), (14, .bool (decide (y1 < (List.length a0 : Int))))] ⟨kr, kr, kr, kr, trivial⟩ rfl ?_
    rcases cond_some h with ⟨g5, h⟩ | ⟨g5, h⟩
    · refine ls_cT rfl g5 ?_
      refine ls_skip ?_
      refine hK4 _ (ls_keep [(0, dL c33_ddd a0), (1, dL c33_ddd a1), (5, nI y1)] ⟨kr, kr, kr, trivial⟩ rfl ?_)
      refine ls_seq_k fun K6 hK6 => ?_
      refine ls_blk ?_
      refine ls_rd tbOk mixed (by kernel_rfl) ?_
      refine evd rfl rfl (ev_mv (c := dL c33_ddd a0) rfl rfl rfl (evd rfl rfl (ev_mv (c := nI y1) rfl rfl rfl (?_))))
      obtain ⟨e7, g8, h⟩ := ob_some h
      refine evd rfl rfl (ev_ia rfl rfl rfl ⟨(geti_some g8).1, (geti_some g8).2.1⟩ (evd rfl rfl (ev_ldE (i := y1) (n := 1) (off := 0) (v := .agg [dL c208_dd e7]) rfl rfl zc33_ddd g8 rfl (nb rfl) rfl (evd rfl rfl (ev_mv (c := dL c33_ddd a1) rfl rfl rfl (evd rfl rfl (ev_mv (c := nI y1) rfl rfl rfl (?_))))))))
      obtain ⟨e9, g10, h⟩ := ob_some h
      refine evd rfl rfl (ev_ia rfl rfl rfl ⟨(geti_some g10).1, (geti_some g10).2.1⟩ (evd rfl rfl (ev_ldE (i := y1) (n := 1) (off := 0) (v := .agg [dL c208_dd e9]) rfl rfl zc33_ddd g10 rfl (nb rfl) rfl (?_))))
      obtain ⟨v11, g12, h⟩ := ob_some h
      refine evd rfl rfl (ev_call (era rfl (erg (erc (erD ec208_dd _) rfl)) (era rfl (erg (erc (erD ec208_dd _) rfl)) eran)) (laws_eqDatabase_s g12) (evd rfl rfl (ev_un (c1 := .bool v11) rfl trivial (evdn ?_))))
      refine ls_keep [(0, dL c33_ddd a0), (1, dL c33_ddd a1), (5, nI y1), (26, .bool (!v11))] ⟨kr, kr, kr, kr, trivial⟩ rfl ?_
      rcases cond_some h with ⟨g13, h⟩ | ⟨g13, h⟩
      · refine ls_cT rfl g13 ?_
        refine ls_rs tbOk ?_
        refine evs (ev_ac rfl nofun rfl (evn ?_))
        refine ls_keep [(4, .bool false)] ⟨kr, trivial⟩ rfl ?_
        refine ls_ret ?_
        have q0 := (Option.some.inj h).symm
        have r0 := hr1
        rw [q0] at r0
        have hr := Option.some.inj r0
        rw [← hr]
        exact ⟨.inl rfl, rfl⟩
      · refine ls_cF rfl g13 ?_
        refine ls_skip ?_
        refine hK6 _ (ls_keep [(0, dL c33_ddd a0), (1, dL c33_ddd a1), (5, nI y1)] ⟨kr, kr, kr, trivial⟩ rfl ?_)
        refine ls_rgn tbOk ?_
        refine evs (ev_mv (c := nI y1) rfl rfl rfl (evs (ev_bin (c1 := nI y1) (c2 := nI 1) rfl rfl rfl (evs (ev_as (c := nI (IntKind.i64.wrap (y1 + 1))) rfl rfl rfl (evn ?_))))))
        exact hN _ (IntKind.i64.wrap (y1 + 1)) h ⟨kr, kr, kr, trivial⟩
    · refine ls_cF rfl g5 ?_
      refine ls_exit ?_
      have q0 := (Option.some.inj h).symm
      have r0 := hr1
      rw [q0] at r0
      exact kXlaws_eqDatabaseS_B1 () r0 _ trivial
def laws_eqHistory (a0 : Y51) (a1 : Y51) : Option (Bool) := cond (a0.1 != a1.1) (some false) (obind (laws_eqDatabaseS a0.2 a1.2) fun v4 => cond (!v4) (some false) (some true))
theorem laws_eqHistory_s {a0 : Y51} {a1 : Y51} {r : Bool} (h : laws_eqHistory a0 a1 = some r) : SoundAt Try.prog 30 [.agg (c52_dddd a0), .agg (c52_dddd a1)] (.bool r) := by
  unfold laws_eqHistory at h
  refine sound_lit tbOk lit30 (nb rfl) rfl ?_
  unfold c30
  refine ls_keep [(0, .agg (c52_dddd a0)), (1, .agg (c52_dddd a1))] ⟨kr, kr, trivial⟩ rfl ?_
  refine ls_rs tbOk ?_
  refine evs (ev_bx (c1 := .agg (c52_dddd a0)) rfl rfl rfl (evs (ev_bx (c1 := .agg (c52_dddd a1)) rfl rfl rfl (evs (ev_ac rfl nofun rfl (evn ?_))))))
  refine ls_keep [(2, .box [nI a0.1, dL c33_ddd a0.2]), (3, .box [nI a1.1, dL c33_ddd a1.2])] ⟨kr, kr, trivial⟩ rfl ?_
  refine ls_seq_k fun K1 hK1 => ?_
  refine ls_rs tbOk ?_
  refine evs (ev_fa (c1 := .cref 2 0) (v := .cref 2 0) rfl rfl rfl ⟨_, rfl⟩ rfl (evs (ev_ldB (off := 0) (v := nI a0.1) rfl rfl rfl rfl (nb rfl) rfl (evs (ev_fa (c1 := .cref 3 0) (v := .cref 3 0) rfl rfl rfl ⟨_, rfl⟩ rfl (evs (ev_ldB (off := 0) (v := nI a1.1) rfl rfl rfl rfl (nb rfl) rfl (evs (ev_bin (c1 := nI a0.1) (c2 := nI a1.1) rfl rfl rfl (evn ?_))))))))))
  refine ls_keep [(2, .box [nI a0.1, dL c33_ddd a0.2]), (3, .box [nI a1.1, dL c33_ddd a1.2]), (9, .bool (a0.1 != a1.1))] ⟨kr, kr, kr, trivial⟩ rfl ?_
  rcases cond_some h with ⟨g2, h⟩ | ⟨g2, h⟩
  · refine ls_cT rfl g2 ?_
    refine ls_rs tbOk ?_
    refine evs (ev_ac rfl nofun rfl (evn ?_))
    refine ls_keep [(4, .bool false)] ⟨kr, trivial⟩ rfl ?_
    refine ls_ret ?_
    have hr := Option.some.inj h
    rw [← hr]
    exact ⟨.inl rfl, rfl⟩
  · refine ls_cF rfl g2 ?_
    refine ls_skip ?_
    refine hK1 _ (ls_keep [(2, .box [nI a0.1, dL c33_ddd a0.2]), (3, .box [nI a1.1, dL c33_ddd a1.2])] ⟨kr, kr, trivial⟩ rfl ?_)
    refine ls_seq_k fun K3 hK3 => ?_
    refine ls_rs tbOk ?_
    refine evs (ev_fa (c1 := .cref 2 0) (v := .cref 2 1) rfl rfl rfl ⟨_, rfl⟩ rfl (evs (ev_ldB (off := 1) (v := dL c33_ddd a0.2) rfl rfl rfl rfl (nb rfl) rfl (evs (ev_fa (c1 := .cref 3 0) (v := .cref 3 1) rfl rfl rfl ⟨_, rfl⟩ rfl (evs (ev_ldB (off := 1) (v := dL c33_ddd a1.2) rfl rfl rfl rfl (nb rfl) rfl (?_))))))))
    obtain ⟨v4, g5, h⟩ := ob_some h
    refine evs (ev_call (era rfl (erD ec33_ddd _) (era rfl (erD ec33_ddd _) eran)) (laws_eqDatabaseS_s g5) (evs (ev_un (c1 := .bool v4) rfl trivial (evn ?_))))
    refine ls_keep [(15, .bool (!v4))] ⟨kr, trivial⟩ rfl ?_
    rcases cond_some h with ⟨g6, h⟩ | ⟨g6, h⟩
    · refine ls_cT rfl g6 ?_
      refine ls_rs tbOk ?_
      refine evs (ev_ac rfl nofun rfl (evn ?_))
      refine ls_keep [(4, .bool false)] ⟨kr, trivial⟩ rfl ?_
      refine ls_ret ?_
      have hr := Option.some.inj h
      rw [← hr]
      exact ⟨.inl rfl, rfl⟩
    · refine ls_cF rfl g6 ?_
      refine ls_skip ?_
      refine hK3 _ (ls_keep [] trivial rfl ?_)
      refine ls_rs tbOk ?_
      refine evs (ev_ac rfl nofun rfl (evn ?_))
      refine ls_keep [(4, .bool true)] ⟨kr, trivial⟩ rfl ?_
      refine ls_ret ?_
      have hr := Option.some.inj h
      rw [← hr]
      exact ⟨.inl rfl, rfl⟩
def laws_szAtom (a0 : Y194) (a1 : Int) : Option (Int) := cond (decide ((IntKind.i64.wrap (a1 - (List.length a0.1 : Int))) < 0)) (some (-1)) (obind (laws_szIntS a0.2 (IntKind.i64.wrap (a1 - (List.length a0.1 : Int)))) fun v3 => cond (decide (v3 < 0)) (some (-1)) (some v3))
theorem laws_szAtom_s {a0 : Y194} {a1 : Int} {r : Int} (h : laws_szAtom a0 a1 = some r) : SoundAt Try.prog 198 [.agg (c231_d a0), nI a1] (nI r) := by
  unfold laws_szAtom at h
  refine sound_lit tbOk lit198 (nb rfl) rfl ?_
  unfold c198
  refine ls_keep [(0, .agg (c231_d a0)), (1, nI a1)] ⟨kr, kr, trivial⟩ rfl ?_
  refine ls_rs tbOk ?_
  refine evs (ev_bx (c1 := .agg (c231_d a0)) rfl rfl rfl (evs (ev_ac rfl nofun rfl (evn ?_))))
  refine ls_keep [(1, nI a1), (2, .box [.str a0.1, dL ci64 a0.2])] ⟨kr, kr, trivial⟩ rfl ?_
  refine ls_rs tbOk ?_
  refine evs (ev_mv (c := nI a1) rfl rfl rfl (evs (ev_fa (c1 := .cref 2 0) (v := .cref 2 0) rfl rfl rfl ⟨_, rfl⟩ rfl (evs (ev_ldB (off := 0) (v := .str a0.1) rfl rfl rfl rfl (nb rfl) rfl (evs (ev_lens (z := []) rfl rfl (evs (ev_bin (c1 := nI a1) (c2 := nI (List.length a0.1 : Int)) rfl rfl rfl (evs (ev_as (c := nI (IntKind.i64.wrap (a1 - (List.length a0.1 : Int)))) rfl rfl rfl (evn ?_))))))))))))
  refine ls_keep [(1, nI (IntKind.i64.wrap (a1 - (List.length a0.1 : Int)))), (2, .box [.str a0.1, dL ci64 a0.2])] ⟨kr, kr, trivial⟩ rfl ?_
  refine ls_seq_k fun K1 hK1 => ?_
  refine ls_rs tbOk ?_
  refine evs (ev_mv (c := nI (IntKind.i64.wrap (a1 - (List.length a0.1 : Int)))) rfl rfl rfl (evs (ev_bin (c1 := nI (IntKind.i64.wrap (a1 - (List.length a0.1 : Int)))) (c2 := nI 0) rfl rfl rfl (evn ?_))))
  refine ls_keep [(1, nI (IntKind.i64.wrap (a1 - (List.length a0.1 : Int)))), (2, .box [.str a0.1, dL ci64 a0.2]), (11, .bool (decide ((IntKind.i64.wrap (a1 - (List.length a0.1 : Int))) < 0)))] ⟨kr, kr, kr, trivial⟩ rfl ?_
  rcases cond_some h with ⟨g2, h⟩ | ⟨g2, h⟩
  · refine ls_cT rfl g2 ?_
    refine ls_rs tbOk ?_
    refine evs (ev_ac rfl nofun rfl (evn ?_))
    refine ls_keep [(4, nI (-1))] ⟨kr, trivial⟩ rfl ?_
    refine ls_ret ?_
    have hr := Option.some.inj h
    rw [← hr]
    exact ⟨.inl rfl, rfl⟩
  · refine ls_cF rfl g2 ?_
    refine ls_skip ?_
    refine hK1 _ (ls_keep [(1, nI (IntKind.i64.wrap (a1 - (List.length a0.1 : Int)))), (2, .box [.str a0.1, dL ci64 a0.2])] ⟨kr, kr, trivial⟩ rfl ?_)
    refine ls_rs tbOk ?_
    refine evs (ev_fa (c1 := .cref 2 0) (v := .cref 2 1) rfl rfl rfl ⟨_, rfl⟩ rfl (evs (ev_ldB (off := 1) (v := dL ci64 a0.2) rfl rfl rfl rfl (nb rfl) rfl (evs (ev_mv (c := nI (IntKind.i64.wrap (a1 - (List.length a0.1 : Int)))) rfl rfl rfl (?_))))))
    obtain ⟨v3, g4, h⟩ := ob_some h
    refine evs (ev_call (era rfl (erD eci64 _) (era rfl rfl eran)) (laws_szIntS_s g4) (evs (ev_as (c := nI v3) rfl rfl rfl (evn ?_))))
    refine ls_keep [(1, nI v3)] ⟨kr, trivial⟩ rfl ?_
    refine ls_seq_k fun K5 hK5 => ?_
    refine ls_rs tbOk ?_
    refine evs (ev_mv (c := nI v3) rfl rfl rfl (evs (ev_bin (c1 := nI v3) (c2 := nI 0) rfl rfl rfl (evn ?_))))
    refine ls_keep [(1, nI v3), (17, .bool (decide (v3 < 0)))] ⟨kr, kr, trivial⟩ rfl ?_
    rcases cond_some h with ⟨g6, h⟩ | ⟨g6, h⟩
    · refine ls_cT rfl g6 ?_
      refine ls_rs tbOk ?_
      refine evs (ev_ac rfl nofun rfl (evn ?_))
      refine ls_keep [(4, nI (-1))] ⟨kr, trivial⟩ rfl ?_
      refine ls_ret ?_
      have hr := Option.some.inj h
      rw [← hr]
      exact ⟨.inl rfl, rfl⟩
    · refine ls_cF rfl g6 ?_
      refine ls_skip ?_
      refine hK5 _ (ls_keep [(1, nI v3)] ⟨kr, trivial⟩ rfl ?_)
      refine ls_rs tbOk ?_
      refine evs (ev_mv (c := nI v3) rfl rfl rfl (evs (ev_as (c := nI v3) rfl rfl rfl (evn ?_))))
      refine ls_keep [(4, nI v3)] ⟨kr, trivial⟩ rfl ?_
      refine ls_ret ?_
      have hr := Option.some.inj h
      rw [← hr]
      exact ⟨.inl rfl, rfl⟩
def laws_szAtomS_B1 (a0 : List Y194) (rec : (Int × Int) → Option (Sum (Int) (Int))) (s : Int × Int) : Option (Sum (Int) (Int)) := match s with
  | (y1, y2) => cond (decide (y2 < (List.length a0 : Int))) (obind (geti a0 y2) fun e8 => obind (laws_szAtom e8 y1) fun v10 => cond (decide (v10 < 0)) (some (.inr (-1))) (rec (v10, (IntKind.i64.wrap (y2 + 1))))) (some (.inl y1))
def laws_szAtomS (a0 : List Y194) (a1 : Int) : Option (Int) := cond (decide ((IntKind.i64.wrap (a1 - (List.length a0 : Int))) < 0)) (some (-1)) (obind (loopF (laws_szAtomS_B1 a0) fz ((IntKind.i64.wrap (a1 - (List.length a0 : Int))), 0)) fun o1 => (match o1 with
  | .inl z4 => (some z4)
  | .inr r => some r))
theorem laws_szAtomS_s {a0 : List Y194} {a1 : Int} {r : Int} (h : laws_szAtomS a0 a1 = some r) : SoundAt Try.prog 120 [dL c231_d a0, nI a1] (nI r) := by
  unfold laws_szAtomS at h
  refine sound_lit tbOk lit120 (nb rfl) rfl ?_
  unfold c120
  refine ls_keep [(0, dL c231_d a0), (1, nI a1)] ⟨kr, kr, trivial⟩ rfl ?_
  refine ls_rs tbOk ?_
  refine evs (ev_ac rfl nofun rfl (evn ?_))
  refine ls_keep [(0, dL c231_d a0), (1, nI a1)] ⟨kr, kr, trivial⟩ rfl ?_
  refine ls_rs tbOk ?_
  refine evs (ev_mv (c := nI a1) rfl rfl rfl (evs (ev_mv (c := dL c231_d a0) rfl rfl rfl (evs (ev_len (c1 := dL c231_d a0) rfl rfl rfl (evs (ev_bin (c1 := nI a1) (c2 := nI (List.length a0 : Int)) rfl rfl rfl (evs (ev_as (c := nI (IntKind.i64.wrap (a1 - (List.length a0 : Int)))) rfl rfl rfl (evn ?_))))))))))
  refine ls_keep [(0, dL c231_d a0), (1, nI (IntKind.i64.wrap (a1 - (List.length a0 : Int))))] ⟨kr, kr, trivial⟩ rfl ?_
  refine ls_seq_k fun K1 hK1 => ?_
  refine ls_rs tbOk ?_
  refine evs (ev_mv (c := nI (IntKind.i64.wrap (a1 - (List.length a0 : Int)))) rfl rfl rfl (evs (ev_bin (c1 := nI (IntKind.i64.wrap (a1 - (List.length a0 : Int)))) (c2 := nI 0) rfl rfl rfl (evn ?_))))
  refine ls_keep [(0, dL c231_d a0), (1, nI (IntKind.i64.wrap (a1 - (List.length a0 : Int)))), (11, .bool (decide ((IntKind.i64.wrap (a1 - (List.length a0 : Int))) < 0)))] ⟨kr, kr, kr, trivial⟩ rfl ?_
  rcases cond_some h with ⟨g2, h⟩ | ⟨g2, h⟩
  · refine ls_cT rfl g2 ?_
    refine ls_rs tbOk ?_
    refine evs (ev_ac rfl nofun rfl (evn ?_))
    refine ls_keep [(4, nI (-1))] ⟨kr, trivial⟩ rfl ?_
    refine ls_ret ?_
    have hr := Option.some.inj h
    rw [← hr]
    exact ⟨.inl rfl, rfl⟩
  · refine ls_cF rfl g2 ?_
    refine ls_skip ?_
    refine hK1 _ (ls_keep [(0, dL c231_d a0), (1, nI (IntKind.i64.wrap (a1 - (List.length a0 : Int))))] ⟨kr, kr, trivial⟩ rfl ?_)
    refine ls_seq_k fun K3 hK3 => ?_
    refine ls_rs tbOk ?_
    refine evs (ev_ac rfl nofun rfl (evn ?_))
    refine ls_keep [(0, dL c231_d a0), (1, nI (IntKind.i64.wrap (a1 - (List.length a0 : Int)))), (5, nI 0)] ⟨kr, kr, kr, trivial⟩ rfl ?_
    obtain ⟨o1, hl, hr1⟩ := ob_some h
    clear h
    have kXlaws_szAtomS_B1 : ∀ (z4 : Int), (some z4) = some r → ∀ σ' : PS, okK σ' [(1, nI z4)] → K3 σ' := by
      intro z4 h σ' hk
      refine hK3 _ (ls_keep [(1, nI z4)] hk rfl ?_)
      refine ls_rs tbOk ?_
      refine evs (ev_mv (c := nI z4) rfl rfl rfl (evs (ev_as (c := nI z4) rfl rfl rfl (evn ?_))))
      refine ls_keep [(4, nI z4)] ⟨kr, trivial⟩ rfl ?_
      refine ls_ret ?_
      have hr := Option.some.inj h
      rw [← hr]
      exact ⟨.inl rfl, rfl⟩
    refine ls_rec (fun (s : Int × Int) => match s with | (y1, y2) => [(0, dL c231_d a0), (1, nI y1), (5, nI y2)]) (laws_szAtomS_B1 a0) fz ((IntKind.i64.wrap (a1 - (List.length a0 : Int))), 0) o1 hl ⟨kr, kr, kr, trivial⟩ (fun _ => rfl) ?_
    rintro m ⟨y1, y2⟩ N h hN
    unfold laws_szAtomS_B1 at h
    dsimp only at h
    refine ls_seq_k fun K5 hK5 => ?_
    refine ls_rs tbOk ?_
    refine evs (ev_mv (c := nI y2) rfl rfl rfl (evs (ev_mv (c := dL c231_d a0) rfl rfl rfl (evs (ev_len (c1 := dL c231_d a0) rfl rfl rfl (evs (ev_bin (c1 := nI y2) (c2 := nI (List.length a0 : Int)) rfl rfl rfl (evn ?_))))))))
    refine ls_keep [(0, dL c231_d a0), (1, nI y1), (5, nI y2), (15, .bool (decide (y2 < (List.length a0 : Int))))] ⟨kr, kr, kr, kr, trivial⟩ rfl ?_
    rcases cond_some h with ⟨g6, h⟩ | ⟨g6, h⟩
    · refine ls_cT rfl g6 ?_
      refine ls_skip ?_
      refine hK5 _ (ls_keep [(0, dL c231_d a0), (1, nI y1), (5, nI y2)] ⟨kr, kr, kr, trivial⟩ rfl ?_)
      refine ls_seq_k fun K7 hK7 => ?_
      refine ls_blk ?_
      refine ls_rs tbOk ?_
      refine evs (ev_mv (c := dL c231_d a0) rfl rfl rfl (evs (ev_mv (c := nI y2) rfl rfl rfl (?_))))
      obtain ⟨e8, g9, h⟩ := ob_some h
      refine evs (ev_ia rfl rfl rfl ⟨(geti_some g9).1, (geti_some g9).2.1⟩ (evs (ev_ldE (i := y2) (n := 2) (off := 0) (v := .agg (c231_d e8)) rfl rfl zc231_d g9 rfl (nb rfl) rfl (evs (ev_mv (c := nI y1) rfl rfl rfl (?_))))))
      obtain ⟨v10, g11, h⟩ := ob_some h
      refine evs (ev_call (era rfl (erg (erc rfl (erc (erD eci64 _) rfl))) (era rfl rfl eran)) (laws_szAtom_s g11) (evs (ev_as (c := nI v10) rfl rfl rfl (evn ?_))))
      refine ls_keep [(0, dL c231_d a0), (1, nI v10), (5, nI y2)] ⟨kr, kr, kr, trivial⟩ rfl ?_
      refine ls_rs tbOk ?_
      refine evs (ev_mv (c := nI v10) rfl rfl rfl (evs (ev_bin (c1 := nI v10) (c2 := nI 0) rfl rfl rfl (evn ?_))))
      refine ls_keep [(0, dL c231_d a0), (1, nI v10), (5, nI y2), (25, .bool (decide (v10 < 0)))] ⟨kr, kr, kr, kr, trivial⟩ rfl ?_
      rcases cond_some h with ⟨g12, h⟩ | ⟨g12, h⟩
      · refine ls_cT rfl g12 ?_
        refine ls_rs tbOk ?_
        refine evs (ev_ac rfl nofun rfl (evn ?_))
        refine ls_keep [(4, nI (-1))] ⟨kr, trivial⟩ rfl ?_
        refine ls_ret ?_
        have q0 := (Option.some.inj h).symm
        have r0 := hr1
        rw [q0] at r0
        have hr := Option.some.inj r0
        rw [← hr]
        exact ⟨.inl rfl, rfl⟩
      · refine ls_cF rfl g12 ?_
        refine ls_skip ?_
        refine hK7 _ (ls_keep [(0, dL c231_d a0), (1, nI v10), (5, nI y2)] ⟨kr, kr, kr, trivial⟩ rfl ?_)
        refine ls_rgn tbOk ?_
        refine evs (ev_mv (c := nI y2) rfl rfl rfl (evs (ev_bin (c1 := nI y2) (c2 := nI 1) rfl rfl rfl (evs (ev_as (c := nI (IntKind.i64.wrap (y2 + 1))) rfl rfl rfl (evn ?_))))))
        exact hN _ (v10, (IntKind.i64.wrap (y2 + 1))) h ⟨kr, kr, kr, trivial⟩
    · refine ls_cF rfl g6 ?_
      refine ls_exit ?_
      have q0 := (Option.some.inj h).symm
      have r0 := hr1
      rw [q0] at r0
      exact kXlaws_szAtomS_B1 y1 r0 _ ⟨kr, trivial⟩
def laws_szQuery (a0 : Y78) (a1 : Int) : Option (Int) := obind (laws_szAtomS a0.2.1 a1) fun v1 => cond (decide (v1 < 0)) (some (-1)) (obind (laws_szIntS a0.2.2 v1) fun v5 => cond (decide (v5 < 0)) (some (-1)) (some v5))
theorem laws_szQuery_s {a0 : Y78} {a1 : Int} {r : Int} (h : laws_szQuery a0 a1 = some r) : SoundAt Try.prog 43 [.agg (c79_ddd a0), nI a1] (nI r) := by
  unfold laws_szQuery at h
  refine sound_lit tbOk lit43 (nb rfl) rfl ?_
  unfold c43
  refine ls_keep [(0, .agg (c79_ddd a0)), (1, nI a1)] ⟨kr, kr, trivial⟩ rfl ?_
  refine ls_rs tbOk ?_
  refine evs (ev_bx (c1 := .agg (c79_ddd a0)) rfl rfl rfl (evs (ev_ac rfl nofun rfl (evn ?_))))
  refine ls_keep [(1, nI a1), (2, .box [nI a0.1, dL c231_d a0.2.1, dL ci64 a0.2.2])] ⟨kr, kr, trivial⟩ rfl ?_
  refine ls_rs tbOk ?_
  refine evs (ev_fa (c1 := .cref 2 0) (v := .cref 2 1) rfl rfl rfl ⟨_, rfl⟩ rfl (evs (ev_ldB (off := 1) (v := dL c231_d a0.2.1) rfl rfl rfl rfl (nb rfl) rfl (evs (ev_mv (c := nI a1) rfl rfl rfl (?_))))))
  obtain ⟨v1, g2, h⟩ := ob_some h
  refine evs (ev_call (era rfl (erD ec231_d _) (era rfl rfl eran)) (laws_szAtomS_s g2) (evs (ev_as (c := nI v1) rfl rfl rfl (evn ?_))))
  refine ls_keep [(1, nI v1), (2, .box [nI a0.1, dL c231_d a0.2.1, dL ci64 a0.2.2])] ⟨kr, kr, trivial⟩ rfl ?_
  refine ls_seq_k fun K3 hK3 => ?_
  refine ls_rs tbOk ?_
  refine evs (ev_mv (c := nI v1) rfl rfl rfl (evs (ev_bin (c1 := nI v1) (c2 := nI 0) rfl rfl rfl (evn ?_))))
  refine ls_keep [(1, nI v1), (2, .box [nI a0.1, dL c231_d a0.2.1, dL ci64 a0.2.2]), (10, .bool (decide (v1 < 0)))] ⟨kr, kr, kr, trivial⟩ rfl ?_
  rcases cond_some h with ⟨g4, h⟩ | ⟨g4, h⟩
  · refine ls_cT rfl g4 ?_
    refine ls_rs tbOk ?_
    refine evs (ev_ac rfl nofun rfl (evn ?_))
    refine ls_keep [(4, nI (-1))] ⟨kr, trivial⟩ rfl ?_
    refine ls_ret ?_
    have hr := Option.some.inj h
    rw [← hr]
    exact ⟨.inl rfl, rfl⟩
  · refine ls_cF rfl g4 ?_
    refine ls_skip ?_
    refine hK3 _ (ls_keep [(1, nI v1), (2, .box [nI a0.1, dL c231_d a0.2.1, dL ci64 a0.2.2])] ⟨kr, kr, trivial⟩ rfl ?_)
    refine ls_rs tbOk ?_
    refine evs (ev_fa (c1 := .cref 2 0) (v := .cref 2 2) rfl rfl rfl ⟨_, rfl⟩ rfl (evs (ev_ldB (off := 2) (v := dL ci64 a0.2.2) rfl rfl rfl rfl (nb rfl) rfl (evs (ev_mv (c := nI v1) rfl rfl rfl (?_))))))
    obtain ⟨v5, g6, h⟩ := ob_some h
    refine evs (ev_call (era rfl (erD eci64 _) (era rfl rfl eran)) (laws_szIntS_s g6) (evs (ev_as (c := nI v5) rfl rfl rfl (evn ?_))))
    refine ls_keep [(1, nI v5)] ⟨kr, trivial⟩ rfl ?_
    refine ls_seq_k fun K7 hK7 => ?_
    refine ls_rs tbOk ?_
    refine evs (ev_mv (c := nI v5) rfl rfl rfl (evs (ev_bin (c1 := nI v5) (c2 := nI 0) rfl rfl rfl (evn ?_))))
    refine ls_keep [(1, nI v5), (16, .bool (decide (v5 < 0)))] ⟨kr, kr, trivial⟩ rfl ?_
    rcases cond_some h with ⟨g8, h⟩ | ⟨g8, h⟩
    · refine ls_cT rfl g8 ?_
      refine ls_rs tbOk ?_
      refine evs (ev_ac rfl nofun rfl (evn ?_))
      refine ls_keep [(4, nI (-1))] ⟨kr, trivial⟩ rfl ?_
      refine ls_ret ?_
      have hr := Option.some.inj h
      rw [← hr]
      exact ⟨.inl rfl, rfl⟩
    · refine ls_cF rfl g8 ?_
      refine ls_skip ?_
      refine hK7 _ (ls_keep [(1, nI v5)] ⟨kr, trivial⟩ rfl ?_)
      refine ls_rs tbOk ?_
      refine evs (ev_mv (c := nI v5) rfl rfl rfl (evs (ev_as (c := nI v5) rfl rfl rfl (evn ?_))))
      refine ls_keep [(4, nI v5)] ⟨kr, trivial⟩ rfl ?_
      refine ls_ret ?_
      have hr := Option.some.inj h
      rw [← hr]
      exact ⟨.inl rfl, rfl⟩
def laws_toAtom (a0 : Y194) : Option (Y194) := obind (laws_toIntS a0.2) fun v1 => some (a0.1, v1)
theorem laws_toAtom_s {a0 : Y194} {r : Y194} (h : laws_toAtom a0 = some r) : SoundAt Try.prog 207 [.agg (c231_d a0)] (.agg (c195_o r)) := by
  unfold laws_toAtom at h
  refine sound_lit tbOk lit207 (nb rfl) rfl ?_
  unfold c207
  refine ls_keep [(0, .agg (c231_d a0))] ⟨kr, trivial⟩ rfl ?_
  refine ls_rs tbOk ?_
  refine evs (ev_bx (c1 := .agg (c231_d a0)) rfl rfl rfl (evs (ev_al rfl rfl (evn ?_))))
  refine ls_keep [(1, .box [.str a0.1, dL ci64 a0.2]), (2, .box [.str [], oL 3 ci64 []])] ⟨kr, kr, trivial⟩ rfl ?_
  refine ls_rs tbOk ?_
  refine evs (ev_al rfl rfl (evn ?_))
  refine ls_keep [(1, .box [.str a0.1, dL ci64 a0.2]), (2, .box [.str [], oL 3 ci64 []]), (3, .box [.str [], oL 3 ci64 []])] ⟨kr, kr, kr, trivial⟩ rfl ?_
  refine ls_rs tbOk ?_
  refine evs (ev_fa (c1 := .cref 1 0) (v := .cref 1 0) rfl rfl rfl ⟨_, rfl⟩ rfl (evs (ev_ldB (off := 0) (v := .str a0.1) rfl rfl rfl rfl (nb rfl) rfl (evs (ev_fa (c1 := .cref 3 0) (v := .cref 3 0) rfl rfl rfl ⟨_, rfl⟩ rfl (evs (ev_st (off := 0) (c1 := .str a0.1) (cs' := [.str a0.1, oL 3 ci64 []]) rfl rfl rfl rfl rfl rfl (nb rfl) rfl (evn ?_))))))))
  refine ls_keep [(1, .box [.str a0.1, dL ci64 a0.2]), (2, .box [.str [], oL 3 ci64 []]), (3, .box [.str a0.1, oL 3 ci64 []])] ⟨kr, kr, kr, trivial⟩ rfl ?_
  refine ls_rs tbOk ?_
  refine evs (ev_fa (c1 := .cref 1 0) (v := .cref 1 1) rfl rfl rfl ⟨_, rfl⟩ rfl (evs (ev_ldB (off := 1) (v := dL ci64 a0.2) rfl rfl rfl rfl (nb rfl) rfl (?_))))
  obtain ⟨v1, g2, h⟩ := ob_some h
  refine evs (ev_call (era rfl (erD eci64 _) eran) (laws_toIntS_s g2) (evs (ev_fa (c1 := .cref 3 0) (v := .cref 3 1) rfl rfl rfl ⟨_, rfl⟩ rfl (evs (ev_st (off := 1) (c1 := oL 3 ci64 v1) (cs' := [.str a0.1, oL 3 ci64 v1]) rfl rfl rfl rfl rfl rfl (nb rfl) rfl (evn ?_))))))
  refine ls_keep [(2, .box [.str [], oL 3 ci64 []]), (3, .box [.str a0.1, oL 3 ci64 v1])] ⟨kr, kr, trivial⟩ rfl ?_
  refine ls_rs tbOk ?_
  refine evs (ev_ldBt (off := 0) (v := .agg [.str a0.1, oL 3 ci64 v1]) (c' := .box [.str a0.1, dL ci64 v1]) rfl rfl rfl rfl (nb rfl) rfl rfl (evs (ev_st (off := 0) (c1 := .agg [.str a0.1, oL 3 ci64 v1]) (cs' := [.str a0.1, oL 3 ci64 v1]) rfl rfl rfl rfl rfl rfl (nb rfl) rfl (evn ?_))))
  refine ls_keep [(2, .box [.str a0.1, oL 3 ci64 v1])] ⟨kr, trivial⟩ rfl ?_
  refine ls_ret ?_
  have hr := Option.some.inj h
  rw [← hr]
  exact ⟨.inl rfl, rfl⟩
def laws_toAtomS_B1 (a0 : List Y194) (rec : ((List Y194) × Int) → Option ((List Y194))) (s : (List Y194) × Int) : Option ((List Y194)) := match s with
  | (y1, y2) => cond (decide (y2 < (List.length a0 : Int))) (obind (geti a0 y2) fun e7 => obind (laws_toAtom e7) fun v9 => obind (geti y1 y2) fun e11 => rec ((seti y1 y2 v9), (IntKind.i64.wrap (y2 + 1)))) (some y1)
def laws_toAtomS (a0 : List Y194) : Option ((List Y194)) := chk ((0 : Int) ≤ (List.length a0 : Int) ∧ Int.toNat (List.length a0 : Int) ≤ lim) (obind (loopF (laws_toAtomS_B1 a0) fz ((List.replicate (Int.toNat (List.length a0 : Int)) (([], []) : Y194)), 0)) fun z3 => some z3)
theorem laws_toAtomS_s {a0 : List Y194} {r : (List Y194)} (h : laws_toAtomS a0 = some r) : SoundAt Try.prog 126 [dL c231_d a0] (oL 195 c195_o r) := by
  unfold laws_toAtomS at h
  refine sound_lit tbOk lit126 (nb rfl) rfl ?_
  unfold c126
  refine ls_keep [(0, dL c231_d a0)] ⟨kr, trivial⟩ rfl ?_
  refine ls_rs tbOk ?_
  refine evs (ev_an rfl rfl (evn ?_))
  refine ls_keep [(0, dL c231_d a0)] ⟨kr, trivial⟩ rfl ?_
  refine ls_rs tbOk ?_
  refine evs (ev_mv (c := dL c231_d a0) rfl rfl rfl (evs (ev_len (c1 := dL c231_d a0) rfl rfl rfl (?_))))
  obtain ⟨g1, h⟩ := chk_some h
  refine evs (ev_mku (f := c195_o) (z := (([], []) : Y194)) rfl rfl rfl rfl rfl rfl g1 rfl (evs (ev_asu rfl rfl rfl (evn ?_))))
  refine ls_keep [(0, dL c231_d a0), (3, wL 195 c195_o (List.replicate (Int.toNat (List.length a0 : Int)) (([], []) : Y194)))] ⟨kr, kr, trivial⟩ rfl ?_
  refine ls_seq_k fun K2 hK2 => ?_
  refine ls_rs tbOk ?_
  refine evs (ev_ac rfl nofun rfl (evn ?_))
  refine ls_keep [(0, dL c231_d a0), (3, wL 195 c195_o (List.replicate (Int.toNat (List.length a0 : Int)) (([], []) : Y194))), (4, nI 0)] ⟨kr, kr, kr, trivial⟩ rfl ?_
  obtain ⟨o1, hl, hr1⟩ := ob_some h
  clear h
  have kXlaws_toAtomS_B1 : ∀ (z3 : List Y194), (some z3) = some r → ∀ σ' : PS, okK σ' [(3, wL 195 c195_o z3)] → K2 σ' := by
    intro z3 h σ' hk
    refine hK2 _ (ls_keep [(3, wL 195 c195_o z3)] hk rfl ?_)
    refine ls_rs tbOk ?_
    refine evs (ev_mvtu rfl rfl (evs (ev_as (c := oL 195 c195_o z3) rfl rfl rfl (evn ?_))))
    refine ls_keep [(2, oL 195 c195_o z3)] ⟨kr, trivial⟩ rfl ?_
    refine ls_ret ?_
    have hr := Option.some.inj h
    rw [← hr]
    exact ⟨.inl rfl, rfl⟩
  refine ls_rec (fun (s : (List Y194) × Int) => match s with | (y1, y2) => [(0, dL c231_d a0), (3, wL 195 c195_o y1), (4, nI y2)]) (laws_toAtomS_B1 a0) fz ((List.replicate (Int.toNat (List.length a0 : Int)) (([], []) : Y194)), 0) o1 hl ⟨kr, kr, kr, trivial⟩ (fun _ => rfl) ?_
  rintro m ⟨y1, y2⟩ N h hN
  unfold laws_toAtomS_B1 at h
  dsimp only at h
  refine ls_seq_k fun K4 hK4 => ?_
  refine ls_rs tbOk ?_
  refine evs (ev_mv (c := nI y2) rfl rfl rfl (evs (ev_mv (c := dL c231_d a0) rfl rfl rfl (evs (ev_len (c1 := dL c231_d a0) rfl rfl rfl (evs (ev_bin (c1 := nI y2) (c2 := nI (List.length a0 : Int)) rfl rfl rfl (evn ?_))))))))
  refine ls_keep [(0, dL c231_d a0), (3, wL 195 c195_o y1), (4, nI y2), (11, .bool (decide (y2 < (List.length a0 : Int))))] ⟨kr, kr, kr, kr, trivial⟩ rfl ?_
  rcases cond_some h with ⟨g5, h⟩ | ⟨g5, h⟩
  · refine ls_cT rfl g5 ?_
    refine ls_skip ?_
    refine hK4 _ (ls_keep [(0, dL c231_d a0), (3, wL 195 c195_o y1), (4, nI y2)] ⟨kr, kr, kr, trivial⟩ rfl ?_)
    refine ls_seq_k fun K6 hK6 => ?_
    refine ls_blk ?_
    refine ls_rgn tbOk ?_
    refine evs (ev_mvu rfl rfl (evs (ev_mv (c := nI y2) rfl rfl rfl (evs (ev_mv (c := dL c231_d a0) rfl rfl rfl (evs (ev_mv (c := nI y2) rfl rfl rfl (?_))))))))
    obtain ⟨e7, g8, h⟩ := ob_some h
    refine evs (ev_ia rfl rfl rfl ⟨(geti_some g8).1, (geti_some g8).2.1⟩ (evs (ev_ldE (i := y2) (n := 2) (off := 0) (v := .agg (c231_d e7)) rfl rfl zc231_d g8 rfl (nb rfl) rfl (?_))))
    obtain ⟨v9, g10, h⟩ := ob_some h
    refine evs (ev_call (era rfl (erg (erc rfl (erc (erD eci64 _) rfl))) eran) (laws_toAtom_s g10) (?_))
    obtain ⟨e11, g12, h⟩ := ob_some h
    refine evs (ev_iau rfl rfl rfl rfl ⟨(geti_some g12).1, (geti_some g12).2.1⟩ (evs (ev_stu (e := v9) (c1 := .agg (c195_o v9)) rfl rfl zc195_o ⟨(geti_some g12).1, (geti_some g12).2.1⟩ rfl rfl rfl rfl rfl (evn ?_))))
    refine hK6 _ (ls_keep [(0, dL c231_d a0), (3, wL 195 c195_o (seti y1 y2 v9)), (4, nI y2)] ⟨kr, kr, kr, trivial⟩ rfl ?_)
    refine ls_rgn tbOk ?_
    refine evs (ev_mv (c := nI y2) rfl rfl rfl (evs (ev_bin (c1 := nI y2) (c2 := nI 1) rfl rfl rfl (evs (ev_as (c := nI (IntKind.i64.wrap (y2 + 1))) rfl rfl rfl (evn ?_))))))
    exact hN _ ((seti y1 y2 v9), (IntKind.i64.wrap (y2 + 1))) h ⟨kr, kr, kr, trivial⟩
  · refine ls_cF rfl g5 ?_
    refine ls_exit ?_
    have q0 := (Option.some.inj h).symm
    have r0 := hr1
    rw [q0] at r0
    exact kXlaws_toAtomS_B1 y1 r0 _ ⟨kr, trivial⟩
def laws_toQuery (a0 : Y78) : Option (Y91) := obind (laws_toAtomS a0.2.1) fun v1 => obind (laws_toIntS a0.2.2) fun v3 => some (a0.1, v1, v3)
theorem laws_toQuery_s {a0 : Y78} {r : Y91} (h : laws_toQuery a0 = some r) : SoundAt Try.prog 46 [.agg (c79_ddd a0)] (.agg (c92_ooo r)) := by
  unfold laws_toQuery at h
  refine sound_lit tbOk lit46 (nb rfl) rfl ?_
  unfold c46
  refine ls_keep [(0, .agg (c79_ddd a0))] ⟨kr, trivial⟩ rfl ?_
  refine ls_rs tbOk ?_
  refine evs (ev_bx (c1 := .agg (c79_ddd a0)) rfl rfl rfl (evs (ev_al rfl rfl (evn ?_))))
  refine ls_keep [(1, .box [nI a0.1, dL c231_d a0.2.1, dL ci64 a0.2.2]), (2, .box [nI 0, oL 195 c195_o [], oL 3 ci64 []])] ⟨kr, kr, trivial⟩ rfl ?_
  refine ls_rs tbOk ?_
  refine evs (ev_al rfl rfl (evn ?_))
  refine ls_keep [(1, .box [nI a0.1, dL c231_d a0.2.1, dL ci64 a0.2.2]), (2, .box [nI 0, oL 195 c195_o [], oL 3 ci64 []]), (3, .box [nI 0, oL 195 c195_o [], oL 3 ci64 []])] ⟨kr, kr, kr, trivial⟩ rfl ?_
  refine ls_rs tbOk ?_
  refine evs (ev_fa (c1 := .cref 1 0) (v := .cref 1 0) rfl rfl rfl ⟨_, rfl⟩ rfl (evs (ev_ldB (off := 0) (v := nI a0.1) rfl rfl rfl rfl (nb rfl) rfl (evs (ev_fa (c1 := .cref 3 0) (v := .cref 3 0) rfl rfl rfl ⟨_, rfl⟩ rfl (evs (ev_st (off := 0) (c1 := nI a0.1) (cs' := [nI a0.1, oL 195 c195_o [], oL 3 ci64 []]) rfl rfl rfl rfl rfl rfl (nb rfl) rfl (evn ?_))))))))
  refine ls_keep [(1, .box [nI a0.1, dL c231_d a0.2.1, dL ci64 a0.2.2]), (2, .box [nI 0, oL 195 c195_o [], oL 3 ci64 []]), (3, .box [nI a0.1, oL 195 c195_o [], oL 3 ci64 []])] ⟨kr, kr, kr, trivial⟩ rfl ?_
  refine ls_rs tbOk ?_
  refine evs (ev_fa (c1 := .cref 1 0) (v := .cref 1 1) rfl rfl rfl ⟨_, rfl⟩ rfl (evs (ev_ldB (off := 1) (v := dL c231_d a0.2.1) rfl rfl rfl rfl (nb rfl) rfl (?_))))
  obtain ⟨v1, g2, h⟩ := ob_some h
  refine evs (ev_call (era rfl (erD ec231_d _) eran) (laws_toAtomS_s g2) (evs (ev_fa (c1 := .cref 3 0) (v := .cref 3 1) rfl rfl rfl ⟨_, rfl⟩ rfl (evs (ev_st (off := 1) (c1 := oL 195 c195_o v1) (cs' := [nI a0.1, oL 195 c195_o v1, oL 3 ci64 []]) rfl rfl rfl rfl rfl rfl (nb rfl) rfl (evn ?_))))))
  refine ls_keep [(1, .box [nI a0.1, dL c231_d a0.2.1, dL ci64 a0.2.2]), (2, .box [nI 0, oL 195 c195_o [], oL 3 ci64 []]), (3, .box [nI a0.1, oL 195 c195_o v1, oL 3 ci64 []])] ⟨kr, kr, kr, trivial⟩ rfl ?_
  refine ls_rs tbOk ?_
  refine evs (ev_fa (c1 := .cref 1 0) (v := .cref 1 2) rfl rfl rfl ⟨_, rfl⟩ rfl (evs (ev_ldB (off := 2) (v := dL ci64 a0.2.2) rfl rfl rfl rfl (nb rfl) rfl (?_))))
  obtain ⟨v3, g4, h⟩ := ob_some h
  refine evs (ev_call (era rfl (erD eci64 _) eran) (laws_toIntS_s g4) (evs (ev_fa (c1 := .cref 3 0) (v := .cref 3 2) rfl rfl rfl ⟨_, rfl⟩ rfl (evs (ev_st (off := 2) (c1 := oL 3 ci64 v3) (cs' := [nI a0.1, oL 195 c195_o v1, oL 3 ci64 v3]) rfl rfl rfl rfl rfl rfl (nb rfl) rfl (evn ?_))))))
  refine ls_keep [(2, .box [nI 0, oL 195 c195_o [], oL 3 ci64 []]), (3, .box [nI a0.1, oL 195 c195_o v1, oL 3 ci64 v3])] ⟨kr, kr, trivial⟩ rfl ?_
  refine ls_rs tbOk ?_
  refine evs (ev_ldBt (off := 0) (v := .agg [nI a0.1, oL 195 c195_o v1, oL 3 ci64 v3]) (c' := .box [nI a0.1, dL c195_o v1, dL ci64 v3]) rfl rfl rfl rfl (nb rfl) rfl rfl (evs (ev_st (off := 0) (c1 := .agg [nI a0.1, oL 195 c195_o v1, oL 3 ci64 v3]) (cs' := [nI a0.1, oL 195 c195_o v1, oL 3 ci64 v3]) rfl rfl rfl rfl rfl rfl (nb rfl) rfl (evn ?_))))
  refine ls_keep [(2, .box [nI a0.1, oL 195 c195_o v1, oL 3 ci64 v3])] ⟨kr, trivial⟩ rfl ?_
  refine ls_ret ?_
  have hr := Option.some.inj h
  rw [← hr]
  exact ⟨.inl rfl, rfl⟩
def laws_eqAtom (a0 : Y194) (a1 : Y194) : Option (Bool) := cond (!(a0.1 == a1.1)) (some false) (obind (laws_eqIntS a0.2 a1.2) fun v4 => cond (!v4) (some false) (some true))
theorem laws_eqAtom_s {a0 : Y194} {a1 : Y194} {r : Bool} (h : laws_eqAtom a0 a1 = some r) : SoundAt Try.prog 214 [.agg (c195_d a0), .agg (c195_d a1)] (.bool r) := by
  unfold laws_eqAtom at h
  refine sound_lit tbOk lit214 (nb rfl) rfl ?_
  unfold c214
  refine ls_keep [(0, .agg (c195_d a0)), (1, .agg (c195_d a1))] ⟨kr, kr, trivial⟩ rfl ?_
  refine ls_rs tbOk ?_
  refine evs (ev_bx (c1 := .agg (c195_d a0)) rfl rfl rfl (evs (ev_bx (c1 := .agg (c195_d a1)) rfl rfl rfl (evs (ev_ac rfl nofun rfl (evn ?_))))))
  refine ls_keep [(2, .box [.str a0.1, dL ci64 a0.2]), (3, .box [.str a1.1, dL ci64 a1.2])] ⟨kr, kr, trivial⟩ rfl ?_
  refine ls_seq_k fun K1 hK1 => ?_
  refine ls_rs tbOk ?_
  refine evs (ev_fa (c1 := .cref 2 0) (v := .cref 2 0) rfl rfl rfl ⟨_, rfl⟩ rfl (evs (ev_ldB (off := 0) (v := .str a0.1) rfl rfl rfl rfl (nb rfl) rfl (evs (ev_fa (c1 := .cref 3 0) (v := .cref 3 0) rfl rfl rfl ⟨_, rfl⟩ rfl (evs (ev_ldB (off := 0) (v := .str a1.1) rfl rfl rfl rfl (nb rfl) rfl (evs (ev_bin (c1 := .str a0.1) (c2 := .str a1.1) rfl rfl trivial (evn ?_))))))))))
  refine ls_keep [(2, .box [.str a0.1, dL ci64 a0.2]), (3, .box [.str a1.1, dL ci64 a1.2]), (9, .bool (!(a0.1 == a1.1)))] ⟨kr, kr, kr, trivial⟩ rfl ?_
  rcases cond_some h with ⟨g2, h⟩ | ⟨g2, h⟩
  · refine ls_cT rfl g2 ?_
    refine ls_rs tbOk ?_
    refine evs (ev_ac rfl nofun rfl (evn ?_))
    refine ls_keep [(4, .bool false)] ⟨kr, trivial⟩ rfl ?_
    refine ls_ret ?_
    have hr := Option.some.inj h
    rw [← hr]
    exact ⟨.inl rfl, rfl⟩
  · refine ls_cF rfl g2 ?_
    refine ls_skip ?_
    refine hK1 _ (ls_keep [(2, .box [.str a0.1, dL ci64 a0.2]), (3, .box [.str a1.1, dL ci64 a1.2])] ⟨kr, kr, trivial⟩ rfl ?_)
    refine ls_seq_k fun K3 hK3 => ?_
    refine ls_rs tbOk ?_
    refine evs (ev_fa (c1 := .cref 2 0) (v := .cref 2 1) rfl rfl rfl ⟨_, rfl⟩ rfl (evs (ev_ldB (off := 1) (v := dL ci64 a0.2) rfl rfl rfl rfl (nb rfl) rfl (evs (ev_fa (c1 := .cref 3 0) (v := .cref 3 1) rfl rfl rfl ⟨_, rfl⟩ rfl (evs (ev_ldB (off := 1) (v := dL ci64 a1.2) rfl rfl rfl rfl (nb rfl) rfl (?_))))))))
    obtain ⟨v4, g5, h⟩ := ob_some h
    refine evs (ev_call (era rfl (erD eci64 _) (era rfl (erD eci64 _) eran)) (laws_eqIntS_s g5) (evs (ev_un (c1 := .bool v4) rfl trivial (evn ?_))))
    refine ls_keep [(15, .bool (!v4))] ⟨kr, trivial⟩ rfl ?_
    rcases cond_some h with ⟨g6, h⟩ | ⟨g6, h⟩
    · refine ls_cT rfl g6 ?_
      refine ls_rs tbOk ?_
      refine evs (ev_ac rfl nofun rfl (evn ?_))
      refine ls_keep [(4, .bool false)] ⟨kr, trivial⟩ rfl ?_
      refine ls_ret ?_
      have hr := Option.some.inj h
      rw [← hr]
      exact ⟨.inl rfl, rfl⟩
    · refine ls_cF rfl g6 ?_
      refine ls_skip ?_
      refine hK3 _ (ls_keep [] trivial rfl ?_)
      refine ls_rs tbOk ?_
      refine evs (ev_ac rfl nofun rfl (evn ?_))
      refine ls_keep [(4, .bool true)] ⟨kr, trivial⟩ rfl ?_
      refine ls_ret ?_
      have hr := Option.some.inj h
      rw [← hr]
      exact ⟨.inl rfl, rfl⟩
def laws_eqAtomS_B1 (a0 : List Y194) (a1 : List Y194) (rec : Int → Option (Sum (Unit) (Bool))) (y1 : Int) : Option (Sum (Unit) (Bool)) := cond (decide (y1 < (List.length a0 : Int))) (obind (geti a0 y1) fun e7 => obind (geti a1 y1) fun e9 => obind (laws_eqAtom e7 e9) fun v11 => cond (!v11) (some (.inr false)) (rec (IntKind.i64.wrap (y1 + 1)))) (some (.inl ()))
def laws_eqAtomS (a0 : List Y194) (a1 : List Y194) : Option (Bool) := cond ((List.length a0 : Int) != (List.length a1 : Int)) (some false) (obind (loopF (laws_eqAtomS_B1 a0 a1) fz 0) fun o1 => (match o1 with
  | .inl _ => (some true)
  | .inr r => some r))
theorem laws_eqAtomS_s {a0 : List Y194} {a1 : List Y194} {r : Bool} (h : laws_eqAtomS a0 a1 = some r) : SoundAt Try.prog 132 [dL c195_d a0, dL c195_d a1] (.bool r) := by
  unfold laws_eqAtomS at h
  refine sound_lit tbOk lit132 (nb rfl) rfl ?_
  unfold c132
  refine ls_keep [(0, dL c195_d a0), (1, dL c195_d a1)] ⟨kr, kr, trivial⟩ rfl ?_
  refine ls_rs tbOk ?_
  refine evs (ev_ac rfl nofun rfl (evn ?_))
  refine ls_keep [(0, dL c195_d a0), (1, dL c195_d a1)] ⟨kr, kr, trivial⟩ rfl ?_
  refine ls_seq_k fun K1 hK1 => ?_
  refine ls_rs tbOk ?_
  refine evs (ev_mv (c := dL c195_d a0) rfl rfl rfl (evs (ev_len (c1 := dL c195_d a0) rfl rfl rfl (evs (ev_mv (c := dL c195_d a1) rfl rfl rfl (evs (ev_len (c1 := dL c195_d a1) rfl rfl rfl (evs (ev_bin (c1 := nI (List.length a0 : Int)) (c2 := nI (List.length a1 : Int)) rfl rfl rfl (evn ?_))))))))))
  refine ls_keep [(0, dL c195_d a0), (1, dL c195_d a1), (10, .bool ((List.length a0 : Int) != (List.length a1 : Int)))] ⟨kr, kr, kr, trivial⟩ rfl ?_
  rcases cond_some h with ⟨g2, h⟩ | ⟨g2, h⟩
  · refine ls_cT rfl g2 ?_
    refine ls_rs tbOk ?_
    refine evs (ev_ac rfl nofun rfl (evn ?_))
    refine ls_keep [(4, .bool false)] ⟨kr, trivial⟩ rfl ?_
    refine ls_ret ?_
    have hr := Option.some.inj h
    rw [← hr]
    exact ⟨.inl rfl, rfl⟩
  · refine ls_cF rfl g2 ?_
    refine ls_skip ?_
    refine hK1 _ (ls_keep [(0, dL c195_d a0), (1, dL c195_d a1)] ⟨kr, kr, trivial⟩ rfl ?_)
    refine ls_seq_k fun K3 hK3 => ?_
    refine ls_rs tbOk ?_
    refine evs (ev_ac rfl nofun rfl (evn ?_))
    refine ls_keep [(0, dL c195_d a0), (1, dL c195_d a1), (5, nI 0)] ⟨kr, kr, kr, trivial⟩ rfl ?_
    obtain ⟨o1, hl, hr1⟩ := ob_some h
    clear h
    have kXlaws_eqAtomS_B1 : ∀ (_ : Unit), (some true) = some r → ∀ σ' : PS, okK σ' [] → K3 σ' := by
      intro _ h σ' hk
      refine hK3 _ (ls_keep [] hk rfl ?_)
      refine ls_rs tbOk ?_
      refine evs (ev_ac rfl nofun rfl (evn ?_))
      refine ls_keep [(4, .bool true)] ⟨kr, trivial⟩ rfl ?_
      refine ls_ret ?_
      have hr := Option.some.inj h
      rw [← hr]
      exact ⟨.inl rfl, rfl⟩
    refine ls_rec (fun (y1 : Int) => [(0, dL c195_d a0), (1, dL c195_d a1), (5, nI y1)]) (laws_eqAtomS_B1 a0 a1) fz 0 o1 hl ⟨kr, kr, kr, trivial⟩ (fun _ => rfl) ?_
    rintro m y1 N h hN
    unfold laws_eqAtomS_B1 at h
    refine ls_seq_k fun K4 hK4 => ?_
    refine ls_rs tbOk ?_
    refine evs (ev_mv (c := nI y1) rfl rfl rfl (evs (ev_mv (c := dL c195_d a0) rfl rfl rfl (evs (ev_len (c1 := dL c195_d a0) rfl rfl rfl (evs (ev_bin (c1 := nI y1) (c2 := nI (List.length a0 : Int)) rfl rfl rfl (evn ?_))))))))
    refine ls_keep [(0, dL c195_d a0), (1, dL c195_d a1), (5, nI y1), (14, .bool (decide (y1 < (List.length a0 : Int))))] ⟨kr, kr, kr, kr, trivial⟩ rfl ?_
    rcases cond_some h with ⟨g5, h⟩ | ⟨g5, h⟩
    · refine ls_cT rfl g5 ?_
      refine ls_skip ?_
      refine hK4 _ (ls_keep [(0, dL c195_d a0), (1, dL c195_d a1), (5, nI y1)] ⟨kr, kr, kr, trivial⟩ rfl ?_)
      refine ls_seq_k fun K6 hK6 => ?_
      refine ls_blk ?_
      refine ls_rd tbOk mixed (by kernel_rfl) ?_
      refine evd rfl rfl (ev_mv (c := dL c195_d a0) rfl rfl rfl (evd rfl rfl (ev_mv (c := nI y1) rfl rfl rfl (?_))))
      obtain ⟨e7, g8, h⟩ := ob_some h
      refine evd rfl rfl (ev_ia rfl rfl rfl ⟨(geti_some g8).1, (geti_some g8).2.1⟩ (evd rfl rfl (ev_ldE (i := y1) (n := 2) (off := 0) (v := .agg (c195_d e7)) rfl rfl zc195_d g8 rfl (nb rfl) rfl (evd rfl rfl (ev_mv (c := dL c195_d a1) rfl rfl rfl (evd rfl rfl (ev_mv (c := nI y1) rfl rfl rfl (?_))))))))
      obtain ⟨e9, g10, h⟩ := ob_some h
      refine evd rfl rfl (ev_ia rfl rfl rfl ⟨(geti_some g10).1, (geti_some g10).2.1⟩ (evd rfl rfl (ev_ldE (i := y1) (n := 2) (off := 0) (v := .agg (c195_d e9)) rfl rfl zc195_d g10 rfl (nb rfl) rfl (?_))))
      obtain ⟨v11, g12, h⟩ := ob_some h
      refine evd rfl rfl (ev_call (era rfl (erg (erc rfl (erc (erD eci64 _) rfl))) (era rfl (erg (erc rfl (erc (erD eci64 _) rfl))) eran)) (laws_eqAtom_s g12) (evd rfl rfl (ev_un (c1 := .bool v11) rfl trivial (evdn ?_))))
      refine ls_keep [(0, dL c195_d a0), (1, dL c195_d a1), (5, nI y1), (26, .bool (!v11))] ⟨kr, kr, kr, kr, trivial⟩ rfl ?_
      rcases cond_some h with ⟨g13, h⟩ | ⟨g13, h⟩
      · refine ls_cT rfl g13 ?_
        refine ls_rs tbOk ?_
        refine evs (ev_ac rfl nofun rfl (evn ?_))
        refine ls_keep [(4, .bool false)] ⟨kr, trivial⟩ rfl ?_
        refine ls_ret ?_
        have q0 := (Option.some.inj h).symm
        have r0 := hr1
        rw [q0] at r0
        have hr := Option.some.inj r0
        rw [← hr]
        exact ⟨.inl rfl, rfl⟩
      · refine ls_cF rfl g13 ?_
        refine ls_skip ?_
        refine hK6 _ (ls_keep [(0, dL c195_d a0), (1, dL c195_d a1), (5, nI y1)] ⟨kr, kr, kr, trivial⟩ rfl ?_)
        refine ls_rgn tbOk ?_
        refine evs (ev_mv (c := nI y1) rfl rfl rfl (evs (ev_bin (c1 := nI y1) (c2 := nI 1) rfl rfl rfl (evs (ev_as (c := nI (IntKind.i64.wrap (y1 + 1))) rfl rfl rfl (evn ?_))))))
        exact hN _ (IntKind.i64.wrap (y1 + 1)) h ⟨kr, kr, kr, trivial⟩
    · refine ls_cF rfl g5 ?_
      refine ls_exit ?_
      have q0 := (Option.some.inj h).symm
      have r0 := hr1
      rw [q0] at r0
      exact kXlaws_eqAtomS_B1 () r0 _ trivial
def laws_eqQuery (a0 : Y91) (a1 : Y91) : Option (Bool) := cond (a0.1 != a1.1) (some false) (obind (laws_eqAtomS a0.2.1 a1.2.1) fun v4 => cond (!v4) (some false) (obind (laws_eqIntS a0.2.2 a1.2.2) fun v8 => cond (!v8) (some false) (some true)))
theorem laws_eqQuery_s {a0 : Y91} {a1 : Y91} {r : Bool} (h : laws_eqQuery a0 a1 = some r) : SoundAt Try.prog 49 [.agg (c92_ddd a0), .agg (c92_ddd a1)] (.bool r) := by
  unfold laws_eqQuery at h
  refine sound_lit tbOk lit49 (nb rfl) rfl ?_
  unfold c49
  refine ls_keep [(0, .agg (c92_ddd a0)), (1, .agg (c92_ddd a1))] ⟨kr, kr, trivial⟩ rfl ?_
  refine ls_rs tbOk ?_
  refine evs (ev_bx (c1 := .agg (c92_ddd a0)) rfl rfl rfl (evs (ev_bx (c1 := .agg (c92_ddd a1)) rfl rfl rfl (evs (ev_ac rfl nofun rfl (evn ?_))))))
  refine ls_keep [(2, .box [nI a0.1, dL c195_d a0.2.1, dL ci64 a0.2.2]), (3, .box [nI a1.1, dL c195_d a1.2.1, dL ci64 a1.2.2])] ⟨kr, kr, trivial⟩ rfl ?_
  refine ls_seq_k fun K1 hK1 => ?_
  refine ls_rs tbOk ?_
  refine evs (ev_fa (c1 := .cref 2 0) (v := .cref 2 0) rfl rfl rfl ⟨_, rfl⟩ rfl (evs (ev_ldB (off := 0) (v := nI a0.1) rfl rfl rfl rfl (nb rfl) rfl (evs (ev_fa (c1 := .cref 3 0) (v := .cref 3 0) rfl rfl rfl ⟨_, rfl⟩ rfl (evs (ev_ldB (off := 0) (v := nI a1.1) rfl rfl rfl rfl (nb rfl) rfl (evs (ev_bin (c1 := nI a0.1) (c2 := nI a1.1) rfl rfl rfl (evn ?_))))))))))
  refine ls_keep [(2, .box [nI a0.1, dL c195_d a0.2.1, dL ci64 a0.2.2]), (3, .box [nI a1.1, dL c195_d a1.2.1, dL ci64 a1.2.2]), (9, .bool (a0.1 != a1.1))] ⟨kr, kr, kr, trivial⟩ rfl ?_
  rcases cond_some h with ⟨g2, h⟩ | ⟨g2, h⟩
  · refine ls_cT rfl g2 ?_
    refine ls_rs tbOk ?_
    refine evs (ev_ac rfl nofun rfl (evn ?_))
    refine ls_keep [(4, .bool false)] ⟨kr, trivial⟩ rfl ?_
    refine ls_ret ?_
    have hr := Option.some.inj h
    rw [← hr]
    exact ⟨.inl rfl, rfl⟩
  · refine ls_cF rfl g2 ?_
    refine ls_skip ?_
    refine hK1 _ (ls_keep [(2, .box [nI a0.1, dL c195_d a0.2.1, dL ci64 a0.2.2]), (3, .box [nI a1.1, dL c195_d a1.2.1, dL ci64 a1.2.2])] ⟨kr, kr, trivial⟩ rfl ?_)
    refine ls_seq_k fun K3 hK3 => ?_
    refine ls_rs tbOk ?_
    refine evs (ev_fa (c1 := .cref 2 0) (v := .cref 2 1) rfl rfl rfl ⟨_, rfl⟩ rfl (evs (ev_ldB (off := 1) (v := dL c195_d a0.2.1) rfl rfl rfl rfl (nb rfl) rfl (evs (ev_fa (c1 := .cref 3 0) (v := .cref 3 1) rfl rfl rfl ⟨_, rfl⟩ rfl (evs (ev_ldB (off := 1) (v := dL c195_d a1.2.1) rfl rfl rfl rfl (nb rfl) rfl (?_))))))))
    obtain ⟨v4, g5, h⟩ := ob_some h
    refine evs (ev_call (era rfl (erD ec195_d _) (era rfl (erD ec195_d _) eran)) (laws_eqAtomS_s g5) (evs (ev_un (c1 := .bool v4) rfl trivial (evn ?_))))
    refine ls_keep [(2, .box [nI a0.1, dL c195_d a0.2.1, dL ci64 a0.2.2]), (3, .box [nI a1.1, dL c195_d a1.2.1, dL ci64 a1.2.2]), (15, .bool (!v4))] ⟨kr, kr, kr, trivial⟩ rfl ?_
    rcases cond_some h with ⟨g6, h⟩ | ⟨g6, h⟩
    · refine ls_cT rfl g6 ?_
      refine ls_rs tbOk ?_
      refine evs (ev_ac rfl nofun rfl (evn ?_))
      refine ls_keep [(4, .bool false)] ⟨kr, trivial⟩ rfl ?_
      refine ls_ret ?_
      have hr := Option.some.inj h
      rw [← hr]
      exact ⟨.inl rfl, rfl⟩
    · refine ls_cF rfl g6 ?_
      refine ls_skip ?_
      refine hK3 _ (ls_keep [(2, .box [nI a0.1, dL c195_d a0.2.1, dL ci64 a0.2.2]), (3, .box [nI a1.1, dL c195_d a1.2.1, dL ci64 a1.2.2])] ⟨kr, kr, trivial⟩ rfl ?_)
      refine ls_seq_k fun K7 hK7 => ?_
      refine ls_rs tbOk ?_
      refine evs (ev_fa (c1 := .cref 2 0) (v := .cref 2 2) rfl rfl rfl ⟨_, rfl⟩ rfl (evs (ev_ldB (off := 2) (v := dL ci64 a0.2.2) rfl rfl rfl rfl (nb rfl) rfl (evs (ev_fa (c1 := .cref 3 0) (v := .cref 3 2) rfl rfl rfl ⟨_, rfl⟩ rfl (evs (ev_ldB (off := 2) (v := dL ci64 a1.2.2) rfl rfl rfl rfl (nb rfl) rfl (?_))))))))
      obtain ⟨v8, g9, h⟩ := ob_some h
      refine evs (ev_call (era rfl (erD eci64 _) (era rfl (erD eci64 _) eran)) (laws_eqIntS_s g9) (evs (ev_un (c1 := .bool v8) rfl trivial (evn ?_))))
      refine ls_keep [(21, .bool (!v8))] ⟨kr, trivial⟩ rfl ?_
      rcases cond_some h with ⟨g10, h⟩ | ⟨g10, h⟩
      · refine ls_cT rfl g10 ?_
        refine ls_rs tbOk ?_
        refine evs (ev_ac rfl nofun rfl (evn ?_))
        refine ls_keep [(4, .bool false)] ⟨kr, trivial⟩ rfl ?_
        refine ls_ret ?_
        have hr := Option.some.inj h
        rw [← hr]
        exact ⟨.inl rfl, rfl⟩
      · refine ls_cF rfl g10 ?_
        refine ls_skip ?_
        refine hK7 _ (ls_keep [] trivial rfl ?_)
        refine ls_rs tbOk ?_
        refine evs (ev_ac rfl nofun rfl (evn ?_))
        refine ls_keep [(4, .bool true)] ⟨kr, trivial⟩ rfl ?_
        refine ls_ret ?_
        have hr := Option.some.inj h
        rw [← hr]
        exact ⟨.inl rfl, rfl⟩
def spec_l1In_J1 (x2 : Bool) : Option (Bool) := some x2
def spec_l1In (a0 : Int) (a1 : Int) (a2 : Int) : Option (Bool) := cond (decide (a1 ≤ a0)) (spec_l1In_J1 (decide (a0 ≤ a2))) (spec_l1In_J1 false)
theorem spec_l1In_s {a0 : Int} {a1 : Int} {a2 : Int} {r : Bool} (h : spec_l1In a0 a1 a2 = some r) : SoundAt Try.prog 86 [nI a0, nI a1, nI a2] (.bool r) := by
  unfold spec_l1In at h
  refine sound_lit tbOk lit86 (nb rfl) rfl ?_
  unfold c86
  refine ls_keep [(0, nI a0), (1, nI a1), (2, nI a2)] ⟨kr, kr, kr, trivial⟩ rfl ?_
  refine ls_rs tbOk ?_
  refine evs (ev_ac rfl nofun rfl (evn ?_))
  refine ls_keep [(0, nI a0), (1, nI a1), (2, nI a2)] ⟨kr, kr, kr, trivial⟩ rfl ?_
  refine ls_rs_k tbOk fun K1 hK1 => ?_
  have kspec_l1In_J1 : ∀ (x2 : Bool), spec_l1In_J1 x2 = some r → ∀ σ' : PS, okK σ' [(6, .bool x2)] → K1 σ' := by
    intro x2 h σ' hk
    unfold spec_l1In_J1 at h
    refine hK1 _ (ls_keep [(6, .bool x2)] hk rfl ?_)
    refine ls_ret ?_
    have hr := Option.some.inj h
    rw [← hr]
    exact ⟨.inl rfl, rfl⟩
  refine evs (ev_mv (c := nI a0) rfl rfl rfl (evs (ev_mv (c := nI a1) rfl rfl rfl (evs (ev_bin (c1 := nI a0) (c2 := nI a1) rfl rfl rfl (evs (ev_mv (c := .bool (decide (a1 ≤ a0))) rfl rfl rfl (?_))))))))
  rcases cond_some h with ⟨g3, h⟩ | ⟨g3, h⟩
  · refine evs (ev_gr rfl (congrArg V.bool g3) (ev_mv (c := nI a0) rfl rfl rfl (evs (ev_gr rfl (congrArg V.bool g3) (ev_mv (c := nI a2) rfl rfl rfl (evs (ev_gr rfl (congrArg V.bool g3) (ev_bin (c1 := nI a0) (c2 := nI a2) rfl rfl rfl (evs (ev_pkT (c1 := .bool (decide (a0 ≤ a2))) rfl g3 rfl rfl (evs (ev_as (c := .bool (decide (a0 ≤ a2))) rfl rfl rfl (evn ?_)))))))))))))
    exact kspec_l1In_J1 (decide (a0 ≤ a2)) h _ ⟨kr, trivial⟩
  · refine evs (ev_gs rfl rfl (isb_F g3) (evs (ev_gs rfl rfl (isb_F g3) (evs (ev_gs rfl rfl (isb_F g3) (evs (ev_pkF (c1 := .bool false) rfl g3 rfl rfl (evs (ev_as (c := .bool false) rfl rfl rfl (evn ?_))))))))))
    exact kspec_l1In_J1 false h _ ⟨kr, trivial⟩
def spec_IsValidName_B1 (a0 : List UInt8) (rec : Int → Option (Sum (Unit) (Bool))) (y1 : Int) : Option (Sum (Unit) (Bool)) := cond (decide (y1 < (List.length a0 : Int))) (obind (geti a0 y1) fun b5 => cond (decide ((UInt8.toNat b5 : Int) < 97)) (some (.inr false)) (obind (geti a0 y1) fun b8 => cond (decide (122 < (UInt8.toNat b8 : Int))) (some (.inr false)) (rec (IntKind.i64.wrap (y1 + 1))))) (some (.inl ()))
def spec_IsValidName (a0 : List UInt8) : Option (Bool) := obind (loopF (spec_IsValidName_B1 a0) fz 0) fun o1 => (match o1 with
  | .inl _ => (obind (spec_l1In (List.length a0 : Int) 1 4) fun v11 => some v11)
  | .inr r => some r)
theorem spec_IsValidName_s {a0 : List UInt8} {r : Bool} (h : spec_IsValidName a0 = some r) : SoundAt Try.prog 216 [.str a0] (.bool r) := by
  unfold spec_IsValidName at h
  refine sound_lit tbOk lit216 (nb rfl) rfl ?_
  unfold c216
  refine ls_keep [(0, .str a0)] ⟨kr, trivial⟩ rfl ?_
  refine ls_rs tbOk ?_
  refine evs (ev_ac rfl nofun rfl (evn ?_))
  refine ls_keep [(0, .str a0)] ⟨kr, trivial⟩ rfl ?_
  refine ls_seq_k fun K1 hK1 => ?_
  refine ls_rs tbOk ?_
  refine evs (ev_ac rfl nofun rfl (evn ?_))
  refine ls_keep [(0, .str a0), (3, nI 0)] ⟨kr, kr, trivial⟩ rfl ?_
  obtain ⟨o1, hl, hr1⟩ := ob_some h
  clear h
  have kXspec_IsValidName_B1 : ∀ (_ : Unit), (obind (spec_l1In (List.length a0 : Int) 1 4) fun v11 => some v11) = some r → ∀ σ' : PS, okK σ' [(0, .str a0)] → K1 σ' := by
    intro _ h σ' hk
    refine hK1 _ (ls_keep [(0, .str a0)] hk rfl ?_)
    refine ls_rs tbOk ?_
    refine evs (ev_mv (c := .str a0) rfl rfl rfl (evs (ev_lens (z := []) rfl rfl (?_))))
    obtain ⟨v11, g12, h⟩ := ob_some h
    refine evs (ev_call (era rfl rfl (era rfl rfl (era rfl rfl eran))) (spec_l1In_s g12) (evs (ev_as (c := .bool v11) rfl rfl rfl (evn ?_))))
    refine ls_keep [(2, .bool v11)] ⟨kr, trivial⟩ rfl ?_
    refine ls_ret ?_
    have hr := Option.some.inj h
    rw [← hr]
    exact ⟨.inl rfl, rfl⟩
  refine ls_rec (fun (y1 : Int) => [(0, .str a0), (3, nI y1)]) (spec_IsValidName_B1 a0) fz 0 o1 hl ⟨kr, kr, trivial⟩ (fun _ => rfl) ?_
  rintro m y1 N h hN
  unfold spec_IsValidName_B1 at h
  refine ls_seq_k fun K2 hK2 => ?_
  refine ls_rs tbOk ?_
  refine evs (ev_mv (c := nI y1) rfl rfl rfl (evs (ev_mv (c := .str a0) rfl rfl rfl (evs (ev_lens (z := []) rfl rfl (evs (ev_bin (c1 := nI y1) (c2 := nI (List.length a0 : Int)) rfl rfl rfl (evn ?_))))))))
  refine ls_keep [(0, .str a0), (3, nI y1), (7, .bool (decide (y1 < (List.length a0 : Int))))] ⟨kr, kr, kr, trivial⟩ rfl ?_
  rcases cond_some h with ⟨g3, h⟩ | ⟨g3, h⟩
  · refine ls_cT rfl g3 ?_
    refine ls_skip ?_
    refine hK2 _ (ls_keep [(0, .str a0), (3, nI y1)] ⟨kr, kr, trivial⟩ rfl ?_)
    refine ls_seq_k fun K4 hK4 => ?_
    refine ls_blk ?_
    refine ls_rs tbOk ?_
    refine evs (ev_mv (c := .str a0) rfl rfl rfl (evs (ev_mv (c := nI y1) rfl rfl rfl (?_))))
    obtain ⟨b5, g6, h⟩ := ob_some h
    refine evs (ev_six rfl rfl rfl g6 (evs (ev_bin (c1 := .int .u8 (UInt8.toNat b5 : Int)) (c2 := .int .u8 97) rfl rfl rfl (evs (ev_mv (c := .bool (decide ((UInt8.toNat b5 : Int) < 97))) rfl rfl rfl (?_))))))
    rcases cond_some h with ⟨g7, h⟩ | ⟨g7, h⟩
    · refine evs (ev_gs rfl rfl (isb_T g7) (evs (ev_gs rfl rfl (isb_T g7) (evs (ev_gs rfl rfl (isb_T g7) (evs (ev_gs rfl rfl (isb_T g7) (evs (ev_pkT (c1 := .bool true) rfl g7 rfl rfl (evn ?_))))))))))
      refine ls_keep [(0, .str a0), (3, nI y1), (19, .bool true)] ⟨kr, kr, kr, trivial⟩ rfl ?_
      refine ls_cT rfl rfl ?_
      refine ls_rs tbOk ?_
      refine evs (ev_ac rfl nofun rfl (evn ?_))
      refine ls_keep [(2, .bool false)] ⟨kr, trivial⟩ rfl ?_
      refine ls_ret ?_
      have q0 := (Option.some.inj h).symm
      have r0 := hr1
      rw [q0] at r0
      have hr := Option.some.inj r0
      rw [← hr]
      exact ⟨.inl rfl, rfl⟩
    · refine evs (ev_gr rfl (congrArg V.bool g7) (ev_mv (c := .str a0) rfl rfl rfl (evs (ev_gr rfl (congrArg V.bool g7) (ev_mv (c := nI y1) rfl rfl rfl (?_))))))
      obtain ⟨b8, g9, h⟩ := ob_some h
      refine evs (ev_gr rfl (congrArg V.bool g7) (ev_six rfl rfl rfl g9 (evs (ev_gr rfl (congrArg V.bool g7) (ev_bin (c1 := .int .u8 (UInt8.toNat b8 : Int)) (c2 := .int .u8 122) rfl rfl rfl (evs (ev_pkF (c1 := .bool (decide (122 < (UInt8.toNat b8 : Int)))) rfl g7 rfl rfl (evn ?_))))))))
      refine ls_keep [(0, .str a0), (3, nI y1), (19, .bool (decide (122 < (UInt8.toNat b8 : Int))))] ⟨kr, kr, kr, trivial⟩ rfl ?_
      rcases cond_some h with ⟨g10, h⟩ | ⟨g10, h⟩
      · refine ls_cT rfl g10 ?_
        refine ls_rs tbOk ?_
        refine evs (ev_ac rfl nofun rfl (evn ?_))
        refine ls_keep [(2, .bool false)] ⟨kr, trivial⟩ rfl ?_
        refine ls_ret ?_
        have q0 := (Option.some.inj h).symm
        have r0 := hr1
        rw [q0] at r0
        have hr := Option.some.inj r0
        rw [← hr]
        exact ⟨.inl rfl, rfl⟩
      · refine ls_cF rfl g10 ?_
        refine ls_skip ?_
        refine hK4 _ (ls_keep [(0, .str a0), (3, nI y1)] ⟨kr, kr, trivial⟩ rfl ?_)
        refine ls_rgn tbOk ?_
        refine evs (ev_mv (c := nI y1) rfl rfl rfl (evs (ev_bin (c1 := nI y1) (c2 := nI 1) rfl rfl rfl (evs (ev_as (c := nI (IntKind.i64.wrap (y1 + 1))) rfl rfl rfl (evn ?_))))))
        exact hN _ (IntKind.i64.wrap (y1 + 1)) h ⟨kr, kr, trivial⟩
  · refine ls_cF rfl g3 ?_
    refine ls_exit ?_
    have q0 := (Option.some.inj h).symm
    have r0 := hr1
    rw [q0] at r0
    exact kXspec_IsValidName_B1 () r0 _ ⟨kr, trivial⟩
def spec_CompareRows_B1 (a0 : List Int) (a1 : List Int) (rec : Int → Option (Sum (Unit) (Int))) (y1 : Int) : Option (Sum (Unit) (Int)) := cond (decide (y1 < (List.length a0 : Int))) (cond (decide (y1 < (List.length a1 : Int))) (obind (geti a0 y1) fun e7 => obind (geti a1 y1) fun e9 => cond (decide (e7 < e9)) (some (.inr (-1))) (obind (geti a0 y1) fun e12 => obind (geti a1 y1) fun e14 => cond (decide (e14 < e12)) (some (.inr 1)) (rec (IntKind.i64.wrap (y1 + 1))))) (some (.inl ()))) (some (.inl ()))
def spec_CompareRows (a0 : List Int) (a1 : List Int) : Option (Int) := obind (loopF (spec_CompareRows_B1 a0 a1) fz 0) fun o1 => (match o1 with
  | .inl _ => (cond (decide ((List.length a0 : Int) < (List.length a1 : Int))) (some (-1)) (cond (decide ((List.length a1 : Int) < (List.length a0 : Int))) (some 1) (some 0)))
  | .inr r => some r)
theorem spec_CompareRows_s {a0 : List Int} {a1 : List Int} {r : Int} (h : spec_CompareRows a0 a1 = some r) : SoundAt Try.prog 75 [dL ci64 a0, dL ci64 a1] (nI r) := by
  unfold spec_CompareRows at h
  refine sound_lit tbOk lit75 (nb rfl) rfl ?_
  unfold c75
  refine ls_keep [(0, dL ci64 a0), (1, dL ci64 a1)] ⟨kr, kr, trivial⟩ rfl ?_
  refine ls_rs tbOk ?_
  refine evs (ev_ac rfl nofun rfl (evn ?_))
  refine ls_keep [(0, dL ci64 a0), (1, dL ci64 a1)] ⟨kr, kr, trivial⟩ rfl ?_
  refine ls_seq_k fun K1 hK1 => ?_
  refine ls_rs tbOk ?_
  refine evs (ev_ac rfl nofun rfl (evn ?_))
  refine ls_keep [(0, dL ci64 a0), (1, dL ci64 a1), (5, nI 0)] ⟨kr, kr, kr, trivial⟩ rfl ?_
  obtain ⟨o1, hl, hr1⟩ := ob_some h
  clear h
  have kXspec_CompareRows_B1 : ∀ (_ : Unit), (cond (decide ((List.length a0 : Int) < (List.length a1 : Int))) (some (-1)) (cond (decide ((List.length a1 : Int) < (List.length a0 : Int))) (some 1) (some 0))) = some r → ∀ σ' : PS, okK σ' [(0, dL ci64 a0), (1, dL ci64 a1)] → K1 σ' := by
    intro _ h σ' hk
    refine hK1 _ (ls_keep [(0, dL ci64 a0), (1, dL ci64 a1)] hk rfl ?_)
    refine ls_seq_k fun K17 hK17 => ?_
    refine ls_rs tbOk ?_
    refine evs (ev_mv (c := dL ci64 a0) rfl rfl rfl (evs (ev_len (c1 := dL ci64 a0) rfl rfl rfl (evs (ev_mv (c := dL ci64 a1) rfl rfl rfl (evs (ev_len (c1 := dL ci64 a1) rfl rfl rfl (evs (ev_bin (c1 := nI (List.length a0 : Int)) (c2 := nI (List.length a1 : Int)) rfl rfl rfl (evn ?_))))))))))
    refine ls_keep [(0, dL ci64 a0), (1, dL ci64 a1), (40, .bool (decide ((List.length a0 : Int) < (List.length a1 : Int))))] ⟨kr, kr, kr, trivial⟩ rfl ?_
    rcases cond_some h with ⟨g18, h⟩ | ⟨g18, h⟩
    · refine ls_cT rfl g18 ?_
      refine ls_rs tbOk ?_
      refine evs (ev_ac rfl nofun rfl (evn ?_))
      refine ls_keep [(4, nI (-1))] ⟨kr, trivial⟩ rfl ?_
      refine ls_ret ?_
      have hr := Option.some.inj h
      rw [← hr]
      exact ⟨.inl rfl, rfl⟩
    · refine ls_cF rfl g18 ?_
      refine ls_skip ?_
      refine hK17 _ (ls_keep [(0, dL ci64 a0), (1, dL ci64 a1)] ⟨kr, kr, trivial⟩ rfl ?_)
      refine ls_seq_k fun K19 hK19 => ?_
      refine ls_rs tbOk ?_
      refine evs (ev_mv (c := dL ci64 a0) rfl rfl rfl (evs (ev_len (c1 := dL ci64 a0) rfl rfl rfl (evs (ev_mv (c := dL ci64 a1) rfl rfl rfl (evs (ev_len (c1 := dL ci64 a1) rfl rfl rfl (evs (ev_bin (c1 := nI (List.length a0 : Int)) (c2 := nI (List.length a1 : Int)) rfl rfl rfl (evn ?_))))))))))
      refine ls_keep [(45, .bool (decide ((List.length a1 : Int) < (List.length a0 : Int))))] ⟨kr, trivial⟩ rfl ?_
      rcases cond_some h with ⟨g20, h⟩ | ⟨g20, h⟩
      · refine ls_cT rfl g20 ?_
        refine ls_rs tbOk ?_
        refine evs (ev_ac rfl nofun rfl (evn ?_))
        refine ls_keep [(4, nI 1)] ⟨kr, trivial⟩ rfl ?_
        refine ls_ret ?_
        have hr := Option.some.inj h
        rw [← hr]
        exact ⟨.inl rfl, rfl⟩
      · refine ls_cF rfl g20 ?_
        refine ls_skip ?_
        refine hK19 _ (ls_keep [] trivial rfl ?_)
        refine ls_rs tbOk ?_
        refine evs (ev_ac rfl nofun rfl (evn ?_))
        refine ls_keep [(4, nI 0)] ⟨kr, trivial⟩ rfl ?_
        refine ls_ret ?_
        have hr := Option.some.inj h
        rw [← hr]
        exact ⟨.inl rfl, rfl⟩
  refine ls_rec (fun (y1 : Int) => [(0, dL ci64 a0), (1, dL ci64 a1), (5, nI y1)]) (spec_CompareRows_B1 a0 a1) fz 0 o1 hl ⟨kr, kr, kr, trivial⟩ (fun _ => rfl) ?_
  rintro m y1 N h hN
  unfold spec_CompareRows_B1 at h
  refine ls_seq_k fun K2 hK2 => ?_
  refine ls_rs tbOk ?_
  refine evs (ev_mv (c := nI y1) rfl rfl rfl (evs (ev_mv (c := dL ci64 a0) rfl rfl rfl (evs (ev_len (c1 := dL ci64 a0) rfl rfl rfl (evs (ev_bin (c1 := nI y1) (c2 := nI (List.length a0 : Int)) rfl rfl rfl (evs (ev_mv (c := .bool (decide (y1 < (List.length a0 : Int)))) rfl rfl rfl (?_))))))))))
  rcases cond_some h with ⟨g3, h⟩ | ⟨g3, h⟩
  · refine evs (ev_gr rfl (congrArg V.bool g3) (ev_mv (c := nI y1) rfl rfl rfl (evs (ev_gr rfl (congrArg V.bool g3) (ev_mv (c := dL ci64 a1) rfl rfl rfl (evs (ev_gr rfl (congrArg V.bool g3) (ev_len (c1 := dL ci64 a1) rfl rfl rfl (evs (ev_gr rfl (congrArg V.bool g3) (ev_bin (c1 := nI y1) (c2 := nI (List.length a1 : Int)) rfl rfl rfl (evs (ev_pkT (c1 := .bool (decide (y1 < (List.length a1 : Int)))) rfl g3 rfl rfl (evn ?_))))))))))))))
    refine ls_keep [(0, dL ci64 a0), (1, dL ci64 a1), (5, nI y1), (15, .bool (decide (y1 < (List.length a1 : Int))))] ⟨kr, kr, kr, kr, trivial⟩ rfl ?_
    rcases cond_some h with ⟨g4, h⟩ | ⟨g4, h⟩
    · refine ls_cT rfl g4 ?_
      refine ls_skip ?_
      refine hK2 _ (ls_keep [(0, dL ci64 a0), (1, dL ci64 a1), (5, nI y1)] ⟨kr, kr, kr, trivial⟩ rfl ?_)
      refine ls_seq_k fun K5 hK5 => ?_
      refine ls_blk ?_
      refine ls_seq_k fun K6 hK6 => ?_
      refine ls_rd tbOk mixed (by kernel_rfl) ?_
      refine evd rfl rfl (ev_mv (c := dL ci64 a0) rfl rfl rfl (evd rfl rfl (ev_mv (c := nI y1) rfl rfl rfl (?_))))
      obtain ⟨e7, g8, h⟩ := ob_some h
      refine evd rfl rfl (ev_ia rfl rfl rfl ⟨(geti_some g8).1, (geti_some g8).2.1⟩ (evd rfl rfl (ev_ldE (i := y1) (n := 1) (off := 0) (v := nI e7) rfl rfl zci64 g8 rfl (nb rfl) rfl (evd rfl rfl (ev_mv (c := dL ci64 a1) rfl rfl rfl (evd rfl rfl (ev_mv (c := nI y1) rfl rfl rfl (?_))))))))
      obtain ⟨e9, g10, h⟩ := ob_some h
      refine evd rfl rfl (ev_ia rfl rfl rfl ⟨(geti_some g10).1, (geti_some g10).2.1⟩ (evd rfl rfl (ev_ldE (i := y1) (n := 1) (off := 0) (v := nI e9) rfl rfl zci64 g10 rfl (nb rfl) rfl (evd rfl rfl (ev_bin (c1 := nI e7) (c2 := nI e9) rfl rfl rfl (evdn ?_))))))
      refine ls_keep [(0, dL ci64 a0), (1, dL ci64 a1), (5, nI y1), (26, .bool (decide (e7 < e9)))] ⟨kr, kr, kr, kr, trivial⟩ rfl ?_
      rcases cond_some h with ⟨g11, h⟩ | ⟨g11, h⟩
      · refine ls_cT rfl g11 ?_
        refine ls_rs tbOk ?_
        refine evs (ev_ac rfl nofun rfl (evn ?_))
        refine ls_keep [(4, nI (-1))] ⟨kr, trivial⟩ rfl ?_
        refine ls_ret ?_
        have q0 := (Option.some.inj h).symm
        have r0 := hr1
        rw [q0] at r0
        have hr := Option.some.inj r0
        rw [← hr]
        exact ⟨.inl rfl, rfl⟩
      · refine ls_cF rfl g11 ?_
        refine ls_skip ?_
        refine hK6 _ (ls_keep [(0, dL ci64 a0), (1, dL ci64 a1), (5, nI y1)] ⟨kr, kr, kr, trivial⟩ rfl ?_)
        refine ls_rd tbOk mixed (by kernel_rfl) ?_
        refine evd rfl rfl (ev_mv (c := dL ci64 a0) rfl rfl rfl (evd rfl rfl (ev_mv (c := nI y1) rfl rfl rfl (?_))))
        obtain ⟨e12, g13, h⟩ := ob_some h
        refine evd rfl rfl (ev_ia rfl rfl rfl ⟨(geti_some g13).1, (geti_some g13).2.1⟩ (evd rfl rfl (ev_ldE (i := y1) (n := 1) (off := 0) (v := nI e12) rfl rfl zci64 g13 rfl (nb rfl) rfl (evd rfl rfl (ev_mv (c := dL ci64 a1) rfl rfl rfl (evd rfl rfl (ev_mv (c := nI y1) rfl rfl rfl (?_))))))))
        obtain ⟨e14, g15, h⟩ := ob_some h
        refine evd rfl rfl (ev_ia rfl rfl rfl ⟨(geti_some g15).1, (geti_some g15).2.1⟩ (evd rfl rfl (ev_ldE (i := y1) (n := 1) (off := 0) (v := nI e14) rfl rfl zci64 g15 rfl (nb rfl) rfl (evd rfl rfl (ev_bin (c1 := nI e12) (c2 := nI e14) rfl rfl rfl (evdn ?_))))))
        refine ls_keep [(0, dL ci64 a0), (1, dL ci64 a1), (5, nI y1), (35, .bool (decide (e14 < e12)))] ⟨kr, kr, kr, kr, trivial⟩ rfl ?_
        rcases cond_some h with ⟨g16, h⟩ | ⟨g16, h⟩
        · refine ls_cT rfl g16 ?_
          refine ls_rs tbOk ?_
          refine evs (ev_ac rfl nofun rfl (evn ?_))
          refine ls_keep [(4, nI 1)] ⟨kr, trivial⟩ rfl ?_
          refine ls_ret ?_
          have q0 := (Option.some.inj h).symm
          have r0 := hr1
          rw [q0] at r0
          have hr := Option.some.inj r0
          rw [← hr]
          exact ⟨.inl rfl, rfl⟩
        · refine ls_cF rfl g16 ?_
          refine ls_skip ?_
          refine hK5 _ (ls_keep [(0, dL ci64 a0), (1, dL ci64 a1), (5, nI y1)] ⟨kr, kr, kr, trivial⟩ rfl ?_)
          refine ls_rgn tbOk ?_
          refine evs (ev_mv (c := nI y1) rfl rfl rfl (evs (ev_bin (c1 := nI y1) (c2 := nI 1) rfl rfl rfl (evs (ev_as (c := nI (IntKind.i64.wrap (y1 + 1))) rfl rfl rfl (evn ?_))))))
          exact hN _ (IntKind.i64.wrap (y1 + 1)) h ⟨kr, kr, kr, trivial⟩
    · refine ls_cF rfl g4 ?_
      refine ls_exit ?_
      have q0 := (Option.some.inj h).symm
      have r0 := hr1
      rw [q0] at r0
      exact kXspec_CompareRows_B1 () r0 _ ⟨kr, kr, trivial⟩
  · refine evs (ev_gs rfl rfl (isb_F g3) (evs (ev_gs rfl rfl (isb_F g3) (evs (ev_gs rfl rfl (isb_F g3) (evs (ev_gs rfl rfl (isb_F g3) (evs (ev_pkF (c1 := .bool false) rfl g3 rfl rfl (evn ?_))))))))))
    refine ls_keep [(0, dL ci64 a0), (1, dL ci64 a1), (5, nI y1), (15, .bool false)] ⟨kr, kr, kr, kr, trivial⟩ rfl ?_
    refine ls_cF rfl rfl ?_
    refine ls_exit ?_
    have q0 := (Option.some.inj h).symm
    have r0 := hr1
    rw [q0] at r0
    exact kXspec_CompareRows_B1 () r0 _ ⟨kr, kr, trivial⟩
def spec_AreValidValues_B1 (a0 : List Int) (rec : Int → Option (Sum (Unit) (Bool))) (y1 : Int) : Option (Sum (Unit) (Bool)) := cond (decide (y1 < (List.length a0 : Int))) (obind (geti a0 y1) fun e5 => obind (spec_l1In e5 0 99) fun v7 => cond (!v7) (some (.inr false)) (rec (IntKind.i64.wrap (y1 + 1)))) (some (.inl ()))
def spec_AreValidValues (a0 : List Int) : Option (Bool) := obind (loopF (spec_AreValidValues_B1 a0) fz 0) fun o1 => (match o1 with
  | .inl _ => (some true)
  | .inr r => some r)
theorem spec_AreValidValues_s {a0 : List Int} {r : Bool} (h : spec_AreValidValues a0 = some r) : SoundAt Try.prog 242 [dL ci64 a0] (.bool r) := by
  unfold spec_AreValidValues at h
  refine sound_lit tbOk lit242 (nb rfl) rfl ?_
  unfold c242
  refine ls_keep [(0, dL ci64 a0)] ⟨kr, trivial⟩ rfl ?_
  refine ls_rs tbOk ?_
  refine evs (ev_ac rfl nofun rfl (evn ?_))
  refine ls_keep [(0, dL ci64 a0)] ⟨kr, trivial⟩ rfl ?_
  refine ls_seq_k fun K1 hK1 => ?_
  refine ls_rs tbOk ?_
  refine evs (ev_ac rfl nofun rfl (evn ?_))
  refine ls_keep [(0, dL ci64 a0), (3, nI 0)] ⟨kr, kr, trivial⟩ rfl ?_
  obtain ⟨o1, hl, hr1⟩ := ob_some h
  clear h
  have kXspec_AreValidValues_B1 : ∀ (_ : Unit), (some true) = some r → ∀ σ' : PS, okK σ' [] → K1 σ' := by
    intro _ h σ' hk
    refine hK1 _ (ls_keep [] hk rfl ?_)
    refine ls_rs tbOk ?_
    refine evs (ev_ac rfl nofun rfl (evn ?_))
    refine ls_keep [(2, .bool true)] ⟨kr, trivial⟩ rfl ?_
    refine ls_ret ?_
    have hr := Option.some.inj h
    rw [← hr]
    exact ⟨.inl rfl, rfl⟩
  refine ls_rec (fun (y1 : Int) => [(0, dL ci64 a0), (3, nI y1)]) (spec_AreValidValues_B1 a0) fz 0 o1 hl ⟨kr, kr, trivial⟩ (fun _ => rfl) ?_
  rintro m y1 N h hN
  unfold spec_AreValidValues_B1 at h
  refine ls_seq_k fun K2 hK2 => ?_
  refine ls_rs tbOk ?_
  refine evs (ev_mv (c := nI y1) rfl rfl rfl (evs (ev_mv (c := dL ci64 a0) rfl rfl rfl (evs (ev_len (c1 := dL ci64 a0) rfl rfl rfl (evs (ev_bin (c1 := nI y1) (c2 := nI (List.length a0 : Int)) rfl rfl rfl (evn ?_))))))))
  refine ls_keep [(0, dL ci64 a0), (3, nI y1), (7, .bool (decide (y1 < (List.length a0 : Int))))] ⟨kr, kr, kr, trivial⟩ rfl ?_
  rcases cond_some h with ⟨g3, h⟩ | ⟨g3, h⟩
  · refine ls_cT rfl g3 ?_
    refine ls_skip ?_
    refine hK2 _ (ls_keep [(0, dL ci64 a0), (3, nI y1)] ⟨kr, kr, trivial⟩ rfl ?_)
    refine ls_seq_k fun K4 hK4 => ?_
    refine ls_blk ?_
    refine ls_rs tbOk ?_
    refine evs (ev_mv (c := dL ci64 a0) rfl rfl rfl (evs (ev_mv (c := nI y1) rfl rfl rfl (?_))))
    obtain ⟨e5, g6, h⟩ := ob_some h
    refine evs (ev_ia rfl rfl rfl ⟨(geti_some g6).1, (geti_some g6).2.1⟩ (evs (ev_ldE (i := y1) (n := 1) (off := 0) (v := nI e5) rfl rfl zci64 g6 rfl (nb rfl) rfl (?_))))
    obtain ⟨v7, g8, h⟩ := ob_some h
    refine evs (ev_call (era rfl rfl (era rfl rfl (era rfl rfl eran))) (spec_l1In_s g8) (evs (ev_un (c1 := .bool v7) rfl trivial (evn ?_))))
    refine ls_keep [(0, dL ci64 a0), (3, nI y1), (15, .bool (!v7))] ⟨kr, kr, kr, trivial⟩ rfl ?_
    rcases cond_some h with ⟨g9, h⟩ | ⟨g9, h⟩
    · refine ls_cT rfl g9 ?_
      refine ls_rs tbOk ?_
      refine evs (ev_ac rfl nofun rfl (evn ?_))
      refine ls_keep [(2, .bool false)] ⟨kr, trivial⟩ rfl ?_
      refine ls_ret ?_
      have q0 := (Option.some.inj h).symm
      have r0 := hr1
      rw [q0] at r0
      have hr := Option.some.inj r0
      rw [← hr]
      exact ⟨.inl rfl, rfl⟩
    · refine ls_cF rfl g9 ?_
      refine ls_skip ?_
      refine hK4 _ (ls_keep [(0, dL ci64 a0), (3, nI y1)] ⟨kr, kr, trivial⟩ rfl ?_)
      refine ls_rgn tbOk ?_
      refine evs (ev_mv (c := nI y1) rfl rfl rfl (evs (ev_bin (c1 := nI y1) (c2 := nI 1) rfl rfl rfl (evs (ev_as (c := nI (IntKind.i64.wrap (y1 + 1))) rfl rfl rfl (evn ?_))))))
      exact hN _ (IntKind.i64.wrap (y1 + 1)) h ⟨kr, kr, trivial⟩
  · refine ls_cF rfl g3 ?_
    refine ls_exit ?_
    have q0 := (Option.some.inj h).symm
    have r0 := hr1
    rw [q0] at r0
    exact kXspec_AreValidValues_B1 () r0 _ trivial
def spec_IsValidRelation_J2 (rec : Int → Option (Sum (Unit) (Bool))) (y1 : Int) (x11 : Bool) : Option (Sum (Unit) (Bool)) := cond x11 (some (.inr false)) (rec (IntKind.i64.wrap (y1 + 1)))
def spec_IsValidRelation_B1 (a0 : Y127) (rec : Int → Option (Sum (Unit) (Bool))) (y1 : Int) : Option (Sum (Unit) (Bool)) := cond (decide (y1 < (List.length a0.2 : Int))) (obind (geti a0.2 y1) fun e13 => cond ((List.length e13 : Int) != a0.1) (spec_IsValidRelation_J2 rec y1 true) (obind (geti a0.2 y1) fun e16 => obind (spec_AreValidValues e16) fun v18 => cond (!v18) (spec_IsValidRelation_J2 rec y1 true) (cond (decide (0 < y1)) (obind (geti a0.2 (IntKind.i64.wrap (y1 - 1))) fun e22 => obind (geti a0.2 y1) fun e24 => obind (spec_CompareRows e22 e24) fun v26 => spec_IsValidRelation_J2 rec y1 (decide (0 ≤ v26))) (spec_IsValidRelation_J2 rec y1 false)))) (some (.inl ()))
def spec_IsValidRelation (a0 : Y127) : Option (Bool) := obind (spec_l1In a0.1 0 5) fun v2 => cond (!v2) (some false) (cond (decide (4000 < (List.length a0.2 : Int))) (some false) (obind (loopF (spec_IsValidRelation_B1 a0) fz 0) fun o1 => (match o1 with
  | .inl _ => (some true)
  | .inr r => some r)))
theorem spec_IsValidRelation_s {a0 : Y127} {r : Bool} (h : spec_IsValidRelation a0 = some r) : SoundAt Try.prog 217 [.agg (c128_dd a0)] (.bool r) := by
  unfold spec_IsValidRelation at h
  refine sound_lit tbOk lit217 (nb rfl) rfl ?_
  unfold c217
  refine ls_keep [(0, .agg (c128_dd a0))] ⟨kr, trivial⟩ rfl ?_
  refine ls_rs tbOk ?_
  refine evs (ev_bx (c1 := .agg (c128_dd a0)) rfl rfl rfl (evs (ev_ac rfl nofun rfl (evn ?_))))
  refine ls_keep [(1, .box [nI a0.1, dL c25_d a0.2])] ⟨kr, trivial⟩ rfl ?_
  refine ls_seq_k fun K1 hK1 => ?_
  refine ls_rs tbOk ?_
  refine evs (ev_fa (c1 := .cref 1 0) (v := .cref 1 0) rfl rfl rfl ⟨_, rfl⟩ rfl (evs (ev_ldB (off := 0) (v := nI a0.1) rfl rfl rfl rfl (nb rfl) rfl (?_))))
  obtain ⟨v2, g3, h⟩ := ob_some h
  refine evs (ev_call (era rfl rfl (era rfl rfl (era rfl rfl eran))) (spec_l1In_s g3) (evs (ev_un (c1 := .bool v2) rfl trivial (evs (ev_mv (c := .bool (!v2)) rfl rfl rfl (?_))))))
  rcases cond_some h with ⟨g4, h⟩ | ⟨g4, h⟩
  · refine evs (ev_gs rfl rfl (isb_T g4) (evs (ev_gs rfl rfl (isb_T g4) (evs (ev_gs rfl rfl (isb_T g4) (evs (ev_gs rfl rfl (isb_T g4) (evs (ev_pkT (c1 := .bool true) rfl g4 rfl rfl (evn ?_))))))))))
    refine ls_keep [(1, .box [nI a0.1, dL c25_d a0.2]), (13, .bool true)] ⟨kr, kr, trivial⟩ rfl ?_
    refine ls_cT rfl rfl ?_
    refine ls_rs tbOk ?_
    refine evs (ev_ac rfl nofun rfl (evn ?_))
    refine ls_keep [(2, .bool false)] ⟨kr, trivial⟩ rfl ?_
    refine ls_ret ?_
    have hr := Option.some.inj h
    rw [← hr]
    exact ⟨.inl rfl, rfl⟩
  · refine evs (ev_gr rfl (congrArg V.bool g4) (ev_fa (c1 := .cref 1 0) (v := .cref 1 1) rfl rfl rfl ⟨_, rfl⟩ rfl (evs (ev_gr rfl (congrArg V.bool g4) (ev_ldB (off := 1) (v := dL c25_d a0.2) rfl rfl rfl rfl (nb rfl) rfl (evs (ev_gr rfl (congrArg V.bool g4) (ev_len (c1 := dL c25_d a0.2) rfl rfl rfl (evs (ev_gr rfl (congrArg V.bool g4) (ev_bin (c1 := nI (List.length a0.2 : Int)) (c2 := nI 4000) rfl rfl rfl (evs (ev_pkF (c1 := .bool (decide (4000 < (List.length a0.2 : Int)))) rfl g4 rfl rfl (evn ?_))))))))))))))
    refine ls_keep [(1, .box [nI a0.1, dL c25_d a0.2]), (13, .bool (decide (4000 < (List.length a0.2 : Int))))] ⟨kr, kr, trivial⟩ rfl ?_
    rcases cond_some h with ⟨g5, h⟩ | ⟨g5, h⟩
    · refine ls_cT rfl g5 ?_
      refine ls_rs tbOk ?_
      refine evs (ev_ac rfl nofun rfl (evn ?_))
      refine ls_keep [(2, .bool false)] ⟨kr, trivial⟩ rfl ?_
      refine ls_ret ?_
      have hr := Option.some.inj h
      rw [← hr]
      exact ⟨.inl rfl, rfl⟩
    · refine ls_cF rfl g5 ?_
      refine ls_skip ?_
      refine hK1 _ (ls_keep [(1, .box [nI a0.1, dL c25_d a0.2])] ⟨kr, trivial⟩ rfl ?_)
      refine ls_seq_k fun K6 hK6 => ?_
      refine ls_rs tbOk ?_
      refine evs (ev_ac rfl nofun rfl (evn ?_))
      refine ls_keep [(1, .box [nI a0.1, dL c25_d a0.2]), (3, nI 0)] ⟨kr, kr, trivial⟩ rfl ?_
      obtain ⟨o1, hl, hr1⟩ := ob_some h
      clear h
      have kXspec_IsValidRelation_B1 : ∀ (_ : Unit), (some true) = some r → ∀ σ' : PS, okK σ' [] → K6 σ' := by
        intro _ h σ' hk
        refine hK6 _ (ls_keep [] hk rfl ?_)
        refine ls_rs tbOk ?_
        refine evs (ev_ac rfl nofun rfl (evn ?_))
        refine ls_keep [(2, .bool true)] ⟨kr, trivial⟩ rfl ?_
        refine ls_ret ?_
        have hr := Option.some.inj h
        rw [← hr]
        exact ⟨.inl rfl, rfl⟩
      refine ls_rec (fun (y1 : Int) => [(1, .box [nI a0.1, dL c25_d a0.2]), (3, nI y1)]) (spec_IsValidRelation_B1 a0) fz 0 o1 hl ⟨kr, kr, trivial⟩ (fun _ => rfl) ?_
      rintro m y1 N h hN
      unfold spec_IsValidRelation_B1 at h
      refine ls_seq_k fun K7 hK7 => ?_
      refine ls_rs tbOk ?_
      refine evs (ev_mv (c := nI y1) rfl rfl rfl (evs (ev_fa (c1 := .cref 1 0) (v := .cref 1 1) rfl rfl rfl ⟨_, rfl⟩ rfl (evs (ev_ldB (off := 1) (v := dL c25_d a0.2) rfl rfl rfl rfl (nb rfl) rfl (evs (ev_len (c1 := dL c25_d a0.2) rfl rfl rfl (evs (ev_bin (c1 := nI y1) (c2 := nI (List.length a0.2 : Int)) rfl rfl rfl (evn ?_))))))))))
      refine ls_keep [(1, .box [nI a0.1, dL c25_d a0.2]), (3, nI y1), (18, .bool (decide (y1 < (List.length a0.2 : Int))))] ⟨kr, kr, kr, trivial⟩ rfl ?_
      rcases cond_some h with ⟨g8, h⟩ | ⟨g8, h⟩
      · refine ls_cT rfl g8 ?_
        refine ls_skip ?_
        refine hK7 _ (ls_keep [(1, .box [nI a0.1, dL c25_d a0.2]), (3, nI y1)] ⟨kr, kr, trivial⟩ rfl ?_)
        refine ls_seq_k fun K9 hK9 => ?_
        refine ls_blk ?_
        refine ls_rd_k tbOk mixed (by kernel_rfl) fun K10 hK10 => ?_
        have kspec_IsValidRelation_J2 : ∀ (x11 : Bool), spec_IsValidRelation_J2 (loopF (spec_IsValidRelation_B1 a0) m) y1 x11 = some o1 → ∀ σ' : PS, okK σ' [(1, .box [nI a0.1, dL c25_d a0.2]), (3, nI y1), (57, .bool x11)] → K10 σ' := by
          intro x11 h σ' hk
          unfold spec_IsValidRelation_J2 at h
          refine hK10 _ (ls_keep [(1, .box [nI a0.1, dL c25_d a0.2]), (3, nI y1), (57, .bool x11)] hk rfl ?_)
          rcases cond_some h with ⟨g12, h⟩ | ⟨g12, h⟩
          · refine ls_cT rfl g12 ?_
            refine ls_rs tbOk ?_
            refine evs (ev_ac rfl nofun rfl (evn ?_))
            refine ls_keep [(2, .bool false)] ⟨kr, trivial⟩ rfl ?_
            refine ls_ret ?_
            have q0 := (Option.some.inj h).symm
            have r0 := hr1
            rw [q0] at r0
            have hr := Option.some.inj r0
            rw [← hr]
            exact ⟨.inl rfl, rfl⟩
          · refine ls_cF rfl g12 ?_
            refine ls_skip ?_
            refine hK9 _ (ls_keep [(1, .box [nI a0.1, dL c25_d a0.2]), (3, nI y1)] ⟨kr, kr, trivial⟩ rfl ?_)
            refine ls_rgn tbOk ?_
            refine evs (ev_mv (c := nI y1) rfl rfl rfl (evs (ev_bin (c1 := nI y1) (c2 := nI 1) rfl rfl rfl (evs (ev_as (c := nI (IntKind.i64.wrap (y1 + 1))) rfl rfl rfl (evn ?_))))))
            exact hN _ (IntKind.i64.wrap (y1 + 1)) h ⟨kr, kr, trivial⟩
        refine evd rfl rfl (ev_fa (c1 := .cref 1 0) (v := .cref 1 1) rfl rfl rfl ⟨_, rfl⟩ rfl (evd rfl rfl (ev_ldB (off := 1) (v := dL c25_d a0.2) rfl rfl rfl rfl (nb rfl) rfl (evd rfl rfl (ev_mv (c := nI y1) rfl rfl rfl (?_))))))
        obtain ⟨e13, g14, h⟩ := ob_some h
        refine evd rfl rfl (ev_ia rfl rfl rfl ⟨(geti_some g14).1, (geti_some g14).2.1⟩ (evd rfl rfl (ev_ldE (i := y1) (n := 1) (off := 0) (v := dL ci64 e13) rfl rfl zc25_d g14 rfl (nb rfl) rfl (evd rfl rfl (ev_len (c1 := dL ci64 e13) rfl rfl rfl (evd rfl rfl (ev_fa (c1 := .cref 1 0) (v := .cref 1 0) rfl rfl rfl ⟨_, rfl⟩ rfl (evd rfl rfl (ev_ldB (off := 0) (v := nI a0.1) rfl rfl rfl rfl (nb rfl) rfl (evd rfl rfl (ev_bin (c1 := nI (List.length e13 : Int)) (c2 := nI a0.1) rfl rfl rfl (evd rfl rfl (ev_mv (c := .bool ((List.length e13 : Int) != a0.1)) rfl rfl rfl (?_))))))))))))))
        rcases cond_some h with ⟨g15, h⟩ | ⟨g15, h⟩
        · refine evd rfl rfl (ev_gs rfl rfl (isb_T g15) (evd rfl rfl (ev_gs rfl rfl (isb_T g15) (evd rfl rfl (ev_gs rfl rfl (isb_T g15) (evd rfl rfl (ev_gs rfl rfl (isb_T g15) (evd rfl rfl (ev_gs rfl rfl (isb_T g15) (evd rfl rfl (ev_gs rfl rfl (isb_T g15) (evd rfl rfl (ev_gs rfl rfl (isb_T g15) (evd rfl rfl (ev_pkT (c1 := .bool true) rfl g15 rfl rfl (evd rfl rfl (ev_mv (c := .bool true) rfl rfl rfl (evd rfl rfl (ev_gs rfl rfl rfl (evd rfl rfl (ev_gs rfl rfl rfl (evd rfl rfl (ev_gs rfl rfl rfl (evd rfl rfl (ev_gs rfl rfl rfl (evd rfl rfl (ev_gs rfl rfl rfl (evd rfl rfl (ev_gs rfl rfl rfl (evd rfl rfl (ev_gs rfl rfl rfl (evd rfl rfl (ev_gs rfl rfl rfl (evd rfl rfl (ev_gs rfl rfl rfl (evd rfl rfl (ev_gs rfl rfl rfl (evd rfl rfl (ev_gs rfl rfl rfl (evd rfl rfl (ev_gs rfl rfl rfl (evd rfl rfl (ev_gs rfl rfl rfl (evd rfl rfl (ev_gs rfl rfl rfl (evd rfl rfl (ev_gs rfl rfl rfl (evd rfl rfl (ev_gs rfl rfl rfl (evd rfl rfl (ev_gs rfl rfl rfl (evd rfl rfl (ev_pkT (c1 := .bool true) rfl rfl rfl rfl (evdn ?_))))))))))))))))))))))))))))))))))))))))))))))))))))))
          exact kspec_IsValidRelation_J2 true h _ ⟨kr, kr, kr, trivial⟩
        · refine evd rfl rfl (ev_gr rfl (congrArg V.bool g15) (ev_fa (c1 := .cref 1 0) (v := .cref 1 1) rfl rfl rfl ⟨_, rfl⟩ rfl (evd rfl rfl (ev_gr rfl (congrArg V.bool g15) (ev_ldB (off := 1) (v := dL c25_d a0.2) rfl rfl rfl rfl (nb rfl) rfl (evd rfl rfl (ev_gr rfl (congrArg V.bool g15) (ev_mv (c := nI y1) rfl rfl rfl (?_)))))))))
          obtain ⟨e16, g17, h⟩ := ob_some h
          refine evd rfl rfl (ev_gr rfl (congrArg V.bool g15) (ev_ia rfl rfl rfl ⟨(geti_some g17).1, (geti_some g17).2.1⟩ (evd rfl rfl (ev_gr rfl (congrArg V.bool g15) (ev_ldE (i := y1) (n := 1) (off := 0) (v := dL ci64 e16) rfl rfl zc25_d g17 rfl (nb rfl) rfl (?_))))))
          obtain ⟨v18, g19, h⟩ := ob_some h
          refine evd rfl rfl (ev_gr rfl (congrArg V.bool g15) (ev_call (era rfl (erD eci64 _) eran) (spec_AreValidValues_s g19) (evd rfl rfl (ev_gr rfl (congrArg V.bool g15) (ev_un (c1 := .bool v18) rfl trivial (evd rfl rfl (ev_pkF (c1 := .bool (!v18)) rfl g15 rfl rfl (evd rfl rfl (ev_mv (c := .bool (!v18)) rfl rfl rfl (?_))))))))))
          rcases cond_some h with ⟨g20, h⟩ | ⟨g20, h⟩
          · refine evd rfl rfl (ev_gs rfl rfl (isb_T g20) (evd rfl rfl (ev_gs rfl rfl (isb_T g20) (evd rfl rfl (ev_gs rfl rfl (isb_T g20) (evd rfl rfl (ev_gs rfl rfl rfl (evd rfl rfl (ev_gs rfl rfl rfl (evd rfl rfl (ev_gs rfl rfl rfl (evd rfl rfl (ev_gs rfl rfl rfl (evd rfl rfl (ev_gs rfl rfl rfl (evd rfl rfl (ev_gs rfl rfl rfl (evd rfl rfl (ev_gs rfl rfl rfl (evd rfl rfl (ev_gs rfl rfl rfl (evd rfl rfl (ev_gs rfl rfl rfl (evd rfl rfl (ev_gs rfl rfl rfl (evd rfl rfl (ev_gs rfl rfl rfl (evd rfl rfl (ev_gs rfl rfl rfl (evd rfl rfl (ev_gs rfl rfl rfl (evd rfl rfl (ev_gs rfl rfl (isb_T g20) (evd rfl rfl (ev_pkT (c1 := .bool true) rfl g20 rfl rfl (evdn ?_))))))))))))))))))))))))))))))))))))
            exact kspec_IsValidRelation_J2 true h _ ⟨kr, kr, kr, trivial⟩
          · refine evd rfl rfl (ev_gr rfl (congrArg V.bool g20) (ev_mv (c := nI y1) rfl rfl rfl (evd rfl rfl (ev_gr rfl (congrArg V.bool g20) (ev_bin (c1 := nI y1) (c2 := nI 0) rfl rfl rfl (evd rfl rfl (ev_gr rfl (congrArg V.bool g20) (ev_mv (c := .bool (decide (0 < y1))) rfl rfl rfl (?_)))))))))
            rcases cond_some h with ⟨g21, h⟩ | ⟨g21, h⟩
            · refine evd rfl rfl (ev_gr rfl (congrArg V.bool g21) (ev_fa (c1 := .cref 1 0) (v := .cref 1 1) rfl rfl rfl ⟨_, rfl⟩ rfl (evd rfl rfl (ev_gr rfl (congrArg V.bool g21) (ev_ldB (off := 1) (v := dL c25_d a0.2) rfl rfl rfl rfl (nb rfl) rfl (evd rfl rfl (ev_gr rfl (congrArg V.bool g21) (ev_mv (c := nI y1) rfl rfl rfl (evd rfl rfl (ev_gr rfl (congrArg V.bool g21) (ev_bin (c1 := nI y1) (c2 := nI 1) rfl rfl rfl (?_))))))))))))
              obtain ⟨e22, g23, h⟩ := ob_some h
              refine evd rfl rfl (ev_gr rfl (congrArg V.bool g21) (ev_ia rfl rfl rfl ⟨(geti_some g23).1, (geti_some g23).2.1⟩ (evd rfl rfl (ev_gr rfl (congrArg V.bool g21) (ev_ldE (i := (IntKind.i64.wrap (y1 - 1))) (n := 1) (off := 0) (v := dL ci64 e22) rfl rfl zc25_d g23 rfl (nb rfl) rfl (evd rfl rfl (ev_gr rfl (congrArg V.bool g21) (ev_fa (c1 := .cref 1 0) (v := .cref 1 1) rfl rfl rfl ⟨_, rfl⟩ rfl (evd rfl rfl (ev_gr rfl (congrArg V.bool g21) (ev_ldB (off := 1) (v := dL c25_d a0.2) rfl rfl rfl rfl (nb rfl) rfl (evd rfl rfl (ev_gr rfl (congrArg V.bool g21) (ev_mv (c := nI y1) rfl rfl rfl (?_)))))))))))))))
              obtain ⟨e24, g25, h⟩ := ob_some h
              refine evd rfl rfl (ev_gr rfl (congrArg V.bool g21) (ev_ia rfl rfl rfl ⟨(geti_some g25).1, (geti_some g25).2.1⟩ (evd rfl rfl (ev_gr rfl (congrArg V.bool g21) (ev_ldE (i := y1) (n := 1) (off := 0) (v := dL ci64 e24) rfl rfl zc25_d g25 rfl (nb rfl) rfl (?_))))))
              obtain ⟨v26, g27, h⟩ := ob_some h
              refine evd rfl rfl (ev_gr rfl (congrArg V.bool g21) (ev_call (era rfl (erD eci64 _) (era rfl (erD eci64 _) eran)) (spec_CompareRows_s g27) (evd rfl rfl (ev_gr rfl (congrArg V.bool g21) (ev_bin (c1 := nI v26) (c2 := nI 0) rfl rfl rfl (evd rfl rfl (ev_gr rfl (congrArg V.bool g20) (ev_pkT (c1 := .bool (decide (0 ≤ v26))) rfl g21 rfl rfl (evd rfl rfl (ev_pkF (c1 := .bool (decide (0 ≤ v26))) rfl g20 rfl rfl (evdn ?_)))))))))))
              exact kspec_IsValidRelation_J2 (decide (0 ≤ v26)) h _ ⟨kr, kr, kr, trivial⟩
            · refine evd rfl rfl (ev_gs rfl rfl (isb_F g21) (evd rfl rfl (ev_gs rfl rfl (isb_F g21) (evd rfl rfl (ev_gs rfl rfl (isb_F g21) (evd rfl rfl (ev_gs rfl rfl (isb_F g21) (evd rfl rfl (ev_gs rfl rfl (isb_F g21) (evd rfl rfl (ev_gs rfl rfl (isb_F g21) (evd rfl rfl (ev_gs rfl rfl (isb_F g21) (evd rfl rfl (ev_gs rfl rfl (isb_F g21) (evd rfl rfl (ev_gs rfl rfl (isb_F g21) (evd rfl rfl (ev_gs rfl rfl (isb_F g21) (evd rfl rfl (ev_gs rfl rfl (isb_F g21) (evd rfl rfl (ev_gs rfl rfl (isb_F g21) (evd rfl rfl (ev_gs rfl rfl (isb_F g21) (evd rfl rfl (ev_gr rfl (congrArg V.bool g20) (ev_pkF (c1 := .bool false) rfl g21 rfl rfl (evd rfl rfl (ev_pkF (c1 := .bool false) rfl g20 rfl rfl (evdn ?_)))))))))))))))))))))))))))))))
              exact kspec_IsValidRelation_J2 false h _ ⟨kr, kr, kr, trivial⟩
      · refine ls_cF rfl g8 ?_
        refine ls_exit ?_
        have q0 := (Option.some.inj h).symm
        have r0 := hr1
        rw [q0] at r0
        exact kXspec_IsValidRelation_B1 () r0 _ trivial
def spec_IsValidDatabase_J2 (rec : Int → Option (Sum (Unit) (Bool))) (y1 : Int) (x8 : Bool) : Option (Sum (Unit) (Bool)) := cond x8 (some (.inr false)) (rec (IntKind.i64.wrap (y1 + 1)))
def spec_IsValidDatabase_B1 (a0 : List Y207) (rec : Int → Option (Sum (Unit) (Bool))) (y1 : Int) : Option (Sum (Unit) (Bool)) := cond (decide (y1 < (List.length a0 : Int))) (obind (geti a0 y1) fun e5 => obind (spec_IsValidName e5.1) fun v10 => cond (!v10) (spec_IsValidDatabase_J2 rec y1 true) (cond (decide (0 < y1)) (obind (geti a0 (IntKind.i64.wrap (y1 - 1))) fun e14 => cond (!Op.bytesLess e14.1 e5.1) (spec_IsValidDatabase_J2 rec y1 true) (obind (spec_IsValidRelation e5.2) fun v17 => cond (!v17) (spec_IsValidDatabase_J2 rec y1 true) (cond (decide (16 < (List.length e5.2.2 : Int))) (spec_IsValidDatabase_J2 rec y1 true) (spec_IsValidDatabase_J2 rec y1 (decide (e5.2.1 < 1)))))) (obind (spec_IsValidRelation e5.2) fun v21 => cond (!v21) (spec_IsValidDatabase_J2 rec y1 true) (cond (decide (16 < (List.length e5.2.2 : Int))) (spec_IsValidDatabase_J2 rec y1 true) (spec_IsValidDatabase_J2 rec y1 (decide (e5.2.1 < 1))))))) (some (.inl ()))
def spec_IsValidDatabase (a0 : List Y207) : Option (Bool) := obind (loopF (spec_IsValidDatabase_B1 a0) fz 0) fun o1 => (match o1 with
  | .inl _ => (some (decide ((List.length a0 : Int) ≤ 6)))
  | .inr r => some r)
theorem spec_IsValidDatabase_s {a0 : List Y207} {r : Bool} (h : spec_IsValidDatabase a0 = some r) : SoundAt Try.prog 135 [.agg [dL c208_dd a0]] (.bool r) := by
  unfold spec_IsValidDatabase at h
  refine sound_lit tbOk lit135 (nb rfl) rfl ?_
  unfold c135
  refine ls_keep [(0, .agg [dL c208_dd a0])] ⟨kr, trivial⟩ rfl ?_
  refine ls_rs tbOk ?_
  refine evs (ev_bx (c1 := .agg [dL c208_dd a0]) rfl rfl rfl (evs (ev_ac rfl nofun rfl (evn ?_))))
  refine ls_keep [(1, .box [dL c208_dd a0])] ⟨kr, trivial⟩ rfl ?_
  refine ls_seq_k fun K1 hK1 => ?_
  refine ls_rs tbOk ?_
  refine evs (ev_ac rfl nofun rfl (evn ?_))
  refine ls_keep [(1, .box [dL c208_dd a0]), (3, nI 0)] ⟨kr, kr, trivial⟩ rfl ?_
  obtain ⟨o1, hl, hr1⟩ := ob_some h
  clear h
  have kXspec_IsValidDatabase_B1 : ∀ (_ : Unit), (some (decide ((List.length a0 : Int) ≤ 6))) = some r → ∀ σ' : PS, okK σ' [(1, .box [dL c208_dd a0])] → K1 σ' := by
    intro _ h σ' hk
    refine hK1 _ (ls_keep [(1, .box [dL c208_dd a0])] hk rfl ?_)
    refine ls_rs tbOk ?_
    refine evs (ev_fa (c1 := .cref 1 0) (v := .cref 1 0) rfl rfl rfl ⟨_, rfl⟩ rfl (evs (ev_ldB (off := 0) (v := dL c208_dd a0) rfl rfl rfl rfl (nb rfl) rfl (evs (ev_len (c1 := dL c208_dd a0) rfl rfl rfl (evs (ev_bin (c1 := nI (List.length a0 : Int)) (c2 := nI 6) rfl rfl rfl (evs (ev_as (c := .bool (decide ((List.length a0 : Int) ≤ 6))) rfl rfl rfl (evn ?_))))))))))
    refine ls_keep [(2, .bool (decide ((List.length a0 : Int) ≤ 6)))] ⟨kr, trivial⟩ rfl ?_
    refine ls_ret ?_
    have hr := Option.some.inj h
    rw [← hr]
    exact ⟨.inl rfl, rfl⟩
  refine ls_rec (fun (y1 : Int) => [(1, .box [dL c208_dd a0]), (3, nI y1)]) (spec_IsValidDatabase_B1 a0) fz 0 o1 hl ⟨kr, kr, trivial⟩ (fun _ => rfl) ?_
  rintro m y1 N h hN
  unfold spec_IsValidDatabase_B1 at h
  refine ls_seq_k fun K2 hK2 => ?_
  refine ls_rs tbOk ?_
  refine evs (ev_mv (c := nI y1) rfl rfl rfl (evs (ev_fa (c1 := .cref 1 0) (v := .cref 1 0) rfl rfl rfl ⟨_, rfl⟩ rfl (evs (ev_ldB (off := 0) (v := dL c208_dd a0) rfl rfl rfl rfl (nb rfl) rfl (evs (ev_len (c1 := dL c208_dd a0) rfl rfl rfl (evs (ev_bin (c1 := nI y1) (c2 := nI (List.length a0 : Int)) rfl rfl rfl (evn ?_))))))))))
  refine ls_keep [(1, .box [dL c208_dd a0]), (3, nI y1), (9, .bool (decide (y1 < (List.length a0 : Int))))] ⟨kr, kr, kr, trivial⟩ rfl ?_
  rcases cond_some h with ⟨g3, h⟩ | ⟨g3, h⟩
  · refine ls_cT rfl g3 ?_
    refine ls_skip ?_
    refine hK2 _ (ls_keep [(1, .box [dL c208_dd a0]), (3, nI y1)] ⟨kr, kr, trivial⟩ rfl ?_)
    refine ls_seq_k fun K4 hK4 => ?_
    refine ls_blk ?_
    refine ls_rs tbOk ?_
    refine evs (ev_fa (c1 := .cref 1 0) (v := .cref 1 0) rfl rfl rfl ⟨_, rfl⟩ rfl (evs (ev_ldB (off := 0) (v := dL c208_dd a0) rfl rfl rfl rfl (nb rfl) rfl (evs (ev_mv (c := nI y1) rfl rfl rfl (?_))))))
    obtain ⟨e5, g6, h⟩ := ob_some h
    refine evs (ev_ia rfl rfl rfl ⟨(geti_some g6).1, (geti_some g6).2.1⟩ (evs (ev_ldEt (i := y1) (n := 3) (off := 0) (v := .agg (c208_dd e5)) rfl rfl zc208_dd g6 rfl (nb rfl) rfl (evs (ev_al rfl rfl (evs (ev_st (off := 0) (c1 := .agg (c208_dd e5)) (cs' := [.str e5.1, nI e5.2.1, dL c25_d e5.2.2]) rfl rfl rfl rfl rfl rfl (nb rfl) rfl (evn ?_))))))))
    refine ls_keep [(1, .box [dL c208_dd a0]), (3, nI y1), (4, .box [.str e5.1, nI e5.2.1, dL c25_d e5.2.2])] ⟨kr, kr, kr, trivial⟩ rfl ?_
    refine ls_rd_k tbOk mixed (by kernel_rfl) fun K7 hK7 => ?_
    have kspec_IsValidDatabase_J2 : ∀ (x8 : Bool), spec_IsValidDatabase_J2 (loopF (spec_IsValidDatabase_B1 a0) m) y1 x8 = some o1 → ∀ σ' : PS, okK σ' [(1, .box [dL c208_dd a0]), (3, nI y1), (55, .bool x8)] → K7 σ' := by
      intro x8 h σ' hk
      unfold spec_IsValidDatabase_J2 at h
      refine hK7 _ (ls_keep [(1, .box [dL c208_dd a0]), (3, nI y1), (55, .bool x8)] hk rfl ?_)
      rcases cond_some h with ⟨g9, h⟩ | ⟨g9, h⟩
      · refine ls_cT rfl g9 ?_
        refine ls_rs tbOk ?_
        refine evs (ev_ac rfl nofun rfl (evn ?_))
        refine ls_keep [(2, .bool false)] ⟨kr, trivial⟩ rfl ?_
        refine ls_ret ?_
        have q0 := (Option.some.inj h).symm
        have r0 := hr1
        rw [q0] at r0
        have hr := Option.some.inj r0
        rw [← hr]
        exact ⟨.inl rfl, rfl⟩
      · refine ls_cF rfl g9 ?_
        refine ls_skip ?_
        refine hK4 _ (ls_keep [(1, .box [dL c208_dd a0]), (3, nI y1)] ⟨kr, kr, trivial⟩ rfl ?_)
        refine ls_rgn tbOk ?_
        refine evs (ev_mv (c := nI y1) rfl rfl rfl (evs (ev_bin (c1 := nI y1) (c2 := nI 1) rfl rfl rfl (evs (ev_as (c := nI (IntKind.i64.wrap (y1 + 1))) rfl rfl rfl (evn ?_))))))
        exact hN _ (IntKind.i64.wrap (y1 + 1)) h ⟨kr, kr, trivial⟩
    refine evd rfl rfl (ev_fa (c1 := .cref 4 0) (v := .cref 4 0) rfl rfl rfl ⟨_, rfl⟩ rfl (evd rfl rfl (ev_ldB (off := 0) (v := .str e5.1) rfl rfl rfl rfl (nb rfl) rfl (?_))))
    obtain ⟨v10, g11, h⟩ := ob_some h
    refine evd rfl rfl (ev_call (era rfl rfl eran) (spec_IsValidName_s g11) (evd rfl rfl (ev_un (c1 := .bool v10) rfl trivial (evd rfl rfl (ev_mv (c := .bool (!v10)) rfl rfl rfl (?_))))))
    rcases cond_some h with ⟨g12, h⟩ | ⟨g12, h⟩
    · refine evd rfl rfl (ev_gs rfl rfl (isb_T g12) (evd rfl rfl (ev_gs rfl rfl (isb_T g12) (evd rfl rfl (ev_gs rfl rfl (isb_T g12) (evd rfl rfl (ev_gs rfl rfl rfl (evd rfl rfl (ev_gs rfl rfl rfl (evd rfl rfl (ev_gs rfl rfl rfl (evd rfl rfl (ev_gs rfl rfl rfl (evd rfl rfl (ev_gs rfl rfl rfl (evd rfl rfl (ev_gs rfl rfl rfl (evd rfl rfl (ev_gs rfl rfl rfl (evd rfl rfl (ev_gs rfl rfl rfl (evd rfl rfl (ev_gs rfl rfl rfl (evd rfl rfl (ev_gs rfl rfl rfl (evd rfl rfl (ev_gs rfl rfl (isb_T g12) (evd rfl rfl (ev_pkT (c1 := .bool true) rfl g12 rfl rfl (evd rfl rfl (ev_mv (c := .bool true) rfl rfl rfl (evd rfl rfl (ev_gs rfl rfl rfl (evd rfl rfl (ev_gs rfl rfl rfl (evd rfl rfl (ev_gs rfl rfl rfl (evd rfl rfl (ev_gs rfl rfl rfl (evd rfl rfl (ev_pkT (c1 := .bool true) rfl rfl rfl rfl (evd rfl rfl (ev_mv (c := .bool true) rfl rfl rfl (evd rfl rfl (ev_gs rfl rfl rfl (evd rfl rfl (ev_gs rfl rfl rfl (evd rfl rfl (ev_gs rfl rfl rfl (evd rfl rfl (ev_gs rfl rfl rfl (evd rfl rfl (ev_gs rfl rfl rfl (evd rfl rfl (ev_pkT (c1 := .bool true) rfl rfl rfl rfl (evd rfl rfl (ev_mv (c := .bool true) rfl rfl rfl (evd rfl rfl (ev_gs rfl rfl rfl (evd rfl rfl (ev_gs rfl rfl rfl (evd rfl rfl (ev_gs rfl rfl rfl (evd rfl rfl (ev_gs rfl rfl rfl (evd rfl rfl (ev_pkT (c1 := .bool true) rfl rfl rfl rfl (evdn ?_))))))))))))))))))))))))))))))))))))))))))))))))))))))))))))))))))))
      exact kspec_IsValidDatabase_J2 true h _ ⟨kr, kr, kr, trivial⟩
    · refine evd rfl rfl (ev_gr rfl (congrArg V.bool g12) (ev_mv (c := nI y1) rfl rfl rfl (evd rfl rfl (ev_gr rfl (congrArg V.bool g12) (ev_bin (c1 := nI y1) (c2 := nI 0) rfl rfl rfl (evd rfl rfl (ev_gr rfl (congrArg V.bool g12) (ev_mv (c := .bool (decide (0 < y1))) rfl rfl rfl (?_)))))))))
      rcases cond_some h with ⟨g13, h⟩ | ⟨g13, h⟩
      · refine evd rfl rfl (ev_gr rfl (congrArg V.bool g13) (ev_fa (c1 := .cref 1 0) (v := .cref 1 0) rfl rfl rfl ⟨_, rfl⟩ rfl (evd rfl rfl (ev_gr rfl (congrArg V.bool g13) (ev_ldB (off := 0) (v := dL c208_dd a0) rfl rfl rfl rfl (nb rfl) rfl (evd rfl rfl (ev_gr rfl (congrArg V.bool g13) (ev_mv (c := nI y1) rfl rfl rfl (evd rfl rfl (ev_gr rfl (congrArg V.bool g13) (ev_bin (c1 := nI y1) (c2 := nI 1) rfl rfl rfl (?_))))))))))))
        obtain ⟨e14, g15, h⟩ := ob_some h
        refine evd rfl rfl (ev_gr rfl (congrArg V.bool g13) (ev_ia rfl rfl rfl ⟨(geti_some g15).1, (geti_some g15).2.1⟩ (evd rfl rfl (ev_gr rfl (congrArg V.bool g13) (ev_fa (c1 := .adr (a0.flatMap c208_dd) (Int.toNat (IntKind.i64.wrap (y1 - 1)) * 3)) (v := .adr (a0.flatMap c208_dd) (Int.toNat (IntKind.i64.wrap (y1 - 1)) * 3)) rfl rfl rfl trivial rfl (evd rfl rfl (ev_gr rfl (congrArg V.bool g13) (ev_ldE (i := (IntKind.i64.wrap (y1 - 1))) (n := 3) (off := 0) (v := .str e14.1) rfl rfl zc208_dd g15 rfl (nb rfl) rfl (evd rfl rfl (ev_gr rfl (congrArg V.bool g13) (ev_fa (c1 := .cref 4 0) (v := .cref 4 0) rfl rfl rfl ⟨_, rfl⟩ rfl (evd rfl rfl (ev_gr rfl (congrArg V.bool g13) (ev_ldB (off := 0) (v := .str e5.1) rfl rfl rfl rfl (nb rfl) rfl (evd rfl rfl (ev_gr rfl (congrArg V.bool g13) (ev_bin (c1 := .str e14.1) (c2 := .str e5.1) rfl rfl trivial (evd rfl rfl (ev_gr rfl (congrArg V.bool g12) (ev_pkT (c1 := .bool (!Op.bytesLess e14.1 e5.1)) rfl g13 rfl rfl (evd rfl rfl (ev_pkF (c1 := .bool (!Op.bytesLess e14.1 e5.1)) rfl g12 rfl rfl (evd rfl rfl (ev_mv (c := .bool (!Op.bytesLess e14.1 e5.1)) rfl rfl rfl (?_)))))))))))))))))))))))))
        rcases cond_some h with ⟨g16, h⟩ | ⟨g16, h⟩
        · refine evd rfl rfl (ev_gs rfl rfl (isb_T g16) (evd rfl rfl (ev_gs rfl rfl (isb_T g16) (evd rfl rfl (ev_gs rfl rfl (isb_T g16) (evd rfl rfl (ev_gs rfl rfl (isb_T g16) (evd rfl rfl (ev_pkT (c1 := .bool true) rfl g16 rfl rfl (evd rfl rfl (ev_mv (c := .bool true) rfl rfl rfl (evd rfl rfl (ev_gs rfl rfl rfl (evd rfl rfl (ev_gs rfl rfl rfl (evd rfl rfl (ev_gs rfl rfl rfl (evd rfl rfl (ev_gs rfl rfl rfl (evd rfl rfl (ev_gs rfl rfl rfl (evd rfl rfl (ev_pkT (c1 := .bool true) rfl rfl rfl rfl (evd rfl rfl (ev_mv (c := .bool true) rfl rfl rfl (evd rfl rfl (ev_gs rfl rfl rfl (evd rfl rfl (ev_gs rfl rfl rfl (evd rfl rfl (ev_gs rfl rfl rfl (evd rfl rfl (ev_gs rfl rfl rfl (evd rfl rfl (ev_pkT (c1 := .bool true) rfl rfl rfl rfl (evdn ?_))))))))))))))))))))))))))))))))))))
          exact kspec_IsValidDatabase_J2 true h _ ⟨kr, kr, kr, trivial⟩
        · refine evd rfl rfl (ev_gr rfl (congrArg V.bool g16) (ev_fa (c1 := .cref 4 0) (v := .cref 4 1) rfl rfl rfl ⟨_, rfl⟩ rfl (evd rfl rfl (ev_gr rfl (congrArg V.bool g16) (ev_ldB (off := 1) (v := .agg (c128_dd e5.2)) rfl rfl rfl rfl (nb rfl) rfl (?_))))))
          obtain ⟨v17, g18, h⟩ := ob_some h
          refine evd rfl rfl (ev_gr rfl (congrArg V.bool g16) (ev_call (era rfl (erg (erc rfl (erc (erD ec25_d _) rfl))) eran) (spec_IsValidRelation_s g18) (evd rfl rfl (ev_gr rfl (congrArg V.bool g16) (ev_un (c1 := .bool v17) rfl trivial (evd rfl rfl (ev_pkF (c1 := .bool (!v17)) rfl g16 rfl rfl (evd rfl rfl (ev_mv (c := .bool (!v17)) rfl rfl rfl (?_))))))))))
          rcases cond_some h with ⟨g19, h⟩ | ⟨g19, h⟩
          · refine evd rfl rfl (ev_gs rfl rfl (isb_T g19) (evd rfl rfl (ev_gs rfl rfl (isb_T g19) (evd rfl rfl (ev_gs rfl rfl (isb_T g19) (evd rfl rfl (ev_gs rfl rfl (isb_T g19) (evd rfl rfl (ev_gs rfl rfl (isb_T g19) (evd rfl rfl (ev_pkT (c1 := .bool true) rfl g19 rfl rfl (evd rfl rfl (ev_mv (c := .bool true) rfl rfl rfl (evd rfl rfl (ev_gs rfl rfl rfl (evd rfl rfl (ev_gs rfl rfl rfl (evd rfl rfl (ev_gs rfl rfl rfl (evd rfl rfl (ev_gs rfl rfl rfl (evd rfl rfl (ev_pkT (c1 := .bool true) rfl rfl rfl rfl (evdn ?_))))))))))))))))))))))))
            exact kspec_IsValidDatabase_J2 true h _ ⟨kr, kr, kr, trivial⟩
          · refine evd rfl rfl (ev_gr rfl (congrArg V.bool g19) (ev_fa (c1 := .cref 4 0) (v := .cref 4 1) rfl rfl rfl ⟨_, rfl⟩ rfl (evd rfl rfl (ev_gr rfl (congrArg V.bool g19) (ev_fa (c1 := .cref 4 1) (v := .cref 4 2) rfl rfl rfl ⟨_, rfl⟩ rfl (evd rfl rfl (ev_gr rfl (congrArg V.bool g19) (ev_ldB (off := 2) (v := dL c25_d e5.2.2) rfl rfl rfl rfl (nb rfl) rfl (evd rfl rfl (ev_gr rfl (congrArg V.bool g19) (ev_len (c1 := dL c25_d e5.2.2) rfl rfl rfl (evd rfl rfl (ev_gr rfl (congrArg V.bool g19) (ev_bin (c1 := nI (List.length e5.2.2 : Int)) (c2 := nI 16) rfl rfl rfl (evd rfl rfl (ev_pkF (c1 := .bool (decide (16 < (List.length e5.2.2 : Int)))) rfl g19 rfl rfl (evd rfl rfl (ev_mv (c := .bool (decide (16 < (List.length e5.2.2 : Int)))) rfl rfl rfl (?_)))))))))))))))))))
            rcases cond_some h with ⟨g20, h⟩ | ⟨g20, h⟩
            · refine evd rfl rfl (ev_gs rfl rfl (isb_T g20) (evd rfl rfl (ev_gs rfl rfl (isb_T g20) (evd rfl rfl (ev_gs rfl rfl (isb_T g20) (evd rfl rfl (ev_gs rfl rfl (isb_T g20) (evd rfl rfl (ev_pkT (c1 := .bool true) rfl g20 rfl rfl (evdn ?_))))))))))
              exact kspec_IsValidDatabase_J2 true h _ ⟨kr, kr, kr, trivial⟩
            · refine evd rfl rfl (ev_gr rfl (congrArg V.bool g20) (ev_fa (c1 := .cref 4 0) (v := .cref 4 1) rfl rfl rfl ⟨_, rfl⟩ rfl (evd rfl rfl (ev_gr rfl (congrArg V.bool g20) (ev_fa (c1 := .cref 4 1) (v := .cref 4 1) rfl rfl rfl ⟨_, rfl⟩ rfl (evd rfl rfl (ev_gr rfl (congrArg V.bool g20) (ev_ldB (off := 1) (v := nI e5.2.1) rfl rfl rfl rfl (nb rfl) rfl (evd rfl rfl (ev_gr rfl (congrArg V.bool g20) (ev_bin (c1 := nI e5.2.1) (c2 := nI 1) rfl rfl rfl (evd rfl rfl (ev_pkF (c1 := .bool (decide (e5.2.1 < 1))) rfl g20 rfl rfl (evdn ?_))))))))))))))
              exact kspec_IsValidDatabase_J2 (decide (e5.2.1 < 1)) h _ ⟨kr, kr, kr, trivial⟩
      · refine evd rfl rfl (ev_gs rfl rfl (isb_F g13) (evd rfl rfl (ev_gs rfl rfl (isb_F g13) (evd rfl rfl (ev_gs rfl rfl (isb_F g13) (evd rfl rfl (ev_gs rfl rfl (isb_F g13) (evd rfl rfl (ev_gs rfl rfl (isb_F g13) (evd rfl rfl (ev_gs rfl rfl (isb_F g13) (evd rfl rfl (ev_gs rfl rfl (isb_F g13) (evd rfl rfl (ev_gs rfl rfl (isb_F g13) (evd rfl rfl (ev_gs rfl rfl (isb_F g13) (evd rfl rfl (ev_gs rfl rfl (isb_F g13) (evd rfl rfl (ev_gr rfl (congrArg V.bool g12) (ev_pkF (c1 := .bool false) rfl g13 rfl rfl (evd rfl rfl (ev_pkF (c1 := .bool false) rfl g12 rfl rfl (evd rfl rfl (ev_mv (c := .bool false) rfl rfl rfl (evd rfl rfl (ev_gr rfl rfl (ev_fa (c1 := .cref 4 0) (v := .cref 4 1) rfl rfl rfl ⟨_, rfl⟩ rfl (evd rfl rfl (ev_gr rfl rfl (ev_ldB (off := 1) (v := .agg (c128_dd e5.2)) rfl rfl rfl rfl (nb rfl) rfl (?_)))))))))))))))))))))))))))))))))
        obtain ⟨v21, g22, h⟩ := ob_some h
        refine evd rfl rfl (ev_gr rfl rfl (ev_call (era rfl (erg (erc rfl (erc (erD ec25_d _) rfl))) eran) (spec_IsValidRelation_s g22) (evd rfl rfl (ev_gr rfl rfl (ev_un (c1 := .bool v21) rfl trivial (evd rfl rfl (ev_pkF (c1 := .bool (!v21)) rfl rfl rfl rfl (evd rfl rfl (ev_mv (c := .bool (!v21)) rfl rfl rfl (?_))))))))))
        rcases cond_some h with ⟨g23, h⟩ | ⟨g23, h⟩
        · refine evd rfl rfl (ev_gs rfl rfl (isb_T g23) (evd rfl rfl (ev_gs rfl rfl (isb_T g23) (evd rfl rfl (ev_gs rfl rfl (isb_T g23) (evd rfl rfl (ev_gs rfl rfl (isb_T g23) (evd rfl rfl (ev_gs rfl rfl (isb_T g23) (evd rfl rfl (ev_pkT (c1 := .bool true) rfl g23 rfl rfl (evd rfl rfl (ev_mv (c := .bool true) rfl rfl rfl (evd rfl rfl (ev_gs rfl rfl rfl (evd rfl rfl (ev_gs rfl rfl rfl (evd rfl rfl (ev_gs rfl rfl rfl (evd rfl rfl (ev_gs rfl rfl rfl (evd rfl rfl (ev_pkT (c1 := .bool true) rfl rfl rfl rfl (evdn ?_))))))))))))))))))))))))
          exact kspec_IsValidDatabase_J2 true h _ ⟨kr, kr, kr, trivial⟩
        · refine evd rfl rfl (ev_gr rfl (congrArg V.bool g23) (ev_fa (c1 := .cref 4 0) (v := .cref 4 1) rfl rfl rfl ⟨_, rfl⟩ rfl (evd rfl rfl (ev_gr rfl (congrArg V.bool g23) (ev_fa (c1 := .cref 4 1) (v := .cref 4 2) rfl rfl rfl ⟨_, rfl⟩ rfl (evd rfl rfl (ev_gr rfl (congrArg V.bool g23) (ev_ldB (off := 2) (v := dL c25_d e5.2.2) rfl rfl rfl rfl (nb rfl) rfl (evd rfl rfl (ev_gr rfl (congrArg V.bool g23) (ev_len (c1 := dL c25_d e5.2.2) rfl rfl rfl (evd rfl rfl (ev_gr rfl (congrArg V.bool g23) (ev_bin (c1 := nI (List.length e5.2.2 : Int)) (c2 := nI 16) rfl rfl rfl (evd rfl rfl (ev_pkF (c1 := .bool (decide (16 < (List.length e5.2.2 : Int)))) rfl g23 rfl rfl (evd rfl rfl (ev_mv (c := .bool (decide (16 < (List.length e5.2.2 : Int)))) rfl rfl rfl (?_)))))))))))))))))))
          rcases cond_some h with ⟨g24, h⟩ | ⟨g24, h⟩
          · refine evd rfl rfl (ev_gs rfl rfl (isb_T g24) (evd rfl rfl (ev_gs rfl rfl (isb_T g24) (evd rfl rfl (ev_gs rfl rfl (isb_T g24) (evd rfl rfl (ev_gs rfl rfl (isb_T g24) (evd rfl rfl (ev_pkT (c1 := .bool true) rfl g24 rfl rfl (evdn ?_))))))))))
            exact kspec_IsValidDatabase_J2 true h _ ⟨kr, kr, kr, trivial⟩
          · refine evd rfl rfl (ev_gr rfl (congrArg V.bool g24) (ev_fa (c1 := .cref 4 0) (v := .cref 4 1) rfl rfl rfl ⟨_, rfl⟩ rfl (evd rfl rfl (ev_gr rfl (congrArg V.bool g24) (ev_fa (c1 := .cref 4 1) (v := .cref 4 1) rfl rfl rfl ⟨_, rfl⟩ rfl (evd rfl rfl (ev_gr rfl (congrArg V.bool g24) (ev_ldB (off := 1) (v := nI e5.2.1) rfl rfl rfl rfl (nb rfl) rfl (evd rfl rfl (ev_gr rfl (congrArg V.bool g24) (ev_bin (c1 := nI e5.2.1) (c2 := nI 1) rfl rfl rfl (evd rfl rfl (ev_pkF (c1 := .bool (decide (e5.2.1 < 1))) rfl g24 rfl rfl (evdn ?_))))))))))))))
            exact kspec_IsValidDatabase_J2 (decide (e5.2.1 < 1)) h _ ⟨kr, kr, kr, trivial⟩
  · refine ls_cF rfl g3 ?_
    refine ls_exit ?_
    have q0 := (Option.some.inj h).symm
    have r0 := hr1
    rw [q0] at r0
    exact kXspec_IsValidDatabase_B1 () r0 _ ⟨kr, trivial⟩
def spec_IsValidHistory_B1 (a0 : Y51) (rec : Int → Option (Sum (Unit) (Bool))) (y1 : Int) : Option (Sum (Unit) (Bool)) := cond (decide (y1 < (List.length a0.2 : Int))) (obind (geti a0.2 y1) fun e5 => obind (spec_IsValidDatabase e5) fun v7 => cond (!v7) (some (.inr false)) (rec (IntKind.i64.wrap (y1 + 1)))) (some (.inl ()))
def spec_IsValidHistory_J2 (x11 : Bool) : Option (Bool) := some x11
def spec_IsValidHistory (a0 : Y51) : Option (Bool) := obind (loopF (spec_IsValidHistory_B1 a0) fz 0) fun o1 => (match o1 with
  | .inl _ => (obind (spec_l1In (List.length a0.2 : Int) 1 6) fun v12 => cond v12 (obind (spec_l1In a0.1 1 (IntKind.i64.wrap ((IntKind.i64.wrap (99 - (List.length a0.2 : Int))) + 1))) fun v15 => spec_IsValidHistory_J2 v15) (spec_IsValidHistory_J2 false))
  | .inr r => some r)
theorem spec_IsValidHistory_s {a0 : Y51} {r : Bool} (h : spec_IsValidHistory a0 = some r) : SoundAt Try.prog 85 [.agg (c52_dddd a0)] (.bool r) := by
  unfold spec_IsValidHistory at h
  refine sound_lit tbOk lit85 (nb rfl) rfl ?_
  unfold c85
  refine ls_keep [(0, .agg (c52_dddd a0))] ⟨kr, trivial⟩ rfl ?_
  refine ls_rs tbOk ?_
  refine evs (ev_bx (c1 := .agg (c52_dddd a0)) rfl rfl rfl (evs (ev_ac rfl nofun rfl (evn ?_))))
  refine ls_keep [(1, .box [nI a0.1, dL c33_ddd a0.2])] ⟨kr, trivial⟩ rfl ?_
  refine ls_seq_k fun K1 hK1 => ?_
  refine ls_rs tbOk ?_
  refine evs (ev_ac rfl nofun rfl (evn ?_))
  refine ls_keep [(1, .box [nI a0.1, dL c33_ddd a0.2]), (3, nI 0)] ⟨kr, kr, trivial⟩ rfl ?_
  obtain ⟨o1, hl, hr1⟩ := ob_some h
  clear h
  have kXspec_IsValidHistory_B1 : ∀ (_ : Unit), (obind (spec_l1In (List.length a0.2 : Int) 1 6) fun v12 => cond v12 (obind (spec_l1In a0.1 1 (IntKind.i64.wrap ((IntKind.i64.wrap (99 - (List.length a0.2 : Int))) + 1))) fun v15 => spec_IsValidHistory_J2 v15) (spec_IsValidHistory_J2 false)) = some r → ∀ σ' : PS, okK σ' [(1, .box [nI a0.1, dL c33_ddd a0.2])] → K1 σ' := by
    intro _ h σ' hk
    refine hK1 _ (ls_keep [(1, .box [nI a0.1, dL c33_ddd a0.2])] hk rfl ?_)
    refine ls_rs_k tbOk fun K10 hK10 => ?_
    have kspec_IsValidHistory_J2 : ∀ (x11 : Bool), spec_IsValidHistory_J2 x11 = some r → ∀ σ' : PS, okK σ' [(2, .bool x11)] → K10 σ' := by
      intro x11 h σ' hk
      unfold spec_IsValidHistory_J2 at h
      refine hK10 _ (ls_keep [(2, .bool x11)] hk rfl ?_)
      refine ls_ret ?_
      have hr := Option.some.inj h
      rw [← hr]
      exact ⟨.inl rfl, rfl⟩
    refine evs (ev_fa (c1 := .cref 1 0) (v := .cref 1 1) rfl rfl rfl ⟨_, rfl⟩ rfl (evs (ev_ldB (off := 1) (v := dL c33_ddd a0.2) rfl rfl rfl rfl (nb rfl) rfl (evs (ev_len (c1 := dL c33_ddd a0.2) rfl rfl rfl (?_))))))
    obtain ⟨v12, g13, h⟩ := ob_some h
    refine evs (ev_call (era rfl rfl (era rfl rfl (era rfl rfl eran))) (spec_l1In_s g13) (evs (ev_mv (c := .bool v12) rfl rfl rfl (?_))))
    rcases cond_some h with ⟨g14, h⟩ | ⟨g14, h⟩
    · refine evs (ev_gr rfl (congrArg V.bool g14) (ev_fa (c1 := .cref 1 0) (v := .cref 1 0) rfl rfl rfl ⟨_, rfl⟩ rfl (evs (ev_gr rfl (congrArg V.bool g14) (ev_ldB (off := 0) (v := nI a0.1) rfl rfl rfl rfl (nb rfl) rfl (evs (ev_gr rfl (congrArg V.bool g14) (ev_fa (c1 := .cref 1 0) (v := .cref 1 1) rfl rfl rfl ⟨_, rfl⟩ rfl (evs (ev_gr rfl (congrArg V.bool g14) (ev_ldB (off := 1) (v := dL c33_ddd a0.2) rfl rfl rfl rfl (nb rfl) rfl (evs (ev_gr rfl (congrArg V.bool g14) (ev_len (c1 := dL c33_ddd a0.2) rfl rfl rfl (evs (ev_gr rfl (congrArg V.bool g14) (ev_bin (c1 := nI 99) (c2 := nI (List.length a0.2 : Int)) rfl rfl rfl (evs (ev_gr rfl (congrArg V.bool g14) (ev_bin (c1 := nI (IntKind.i64.wrap (99 - (List.length a0.2 : Int)))) (c2 := nI 1) rfl rfl rfl (?_)))))))))))))))))))))
      obtain ⟨v15, g16, h⟩ := ob_some h
      refine evs (ev_gr rfl (congrArg V.bool g14) (ev_call (era rfl rfl (era rfl rfl (era rfl rfl eran))) (spec_l1In_s g16) (evs (ev_pkT (c1 := .bool v15) rfl g14 rfl rfl (evs (ev_as (c := .bool v15) rfl rfl rfl (evn ?_)))))))
      exact kspec_IsValidHistory_J2 v15 h _ ⟨kr, trivial⟩
    · refine evs (ev_gs rfl rfl (isb_F g14) (evs (ev_gs rfl rfl (isb_F g14) (evs (ev_gs rfl rfl (isb_F g14) (evs (ev_gs rfl rfl (isb_F g14) (evs (ev_gs rfl rfl (isb_F g14) (evs (ev_gs rfl rfl (isb_F g14) (evs (ev_gs rfl rfl (isb_F g14) (evs (ev_gs rfl rfl (isb_F g14) (evs (ev_pkF (c1 := .bool false) rfl g14 rfl rfl (evs (ev_as (c := .bool false) rfl rfl rfl (evn ?_))))))))))))))))))))
      exact kspec_IsValidHistory_J2 false h _ ⟨kr, trivial⟩
  refine ls_rec (fun (y1 : Int) => [(1, .box [nI a0.1, dL c33_ddd a0.2]), (3, nI y1)]) (spec_IsValidHistory_B1 a0) fz 0 o1 hl ⟨kr, kr, trivial⟩ (fun _ => rfl) ?_
  rintro m y1 N h hN
  unfold spec_IsValidHistory_B1 at h
  refine ls_seq_k fun K2 hK2 => ?_
  refine ls_rs tbOk ?_
  refine evs (ev_mv (c := nI y1) rfl rfl rfl (evs (ev_fa (c1 := .cref 1 0) (v := .cref 1 1) rfl rfl rfl ⟨_, rfl⟩ rfl (evs (ev_ldB (off := 1) (v := dL c33_ddd a0.2) rfl rfl rfl rfl (nb rfl) rfl (evs (ev_len (c1 := dL c33_ddd a0.2) rfl rfl rfl (evs (ev_bin (c1 := nI y1) (c2 := nI (List.length a0.2 : Int)) rfl rfl rfl (evn ?_))))))))))
  refine ls_keep [(1, .box [nI a0.1, dL c33_ddd a0.2]), (3, nI y1), (8, .bool (decide (y1 < (List.length a0.2 : Int))))] ⟨kr, kr, kr, trivial⟩ rfl ?_
  rcases cond_some h with ⟨g3, h⟩ | ⟨g3, h⟩
  · refine ls_cT rfl g3 ?_
    refine ls_skip ?_
    refine hK2 _ (ls_keep [(1, .box [nI a0.1, dL c33_ddd a0.2]), (3, nI y1)] ⟨kr, kr, trivial⟩ rfl ?_)
    refine ls_seq_k fun K4 hK4 => ?_
    refine ls_blk ?_
    refine ls_rs tbOk ?_
    refine evs (ev_fa (c1 := .cref 1 0) (v := .cref 1 1) rfl rfl rfl ⟨_, rfl⟩ rfl (evs (ev_ldB (off := 1) (v := dL c33_ddd a0.2) rfl rfl rfl rfl (nb rfl) rfl (evs (ev_mv (c := nI y1) rfl rfl rfl (?_))))))
    obtain ⟨e5, g6, h⟩ := ob_some h
    refine evs (ev_ia rfl rfl rfl ⟨(geti_some g6).1, (geti_some g6).2.1⟩ (evs (ev_ldE (i := y1) (n := 1) (off := 0) (v := .agg [dL c208_dd e5]) rfl rfl zc33_ddd g6 rfl (nb rfl) rfl (?_))))
    obtain ⟨v7, g8, h⟩ := ob_some h
    refine evs (ev_call (era rfl (erg (erc (erD ec208_dd _) rfl)) eran) (spec_IsValidDatabase_s g8) (evs (ev_un (c1 := .bool v7) rfl trivial (evn ?_))))
    refine ls_keep [(1, .box [nI a0.1, dL c33_ddd a0.2]), (3, nI y1), (17, .bool (!v7))] ⟨kr, kr, kr, trivial⟩ rfl ?_
    rcases cond_some h with ⟨g9, h⟩ | ⟨g9, h⟩
    · refine ls_cT rfl g9 ?_
      refine ls_rs tbOk ?_
      refine evs (ev_ac rfl nofun rfl (evn ?_))
      refine ls_keep [(2, .bool false)] ⟨kr, trivial⟩ rfl ?_
      refine ls_ret ?_
      have q0 := (Option.some.inj h).symm
      have r0 := hr1
      rw [q0] at r0
      have hr := Option.some.inj r0
      rw [← hr]
      exact ⟨.inl rfl, rfl⟩
    · refine ls_cF rfl g9 ?_
      refine ls_skip ?_
      refine hK4 _ (ls_keep [(1, .box [nI a0.1, dL c33_ddd a0.2]), (3, nI y1)] ⟨kr, kr, trivial⟩ rfl ?_)
      refine ls_rgn tbOk ?_
      refine evs (ev_mv (c := nI y1) rfl rfl rfl (evs (ev_bin (c1 := nI y1) (c2 := nI 1) rfl rfl rfl (evs (ev_as (c := nI (IntKind.i64.wrap (y1 + 1))) rfl rfl rfl (evn ?_))))))
      exact hN _ (IntKind.i64.wrap (y1 + 1)) h ⟨kr, kr, trivial⟩
  · refine ls_cF rfl g3 ?_
    refine ls_exit ?_
    have q0 := (Option.some.inj h).symm
    have r0 := hr1
    rw [q0] at r0
    exact kXspec_IsValidHistory_B1 () r0 _ ⟨kr, trivial⟩
def spec_ContainsVariable_B1 (a0 : Y194) (a1 : Int) (rec : Int → Option (Sum (Unit) (Bool))) (y1 : Int) : Option (Sum (Unit) (Bool)) := cond (decide (y1 < (List.length a0.2 : Int))) (obind (geti a0.2 y1) fun e5 => cond (e5 == a1) (some (.inr true)) (rec (IntKind.i64.wrap (y1 + 1)))) (some (.inl ()))
def spec_ContainsVariable (a0 : Y194) (a1 : Int) : Option (Bool) := obind (loopF (spec_ContainsVariable_B1 a0 a1) fz 0) fun o1 => (match o1 with
  | .inl _ => (some false)
  | .inr r => some r)
theorem spec_ContainsVariable_s {a0 : Y194} {a1 : Int} {r : Bool} (h : spec_ContainsVariable a0 a1 = some r) : SoundAt Try.prog 157 [.agg (c195_d a0), nI a1] (.bool r) := by
  unfold spec_ContainsVariable at h
  refine sound_lit tbOk lit157 (nb rfl) rfl ?_
  unfold c157
  refine ls_keep [(0, .agg (c195_d a0)), (1, nI a1)] ⟨kr, kr, trivial⟩ rfl ?_
  refine ls_rs tbOk ?_
  refine evs (ev_bx (c1 := .agg (c195_d a0)) rfl rfl rfl (evs (ev_ac rfl nofun rfl (evn ?_))))
  refine ls_keep [(1, nI a1), (2, .box [.str a0.1, dL ci64 a0.2])] ⟨kr, kr, trivial⟩ rfl ?_
  refine ls_seq_k fun K1 hK1 => ?_
  refine ls_rs tbOk ?_
  refine evs (ev_ac rfl nofun rfl (evn ?_))
  refine ls_keep [(1, nI a1), (2, .box [.str a0.1, dL ci64 a0.2]), (5, nI 0)] ⟨kr, kr, kr, trivial⟩ rfl ?_
  obtain ⟨o1, hl, hr1⟩ := ob_some h
  clear h
  have kXspec_ContainsVariable_B1 : ∀ (_ : Unit), (some false) = some r → ∀ σ' : PS, okK σ' [] → K1 σ' := by
    intro _ h σ' hk
    refine hK1 _ (ls_keep [] hk rfl ?_)
    refine ls_rs tbOk ?_
    refine evs (ev_ac rfl nofun rfl (evn ?_))
    refine ls_keep [(4, .bool false)] ⟨kr, trivial⟩ rfl ?_
    refine ls_ret ?_
    have hr := Option.some.inj h
    rw [← hr]
    exact ⟨.inl rfl, rfl⟩
  refine ls_rec (fun (y1 : Int) => [(1, nI a1), (2, .box [.str a0.1, dL ci64 a0.2]), (5, nI y1)]) (spec_ContainsVariable_B1 a0 a1) fz 0 o1 hl ⟨kr, kr, kr, trivial⟩ (fun _ => rfl) ?_
  rintro m y1 N h hN
  unfold spec_ContainsVariable_B1 at h
  refine ls_seq_k fun K2 hK2 => ?_
  refine ls_rs tbOk ?_
  refine evs (ev_mv (c := nI y1) rfl rfl rfl (evs (ev_fa (c1 := .cref 2 0) (v := .cref 2 1) rfl rfl rfl ⟨_, rfl⟩ rfl (evs (ev_ldB (off := 1) (v := dL ci64 a0.2) rfl rfl rfl rfl (nb rfl) rfl (evs (ev_len (c1 := dL ci64 a0.2) rfl rfl rfl (evs (ev_bin (c1 := nI y1) (c2 := nI (List.length a0.2 : Int)) rfl rfl rfl (evn ?_))))))))))
  refine ls_keep [(1, nI a1), (2, .box [.str a0.1, dL ci64 a0.2]), (5, nI y1), (10, .bool (decide (y1 < (List.length a0.2 : Int))))] ⟨kr, kr, kr, kr, trivial⟩ rfl ?_
  rcases cond_some h with ⟨g3, h⟩ | ⟨g3, h⟩
  · refine ls_cT rfl g3 ?_
    refine ls_skip ?_
    refine hK2 _ (ls_keep [(1, nI a1), (2, .box [.str a0.1, dL ci64 a0.2]), (5, nI y1)] ⟨kr, kr, kr, trivial⟩ rfl ?_)
    refine ls_seq_k fun K4 hK4 => ?_
    refine ls_blk ?_
    refine ls_rs tbOk ?_
    refine evs (ev_fa (c1 := .cref 2 0) (v := .cref 2 1) rfl rfl rfl ⟨_, rfl⟩ rfl (evs (ev_ldB (off := 1) (v := dL ci64 a0.2) rfl rfl rfl rfl (nb rfl) rfl (evs (ev_mv (c := nI y1) rfl rfl rfl (?_))))))
    obtain ⟨e5, g6, h⟩ := ob_some h
    refine evs (ev_ia rfl rfl rfl ⟨(geti_some g6).1, (geti_some g6).2.1⟩ (evs (ev_ldE (i := y1) (n := 1) (off := 0) (v := nI e5) rfl rfl zci64 g6 rfl (nb rfl) rfl (evs (ev_mv (c := nI a1) rfl rfl rfl (evs (ev_bin (c1 := nI e5) (c2 := nI a1) rfl rfl rfl (evn ?_))))))))
    refine ls_keep [(1, nI a1), (2, .box [.str a0.1, dL ci64 a0.2]), (5, nI y1), (19, .bool (e5 == a1))] ⟨kr, kr, kr, kr, trivial⟩ rfl ?_
    rcases cond_some h with ⟨g7, h⟩ | ⟨g7, h⟩
    · refine ls_cT rfl g7 ?_
      refine ls_rs tbOk ?_
      refine evs (ev_ac rfl nofun rfl (evn ?_))
      refine ls_keep [(4, .bool true)] ⟨kr, trivial⟩ rfl ?_
      refine ls_ret ?_
      have q0 := (Option.some.inj h).symm
      have r0 := hr1
      rw [q0] at r0
      have hr := Option.some.inj r0
      rw [← hr]
      exact ⟨.inl rfl, rfl⟩
    · refine ls_cF rfl g7 ?_
      refine ls_skip ?_
      refine hK4 _ (ls_keep [(1, nI a1), (2, .box [.str a0.1, dL ci64 a0.2]), (5, nI y1)] ⟨kr, kr, kr, trivial⟩ rfl ?_)
      refine ls_rgn tbOk ?_
      refine evs (ev_mv (c := nI y1) rfl rfl rfl (evs (ev_bin (c1 := nI y1) (c2 := nI 1) rfl rfl rfl (evs (ev_as (c := nI (IntKind.i64.wrap (y1 + 1))) rfl rfl rfl (evn ?_))))))
      exact hN _ (IntKind.i64.wrap (y1 + 1)) h ⟨kr, kr, kr, trivial⟩
  · refine ls_cF rfl g3 ?_
    refine ls_exit ?_
    have q0 := (Option.some.inj h).symm
    have r0 := hr1
    rw [q0] at r0
    exact kXspec_ContainsVariable_B1 () r0 _ trivial
def spec_l7Find_B1 (a0 : List Int) (a1 : Int) (rec : Int → Option (Sum (Unit) (Int))) (y1 : Int) : Option (Sum (Unit) (Int)) := cond (decide (y1 < (List.length a0 : Int))) (obind (geti a0 y1) fun e5 => cond (e5 == a1) (some (.inr y1)) (rec (IntKind.i64.wrap (y1 + 1)))) (some (.inl ()))
def spec_l7Find (a0 : List Int) (a1 : Int) : Option (Int) := obind (loopF (spec_l7Find_B1 a0 a1) fz 0) fun o1 => (match o1 with
  | .inl _ => (some (-1))
  | .inr r => some r)
theorem spec_l7Find_s {a0 : List Int} {a1 : Int} {r : Int} (h : spec_l7Find a0 a1 = some r) : SoundAt Try.prog 205 [dL ci64 a0, nI a1] (nI r) := by
  unfold spec_l7Find at h
  refine sound_lit tbOk lit205 (nb rfl) rfl ?_
  unfold c205
  refine ls_keep [(0, dL ci64 a0), (1, nI a1)] ⟨kr, kr, trivial⟩ rfl ?_
  refine ls_rs tbOk ?_
  refine evs (ev_ac rfl nofun rfl (evn ?_))
  refine ls_keep [(0, dL ci64 a0), (1, nI a1)] ⟨kr, kr, trivial⟩ rfl ?_
  refine ls_seq_k fun K1 hK1 => ?_
  refine ls_rs tbOk ?_
  refine evs (ev_ac rfl nofun rfl (evn ?_))
  refine ls_keep [(0, dL ci64 a0), (1, nI a1), (5, nI 0)] ⟨kr, kr, kr, trivial⟩ rfl ?_
  obtain ⟨o1, hl, hr1⟩ := ob_some h
  clear h
  have kXspec_l7Find_B1 : ∀ (_ : Unit), (some (-1)) = some r → ∀ σ' : PS, okK σ' [] → K1 σ' := by
    intro _ h σ' hk
    refine hK1 _ (ls_keep [] hk rfl ?_)
    refine ls_rs tbOk ?_
    refine evs (ev_ac rfl nofun rfl (evn ?_))
    refine ls_keep [(4, nI (-1))] ⟨kr, trivial⟩ rfl ?_
    refine ls_ret ?_
    have hr := Option.some.inj h
    rw [← hr]
    exact ⟨.inl rfl, rfl⟩
  refine ls_rec (fun (y1 : Int) => [(0, dL ci64 a0), (1, nI a1), (5, nI y1)]) (spec_l7Find_B1 a0 a1) fz 0 o1 hl ⟨kr, kr, kr, trivial⟩ (fun _ => rfl) ?_
  rintro m y1 N h hN
  unfold spec_l7Find_B1 at h
  refine ls_seq_k fun K2 hK2 => ?_
  refine ls_rs tbOk ?_
  refine evs (ev_mv (c := nI y1) rfl rfl rfl (evs (ev_mv (c := dL ci64 a0) rfl rfl rfl (evs (ev_len (c1 := dL ci64 a0) rfl rfl rfl (evs (ev_bin (c1 := nI y1) (c2 := nI (List.length a0 : Int)) rfl rfl rfl (evn ?_))))))))
  refine ls_keep [(0, dL ci64 a0), (1, nI a1), (5, nI y1), (9, .bool (decide (y1 < (List.length a0 : Int))))] ⟨kr, kr, kr, kr, trivial⟩ rfl ?_
  rcases cond_some h with ⟨g3, h⟩ | ⟨g3, h⟩
  · refine ls_cT rfl g3 ?_
    refine ls_skip ?_
    refine hK2 _ (ls_keep [(0, dL ci64 a0), (1, nI a1), (5, nI y1)] ⟨kr, kr, kr, trivial⟩ rfl ?_)
    refine ls_seq_k fun K4 hK4 => ?_
    refine ls_blk ?_
    refine ls_rs tbOk ?_
    refine evs (ev_mv (c := dL ci64 a0) rfl rfl rfl (evs (ev_mv (c := nI y1) rfl rfl rfl (?_))))
    obtain ⟨e5, g6, h⟩ := ob_some h
    refine evs (ev_ia rfl rfl rfl ⟨(geti_some g6).1, (geti_some g6).2.1⟩ (evs (ev_ldE (i := y1) (n := 1) (off := 0) (v := nI e5) rfl rfl zci64 g6 rfl (nb rfl) rfl (evs (ev_mv (c := nI a1) rfl rfl rfl (evs (ev_bin (c1 := nI e5) (c2 := nI a1) rfl rfl rfl (evn ?_))))))))
    refine ls_keep [(0, dL ci64 a0), (1, nI a1), (5, nI y1), (17, .bool (e5 == a1))] ⟨kr, kr, kr, kr, trivial⟩ rfl ?_
    rcases cond_some h with ⟨g7, h⟩ | ⟨g7, h⟩
    · refine ls_cT rfl g7 ?_
      refine ls_rs tbOk ?_
      refine evs (ev_mv (c := nI y1) rfl rfl rfl (evs (ev_as (c := nI y1) rfl rfl rfl (evn ?_))))
      refine ls_keep [(4, nI y1)] ⟨kr, trivial⟩ rfl ?_
      refine ls_ret ?_
      have q0 := (Option.some.inj h).symm
      have r0 := hr1
      rw [q0] at r0
      have hr := Option.some.inj r0
      rw [← hr]
      exact ⟨.inl rfl, rfl⟩
    · refine ls_cF rfl g7 ?_
      refine ls_skip ?_
      refine hK4 _ (ls_keep [(0, dL ci64 a0), (1, nI a1), (5, nI y1)] ⟨kr, kr, kr, trivial⟩ rfl ?_)
      refine ls_rgn tbOk ?_
      refine evs (ev_mv (c := nI y1) rfl rfl rfl (evs (ev_bin (c1 := nI y1) (c2 := nI 1) rfl rfl rfl (evs (ev_as (c := nI (IntKind.i64.wrap (y1 + 1))) rfl rfl rfl (evn ?_))))))
      exact hN _ (IntKind.i64.wrap (y1 + 1)) h ⟨kr, kr, kr, trivial⟩
  · refine ls_cF rfl g3 ?_
    refine ls_exit ?_
    have q0 := (Option.some.inj h).symm
    have r0 := hr1
    rw [q0] at r0
    exact kXspec_l7Find_B1 () r0 _ trivial
def spec_IsValidQuery_B2 (a0 : Y91) (y2 : Int) (rec : Int → Option (Sum (Unit) (Bool))) (y4 : Int) : Option (Sum (Unit) (Bool)) := obind (geti a0.2.1 y2) fun e25 => cond (decide (y4 < (List.length e25.2 : Int))) (obind (geti a0.2.1 y2) fun e29 => obind (geti e29.2 y4) fun e31 => obind (spec_l1In e31 0 (IntKind.i64.wrap (a0.1 - 1))) fun v33 => cond (!v33) (some (.inr false)) (rec (IntKind.i64.wrap (y4 + 1)))) (some (.inl ()))
def spec_IsValidQuery_B1 (a0 : Y91) (rec : Int → Option (Sum (Unit) (Bool))) (y2 : Int) : Option (Sum (Unit) (Bool)) := cond (decide (y2 < (List.length a0.2.1 : Int))) (obind (geti a0.2.1 y2) fun e14 => obind (spec_IsValidName e14.1) fun v16 => cond (!v16) (some (.inr false)) (obind (geti a0.2.1 y2) fun e19 => obind (spec_l1In (List.length e19.2 : Int) 1 5) fun v21 => cond (!v21) (some (.inr false)) (obind (loopF (spec_IsValidQuery_B2 a0 y2) fz 0) fun o2 => (match o2 with
  | .inl _ => (rec (IntKind.i64.wrap (y2 + 1)))
  | .inr r => some (.inr r))))) (some (.inl ()))
def spec_IsValidQuery_J5 (rec : (Bool × Int) → Option (Bool)) (y11 : Int) (x45 : Bool) : Option (Bool) := rec (x45, (IntKind.i64.wrap (y11 + 1)))
def spec_IsValidQuery_B4 (a0 : Y91) (y7 : Int) (rec : (Bool × Int) → Option (Bool)) (s : Bool × Int) : Option (Bool) := match s with
  | (y10, y11) => cond (decide (y11 < (List.length a0.2.1 : Int))) (cond y10 (spec_IsValidQuery_J5 rec y11 true) (obind (geti a0.2.1 y11) fun e47 => obind (spec_ContainsVariable e47 y7) fun v49 => spec_IsValidQuery_J5 rec y11 v49)) (some y10)
def spec_IsValidQuery_B3 (a0 : Y91) (rec : Int → Option (Sum (Unit) (Bool))) (y7 : Int) : Option (Sum (Unit) (Bool)) := cond (decide (y7 < a0.1)) (obind (loopF (spec_IsValidQuery_B4 a0 y7) fz (false, 0)) fun z41 => cond (!z41) (some (.inr false)) (rec (IntKind.i64.wrap (y7 + 1)))) (some (.inl ()))
def spec_IsValidQuery_B6 (a0 : Y91) (rec : Int → Option (Sum (Unit) (Bool))) (y12 : Int) : Option (Sum (Unit) (Bool)) := cond (decide (y12 < (List.length a0.2.2 : Int))) (obind (geti a0.2.2 y12) fun e56 => obind (spec_l1In e56 0 (IntKind.i64.wrap (a0.1 - 1))) fun v58 => cond (!v58) (some (.inr false)) (chk ((0 : Int) ≤ 0 ∧ 0 ≤ y12 ∧ y12 ≤ (List.length a0.2.2 : Int)) (obind (geti a0.2.2 y12) fun e62 => obind (spec_l7Find (subl a0.2.2 0 y12) e62) fun v64 => cond (decide (0 ≤ v64)) (some (.inr false)) (rec (IntKind.i64.wrap (y12 + 1)))))) (some (.inl ()))
def spec_IsValidQuery (a0 : Y91) : Option (Bool) := obind (spec_l1In a0.1 1 5) fun v2 => cond (!v2) (some false) (obind (spec_l1In (List.length a0.2.1 : Int) 1 4) fun v5 => cond (!v5) (some false) (cond (decide (a0.1 < (List.length a0.2.2 : Int))) (some false) (obind (loopF (spec_IsValidQuery_B1 a0) fz 0) fun o1 => (match o1 with
  | .inl _ => (obind (loopF (spec_IsValidQuery_B3 a0) fz 0) fun o3 => (match o3 with
  | .inl _ => (obind (loopF (spec_IsValidQuery_B6 a0) fz 0) fun o6 => (match o6 with
  | .inl _ => (some true)
  | .inr r => some r))
  | .inr r => some r))
  | .inr r => some r))))
theorem spec_IsValidQuery_s {a0 : Y91} {r : Bool} (h : spec_IsValidQuery a0 = some r) : SoundAt Try.prog 200 [.agg (c92_ddd a0)] (.bool r) := by
  unfold spec_IsValidQuery at h
  refine sound_lit tbOk lit200 (nb rfl) rfl ?_
  unfold c200
  refine ls_keep [(0, .agg (c92_ddd a0))] ⟨kr, trivial⟩ rfl ?_
  refine ls_rs tbOk ?_
  refine evs (ev_bx (c1 := .agg (c92_ddd a0)) rfl rfl rfl (evs (ev_ac rfl nofun rfl (evn ?_))))
  refine ls_keep [(1, .box [nI a0.1, dL c195_d a0.2.1, dL ci64 a0.2.2])] ⟨kr, trivial⟩ rfl ?_
  refine ls_seq_k fun K1 hK1 => ?_
  refine ls_rs tbOk ?_
  refine evs (ev_fa (c1 := .cref 1 0) (v := .cref 1 0) rfl rfl rfl ⟨_, rfl⟩ rfl (evs (ev_ldB (off := 0) (v := nI a0.1) rfl rfl rfl rfl (nb rfl) rfl (?_))))
  obtain ⟨v2, g3, h⟩ := ob_some h
  refine evs (ev_call (era rfl rfl (era rfl rfl (era rfl rfl eran))) (spec_l1In_s g3) (evs (ev_un (c1 := .bool v2) rfl trivial (evs (ev_mv (c := .bool (!v2)) rfl rfl rfl (?_))))))
  rcases cond_some h with ⟨g4, h⟩ | ⟨g4, h⟩
  · refine evs (ev_gs rfl rfl (isb_T g4) (evs (ev_gs rfl rfl (isb_T g4) (evs (ev_gs rfl rfl (isb_T g4) (evs (ev_gs rfl rfl (isb_T g4) (evs (ev_gs rfl rfl (isb_T g4) (evs (ev_pkT (c1 := .bool true) rfl g4 rfl rfl (evs (ev_mv (c := .bool true) rfl rfl rfl (evs (ev_gs rfl rfl rfl (evs (ev_gs rfl rfl rfl (evs (ev_gs rfl rfl rfl (evs (ev_gs rfl rfl rfl (evs (ev_gs rfl rfl rfl (evs (ev_gs rfl rfl rfl (evs (ev_pkT (c1 := .bool true) rfl rfl rfl rfl (evn ?_))))))))))))))))))))))))))))
    refine ls_keep [(1, .box [nI a0.1, dL c195_d a0.2.1, dL ci64 a0.2.2]), (27, .bool true)] ⟨kr, kr, trivial⟩ rfl ?_
    refine ls_cT rfl rfl ?_
    refine ls_rs tbOk ?_
    refine evs (ev_ac rfl nofun rfl (evn ?_))
    refine ls_keep [(2, .bool false)] ⟨kr, trivial⟩ rfl ?_
    refine ls_ret ?_
    have hr := Option.some.inj h
    rw [← hr]
    exact ⟨.inl rfl, rfl⟩
  · refine evs (ev_gr rfl (congrArg V.bool g4) (ev_fa (c1 := .cref 1 0) (v := .cref 1 1) rfl rfl rfl ⟨_, rfl⟩ rfl (evs (ev_gr rfl (congrArg V.bool g4) (ev_ldB (off := 1) (v := dL c195_d a0.2.1) rfl rfl rfl rfl (nb rfl) rfl (evs (ev_gr rfl (congrArg V.bool g4) (ev_len (c1 := dL c195_d a0.2.1) rfl rfl rfl (?_)))))))))
    obtain ⟨v5, g6, h⟩ := ob_some h
    refine evs (ev_gr rfl (congrArg V.bool g4) (ev_call (era rfl rfl (era rfl rfl (era rfl rfl eran))) (spec_l1In_s g6) (evs (ev_gr rfl (congrArg V.bool g4) (ev_un (c1 := .bool v5) rfl trivial (evs (ev_pkF (c1 := .bool (!v5)) rfl g4 rfl rfl (evs (ev_mv (c := .bool (!v5)) rfl rfl rfl (?_))))))))))
    rcases cond_some h with ⟨g7, h⟩ | ⟨g7, h⟩
    · refine evs (ev_gs rfl rfl (isb_T g7) (evs (ev_gs rfl rfl (isb_T g7) (evs (ev_gs rfl rfl (isb_T g7) (evs (ev_gs rfl rfl (isb_T g7) (evs (ev_gs rfl rfl (isb_T g7) (evs (ev_gs rfl rfl (isb_T g7) (evs (ev_pkT (c1 := .bool true) rfl g7 rfl rfl (evn ?_))))))))))))))
      refine ls_keep [(1, .box [nI a0.1, dL c195_d a0.2.1, dL ci64 a0.2.2]), (27, .bool true)] ⟨kr, kr, trivial⟩ rfl ?_
      refine ls_cT rfl rfl ?_
      refine ls_rs tbOk ?_
      refine evs (ev_ac rfl nofun rfl (evn ?_))
      refine ls_keep [(2, .bool false)] ⟨kr, trivial⟩ rfl ?_
      refine ls_ret ?_
      have hr := Option.some.inj h
      rw [← hr]
      exact ⟨.inl rfl, rfl⟩
    · refine evs (ev_gr rfl (congrArg V.bool g7) (ev_fa (c1 := .cref 1 0) (v := .cref 1 2) rfl rfl rfl ⟨_, rfl⟩ rfl (evs (ev_gr rfl (congrArg V.bool g7) (ev_ldB (off := 2) (v := dL ci64 a0.2.2) rfl rfl rfl rfl (nb rfl) rfl (evs (ev_gr rfl (congrArg V.bool g7) (ev_len (c1 := dL ci64 a0.2.2) rfl rfl rfl (evs (ev_gr rfl (congrArg V.bool g7) (ev_fa (c1 := .cref 1 0) (v := .cref 1 0) rfl rfl rfl ⟨_, rfl⟩ rfl (evs (ev_gr rfl (congrArg V.bool g7) (ev_ldB (off := 0) (v := nI a0.1) rfl rfl rfl rfl (nb rfl) rfl (evs (ev_gr rfl (congrArg V.bool g7) (ev_bin (c1 := nI (List.length a0.2.2 : Int)) (c2 := nI a0.1) rfl rfl rfl (evs (ev_pkF (c1 := .bool (decide (a0.1 < (List.length a0.2.2 : Int)))) rfl g7 rfl rfl (evn ?_))))))))))))))))))))
      refine ls_keep [(1, .box [nI a0.1, dL c195_d a0.2.1, dL ci64 a0.2.2]), (27, .bool (decide (a0.1 < (List.length a0.2.2 : Int))))] ⟨kr, kr, trivial⟩ rfl ?_
      rcases cond_some h with ⟨g8, h⟩ | ⟨g8, h⟩
      · refine ls_cT rfl g8 ?_
        refine ls_rs tbOk ?_
        refine evs (ev_ac rfl nofun rfl (evn ?_))
        refine ls_keep [(2, .bool false)] ⟨kr, trivial⟩ rfl ?_
        refine ls_ret ?_
        have hr := Option.some.inj h
        rw [← hr]
        exact ⟨.inl rfl, rfl⟩
      · refine ls_cF rfl g8 ?_
        refine ls_skip ?_
        refine hK1 _ (ls_keep [(1, .box [nI a0.1, dL c195_d a0.2.1, dL ci64 a0.2.2])] ⟨kr, trivial⟩ rfl ?_)
        refine ls_seq_k fun K9 hK9 => ?_
        refine ls_rs tbOk ?_
        refine evs (ev_ac rfl nofun rfl (evn ?_))
        refine ls_keep [(1, .box [nI a0.1, dL c195_d a0.2.1, dL ci64 a0.2.2]), (3, nI 0)] ⟨kr, kr, trivial⟩ rfl ?_
        obtain ⟨o1, hl, hr1⟩ := ob_some h
        clear h
        have kXspec_IsValidQuery_B1 : ∀ (_ : Unit), (obind (loopF (spec_IsValidQuery_B3 a0) fz 0) fun o3 => (match o3 with
  | .inl _ => (obind (loopF (spec_IsValidQuery_B6 a0) fz 0) fun o6 => (match o6 with
  | .inl _ => (some true)
  | .inr r => some r))
  | .inr r => some r)) = some r → ∀ σ' : PS, okK σ' [(1, .box [nI a0.1, dL c195_d a0.2.1, dL ci64 a0.2.2])] → K9 σ' := by
          intro _ h σ' hk
          refine hK9 _ (ls_keep [(1, .box [nI a0.1, dL c195_d a0.2.1, dL ci64 a0.2.2])] hk rfl ?_)
          refine ls_seq_k fun K36 hK36 => ?_
          refine ls_rs tbOk ?_
          refine evs (ev_ac rfl nofun rfl (evn ?_))
          refine ls_keep [(1, .box [nI a0.1, dL c195_d a0.2.1, dL ci64 a0.2.2]), (5, nI 0)] ⟨kr, kr, trivial⟩ rfl ?_
          obtain ⟨o3, hl, hr3⟩ := ob_some h
          clear h
          have kXspec_IsValidQuery_B3 : ∀ (_ : Unit), (obind (loopF (spec_IsValidQuery_B6 a0) fz 0) fun o6 => (match o6 with
  | .inl _ => (some true)
  | .inr r => some r)) = some r → ∀ σ' : PS, okK σ' [(1, .box [nI a0.1, dL c195_d a0.2.1, dL ci64 a0.2.2])] → K36 σ' := by
            intro _ h σ' hk
            refine hK36 _ (ls_keep [(1, .box [nI a0.1, dL c195_d a0.2.1, dL ci64 a0.2.2])] hk rfl ?_)
            refine ls_seq_k fun K52 hK52 => ?_
            refine ls_rs tbOk ?_
            refine evs (ev_ac rfl nofun rfl (evn ?_))
            refine ls_keep [(1, .box [nI a0.1, dL c195_d a0.2.1, dL ci64 a0.2.2]), (8, nI 0)] ⟨kr, kr, trivial⟩ rfl ?_
            obtain ⟨o6, hl, hr6⟩ := ob_some h
            clear h
            have kXspec_IsValidQuery_B6 : ∀ (_ : Unit), (some true) = some r → ∀ σ' : PS, okK σ' [] → K52 σ' := by
              intro _ h σ' hk
              refine hK52 _ (ls_keep [] hk rfl ?_)
              refine ls_rs tbOk ?_
              refine evs (ev_ac rfl nofun rfl (evn ?_))
              refine ls_keep [(2, .bool true)] ⟨kr, trivial⟩ rfl ?_
              refine ls_ret ?_
              have hr := Option.some.inj h
              rw [← hr]
              exact ⟨.inl rfl, rfl⟩
            refine ls_rec (fun (y12 : Int) => [(1, .box [nI a0.1, dL c195_d a0.2.1, dL ci64 a0.2.2]), (8, nI y12)]) (spec_IsValidQuery_B6 a0) fz 0 o6 hl ⟨kr, kr, trivial⟩ (fun _ => rfl) ?_
            rintro m y12 N h hN
            unfold spec_IsValidQuery_B6 at h
            refine ls_seq_k fun K53 hK53 => ?_
            refine ls_rs tbOk ?_
            refine evs (ev_mv (c := nI y12) rfl rfl rfl (evs (ev_fa (c1 := .cref 1 0) (v := .cref 1 2) rfl rfl rfl ⟨_, rfl⟩ rfl (evs (ev_ldB (off := 2) (v := dL ci64 a0.2.2) rfl rfl rfl rfl (nb rfl) rfl (evs (ev_len (c1 := dL ci64 a0.2.2) rfl rfl rfl (evs (ev_bin (c1 := nI y12) (c2 := nI (List.length a0.2.2 : Int)) rfl rfl rfl (evn ?_))))))))))
            refine ls_keep [(1, .box [nI a0.1, dL c195_d a0.2.1, dL ci64 a0.2.2]), (8, nI y12), (108, .bool (decide (y12 < (List.length a0.2.2 : Int))))] ⟨kr, kr, kr, trivial⟩ rfl ?_
            rcases cond_some h with ⟨g54, h⟩ | ⟨g54, h⟩
            · refine ls_cT rfl g54 ?_
              refine ls_skip ?_
              refine hK53 _ (ls_keep [(1, .box [nI a0.1, dL c195_d a0.2.1, dL ci64 a0.2.2]), (8, nI y12)] ⟨kr, kr, trivial⟩ rfl ?_)
              refine ls_seq_k fun K55 hK55 => ?_
              refine ls_blk ?_
              refine ls_rd tbOk mixed (by kernel_rfl) ?_
              refine evd rfl rfl (ev_fa (c1 := .cref 1 0) (v := .cref 1 2) rfl rfl rfl ⟨_, rfl⟩ rfl (evd rfl rfl (ev_ldB (off := 2) (v := dL ci64 a0.2.2) rfl rfl rfl rfl (nb rfl) rfl (evd rfl rfl (ev_mv (c := nI y12) rfl rfl rfl (?_))))))
              obtain ⟨e56, g57, h⟩ := ob_some h
              refine evd rfl rfl (ev_ia rfl rfl rfl ⟨(geti_some g57).1, (geti_some g57).2.1⟩ (evd rfl rfl (ev_ldE (i := y12) (n := 1) (off := 0) (v := nI e56) rfl rfl zci64 g57 rfl (nb rfl) rfl (evd rfl rfl (ev_fa (c1 := .cref 1 0) (v := .cref 1 0) rfl rfl rfl ⟨_, rfl⟩ rfl (evd rfl rfl (ev_ldB (off := 0) (v := nI a0.1) rfl rfl rfl rfl (nb rfl) rfl (evd rfl rfl (ev_bin (c1 := nI a0.1) (c2 := nI 1) rfl rfl rfl (?_))))))))))
              obtain ⟨v58, g59, h⟩ := ob_some h
              refine evd rfl rfl (ev_call (era rfl rfl (era rfl rfl (era rfl rfl eran))) (spec_l1In_s g59) (evd rfl rfl (ev_un (c1 := .bool v58) rfl trivial (evd rfl rfl (ev_mv (c := .bool (!v58)) rfl rfl rfl (?_))))))
              rcases cond_some h with ⟨g60, h⟩ | ⟨g60, h⟩
              · refine evd rfl rfl (ev_gs rfl rfl (isb_T g60) (evd rfl rfl (ev_gs rfl rfl (isb_T g60) (evd rfl rfl (ev_gs rfl rfl (isb_T g60) (evd rfl rfl (ev_gs rfl rfl (isb_T g60) (evd rfl rfl (ev_gs rfl rfl (isb_T g60) (evd rfl rfl (ev_gs rfl rfl (isb_T g60) (evd rfl rfl (ev_gs rfl rfl (isb_T g60) (evd rfl rfl (ev_gs rfl rfl (isb_T g60) (evd rfl rfl (ev_gs rfl rfl (isb_T g60) (evd rfl rfl (ev_gs rfl rfl (isb_T g60) (evd rfl rfl (ev_gs rfl rfl (isb_T g60) (evd rfl rfl (ev_pkT (c1 := .bool true) rfl g60 rfl rfl (evdn ?_))))))))))))))))))))))))
                refine ls_keep [(1, .box [nI a0.1, dL c195_d a0.2.1, dL ci64 a0.2.2]), (8, nI y12), (133, .bool true)] ⟨kr, kr, kr, trivial⟩ rfl ?_
                refine ls_cT rfl rfl ?_
                refine ls_rs tbOk ?_
                refine evs (ev_ac rfl nofun rfl (evn ?_))
                refine ls_keep [(2, .bool false)] ⟨kr, trivial⟩ rfl ?_
                refine ls_ret ?_
                have q0 := (Option.some.inj h).symm
                have r0 := hr6
                rw [q0] at r0
                have hr := Option.some.inj r0
                rw [← hr]
                exact ⟨.inl rfl, rfl⟩
              · refine evd rfl rfl (ev_gr rfl (congrArg V.bool g60) (ev_fa (c1 := .cref 1 0) (v := .cref 1 2) rfl rfl rfl ⟨_, rfl⟩ rfl (evd rfl rfl (ev_gr rfl (congrArg V.bool g60) (ev_ldB (off := 2) (v := dL ci64 a0.2.2) rfl rfl rfl rfl (nb rfl) rfl (evd rfl rfl (ev_gr rfl (congrArg V.bool g60) (ev_mv (c := nI y12) rfl rfl rfl (?_)))))))))
                obtain ⟨g61, h⟩ := chk_some h
                refine evd rfl rfl (ev_gr rfl (congrArg V.bool g60) (ev_sle (lst := a0.2.2) rfl rfl zci64 rfl rfl g61 (evd rfl rfl (ev_gr rfl (congrArg V.bool g60) (ev_fa (c1 := .cref 1 0) (v := .cref 1 2) rfl rfl rfl ⟨_, rfl⟩ rfl (evd rfl rfl (ev_gr rfl (congrArg V.bool g60) (ev_ldB (off := 2) (v := dL ci64 a0.2.2) rfl rfl rfl rfl (nb rfl) rfl (evd rfl rfl (ev_gr rfl (congrArg V.bool g60) (ev_mv (c := nI y12) rfl rfl rfl (?_))))))))))))
                obtain ⟨e62, g63, h⟩ := ob_some h
                refine evd rfl rfl (ev_gr rfl (congrArg V.bool g60) (ev_ia rfl rfl rfl ⟨(geti_some g63).1, (geti_some g63).2.1⟩ (evd rfl rfl (ev_gr rfl (congrArg V.bool g60) (ev_ldE (i := y12) (n := 1) (off := 0) (v := nI e62) rfl rfl zci64 g63 rfl (nb rfl) rfl (?_))))))
                obtain ⟨v64, g65, h⟩ := ob_some h
                refine evd rfl rfl (ev_gr rfl (congrArg V.bool g60) (ev_call (era rfl (erD eci64 _) (era rfl rfl eran)) (spec_l7Find_s g65) (evd rfl rfl (ev_gr rfl (congrArg V.bool g60) (ev_bin (c1 := nI v64) (c2 := nI 0) rfl rfl rfl (evd rfl rfl (ev_pkF (c1 := .bool (decide (0 ≤ v64))) rfl g60 rfl rfl (evdn ?_))))))))
                refine ls_keep [(1, .box [nI a0.1, dL c195_d a0.2.1, dL ci64 a0.2.2]), (8, nI y12), (133, .bool (decide (0 ≤ v64)))] ⟨kr, kr, kr, trivial⟩ rfl ?_
                rcases cond_some h with ⟨g66, h⟩ | ⟨g66, h⟩
                · refine ls_cT rfl g66 ?_
                  refine ls_rs tbOk ?_
                  refine evs (ev_ac rfl nofun rfl (evn ?_))
                  refine ls_keep [(2, .bool false)] ⟨kr, trivial⟩ rfl ?_
                  refine ls_ret ?_
                  have q0 := (Option.some.inj h).symm
                  have r0 := hr6
                  rw [q0] at r0
                  have hr := Option.some.inj r0
                  rw [← hr]
                  exact ⟨.inl rfl, rfl⟩
                · refine ls_cF rfl g66 ?_
                  refine ls_skip ?_
                  refine hK55 _ (ls_keep [(1, .box [nI a0.1, dL c195_d a0.2.1, dL ci64 a0.2.2]), (8, nI y12)] ⟨kr, kr, trivial⟩ rfl ?_)
                  refine ls_rgn tbOk ?_
                  refine evs (ev_mv (c := nI y12) rfl rfl rfl (evs (ev_bin (c1 := nI y12) (c2 := nI 1) rfl rfl rfl (evs (ev_as (c := nI (IntKind.i64.wrap (y12 + 1))) rfl rfl rfl (evn ?_))))))
                  exact hN _ (IntKind.i64.wrap (y12 + 1)) h ⟨kr, kr, trivial⟩
            · refine ls_cF rfl g54 ?_
              refine ls_exit ?_
              have q0 := (Option.some.inj h).symm
              have r0 := hr6
              rw [q0] at r0
              exact kXspec_IsValidQuery_B6 () r0 _ trivial
          refine ls_rec (fun (y7 : Int) => [(1, .box [nI a0.1, dL c195_d a0.2.1, dL ci64 a0.2.2]), (5, nI y7)]) (spec_IsValidQuery_B3 a0) fz 0 o3 hl ⟨kr, kr, trivial⟩ (fun _ => rfl) ?_
          rintro m y7 N h hN
          unfold spec_IsValidQuery_B3 at h
          refine ls_seq_k fun K37 hK37 => ?_
          refine ls_rs tbOk ?_
          refine evs (ev_mv (c := nI y7) rfl rfl rfl (evs (ev_fa (c1 := .cref 1 0) (v := .cref 1 0) rfl rfl rfl ⟨_, rfl⟩ rfl (evs (ev_ldB (off := 0) (v := nI a0.1) rfl rfl rfl rfl (nb rfl) rfl (evs (ev_bin (c1 := nI y7) (c2 := nI a0.1) rfl rfl rfl (evn ?_))))))))
          refine ls_keep [(1, .box [nI a0.1, dL c195_d a0.2.1, dL ci64 a0.2.2]), (5, nI y7), (82, .bool (decide (y7 < a0.1)))] ⟨kr, kr, kr, trivial⟩ rfl ?_
          rcases cond_some h with ⟨g38, h⟩ | ⟨g38, h⟩
          · refine ls_cT rfl g38 ?_
            refine ls_skip ?_
            refine hK37 _ (ls_keep [(1, .box [nI a0.1, dL c195_d a0.2.1, dL ci64 a0.2.2]), (5, nI y7)] ⟨kr, kr, trivial⟩ rfl ?_)
            refine ls_seq_k fun K39 hK39 => ?_
            refine ls_blk ?_
            refine ls_rs tbOk ?_
            refine evs (ev_ac rfl nofun rfl (evn ?_))
            refine ls_keep [(1, .box [nI a0.1, dL c195_d a0.2.1, dL ci64 a0.2.2]), (5, nI y7), (6, .bool false)] ⟨kr, kr, kr, trivial⟩ rfl ?_
            refine ls_seq_k fun K40 hK40 => ?_
            refine ls_rs tbOk ?_
            refine evs (ev_ac rfl nofun rfl (evn ?_))
            refine ls_keep [(1, .box [nI a0.1, dL c195_d a0.2.1, dL ci64 a0.2.2]), (5, nI y7), (6, .bool false), (7, nI 0)] ⟨kr, kr, kr, kr, trivial⟩ rfl ?_
            obtain ⟨o4, hl, hr4⟩ := ob_some h
            clear h
            have kXspec_IsValidQuery_B4 : ∀ (z41 : Bool), (cond (!z41) (some (.inr false)) ((loopF (spec_IsValidQuery_B3 a0) m) (IntKind.i64.wrap (y7 + 1)))) = some o3 → ∀ σ' : PS, okK σ' [(1, .box [nI a0.1, dL c195_d a0.2.1, dL ci64 a0.2.2]), (5, nI y7), (6, .bool z41)] → K40 σ' := by
              intro z41 h σ' hk
              refine hK40 _ (ls_keep [(1, .box [nI a0.1, dL c195_d a0.2.1, dL ci64 a0.2.2]), (5, nI y7), (6, .bool z41)] hk rfl ?_)
              refine ls_rs tbOk ?_
              refine evs (ev_mv (c := .bool z41) rfl rfl rfl (evs (ev_un (c1 := .bool z41) rfl trivial (evn ?_))))
              refine ls_keep [(1, .box [nI a0.1, dL c195_d a0.2.1, dL ci64 a0.2.2]), (5, nI y7), (103, .bool (!z41))] ⟨kr, kr, kr, trivial⟩ rfl ?_
              rcases cond_some h with ⟨g51, h⟩ | ⟨g51, h⟩
              · refine ls_cT rfl g51 ?_
                refine ls_rs tbOk ?_
                refine evs (ev_ac rfl nofun rfl (evn ?_))
                refine ls_keep [(2, .bool false)] ⟨kr, trivial⟩ rfl ?_
                refine ls_ret ?_
                have q0 := (Option.some.inj h).symm
                have r0 := hr3
                rw [q0] at r0
                have hr := Option.some.inj r0
                rw [← hr]
                exact ⟨.inl rfl, rfl⟩
              · refine ls_cF rfl g51 ?_
                refine ls_skip ?_
                refine hK39 _ (ls_keep [(1, .box [nI a0.1, dL c195_d a0.2.1, dL ci64 a0.2.2]), (5, nI y7)] ⟨kr, kr, trivial⟩ rfl ?_)
                refine ls_rgn tbOk ?_
                refine evs (ev_mv (c := nI y7) rfl rfl rfl (evs (ev_bin (c1 := nI y7) (c2 := nI 1) rfl rfl rfl (evs (ev_as (c := nI (IntKind.i64.wrap (y7 + 1))) rfl rfl rfl (evn ?_))))))
                exact hN _ (IntKind.i64.wrap (y7 + 1)) h ⟨kr, kr, trivial⟩
            refine ls_rec (fun (s : Bool × Int) => match s with | (y10, y11) => [(1, .box [nI a0.1, dL c195_d a0.2.1, dL ci64 a0.2.2]), (5, nI y7), (6, .bool y10), (7, nI y11)]) (spec_IsValidQuery_B4 a0 y7) fz (false, 0) o4 hl ⟨kr, kr, kr, kr, trivial⟩ (fun _ => rfl) ?_
            rintro m ⟨y10, y11⟩ N h hN
            unfold spec_IsValidQuery_B4 at h
            dsimp only at h
            refine ls_seq_k fun K42 hK42 => ?_
            refine ls_rs tbOk ?_
            refine evs (ev_mv (c := nI y11) rfl rfl rfl (evs (ev_fa (c1 := .cref 1 0) (v := .cref 1 1) rfl rfl rfl ⟨_, rfl⟩ rfl (evs (ev_ldB (off := 1) (v := dL c195_d a0.2.1) rfl rfl rfl rfl (nb rfl) rfl (evs (ev_len (c1 := dL c195_d a0.2.1) rfl rfl rfl (evs (ev_bin (c1 := nI y11) (c2 := nI (List.length a0.2.1 : Int)) rfl rfl rfl (evn ?_))))))))))
            refine ls_keep [(1, .box [nI a0.1, dL c195_d a0.2.1, dL ci64 a0.2.2]), (5, nI y7), (6, .bool y10), (7, nI y11), (89, .bool (decide (y11 < (List.length a0.2.1 : Int))))] ⟨kr, kr, kr, kr, kr, trivial⟩ rfl ?_
            rcases cond_some h with ⟨g43, h⟩ | ⟨g43, h⟩
            · refine ls_cT rfl g43 ?_
              refine ls_skip ?_
              refine hK42 _ (ls_keep [(1, .box [nI a0.1, dL c195_d a0.2.1, dL ci64 a0.2.2]), (5, nI y7), (6, .bool y10), (7, nI y11)] ⟨kr, kr, kr, kr, trivial⟩ rfl ?_)
              refine ls_seq_k fun K44 hK44 => ?_
              refine ls_blk ?_
              have kspec_IsValidQuery_J5 : ∀ (x45 : Bool), spec_IsValidQuery_J5 (loopF (spec_IsValidQuery_B4 a0 y7) m) y11 x45 = some o4 → ∀ σ' : PS, okK σ' [(1, .box [nI a0.1, dL c195_d a0.2.1, dL ci64 a0.2.2]), (5, nI y7), (6, .bool x45), (7, nI y11)] → K44 σ' := by
                intro x45 h σ' hk
                unfold spec_IsValidQuery_J5 at h
                refine hK44 _ (ls_keep [(1, .box [nI a0.1, dL c195_d a0.2.1, dL ci64 a0.2.2]), (5, nI y7), (6, .bool x45), (7, nI y11)] hk rfl ?_)
                refine ls_rgn tbOk ?_
                refine evs (ev_mv (c := nI y11) rfl rfl rfl (evs (ev_bin (c1 := nI y11) (c2 := nI 1) rfl rfl rfl (evs (ev_as (c := nI (IntKind.i64.wrap (y11 + 1))) rfl rfl rfl (evn ?_))))))
                exact hN _ (x45, (IntKind.i64.wrap (y11 + 1))) h ⟨kr, kr, kr, kr, trivial⟩
              refine ls_rgn tbOk ?_
              refine evs (ev_mv (c := .bool y10) rfl rfl rfl (evs (ev_mv (c := .bool y10) rfl rfl rfl (?_))))
              rcases cond_some h with ⟨g46, h⟩ | ⟨g46, h⟩
              · refine evs (ev_gs rfl rfl (isb_T g46) (evs (ev_gs rfl rfl (isb_T g46) (evs (ev_gs rfl rfl (isb_T g46) (evs (ev_gs rfl rfl (isb_T g46) (evs (ev_gs rfl rfl (isb_T g46) (evs (ev_gs rfl rfl (isb_T g46) (evs (ev_gs rfl rfl (isb_T g46) (evs (ev_pkT (c1 := .bool true) rfl g46 rfl rfl (evs (ev_as (c := .bool true) rfl rfl rfl (evn ?_))))))))))))))))))
                exact kspec_IsValidQuery_J5 true h _ ⟨kr, kr, kr, kr, trivial⟩
              · refine evs (ev_gr rfl (congrArg V.bool g46) (ev_fa (c1 := .cref 1 0) (v := .cref 1 1) rfl rfl rfl ⟨_, rfl⟩ rfl (evs (ev_gr rfl (congrArg V.bool g46) (ev_ldB (off := 1) (v := dL c195_d a0.2.1) rfl rfl rfl rfl (nb rfl) rfl (evs (ev_gr rfl (congrArg V.bool g46) (ev_mv (c := nI y11) rfl rfl rfl (?_)))))))))
                obtain ⟨e47, g48, h⟩ := ob_some h
                refine evs (ev_gr rfl (congrArg V.bool g46) (ev_ia rfl rfl rfl ⟨(geti_some g48).1, (geti_some g48).2.1⟩ (evs (ev_gr rfl (congrArg V.bool g46) (ev_ldE (i := y11) (n := 2) (off := 0) (v := .agg (c195_d e47)) rfl rfl zc195_d g48 rfl (nb rfl) rfl (evs (ev_gr rfl (congrArg V.bool g46) (ev_mv (c := nI y7) rfl rfl rfl (?_)))))))))
                obtain ⟨v49, g50, h⟩ := ob_some h
                refine evs (ev_gr rfl (congrArg V.bool g46) (ev_call (era rfl (erg (erc rfl (erc (erD eci64 _) rfl))) (era rfl rfl eran)) (spec_ContainsVariable_s g50) (evs (ev_pkF (c1 := .bool v49) rfl g46 rfl rfl (evs (ev_as (c := .bool v49) rfl rfl rfl (evn ?_)))))))
                exact kspec_IsValidQuery_J5 v49 h _ ⟨kr, kr, kr, kr, trivial⟩
            · refine ls_cF rfl g43 ?_
              refine ls_exit ?_
              have q0 := (Option.some.inj h).symm
              have r0 := hr4
              rw [q0] at r0
              exact kXspec_IsValidQuery_B4 y10 r0 _ ⟨kr, kr, kr, trivial⟩
          · refine ls_cF rfl g38 ?_
            refine ls_exit ?_
            have q0 := (Option.some.inj h).symm
            have r0 := hr3
            rw [q0] at r0
            exact kXspec_IsValidQuery_B3 () r0 _ ⟨kr, trivial⟩
        refine ls_rec (fun (y2 : Int) => [(1, .box [nI a0.1, dL c195_d a0.2.1, dL ci64 a0.2.2]), (3, nI y2)]) (spec_IsValidQuery_B1 a0) fz 0 o1 hl ⟨kr, kr, trivial⟩ (fun _ => rfl) ?_
        rintro m y2 N h hN
        unfold spec_IsValidQuery_B1 at h
        refine ls_seq_k fun K10 hK10 => ?_
        refine ls_rs tbOk ?_
        refine evs (ev_mv (c := nI y2) rfl rfl rfl (evs (ev_fa (c1 := .cref 1 0) (v := .cref 1 1) rfl rfl rfl ⟨_, rfl⟩ rfl (evs (ev_ldB (off := 1) (v := dL c195_d a0.2.1) rfl rfl rfl rfl (nb rfl) rfl (evs (ev_len (c1 := dL c195_d a0.2.1) rfl rfl rfl (evs (ev_bin (c1 := nI y2) (c2 := nI (List.length a0.2.1 : Int)) rfl rfl rfl (evn ?_))))))))))
        refine ls_keep [(1, .box [nI a0.1, dL c195_d a0.2.1, dL ci64 a0.2.2]), (3, nI y2), (32, .bool (decide (y2 < (List.length a0.2.1 : Int))))] ⟨kr, kr, kr, trivial⟩ rfl ?_
        rcases cond_some h with ⟨g11, h⟩ | ⟨g11, h⟩
        · refine ls_cT rfl g11 ?_
          refine ls_skip ?_
          refine hK10 _ (ls_keep [(1, .box [nI a0.1, dL c195_d a0.2.1, dL ci64 a0.2.2]), (3, nI y2)] ⟨kr, kr, trivial⟩ rfl ?_)
          refine ls_seq_k fun K12 hK12 => ?_
          refine ls_blk ?_
          refine ls_seq_k fun K13 hK13 => ?_
          refine ls_rs tbOk ?_
          refine evs (ev_fa (c1 := .cref 1 0) (v := .cref 1 1) rfl rfl rfl ⟨_, rfl⟩ rfl (evs (ev_ldB (off := 1) (v := dL c195_d a0.2.1) rfl rfl rfl rfl (nb rfl) rfl (evs (ev_mv (c := nI y2) rfl rfl rfl (?_))))))
          obtain ⟨e14, g15, h⟩ := ob_some h
          refine evs (ev_ia rfl rfl rfl ⟨(geti_some g15).1, (geti_some g15).2.1⟩ (evs (ev_fa (c1 := .adr (a0.2.1.flatMap c195_d) (Int.toNat y2 * 2)) (v := .adr (a0.2.1.flatMap c195_d) (Int.toNat y2 * 2)) rfl rfl rfl trivial rfl (evs (ev_ldE (i := y2) (n := 2) (off := 0) (v := .str e14.1) rfl rfl zc195_d g15 rfl (nb rfl) rfl (?_))))))
          obtain ⟨v16, g17, h⟩ := ob_some h
          refine evs (ev_call (era rfl rfl eran) (spec_IsValidName_s g17) (evs (ev_un (c1 := .bool v16) rfl trivial (evs (ev_mv (c := .bool (!v16)) rfl rfl rfl (?_))))))
          rcases cond_some h with ⟨g18, h⟩ | ⟨g18, h⟩
          · refine evs (ev_gs rfl rfl (isb_T g18) (evs (ev_gs rfl rfl (isb_T g18) (evs (ev_gs rfl rfl (isb_T g18) (evs (ev_gs rfl rfl (isb_T g18) (evs (ev_gs rfl rfl (isb_T g18) (evs (ev_gs rfl rfl (isb_T g18) (evs (ev_gs rfl rfl (isb_T g18) (evs (ev_gs rfl rfl (isb_T g18) (evs (ev_gs rfl rfl (isb_T g18) (evs (ev_pkT (c1 := .bool true) rfl g18 rfl rfl (evn ?_))))))))))))))))))))
            refine ls_keep [(1, .box [nI a0.1, dL c195_d a0.2.1, dL ci64 a0.2.2]), (3, nI y2), (53, .bool true)] ⟨kr, kr, kr, trivial⟩ rfl ?_
            refine ls_cT rfl rfl ?_
            refine ls_rs tbOk ?_
            refine evs (ev_ac rfl nofun rfl (evn ?_))
            refine ls_keep [(2, .bool false)] ⟨kr, trivial⟩ rfl ?_
            refine ls_ret ?_
            have q0 := (Option.some.inj h).symm
            have r0 := hr1
            rw [q0] at r0
            have hr := Option.some.inj r0
            rw [← hr]
            exact ⟨.inl rfl, rfl⟩
          · refine evs (ev_gr rfl (congrArg V.bool g18) (ev_fa (c1 := .cref 1 0) (v := .cref 1 1) rfl rfl rfl ⟨_, rfl⟩ rfl (evs (ev_gr rfl (congrArg V.bool g18) (ev_ldB (off := 1) (v := dL c195_d a0.2.1) rfl rfl rfl rfl (nb rfl) rfl (evs (ev_gr rfl (congrArg V.bool g18) (ev_mv (c := nI y2) rfl rfl rfl (?_)))))))))
            obtain ⟨e19, g20, h⟩ := ob_some h
            refine evs (ev_gr rfl (congrArg V.bool g18) (ev_ia rfl rfl rfl ⟨(geti_some g20).1, (geti_some g20).2.1⟩ (evs (ev_gr rfl (congrArg V.bool g18) (ev_fa (c1 := .adr (a0.2.1.flatMap c195_d) (Int.toNat y2 * 2)) (v := .adr (a0.2.1.flatMap c195_d) (Int.toNat y2 * 2 + 1)) rfl rfl rfl trivial rfl (evs (ev_gr rfl (congrArg V.bool g18) (ev_ldE (i := y2) (n := 2) (off := 1) (v := dL ci64 e19.2) rfl rfl zc195_d g20 rfl (nb rfl) rfl (evs (ev_gr rfl (congrArg V.bool g18) (ev_len (c1 := dL ci64 e19.2) rfl rfl rfl (?_))))))))))))
            obtain ⟨v21, g22, h⟩ := ob_some h
            refine evs (ev_gr rfl (congrArg V.bool g18) (ev_call (era rfl rfl (era rfl rfl (era rfl rfl eran))) (spec_l1In_s g22) (evs (ev_gr rfl (congrArg V.bool g18) (ev_un (c1 := .bool v21) rfl trivial (evs (ev_pkF (c1 := .bool (!v21)) rfl g18 rfl rfl (evn ?_))))))))
            refine ls_keep [(1, .box [nI a0.1, dL c195_d a0.2.1, dL ci64 a0.2.2]), (3, nI y2), (53, .bool (!v21))] ⟨kr, kr, kr, trivial⟩ rfl ?_
            rcases cond_some h with ⟨g23, h⟩ | ⟨g23, h⟩
            · refine ls_cT rfl g23 ?_
              refine ls_rs tbOk ?_
              refine evs (ev_ac rfl nofun rfl (evn ?_))
              refine ls_keep [(2, .bool false)] ⟨kr, trivial⟩ rfl ?_
              refine ls_ret ?_
              have q0 := (Option.some.inj h).symm
              have r0 := hr1
              rw [q0] at r0
              have hr := Option.some.inj r0
              rw [← hr]
              exact ⟨.inl rfl, rfl⟩
            · refine ls_cF rfl g23 ?_
              refine ls_skip ?_
              refine hK13 _ (ls_keep [(1, .box [nI a0.1, dL c195_d a0.2.1, dL ci64 a0.2.2]), (3, nI y2)] ⟨kr, kr, trivial⟩ rfl ?_)
              refine ls_rs tbOk ?_
              refine evs (ev_ac rfl nofun rfl (evn ?_))
              refine ls_keep [(1, .box [nI a0.1, dL c195_d a0.2.1, dL ci64 a0.2.2]), (3, nI y2), (4, nI 0)] ⟨kr, kr, kr, trivial⟩ rfl ?_
              obtain ⟨o2, hl, hr2⟩ := ob_some h
              clear h
              have kXspec_IsValidQuery_B2 : ∀ (_ : Unit), ((loopF (spec_IsValidQuery_B1 a0) m) (IntKind.i64.wrap (y2 + 1))) = some o1 → ∀ σ' : PS, okK σ' [(1, .box [nI a0.1, dL c195_d a0.2.1, dL ci64 a0.2.2]), (3, nI y2)] → K12 σ' := by
                intro _ h σ' hk
                refine hK12 _ (ls_keep [(1, .box [nI a0.1, dL c195_d a0.2.1, dL ci64 a0.2.2]), (3, nI y2)] hk rfl ?_)
                refine ls_rgn tbOk ?_
                refine evs (ev_mv (c := nI y2) rfl rfl rfl (evs (ev_bin (c1 := nI y2) (c2 := nI 1) rfl rfl rfl (evs (ev_as (c := nI (IntKind.i64.wrap (y2 + 1))) rfl rfl rfl (evn ?_))))))
                exact hN _ (IntKind.i64.wrap (y2 + 1)) h ⟨kr, kr, trivial⟩
              refine ls_rec (fun (y4 : Int) => [(1, .box [nI a0.1, dL c195_d a0.2.1, dL ci64 a0.2.2]), (3, nI y2), (4, nI y4)]) (spec_IsValidQuery_B2 a0 y2) fz 0 o2 hl ⟨kr, kr, kr, trivial⟩ (fun _ => rfl) ?_
              rintro m y4 N h hN
              unfold spec_IsValidQuery_B2 at h
              refine ls_seq_k fun K24 hK24 => ?_
              refine ls_rs tbOk ?_
              refine evs (ev_mv (c := nI y4) rfl rfl rfl (evs (ev_fa (c1 := .cref 1 0) (v := .cref 1 1) rfl rfl rfl ⟨_, rfl⟩ rfl (evs (ev_ldB (off := 1) (v := dL c195_d a0.2.1) rfl rfl rfl rfl (nb rfl) rfl (evs (ev_mv (c := nI y2) rfl rfl rfl (?_))))))))
              obtain ⟨e25, g26, h⟩ := ob_some h
              refine evs (ev_ia rfl rfl rfl ⟨(geti_some g26).1, (geti_some g26).2.1⟩ (evs (ev_fa (c1 := .adr (a0.2.1.flatMap c195_d) (Int.toNat y2 * 2)) (v := .adr (a0.2.1.flatMap c195_d) (Int.toNat y2 * 2 + 1)) rfl rfl rfl trivial rfl (evs (ev_ldE (i := y2) (n := 2) (off := 1) (v := dL ci64 e25.2) rfl rfl zc195_d g26 rfl (nb rfl) rfl (evs (ev_len (c1 := dL ci64 e25.2) rfl rfl rfl (evs (ev_bin (c1 := nI y4) (c2 := nI (List.length e25.2 : Int)) rfl rfl rfl (evn ?_))))))))))
              refine ls_keep [(1, .box [nI a0.1, dL c195_d a0.2.1, dL ci64 a0.2.2]), (3, nI y2), (4, nI y4), (62, .bool (decide (y4 < (List.length e25.2 : Int))))] ⟨kr, kr, kr, kr, trivial⟩ rfl ?_
              rcases cond_some h with ⟨g27, h⟩ | ⟨g27, h⟩
              · refine ls_cT rfl g27 ?_
                refine ls_skip ?_
                refine hK24 _ (ls_keep [(1, .box [nI a0.1, dL c195_d a0.2.1, dL ci64 a0.2.2]), (3, nI y2), (4, nI y4)] ⟨kr, kr, kr, trivial⟩ rfl ?_)
                refine ls_seq_k fun K28 hK28 => ?_
                refine ls_blk ?_
                refine ls_rd tbOk mixed (by kernel_rfl) ?_
                refine evd rfl rfl (ev_fa (c1 := .cref 1 0) (v := .cref 1 1) rfl rfl rfl ⟨_, rfl⟩ rfl (evd rfl rfl (ev_ldB (off := 1) (v := dL c195_d a0.2.1) rfl rfl rfl rfl (nb rfl) rfl (evd rfl rfl (ev_mv (c := nI y2) rfl rfl rfl (?_))))))
                obtain ⟨e29, g30, h⟩ := ob_some h
                refine evd rfl rfl (ev_ia rfl rfl rfl ⟨(geti_some g30).1, (geti_some g30).2.1⟩ (evd rfl rfl (ev_fa (c1 := .adr (a0.2.1.flatMap c195_d) (Int.toNat y2 * 2)) (v := .adr (a0.2.1.flatMap c195_d) (Int.toNat y2 * 2 + 1)) rfl rfl rfl trivial rfl (evd rfl rfl (ev_ldE (i := y2) (n := 2) (off := 1) (v := dL ci64 e29.2) rfl rfl zc195_d g30 rfl (nb rfl) rfl (evd rfl rfl (ev_mv (c := nI y4) rfl rfl rfl (?_))))))))
                obtain ⟨e31, g32, h⟩ := ob_some h
                refine evd rfl rfl (ev_ia rfl rfl rfl ⟨(geti_some g32).1, (geti_some g32).2.1⟩ (evd rfl rfl (ev_ldE (i := y4) (n := 1) (off := 0) (v := nI e31) rfl rfl zci64 g32 rfl (nb rfl) rfl (evd rfl rfl (ev_fa (c1 := .cref 1 0) (v := .cref 1 0) rfl rfl rfl ⟨_, rfl⟩ rfl (evd rfl rfl (ev_ldB (off := 0) (v := nI a0.1) rfl rfl rfl rfl (nb rfl) rfl (evd rfl rfl (ev_bin (c1 := nI a0.1) (c2 := nI 1) rfl rfl rfl (?_))))))))))
                obtain ⟨v33, g34, h⟩ := ob_some h
                refine evd rfl rfl (ev_call (era rfl rfl (era rfl rfl (era rfl rfl eran))) (spec_l1In_s g34) (evd rfl rfl (ev_un (c1 := .bool v33) rfl trivial (evdn ?_))))
                refine ls_keep [(1, .box [nI a0.1, dL c195_d a0.2.1, dL ci64 a0.2.2]), (3, nI y2), (4, nI y4), (78, .bool (!v33))] ⟨kr, kr, kr, kr, trivial⟩ rfl ?_
                rcases cond_some h with ⟨g35, h⟩ | ⟨g35, h⟩
                · refine ls_cT rfl g35 ?_
                  refine ls_rs tbOk ?_
                  refine evs (ev_ac rfl nofun rfl (evn ?_))
                  refine ls_keep [(2, .bool false)] ⟨kr, trivial⟩ rfl ?_
                  refine ls_ret ?_
                  have q0 := (Option.some.inj h).symm
                  have r0 := hr2
                  rw [q0] at r0
                  have q1 := (Option.some.inj r0).symm
                  have r1 := hr1
                  rw [q1] at r1
                  have hr := Option.some.inj r1
                  rw [← hr]
                  exact ⟨.inl rfl, rfl⟩
                · refine ls_cF rfl g35 ?_
                  refine ls_skip ?_
                  refine hK28 _ (ls_keep [(1, .box [nI a0.1, dL c195_d a0.2.1, dL ci64 a0.2.2]), (3, nI y2), (4, nI y4)] ⟨kr, kr, kr, trivial⟩ rfl ?_)
                  refine ls_rgn tbOk ?_
                  refine evs (ev_mv (c := nI y4) rfl rfl rfl (evs (ev_bin (c1 := nI y4) (c2 := nI 1) rfl rfl rfl (evs (ev_as (c := nI (IntKind.i64.wrap (y4 + 1))) rfl rfl rfl (evn ?_))))))
                  exact hN _ (IntKind.i64.wrap (y4 + 1)) h ⟨kr, kr, kr, trivial⟩
              · refine ls_cF rfl g27 ?_
                refine ls_exit ?_
                have q0 := (Option.some.inj h).symm
                have r0 := hr2
                rw [q0] at r0
                exact kXspec_IsValidQuery_B2 () r0 _ ⟨kr, kr, trivial⟩
        · refine ls_cF rfl g11 ?_
          refine ls_exit ?_
          have q0 := (Option.some.inj h).symm
          have r0 := hr1
          rw [q0] at r0
          exact kXspec_IsValidQuery_B1 () r0 _ ⟨kr, trivial⟩
def spec_IsPermutation_B1 (a0 : List Int) (rec : Int → Option (Sum (Unit) (Bool))) (y1 : Int) : Option (Sum (Unit) (Bool)) := cond (decide (y1 < (List.length a0 : Int))) (obind (geti a0 y1) fun e5 => obind (spec_l1In e5 0 (IntKind.i64.wrap ((List.length a0 : Int) - 1))) fun v7 => cond (!v7) (some (.inr false)) (chk ((0 : Int) ≤ 0 ∧ 0 ≤ y1 ∧ y1 ≤ (List.length a0 : Int)) (obind (geti a0 y1) fun e11 => obind (spec_l7Find (subl a0 0 y1) e11) fun v13 => cond (decide (0 ≤ v13)) (some (.inr false)) (rec (IntKind.i64.wrap (y1 + 1)))))) (some (.inl ()))
def spec_IsPermutation (a0 : List Int) : Option (Bool) := obind (loopF (spec_IsPermutation_B1 a0) fz 0) fun o1 => (match o1 with
  | .inl _ => (some (decide ((List.length a0 : Int) ≤ 5)))
  | .inr r => some r)
theorem spec_IsPermutation_s {a0 : List Int} {r : Bool} (h : spec_IsPermutation a0 = some r) : SoundAt Try.prog 206 [dL ci64 a0] (.bool r) := by
  unfold spec_IsPermutation at h
  refine sound_lit tbOk lit206 (nb rfl) rfl ?_
  unfold c206
  refine ls_keep [(0, dL ci64 a0)] ⟨kr, trivial⟩ rfl ?_
  refine ls_rs tbOk ?_
  refine evs (ev_ac rfl nofun rfl (evn ?_))
  refine ls_keep [(0, dL ci64 a0)] ⟨kr, trivial⟩ rfl ?_
  refine ls_seq_k fun K1 hK1 => ?_
  refine ls_rs tbOk ?_
  refine evs (ev_ac rfl nofun rfl (evn ?_))
  refine ls_keep [(0, dL ci64 a0), (3, nI 0)] ⟨kr, kr, trivial⟩ rfl ?_
  obtain ⟨o1, hl, hr1⟩ := ob_some h
  clear h
  have kXspec_IsPermutation_B1 : ∀ (_ : Unit), (some (decide ((List.length a0 : Int) ≤ 5))) = some r → ∀ σ' : PS, okK σ' [(0, dL ci64 a0)] → K1 σ' := by
    intro _ h σ' hk
    refine hK1 _ (ls_keep [(0, dL ci64 a0)] hk rfl ?_)
    refine ls_rs tbOk ?_
    refine evs (ev_mv (c := dL ci64 a0) rfl rfl rfl (evs (ev_len (c1 := dL ci64 a0) rfl rfl rfl (evs (ev_bin (c1 := nI (List.length a0 : Int)) (c2 := nI 5) rfl rfl rfl (evs (ev_as (c := .bool (decide ((List.length a0 : Int) ≤ 5))) rfl rfl rfl (evn ?_))))))))
    refine ls_keep [(2, .bool (decide ((List.length a0 : Int) ≤ 5)))] ⟨kr, trivial⟩ rfl ?_
    refine ls_ret ?_
    have hr := Option.some.inj h
    rw [← hr]
    exact ⟨.inl rfl, rfl⟩
  refine ls_rec (fun (y1 : Int) => [(0, dL ci64 a0), (3, nI y1)]) (spec_IsPermutation_B1 a0) fz 0 o1 hl ⟨kr, kr, trivial⟩ (fun _ => rfl) ?_
  rintro m y1 N h hN
  unfold spec_IsPermutation_B1 at h
  refine ls_seq_k fun K2 hK2 => ?_
  refine ls_rs tbOk ?_
  refine evs (ev_mv (c := nI y1) rfl rfl rfl (evs (ev_mv (c := dL ci64 a0) rfl rfl rfl (evs (ev_len (c1 := dL ci64 a0) rfl rfl rfl (evs (ev_bin (c1 := nI y1) (c2 := nI (List.length a0 : Int)) rfl rfl rfl (evn ?_))))))))
  refine ls_keep [(0, dL ci64 a0), (3, nI y1), (7, .bool (decide (y1 < (List.length a0 : Int))))] ⟨kr, kr, kr, trivial⟩ rfl ?_
  rcases cond_some h with ⟨g3, h⟩ | ⟨g3, h⟩
  · refine ls_cT rfl g3 ?_
    refine ls_skip ?_
    refine hK2 _ (ls_keep [(0, dL ci64 a0), (3, nI y1)] ⟨kr, kr, trivial⟩ rfl ?_)
    refine ls_seq_k fun K4 hK4 => ?_
    refine ls_blk ?_
    refine ls_rd tbOk mixed (by kernel_rfl) ?_
    refine evd rfl rfl (ev_mv (c := dL ci64 a0) rfl rfl rfl (evd rfl rfl (ev_mv (c := nI y1) rfl rfl rfl (?_))))
    obtain ⟨e5, g6, h⟩ := ob_some h
    refine evd rfl rfl (ev_ia rfl rfl rfl ⟨(geti_some g6).1, (geti_some g6).2.1⟩ (evd rfl rfl (ev_ldE (i := y1) (n := 1) (off := 0) (v := nI e5) rfl rfl zci64 g6 rfl (nb rfl) rfl (evd rfl rfl (ev_mv (c := dL ci64 a0) rfl rfl rfl (evd rfl rfl (ev_len (c1 := dL ci64 a0) rfl rfl rfl (evd rfl rfl (ev_bin (c1 := nI (List.length a0 : Int)) (c2 := nI 1) rfl rfl rfl (?_))))))))))
    obtain ⟨v7, g8, h⟩ := ob_some h
    refine evd rfl rfl (ev_call (era rfl rfl (era rfl rfl (era rfl rfl eran))) (spec_l1In_s g8) (evd rfl rfl (ev_un (c1 := .bool v7) rfl trivial (evd rfl rfl (ev_mv (c := .bool (!v7)) rfl rfl rfl (?_))))))
    rcases cond_some h with ⟨g9, h⟩ | ⟨g9, h⟩
    · refine evd rfl rfl (ev_gs rfl rfl (isb_T g9) (evd rfl rfl (ev_gs rfl rfl (isb_T g9) (evd rfl rfl (ev_gs rfl rfl (isb_T g9) (evd rfl rfl (ev_gs rfl rfl (isb_T g9) (evd rfl rfl (ev_gs rfl rfl (isb_T g9) (evd rfl rfl (ev_gs rfl rfl (isb_T g9) (evd rfl rfl (ev_gs rfl rfl (isb_T g9) (evd rfl rfl (ev_gs rfl rfl (isb_T g9) (evd rfl rfl (ev_gs rfl rfl (isb_T g9) (evd rfl rfl (ev_pkT (c1 := .bool true) rfl g9 rfl rfl (evdn ?_))))))))))))))))))))
      refine ls_keep [(0, dL ci64 a0), (3, nI y1), (29, .bool true)] ⟨kr, kr, kr, trivial⟩ rfl ?_
      refine ls_cT rfl rfl ?_
      refine ls_rs tbOk ?_
      refine evs (ev_ac rfl nofun rfl (evn ?_))
      refine ls_keep [(2, .bool false)] ⟨kr, trivial⟩ rfl ?_
      refine ls_ret ?_
      have q0 := (Option.some.inj h).symm
      have r0 := hr1
      rw [q0] at r0
      have hr := Option.some.inj r0
      rw [← hr]
      exact ⟨.inl rfl, rfl⟩
    · refine evd rfl rfl (ev_gr rfl (congrArg V.bool g9) (ev_mv (c := dL ci64 a0) rfl rfl rfl (evd rfl rfl (ev_gr rfl (congrArg V.bool g9) (ev_mv (c := nI y1) rfl rfl rfl (?_))))))
      obtain ⟨g10, h⟩ := chk_some h
      refine evd rfl rfl (ev_gr rfl (congrArg V.bool g9) (ev_sle (lst := a0) rfl rfl zci64 rfl rfl g10 (evd rfl rfl (ev_gr rfl (congrArg V.bool g9) (ev_mv (c := dL ci64 a0) rfl rfl rfl (evd rfl rfl (ev_gr rfl (congrArg V.bool g9) (ev_mv (c := nI y1) rfl rfl rfl (?_)))))))))
      obtain ⟨e11, g12, h⟩ := ob_some h
      refine evd rfl rfl (ev_gr rfl (congrArg V.bool g9) (ev_ia rfl rfl rfl ⟨(geti_some g12).1, (geti_some g12).2.1⟩ (evd rfl rfl (ev_gr rfl (congrArg V.bool g9) (ev_ldE (i := y1) (n := 1) (off := 0) (v := nI e11) rfl rfl zci64 g12 rfl (nb rfl) rfl (?_))))))
      obtain ⟨v13, g14, h⟩ := ob_some h
      refine evd rfl rfl (ev_gr rfl (congrArg V.bool g9) (ev_call (era rfl (erD eci64 _) (era rfl rfl eran)) (spec_l7Find_s g14) (evd rfl rfl (ev_gr rfl (congrArg V.bool g9) (ev_bin (c1 := nI v13) (c2 := nI 0) rfl rfl rfl (evd rfl rfl (ev_pkF (c1 := .bool (decide (0 ≤ v13))) rfl g9 rfl rfl (evdn ?_))))))))
      refine ls_keep [(0, dL ci64 a0), (3, nI y1), (29, .bool (decide (0 ≤ v13)))] ⟨kr, kr, kr, trivial⟩ rfl ?_
      rcases cond_some h with ⟨g15, h⟩ | ⟨g15, h⟩
      · refine ls_cT rfl g15 ?_
        refine ls_rs tbOk ?_
        refine evs (ev_ac rfl nofun rfl (evn ?_))
        refine ls_keep [(2, .bool false)] ⟨kr, trivial⟩ rfl ?_
        refine ls_ret ?_
        have q0 := (Option.some.inj h).symm
        have r0 := hr1
        rw [q0] at r0
        have hr := Option.some.inj r0
        rw [← hr]
        exact ⟨.inl rfl, rfl⟩
      · refine ls_cF rfl g15 ?_
        refine ls_skip ?_
        refine hK4 _ (ls_keep [(0, dL ci64 a0), (3, nI y1)] ⟨kr, kr, trivial⟩ rfl ?_)
        refine ls_rgn tbOk ?_
        refine evs (ev_mv (c := nI y1) rfl rfl rfl (evs (ev_bin (c1 := nI y1) (c2 := nI 1) rfl rfl rfl (evs (ev_as (c := nI (IntKind.i64.wrap (y1 + 1))) rfl rfl rfl (evn ?_))))))
        exact hN _ (IntKind.i64.wrap (y1 + 1)) h ⟨kr, kr, trivial⟩
  · refine ls_cF rfl g3 ?_
    refine ls_exit ?_
    have q0 := (Option.some.inj h).symm
    have r0 := hr1
    rw [q0] at r0
    exact kXspec_IsPermutation_B1 () r0 _ ⟨kr, trivial⟩
def spec_IsValidOrder_J1 (x2 : Bool) : Option (Bool) := some x2
def spec_IsValidOrder (a0 : Y91) (a1 : List Int) : Option (Bool) := obind (spec_IsValidQuery a0) fun v3 => cond v3 (cond ((List.length a1 : Int) == a0.1) (obind (spec_IsPermutation a1) fun v7 => spec_IsValidOrder_J1 v7) (spec_IsValidOrder_J1 false)) (spec_IsValidOrder_J1 false)
theorem spec_IsValidOrder_s {a0 : Y91} {a1 : List Int} {r : Bool} (h : spec_IsValidOrder a0 a1 = some r) : SoundAt Try.prog 125 [.agg (c92_ddd a0), dL ci64 a1] (.bool r) := by
  unfold spec_IsValidOrder at h
  refine sound_lit tbOk lit125 (nb rfl) rfl ?_
  unfold c125
  refine ls_keep [(0, .agg (c92_ddd a0)), (1, dL ci64 a1)] ⟨kr, kr, trivial⟩ rfl ?_
  refine ls_rs tbOk ?_
  refine evs (ev_bx (c1 := .agg (c92_ddd a0)) rfl rfl rfl (evs (ev_ac rfl nofun rfl (evn ?_))))
  refine ls_keep [(1, dL ci64 a1), (2, .box [nI a0.1, dL c195_d a0.2.1, dL ci64 a0.2.2])] ⟨kr, kr, trivial⟩ rfl ?_
  refine ls_rs_k tbOk fun K1 hK1 => ?_
  have kspec_IsValidOrder_J1 : ∀ (x2 : Bool), spec_IsValidOrder_J1 x2 = some r → ∀ σ' : PS, okK σ' [(4, .bool x2)] → K1 σ' := by
    intro x2 h σ' hk
    unfold spec_IsValidOrder_J1 at h
    refine hK1 _ (ls_keep [(4, .bool x2)] hk rfl ?_)
    refine ls_ret ?_
    have hr := Option.some.inj h
    rw [← hr]
    exact ⟨.inl rfl, rfl⟩
  refine evs (ev_ldB (off := 0) (v := .agg (c92_ddd a0)) rfl rfl rfl rfl (nb rfl) rfl (?_))
  obtain ⟨v3, g4, h⟩ := ob_some h
  refine evs (ev_call (era rfl (erg (erc rfl (erc (erD ec195_d _) (erc (erD eci64 _) rfl)))) eran) (spec_IsValidQuery_s g4) (evs (ev_mv (c := .bool v3) rfl rfl rfl (?_))))
  rcases cond_some h with ⟨g5, h⟩ | ⟨g5, h⟩
  · refine evs (ev_gr rfl (congrArg V.bool g5) (ev_mv (c := dL ci64 a1) rfl rfl rfl (evs (ev_gr rfl (congrArg V.bool g5) (ev_len (c1 := dL ci64 a1) rfl rfl rfl (evs (ev_gr rfl (congrArg V.bool g5) (ev_fa (c1 := .cref 2 0) (v := .cref 2 0) rfl rfl rfl ⟨_, rfl⟩ rfl (evs (ev_gr rfl (congrArg V.bool g5) (ev_ldB (off := 0) (v := nI a0.1) rfl rfl rfl rfl (nb rfl) rfl (evs (ev_gr rfl (congrArg V.bool g5) (ev_bin (c1 := nI (List.length a1 : Int)) (c2 := nI a0.1) rfl rfl rfl (evs (ev_pkT (c1 := .bool ((List.length a1 : Int) == a0.1)) rfl g5 rfl rfl (evs (ev_mv (c := .bool ((List.length a1 : Int) == a0.1)) rfl rfl rfl (?_)))))))))))))))))))
    rcases cond_some h with ⟨g6, h⟩ | ⟨g6, h⟩
    · refine evs (ev_gr rfl (congrArg V.bool g6) (ev_mv (c := dL ci64 a1) rfl rfl rfl (?_)))
      obtain ⟨v7, g8, h⟩ := ob_some h
      refine evs (ev_gr rfl (congrArg V.bool g6) (ev_call (era rfl (erD eci64 _) eran) (spec_IsPermutation_s g8) (evs (ev_pkT (c1 := .bool v7) rfl g6 rfl rfl (evs (ev_as (c := .bool v7) rfl rfl rfl (evn ?_)))))))
      exact kspec_IsValidOrder_J1 v7 h _ ⟨kr, trivial⟩
    · refine evs (ev_gs rfl rfl (isb_F g6) (evs (ev_gs rfl rfl (isb_F g6) (evs (ev_pkF (c1 := .bool false) rfl g6 rfl rfl (evs (ev_as (c := .bool false) rfl rfl rfl (evn ?_))))))))
      exact kspec_IsValidOrder_J1 false h _ ⟨kr, trivial⟩
  · refine evs (ev_gs rfl rfl (isb_F g5) (evs (ev_gs rfl rfl (isb_F g5) (evs (ev_gs rfl rfl (isb_F g5) (evs (ev_gs rfl rfl (isb_F g5) (evs (ev_gs rfl rfl (isb_F g5) (evs (ev_pkF (c1 := .bool false) rfl g5 rfl rfl (evs (ev_mv (c := .bool false) rfl rfl rfl (evs (ev_gs rfl rfl rfl (evs (ev_gs rfl rfl rfl (evs (ev_pkF (c1 := .bool false) rfl rfl rfl rfl (evs (ev_as (c := .bool false) rfl rfl rfl (evn ?_))))))))))))))))))))))
    exact kspec_IsValidOrder_J1 false h _ ⟨kr, trivial⟩
def spec_l5Copy_B1 (a0 : Y127) (rec : ((List (List Int)) × Int) → Option ((List (List Int)))) (s : (List (List Int)) × Int) : Option ((List (List Int))) := match s with
  | (y1, y2) => cond (decide (y2 < (List.length a0.2 : Int))) (obind (geti a0.2 y2) fun e6 => chk (List.length ([] : List Int) + List.length e6 ≤ lim) (chk (List.length y1 + List.length ([([] : List Int) ++ e6]) ≤ lim) (rec ((y1 ++ ([([] : List Int) ++ e6])), (IntKind.i64.wrap (y2 + 1)))))) (some y1)
def spec_l5Copy (a0 : Y127) : Option (Y127) := obind (loopF (spec_l5Copy_B1 a0) fz (([] : List (List Int)), 0)) fun z2 => some (a0.1, z2)
theorem spec_l5Copy_s {a0 : Y127} {r : Y127} (h : spec_l5Copy a0 = some r) : SoundAt Try.prog 172 [.agg (c128_dd a0)] (.agg (c128_oo r)) := by
  unfold spec_l5Copy at h
  refine sound_lit tbOk lit172 (nb rfl) rfl ?_
  unfold c172
  refine ls_keep [(0, .agg (c128_dd a0))] ⟨kr, trivial⟩ rfl ?_
  refine ls_rs tbOk ?_
  refine evs (ev_bx (c1 := .agg (c128_dd a0)) rfl rfl rfl (evs (ev_al rfl rfl (evn ?_))))
  refine ls_keep [(1, .box [nI a0.1, dL c25_d a0.2]), (2, .box [nI 0, oL 25 c25_o []])] ⟨kr, kr, trivial⟩ rfl ?_
  refine ls_rs tbOk ?_
  refine evs (ev_fa (c1 := .cref 1 0) (v := .cref 1 0) rfl rfl rfl ⟨_, rfl⟩ rfl (evs (ev_ldB (off := 0) (v := nI a0.1) rfl rfl rfl rfl (nb rfl) rfl (evs (ev_bd [nI a0.1] (cs := [nI a0.1, oL 25 c25_o []]) rfl ⟨rfl, trivial⟩ rfl (evs (ev_al rfl rfl (evs (ev_st (off := 0) (c1 := .agg [nI a0.1, oL 25 c25_o []]) (cs' := [nI a0.1, oL 25 c25_o []]) rfl rfl rfl rfl rfl rfl (nb rfl) rfl (evn ?_))))))))))
  refine ls_keep [(1, .box [nI a0.1, dL c25_d a0.2]), (2, .box [nI 0, oL 25 c25_o []]), (3, .box [nI a0.1, oL 25 c25_o []])] ⟨kr, kr, kr, trivial⟩ rfl ?_
  refine ls_seq_k fun K1 hK1 => ?_
  refine ls_rs tbOk ?_
  refine evs (ev_ac rfl nofun rfl (evn ?_))
  refine ls_keep [(1, .box [nI a0.1, dL c25_d a0.2]), (2, .box [nI 0, oL 25 c25_o []]), (3, .box [nI a0.1, oL 25 c25_o []]), (4, nI 0)] ⟨kr, kr, kr, kr, trivial⟩ rfl ?_
  obtain ⟨o1, hl, hr1⟩ := ob_some h
  clear h
  have kXspec_l5Copy_B1 : ∀ (z2 : List (List Int)), (some (a0.1, z2)) = some r → ∀ σ' : PS, okK σ' [(2, .box [nI 0, oL 25 c25_o []]), (3, .box [nI a0.1, oL 25 c25_o z2])] → K1 σ' := by
    intro z2 h σ' hk
    refine hK1 _ (ls_keep [(2, .box [nI 0, oL 25 c25_o []]), (3, .box [nI a0.1, oL 25 c25_o z2])] hk rfl ?_)
    refine ls_rs tbOk ?_
    refine evs (ev_ldBt (off := 0) (v := .agg [nI a0.1, oL 25 c25_o z2]) (c' := .box [nI a0.1, dL c25_o z2]) rfl rfl rfl rfl (nb rfl) rfl rfl (evs (ev_st (off := 0) (c1 := .agg [nI a0.1, oL 25 c25_o z2]) (cs' := [nI a0.1, oL 25 c25_o z2]) rfl rfl rfl rfl rfl rfl (nb rfl) rfl (evn ?_))))
    refine ls_keep [(2, .box [nI a0.1, oL 25 c25_o z2])] ⟨kr, trivial⟩ rfl ?_
    refine ls_ret ?_
    have hr := Option.some.inj h
    rw [← hr]
    exact ⟨.inl rfl, rfl⟩
  refine ls_rec (fun (s : (List (List Int)) × Int) => match s with | (y1, y2) => [(1, .box [nI a0.1, dL c25_d a0.2]), (2, .box [nI 0, oL 25 c25_o []]), (3, .box [nI a0.1, oL 25 c25_o y1]), (4, nI y2)]) (spec_l5Copy_B1 a0) fz (([] : List (List Int)), 0) o1 hl ⟨kr, kr, kr, kr, trivial⟩ (fun _ => rfl) ?_
  rintro m ⟨y1, y2⟩ N h hN
  unfold spec_l5Copy_B1 at h
  dsimp only at h
  refine ls_seq_k fun K3 hK3 => ?_
  refine ls_rs tbOk ?_
  refine evs (ev_mv (c := nI y2) rfl rfl rfl (evs (ev_fa (c1 := .cref 1 0) (v := .cref 1 1) rfl rfl rfl ⟨_, rfl⟩ rfl (evs (ev_ldB (off := 1) (v := dL c25_d a0.2) rfl rfl rfl rfl (nb rfl) rfl (evs (ev_len (c1 := dL c25_d a0.2) rfl rfl rfl (evs (ev_bin (c1 := nI y2) (c2 := nI (List.length a0.2 : Int)) rfl rfl rfl (evn ?_))))))))))
  refine ls_keep [(1, .box [nI a0.1, dL c25_d a0.2]), (2, .box [nI 0, oL 25 c25_o []]), (3, .box [nI a0.1, oL 25 c25_o y1]), (4, nI y2), (12, .bool (decide (y2 < (List.length a0.2 : Int))))] ⟨kr, kr, kr, kr, kr, trivial⟩ rfl ?_
  rcases cond_some h with ⟨g4, h⟩ | ⟨g4, h⟩
  · refine ls_cT rfl g4 ?_
    refine ls_skip ?_
    refine hK3 _ (ls_keep [(1, .box [nI a0.1, dL c25_d a0.2]), (2, .box [nI 0, oL 25 c25_o []]), (3, .box [nI a0.1, oL 25 c25_o y1]), (4, nI y2)] ⟨kr, kr, kr, kr, trivial⟩ rfl ?_)
    refine ls_seq_k fun K5 hK5 => ?_
    refine ls_blk ?_
    refine ls_drw tbOk mixed (by kernel_rfl) ?_
    refine evd rfl rfl (ev_fa (c1 := .cref 3 0) (v := .cref 3 1) rfl rfl rfl ⟨_, rfl⟩ rfl (evd rfl rfl (ev_ldBt (off := 1) (v := oL 25 c25_o y1) (c' := .box [nI a0.1, dL c25_o y1]) rfl rfl rfl rfl (nb rfl) rfl rfl (evd rfl rfl (ev_bs [] (cs := []) rfl trivial rfl (nb rfl) rfl (evd rfl rfl (ev_fa (c1 := .cref 1 0) (v := .cref 1 1) rfl rfl rfl ⟨_, rfl⟩ rfl (evd rfl rfl (ev_ldB (off := 1) (v := dL c25_d a0.2) rfl rfl rfl rfl (nb rfl) rfl (evd rfl rfl (ev_mv (c := nI y2) rfl rfl rfl (?_))))))))))))
    obtain ⟨e6, g7, h⟩ := ob_some h
    refine evd rfl rfl (ev_ia rfl rfl rfl ⟨(geti_some g7).1, (geti_some g7).2.1⟩ (evd rfl rfl (ev_ldEt (i := y2) (n := 1) (off := 0) (v := dL ci64 e6) rfl rfl zc25_d g7 rfl (nb rfl) rfl (?_))))
    obtain ⟨g8, h⟩ := chk_some h
    refine evd rfl rfl (ev_app (f := ci64) (l := ([] : List Int)) (m := e6) (c2 := dL ci64 e6) rfl rfl rfl (flat_len zci64 e6) rfl (map_dg (fun _ => rfl) _) g8 rfl (evd rfl rfl (ev_bs [oL 3 ci64 (([] : List Int) ++ e6)] (cs := [oL 3 ci64 (([] : List Int) ++ e6)]) rfl ⟨rfl, trivial⟩ rfl (nb rfl) rfl (?_))))
    obtain ⟨g9, h⟩ := chk_some h
    refine evd rfl rfl (ev_app (f := c25_o) (l := y1) (m := ([([] : List Int) ++ e6])) (c2 := oL 25 c25_o ([([] : List Int) ++ e6])) rfl rfl rfl (flat_len zc25_o ([([] : List Int) ++ e6])) rfl rfl g9 rfl (evd rfl rfl (ev_fa (c1 := .cref 3 0) (v := .cref 3 1) rfl rfl rfl ⟨_, rfl⟩ rfl (evd rfl rfl (ev_st (off := 1) (c1 := oL 25 c25_o (y1 ++ ([([] : List Int) ++ e6]))) (cs' := [nI a0.1, oL 25 c25_o (y1 ++ ([([] : List Int) ++ e6]))]) rfl rfl rfl rfl rfl rfl (nb rfl) rfl (evdn ?_))))))
    refine hK5 _ (ls_keep [(1, .box [nI a0.1, dL c25_d a0.2]), (2, .box [nI 0, oL 25 c25_o []]), (3, .box [nI a0.1, oL 25 c25_o (y1 ++ ([([] : List Int) ++ e6]))]), (4, nI y2)] ⟨kr, kr, kr, kr, trivial⟩ rfl ?_)
    refine ls_rgn tbOk ?_
    refine evs (ev_mv (c := nI y2) rfl rfl rfl (evs (ev_bin (c1 := nI y2) (c2 := nI 1) rfl rfl rfl (evs (ev_as (c := nI (IntKind.i64.wrap (y2 + 1))) rfl rfl rfl (evn ?_))))))
    exact hN _ ((y1 ++ ([([] : List Int) ++ e6])), (IntKind.i64.wrap (y2 + 1))) h ⟨kr, kr, kr, kr, trivial⟩
  · refine ls_cF rfl g4 ?_
    refine ls_exit ?_
    have q0 := (Option.some.inj h).symm
    have r0 := hr1
    rw [q0] at r0
    exact kXspec_l5Copy_B1 y1 r0 _ ⟨kr, kr, trivial⟩
def spec_LookupRelation_B1 (a0 : List Y207) (a1 : List UInt8) (rec : Int → Option (Sum (Unit) (Y127 × Bool))) (y1 : Int) : Option (Sum (Unit) (Y127 × Bool)) := cond (decide (y1 < (List.length a0 : Int))) (obind (spec_IsValidDatabase a0) fun v4 => cond v4 (obind (geti a0 y1) fun e8 => cond (e8.1 == a1) (obind (geti a0 y1) fun e11 => obind (spec_l5Copy e11.2) fun v13 => some (.inr (v13, true))) (rec (IntKind.i64.wrap (y1 + 1)))) (some (.inl ()))) (some (.inl ()))
def spec_LookupRelation (a0 : List Y207) (a1 : List UInt8) : Option (Y127 × Bool) := obind (loopF (spec_LookupRelation_B1 a0 a1) fz 0) fun o1 => (match o1 with
  | .inl _ => (some ((0, []), false))
  | .inr r => some r)
theorem spec_LookupRelation_s {a0 : List Y207} {a1 : List UInt8} {r : Y127 × Bool} (h : spec_LookupRelation a0 a1 = some r) : SoundAt Try.prog 73 [.agg [dL c208_dd a0], .str a1] (.tup [.agg (c128_oo r.1), .bool r.2]) := by
  unfold spec_LookupRelation at h
  refine sound_lit tbOk lit73 (nb rfl) rfl ?_
  unfold c73
  refine ls_keep [(0, .agg [dL c208_dd a0]), (1, .str a1)] ⟨kr, kr, trivial⟩ rfl ?_
  refine ls_rs tbOk ?_
  refine evs (ev_bx (c1 := .agg [dL c208_dd a0]) rfl rfl rfl (evs (ev_al rfl rfl (evs (ev_ac rfl nofun rfl (evn ?_))))))
  refine ls_keep [(1, .str a1), (2, .box [dL c208_dd a0]), (4, .box [nI 0, oL 25 c25_o []])] ⟨kr, kr, kr, trivial⟩ rfl ?_
  refine ls_seq_k fun K1 hK1 => ?_
  refine ls_rs tbOk ?_
  refine evs (ev_ac rfl nofun rfl (evn ?_))
  refine ls_keep [(1, .str a1), (2, .box [dL c208_dd a0]), (4, .box [nI 0, oL 25 c25_o []]), (6, nI 0)] ⟨kr, kr, kr, kr, trivial⟩ rfl ?_
  obtain ⟨o1, hl, hr1⟩ := ob_some h
  clear h
  have kXspec_LookupRelation_B1 : ∀ (_ : Unit), (some ((0, []), false)) = some r → ∀ σ' : PS, okK σ' [(4, .box [nI 0, oL 25 c25_o []])] → K1 σ' := by
    intro _ h σ' hk
    refine hK1 _ (ls_keep [(4, .box [nI 0, oL 25 c25_o []])] hk rfl ?_)
    refine ls_rs tbOk ?_
    refine evs (ev_bd [] (cs := [nI 0, oL 25 c25_o []]) rfl trivial rfl (evs (ev_st (off := 0) (c1 := .agg [nI 0, oL 25 c25_o []]) (cs' := [nI 0, oL 25 c25_o []]) rfl rfl rfl rfl rfl rfl (nb rfl) rfl (evs (ev_ac rfl nofun rfl (evn ?_))))))
    refine ls_keep [(4, .box [nI 0, oL 25 c25_o []]), (5, .bool false)] ⟨kr, kr, trivial⟩ rfl ?_
    refine ls_ret ?_
    have hr := Option.some.inj h
    rw [← hr]
    exact ⟨.inl rfl, rfl⟩
  refine ls_rec (fun (y1 : Int) => [(1, .str a1), (2, .box [dL c208_dd a0]), (4, .box [nI 0, oL 25 c25_o []]), (6, nI y1)]) (spec_LookupRelation_B1 a0 a1) fz 0 o1 hl ⟨kr, kr, kr, kr, trivial⟩ (fun _ => rfl) ?_
  rintro m y1 N h hN
  unfold spec_LookupRelation_B1 at h
  refine ls_seq_k fun K2 hK2 => ?_
  refine ls_rs tbOk ?_
  refine evs (ev_mv (c := nI y1) rfl rfl rfl (evs (ev_fa (c1 := .cref 2 0) (v := .cref 2 0) rfl rfl rfl ⟨_, rfl⟩ rfl (evs (ev_ldB (off := 0) (v := dL c208_dd a0) rfl rfl rfl rfl (nb rfl) rfl (evs (ev_len (c1 := dL c208_dd a0) rfl rfl rfl (evs (ev_bin (c1 := nI y1) (c2 := nI (List.length a0 : Int)) rfl rfl rfl (evs (ev_mv (c := .bool (decide (y1 < (List.length a0 : Int)))) rfl rfl rfl (?_))))))))))))
  rcases cond_some h with ⟨g3, h⟩ | ⟨g3, h⟩
  · refine evs (ev_gr rfl (congrArg V.bool g3) (ev_ldB (off := 0) (v := .agg [dL c208_dd a0]) rfl rfl rfl rfl (nb rfl) rfl (?_)))
    obtain ⟨v4, g5, h⟩ := ob_some h
    refine evs (ev_gr rfl (congrArg V.bool g3) (ev_call (era rfl (erg (erc (erD ec208_dd _) rfl)) eran) (spec_IsValidDatabase_s g5) (evs (ev_pkT (c1 := .bool v4) rfl g3 rfl rfl (evn ?_)))))
    refine ls_keep [(1, .str a1), (2, .box [dL c208_dd a0]), (4, .box [nI 0, oL 25 c25_o []]), (6, nI y1), (15, .bool v4)] ⟨kr, kr, kr, kr, kr, trivial⟩ rfl ?_
    rcases cond_some h with ⟨g6, h⟩ | ⟨g6, h⟩
    · refine ls_cT rfl g6 ?_
      refine ls_skip ?_
      refine hK2 _ (ls_keep [(1, .str a1), (2, .box [dL c208_dd a0]), (4, .box [nI 0, oL 25 c25_o []]), (6, nI y1)] ⟨kr, kr, kr, kr, trivial⟩ rfl ?_)
      refine ls_seq_k fun K7 hK7 => ?_
      refine ls_blk ?_
      refine ls_rs tbOk ?_
      refine evs (ev_fa (c1 := .cref 2 0) (v := .cref 2 0) rfl rfl rfl ⟨_, rfl⟩ rfl (evs (ev_ldB (off := 0) (v := dL c208_dd a0) rfl rfl rfl rfl (nb rfl) rfl (evs (ev_mv (c := nI y1) rfl rfl rfl (?_))))))
      obtain ⟨e8, g9, h⟩ := ob_some h
      refine evs (ev_ia rfl rfl rfl ⟨(geti_some g9).1, (geti_some g9).2.1⟩ (evs (ev_fa (c1 := .adr (a0.flatMap c208_dd) (Int.toNat y1 * 3)) (v := .adr (a0.flatMap c208_dd) (Int.toNat y1 * 3)) rfl rfl rfl trivial rfl (evs (ev_ldE (i := y1) (n := 3) (off := 0) (v := .str e8.1) rfl rfl zc208_dd g9 rfl (nb rfl) rfl (evs (ev_mv (c := .str a1) rfl rfl rfl (evs (ev_bin (c1 := .str e8.1) (c2 := .str a1) rfl rfl trivial (evn ?_))))))))))
      refine ls_keep [(1, .str a1), (2, .box [dL c208_dd a0]), (4, .box [nI 0, oL 25 c25_o []]), (6, nI y1), (25, .bool (e8.1 == a1))] ⟨kr, kr, kr, kr, kr, trivial⟩ rfl ?_
      rcases cond_some h with ⟨g10, h⟩ | ⟨g10, h⟩
      · refine ls_cT rfl g10 ?_
        refine ls_rs tbOk ?_
        refine evs (ev_fa (c1 := .cref 2 0) (v := .cref 2 0) rfl rfl rfl ⟨_, rfl⟩ rfl (evs (ev_ldB (off := 0) (v := dL c208_dd a0) rfl rfl rfl rfl (nb rfl) rfl (evs (ev_mv (c := nI y1) rfl rfl rfl (?_))))))
        obtain ⟨e11, g12, h⟩ := ob_some h
        refine evs (ev_ia rfl rfl rfl ⟨(geti_some g12).1, (geti_some g12).2.1⟩ (evs (ev_fa (c1 := .adr (a0.flatMap c208_dd) (Int.toNat y1 * 3)) (v := .adr (a0.flatMap c208_dd) (Int.toNat y1 * 3 + 1)) rfl rfl rfl trivial rfl (evs (ev_ldE (i := y1) (n := 3) (off := 1) (v := .agg (c128_dd e11.2)) rfl rfl zc208_dd g12 rfl (nb rfl) rfl (?_))))))
        obtain ⟨v13, g14, h⟩ := ob_some h
        refine evs (ev_call (era rfl (erg (erc rfl (erc (erD ec25_d _) rfl))) eran) (spec_l5Copy_s g14) (evs (ev_st (off := 0) (c1 := .agg (c128_oo v13)) (cs' := [nI v13.1, oL 25 c25_o v13.2]) rfl rfl rfl rfl rfl rfl (nb rfl) rfl (evs (ev_ac rfl nofun rfl (evn ?_))))))
        refine ls_keep [(4, .box [nI v13.1, oL 25 c25_o v13.2]), (5, .bool true)] ⟨kr, kr, trivial⟩ rfl ?_
        refine ls_ret ?_
        have q0 := (Option.some.inj h).symm
        have r0 := hr1
        rw [q0] at r0
        have hr := Option.some.inj r0
        rw [← hr]
        exact ⟨.inl rfl, rfl⟩
      · refine ls_cF rfl g10 ?_
        refine ls_skip ?_
        refine hK7 _ (ls_keep [(1, .str a1), (2, .box [dL c208_dd a0]), (4, .box [nI 0, oL 25 c25_o []]), (6, nI y1)] ⟨kr, kr, kr, kr, trivial⟩ rfl ?_)
        refine ls_rgn tbOk ?_
        refine evs (ev_mv (c := nI y1) rfl rfl rfl (evs (ev_bin (c1 := nI y1) (c2 := nI 1) rfl rfl rfl (evs (ev_as (c := nI (IntKind.i64.wrap (y1 + 1))) rfl rfl rfl (evn ?_))))))
        exact hN _ (IntKind.i64.wrap (y1 + 1)) h ⟨kr, kr, kr, kr, trivial⟩
    · refine ls_cF rfl g6 ?_
      refine ls_exit ?_
      have q0 := (Option.some.inj h).symm
      have r0 := hr1
      rw [q0] at r0
      exact kXspec_LookupRelation_B1 () r0 _ ⟨kr, trivial⟩
  · refine evs (ev_gs rfl rfl (isb_F g3) (evs (ev_gs rfl rfl (isb_F g3) (evs (ev_pkF (c1 := .bool false) rfl g3 rfl rfl (evn ?_))))))
    refine ls_keep [(1, .str a1), (2, .box [dL c208_dd a0]), (4, .box [nI 0, oL 25 c25_o []]), (6, nI y1), (15, .bool false)] ⟨kr, kr, kr, kr, kr, trivial⟩ rfl ?_
    refine ls_cF rfl rfl ?_
    refine ls_exit ?_
    have q0 := (Option.some.inj h).symm
    have r0 := hr1
    rw [q0] at r0
    exact kXspec_LookupRelation_B1 () r0 _ ⟨kr, trivial⟩
end Go.Proofs.Ytkcfahfladikkaa
