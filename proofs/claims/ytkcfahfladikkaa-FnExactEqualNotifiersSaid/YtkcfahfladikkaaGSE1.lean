/-
  Functions of the program as typed functions, printed by gen.py, and that the program's functions do what they say. No conditions.
-/
import Derived.Test.YtkcfahfladikkaaKb
import Derived.Test.YtkcfahfladikkaaLit2E1
namespace Go.Proofs.Ytkcfahfladikkaa
open Go.RowKit
set_option linter.unusedVariables false
set_option maxRecDepth 100000
set_option maxHeartbeats 1000000
def laws_szIntS (a0 : List Int) (a1 : Int) : Option (Int) := cond (decide ((IntKind.i64.wrap (a1 - (List.length a0 : Int))) < 0)) (some (-1)) (some (IntKind.i64.wrap (a1 - (List.length a0 : Int))))
theorem laws_szIntS_s {a0 : List Int} {a1 : Int} {r : Int} (h : laws_szIntS a0 a1 = some r) : SoundAt Try.prog 72 [dL ci64 a0, nI a1] (nI r) := by
  unfold laws_szIntS at h
  refine sound_lit tbOk lit72 (nb rfl) rfl ?_
  unfold c72
  refine ls_keep [(0, dL ci64 a0), (1, nI a1)] ⟨kr, kr, trivial⟩ rfl ?_
  refine ls_rs tbOk ?_
  refine evs (ev_ac rfl nofun rfl (evn ?_))
  refine ls_keep [(0, dL ci64 a0), (1, nI a1)] ⟨kr, kr, trivial⟩ rfl ?_
  refine ls_rs tbOk ?_
  refine evs (ev_mv (c := nI a1) rfl rfl rfl (evs (ev_mv (c := dL ci64 a0) rfl rfl rfl (evs (ev_len (c1 := dL ci64 a0) rfl rfl rfl (evs (ev_bin (c1 := nI a1) (c2 := nI (List.length a0 : Int)) rfl rfl rfl (evs (ev_as (c := nI (IntKind.i64.wrap (a1 - (List.length a0 : Int)))) rfl rfl rfl (evn ?_))))))))))
  refine ls_keep [(1, nI (IntKind.i64.wrap (a1 - (List.length a0 : Int))))] ⟨kr, trivial⟩ rfl ?_
  refine ls_seq_k fun K1 hK1 => ?_
  refine ls_rs tbOk ?_
  refine evs (ev_mv (c := nI (IntKind.i64.wrap (a1 - (List.length a0 : Int)))) rfl rfl rfl (evs (ev_bin (c1 := nI (IntKind.i64.wrap (a1 - (List.length a0 : Int)))) (c2 := nI 0) rfl rfl rfl (evn ?_))))
  refine ls_keep [(1, nI (IntKind.i64.wrap (a1 - (List.length a0 : Int)))), (10, .bool (decide ((IntKind.i64.wrap (a1 - (List.length a0 : Int))) < 0)))] ⟨kr, kr, trivial⟩ rfl ?_
  rcases cond_some h with ⟨g2, h⟩ | ⟨g2, h⟩
  · refine ls_cT rfl g2 ?_
    refine ls_rs tbOk ?_
    refine evs (ev_ac rfl nofun rfl (evn ?_))
    refine ls_keep [(4, nI (-1))] ⟨kr, trivial⟩ rfl ?_
    refine ls_ret ?_
    have hr := Option.some.inj h
    rw [← hr]
    exact ⟨.inl rfl, rfl⟩
  · refine ls_cF rfl g2 ?_
    refine ls_skip ?_
    refine hK1 _ (ls_keep [(1, nI (IntKind.i64.wrap (a1 - (List.length a0 : Int))))] ⟨kr, trivial⟩ rfl ?_)
    refine ls_rs tbOk ?_
    refine evs (ev_mv (c := nI (IntKind.i64.wrap (a1 - (List.length a0 : Int)))) rfl rfl rfl (evs (ev_as (c := nI (IntKind.i64.wrap (a1 - (List.length a0 : Int)))) rfl rfl rfl (evn ?_))))
    refine ls_keep [(4, nI (IntKind.i64.wrap (a1 - (List.length a0 : Int))))] ⟨kr, trivial⟩ rfl ?_
    refine ls_ret ?_
    have hr := Option.some.inj h
    rw [← hr]
    exact ⟨.inl rfl, rfl⟩
def c25_d (x : List Int) : List V := [dL ci64 x]
theorem zc25_d (x : List Int) : (c25_d x).length = 1 := rfl
theorem ec25_d (x : List Int) : erL (c25_d x) = c25_d x := (erc (erD eci64 _) rfl)
def laws_szIntSS_B1 (a0 : List (List Int)) (rec : (Int × Int) → Option (Sum (Int) (Int))) (s : Int × Int) : Option (Sum (Int) (Int)) := match s with
  | (y1, y2) => cond (decide (y2 < (List.length a0 : Int))) (obind (geti a0 y2) fun e8 => obind (laws_szIntS e8 y1) fun v10 => cond (decide (v10 < 0)) (some (.inr (-1))) (rec (v10, (IntKind.i64.wrap (y2 + 1))))) (some (.inl y1))
def laws_szIntSS (a0 : List (List Int)) (a1 : Int) : Option (Int) := cond (decide ((IntKind.i64.wrap (a1 - (List.length a0 : Int))) < 0)) (some (-1)) (obind (loopF (laws_szIntSS_B1 a0) fz ((IntKind.i64.wrap (a1 - (List.length a0 : Int))), 0)) fun o1 => (match o1 with
  | .inl z4 => (some z4)
  | .inr r => some r))
theorem laws_szIntSS_s {a0 : List (List Int)} {a1 : Int} {r : Int} (h : laws_szIntSS a0 a1 = some r) : SoundAt Try.prog 199 [dL c25_d a0, nI a1] (nI r) := by
  unfold laws_szIntSS at h
  refine sound_lit tbOk lit199 (nb rfl) rfl ?_
  unfold c199
  refine ls_keep [(0, dL c25_d a0), (1, nI a1)] ⟨kr, kr, trivial⟩ rfl ?_
  refine ls_rs tbOk ?_
  refine evs (ev_ac rfl nofun rfl (evn ?_))
  refine ls_keep [(0, dL c25_d a0), (1, nI a1)] ⟨kr, kr, trivial⟩ rfl ?_
  refine ls_rs tbOk ?_
  refine evs (ev_mv (c := nI a1) rfl rfl rfl (evs (ev_mv (c := dL c25_d a0) rfl rfl rfl (evs (ev_len (c1 := dL c25_d a0) rfl rfl rfl (evs (ev_bin (c1 := nI a1) (c2 := nI (List.length a0 : Int)) rfl rfl rfl (evs (ev_as (c := nI (IntKind.i64.wrap (a1 - (List.length a0 : Int)))) rfl rfl rfl (evn ?_))))))))))
  refine ls_keep [(0, dL c25_d a0), (1, nI (IntKind.i64.wrap (a1 - (List.length a0 : Int))))] ⟨kr, kr, trivial⟩ rfl ?_
  refine ls_seq_k fun K1 hK1 => ?_
  refine ls_rs tbOk ?_
  refine evs (ev_mv (c := nI (IntKind.i64.wrap (a1 - (List.length a0 : Int)))) rfl rfl rfl (evs (ev_bin (c1 := nI (IntKind.i64.wrap (a1 - (List.length a0 : Int)))) (c2 := nI 0) rfl rfl rfl (evn ?_))))
  refine ls_keep [(0, dL c25_d a0), (1, nI (IntKind.i64.wrap (a1 - (List.length a0 : Int)))), (11, .bool (decide ((IntKind.i64.wrap (a1 - (List.length a0 : Int))) < 0)))] ⟨kr, kr, kr, trivial⟩ rfl ?_
  rcases cond_some h with ⟨g2, h⟩ | ⟨g2, h⟩
  · refine ls_cT rfl g2 ?_
    refine ls_rs tbOk ?_
    refine evs (ev_ac rfl nofun rfl (evn ?_))
    refine ls_keep [(4, nI (-1))] ⟨kr, trivial⟩ rfl ?_
    refine ls_ret ?_
    have hr := Option.some.inj h
    rw [← hr]
    exact ⟨.inl rfl, rfl⟩
  · refine ls_cF rfl g2 ?_
    refine ls_skip ?_
    refine hK1 _ (ls_keep [(0, dL c25_d a0), (1, nI (IntKind.i64.wrap (a1 - (List.length a0 : Int))))] ⟨kr, kr, trivial⟩ rfl ?_)
    refine ls_seq_k fun K3 hK3 => ?_
    refine ls_rs tbOk ?_
    refine evs (ev_ac rfl nofun rfl (evn ?_))
    refine ls_keep [(0, dL c25_d a0), (1, nI (IntKind.i64.wrap (a1 - (List.length a0 : Int)))), (5, nI 0)] ⟨kr, kr, kr, trivial⟩ rfl ?_
    obtain ⟨o1, hl, hr1⟩ := ob_some h
    clear h
    have kXlaws_szIntSS_B1 : ∀ (z4 : Int), (some z4) = some r → ∀ σ' : PS, okK σ' [(1, nI z4)] → K3 σ' := by
      intro z4 h σ' hk
      refine hK3 _ (ls_keep [(1, nI z4)] hk rfl ?_)
      refine ls_rs tbOk ?_
      refine evs (ev_mv (c := nI z4) rfl rfl rfl (evs (ev_as (c := nI z4) rfl rfl rfl (evn ?_))))
      refine ls_keep [(4, nI z4)] ⟨kr, trivial⟩ rfl ?_
      refine ls_ret ?_
      have hr := Option.some.inj h
      rw [← hr]
      exact ⟨.inl rfl, rfl⟩
    refine ls_rec (fun (s : Int × Int) => match s with | (y1, y2) => [(0, dL c25_d a0), (1, nI y1), (5, nI y2)]) (laws_szIntSS_B1 a0) fz ((IntKind.i64.wrap (a1 - (List.length a0 : Int))), 0) o1 hl ⟨kr, kr, kr, trivial⟩ (fun _ => rfl) ?_
    rintro m ⟨y1, y2⟩ N h hN
    unfold laws_szIntSS_B1 at h
    dsimp only at h
    refine ls_seq_k fun K5 hK5 => ?_
    refine ls_rs tbOk ?_
    refine evs (ev_mv (c := nI y2) rfl rfl rfl (evs (ev_mv (c := dL c25_d a0) rfl rfl rfl (evs (ev_len (c1 := dL c25_d a0) rfl rfl rfl (evs (ev_bin (c1 := nI y2) (c2 := nI (List.length a0 : Int)) rfl rfl rfl (evn ?_))))))))
    refine ls_keep [(0, dL c25_d a0), (1, nI y1), (5, nI y2), (15, .bool (decide (y2 < (List.length a0 : Int))))] ⟨kr, kr, kr, kr, trivial⟩ rfl ?_
    rcases cond_some h with ⟨g6, h⟩ | ⟨g6, h⟩
    · refine ls_cT rfl g6 ?_
      refine ls_skip ?_
      refine hK5 _ (ls_keep [(0, dL c25_d a0), (1, nI y1), (5, nI y2)] ⟨kr, kr, kr, trivial⟩ rfl ?_)
      refine ls_seq_k fun K7 hK7 => ?_
      refine ls_blk ?_
      refine ls_rs tbOk ?_
      refine evs (ev_mv (c := dL c25_d a0) rfl rfl rfl (evs (ev_mv (c := nI y2) rfl rfl rfl (?_))))
      obtain ⟨e8, g9, h⟩ := ob_some h
      refine evs (ev_ia rfl rfl rfl ⟨(geti_some g9).1, (geti_some g9).2.1⟩ (evs (ev_ldE (i := y2) (n := 1) (off := 0) (v := dL ci64 e8) rfl rfl zc25_d g9 rfl (nb rfl) rfl (evs (ev_mv (c := nI y1) rfl rfl rfl (?_))))))
      obtain ⟨v10, g11, h⟩ := ob_some h
      refine evs (ev_call (era rfl (erD eci64 _) (era rfl rfl eran)) (laws_szIntS_s g11) (evs (ev_as (c := nI v10) rfl rfl rfl (evn ?_))))
      refine ls_keep [(0, dL c25_d a0), (1, nI v10), (5, nI y2)] ⟨kr, kr, kr, trivial⟩ rfl ?_
      refine ls_rs tbOk ?_
      refine evs (ev_mv (c := nI v10) rfl rfl rfl (evs (ev_bin (c1 := nI v10) (c2 := nI 0) rfl rfl rfl (evn ?_))))
      refine ls_keep [(0, dL c25_d a0), (1, nI v10), (5, nI y2), (25, .bool (decide (v10 < 0)))] ⟨kr, kr, kr, kr, trivial⟩ rfl ?_
      rcases cond_some h with ⟨g12, h⟩ | ⟨g12, h⟩
      · refine ls_cT rfl g12 ?_
        refine ls_rs tbOk ?_
        refine evs (ev_ac rfl nofun rfl (evn ?_))
        refine ls_keep [(4, nI (-1))] ⟨kr, trivial⟩ rfl ?_
        refine ls_ret ?_
        have q0 := (Option.some.inj h).symm
        have r0 := hr1
        rw [q0] at r0
        have hr := Option.some.inj r0
        rw [← hr]
        exact ⟨.inl rfl, rfl⟩
      · refine ls_cF rfl g12 ?_
        refine ls_skip ?_
        refine hK7 _ (ls_keep [(0, dL c25_d a0), (1, nI v10), (5, nI y2)] ⟨kr, kr, kr, trivial⟩ rfl ?_)
        refine ls_rgn tbOk ?_
        refine evs (ev_mv (c := nI y2) rfl rfl rfl (evs (ev_bin (c1 := nI y2) (c2 := nI 1) rfl rfl rfl (evs (ev_as (c := nI (IntKind.i64.wrap (y2 + 1))) rfl rfl rfl (evn ?_))))))
        exact hN _ (v10, (IntKind.i64.wrap (y2 + 1))) h ⟨kr, kr, kr, trivial⟩
    · refine ls_cF rfl g6 ?_
      refine ls_exit ?_
      have q0 := (Option.some.inj h).symm
      have r0 := hr1
      rw [q0] at r0
      exact kXlaws_szIntSS_B1 y1 r0 _ ⟨kr, trivial⟩
abbrev Y127 := Int × (List (List Int))
def c204_dd (x : Y127) : List V := [nI x.1, dL c25_d x.2]
theorem zc204_dd (x : Y127) : (c204_dd x).length = 2 := rfl
theorem ec204_dd (x : Y127) : erL (c204_dd x) = c204_dd x := (erc rfl (erc (erD ec25_d _) rfl))
def laws_szRelation (a0 : Y127) (a1 : Int) : Option (Int) := obind (laws_szIntSS a0.2 a1) fun v1 => cond (decide (v1 < 0)) (some (-1)) (some v1)
theorem laws_szRelation_s {a0 : Y127} {a1 : Int} {r : Int} (h : laws_szRelation a0 a1 = some r) : SoundAt Try.prog 235 [.agg (c204_dd a0), nI a1] (nI r) := by
  unfold laws_szRelation at h
  refine sound_lit tbOk lit235 (nb rfl) rfl ?_
  unfold c235
  refine ls_keep [(0, .agg (c204_dd a0)), (1, nI a1)] ⟨kr, kr, trivial⟩ rfl ?_
  refine ls_rs tbOk ?_
  refine evs (ev_bx (c1 := .agg (c204_dd a0)) rfl rfl rfl (evs (ev_ac rfl nofun rfl (evn ?_))))
  refine ls_keep [(1, nI a1), (2, .box [nI a0.1, dL c25_d a0.2])] ⟨kr, kr, trivial⟩ rfl ?_
  refine ls_rs tbOk ?_
  refine evs (ev_fa (c1 := .cref 2 0) (v := .cref 2 1) rfl rfl rfl ⟨_, rfl⟩ rfl (evs (ev_ldB (off := 1) (v := dL c25_d a0.2) rfl rfl rfl rfl (nb rfl) rfl (evs (ev_mv (c := nI a1) rfl rfl rfl (?_))))))
  obtain ⟨v1, g2, h⟩ := ob_some h
  refine evs (ev_call (era rfl (erD ec25_d _) (era rfl rfl eran)) (laws_szIntSS_s g2) (evs (ev_as (c := nI v1) rfl rfl rfl (evn ?_))))
  refine ls_keep [(1, nI v1)] ⟨kr, trivial⟩ rfl ?_
  refine ls_seq_k fun K3 hK3 => ?_
  refine ls_rs tbOk ?_
  refine evs (ev_mv (c := nI v1) rfl rfl rfl (evs (ev_bin (c1 := nI v1) (c2 := nI 0) rfl rfl rfl (evn ?_))))
  refine ls_keep [(1, nI v1), (10, .bool (decide (v1 < 0)))] ⟨kr, kr, trivial⟩ rfl ?_
  rcases cond_some h with ⟨g4, h⟩ | ⟨g4, h⟩
  · refine ls_cT rfl g4 ?_
    refine ls_rs tbOk ?_
    refine evs (ev_ac rfl nofun rfl (evn ?_))
    refine ls_keep [(4, nI (-1))] ⟨kr, trivial⟩ rfl ?_
    refine ls_ret ?_
    have hr := Option.some.inj h
    rw [← hr]
    exact ⟨.inl rfl, rfl⟩
  · refine ls_cF rfl g4 ?_
    refine ls_skip ?_
    refine hK3 _ (ls_keep [(1, nI v1)] ⟨kr, trivial⟩ rfl ?_)
    refine ls_rs tbOk ?_
    refine evs (ev_mv (c := nI v1) rfl rfl rfl (evs (ev_as (c := nI v1) rfl rfl rfl (evn ?_))))
    refine ls_keep [(4, nI v1)] ⟨kr, trivial⟩ rfl ?_
    refine ls_ret ?_
    have hr := Option.some.inj h
    rw [← hr]
    exact ⟨.inl rfl, rfl⟩
abbrev Y205 := (List UInt8) × Y127
def c206_dd (x : Y205) : List V := [.str x.1, nI x.2.1, dL c25_d x.2.2]
theorem zc206_dd (x : Y205) : (c206_dd x).length = 3 := rfl
theorem ec206_dd (x : Y205) : erL (c206_dd x) = c206_dd x := (erc rfl (erc rfl (erc (erD ec25_d _) rfl)))
def laws_szTable (a0 : Y205) (a1 : Int) : Option (Int) := cond (decide ((IntKind.i64.wrap (a1 - (List.length a0.1 : Int))) < 0)) (some (-1)) (obind (laws_szRelation a0.2 (IntKind.i64.wrap (a1 - (List.length a0.1 : Int)))) fun v3 => cond (decide (v3 < 0)) (some (-1)) (some v3))
theorem laws_szTable_s {a0 : Y205} {a1 : Int} {r : Int} (h : laws_szTable a0 a1 = some r) : SoundAt Try.prog 171 [.agg (c206_dd a0), nI a1] (nI r) := by
  unfold laws_szTable at h
  refine sound_lit tbOk lit171 (nb rfl) rfl ?_
  unfold c171
  refine ls_keep [(0, .agg (c206_dd a0)), (1, nI a1)] ⟨kr, kr, trivial⟩ rfl ?_
  refine ls_rs tbOk ?_
  refine evs (ev_bx (c1 := .agg (c206_dd a0)) rfl rfl rfl (evs (ev_ac rfl nofun rfl (evn ?_))))
  refine ls_keep [(1, nI a1), (2, .box [.str a0.1, nI a0.2.1, dL c25_d a0.2.2])] ⟨kr, kr, trivial⟩ rfl ?_
  refine ls_rs tbOk ?_
  refine evs (ev_mv (c := nI a1) rfl rfl rfl (evs (ev_fa (c1 := .cref 2 0) (v := .cref 2 0) rfl rfl rfl ⟨_, rfl⟩ rfl (evs (ev_ldB (off := 0) (v := .str a0.1) rfl rfl rfl rfl (nb rfl) rfl (evs (ev_lens (z := []) rfl rfl (evs (ev_bin (c1 := nI a1) (c2 := nI (List.length a0.1 : Int)) rfl rfl rfl (evs (ev_as (c := nI (IntKind.i64.wrap (a1 - (List.length a0.1 : Int)))) rfl rfl rfl (evn ?_))))))))))))
  refine ls_keep [(1, nI (IntKind.i64.wrap (a1 - (List.length a0.1 : Int)))), (2, .box [.str a0.1, nI a0.2.1, dL c25_d a0.2.2])] ⟨kr, kr, trivial⟩ rfl ?_
  refine ls_seq_k fun K1 hK1 => ?_
  refine ls_rs tbOk ?_
  refine evs (ev_mv (c := nI (IntKind.i64.wrap (a1 - (List.length a0.1 : Int)))) rfl rfl rfl (evs (ev_bin (c1 := nI (IntKind.i64.wrap (a1 - (List.length a0.1 : Int)))) (c2 := nI 0) rfl rfl rfl (evn ?_))))
  refine ls_keep [(1, nI (IntKind.i64.wrap (a1 - (List.length a0.1 : Int)))), (2, .box [.str a0.1, nI a0.2.1, dL c25_d a0.2.2]), (11, .bool (decide ((IntKind.i64.wrap (a1 - (List.length a0.1 : Int))) < 0)))] ⟨kr, kr, kr, trivial⟩ rfl ?_
  rcases cond_some h with ⟨g2, h⟩ | ⟨g2, h⟩
  · refine ls_cT rfl g2 ?_
    refine ls_rs tbOk ?_
    refine evs (ev_ac rfl nofun rfl (evn ?_))
    refine ls_keep [(4, nI (-1))] ⟨kr, trivial⟩ rfl ?_
    refine ls_ret ?_
    have hr := Option.some.inj h
    rw [← hr]
    exact ⟨.inl rfl, rfl⟩
  · refine ls_cF rfl g2 ?_
    refine ls_skip ?_
    refine hK1 _ (ls_keep [(1, nI (IntKind.i64.wrap (a1 - (List.length a0.1 : Int)))), (2, .box [.str a0.1, nI a0.2.1, dL c25_d a0.2.2])] ⟨kr, kr, trivial⟩ rfl ?_)
    refine ls_rs tbOk ?_
    refine evs (ev_fa (c1 := .cref 2 0) (v := .cref 2 1) rfl rfl rfl ⟨_, rfl⟩ rfl (evs (ev_ldB (off := 1) (v := .agg (c204_dd a0.2)) rfl rfl rfl rfl (nb rfl) rfl (evs (ev_mv (c := nI (IntKind.i64.wrap (a1 - (List.length a0.1 : Int)))) rfl rfl rfl (?_))))))
    obtain ⟨v3, g4, h⟩ := ob_some h
    refine evs (ev_call (era rfl (erg (erc rfl (erc (erD ec25_d _) rfl))) (era rfl rfl eran)) (laws_szRelation_s g4) (evs (ev_as (c := nI v3) rfl rfl rfl (evn ?_))))
    refine ls_keep [(1, nI v3)] ⟨kr, trivial⟩ rfl ?_
    refine ls_seq_k fun K5 hK5 => ?_
    refine ls_rs tbOk ?_
    refine evs (ev_mv (c := nI v3) rfl rfl rfl (evs (ev_bin (c1 := nI v3) (c2 := nI 0) rfl rfl rfl (evn ?_))))
    refine ls_keep [(1, nI v3), (17, .bool (decide (v3 < 0)))] ⟨kr, kr, trivial⟩ rfl ?_
    rcases cond_some h with ⟨g6, h⟩ | ⟨g6, h⟩
    · refine ls_cT rfl g6 ?_
      refine ls_rs tbOk ?_
      refine evs (ev_ac rfl nofun rfl (evn ?_))
      refine ls_keep [(4, nI (-1))] ⟨kr, trivial⟩ rfl ?_
      refine ls_ret ?_
      have hr := Option.some.inj h
      rw [← hr]
      exact ⟨.inl rfl, rfl⟩
    · refine ls_cF rfl g6 ?_
      refine ls_skip ?_
      refine hK5 _ (ls_keep [(1, nI v3)] ⟨kr, trivial⟩ rfl ?_)
      refine ls_rs tbOk ?_
      refine evs (ev_mv (c := nI v3) rfl rfl rfl (evs (ev_as (c := nI v3) rfl rfl rfl (evn ?_))))
      refine ls_keep [(4, nI v3)] ⟨kr, trivial⟩ rfl ?_
      refine ls_ret ?_
      have hr := Option.some.inj h
      rw [← hr]
      exact ⟨.inl rfl, rfl⟩
def laws_szTableS_B1 (a0 : List Y205) (rec : (Int × Int) → Option (Sum (Int) (Int))) (s : Int × Int) : Option (Sum (Int) (Int)) := match s with
  | (y1, y2) => cond (decide (y2 < (List.length a0 : Int))) (obind (geti a0 y2) fun e8 => obind (laws_szTable e8 y1) fun v10 => cond (decide (v10 < 0)) (some (.inr (-1))) (rec (v10, (IntKind.i64.wrap (y2 + 1))))) (some (.inl y1))
def laws_szTableS (a0 : List Y205) (a1 : Int) : Option (Int) := cond (decide ((IntKind.i64.wrap (a1 - (List.length a0 : Int))) < 0)) (some (-1)) (obind (loopF (laws_szTableS_B1 a0) fz ((IntKind.i64.wrap (a1 - (List.length a0 : Int))), 0)) fun o1 => (match o1 with
  | .inl z4 => (some z4)
  | .inr r => some r))
theorem laws_szTableS_s {a0 : List Y205} {a1 : Int} {r : Int} (h : laws_szTableS a0 a1 = some r) : SoundAt Try.prog 71 [dL c206_dd a0, nI a1] (nI r) := by
  unfold laws_szTableS at h
  refine sound_lit tbOk lit71 (nb rfl) rfl ?_
  unfold c71
  refine ls_keep [(0, dL c206_dd a0), (1, nI a1)] ⟨kr, kr, trivial⟩ rfl ?_
  refine ls_rs tbOk ?_
  refine evs (ev_ac rfl nofun rfl (evn ?_))
  refine ls_keep [(0, dL c206_dd a0), (1, nI a1)] ⟨kr, kr, trivial⟩ rfl ?_
  refine ls_rs tbOk ?_
  refine evs (ev_mv (c := nI a1) rfl rfl rfl (evs (ev_mv (c := dL c206_dd a0) rfl rfl rfl (evs (ev_len (c1 := dL c206_dd a0) rfl rfl rfl (evs (ev_bin (c1 := nI a1) (c2 := nI (List.length a0 : Int)) rfl rfl rfl (evs (ev_as (c := nI (IntKind.i64.wrap (a1 - (List.length a0 : Int)))) rfl rfl rfl (evn ?_))))))))))
  refine ls_keep [(0, dL c206_dd a0), (1, nI (IntKind.i64.wrap (a1 - (List.length a0 : Int))))] ⟨kr, kr, trivial⟩ rfl ?_
  refine ls_seq_k fun K1 hK1 => ?_
  refine ls_rs tbOk ?_
  refine evs (ev_mv (c := nI (IntKind.i64.wrap (a1 - (List.length a0 : Int)))) rfl rfl rfl (evs (ev_bin (c1 := nI (IntKind.i64.wrap (a1 - (List.length a0 : Int)))) (c2 := nI 0) rfl rfl rfl (evn ?_))))
  refine ls_keep [(0, dL c206_dd a0), (1, nI (IntKind.i64.wrap (a1 - (List.length a0 : Int)))), (11, .bool (decide ((IntKind.i64.wrap (a1 - (List.length a0 : Int))) < 0)))] ⟨kr, kr, kr, trivial⟩ rfl ?_
  rcases cond_some h with ⟨g2, h⟩ | ⟨g2, h⟩
  · refine ls_cT rfl g2 ?_
    refine ls_rs tbOk ?_
    refine evs (ev_ac rfl nofun rfl (evn ?_))
    refine ls_keep [(4, nI (-1))] ⟨kr, trivial⟩ rfl ?_
    refine ls_ret ?_
    have hr := Option.some.inj h
    rw [← hr]
    exact ⟨.inl rfl, rfl⟩
  · refine ls_cF rfl g2 ?_
    refine ls_skip ?_
    refine hK1 _ (ls_keep [(0, dL c206_dd a0), (1, nI (IntKind.i64.wrap (a1 - (List.length a0 : Int))))] ⟨kr, kr, trivial⟩ rfl ?_)
    refine ls_seq_k fun K3 hK3 => ?_
    refine ls_rs tbOk ?_
    refine evs (ev_ac rfl nofun rfl (evn ?_))
    refine ls_keep [(0, dL c206_dd a0), (1, nI (IntKind.i64.wrap (a1 - (List.length a0 : Int)))), (5, nI 0)] ⟨kr, kr, kr, trivial⟩ rfl ?_
    obtain ⟨o1, hl, hr1⟩ := ob_some h
    clear h
    have kXlaws_szTableS_B1 : ∀ (z4 : Int), (some z4) = some r → ∀ σ' : PS, okK σ' [(1, nI z4)] → K3 σ' := by
      intro z4 h σ' hk
      refine hK3 _ (ls_keep [(1, nI z4)] hk rfl ?_)
      refine ls_rs tbOk ?_
      refine evs (ev_mv (c := nI z4) rfl rfl rfl (evs (ev_as (c := nI z4) rfl rfl rfl (evn ?_))))
      refine ls_keep [(4, nI z4)] ⟨kr, trivial⟩ rfl ?_
      refine ls_ret ?_
      have hr := Option.some.inj h
      rw [← hr]
      exact ⟨.inl rfl, rfl⟩
    refine ls_rec (fun (s : Int × Int) => match s with | (y1, y2) => [(0, dL c206_dd a0), (1, nI y1), (5, nI y2)]) (laws_szTableS_B1 a0) fz ((IntKind.i64.wrap (a1 - (List.length a0 : Int))), 0) o1 hl ⟨kr, kr, kr, trivial⟩ (fun _ => rfl) ?_
    rintro m ⟨y1, y2⟩ N h hN
    unfold laws_szTableS_B1 at h
    dsimp only at h
    refine ls_seq_k fun K5 hK5 => ?_
    refine ls_rs tbOk ?_
    refine evs (ev_mv (c := nI y2) rfl rfl rfl (evs (ev_mv (c := dL c206_dd a0) rfl rfl rfl (evs (ev_len (c1 := dL c206_dd a0) rfl rfl rfl (evs (ev_bin (c1 := nI y2) (c2 := nI (List.length a0 : Int)) rfl rfl rfl (evn ?_))))))))
    refine ls_keep [(0, dL c206_dd a0), (1, nI y1), (5, nI y2), (15, .bool (decide (y2 < (List.length a0 : Int))))] ⟨kr, kr, kr, kr, trivial⟩ rfl ?_
    rcases cond_some h with ⟨g6, h⟩ | ⟨g6, h⟩
    · refine ls_cT rfl g6 ?_
      refine ls_skip ?_
      refine hK5 _ (ls_keep [(0, dL c206_dd a0), (1, nI y1), (5, nI y2)] ⟨kr, kr, kr, trivial⟩ rfl ?_)
      refine ls_seq_k fun K7 hK7 => ?_
      refine ls_blk ?_
      refine ls_rs tbOk ?_
      refine evs (ev_mv (c := dL c206_dd a0) rfl rfl rfl (evs (ev_mv (c := nI y2) rfl rfl rfl (?_))))
      obtain ⟨e8, g9, h⟩ := ob_some h
      refine evs (ev_ia rfl rfl rfl ⟨(geti_some g9).1, (geti_some g9).2.1⟩ (evs (ev_ldE (i := y2) (n := 3) (off := 0) (v := .agg (c206_dd e8)) rfl rfl zc206_dd g9 rfl (nb rfl) rfl (evs (ev_mv (c := nI y1) rfl rfl rfl (?_))))))
      obtain ⟨v10, g11, h⟩ := ob_some h
      refine evs (ev_call (era rfl (erg (erc rfl (erc rfl (erc (erD ec25_d _) rfl)))) (era rfl rfl eran)) (laws_szTable_s g11) (evs (ev_as (c := nI v10) rfl rfl rfl (evn ?_))))
      refine ls_keep [(0, dL c206_dd a0), (1, nI v10), (5, nI y2)] ⟨kr, kr, kr, trivial⟩ rfl ?_
      refine ls_rs tbOk ?_
      refine evs (ev_mv (c := nI v10) rfl rfl rfl (evs (ev_bin (c1 := nI v10) (c2 := nI 0) rfl rfl rfl (evn ?_))))
      refine ls_keep [(0, dL c206_dd a0), (1, nI v10), (5, nI y2), (25, .bool (decide (v10 < 0)))] ⟨kr, kr, kr, kr, trivial⟩ rfl ?_
      rcases cond_some h with ⟨g12, h⟩ | ⟨g12, h⟩
      · refine ls_cT rfl g12 ?_
        refine ls_rs tbOk ?_
        refine evs (ev_ac rfl nofun rfl (evn ?_))
        refine ls_keep [(4, nI (-1))] ⟨kr, trivial⟩ rfl ?_
        refine ls_ret ?_
        have q0 := (Option.some.inj h).symm
        have r0 := hr1
        rw [q0] at r0
        have hr := Option.some.inj r0
        rw [← hr]
        exact ⟨.inl rfl, rfl⟩
      · refine ls_cF rfl g12 ?_
        refine ls_skip ?_
        refine hK7 _ (ls_keep [(0, dL c206_dd a0), (1, nI v10), (5, nI y2)] ⟨kr, kr, kr, trivial⟩ rfl ?_)
        refine ls_rgn tbOk ?_
        refine evs (ev_mv (c := nI y2) rfl rfl rfl (evs (ev_bin (c1 := nI y2) (c2 := nI 1) rfl rfl rfl (evs (ev_as (c := nI (IntKind.i64.wrap (y2 + 1))) rfl rfl rfl (evn ?_))))))
        exact hN _ (v10, (IntKind.i64.wrap (y2 + 1))) h ⟨kr, kr, kr, trivial⟩
    · refine ls_cF rfl g6 ?_
      refine ls_exit ?_
      have q0 := (Option.some.inj h).symm
      have r0 := hr1
      rw [q0] at r0
      exact kXlaws_szTableS_B1 y1 r0 _ ⟨kr, trivial⟩
def laws_szDatabase (a0 : List Y205) (a1 : Int) : Option (Int) := obind (laws_szTableS a0 a1) fun v1 => cond (decide (v1 < 0)) (some (-1)) (some v1)
theorem laws_szDatabase_s {a0 : List Y205} {a1 : Int} {r : Int} (h : laws_szDatabase a0 a1 = some r) : SoundAt Try.prog 13 [.agg [dL c206_dd a0], nI a1] (nI r) := by
  unfold laws_szDatabase at h
  refine sound_lit tbOk lit13 (nb rfl) rfl ?_
  unfold c13
  refine ls_keep [(0, .agg [dL c206_dd a0]), (1, nI a1)] ⟨kr, kr, trivial⟩ rfl ?_
  refine ls_rs tbOk ?_
  refine evs (ev_bx (c1 := .agg [dL c206_dd a0]) rfl rfl rfl (evs (ev_ac rfl nofun rfl (evn ?_))))
  refine ls_keep [(1, nI a1), (2, .box [dL c206_dd a0])] ⟨kr, kr, trivial⟩ rfl ?_
  refine ls_rs tbOk ?_
  refine evs (ev_fa (c1 := .cref 2 0) (v := .cref 2 0) rfl rfl rfl ⟨_, rfl⟩ rfl (evs (ev_ldB (off := 0) (v := dL c206_dd a0) rfl rfl rfl rfl (nb rfl) rfl (evs (ev_mv (c := nI a1) rfl rfl rfl (?_))))))
  obtain ⟨v1, g2, h⟩ := ob_some h
  refine evs (ev_call (era rfl (erD ec206_dd _) (era rfl rfl eran)) (laws_szTableS_s g2) (evs (ev_as (c := nI v1) rfl rfl rfl (evn ?_))))
  refine ls_keep [(1, nI v1)] ⟨kr, trivial⟩ rfl ?_
  refine ls_seq_k fun K3 hK3 => ?_
  refine ls_rs tbOk ?_
  refine evs (ev_mv (c := nI v1) rfl rfl rfl (evs (ev_bin (c1 := nI v1) (c2 := nI 0) rfl rfl rfl (evn ?_))))
  refine ls_keep [(1, nI v1), (10, .bool (decide (v1 < 0)))] ⟨kr, kr, trivial⟩ rfl ?_
  rcases cond_some h with ⟨g4, h⟩ | ⟨g4, h⟩
  · refine ls_cT rfl g4 ?_
    refine ls_rs tbOk ?_
    refine evs (ev_ac rfl nofun rfl (evn ?_))
    refine ls_keep [(4, nI (-1))] ⟨kr, trivial⟩ rfl ?_
    refine ls_ret ?_
    have hr := Option.some.inj h
    rw [← hr]
    exact ⟨.inl rfl, rfl⟩
  · refine ls_cF rfl g4 ?_
    refine ls_skip ?_
    refine hK3 _ (ls_keep [(1, nI v1)] ⟨kr, trivial⟩ rfl ?_)
    refine ls_rs tbOk ?_
    refine evs (ev_mv (c := nI v1) rfl rfl rfl (evs (ev_as (c := nI v1) rfl rfl rfl (evn ?_))))
    refine ls_keep [(4, nI v1)] ⟨kr, trivial⟩ rfl ?_
    refine ls_ret ?_
    have hr := Option.some.inj h
    rw [← hr]
    exact ⟨.inl rfl, rfl⟩
abbrev Y194 := (List UInt8) × (List Int)
def c231_d (x : Y194) : List V := [.str x.1, dL ci64 x.2]
theorem zc231_d (x : Y194) : (c231_d x).length = 2 := rfl
theorem ec231_d (x : Y194) : erL (c231_d x) = c231_d x := (erc rfl (erc (erD eci64 _) rfl))
def laws_szAtom (a0 : Y194) (a1 : Int) : Option (Int) := cond (decide ((IntKind.i64.wrap (a1 - (List.length a0.1 : Int))) < 0)) (some (-1)) (obind (laws_szIntS a0.2 (IntKind.i64.wrap (a1 - (List.length a0.1 : Int)))) fun v3 => cond (decide (v3 < 0)) (some (-1)) (some v3))
theorem laws_szAtom_s {a0 : Y194} {a1 : Int} {r : Int} (h : laws_szAtom a0 a1 = some r) : SoundAt Try.prog 198 [.agg (c231_d a0), nI a1] (nI r) := by
  unfold laws_szAtom at h
  refine sound_lit tbOk lit198 (nb rfl) rfl ?_
  unfold c198
  refine ls_keep [(0, .agg (c231_d a0)), (1, nI a1)] ⟨kr, kr, trivial⟩ rfl ?_
  refine ls_rs tbOk ?_
  refine evs (ev_bx (c1 := .agg (c231_d a0)) rfl rfl rfl (evs (ev_ac rfl nofun rfl (evn ?_))))
  refine ls_keep [(1, nI a1), (2, .box [.str a0.1, dL ci64 a0.2])] ⟨kr, kr, trivial⟩ rfl ?_
  refine ls_rs tbOk ?_
  refine evs (ev_mv (c := nI a1) rfl rfl rfl (evs (ev_fa (c1 := .cref 2 0) (v := .cref 2 0) rfl rfl rfl ⟨_, rfl⟩ rfl (evs (ev_ldB (off := 0) (v := .str a0.1) rfl rfl rfl rfl (nb rfl) rfl (evs (ev_lens (z := []) rfl rfl (evs (ev_bin (c1 := nI a1) (c2 := nI (List.length a0.1 : Int)) rfl rfl rfl (evs (ev_as (c := nI (IntKind.i64.wrap (a1 - (List.length a0.1 : Int)))) rfl rfl rfl (evn ?_))))))))))))
  refine ls_keep [(1, nI (IntKind.i64.wrap (a1 - (List.length a0.1 : Int)))), (2, .box [.str a0.1, dL ci64 a0.2])] ⟨kr, kr, trivial⟩ rfl ?_
  refine ls_seq_k fun K1 hK1 => ?_
  refine ls_rs tbOk ?_
  refine evs (ev_mv (c := nI (IntKind.i64.wrap (a1 - (List.length a0.1 : Int)))) rfl rfl rfl (evs (ev_bin (c1 := nI (IntKind.i64.wrap (a1 - (List.length a0.1 : Int)))) (c2 := nI 0) rfl rfl rfl (evn ?_))))
  refine ls_keep [(1, nI (IntKind.i64.wrap (a1 - (List.length a0.1 : Int)))), (2, .box [.str a0.1, dL ci64 a0.2]), (11, .bool (decide ((IntKind.i64.wrap (a1 - (List.length a0.1 : Int))) < 0)))] ⟨kr, kr, kr, trivial⟩ rfl ?_
  rcases cond_some h with ⟨g2, h⟩ | ⟨g2, h⟩
  · refine ls_cT rfl g2 ?_
    refine ls_rs tbOk ?_
    refine evs (ev_ac rfl nofun rfl (evn ?_))
    refine ls_keep [(4, nI (-1))] ⟨kr, trivial⟩ rfl ?_
    refine ls_ret ?_
    have hr := Option.some.inj h
    rw [← hr]
    exact ⟨.inl rfl, rfl⟩
  · refine ls_cF rfl g2 ?_
    refine ls_skip ?_
    refine hK1 _ (ls_keep [(1, nI (IntKind.i64.wrap (a1 - (List.length a0.1 : Int)))), (2, .box [.str a0.1, dL ci64 a0.2])] ⟨kr, kr, trivial⟩ rfl ?_)
    refine ls_rs tbOk ?_
    refine evs (ev_fa (c1 := .cref 2 0) (v := .cref 2 1) rfl rfl rfl ⟨_, rfl⟩ rfl (evs (ev_ldB (off := 1) (v := dL ci64 a0.2) rfl rfl rfl rfl (nb rfl) rfl (evs (ev_mv (c := nI (IntKind.i64.wrap (a1 - (List.length a0.1 : Int)))) rfl rfl rfl (?_))))))
    obtain ⟨v3, g4, h⟩ := ob_some h
    refine evs (ev_call (era rfl (erD eci64 _) (era rfl rfl eran)) (laws_szIntS_s g4) (evs (ev_as (c := nI v3) rfl rfl rfl (evn ?_))))
    refine ls_keep [(1, nI v3)] ⟨kr, trivial⟩ rfl ?_
    refine ls_seq_k fun K5 hK5 => ?_
    refine ls_rs tbOk ?_
    refine evs (ev_mv (c := nI v3) rfl rfl rfl (evs (ev_bin (c1 := nI v3) (c2 := nI 0) rfl rfl rfl (evn ?_))))
    refine ls_keep [(1, nI v3), (17, .bool (decide (v3 < 0)))] ⟨kr, kr, trivial⟩ rfl ?_
    rcases cond_some h with ⟨g6, h⟩ | ⟨g6, h⟩
    · refine ls_cT rfl g6 ?_
      refine ls_rs tbOk ?_
      refine evs (ev_ac rfl nofun rfl (evn ?_))
      refine ls_keep [(4, nI (-1))] ⟨kr, trivial⟩ rfl ?_
      refine ls_ret ?_
      have hr := Option.some.inj h
      rw [← hr]
      exact ⟨.inl rfl, rfl⟩
    · refine ls_cF rfl g6 ?_
      refine ls_skip ?_
      refine hK5 _ (ls_keep [(1, nI v3)] ⟨kr, trivial⟩ rfl ?_)
      refine ls_rs tbOk ?_
      refine evs (ev_mv (c := nI v3) rfl rfl rfl (evs (ev_as (c := nI v3) rfl rfl rfl (evn ?_))))
      refine ls_keep [(4, nI v3)] ⟨kr, trivial⟩ rfl ?_
      refine ls_ret ?_
      have hr := Option.some.inj h
      rw [← hr]
      exact ⟨.inl rfl, rfl⟩
def laws_szAtomS_B1 (a0 : List Y194) (rec : (Int × Int) → Option (Sum (Int) (Int))) (s : Int × Int) : Option (Sum (Int) (Int)) := match s with
  | (y1, y2) => cond (decide (y2 < (List.length a0 : Int))) (obind (geti a0 y2) fun e8 => obind (laws_szAtom e8 y1) fun v10 => cond (decide (v10 < 0)) (some (.inr (-1))) (rec (v10, (IntKind.i64.wrap (y2 + 1))))) (some (.inl y1))
def laws_szAtomS (a0 : List Y194) (a1 : Int) : Option (Int) := cond (decide ((IntKind.i64.wrap (a1 - (List.length a0 : Int))) < 0)) (some (-1)) (obind (loopF (laws_szAtomS_B1 a0) fz ((IntKind.i64.wrap (a1 - (List.length a0 : Int))), 0)) fun o1 => (match o1 with
  | .inl z4 => (some z4)
  | .inr r => some r))
theorem laws_szAtomS_s {a0 : List Y194} {a1 : Int} {r : Int} (h : laws_szAtomS a0 a1 = some r) : SoundAt Try.prog 120 [dL c231_d a0, nI a1] (nI r) := by
  unfold laws_szAtomS at h
  refine sound_lit tbOk lit120 (nb rfl) rfl ?_
  unfold c120
  refine ls_keep [(0, dL c231_d a0), (1, nI a1)] ⟨kr, kr, trivial⟩ rfl ?_
  refine ls_rs tbOk ?_
  refine evs (ev_ac rfl nofun rfl (evn ?_))
  refine ls_keep [(0, dL c231_d a0), (1, nI a1)] ⟨kr, kr, trivial⟩ rfl ?_
  refine ls_rs tbOk ?_
  refine evs (ev_mv (c := nI a1) rfl rfl rfl (evs (ev_mv (c := dL c231_d a0) rfl rfl rfl (evs (ev_len (c1 := dL c231_d a0) rfl rfl rfl (evs (ev_bin (c1 := nI a1) (c2 := nI (List.length a0 : Int)) rfl rfl rfl (evs (ev_as (c := nI (IntKind.i64.wrap (a1 - (List.length a0 : Int)))) rfl rfl rfl (evn ?_))))))))))
  refine ls_keep [(0, dL c231_d a0), (1, nI (IntKind.i64.wrap (a1 - (List.length a0 : Int))))] ⟨kr, kr, trivial⟩ rfl ?_
  refine ls_seq_k fun K1 hK1 => ?_
  refine ls_rs tbOk ?_
  refine evs (ev_mv (c := nI (IntKind.i64.wrap (a1 - (List.length a0 : Int)))) rfl rfl rfl (evs (ev_bin (c1 := nI (IntKind.i64.wrap (a1 - (List.length a0 : Int)))) (c2 := nI 0) rfl rfl rfl (evn ?_))))
  refine ls_keep [(0, dL c231_d a0), (1, nI (IntKind.i64.wrap (a1 - (List.length a0 : Int)))), (11, .bool (decide ((IntKind.i64.wrap (a1 - (List.length a0 : Int))) < 0)))] ⟨kr, kr, kr, trivial⟩ rfl ?_
  rcases cond_some h with ⟨g2, h⟩ | ⟨g2, h⟩
  · refine ls_cT rfl g2 ?_
    refine ls_rs tbOk ?_
    refine evs (ev_ac rfl nofun rfl (evn ?_))
    refine ls_keep [(4, nI (-1))] ⟨kr, trivial⟩ rfl ?_
    refine ls_ret ?_
    have hr := Option.some.inj h
    rw [← hr]
    exact ⟨.inl rfl, rfl⟩
  · refine ls_cF rfl g2 ?_
    refine ls_skip ?_
    refine hK1 _ (ls_keep [(0, dL c231_d a0), (1, nI (IntKind.i64.wrap (a1 - (List.length a0 : Int))))] ⟨kr, kr, trivial⟩ rfl ?_)
    refine ls_seq_k fun K3 hK3 => ?_
    refine ls_rs tbOk ?_
    refine evs (ev_ac rfl nofun rfl (evn ?_))
    refine ls_keep [(0, dL c231_d a0), (1, nI (IntKind.i64.wrap (a1 - (List.length a0 : Int)))), (5, nI 0)] ⟨kr, kr, kr, trivial⟩ rfl ?_
    obtain ⟨o1, hl, hr1⟩ := ob_some h
    clear h
    have kXlaws_szAtomS_B1 : ∀ (z4 : Int), (some z4) = some r → ∀ σ' : PS, okK σ' [(1, nI z4)] → K3 σ' := by
      intro z4 h σ' hk
      refine hK3 _ (ls_keep [(1, nI z4)] hk rfl ?_)
      refine ls_rs tbOk ?_
      refine evs (ev_mv (c := nI z4) rfl rfl rfl (evs (ev_as (c := nI z4) rfl rfl rfl (evn ?_))))
      refine ls_keep [(4, nI z4)] ⟨kr, trivial⟩ rfl ?_
      refine ls_ret ?_
      have hr := Option.some.inj h
      rw [← hr]
      exact ⟨.inl rfl, rfl⟩
    refine ls_rec (fun (s : Int × Int) => match s with | (y1, y2) => [(0, dL c231_d a0), (1, nI y1), (5, nI y2)]) (laws_szAtomS_B1 a0) fz ((IntKind.i64.wrap (a1 - (List.length a0 : Int))), 0) o1 hl ⟨kr, kr, kr, trivial⟩ (fun _ => rfl) ?_
    rintro m ⟨y1, y2⟩ N h hN
    unfold laws_szAtomS_B1 at h
    dsimp only at h
    refine ls_seq_k fun K5 hK5 => ?_
    refine ls_rs tbOk ?_
    refine evs (ev_mv (c := nI y2) rfl rfl rfl (evs (ev_mv (c := dL c231_d a0) rfl rfl rfl (evs (ev_len (c1 := dL c231_d a0) rfl rfl rfl (evs (ev_bin (c1 := nI y2) (c2 := nI (List.length a0 : Int)) rfl rfl rfl (evn ?_))))))))
    refine ls_keep [(0, dL c231_d a0), (1, nI y1), (5, nI y2), (15, .bool (decide (y2 < (List.length a0 : Int))))] ⟨kr, kr, kr, kr, trivial⟩ rfl ?_
    rcases cond_some h with ⟨g6, h⟩ | ⟨g6, h⟩
    · refine ls_cT rfl g6 ?_
      refine ls_skip ?_
      refine hK5 _ (ls_keep [(0, dL c231_d a0), (1, nI y1), (5, nI y2)] ⟨kr, kr, kr, trivial⟩ rfl ?_)
      refine ls_seq_k fun K7 hK7 => ?_
      refine ls_blk ?_
      refine ls_rs tbOk ?_
      refine evs (ev_mv (c := dL c231_d a0) rfl rfl rfl (evs (ev_mv (c := nI y2) rfl rfl rfl (?_))))
      obtain ⟨e8, g9, h⟩ := ob_some h
      refine evs (ev_ia rfl rfl rfl ⟨(geti_some g9).1, (geti_some g9).2.1⟩ (evs (ev_ldE (i := y2) (n := 2) (off := 0) (v := .agg (c231_d e8)) rfl rfl zc231_d g9 rfl (nb rfl) rfl (evs (ev_mv (c := nI y1) rfl rfl rfl (?_))))))
      obtain ⟨v10, g11, h⟩ := ob_some h
      refine evs (ev_call (era rfl (erg (erc rfl (erc (erD eci64 _) rfl))) (era rfl rfl eran)) (laws_szAtom_s g11) (evs (ev_as (c := nI v10) rfl rfl rfl (evn ?_))))
      refine ls_keep [(0, dL c231_d a0), (1, nI v10), (5, nI y2)] ⟨kr, kr, kr, trivial⟩ rfl ?_
      refine ls_rs tbOk ?_
      refine evs (ev_mv (c := nI v10) rfl rfl rfl (evs (ev_bin (c1 := nI v10) (c2 := nI 0) rfl rfl rfl (evn ?_))))
      refine ls_keep [(0, dL c231_d a0), (1, nI v10), (5, nI y2), (25, .bool (decide (v10 < 0)))] ⟨kr, kr, kr, kr, trivial⟩ rfl ?_
      rcases cond_some h with ⟨g12, h⟩ | ⟨g12, h⟩
      · refine ls_cT rfl g12 ?_
        refine ls_rs tbOk ?_
        refine evs (ev_ac rfl nofun rfl (evn ?_))
        refine ls_keep [(4, nI (-1))] ⟨kr, trivial⟩ rfl ?_
        refine ls_ret ?_
        have q0 := (Option.some.inj h).symm
        have r0 := hr1
        rw [q0] at r0
        have hr := Option.some.inj r0
        rw [← hr]
        exact ⟨.inl rfl, rfl⟩
      · refine ls_cF rfl g12 ?_
        refine ls_skip ?_
        refine hK7 _ (ls_keep [(0, dL c231_d a0), (1, nI v10), (5, nI y2)] ⟨kr, kr, kr, trivial⟩ rfl ?_)
        refine ls_rgn tbOk ?_
        refine evs (ev_mv (c := nI y2) rfl rfl rfl (evs (ev_bin (c1 := nI y2) (c2 := nI 1) rfl rfl rfl (evs (ev_as (c := nI (IntKind.i64.wrap (y2 + 1))) rfl rfl rfl (evn ?_))))))
        exact hN _ (v10, (IntKind.i64.wrap (y2 + 1))) h ⟨kr, kr, kr, trivial⟩
    · refine ls_cF rfl g6 ?_
      refine ls_exit ?_
      have q0 := (Option.some.inj h).symm
      have r0 := hr1
      rw [q0] at r0
      exact kXlaws_szAtomS_B1 y1 r0 _ ⟨kr, trivial⟩
abbrev Y78 := Int × (List Y194) × (List Int)
def c79_ddd (x : Y78) : List V := [nI x.1, dL c231_d x.2.1, dL ci64 x.2.2]
theorem zc79_ddd (x : Y78) : (c79_ddd x).length = 3 := rfl
theorem ec79_ddd (x : Y78) : erL (c79_ddd x) = c79_ddd x := (erc rfl (erc (erD ec231_d _) (erc (erD eci64 _) rfl)))
def laws_szQuery (a0 : Y78) (a1 : Int) : Option (Int) := obind (laws_szAtomS a0.2.1 a1) fun v1 => cond (decide (v1 < 0)) (some (-1)) (obind (laws_szIntS a0.2.2 v1) fun v5 => cond (decide (v5 < 0)) (some (-1)) (some v5))
theorem laws_szQuery_s {a0 : Y78} {a1 : Int} {r : Int} (h : laws_szQuery a0 a1 = some r) : SoundAt Try.prog 43 [.agg (c79_ddd a0), nI a1] (nI r) := by
  unfold laws_szQuery at h
  refine sound_lit tbOk lit43 (nb rfl) rfl ?_
  unfold c43
  refine ls_keep [(0, .agg (c79_ddd a0)), (1, nI a1)] ⟨kr, kr, trivial⟩ rfl ?_
  refine ls_rs tbOk ?_
  refine evs (ev_bx (c1 := .agg (c79_ddd a0)) rfl rfl rfl (evs (ev_ac rfl nofun rfl (evn ?_))))
  refine ls_keep [(1, nI a1), (2, .box [nI a0.1, dL c231_d a0.2.1, dL ci64 a0.2.2])] ⟨kr, kr, trivial⟩ rfl ?_
  refine ls_rs tbOk ?_
  refine evs (ev_fa (c1 := .cref 2 0) (v := .cref 2 1) rfl rfl rfl ⟨_, rfl⟩ rfl (evs (ev_ldB (off := 1) (v := dL c231_d a0.2.1) rfl rfl rfl rfl (nb rfl) rfl (evs (ev_mv (c := nI a1) rfl rfl rfl (?_))))))
  obtain ⟨v1, g2, h⟩ := ob_some h
  refine evs (ev_call (era rfl (erD ec231_d _) (era rfl rfl eran)) (laws_szAtomS_s g2) (evs (ev_as (c := nI v1) rfl rfl rfl (evn ?_))))
  refine ls_keep [(1, nI v1), (2, .box [nI a0.1, dL c231_d a0.2.1, dL ci64 a0.2.2])] ⟨kr, kr, trivial⟩ rfl ?_
  refine ls_seq_k fun K3 hK3 => ?_
  refine ls_rs tbOk ?_
  refine evs (ev_mv (c := nI v1) rfl rfl rfl (evs (ev_bin (c1 := nI v1) (c2 := nI 0) rfl rfl rfl (evn ?_))))
  refine ls_keep [(1, nI v1), (2, .box [nI a0.1, dL c231_d a0.2.1, dL ci64 a0.2.2]), (10, .bool (decide (v1 < 0)))] ⟨kr, kr, kr, trivial⟩ rfl ?_
  rcases cond_some h with ⟨g4, h⟩ | ⟨g4, h⟩
  · refine ls_cT rfl g4 ?_
    refine ls_rs tbOk ?_
    refine evs (ev_ac rfl nofun rfl (evn ?_))
    refine ls_keep [(4, nI (-1))] ⟨kr, trivial⟩ rfl ?_
    refine ls_ret ?_
    have hr := Option.some.inj h
    rw [← hr]
    exact ⟨.inl rfl, rfl⟩
  · refine ls_cF rfl g4 ?_
    refine ls_skip ?_
    refine hK3 _ (ls_keep [(1, nI v1), (2, .box [nI a0.1, dL c231_d a0.2.1, dL ci64 a0.2.2])] ⟨kr, kr, trivial⟩ rfl ?_)
    refine ls_rs tbOk ?_
    refine evs (ev_fa (c1 := .cref 2 0) (v := .cref 2 2) rfl rfl rfl ⟨_, rfl⟩ rfl (evs (ev_ldB (off := 2) (v := dL ci64 a0.2.2) rfl rfl rfl rfl (nb rfl) rfl (evs (ev_mv (c := nI v1) rfl rfl rfl (?_))))))
    obtain ⟨v5, g6, h⟩ := ob_some h
    refine evs (ev_call (era rfl (erD eci64 _) (era rfl rfl eran)) (laws_szIntS_s g6) (evs (ev_as (c := nI v5) rfl rfl rfl (evn ?_))))
    refine ls_keep [(1, nI v5)] ⟨kr, trivial⟩ rfl ?_
    refine ls_seq_k fun K7 hK7 => ?_
    refine ls_rs tbOk ?_
    refine evs (ev_mv (c := nI v5) rfl rfl rfl (evs (ev_bin (c1 := nI v5) (c2 := nI 0) rfl rfl rfl (evn ?_))))
    refine ls_keep [(1, nI v5), (16, .bool (decide (v5 < 0)))] ⟨kr, kr, trivial⟩ rfl ?_
    rcases cond_some h with ⟨g8, h⟩ | ⟨g8, h⟩
    · refine ls_cT rfl g8 ?_
      refine ls_rs tbOk ?_
      refine evs (ev_ac rfl nofun rfl (evn ?_))
      refine ls_keep [(4, nI (-1))] ⟨kr, trivial⟩ rfl ?_
      refine ls_ret ?_
      have hr := Option.some.inj h
      rw [← hr]
      exact ⟨.inl rfl, rfl⟩
    · refine ls_cF rfl g8 ?_
      refine ls_skip ?_
      refine hK7 _ (ls_keep [(1, nI v5)] ⟨kr, trivial⟩ rfl ?_)
      refine ls_rs tbOk ?_
      refine evs (ev_mv (c := nI v5) rfl rfl rfl (evs (ev_as (c := nI v5) rfl rfl rfl (evn ?_))))
      refine ls_keep [(4, nI v5)] ⟨kr, trivial⟩ rfl ?_
      refine ls_ret ?_
      have hr := Option.some.inj h
      rw [← hr]
      exact ⟨.inl rfl, rfl⟩
abbrev Y158 := Int × (List (List Int)) × (List Int)
def c221_ddd (x : Y158) : List V := [nI x.1, dL c25_d x.2.1, dL ci64 x.2.2]
theorem zc221_ddd (x : Y158) : (c221_ddd x).length = 3 := rfl
theorem ec221_ddd (x : Y158) : erL (c221_ddd x) = c221_ddd x := (erc rfl (erc (erD ec25_d _) (erc (erD eci64 _) rfl)))
def laws_szCountedRelation (a0 : Y158) (a1 : Int) : Option (Int) := obind (laws_szIntSS a0.2.1 a1) fun v1 => cond (decide (v1 < 0)) (some (-1)) (obind (laws_szIntS a0.2.2 v1) fun v5 => cond (decide (v5 < 0)) (some (-1)) (some v5))
theorem laws_szCountedRelation_s {a0 : Y158} {a1 : Int} {r : Int} (h : laws_szCountedRelation a0 a1 = some r) : SoundAt Try.prog 190 [.agg (c221_ddd a0), nI a1] (nI r) := by
  unfold laws_szCountedRelation at h
  refine sound_lit tbOk lit190 (nb rfl) rfl ?_
  unfold c190
  refine ls_keep [(0, .agg (c221_ddd a0)), (1, nI a1)] ⟨kr, kr, trivial⟩ rfl ?_
  refine ls_rs tbOk ?_
  refine evs (ev_bx (c1 := .agg (c221_ddd a0)) rfl rfl rfl (evs (ev_ac rfl nofun rfl (evn ?_))))
  refine ls_keep [(1, nI a1), (2, .box [nI a0.1, dL c25_d a0.2.1, dL ci64 a0.2.2])] ⟨kr, kr, trivial⟩ rfl ?_
  refine ls_rs tbOk ?_
  refine evs (ev_fa (c1 := .cref 2 0) (v := .cref 2 1) rfl rfl rfl ⟨_, rfl⟩ rfl (evs (ev_ldB (off := 1) (v := dL c25_d a0.2.1) rfl rfl rfl rfl (nb rfl) rfl (evs (ev_mv (c := nI a1) rfl rfl rfl (?_))))))
  obtain ⟨v1, g2, h⟩ := ob_some h
  refine evs (ev_call (era rfl (erD ec25_d _) (era rfl rfl eran)) (laws_szIntSS_s g2) (evs (ev_as (c := nI v1) rfl rfl rfl (evn ?_))))
  refine ls_keep [(1, nI v1), (2, .box [nI a0.1, dL c25_d a0.2.1, dL ci64 a0.2.2])] ⟨kr, kr, trivial⟩ rfl ?_
  refine ls_seq_k fun K3 hK3 => ?_
  refine ls_rs tbOk ?_
  refine evs (ev_mv (c := nI v1) rfl rfl rfl (evs (ev_bin (c1 := nI v1) (c2 := nI 0) rfl rfl rfl (evn ?_))))
  refine ls_keep [(1, nI v1), (2, .box [nI a0.1, dL c25_d a0.2.1, dL ci64 a0.2.2]), (10, .bool (decide (v1 < 0)))] ⟨kr, kr, kr, trivial⟩ rfl ?_
  rcases cond_some h with ⟨g4, h⟩ | ⟨g4, h⟩
  · refine ls_cT rfl g4 ?_
    refine ls_rs tbOk ?_
    refine evs (ev_ac rfl nofun rfl (evn ?_))
    refine ls_keep [(4, nI (-1))] ⟨kr, trivial⟩ rfl ?_
    refine ls_ret ?_
    have hr := Option.some.inj h
    rw [← hr]
    exact ⟨.inl rfl, rfl⟩
  · refine ls_cF rfl g4 ?_
    refine ls_skip ?_
    refine hK3 _ (ls_keep [(1, nI v1), (2, .box [nI a0.1, dL c25_d a0.2.1, dL ci64 a0.2.2])] ⟨kr, kr, trivial⟩ rfl ?_)
    refine ls_rs tbOk ?_
    refine evs (ev_fa (c1 := .cref 2 0) (v := .cref 2 2) rfl rfl rfl ⟨_, rfl⟩ rfl (evs (ev_ldB (off := 2) (v := dL ci64 a0.2.2) rfl rfl rfl rfl (nb rfl) rfl (evs (ev_mv (c := nI v1) rfl rfl rfl (?_))))))
    obtain ⟨v5, g6, h⟩ := ob_some h
    refine evs (ev_call (era rfl (erD eci64 _) (era rfl rfl eran)) (laws_szIntS_s g6) (evs (ev_as (c := nI v5) rfl rfl rfl (evn ?_))))
    refine ls_keep [(1, nI v5)] ⟨kr, trivial⟩ rfl ?_
    refine ls_seq_k fun K7 hK7 => ?_
    refine ls_rs tbOk ?_
    refine evs (ev_mv (c := nI v5) rfl rfl rfl (evs (ev_bin (c1 := nI v5) (c2 := nI 0) rfl rfl rfl (evn ?_))))
    refine ls_keep [(1, nI v5), (16, .bool (decide (v5 < 0)))] ⟨kr, kr, trivial⟩ rfl ?_
    rcases cond_some h with ⟨g8, h⟩ | ⟨g8, h⟩
    · refine ls_cT rfl g8 ?_
      refine ls_rs tbOk ?_
      refine evs (ev_ac rfl nofun rfl (evn ?_))
      refine ls_keep [(4, nI (-1))] ⟨kr, trivial⟩ rfl ?_
      refine ls_ret ?_
      have hr := Option.some.inj h
      rw [← hr]
      exact ⟨.inl rfl, rfl⟩
    · refine ls_cF rfl g8 ?_
      refine ls_skip ?_
      refine hK7 _ (ls_keep [(1, nI v5)] ⟨kr, trivial⟩ rfl ?_)
      refine ls_rs tbOk ?_
      refine evs (ev_mv (c := nI v5) rfl rfl rfl (evs (ev_as (c := nI v5) rfl rfl rfl (evn ?_))))
      refine ls_keep [(4, nI v5)] ⟨kr, trivial⟩ rfl ?_
      refine ls_ret ?_
      have hr := Option.some.inj h
      rw [← hr]
      exact ⟨.inl rfl, rfl⟩
abbrev Y222 := Y78 × Y158
def c223_dddddd (x : Y222) : List V := [nI x.1.1, dL c231_d x.1.2.1, dL ci64 x.1.2.2, nI x.2.1, dL c25_d x.2.2.1, dL ci64 x.2.2.2]
theorem zc223_dddddd (x : Y222) : (c223_dddddd x).length = 6 := rfl
theorem ec223_dddddd (x : Y222) : erL (c223_dddddd x) = c223_dddddd x := (erc rfl (erc (erD ec231_d _) (erc (erD eci64 _) (erc rfl (erc (erD ec25_d _) (erc (erD eci64 _) rfl))))))
def laws_szView (a0 : Y222) (a1 : Int) : Option (Int) := obind (laws_szQuery a0.1 a1) fun v1 => cond (decide (v1 < 0)) (some (-1)) (obind (laws_szCountedRelation a0.2 v1) fun v5 => cond (decide (v5 < 0)) (some (-1)) (some v5))
theorem laws_szView_s {a0 : Y222} {a1 : Int} {r : Int} (h : laws_szView a0 a1 = some r) : SoundAt Try.prog 189 [.agg (c223_dddddd a0), nI a1] (nI r) := by
  unfold laws_szView at h
  refine sound_lit tbOk lit189 (nb rfl) rfl ?_
  unfold c189
  refine ls_keep [(0, .agg (c223_dddddd a0)), (1, nI a1)] ⟨kr, kr, trivial⟩ rfl ?_
  refine ls_rs tbOk ?_
  refine evs (ev_bx (c1 := .agg (c223_dddddd a0)) rfl rfl rfl (evs (ev_ac rfl nofun rfl (evn ?_))))
  refine ls_keep [(1, nI a1), (2, .box [nI a0.1.1, dL c231_d a0.1.2.1, dL ci64 a0.1.2.2, nI a0.2.1, dL c25_d a0.2.2.1, dL ci64 a0.2.2.2])] ⟨kr, kr, trivial⟩ rfl ?_
  refine ls_rs tbOk ?_
  refine evs (ev_fa (c1 := .cref 2 0) (v := .cref 2 0) rfl rfl rfl ⟨_, rfl⟩ rfl (evs (ev_ldB (off := 0) (v := .agg (c79_ddd a0.1)) rfl rfl rfl rfl (nb rfl) rfl (evs (ev_mv (c := nI a1) rfl rfl rfl (?_))))))
  obtain ⟨v1, g2, h⟩ := ob_some h
  refine evs (ev_call (era rfl (erg (erc rfl (erc (erD ec231_d _) (erc (erD eci64 _) rfl)))) (era rfl rfl eran)) (laws_szQuery_s g2) (evs (ev_as (c := nI v1) rfl rfl rfl (evn ?_))))
  refine ls_keep [(1, nI v1), (2, .box [nI a0.1.1, dL c231_d a0.1.2.1, dL ci64 a0.1.2.2, nI a0.2.1, dL c25_d a0.2.2.1, dL ci64 a0.2.2.2])] ⟨kr, kr, trivial⟩ rfl ?_
  refine ls_seq_k fun K3 hK3 => ?_
  refine ls_rs tbOk ?_
  refine evs (ev_mv (c := nI v1) rfl rfl rfl (evs (ev_bin (c1 := nI v1) (c2 := nI 0) rfl rfl rfl (evn ?_))))
  refine ls_keep [(1, nI v1), (2, .box [nI a0.1.1, dL c231_d a0.1.2.1, dL ci64 a0.1.2.2, nI a0.2.1, dL c25_d a0.2.2.1, dL ci64 a0.2.2.2]), (10, .bool (decide (v1 < 0)))] ⟨kr, kr, kr, trivial⟩ rfl ?_
  rcases cond_some h with ⟨g4, h⟩ | ⟨g4, h⟩
  · refine ls_cT rfl g4 ?_
    refine ls_rs tbOk ?_
    refine evs (ev_ac rfl nofun rfl (evn ?_))
    refine ls_keep [(4, nI (-1))] ⟨kr, trivial⟩ rfl ?_
    refine ls_ret ?_
    have hr := Option.some.inj h
    rw [← hr]
    exact ⟨.inl rfl, rfl⟩
  · refine ls_cF rfl g4 ?_
    refine ls_skip ?_
    refine hK3 _ (ls_keep [(1, nI v1), (2, .box [nI a0.1.1, dL c231_d a0.1.2.1, dL ci64 a0.1.2.2, nI a0.2.1, dL c25_d a0.2.2.1, dL ci64 a0.2.2.2])] ⟨kr, kr, trivial⟩ rfl ?_)
    refine ls_rs tbOk ?_
    refine evs (ev_fa (c1 := .cref 2 0) (v := .cref 2 3) rfl rfl rfl ⟨_, rfl⟩ rfl (evs (ev_ldB (off := 3) (v := .agg (c221_ddd a0.2)) rfl rfl rfl rfl (nb rfl) rfl (evs (ev_mv (c := nI v1) rfl rfl rfl (?_))))))
    obtain ⟨v5, g6, h⟩ := ob_some h
    refine evs (ev_call (era rfl (erg (erc rfl (erc (erD ec25_d _) (erc (erD eci64 _) rfl)))) (era rfl rfl eran)) (laws_szCountedRelation_s g6) (evs (ev_as (c := nI v5) rfl rfl rfl (evn ?_))))
    refine ls_keep [(1, nI v5)] ⟨kr, trivial⟩ rfl ?_
    refine ls_seq_k fun K7 hK7 => ?_
    refine ls_rs tbOk ?_
    refine evs (ev_mv (c := nI v5) rfl rfl rfl (evs (ev_bin (c1 := nI v5) (c2 := nI 0) rfl rfl rfl (evn ?_))))
    refine ls_keep [(1, nI v5), (16, .bool (decide (v5 < 0)))] ⟨kr, kr, trivial⟩ rfl ?_
    rcases cond_some h with ⟨g8, h⟩ | ⟨g8, h⟩
    · refine ls_cT rfl g8 ?_
      refine ls_rs tbOk ?_
      refine evs (ev_ac rfl nofun rfl (evn ?_))
      refine ls_keep [(4, nI (-1))] ⟨kr, trivial⟩ rfl ?_
      refine ls_ret ?_
      have hr := Option.some.inj h
      rw [← hr]
      exact ⟨.inl rfl, rfl⟩
    · refine ls_cF rfl g8 ?_
      refine ls_skip ?_
      refine hK7 _ (ls_keep [(1, nI v5)] ⟨kr, trivial⟩ rfl ?_)
      refine ls_rs tbOk ?_
      refine evs (ev_mv (c := nI v5) rfl rfl rfl (evs (ev_as (c := nI v5) rfl rfl rfl (evn ?_))))
      refine ls_keep [(4, nI v5)] ⟨kr, trivial⟩ rfl ?_
      refine ls_ret ?_
      have hr := Option.some.inj h
      rw [← hr]
      exact ⟨.inl rfl, rfl⟩
def laws_szViewS_B1 (a0 : List Y222) (rec : (Int × Int) → Option (Sum (Int) (Int))) (s : Int × Int) : Option (Sum (Int) (Int)) := match s with
  | (y1, y2) => cond (decide (y2 < (List.length a0 : Int))) (obind (geti a0 y2) fun e8 => obind (laws_szView e8 y1) fun v10 => cond (decide (v10 < 0)) (some (.inr (-1))) (rec (v10, (IntKind.i64.wrap (y2 + 1))))) (some (.inl y1))
def laws_szViewS (a0 : List Y222) (a1 : Int) : Option (Int) := cond (decide ((IntKind.i64.wrap (a1 - (List.length a0 : Int))) < 0)) (some (-1)) (obind (loopF (laws_szViewS_B1 a0) fz ((IntKind.i64.wrap (a1 - (List.length a0 : Int))), 0)) fun o1 => (match o1 with
  | .inl z4 => (some z4)
  | .inr r => some r))
theorem laws_szViewS_s {a0 : List Y222} {a1 : Int} {r : Int} (h : laws_szViewS a0 a1 = some r) : SoundAt Try.prog 108 [dL c223_dddddd a0, nI a1] (nI r) := by
  unfold laws_szViewS at h
  refine sound_lit tbOk lit108 (nb rfl) rfl ?_
  unfold c108
  refine ls_keep [(0, dL c223_dddddd a0), (1, nI a1)] ⟨kr, kr, trivial⟩ rfl ?_
  refine ls_rs tbOk ?_
  refine evs (ev_ac rfl nofun rfl (evn ?_))
  refine ls_keep [(0, dL c223_dddddd a0), (1, nI a1)] ⟨kr, kr, trivial⟩ rfl ?_
  refine ls_rs tbOk ?_
  refine evs (ev_mv (c := nI a1) rfl rfl rfl (evs (ev_mv (c := dL c223_dddddd a0) rfl rfl rfl (evs (ev_len (c1 := dL c223_dddddd a0) rfl rfl rfl (evs (ev_bin (c1 := nI a1) (c2 := nI (List.length a0 : Int)) rfl rfl rfl (evs (ev_as (c := nI (IntKind.i64.wrap (a1 - (List.length a0 : Int)))) rfl rfl rfl (evn ?_))))))))))
  refine ls_keep [(0, dL c223_dddddd a0), (1, nI (IntKind.i64.wrap (a1 - (List.length a0 : Int))))] ⟨kr, kr, trivial⟩ rfl ?_
  refine ls_seq_k fun K1 hK1 => ?_
  refine ls_rs tbOk ?_
  refine evs (ev_mv (c := nI (IntKind.i64.wrap (a1 - (List.length a0 : Int)))) rfl rfl rfl (evs (ev_bin (c1 := nI (IntKind.i64.wrap (a1 - (List.length a0 : Int)))) (c2 := nI 0) rfl rfl rfl (evn ?_))))
  refine ls_keep [(0, dL c223_dddddd a0), (1, nI (IntKind.i64.wrap (a1 - (List.length a0 : Int)))), (11, .bool (decide ((IntKind.i64.wrap (a1 - (List.length a0 : Int))) < 0)))] ⟨kr, kr, kr, trivial⟩ rfl ?_
  rcases cond_some h with ⟨g2, h⟩ | ⟨g2, h⟩
  · refine ls_cT rfl g2 ?_
    refine ls_rs tbOk ?_
    refine evs (ev_ac rfl nofun rfl (evn ?_))
    refine ls_keep [(4, nI (-1))] ⟨kr, trivial⟩ rfl ?_
    refine ls_ret ?_
    have hr := Option.some.inj h
    rw [← hr]
    exact ⟨.inl rfl, rfl⟩
  · refine ls_cF rfl g2 ?_
    refine ls_skip ?_
    refine hK1 _ (ls_keep [(0, dL c223_dddddd a0), (1, nI (IntKind.i64.wrap (a1 - (List.length a0 : Int))))] ⟨kr, kr, trivial⟩ rfl ?_)
    refine ls_seq_k fun K3 hK3 => ?_
    refine ls_rs tbOk ?_
    refine evs (ev_ac rfl nofun rfl (evn ?_))
    refine ls_keep [(0, dL c223_dddddd a0), (1, nI (IntKind.i64.wrap (a1 - (List.length a0 : Int)))), (5, nI 0)] ⟨kr, kr, kr, trivial⟩ rfl ?_
    obtain ⟨o1, hl, hr1⟩ := ob_some h
    clear h
    have kXlaws_szViewS_B1 : ∀ (z4 : Int), (some z4) = some r → ∀ σ' : PS, okK σ' [(1, nI z4)] → K3 σ' := by
      intro z4 h σ' hk
      refine hK3 _ (ls_keep [(1, nI z4)] hk rfl ?_)
      refine ls_rs tbOk ?_
      refine evs (ev_mv (c := nI z4) rfl rfl rfl (evs (ev_as (c := nI z4) rfl rfl rfl (evn ?_))))
      refine ls_keep [(4, nI z4)] ⟨kr, trivial⟩ rfl ?_
      refine ls_ret ?_
      have hr := Option.some.inj h
      rw [← hr]
      exact ⟨.inl rfl, rfl⟩
    refine ls_rec (fun (s : Int × Int) => match s with | (y1, y2) => [(0, dL c223_dddddd a0), (1, nI y1), (5, nI y2)]) (laws_szViewS_B1 a0) fz ((IntKind.i64.wrap (a1 - (List.length a0 : Int))), 0) o1 hl ⟨kr, kr, kr, trivial⟩ (fun _ => rfl) ?_
    rintro m ⟨y1, y2⟩ N h hN
    unfold laws_szViewS_B1 at h
    dsimp only at h
    refine ls_seq_k fun K5 hK5 => ?_
    refine ls_rs tbOk ?_
    refine evs (ev_mv (c := nI y2) rfl rfl rfl (evs (ev_mv (c := dL c223_dddddd a0) rfl rfl rfl (evs (ev_len (c1 := dL c223_dddddd a0) rfl rfl rfl (evs (ev_bin (c1 := nI y2) (c2 := nI (List.length a0 : Int)) rfl rfl rfl (evn ?_))))))))
    refine ls_keep [(0, dL c223_dddddd a0), (1, nI y1), (5, nI y2), (15, .bool (decide (y2 < (List.length a0 : Int))))] ⟨kr, kr, kr, kr, trivial⟩ rfl ?_
    rcases cond_some h with ⟨g6, h⟩ | ⟨g6, h⟩
    · refine ls_cT rfl g6 ?_
      refine ls_skip ?_
      refine hK5 _ (ls_keep [(0, dL c223_dddddd a0), (1, nI y1), (5, nI y2)] ⟨kr, kr, kr, trivial⟩ rfl ?_)
      refine ls_seq_k fun K7 hK7 => ?_
      refine ls_blk ?_
      refine ls_rs tbOk ?_
      refine evs (ev_mv (c := dL c223_dddddd a0) rfl rfl rfl (evs (ev_mv (c := nI y2) rfl rfl rfl (?_))))
      obtain ⟨e8, g9, h⟩ := ob_some h
      refine evs (ev_ia rfl rfl rfl ⟨(geti_some g9).1, (geti_some g9).2.1⟩ (evs (ev_ldE (i := y2) (n := 6) (off := 0) (v := .agg (c223_dddddd e8)) rfl rfl zc223_dddddd g9 rfl (nb rfl) rfl (evs (ev_mv (c := nI y1) rfl rfl rfl (?_))))))
      obtain ⟨v10, g11, h⟩ := ob_some h
      refine evs (ev_call (era rfl (erg (erc rfl (erc (erD ec231_d _) (erc (erD eci64 _) (erc rfl (erc (erD ec25_d _) (erc (erD eci64 _) rfl))))))) (era rfl rfl eran)) (laws_szView_s g11) (evs (ev_as (c := nI v10) rfl rfl rfl (evn ?_))))
      refine ls_keep [(0, dL c223_dddddd a0), (1, nI v10), (5, nI y2)] ⟨kr, kr, kr, trivial⟩ rfl ?_
      refine ls_rs tbOk ?_
      refine evs (ev_mv (c := nI v10) rfl rfl rfl (evs (ev_bin (c1 := nI v10) (c2 := nI 0) rfl rfl rfl (evn ?_))))
      refine ls_keep [(0, dL c223_dddddd a0), (1, nI v10), (5, nI y2), (25, .bool (decide (v10 < 0)))] ⟨kr, kr, kr, kr, trivial⟩ rfl ?_
      rcases cond_some h with ⟨g12, h⟩ | ⟨g12, h⟩
      · refine ls_cT rfl g12 ?_
        refine ls_rs tbOk ?_
        refine evs (ev_ac rfl nofun rfl (evn ?_))
        refine ls_keep [(4, nI (-1))] ⟨kr, trivial⟩ rfl ?_
        refine ls_ret ?_
        have q0 := (Option.some.inj h).symm
        have r0 := hr1
        rw [q0] at r0
        have hr := Option.some.inj r0
        rw [← hr]
        exact ⟨.inl rfl, rfl⟩
      · refine ls_cF rfl g12 ?_
        refine ls_skip ?_
        refine hK7 _ (ls_keep [(0, dL c223_dddddd a0), (1, nI v10), (5, nI y2)] ⟨kr, kr, kr, trivial⟩ rfl ?_)
        refine ls_rgn tbOk ?_
        refine evs (ev_mv (c := nI y2) rfl rfl rfl (evs (ev_bin (c1 := nI y2) (c2 := nI 1) rfl rfl rfl (evs (ev_as (c := nI (IntKind.i64.wrap (y2 + 1))) rfl rfl rfl (evn ?_))))))
        exact hN _ (v10, (IntKind.i64.wrap (y2 + 1))) h ⟨kr, kr, kr, trivial⟩
    · refine ls_cF rfl g6 ?_
      refine ls_exit ?_
      have q0 := (Option.some.inj h).symm
      have r0 := hr1
      rw [q0] at r0
      exact kXlaws_szViewS_B1 y1 r0 _ ⟨kr, trivial⟩
def laws_szCountedRelationS_B1 (a0 : List Y158) (rec : (Int × Int) → Option (Sum (Int) (Int))) (s : Int × Int) : Option (Sum (Int) (Int)) := match s with
  | (y1, y2) => cond (decide (y2 < (List.length a0 : Int))) (obind (geti a0 y2) fun e8 => obind (laws_szCountedRelation e8 y1) fun v10 => cond (decide (v10 < 0)) (some (.inr (-1))) (rec (v10, (IntKind.i64.wrap (y2 + 1))))) (some (.inl y1))
def laws_szCountedRelationS (a0 : List Y158) (a1 : Int) : Option (Int) := cond (decide ((IntKind.i64.wrap (a1 - (List.length a0 : Int))) < 0)) (some (-1)) (obind (loopF (laws_szCountedRelationS_B1 a0) fz ((IntKind.i64.wrap (a1 - (List.length a0 : Int))), 0)) fun o1 => (match o1 with
  | .inl z4 => (some z4)
  | .inr r => some r))
theorem laws_szCountedRelationS_s {a0 : List Y158} {a1 : Int} {r : Int} (h : laws_szCountedRelationS a0 a1 = some r) : SoundAt Try.prog 109 [dL c221_ddd a0, nI a1] (nI r) := by
  unfold laws_szCountedRelationS at h
  refine sound_lit tbOk lit109 (nb rfl) rfl ?_
  unfold c109
  refine ls_keep [(0, dL c221_ddd a0), (1, nI a1)] ⟨kr, kr, trivial⟩ rfl ?_
  refine ls_rs tbOk ?_
  refine evs (ev_ac rfl nofun rfl (evn ?_))
  refine ls_keep [(0, dL c221_ddd a0), (1, nI a1)] ⟨kr, kr, trivial⟩ rfl ?_
  refine ls_rs tbOk ?_
  refine evs (ev_mv (c := nI a1) rfl rfl rfl (evs (ev_mv (c := dL c221_ddd a0) rfl rfl rfl (evs (ev_len (c1 := dL c221_ddd a0) rfl rfl rfl (evs (ev_bin (c1 := nI a1) (c2 := nI (List.length a0 : Int)) rfl rfl rfl (evs (ev_as (c := nI (IntKind.i64.wrap (a1 - (List.length a0 : Int)))) rfl rfl rfl (evn ?_))))))))))
  refine ls_keep [(0, dL c221_ddd a0), (1, nI (IntKind.i64.wrap (a1 - (List.length a0 : Int))))] ⟨kr, kr, trivial⟩ rfl ?_
  refine ls_seq_k fun K1 hK1 => ?_
  refine ls_rs tbOk ?_
  refine evs (ev_mv (c := nI (IntKind.i64.wrap (a1 - (List.length a0 : Int)))) rfl rfl rfl (evs (ev_bin (c1 := nI (IntKind.i64.wrap (a1 - (List.length a0 : Int)))) (c2 := nI 0) rfl rfl rfl (evn ?_))))
  refine ls_keep [(0, dL c221_ddd a0), (1, nI (IntKind.i64.wrap (a1 - (List.length a0 : Int)))), (11, .bool (decide ((IntKind.i64.wrap (a1 - (List.length a0 : Int))) < 0)))] ⟨kr, kr, kr, trivial⟩ rfl ?_
  rcases cond_some h with ⟨g2, h⟩ | ⟨g2, h⟩
  · refine ls_cT rfl g2 ?_
    refine ls_rs tbOk ?_
    refine evs (ev_ac rfl nofun rfl (evn ?_))
    refine ls_keep [(4, nI (-1))] ⟨kr, trivial⟩ rfl ?_
    refine ls_ret ?_
    have hr := Option.some.inj h
    rw [← hr]
    exact ⟨.inl rfl, rfl⟩
  · refine ls_cF rfl g2 ?_
    refine ls_skip ?_
    refine hK1 _ (ls_keep [(0, dL c221_ddd a0), (1, nI (IntKind.i64.wrap (a1 - (List.length a0 : Int))))] ⟨kr, kr, trivial⟩ rfl ?_)
    refine ls_seq_k fun K3 hK3 => ?_
    refine ls_rs tbOk ?_
    refine evs (ev_ac rfl nofun rfl (evn ?_))
    refine ls_keep [(0, dL c221_ddd a0), (1, nI (IntKind.i64.wrap (a1 - (List.length a0 : Int)))), (5, nI 0)] ⟨kr, kr, kr, trivial⟩ rfl ?_
    obtain ⟨o1, hl, hr1⟩ := ob_some h
    clear h
    have kXlaws_szCountedRelationS_B1 : ∀ (z4 : Int), (some z4) = some r → ∀ σ' : PS, okK σ' [(1, nI z4)] → K3 σ' := by
      intro z4 h σ' hk
      refine hK3 _ (ls_keep [(1, nI z4)] hk rfl ?_)
      refine ls_rs tbOk ?_
      refine evs (ev_mv (c := nI z4) rfl rfl rfl (evs (ev_as (c := nI z4) rfl rfl rfl (evn ?_))))
      refine ls_keep [(4, nI z4)] ⟨kr, trivial⟩ rfl ?_
      refine ls_ret ?_
      have hr := Option.some.inj h
      rw [← hr]
      exact ⟨.inl rfl, rfl⟩
    refine ls_rec (fun (s : Int × Int) => match s with | (y1, y2) => [(0, dL c221_ddd a0), (1, nI y1), (5, nI y2)]) (laws_szCountedRelationS_B1 a0) fz ((IntKind.i64.wrap (a1 - (List.length a0 : Int))), 0) o1 hl ⟨kr, kr, kr, trivial⟩ (fun _ => rfl) ?_
    rintro m ⟨y1, y2⟩ N h hN
    unfold laws_szCountedRelationS_B1 at h
    dsimp only at h
    refine ls_seq_k fun K5 hK5 => ?_
    refine ls_rs tbOk ?_
    refine evs (ev_mv (c := nI y2) rfl rfl rfl (evs (ev_mv (c := dL c221_ddd a0) rfl rfl rfl (evs (ev_len (c1 := dL c221_ddd a0) rfl rfl rfl (evs (ev_bin (c1 := nI y2) (c2 := nI (List.length a0 : Int)) rfl rfl rfl (evn ?_))))))))
    refine ls_keep [(0, dL c221_ddd a0), (1, nI y1), (5, nI y2), (15, .bool (decide (y2 < (List.length a0 : Int))))] ⟨kr, kr, kr, kr, trivial⟩ rfl ?_
    rcases cond_some h with ⟨g6, h⟩ | ⟨g6, h⟩
    · refine ls_cT rfl g6 ?_
      refine ls_skip ?_
      refine hK5 _ (ls_keep [(0, dL c221_ddd a0), (1, nI y1), (5, nI y2)] ⟨kr, kr, kr, trivial⟩ rfl ?_)
      refine ls_seq_k fun K7 hK7 => ?_
      refine ls_blk ?_
      refine ls_rs tbOk ?_
      refine evs (ev_mv (c := dL c221_ddd a0) rfl rfl rfl (evs (ev_mv (c := nI y2) rfl rfl rfl (?_))))
      obtain ⟨e8, g9, h⟩ := ob_some h
      refine evs (ev_ia rfl rfl rfl ⟨(geti_some g9).1, (geti_some g9).2.1⟩ (evs (ev_ldE (i := y2) (n := 3) (off := 0) (v := .agg (c221_ddd e8)) rfl rfl zc221_ddd g9 rfl (nb rfl) rfl (evs (ev_mv (c := nI y1) rfl rfl rfl (?_))))))
      obtain ⟨v10, g11, h⟩ := ob_some h
      refine evs (ev_call (era rfl (erg (erc rfl (erc (erD ec25_d _) (erc (erD eci64 _) rfl)))) (era rfl rfl eran)) (laws_szCountedRelation_s g11) (evs (ev_as (c := nI v10) rfl rfl rfl (evn ?_))))
      refine ls_keep [(0, dL c221_ddd a0), (1, nI v10), (5, nI y2)] ⟨kr, kr, kr, trivial⟩ rfl ?_
      refine ls_rs tbOk ?_
      refine evs (ev_mv (c := nI v10) rfl rfl rfl (evs (ev_bin (c1 := nI v10) (c2 := nI 0) rfl rfl rfl (evn ?_))))
      refine ls_keep [(0, dL c221_ddd a0), (1, nI v10), (5, nI y2), (25, .bool (decide (v10 < 0)))] ⟨kr, kr, kr, kr, trivial⟩ rfl ?_
      rcases cond_some h with ⟨g12, h⟩ | ⟨g12, h⟩
      · refine ls_cT rfl g12 ?_
        refine ls_rs tbOk ?_
        refine evs (ev_ac rfl nofun rfl (evn ?_))
        refine ls_keep [(4, nI (-1))] ⟨kr, trivial⟩ rfl ?_
        refine ls_ret ?_
        have q0 := (Option.some.inj h).symm
        have r0 := hr1
        rw [q0] at r0
        have hr := Option.some.inj r0
        rw [← hr]
        exact ⟨.inl rfl, rfl⟩
      · refine ls_cF rfl g12 ?_
        refine ls_skip ?_
        refine hK7 _ (ls_keep [(0, dL c221_ddd a0), (1, nI v10), (5, nI y2)] ⟨kr, kr, kr, trivial⟩ rfl ?_)
        refine ls_rgn tbOk ?_
        refine evs (ev_mv (c := nI y2) rfl rfl rfl (evs (ev_bin (c1 := nI y2) (c2 := nI 1) rfl rfl rfl (evs (ev_as (c := nI (IntKind.i64.wrap (y2 + 1))) rfl rfl rfl (evn ?_))))))
        exact hN _ (v10, (IntKind.i64.wrap (y2 + 1))) h ⟨kr, kr, kr, trivial⟩
    · refine ls_cF rfl g6 ?_
      refine ls_exit ?_
      have q0 := (Option.some.inj h).symm
      have r0 := hr1
      rw [q0] at r0
      exact kXlaws_szCountedRelationS_B1 y1 r0 _ ⟨kr, trivial⟩
abbrev Y67 := (List Y205) × (List Y222) × (List Y158)
def c68_dddddddddddddd (x : Y67) : List V := [dL c206_dd x.1, dL c223_dddddd x.2.1, dL c221_ddd x.2.2]
theorem zc68_dddddddddddddd (x : Y67) : (c68_dddddddddddddd x).length = 3 := rfl
theorem ec68_dddddddddddddd (x : Y67) : erL (c68_dddddddddddddd x) = c68_dddddddddddddd x := (erc (erD ec206_dd _) (erc (erD ec223_dddddd _) (erc (erD ec221_ddd _) rfl)))
def laws_szNotifier (a0 : Y67) (a1 : Int) : Option (Int) := obind (laws_szDatabase a0.1 a1) fun v1 => cond (decide (v1 < 0)) (some (-1)) (obind (laws_szViewS a0.2.1 v1) fun v5 => cond (decide (v5 < 0)) (some (-1)) (obind (laws_szCountedRelationS a0.2.2 v5) fun v9 => cond (decide (v9 < 0)) (some (-1)) (some v9)))
theorem laws_szNotifier_s {a0 : Y67} {a1 : Int} {r : Int} (h : laws_szNotifier a0 a1 = some r) : SoundAt Try.prog 38 [.agg (c68_dddddddddddddd a0), nI a1] (nI r) := by
  unfold laws_szNotifier at h
  refine sound_lit tbOk lit38 (nb rfl) rfl ?_
  unfold c38
  refine ls_keep [(0, .agg (c68_dddddddddddddd a0)), (1, nI a1)] ⟨kr, kr, trivial⟩ rfl ?_
  refine ls_rs tbOk ?_
  refine evs (ev_bx (c1 := .agg (c68_dddddddddddddd a0)) rfl rfl rfl (evs (ev_ac rfl nofun rfl (evn ?_))))
  refine ls_keep [(1, nI a1), (2, .box [dL c206_dd a0.1, dL c223_dddddd a0.2.1, dL c221_ddd a0.2.2])] ⟨kr, kr, trivial⟩ rfl ?_
  refine ls_rs tbOk ?_
  refine evs (ev_fa (c1 := .cref 2 0) (v := .cref 2 0) rfl rfl rfl ⟨_, rfl⟩ rfl (evs (ev_ldB (off := 0) (v := .agg [dL c206_dd a0.1]) rfl rfl rfl rfl (nb rfl) rfl (evs (ev_mv (c := nI a1) rfl rfl rfl (?_))))))
  obtain ⟨v1, g2, h⟩ := ob_some h
  refine evs (ev_call (era rfl (erg (erc (erD ec206_dd _) rfl)) (era rfl rfl eran)) (laws_szDatabase_s g2) (evs (ev_as (c := nI v1) rfl rfl rfl (evn ?_))))
  refine ls_keep [(1, nI v1), (2, .box [dL c206_dd a0.1, dL c223_dddddd a0.2.1, dL c221_ddd a0.2.2])] ⟨kr, kr, trivial⟩ rfl ?_
  refine ls_seq_k fun K3 hK3 => ?_
  refine ls_rs tbOk ?_
  refine evs (ev_mv (c := nI v1) rfl rfl rfl (evs (ev_bin (c1 := nI v1) (c2 := nI 0) rfl rfl rfl (evn ?_))))
  refine ls_keep [(1, nI v1), (2, .box [dL c206_dd a0.1, dL c223_dddddd a0.2.1, dL c221_ddd a0.2.2]), (10, .bool (decide (v1 < 0)))] ⟨kr, kr, kr, trivial⟩ rfl ?_
  rcases cond_some h with ⟨g4, h⟩ | ⟨g4, h⟩
  · refine ls_cT rfl g4 ?_
    refine ls_rs tbOk ?_
    refine evs (ev_ac rfl nofun rfl (evn ?_))
    refine ls_keep [(4, nI (-1))] ⟨kr, trivial⟩ rfl ?_
    refine ls_ret ?_
    have hr := Option.some.inj h
    rw [← hr]
    exact ⟨.inl rfl, rfl⟩
  · refine ls_cF rfl g4 ?_
    refine ls_skip ?_
    refine hK3 _ (ls_keep [(1, nI v1), (2, .box [dL c206_dd a0.1, dL c223_dddddd a0.2.1, dL c221_ddd a0.2.2])] ⟨kr, kr, trivial⟩ rfl ?_)
    refine ls_rs tbOk ?_
    refine evs (ev_fa (c1 := .cref 2 0) (v := .cref 2 1) rfl rfl rfl ⟨_, rfl⟩ rfl (evs (ev_ldB (off := 1) (v := dL c223_dddddd a0.2.1) rfl rfl rfl rfl (nb rfl) rfl (evs (ev_mv (c := nI v1) rfl rfl rfl (?_))))))
    obtain ⟨v5, g6, h⟩ := ob_some h
    refine evs (ev_call (era rfl (erD ec223_dddddd _) (era rfl rfl eran)) (laws_szViewS_s g6) (evs (ev_as (c := nI v5) rfl rfl rfl (evn ?_))))
    refine ls_keep [(1, nI v5), (2, .box [dL c206_dd a0.1, dL c223_dddddd a0.2.1, dL c221_ddd a0.2.2])] ⟨kr, kr, trivial⟩ rfl ?_
    refine ls_seq_k fun K7 hK7 => ?_
    refine ls_rs tbOk ?_
    refine evs (ev_mv (c := nI v5) rfl rfl rfl (evs (ev_bin (c1 := nI v5) (c2 := nI 0) rfl rfl rfl (evn ?_))))
    refine ls_keep [(1, nI v5), (2, .box [dL c206_dd a0.1, dL c223_dddddd a0.2.1, dL c221_ddd a0.2.2]), (16, .bool (decide (v5 < 0)))] ⟨kr, kr, kr, trivial⟩ rfl ?_
    rcases cond_some h with ⟨g8, h⟩ | ⟨g8, h⟩
    · refine ls_cT rfl g8 ?_
      refine ls_rs tbOk ?_
      refine evs (ev_ac rfl nofun rfl (evn ?_))
      refine ls_keep [(4, nI (-1))] ⟨kr, trivial⟩ rfl ?_
      refine ls_ret ?_
      have hr := Option.some.inj h
      rw [← hr]
      exact ⟨.inl rfl, rfl⟩
    · refine ls_cF rfl g8 ?_
      refine ls_skip ?_
      refine hK7 _ (ls_keep [(1, nI v5), (2, .box [dL c206_dd a0.1, dL c223_dddddd a0.2.1, dL c221_ddd a0.2.2])] ⟨kr, kr, trivial⟩ rfl ?_)
      refine ls_rs tbOk ?_
      refine evs (ev_fa (c1 := .cref 2 0) (v := .cref 2 2) rfl rfl rfl ⟨_, rfl⟩ rfl (evs (ev_ldB (off := 2) (v := dL c221_ddd a0.2.2) rfl rfl rfl rfl (nb rfl) rfl (evs (ev_mv (c := nI v5) rfl rfl rfl (?_))))))
      obtain ⟨v9, g10, h⟩ := ob_some h
      refine evs (ev_call (era rfl (erD ec221_ddd _) (era rfl rfl eran)) (laws_szCountedRelationS_s g10) (evs (ev_as (c := nI v9) rfl rfl rfl (evn ?_))))
      refine ls_keep [(1, nI v9)] ⟨kr, trivial⟩ rfl ?_
      refine ls_seq_k fun K11 hK11 => ?_
      refine ls_rs tbOk ?_
      refine evs (ev_mv (c := nI v9) rfl rfl rfl (evs (ev_bin (c1 := nI v9) (c2 := nI 0) rfl rfl rfl (evn ?_))))
      refine ls_keep [(1, nI v9), (22, .bool (decide (v9 < 0)))] ⟨kr, kr, trivial⟩ rfl ?_
      rcases cond_some h with ⟨g12, h⟩ | ⟨g12, h⟩
      · refine ls_cT rfl g12 ?_
        refine ls_rs tbOk ?_
        refine evs (ev_ac rfl nofun rfl (evn ?_))
        refine ls_keep [(4, nI (-1))] ⟨kr, trivial⟩ rfl ?_
        refine ls_ret ?_
        have hr := Option.some.inj h
        rw [← hr]
        exact ⟨.inl rfl, rfl⟩
      · refine ls_cF rfl g12 ?_
        refine ls_skip ?_
        refine hK11 _ (ls_keep [(1, nI v9)] ⟨kr, trivial⟩ rfl ?_)
        refine ls_rs tbOk ?_
        refine evs (ev_mv (c := nI v9) rfl rfl rfl (evs (ev_as (c := nI v9) rfl rfl rfl (evn ?_))))
        refine ls_keep [(4, nI v9)] ⟨kr, trivial⟩ rfl ?_
        refine ls_ret ?_
        have hr := Option.some.inj h
        rw [← hr]
        exact ⟨.inl rfl, rfl⟩
def spec_CompareRows_B1 (a0 : List Int) (a1 : List Int) (rec : Int → Option (Sum (Unit) (Int))) (y1 : Int) : Option (Sum (Unit) (Int)) := cond (decide (y1 < (List.length a0 : Int))) (cond (decide (y1 < (List.length a1 : Int))) (obind (geti a0 y1) fun e7 => obind (geti a1 y1) fun e9 => cond (decide (e7 < e9)) (some (.inr (-1))) (obind (geti a0 y1) fun e12 => obind (geti a1 y1) fun e14 => cond (decide (e14 < e12)) (some (.inr 1)) (rec (IntKind.i64.wrap (y1 + 1))))) (some (.inl ()))) (some (.inl ()))
def spec_CompareRows (a0 : List Int) (a1 : List Int) : Option (Int) := obind (loopF (spec_CompareRows_B1 a0 a1) fz 0) fun o1 => (match o1 with
  | .inl _ => (cond (decide ((List.length a0 : Int) < (List.length a1 : Int))) (some (-1)) (cond (decide ((List.length a1 : Int) < (List.length a0 : Int))) (some 1) (some 0)))
  | .inr r => some r)
theorem spec_CompareRows_s {a0 : List Int} {a1 : List Int} {r : Int} (h : spec_CompareRows a0 a1 = some r) : SoundAt Try.prog 75 [dL ci64 a0, dL ci64 a1] (nI r) := by
  unfold spec_CompareRows at h
  refine sound_lit tbOk lit75 (nb rfl) rfl ?_
  unfold c75
  refine ls_keep [(0, dL ci64 a0), (1, dL ci64 a1)] ⟨kr, kr, trivial⟩ rfl ?_
  refine ls_rs tbOk ?_
  refine evs (ev_ac rfl nofun rfl (evn ?_))
  refine ls_keep [(0, dL ci64 a0), (1, dL ci64 a1)] ⟨kr, kr, trivial⟩ rfl ?_
  refine ls_seq_k fun K1 hK1 => ?_
  refine ls_rs tbOk ?_
  refine evs (ev_ac rfl nofun rfl (evn ?_))
  refine ls_keep [(0, dL ci64 a0), (1, dL ci64 a1), (5, nI 0)] ⟨kr, kr, kr, trivial⟩ rfl ?_
  obtain ⟨o1, hl, hr1⟩ := ob_some h
  clear h
  have kXspec_CompareRows_B1 : ∀ (_ : Unit), (cond (decide ((List.length a0 : Int) < (List.length a1 : Int))) (some (-1)) (cond (decide ((List.length a1 : Int) < (List.length a0 : Int))) (some 1) (some 0))) = some r → ∀ σ' : PS, okK σ' [(0, dL ci64 a0), (1, dL ci64 a1)] → K1 σ' := by
    intro _ h σ' hk
    refine hK1 _ (ls_keep [(0, dL ci64 a0), (1, dL ci64 a1)] hk rfl ?_)
    refine ls_seq_k fun K17 hK17 => ?_
    refine ls_rs tbOk ?_
    refine evs (ev_mv (c := dL ci64 a0) rfl rfl rfl (evs (ev_len (c1 := dL ci64 a0) rfl rfl rfl (evs (ev_mv (c := dL ci64 a1) rfl rfl rfl (evs (ev_len (c1 := dL ci64 a1) rfl rfl rfl (evs (ev_bin (c1 := nI (List.length a0 : Int)) (c2 := nI (List.length a1 : Int)) rfl rfl rfl (evn ?_))))))))))
    refine ls_keep [(0, dL ci64 a0), (1, dL ci64 a1), (40, .bool (decide ((List.length a0 : Int) < (List.length a1 : Int))))] ⟨kr, kr, kr, trivial⟩ rfl ?_
    rcases cond_some h with ⟨g18, h⟩ | ⟨g18, h⟩
    · refine ls_cT rfl g18 ?_
      refine ls_rs tbOk ?_
      refine evs (ev_ac rfl nofun rfl (evn ?_))
      refine ls_keep [(4, nI (-1))] ⟨kr, trivial⟩ rfl ?_
      refine ls_ret ?_
      have hr := Option.some.inj h
      rw [← hr]
      exact ⟨.inl rfl, rfl⟩
    · refine ls_cF rfl g18 ?_
      refine ls_skip ?_
      refine hK17 _ (ls_keep [(0, dL ci64 a0), (1, dL ci64 a1)] ⟨kr, kr, trivial⟩ rfl ?_)
      refine ls_seq_k fun K19 hK19 => ?_
      refine ls_rs tbOk ?_
      refine evs (ev_mv (c := dL ci64 a0) rfl rfl rfl (evs (ev_len (c1 := dL ci64 a0) rfl rfl rfl (evs (ev_mv (c := dL ci64 a1) rfl rfl rfl (evs (ev_len (c1 := dL ci64 a1) rfl rfl rfl (evs (ev_bin (c1 := nI (List.length a0 : Int)) (c2 := nI (List.length a1 : Int)) rfl rfl rfl (evn ?_))))))))))
      refine ls_keep [(45, .bool (decide ((List.length a1 : Int) < (List.length a0 : Int))))] ⟨kr, trivial⟩ rfl ?_
      rcases cond_some h with ⟨g20, h⟩ | ⟨g20, h⟩
      · refine ls_cT rfl g20 ?_
        refine ls_rs tbOk ?_
        refine evs (ev_ac rfl nofun rfl (evn ?_))
        refine ls_keep [(4, nI 1)] ⟨kr, trivial⟩ rfl ?_
        refine ls_ret ?_
        have hr := Option.some.inj h
        rw [← hr]
        exact ⟨.inl rfl, rfl⟩
      · refine ls_cF rfl g20 ?_
        refine ls_skip ?_
        refine hK19 _ (ls_keep [] trivial rfl ?_)
        refine ls_rs tbOk ?_
        refine evs (ev_ac rfl nofun rfl (evn ?_))
        refine ls_keep [(4, nI 0)] ⟨kr, trivial⟩ rfl ?_
        refine ls_ret ?_
        have hr := Option.some.inj h
        rw [← hr]
        exact ⟨.inl rfl, rfl⟩
  refine ls_rec (fun (y1 : Int) => [(0, dL ci64 a0), (1, dL ci64 a1), (5, nI y1)]) (spec_CompareRows_B1 a0 a1) fz 0 o1 hl ⟨kr, kr, kr, trivial⟩ (fun _ => rfl) ?_
  rintro m y1 N h hN
  unfold spec_CompareRows_B1 at h
  refine ls_seq_k fun K2 hK2 => ?_
  refine ls_rs tbOk ?_
  refine evs (ev_mv (c := nI y1) rfl rfl rfl (evs (ev_mv (c := dL ci64 a0) rfl rfl rfl (evs (ev_len (c1 := dL ci64 a0) rfl rfl rfl (evs (ev_bin (c1 := nI y1) (c2 := nI (List.length a0 : Int)) rfl rfl rfl (evs (ev_mv (c := .bool (decide (y1 < (List.length a0 : Int)))) rfl rfl rfl (?_))))))))))
  rcases cond_some h with ⟨g3, h⟩ | ⟨g3, h⟩
  · refine evs (ev_gr rfl (congrArg V.bool g3) (ev_mv (c := nI y1) rfl rfl rfl (evs (ev_gr rfl (congrArg V.bool g3) (ev_mv (c := dL ci64 a1) rfl rfl rfl (evs (ev_gr rfl (congrArg V.bool g3) (ev_len (c1 := dL ci64 a1) rfl rfl rfl (evs (ev_gr rfl (congrArg V.bool g3) (ev_bin (c1 := nI y1) (c2 := nI (List.length a1 : Int)) rfl rfl rfl (evs (ev_pkT (c1 := .bool (decide (y1 < (List.length a1 : Int)))) rfl g3 rfl rfl (evn ?_))))))))))))))
    refine ls_keep [(0, dL ci64 a0), (1, dL ci64 a1), (5, nI y1), (15, .bool (decide (y1 < (List.length a1 : Int))))] ⟨kr, kr, kr, kr, trivial⟩ rfl ?_
    rcases cond_some h with ⟨g4, h⟩ | ⟨g4, h⟩
    · refine ls_cT rfl g4 ?_
      refine ls_skip ?_
      refine hK2 _ (ls_keep [(0, dL ci64 a0), (1, dL ci64 a1), (5, nI y1)] ⟨kr, kr, kr, trivial⟩ rfl ?_)
      refine ls_seq_k fun K5 hK5 => ?_
      refine ls_blk ?_
      refine ls_seq_k fun K6 hK6 => ?_
      refine ls_rd tbOk mixed (by kernel_rfl) ?_
      refine evd rfl rfl (ev_mv (c := dL ci64 a0) rfl rfl rfl (evd rfl rfl (ev_mv (c := nI y1) rfl rfl rfl (?_))))
      obtain ⟨e7, g8, h⟩ := ob_some h
      refine evd rfl rfl (ev_ia rfl rfl rfl ⟨(geti_some g8).1, (geti_some g8).2.1⟩ (evd rfl rfl (ev_ldE (i := y1) (n := 1) (off := 0) (v := nI e7) rfl rfl zci64 g8 rfl (nb rfl) rfl (evd rfl rfl (ev_mv (c := dL ci64 a1) rfl rfl rfl (evd rfl rfl (ev_mv (c := nI y1) rfl rfl rfl (?_))))))))
      obtain ⟨e9, g10, h⟩ := ob_some h
      refine evd rfl rfl (ev_ia rfl rfl rfl ⟨(geti_some g10).1, (geti_some g10).2.1⟩ (evd rfl rfl (ev_ldE (i := y1) (n := 1) (off := 0) (v := nI e9) rfl rfl zci64 g10 rfl (nb rfl) rfl (evd rfl rfl (ev_bin (c1 := nI e7) (c2 := nI e9) rfl rfl rfl (evdn ?_))))))
      refine ls_keep [(0, dL ci64 a0), (1, dL ci64 a1), (5, nI y1), (26, .bool (decide (e7 < e9)))] ⟨kr, kr, kr, kr, trivial⟩ rfl ?_
      rcases cond_some h with ⟨g11, h⟩ | ⟨g11, h⟩
      · refine ls_cT rfl g11 ?_
        refine ls_rs tbOk ?_
        refine evs (ev_ac rfl nofun rfl (evn ?_))
        refine ls_keep [(4, nI (-1))] ⟨kr, trivial⟩ rfl ?_
        refine ls_ret ?_
        have q0 := (Option.some.inj h).symm
        have r0 := hr1
        rw [q0] at r0
        have hr := Option.some.inj r0
        rw [← hr]
        exact ⟨.inl rfl, rfl⟩
      · refine ls_cF rfl g11 ?_
        refine ls_skip ?_
        refine hK6 _ (ls_keep [(0, dL ci64 a0), (1, dL ci64 a1), (5, nI y1)] ⟨kr, kr, kr, trivial⟩ rfl ?_)
        refine ls_rd tbOk mixed (by kernel_rfl) ?_
        refine evd rfl rfl (ev_mv (c := dL ci64 a0) rfl rfl rfl (evd rfl rfl (ev_mv (c := nI y1) rfl rfl rfl (?_))))
        obtain ⟨e12, g13, h⟩ := ob_some h
        refine evd rfl rfl (ev_ia rfl rfl rfl ⟨(geti_some g13).1, (geti_some g13).2.1⟩ (evd rfl rfl (ev_ldE (i := y1) (n := 1) (off := 0) (v := nI e12) rfl rfl zci64 g13 rfl (nb rfl) rfl (evd rfl rfl (ev_mv (c := dL ci64 a1) rfl rfl rfl (evd rfl rfl (ev_mv (c := nI y1) rfl rfl rfl (?_))))))))
        obtain ⟨e14, g15, h⟩ := ob_some h
        refine evd rfl rfl (ev_ia rfl rfl rfl ⟨(geti_some g15).1, (geti_some g15).2.1⟩ (evd rfl rfl (ev_ldE (i := y1) (n := 1) (off := 0) (v := nI e14) rfl rfl zci64 g15 rfl (nb rfl) rfl (evd rfl rfl (ev_bin (c1 := nI e12) (c2 := nI e14) rfl rfl rfl (evdn ?_))))))
        refine ls_keep [(0, dL ci64 a0), (1, dL ci64 a1), (5, nI y1), (35, .bool (decide (e14 < e12)))] ⟨kr, kr, kr, kr, trivial⟩ rfl ?_
        rcases cond_some h with ⟨g16, h⟩ | ⟨g16, h⟩
        · refine ls_cT rfl g16 ?_
          refine ls_rs tbOk ?_
          refine evs (ev_ac rfl nofun rfl (evn ?_))
          refine ls_keep [(4, nI 1)] ⟨kr, trivial⟩ rfl ?_
          refine ls_ret ?_
          have q0 := (Option.some.inj h).symm
          have r0 := hr1
          rw [q0] at r0
          have hr := Option.some.inj r0
          rw [← hr]
          exact ⟨.inl rfl, rfl⟩
        · refine ls_cF rfl g16 ?_
          refine ls_skip ?_
          refine hK5 _ (ls_keep [(0, dL ci64 a0), (1, dL ci64 a1), (5, nI y1)] ⟨kr, kr, kr, trivial⟩ rfl ?_)
          refine ls_rgn tbOk ?_
          refine evs (ev_mv (c := nI y1) rfl rfl rfl (evs (ev_bin (c1 := nI y1) (c2 := nI 1) rfl rfl rfl (evs (ev_as (c := nI (IntKind.i64.wrap (y1 + 1))) rfl rfl rfl (evn ?_))))))
          exact hN _ (IntKind.i64.wrap (y1 + 1)) h ⟨kr, kr, kr, trivial⟩
    · refine ls_cF rfl g4 ?_
      refine ls_exit ?_
      have q0 := (Option.some.inj h).symm
      have r0 := hr1
      rw [q0] at r0
      exact kXspec_CompareRows_B1 () r0 _ ⟨kr, kr, trivial⟩
  · refine evs (ev_gs rfl rfl (isb_F g3) (evs (ev_gs rfl rfl (isb_F g3) (evs (ev_gs rfl rfl (isb_F g3) (evs (ev_gs rfl rfl (isb_F g3) (evs (ev_pkF (c1 := .bool false) rfl g3 rfl rfl (evn ?_))))))))))
    refine ls_keep [(0, dL ci64 a0), (1, dL ci64 a1), (5, nI y1), (15, .bool false)] ⟨kr, kr, kr, kr, trivial⟩ rfl ?_
    refine ls_cF rfl rfl ?_
    refine ls_exit ?_
    have q0 := (Option.some.inj h).symm
    have r0 := hr1
    rw [q0] at r0
    exact kXspec_CompareRows_B1 () r0 _ ⟨kr, kr, trivial⟩
def c128_dd (x : Y127) : List V := [nI x.1, dL c25_d x.2]
theorem zc128_dd (x : Y127) : (c128_dd x).length = 2 := rfl
theorem ec128_dd (x : Y127) : erL (c128_dd x) = c128_dd x := (erc rfl (erc (erD ec25_d _) rfl))
def spec_EqualRelations_B1 (a0 : Y127) (a1 : Y127) (rec : Int → Option (Sum (Unit) (Bool))) (y1 : Int) : Option (Sum (Unit) (Bool)) := cond (decide (y1 < (List.length a0.2 : Int))) (obind (geti a0.2 y1) fun e8 => obind (geti a1.2 y1) fun e10 => obind (spec_CompareRows e8 e10) fun v12 => cond (v12 != 0) (some (.inr false)) (rec (IntKind.i64.wrap (y1 + 1)))) (some (.inl ()))
def spec_EqualRelations (a0 : Y127) (a1 : Y127) : Option (Bool) := cond (a0.1 != a1.1) (some false) (cond ((List.length a0.2 : Int) != (List.length a1.2 : Int)) (some false) (obind (loopF (spec_EqualRelations_B1 a0 a1) fz 0) fun o1 => (match o1 with
  | .inl _ => (some true)
  | .inr r => some r)))
theorem spec_EqualRelations_s {a0 : Y127} {a1 : Y127} {r : Bool} (h : spec_EqualRelations a0 a1 = some r) : SoundAt Try.prog 191 [.agg (c128_dd a0), .agg (c128_dd a1)] (.bool r) := by
  unfold spec_EqualRelations at h
  refine sound_lit tbOk lit191 (nb rfl) rfl ?_
  unfold c191
  refine ls_keep [(0, .agg (c128_dd a0)), (1, .agg (c128_dd a1))] ⟨kr, kr, trivial⟩ rfl ?_
  refine ls_rs tbOk ?_
  refine evs (ev_bx (c1 := .agg (c128_dd a0)) rfl rfl rfl (evs (ev_bx (c1 := .agg (c128_dd a1)) rfl rfl rfl (evs (ev_ac rfl nofun rfl (evn ?_))))))
  refine ls_keep [(2, .box [nI a0.1, dL c25_d a0.2]), (3, .box [nI a1.1, dL c25_d a1.2])] ⟨kr, kr, trivial⟩ rfl ?_
  refine ls_seq_k fun K1 hK1 => ?_
  refine ls_rs tbOk ?_
  refine evs (ev_fa (c1 := .cref 2 0) (v := .cref 2 0) rfl rfl rfl ⟨_, rfl⟩ rfl (evs (ev_ldB (off := 0) (v := nI a0.1) rfl rfl rfl rfl (nb rfl) rfl (evs (ev_fa (c1 := .cref 3 0) (v := .cref 3 0) rfl rfl rfl ⟨_, rfl⟩ rfl (evs (ev_ldB (off := 0) (v := nI a1.1) rfl rfl rfl rfl (nb rfl) rfl (evs (ev_bin (c1 := nI a0.1) (c2 := nI a1.1) rfl rfl rfl (evs (ev_mv (c := .bool (a0.1 != a1.1)) rfl rfl rfl (?_))))))))))))
  rcases cond_some h with ⟨g2, h⟩ | ⟨g2, h⟩
  · refine evs (ev_gs rfl rfl (isb_T g2) (evs (ev_gs rfl rfl (isb_T g2) (evs (ev_gs rfl rfl (isb_T g2) (evs (ev_gs rfl rfl (isb_T g2) (evs (ev_gs rfl rfl (isb_T g2) (evs (ev_gs rfl rfl (isb_T g2) (evs (ev_gs rfl rfl (isb_T g2) (evs (ev_pkT (c1 := .bool true) rfl g2 rfl rfl (evn ?_))))))))))))))))
    refine ls_keep [(2, .box [nI a0.1, dL c25_d a0.2]), (3, .box [nI a1.1, dL c25_d a1.2]), (19, .bool true)] ⟨kr, kr, kr, trivial⟩ rfl ?_
    refine ls_cT rfl rfl ?_
    refine ls_rs tbOk ?_
    refine evs (ev_ac rfl nofun rfl (evn ?_))
    refine ls_keep [(4, .bool false)] ⟨kr, trivial⟩ rfl ?_
    refine ls_ret ?_
    have hr := Option.some.inj h
    rw [← hr]
    exact ⟨.inl rfl, rfl⟩
  · refine evs (ev_gr rfl (congrArg V.bool g2) (ev_fa (c1 := .cref 2 0) (v := .cref 2 1) rfl rfl rfl ⟨_, rfl⟩ rfl (evs (ev_gr rfl (congrArg V.bool g2) (ev_ldB (off := 1) (v := dL c25_d a0.2) rfl rfl rfl rfl (nb rfl) rfl (evs (ev_gr rfl (congrArg V.bool g2) (ev_len (c1 := dL c25_d a0.2) rfl rfl rfl (evs (ev_gr rfl (congrArg V.bool g2) (ev_fa (c1 := .cref 3 0) (v := .cref 3 1) rfl rfl rfl ⟨_, rfl⟩ rfl (evs (ev_gr rfl (congrArg V.bool g2) (ev_ldB (off := 1) (v := dL c25_d a1.2) rfl rfl rfl rfl (nb rfl) rfl (evs (ev_gr rfl (congrArg V.bool g2) (ev_len (c1 := dL c25_d a1.2) rfl rfl rfl (evs (ev_gr rfl (congrArg V.bool g2) (ev_bin (c1 := nI (List.length a0.2 : Int)) (c2 := nI (List.length a1.2 : Int)) rfl rfl rfl (evs (ev_pkF (c1 := .bool ((List.length a0.2 : Int) != (List.length a1.2 : Int))) rfl g2 rfl rfl (evn ?_)))))))))))))))))))))))
    refine ls_keep [(2, .box [nI a0.1, dL c25_d a0.2]), (3, .box [nI a1.1, dL c25_d a1.2]), (19, .bool ((List.length a0.2 : Int) != (List.length a1.2 : Int)))] ⟨kr, kr, kr, trivial⟩ rfl ?_
    rcases cond_some h with ⟨g3, h⟩ | ⟨g3, h⟩
    · refine ls_cT rfl g3 ?_
      refine ls_rs tbOk ?_
      refine evs (ev_ac rfl nofun rfl (evn ?_))
      refine ls_keep [(4, .bool false)] ⟨kr, trivial⟩ rfl ?_
      refine ls_ret ?_
      have hr := Option.some.inj h
      rw [← hr]
      exact ⟨.inl rfl, rfl⟩
    · refine ls_cF rfl g3 ?_
      refine ls_skip ?_
      refine hK1 _ (ls_keep [(2, .box [nI a0.1, dL c25_d a0.2]), (3, .box [nI a1.1, dL c25_d a1.2])] ⟨kr, kr, trivial⟩ rfl ?_)
      refine ls_seq_k fun K4 hK4 => ?_
      refine ls_rs tbOk ?_
      refine evs (ev_ac rfl nofun rfl (evn ?_))
      refine ls_keep [(2, .box [nI a0.1, dL c25_d a0.2]), (3, .box [nI a1.1, dL c25_d a1.2]), (5, nI 0)] ⟨kr, kr, kr, trivial⟩ rfl ?_
      obtain ⟨o1, hl, hr1⟩ := ob_some h
      clear h
      have kXspec_EqualRelations_B1 : ∀ (_ : Unit), (some true) = some r → ∀ σ' : PS, okK σ' [] → K4 σ' := by
        intro _ h σ' hk
        refine hK4 _ (ls_keep [] hk rfl ?_)
        refine ls_rs tbOk ?_
        refine evs (ev_ac rfl nofun rfl (evn ?_))
        refine ls_keep [(4, .bool true)] ⟨kr, trivial⟩ rfl ?_
        refine ls_ret ?_
        have hr := Option.some.inj h
        rw [← hr]
        exact ⟨.inl rfl, rfl⟩
      refine ls_rec (fun (y1 : Int) => [(2, .box [nI a0.1, dL c25_d a0.2]), (3, .box [nI a1.1, dL c25_d a1.2]), (5, nI y1)]) (spec_EqualRelations_B1 a0 a1) fz 0 o1 hl ⟨kr, kr, kr, trivial⟩ (fun _ => rfl) ?_
      rintro m y1 N h hN
      unfold spec_EqualRelations_B1 at h
      refine ls_seq_k fun K5 hK5 => ?_
      refine ls_rs tbOk ?_
      refine evs (ev_mv (c := nI y1) rfl rfl rfl (evs (ev_fa (c1 := .cref 2 0) (v := .cref 2 1) rfl rfl rfl ⟨_, rfl⟩ rfl (evs (ev_ldB (off := 1) (v := dL c25_d a0.2) rfl rfl rfl rfl (nb rfl) rfl (evs (ev_len (c1 := dL c25_d a0.2) rfl rfl rfl (evs (ev_bin (c1 := nI y1) (c2 := nI (List.length a0.2 : Int)) rfl rfl rfl (evn ?_))))))))))
      refine ls_keep [(2, .box [nI a0.1, dL c25_d a0.2]), (3, .box [nI a1.1, dL c25_d a1.2]), (5, nI y1), (24, .bool (decide (y1 < (List.length a0.2 : Int))))] ⟨kr, kr, kr, kr, trivial⟩ rfl ?_
      rcases cond_some h with ⟨g6, h⟩ | ⟨g6, h⟩
      · refine ls_cT rfl g6 ?_
        refine ls_skip ?_
        refine hK5 _ (ls_keep [(2, .box [nI a0.1, dL c25_d a0.2]), (3, .box [nI a1.1, dL c25_d a1.2]), (5, nI y1)] ⟨kr, kr, kr, trivial⟩ rfl ?_)
        refine ls_seq_k fun K7 hK7 => ?_
        refine ls_blk ?_
        refine ls_rd tbOk mixed (by kernel_rfl) ?_
        refine evd rfl rfl (ev_fa (c1 := .cref 2 0) (v := .cref 2 1) rfl rfl rfl ⟨_, rfl⟩ rfl (evd rfl rfl (ev_ldB (off := 1) (v := dL c25_d a0.2) rfl rfl rfl rfl (nb rfl) rfl (evd rfl rfl (ev_mv (c := nI y1) rfl rfl rfl (?_))))))
        obtain ⟨e8, g9, h⟩ := ob_some h
        refine evd rfl rfl (ev_ia rfl rfl rfl ⟨(geti_some g9).1, (geti_some g9).2.1⟩ (evd rfl rfl (ev_ldE (i := y1) (n := 1) (off := 0) (v := dL ci64 e8) rfl rfl zc25_d g9 rfl (nb rfl) rfl (evd rfl rfl (ev_fa (c1 := .cref 3 0) (v := .cref 3 1) rfl rfl rfl ⟨_, rfl⟩ rfl (evd rfl rfl (ev_ldB (off := 1) (v := dL c25_d a1.2) rfl rfl rfl rfl (nb rfl) rfl (evd rfl rfl (ev_mv (c := nI y1) rfl rfl rfl (?_))))))))))
        obtain ⟨e10, g11, h⟩ := ob_some h
        refine evd rfl rfl (ev_ia rfl rfl rfl ⟨(geti_some g11).1, (geti_some g11).2.1⟩ (evd rfl rfl (ev_ldE (i := y1) (n := 1) (off := 0) (v := dL ci64 e10) rfl rfl zc25_d g11 rfl (nb rfl) rfl (?_))))
        obtain ⟨v12, g13, h⟩ := ob_some h
        refine evd rfl rfl (ev_call (era rfl (erD eci64 _) (era rfl (erD eci64 _) eran)) (spec_CompareRows_s g13) (evd rfl rfl (ev_bin (c1 := nI v12) (c2 := nI 0) rfl rfl rfl (evdn ?_))))
        refine ls_keep [(2, .box [nI a0.1, dL c25_d a0.2]), (3, .box [nI a1.1, dL c25_d a1.2]), (5, nI y1), (38, .bool (v12 != 0))] ⟨kr, kr, kr, kr, trivial⟩ rfl ?_
        rcases cond_some h with ⟨g14, h⟩ | ⟨g14, h⟩
        · refine ls_cT rfl g14 ?_
          refine ls_rs tbOk ?_
          refine evs (ev_ac rfl nofun rfl (evn ?_))
          refine ls_keep [(4, .bool false)] ⟨kr, trivial⟩ rfl ?_
          refine ls_ret ?_
          have q0 := (Option.some.inj h).symm
          have r0 := hr1
          rw [q0] at r0
          have hr := Option.some.inj r0
          rw [← hr]
          exact ⟨.inl rfl, rfl⟩
        · refine ls_cF rfl g14 ?_
          refine ls_skip ?_
          refine hK7 _ (ls_keep [(2, .box [nI a0.1, dL c25_d a0.2]), (3, .box [nI a1.1, dL c25_d a1.2]), (5, nI y1)] ⟨kr, kr, kr, trivial⟩ rfl ?_)
          refine ls_rgn tbOk ?_
          refine evs (ev_mv (c := nI y1) rfl rfl rfl (evs (ev_bin (c1 := nI y1) (c2 := nI 1) rfl rfl rfl (evs (ev_as (c := nI (IntKind.i64.wrap (y1 + 1))) rfl rfl rfl (evn ?_))))))
          exact hN _ (IntKind.i64.wrap (y1 + 1)) h ⟨kr, kr, kr, trivial⟩
      · refine ls_cF rfl g6 ?_
        refine ls_exit ?_
        have q0 := (Option.some.inj h).symm
        have r0 := hr1
        rw [q0] at r0
        exact kXspec_EqualRelations_B1 () r0 _ trivial
abbrev Y207 := (List UInt8) × Y127
def c208_dd (x : Y207) : List V := [.str x.1, nI x.2.1, dL c25_d x.2.2]
theorem zc208_dd (x : Y207) : (c208_dd x).length = 3 := rfl
theorem ec208_dd (x : Y207) : erL (c208_dd x) = c208_dd x := (erc rfl (erc rfl (erc (erD ec25_d _) rfl)))
def spec_EqualDatabases_B1 (a0 : List Y207) (a1 : List Y207) (rec : Int → Option (Sum (Unit) (Bool))) (y1 : Int) : Option (Sum (Unit) (Bool)) := cond (decide (y1 < (List.length a0 : Int))) (obind (geti a0 y1) fun e7 => obind (geti a1 y1) fun e9 => cond (!(e7.1 == e9.1)) (some (.inr false)) (obind (geti a0 y1) fun e12 => obind (geti a1 y1) fun e14 => obind (spec_EqualRelations e12.2 e14.2) fun v16 => cond (!v16) (some (.inr false)) (rec (IntKind.i64.wrap (y1 + 1))))) (some (.inl ()))
def spec_EqualDatabases (a0 : List Y207) (a1 : List Y207) : Option (Bool) := cond ((List.length a0 : Int) != (List.length a1 : Int)) (some false) (obind (loopF (spec_EqualDatabases_B1 a0 a1) fz 0) fun o1 => (match o1 with
  | .inl _ => (some true)
  | .inr r => some r))
theorem spec_EqualDatabases_s {a0 : List Y207} {a1 : List Y207} {r : Bool} (h : spec_EqualDatabases a0 a1 = some r) : SoundAt Try.prog 110 [.agg [dL c208_dd a0], .agg [dL c208_dd a1]] (.bool r) := by
  unfold spec_EqualDatabases at h
  refine sound_lit tbOk lit110 (nb rfl) rfl ?_
  unfold c110
  refine ls_keep [(0, .agg [dL c208_dd a0]), (1, .agg [dL c208_dd a1])] ⟨kr, kr, trivial⟩ rfl ?_
  refine ls_rs tbOk ?_
  refine evs (ev_bx (c1 := .agg [dL c208_dd a0]) rfl rfl rfl (evs (ev_bx (c1 := .agg [dL c208_dd a1]) rfl rfl rfl (evs (ev_ac rfl nofun rfl (evn ?_))))))
  refine ls_keep [(2, .box [dL c208_dd a0]), (3, .box [dL c208_dd a1])] ⟨kr, kr, trivial⟩ rfl ?_
  refine ls_seq_k fun K1 hK1 => ?_
  refine ls_rs tbOk ?_
  refine evs (ev_fa (c1 := .cref 2 0) (v := .cref 2 0) rfl rfl rfl ⟨_, rfl⟩ rfl (evs (ev_ldB (off := 0) (v := dL c208_dd a0) rfl rfl rfl rfl (nb rfl) rfl (evs (ev_len (c1 := dL c208_dd a0) rfl rfl rfl (evs (ev_fa (c1 := .cref 3 0) (v := .cref 3 0) rfl rfl rfl ⟨_, rfl⟩ rfl (evs (ev_ldB (off := 0) (v := dL c208_dd a1) rfl rfl rfl rfl (nb rfl) rfl (evs (ev_len (c1 := dL c208_dd a1) rfl rfl rfl (evs (ev_bin (c1 := nI (List.length a0 : Int)) (c2 := nI (List.length a1 : Int)) rfl rfl rfl (evn ?_))))))))))))))
  refine ls_keep [(2, .box [dL c208_dd a0]), (3, .box [dL c208_dd a1]), (12, .bool ((List.length a0 : Int) != (List.length a1 : Int)))] ⟨kr, kr, kr, trivial⟩ rfl ?_
  rcases cond_some h with ⟨g2, h⟩ | ⟨g2, h⟩
  · refine ls_cT rfl g2 ?_
    refine ls_rs tbOk ?_
    refine evs (ev_ac rfl nofun rfl (evn ?_))
    refine ls_keep [(4, .bool false)] ⟨kr, trivial⟩ rfl ?_
    refine ls_ret ?_
    have hr := Option.some.inj h
    rw [← hr]
    exact ⟨.inl rfl, rfl⟩
  · refine ls_cF rfl g2 ?_
    refine ls_skip ?_
    refine hK1 _ (ls_keep [(2, .box [dL c208_dd a0]), (3, .box [dL c208_dd a1])] ⟨kr, kr, trivial⟩ rfl ?_)
    refine ls_seq_k fun K3 hK3 => ?_
    refine ls_rs tbOk ?_
    refine evs (ev_ac rfl nofun rfl (evn ?_))
    refine ls_keep [(2, .box [dL c208_dd a0]), (3, .box [dL c208_dd a1]), (5, nI 0)] ⟨kr, kr, kr, trivial⟩ rfl ?_
    obtain ⟨o1, hl, hr1⟩ := ob_some h
    clear h
    have kXspec_EqualDatabases_B1 : ∀ (_ : Unit), (some true) = some r → ∀ σ' : PS, okK σ' [] → K3 σ' := by
      intro _ h σ' hk
      refine hK3 _ (ls_keep [] hk rfl ?_)
      refine ls_rs tbOk ?_
      refine evs (ev_ac rfl nofun rfl (evn ?_))
      refine ls_keep [(4, .bool true)] ⟨kr, trivial⟩ rfl ?_
      refine ls_ret ?_
      have hr := Option.some.inj h
      rw [← hr]
      exact ⟨.inl rfl, rfl⟩
    refine ls_rec (fun (y1 : Int) => [(2, .box [dL c208_dd a0]), (3, .box [dL c208_dd a1]), (5, nI y1)]) (spec_EqualDatabases_B1 a0 a1) fz 0 o1 hl ⟨kr, kr, kr, trivial⟩ (fun _ => rfl) ?_
    rintro m y1 N h hN
    unfold spec_EqualDatabases_B1 at h
    refine ls_seq_k fun K4 hK4 => ?_
    refine ls_rs tbOk ?_
    refine evs (ev_mv (c := nI y1) rfl rfl rfl (evs (ev_fa (c1 := .cref 2 0) (v := .cref 2 0) rfl rfl rfl ⟨_, rfl⟩ rfl (evs (ev_ldB (off := 0) (v := dL c208_dd a0) rfl rfl rfl rfl (nb rfl) rfl (evs (ev_len (c1 := dL c208_dd a0) rfl rfl rfl (evs (ev_bin (c1 := nI y1) (c2 := nI (List.length a0 : Int)) rfl rfl rfl (evn ?_))))))))))
    refine ls_keep [(2, .box [dL c208_dd a0]), (3, .box [dL c208_dd a1]), (5, nI y1), (17, .bool (decide (y1 < (List.length a0 : Int))))] ⟨kr, kr, kr, kr, trivial⟩ rfl ?_
    rcases cond_some h with ⟨g5, h⟩ | ⟨g5, h⟩
    · refine ls_cT rfl g5 ?_
      refine ls_skip ?_
      refine hK4 _ (ls_keep [(2, .box [dL c208_dd a0]), (3, .box [dL c208_dd a1]), (5, nI y1)] ⟨kr, kr, kr, trivial⟩ rfl ?_)
      refine ls_seq_k fun K6 hK6 => ?_
      refine ls_blk ?_
      refine ls_rd tbOk mixed (by kernel_rfl) ?_
      refine evd rfl rfl (ev_fa (c1 := .cref 2 0) (v := .cref 2 0) rfl rfl rfl ⟨_, rfl⟩ rfl (evd rfl rfl (ev_ldB (off := 0) (v := dL c208_dd a0) rfl rfl rfl rfl (nb rfl) rfl (evd rfl rfl (ev_mv (c := nI y1) rfl rfl rfl (?_))))))
      obtain ⟨e7, g8, h⟩ := ob_some h
      refine evd rfl rfl (ev_ia rfl rfl rfl ⟨(geti_some g8).1, (geti_some g8).2.1⟩ (evd rfl rfl (ev_fa (c1 := .adr (a0.flatMap c208_dd) (Int.toNat y1 * 3)) (v := .adr (a0.flatMap c208_dd) (Int.toNat y1 * 3)) rfl rfl rfl trivial rfl (evd rfl rfl (ev_ldE (i := y1) (n := 3) (off := 0) (v := .str e7.1) rfl rfl zc208_dd g8 rfl (nb rfl) rfl (evd rfl rfl (ev_fa (c1 := .cref 3 0) (v := .cref 3 0) rfl rfl rfl ⟨_, rfl⟩ rfl (evd rfl rfl (ev_ldB (off := 0) (v := dL c208_dd a1) rfl rfl rfl rfl (nb rfl) rfl (evd rfl rfl (ev_mv (c := nI y1) rfl rfl rfl (?_))))))))))))
      obtain ⟨e9, g10, h⟩ := ob_some h
      refine evd rfl rfl (ev_ia rfl rfl rfl ⟨(geti_some g10).1, (geti_some g10).2.1⟩ (evd rfl rfl (ev_fa (c1 := .adr (a1.flatMap c208_dd) (Int.toNat y1 * 3)) (v := .adr (a1.flatMap c208_dd) (Int.toNat y1 * 3)) rfl rfl rfl trivial rfl (evd rfl rfl (ev_ldE (i := y1) (n := 3) (off := 0) (v := .str e9.1) rfl rfl zc208_dd g10 rfl (nb rfl) rfl (evd rfl rfl (ev_bin (c1 := .str e7.1) (c2 := .str e9.1) rfl rfl trivial (evd rfl rfl (ev_mv (c := .bool (!(e7.1 == e9.1))) rfl rfl rfl (?_))))))))))
      rcases cond_some h with ⟨g11, h⟩ | ⟨g11, h⟩
      · refine evd rfl rfl (ev_gs rfl rfl (isb_T g11) (evd rfl rfl (ev_gs rfl rfl (isb_T g11) (evd rfl rfl (ev_gs rfl rfl (isb_T g11) (evd rfl rfl (ev_gs rfl rfl (isb_T g11) (evd rfl rfl (ev_gs rfl rfl (isb_T g11) (evd rfl rfl (ev_gs rfl rfl (isb_T g11) (evd rfl rfl (ev_gs rfl rfl (isb_T g11) (evd rfl rfl (ev_gs rfl rfl (isb_T g11) (evd rfl rfl (ev_gs rfl rfl (isb_T g11) (evd rfl rfl (ev_gs rfl rfl (isb_T g11) (evd rfl rfl (ev_gs rfl rfl (isb_T g11) (evd rfl rfl (ev_gs rfl rfl (isb_T g11) (evd rfl rfl (ev_gs rfl rfl (isb_T g11) (evd rfl rfl (ev_gs rfl rfl (isb_T g11) (evd rfl rfl (ev_pkT (c1 := .bool true) rfl g11 rfl rfl (evdn ?_))))))))))))))))))))))))))))))
        refine ls_keep [(2, .box [dL c208_dd a0]), (3, .box [dL c208_dd a1]), (5, nI y1), (48, .bool true)] ⟨kr, kr, kr, kr, trivial⟩ rfl ?_
        refine ls_cT rfl rfl ?_
        refine ls_rs tbOk ?_
        refine evs (ev_ac rfl nofun rfl (evn ?_))
        refine ls_keep [(4, .bool false)] ⟨kr, trivial⟩ rfl ?_
        refine ls_ret ?_
        have q0 := (Option.some.inj h).symm
        have r0 := hr1
        rw [q0] at r0
        have hr := Option.some.inj r0
        rw [← hr]
        exact ⟨.inl rfl, rfl⟩
      · refine evd rfl rfl (ev_gr rfl (congrArg V.bool g11) (ev_fa (c1 := .cref 2 0) (v := .cref 2 0) rfl rfl rfl ⟨_, rfl⟩ rfl (evd rfl rfl (ev_gr rfl (congrArg V.bool g11) (ev_ldB (off := 0) (v := dL c208_dd a0) rfl rfl rfl rfl (nb rfl) rfl (evd rfl rfl (ev_gr rfl (congrArg V.bool g11) (ev_mv (c := nI y1) rfl rfl rfl (?_)))))))))
        obtain ⟨e12, g13, h⟩ := ob_some h
        refine evd rfl rfl (ev_gr rfl (congrArg V.bool g11) (ev_ia rfl rfl rfl ⟨(geti_some g13).1, (geti_some g13).2.1⟩ (evd rfl rfl (ev_gr rfl (congrArg V.bool g11) (ev_fa (c1 := .adr (a0.flatMap c208_dd) (Int.toNat y1 * 3)) (v := .adr (a0.flatMap c208_dd) (Int.toNat y1 * 3 + 1)) rfl rfl rfl trivial rfl (evd rfl rfl (ev_gr rfl (congrArg V.bool g11) (ev_ldE (i := y1) (n := 3) (off := 1) (v := .agg (c128_dd e12.2)) rfl rfl zc208_dd g13 rfl (nb rfl) rfl (evd rfl rfl (ev_gr rfl (congrArg V.bool g11) (ev_fa (c1 := .cref 3 0) (v := .cref 3 0) rfl rfl rfl ⟨_, rfl⟩ rfl (evd rfl rfl (ev_gr rfl (congrArg V.bool g11) (ev_ldB (off := 0) (v := dL c208_dd a1) rfl rfl rfl rfl (nb rfl) rfl (evd rfl rfl (ev_gr rfl (congrArg V.bool g11) (ev_mv (c := nI y1) rfl rfl rfl (?_))))))))))))))))))
        obtain ⟨e14, g15, h⟩ := ob_some h
        refine evd rfl rfl (ev_gr rfl (congrArg V.bool g11) (ev_ia rfl rfl rfl ⟨(geti_some g15).1, (geti_some g15).2.1⟩ (evd rfl rfl (ev_gr rfl (congrArg V.bool g11) (ev_fa (c1 := .adr (a1.flatMap c208_dd) (Int.toNat y1 * 3)) (v := .adr (a1.flatMap c208_dd) (Int.toNat y1 * 3 + 1)) rfl rfl rfl trivial rfl (evd rfl rfl (ev_gr rfl (congrArg V.bool g11) (ev_ldE (i := y1) (n := 3) (off := 1) (v := .agg (c128_dd e14.2)) rfl rfl zc208_dd g15 rfl (nb rfl) rfl (?_)))))))))
        obtain ⟨v16, g17, h⟩ := ob_some h
        refine evd rfl rfl (ev_gr rfl (congrArg V.bool g11) (ev_call (era rfl (erg (erc rfl (erc (erD ec25_d _) rfl))) (era rfl (erg (erc rfl (erc (erD ec25_d _) rfl))) eran)) (spec_EqualRelations_s g17) (evd rfl rfl (ev_gr rfl (congrArg V.bool g11) (ev_un (c1 := .bool v16) rfl trivial (evd rfl rfl (ev_pkF (c1 := .bool (!v16)) rfl g11 rfl rfl (evdn ?_))))))))
        refine ls_keep [(2, .box [dL c208_dd a0]), (3, .box [dL c208_dd a1]), (5, nI y1), (48, .bool (!v16))] ⟨kr, kr, kr, kr, trivial⟩ rfl ?_
        rcases cond_some h with ⟨g18, h⟩ | ⟨g18, h⟩
        · refine ls_cT rfl g18 ?_
          refine ls_rs tbOk ?_
          refine evs (ev_ac rfl nofun rfl (evn ?_))
          refine ls_keep [(4, .bool false)] ⟨kr, trivial⟩ rfl ?_
          refine ls_ret ?_
          have q0 := (Option.some.inj h).symm
          have r0 := hr1
          rw [q0] at r0
          have hr := Option.some.inj r0
          rw [← hr]
          exact ⟨.inl rfl, rfl⟩
        · refine ls_cF rfl g18 ?_
          refine ls_skip ?_
          refine hK6 _ (ls_keep [(2, .box [dL c208_dd a0]), (3, .box [dL c208_dd a1]), (5, nI y1)] ⟨kr, kr, kr, trivial⟩ rfl ?_)
          refine ls_rgn tbOk ?_
          refine evs (ev_mv (c := nI y1) rfl rfl rfl (evs (ev_bin (c1 := nI y1) (c2 := nI 1) rfl rfl rfl (evs (ev_as (c := nI (IntKind.i64.wrap (y1 + 1))) rfl rfl rfl (evn ?_))))))
          exact hN _ (IntKind.i64.wrap (y1 + 1)) h ⟨kr, kr, kr, trivial⟩
    · refine ls_cF rfl g5 ?_
      refine ls_exit ?_
      have q0 := (Option.some.inj h).symm
      have r0 := hr1
      rw [q0] at r0
      exact kXspec_EqualDatabases_B1 () r0 _ trivial
abbrev Y91 := Int × (List Y194) × (List Int)
def c195_d (x : Y194) : List V := [.str x.1, dL ci64 x.2]
theorem zc195_d (x : Y194) : (c195_d x).length = 2 := rfl
theorem ec195_d (x : Y194) : erL (c195_d x) = c195_d x := (erc rfl (erc (erD eci64 _) rfl))
def c92_ddd (x : Y91) : List V := [nI x.1, dL c195_d x.2.1, dL ci64 x.2.2]
theorem zc92_ddd (x : Y91) : (c92_ddd x).length = 3 := rfl
theorem ec92_ddd (x : Y91) : erL (c92_ddd x) = c92_ddd x := (erc rfl (erc (erD ec195_d _) (erc (erD eci64 _) rfl)))
def spec_EqualQueries_B1 (a0 : Y91) (a1 : Y91) (rec : Int → Option (Sum (Unit) (Bool))) (y1 : Int) : Option (Sum (Unit) (Bool)) := cond (decide (y1 < (List.length a0.2.1 : Int))) (obind (geti a0.2.1 y1) fun e11 => obind (geti a1.2.1 y1) fun e13 => cond (!(e11.1 == e13.1)) (some (.inr false)) (obind (geti a0.2.1 y1) fun e16 => obind (geti a1.2.1 y1) fun e18 => obind (spec_CompareRows e16.2 e18.2) fun v20 => cond (v20 != 0) (some (.inr false)) (rec (IntKind.i64.wrap (y1 + 1))))) (some (.inl ()))
def spec_EqualQueries (a0 : Y91) (a1 : Y91) : Option (Bool) := cond (a0.1 != a1.1) (some false) (obind (spec_CompareRows a0.2.2 a1.2.2) fun v3 => cond (v3 != 0) (some false) (cond ((List.length a0.2.1 : Int) != (List.length a1.2.1 : Int)) (some false) (obind (loopF (spec_EqualQueries_B1 a0 a1) fz 0) fun o1 => (match o1 with
  | .inl _ => (some true)
  | .inr r => some r))))
theorem spec_EqualQueries_s {a0 : Y91} {a1 : Y91} {r : Bool} (h : spec_EqualQueries a0 a1 = some r) : SoundAt Try.prog 111 [.agg (c92_ddd a0), .agg (c92_ddd a1)] (.bool r) := by
  unfold spec_EqualQueries at h
  refine sound_lit tbOk lit111 (nb rfl) rfl ?_
  unfold c111
  refine ls_keep [(0, .agg (c92_ddd a0)), (1, .agg (c92_ddd a1))] ⟨kr, kr, trivial⟩ rfl ?_
  refine ls_rs tbOk ?_
  refine evs (ev_bx (c1 := .agg (c92_ddd a0)) rfl rfl rfl (evs (ev_bx (c1 := .agg (c92_ddd a1)) rfl rfl rfl (evs (ev_ac rfl nofun rfl (evn ?_))))))
  refine ls_keep [(2, .box [nI a0.1, dL c195_d a0.2.1, dL ci64 a0.2.2]), (3, .box [nI a1.1, dL c195_d a1.2.1, dL ci64 a1.2.2])] ⟨kr, kr, trivial⟩ rfl ?_
  refine ls_seq_k fun K1 hK1 => ?_
  refine ls_rs tbOk ?_
  refine evs (ev_fa (c1 := .cref 2 0) (v := .cref 2 0) rfl rfl rfl ⟨_, rfl⟩ rfl (evs (ev_ldB (off := 0) (v := nI a0.1) rfl rfl rfl rfl (nb rfl) rfl (evs (ev_fa (c1 := .cref 3 0) (v := .cref 3 0) rfl rfl rfl ⟨_, rfl⟩ rfl (evs (ev_ldB (off := 0) (v := nI a1.1) rfl rfl rfl rfl (nb rfl) rfl (evs (ev_bin (c1 := nI a0.1) (c2 := nI a1.1) rfl rfl rfl (evs (ev_mv (c := .bool (a0.1 != a1.1)) rfl rfl rfl (?_))))))))))))
  rcases cond_some h with ⟨g2, h⟩ | ⟨g2, h⟩
  · refine evs (ev_gs rfl rfl (isb_T g2) (evs (ev_gs rfl rfl (isb_T g2) (evs (ev_gs rfl rfl (isb_T g2) (evs (ev_gs rfl rfl (isb_T g2) (evs (ev_gs rfl rfl (isb_T g2) (evs (ev_gs rfl rfl (isb_T g2) (evs (ev_pkT (c1 := .bool true) rfl g2 rfl rfl (evs (ev_mv (c := .bool true) rfl rfl rfl (evs (ev_gs rfl rfl rfl (evs (ev_gs rfl rfl rfl (evs (ev_gs rfl rfl rfl (evs (ev_gs rfl rfl rfl (evs (ev_gs rfl rfl rfl (evs (ev_gs rfl rfl rfl (evs (ev_gs rfl rfl rfl (evs (ev_pkT (c1 := .bool true) rfl rfl rfl rfl (evn ?_))))))))))))))))))))))))))))))))
    refine ls_keep [(2, .box [nI a0.1, dL c195_d a0.2.1, dL ci64 a0.2.2]), (3, .box [nI a1.1, dL c195_d a1.2.1, dL ci64 a1.2.2]), (27, .bool true)] ⟨kr, kr, kr, trivial⟩ rfl ?_
    refine ls_cT rfl rfl ?_
    refine ls_rs tbOk ?_
    refine evs (ev_ac rfl nofun rfl (evn ?_))
    refine ls_keep [(4, .bool false)] ⟨kr, trivial⟩ rfl ?_
    refine ls_ret ?_
    have hr := Option.some.inj h
    rw [← hr]
    exact ⟨.inl rfl, rfl⟩
  · refine evs (ev_gr rfl (congrArg V.bool g2) (ev_fa (c1 := .cref 2 0) (v := .cref 2 2) rfl rfl rfl ⟨_, rfl⟩ rfl (evs (ev_gr rfl (congrArg V.bool g2) (ev_ldB (off := 2) (v := dL ci64 a0.2.2) rfl rfl rfl rfl (nb rfl) rfl (evs (ev_gr rfl (congrArg V.bool g2) (ev_fa (c1 := .cref 3 0) (v := .cref 3 2) rfl rfl rfl ⟨_, rfl⟩ rfl (evs (ev_gr rfl (congrArg V.bool g2) (ev_ldB (off := 2) (v := dL ci64 a1.2.2) rfl rfl rfl rfl (nb rfl) rfl (?_))))))))))))
    obtain ⟨v3, g4, h⟩ := ob_some h
    refine evs (ev_gr rfl (congrArg V.bool g2) (ev_call (era rfl (erD eci64 _) (era rfl (erD eci64 _) eran)) (spec_CompareRows_s g4) (evs (ev_gr rfl (congrArg V.bool g2) (ev_bin (c1 := nI v3) (c2 := nI 0) rfl rfl rfl (evs (ev_pkF (c1 := .bool (v3 != 0)) rfl g2 rfl rfl (evs (ev_mv (c := .bool (v3 != 0)) rfl rfl rfl (?_))))))))))
    rcases cond_some h with ⟨g5, h⟩ | ⟨g5, h⟩
    · refine evs (ev_gs rfl rfl (isb_T g5) (evs (ev_gs rfl rfl (isb_T g5) (evs (ev_gs rfl rfl (isb_T g5) (evs (ev_gs rfl rfl (isb_T g5) (evs (ev_gs rfl rfl (isb_T g5) (evs (ev_gs rfl rfl (isb_T g5) (evs (ev_gs rfl rfl (isb_T g5) (evs (ev_pkT (c1 := .bool true) rfl g5 rfl rfl (evn ?_))))))))))))))))
      refine ls_keep [(2, .box [nI a0.1, dL c195_d a0.2.1, dL ci64 a0.2.2]), (3, .box [nI a1.1, dL c195_d a1.2.1, dL ci64 a1.2.2]), (27, .bool true)] ⟨kr, kr, kr, trivial⟩ rfl ?_
      refine ls_cT rfl rfl ?_
      refine ls_rs tbOk ?_
      refine evs (ev_ac rfl nofun rfl (evn ?_))
      refine ls_keep [(4, .bool false)] ⟨kr, trivial⟩ rfl ?_
      refine ls_ret ?_
      have hr := Option.some.inj h
      rw [← hr]
      exact ⟨.inl rfl, rfl⟩
    · refine evs (ev_gr rfl (congrArg V.bool g5) (ev_fa (c1 := .cref 2 0) (v := .cref 2 1) rfl rfl rfl ⟨_, rfl⟩ rfl (evs (ev_gr rfl (congrArg V.bool g5) (ev_ldB (off := 1) (v := dL c195_d a0.2.1) rfl rfl rfl rfl (nb rfl) rfl (evs (ev_gr rfl (congrArg V.bool g5) (ev_len (c1 := dL c195_d a0.2.1) rfl rfl rfl (evs (ev_gr rfl (congrArg V.bool g5) (ev_fa (c1 := .cref 3 0) (v := .cref 3 1) rfl rfl rfl ⟨_, rfl⟩ rfl (evs (ev_gr rfl (congrArg V.bool g5) (ev_ldB (off := 1) (v := dL c195_d a1.2.1) rfl rfl rfl rfl (nb rfl) rfl (evs (ev_gr rfl (congrArg V.bool g5) (ev_len (c1 := dL c195_d a1.2.1) rfl rfl rfl (evs (ev_gr rfl (congrArg V.bool g5) (ev_bin (c1 := nI (List.length a0.2.1 : Int)) (c2 := nI (List.length a1.2.1 : Int)) rfl rfl rfl (evs (ev_pkF (c1 := .bool ((List.length a0.2.1 : Int) != (List.length a1.2.1 : Int))) rfl g5 rfl rfl (evn ?_)))))))))))))))))))))))
      refine ls_keep [(2, .box [nI a0.1, dL c195_d a0.2.1, dL ci64 a0.2.2]), (3, .box [nI a1.1, dL c195_d a1.2.1, dL ci64 a1.2.2]), (27, .bool ((List.length a0.2.1 : Int) != (List.length a1.2.1 : Int)))] ⟨kr, kr, kr, trivial⟩ rfl ?_
      rcases cond_some h with ⟨g6, h⟩ | ⟨g6, h⟩
      · refine ls_cT rfl g6 ?_
        refine ls_rs tbOk ?_
        refine evs (ev_ac rfl nofun rfl (evn ?_))
        refine ls_keep [(4, .bool false)] ⟨kr, trivial⟩ rfl ?_
        refine ls_ret ?_
        have hr := Option.some.inj h
        rw [← hr]
        exact ⟨.inl rfl, rfl⟩
      · refine ls_cF rfl g6 ?_
        refine ls_skip ?_
        refine hK1 _ (ls_keep [(2, .box [nI a0.1, dL c195_d a0.2.1, dL ci64 a0.2.2]), (3, .box [nI a1.1, dL c195_d a1.2.1, dL ci64 a1.2.2])] ⟨kr, kr, trivial⟩ rfl ?_)
        refine ls_seq_k fun K7 hK7 => ?_
        refine ls_rs tbOk ?_
        refine evs (ev_ac rfl nofun rfl (evn ?_))
        refine ls_keep [(2, .box [nI a0.1, dL c195_d a0.2.1, dL ci64 a0.2.2]), (3, .box [nI a1.1, dL c195_d a1.2.1, dL ci64 a1.2.2]), (5, nI 0)] ⟨kr, kr, kr, trivial⟩ rfl ?_
        obtain ⟨o1, hl, hr1⟩ := ob_some h
        clear h
        have kXspec_EqualQueries_B1 : ∀ (_ : Unit), (some true) = some r → ∀ σ' : PS, okK σ' [] → K7 σ' := by
          intro _ h σ' hk
          refine hK7 _ (ls_keep [] hk rfl ?_)
          refine ls_rs tbOk ?_
          refine evs (ev_ac rfl nofun rfl (evn ?_))
          refine ls_keep [(4, .bool true)] ⟨kr, trivial⟩ rfl ?_
          refine ls_ret ?_
          have hr := Option.some.inj h
          rw [← hr]
          exact ⟨.inl rfl, rfl⟩
        refine ls_rec (fun (y1 : Int) => [(2, .box [nI a0.1, dL c195_d a0.2.1, dL ci64 a0.2.2]), (3, .box [nI a1.1, dL c195_d a1.2.1, dL ci64 a1.2.2]), (5, nI y1)]) (spec_EqualQueries_B1 a0 a1) fz 0 o1 hl ⟨kr, kr, kr, trivial⟩ (fun _ => rfl) ?_
        rintro m y1 N h hN
        unfold spec_EqualQueries_B1 at h
        refine ls_seq_k fun K8 hK8 => ?_
        refine ls_rs tbOk ?_
        refine evs (ev_mv (c := nI y1) rfl rfl rfl (evs (ev_fa (c1 := .cref 2 0) (v := .cref 2 1) rfl rfl rfl ⟨_, rfl⟩ rfl (evs (ev_ldB (off := 1) (v := dL c195_d a0.2.1) rfl rfl rfl rfl (nb rfl) rfl (evs (ev_len (c1 := dL c195_d a0.2.1) rfl rfl rfl (evs (ev_bin (c1 := nI y1) (c2 := nI (List.length a0.2.1 : Int)) rfl rfl rfl (evn ?_))))))))))
        refine ls_keep [(2, .box [nI a0.1, dL c195_d a0.2.1, dL ci64 a0.2.2]), (3, .box [nI a1.1, dL c195_d a1.2.1, dL ci64 a1.2.2]), (5, nI y1), (32, .bool (decide (y1 < (List.length a0.2.1 : Int))))] ⟨kr, kr, kr, kr, trivial⟩ rfl ?_
        rcases cond_some h with ⟨g9, h⟩ | ⟨g9, h⟩
        · refine ls_cT rfl g9 ?_
          refine ls_skip ?_
          refine hK8 _ (ls_keep [(2, .box [nI a0.1, dL c195_d a0.2.1, dL ci64 a0.2.2]), (3, .box [nI a1.1, dL c195_d a1.2.1, dL ci64 a1.2.2]), (5, nI y1)] ⟨kr, kr, kr, trivial⟩ rfl ?_)
          refine ls_seq_k fun K10 hK10 => ?_
          refine ls_blk ?_
          refine ls_rd tbOk mixed (by kernel_rfl) ?_
          refine evd rfl rfl (ev_fa (c1 := .cref 2 0) (v := .cref 2 1) rfl rfl rfl ⟨_, rfl⟩ rfl (evd rfl rfl (ev_ldB (off := 1) (v := dL c195_d a0.2.1) rfl rfl rfl rfl (nb rfl) rfl (evd rfl rfl (ev_mv (c := nI y1) rfl rfl rfl (?_))))))
          obtain ⟨e11, g12, h⟩ := ob_some h
          refine evd rfl rfl (ev_ia rfl rfl rfl ⟨(geti_some g12).1, (geti_some g12).2.1⟩ (evd rfl rfl (ev_fa (c1 := .adr (a0.2.1.flatMap c195_d) (Int.toNat y1 * 2)) (v := .adr (a0.2.1.flatMap c195_d) (Int.toNat y1 * 2)) rfl rfl rfl trivial rfl (evd rfl rfl (ev_ldE (i := y1) (n := 2) (off := 0) (v := .str e11.1) rfl rfl zc195_d g12 rfl (nb rfl) rfl (evd rfl rfl (ev_fa (c1 := .cref 3 0) (v := .cref 3 1) rfl rfl rfl ⟨_, rfl⟩ rfl (evd rfl rfl (ev_ldB (off := 1) (v := dL c195_d a1.2.1) rfl rfl rfl rfl (nb rfl) rfl (evd rfl rfl (ev_mv (c := nI y1) rfl rfl rfl (?_))))))))))))
          obtain ⟨e13, g14, h⟩ := ob_some h
          refine evd rfl rfl (ev_ia rfl rfl rfl ⟨(geti_some g14).1, (geti_some g14).2.1⟩ (evd rfl rfl (ev_fa (c1 := .adr (a1.2.1.flatMap c195_d) (Int.toNat y1 * 2)) (v := .adr (a1.2.1.flatMap c195_d) (Int.toNat y1 * 2)) rfl rfl rfl trivial rfl (evd rfl rfl (ev_ldE (i := y1) (n := 2) (off := 0) (v := .str e13.1) rfl rfl zc195_d g14 rfl (nb rfl) rfl (evd rfl rfl (ev_bin (c1 := .str e11.1) (c2 := .str e13.1) rfl rfl trivial (evd rfl rfl (ev_mv (c := .bool (!(e11.1 == e13.1))) rfl rfl rfl (?_))))))))))
          rcases cond_some h with ⟨g15, h⟩ | ⟨g15, h⟩
          · refine evd rfl rfl (ev_gs rfl rfl (isb_T g15) (evd rfl rfl (ev_gs rfl rfl (isb_T g15) (evd rfl rfl (ev_gs rfl rfl (isb_T g15) (evd rfl rfl (ev_gs rfl rfl (isb_T g15) (evd rfl rfl (ev_gs rfl rfl (isb_T g15) (evd rfl rfl (ev_gs rfl rfl (isb_T g15) (evd rfl rfl (ev_gs rfl rfl (isb_T g15) (evd rfl rfl (ev_gs rfl rfl (isb_T g15) (evd rfl rfl (ev_gs rfl rfl (isb_T g15) (evd rfl rfl (ev_gs rfl rfl (isb_T g15) (evd rfl rfl (ev_gs rfl rfl (isb_T g15) (evd rfl rfl (ev_gs rfl rfl (isb_T g15) (evd rfl rfl (ev_gs rfl rfl (isb_T g15) (evd rfl rfl (ev_gs rfl rfl (isb_T g15) (evd rfl rfl (ev_pkT (c1 := .bool true) rfl g15 rfl rfl (evdn ?_))))))))))))))))))))))))))))))
            refine ls_keep [(2, .box [nI a0.1, dL c195_d a0.2.1, dL ci64 a0.2.2]), (3, .box [nI a1.1, dL c195_d a1.2.1, dL ci64 a1.2.2]), (5, nI y1), (63, .bool true)] ⟨kr, kr, kr, kr, trivial⟩ rfl ?_
            refine ls_cT rfl rfl ?_
            refine ls_rs tbOk ?_
            refine evs (ev_ac rfl nofun rfl (evn ?_))
            refine ls_keep [(4, .bool false)] ⟨kr, trivial⟩ rfl ?_
            refine ls_ret ?_
            have q0 := (Option.some.inj h).symm
            have r0 := hr1
            rw [q0] at r0
            have hr := Option.some.inj r0
            rw [← hr]
            exact ⟨.inl rfl, rfl⟩
          · refine evd rfl rfl (ev_gr rfl (congrArg V.bool g15) (ev_fa (c1 := .cref 2 0) (v := .cref 2 1) rfl rfl rfl ⟨_, rfl⟩ rfl (evd rfl rfl (ev_gr rfl (congrArg V.bool g15) (ev_ldB (off := 1) (v := dL c195_d a0.2.1) rfl rfl rfl rfl (nb rfl) rfl (evd rfl rfl (ev_gr rfl (congrArg V.bool g15) (ev_mv (c := nI y1) rfl rfl rfl (?_)))))))))
            obtain ⟨e16, g17, h⟩ := ob_some h
            refine evd rfl rfl (ev_gr rfl (congrArg V.bool g15) (ev_ia rfl rfl rfl ⟨(geti_some g17).1, (geti_some g17).2.1⟩ (evd rfl rfl (ev_gr rfl (congrArg V.bool g15) (ev_fa (c1 := .adr (a0.2.1.flatMap c195_d) (Int.toNat y1 * 2)) (v := .adr (a0.2.1.flatMap c195_d) (Int.toNat y1 * 2 + 1)) rfl rfl rfl trivial rfl (evd rfl rfl (ev_gr rfl (congrArg V.bool g15) (ev_ldE (i := y1) (n := 2) (off := 1) (v := dL ci64 e16.2) rfl rfl zc195_d g17 rfl (nb rfl) rfl (evd rfl rfl (ev_gr rfl (congrArg V.bool g15) (ev_fa (c1 := .cref 3 0) (v := .cref 3 1) rfl rfl rfl ⟨_, rfl⟩ rfl (evd rfl rfl (ev_gr rfl (congrArg V.bool g15) (ev_ldB (off := 1) (v := dL c195_d a1.2.1) rfl rfl rfl rfl (nb rfl) rfl (evd rfl rfl (ev_gr rfl (congrArg V.bool g15) (ev_mv (c := nI y1) rfl rfl rfl (?_))))))))))))))))))
            obtain ⟨e18, g19, h⟩ := ob_some h
            refine evd rfl rfl (ev_gr rfl (congrArg V.bool g15) (ev_ia rfl rfl rfl ⟨(geti_some g19).1, (geti_some g19).2.1⟩ (evd rfl rfl (ev_gr rfl (congrArg V.bool g15) (ev_fa (c1 := .adr (a1.2.1.flatMap c195_d) (Int.toNat y1 * 2)) (v := .adr (a1.2.1.flatMap c195_d) (Int.toNat y1 * 2 + 1)) rfl rfl rfl trivial rfl (evd rfl rfl (ev_gr rfl (congrArg V.bool g15) (ev_ldE (i := y1) (n := 2) (off := 1) (v := dL ci64 e18.2) rfl rfl zc195_d g19 rfl (nb rfl) rfl (?_)))))))))
            obtain ⟨v20, g21, h⟩ := ob_some h
            refine evd rfl rfl (ev_gr rfl (congrArg V.bool g15) (ev_call (era rfl (erD eci64 _) (era rfl (erD eci64 _) eran)) (spec_CompareRows_s g21) (evd rfl rfl (ev_gr rfl (congrArg V.bool g15) (ev_bin (c1 := nI v20) (c2 := nI 0) rfl rfl rfl (evd rfl rfl (ev_pkF (c1 := .bool (v20 != 0)) rfl g15 rfl rfl (evdn ?_))))))))
            refine ls_keep [(2, .box [nI a0.1, dL c195_d a0.2.1, dL ci64 a0.2.2]), (3, .box [nI a1.1, dL c195_d a1.2.1, dL ci64 a1.2.2]), (5, nI y1), (63, .bool (v20 != 0))] ⟨kr, kr, kr, kr, trivial⟩ rfl ?_
            rcases cond_some h with ⟨g22, h⟩ | ⟨g22, h⟩
            · refine ls_cT rfl g22 ?_
              refine ls_rs tbOk ?_
              refine evs (ev_ac rfl nofun rfl (evn ?_))
              refine ls_keep [(4, .bool false)] ⟨kr, trivial⟩ rfl ?_
              refine ls_ret ?_
              have q0 := (Option.some.inj h).symm
              have r0 := hr1
              rw [q0] at r0
              have hr := Option.some.inj r0
              rw [← hr]
              exact ⟨.inl rfl, rfl⟩
            · refine ls_cF rfl g22 ?_
              refine ls_skip ?_
              refine hK10 _ (ls_keep [(2, .box [nI a0.1, dL c195_d a0.2.1, dL ci64 a0.2.2]), (3, .box [nI a1.1, dL c195_d a1.2.1, dL ci64 a1.2.2]), (5, nI y1)] ⟨kr, kr, kr, trivial⟩ rfl ?_)
              refine ls_rgn tbOk ?_
              refine evs (ev_mv (c := nI y1) rfl rfl rfl (evs (ev_bin (c1 := nI y1) (c2 := nI 1) rfl rfl rfl (evs (ev_as (c := nI (IntKind.i64.wrap (y1 + 1))) rfl rfl rfl (evn ?_))))))
              exact hN _ (IntKind.i64.wrap (y1 + 1)) h ⟨kr, kr, kr, trivial⟩
        · refine ls_cF rfl g9 ?_
          refine ls_exit ?_
          have q0 := (Option.some.inj h).symm
          have r0 := hr1
          rw [q0] at r0
          exact kXspec_EqualQueries_B1 () r0 _ trivial
def c159_ddd (x : Y158) : List V := [nI x.1, dL c25_d x.2.1, dL ci64 x.2.2]
theorem zc159_ddd (x : Y158) : (c159_ddd x).length = 3 := rfl
theorem ec159_ddd (x : Y158) : erL (c159_ddd x) = c159_ddd x := (erc rfl (erc (erD ec25_d _) (erc (erD eci64 _) rfl)))
def spec_EqualCounted_J1 (x2 : Bool) : Option (Bool) := some x2
def spec_EqualCounted (a0 : Y158) (a1 : Y158) : Option (Bool) := cond (a0.1 == a1.1) (obind (spec_EqualRelations (0, a0.2.1) (0, a1.2.1)) fun v4 => cond v4 (obind (spec_CompareRows a0.2.2 a1.2.2) fun v7 => spec_EqualCounted_J1 (v7 == 0)) (spec_EqualCounted_J1 false)) (spec_EqualCounted_J1 false)
theorem spec_EqualCounted_s {a0 : Y158} {a1 : Y158} {r : Bool} (h : spec_EqualCounted a0 a1 = some r) : SoundAt Try.prog 112 [.agg (c159_ddd a0), .agg (c159_ddd a1)] (.bool r) := by
  unfold spec_EqualCounted at h
  refine sound_lit tbOk lit112 (nb rfl) rfl ?_
  unfold c112
  refine ls_keep [(0, .agg (c159_ddd a0)), (1, .agg (c159_ddd a1))] ⟨kr, kr, trivial⟩ rfl ?_
  refine ls_rs tbOk ?_
  refine evs (ev_bx (c1 := .agg (c159_ddd a0)) rfl rfl rfl (evs (ev_bx (c1 := .agg (c159_ddd a1)) rfl rfl rfl (evs (ev_ac rfl nofun rfl (evn ?_))))))
  refine ls_keep [(2, .box [nI a0.1, dL c25_d a0.2.1, dL ci64 a0.2.2]), (3, .box [nI a1.1, dL c25_d a1.2.1, dL ci64 a1.2.2])] ⟨kr, kr, trivial⟩ rfl ?_
  refine ls_rs_k tbOk fun K1 hK1 => ?_
  have kspec_EqualCounted_J1 : ∀ (x2 : Bool), spec_EqualCounted_J1 x2 = some r → ∀ σ' : PS, okK σ' [(4, .bool x2)] → K1 σ' := by
    intro x2 h σ' hk
    unfold spec_EqualCounted_J1 at h
    refine hK1 _ (ls_keep [(4, .bool x2)] hk rfl ?_)
    refine ls_ret ?_
    have hr := Option.some.inj h
    rw [← hr]
    exact ⟨.inl rfl, rfl⟩
  refine evs (ev_fa (c1 := .cref 2 0) (v := .cref 2 0) rfl rfl rfl ⟨_, rfl⟩ rfl (evs (ev_ldB (off := 0) (v := nI a0.1) rfl rfl rfl rfl (nb rfl) rfl (evs (ev_fa (c1 := .cref 3 0) (v := .cref 3 0) rfl rfl rfl ⟨_, rfl⟩ rfl (evs (ev_ldB (off := 0) (v := nI a1.1) rfl rfl rfl rfl (nb rfl) rfl (evs (ev_bin (c1 := nI a0.1) (c2 := nI a1.1) rfl rfl rfl (evs (ev_mv (c := .bool (a0.1 == a1.1)) rfl rfl rfl (?_))))))))))))
  rcases cond_some h with ⟨g3, h⟩ | ⟨g3, h⟩
  · refine evs (ev_gr rfl (congrArg V.bool g3) (ev_fa (c1 := .cref 2 0) (v := .cref 2 1) rfl rfl rfl ⟨_, rfl⟩ rfl (evs (ev_gr rfl (congrArg V.bool g3) (ev_ldB (off := 1) (v := dL c25_d a0.2.1) rfl rfl rfl rfl (nb rfl) rfl (evs (ev_gr rfl (congrArg V.bool g3) (ev_bd [dL c25_d a0.2.1] (cs := [nI 0, dL c25_d a0.2.1]) rfl ⟨rfl, trivial⟩ rfl (evs (ev_gr rfl (congrArg V.bool g3) (ev_fa (c1 := .cref 3 0) (v := .cref 3 1) rfl rfl rfl ⟨_, rfl⟩ rfl (evs (ev_gr rfl (congrArg V.bool g3) (ev_ldB (off := 1) (v := dL c25_d a1.2.1) rfl rfl rfl rfl (nb rfl) rfl (evs (ev_gr rfl (congrArg V.bool g3) (ev_bd [dL c25_d a1.2.1] (cs := [nI 0, dL c25_d a1.2.1]) rfl ⟨rfl, trivial⟩ rfl (?_))))))))))))))))))
    obtain ⟨v4, g5, h⟩ := ob_some h
    refine evs (ev_gr rfl (congrArg V.bool g3) (ev_call (era rfl (erg (erc rfl (erc (erD ec25_d _) rfl))) (era rfl (erg (erc rfl (erc (erD ec25_d _) rfl))) eran)) (spec_EqualRelations_s g5) (evs (ev_pkT (c1 := .bool v4) rfl g3 rfl rfl (evs (ev_mv (c := .bool v4) rfl rfl rfl (?_)))))))
    rcases cond_some h with ⟨g6, h⟩ | ⟨g6, h⟩
    · refine evs (ev_gr rfl (congrArg V.bool g6) (ev_fa (c1 := .cref 2 0) (v := .cref 2 2) rfl rfl rfl ⟨_, rfl⟩ rfl (evs (ev_gr rfl (congrArg V.bool g6) (ev_ldB (off := 2) (v := dL ci64 a0.2.2) rfl rfl rfl rfl (nb rfl) rfl (evs (ev_gr rfl (congrArg V.bool g6) (ev_fa (c1 := .cref 3 0) (v := .cref 3 2) rfl rfl rfl ⟨_, rfl⟩ rfl (evs (ev_gr rfl (congrArg V.bool g6) (ev_ldB (off := 2) (v := dL ci64 a1.2.2) rfl rfl rfl rfl (nb rfl) rfl (?_))))))))))))
      obtain ⟨v7, g8, h⟩ := ob_some h
      refine evs (ev_gr rfl (congrArg V.bool g6) (ev_call (era rfl (erD eci64 _) (era rfl (erD eci64 _) eran)) (spec_CompareRows_s g8) (evs (ev_gr rfl (congrArg V.bool g6) (ev_bin (c1 := nI v7) (c2 := nI 0) rfl rfl rfl (evs (ev_pkT (c1 := .bool (v7 == 0)) rfl g6 rfl rfl (evs (ev_as (c := .bool (v7 == 0)) rfl rfl rfl (evn ?_))))))))))
      exact kspec_EqualCounted_J1 (v7 == 0) h _ ⟨kr, trivial⟩
    · refine evs (ev_gs rfl rfl (isb_F g6) (evs (ev_gs rfl rfl (isb_F g6) (evs (ev_gs rfl rfl (isb_F g6) (evs (ev_gs rfl rfl (isb_F g6) (evs (ev_gs rfl rfl (isb_F g6) (evs (ev_gs rfl rfl (isb_F g6) (evs (ev_pkF (c1 := .bool false) rfl g6 rfl rfl (evs (ev_as (c := .bool false) rfl rfl rfl (evn ?_))))))))))))))))
      exact kspec_EqualCounted_J1 false h _ ⟨kr, trivial⟩
  · refine evs (ev_gs rfl rfl (isb_F g3) (evs (ev_gs rfl rfl (isb_F g3) (evs (ev_gs rfl rfl (isb_F g3) (evs (ev_gs rfl rfl (isb_F g3) (evs (ev_gs rfl rfl (isb_F g3) (evs (ev_gs rfl rfl (isb_F g3) (evs (ev_gs rfl rfl (isb_F g3) (evs (ev_pkF (c1 := .bool false) rfl g3 rfl rfl (evs (ev_mv (c := .bool false) rfl rfl rfl (evs (ev_gs rfl rfl rfl (evs (ev_gs rfl rfl rfl (evs (ev_gs rfl rfl rfl (evs (ev_gs rfl rfl rfl (evs (ev_gs rfl rfl rfl (evs (ev_gs rfl rfl rfl (evs (ev_pkF (c1 := .bool false) rfl rfl rfl rfl (evs (ev_as (c := .bool false) rfl rfl rfl (evn ?_))))))))))))))))))))))))))))))))))
    exact kspec_EqualCounted_J1 false h _ ⟨kr, trivial⟩
abbrev Y160 := Y91 × Y158
abbrev Y73 := (List Y207) × (List Y160) × (List Y158)
def c161_dddddd (x : Y160) : List V := [nI x.1.1, dL c195_d x.1.2.1, dL ci64 x.1.2.2, nI x.2.1, dL c25_d x.2.2.1, dL ci64 x.2.2.2]
theorem zc161_dddddd (x : Y160) : (c161_dddddd x).length = 6 := rfl
theorem ec161_dddddd (x : Y160) : erL (c161_dddddd x) = c161_dddddd x := (erc rfl (erc (erD ec195_d _) (erc (erD eci64 _) (erc rfl (erc (erD ec25_d _) (erc (erD eci64 _) rfl))))))
def c74_dddddddddddddd (x : Y73) : List V := [dL c208_dd x.1, dL c161_dddddd x.2.1, dL c159_ddd x.2.2]
theorem zc74_dddddddddddddd (x : Y73) : (c74_dddddddddddddd x).length = 3 := rfl
theorem ec74_dddddddddddddd (x : Y73) : erL (c74_dddddddddddddd x) = c74_dddddddddddddd x := (erc (erD ec208_dd _) (erc (erD ec161_dddddd _) (erc (erD ec159_ddd _) rfl)))
def spec_EqualNotifiers_B1 (a0 : Y73) (a1 : Y73) (rec : Int → Option (Sum (Unit) (Bool))) (y1 : Int) : Option (Sum (Unit) (Bool)) := cond (decide (y1 < (List.length a0.2.1 : Int))) (obind (geti a0.2.1 y1) fun e11 => obind (geti a1.2.1 y1) fun e13 => obind (spec_EqualQueries e11.1 e13.1) fun v15 => cond (!v15) (some (.inr false)) (obind (geti a0.2.1 y1) fun e18 => obind (geti a1.2.1 y1) fun e20 => obind (spec_EqualCounted e18.2 e20.2) fun v22 => cond (!v22) (some (.inr false)) (rec (IntKind.i64.wrap (y1 + 1))))) (some (.inl ()))
def spec_EqualNotifiers_B2 (a0 : Y73) (a1 : Y73) (rec : Int → Option (Sum (Unit) (Bool))) (y2 : Int) : Option (Sum (Unit) (Bool)) := cond (decide (y2 < (List.length a0.2.2 : Int))) (obind (geti a0.2.2 y2) fun e29 => obind (geti a1.2.2 y2) fun e31 => obind (spec_EqualCounted e29 e31) fun v33 => cond (!v33) (some (.inr false)) (rec (IntKind.i64.wrap (y2 + 1)))) (some (.inl ()))
def spec_EqualNotifiers (a0 : Y73) (a1 : Y73) : Option (Bool) := obind (spec_EqualDatabases a0.1 a1.1) fun v2 => cond (!v2) (some false) (cond ((List.length a0.2.1 : Int) != (List.length a1.2.1 : Int)) (some false) (cond ((List.length a0.2.2 : Int) != (List.length a1.2.2 : Int)) (some false) (obind (loopF (spec_EqualNotifiers_B1 a0 a1) fz 0) fun o1 => (match o1 with
  | .inl _ => (obind (loopF (spec_EqualNotifiers_B2 a0 a1) fz 0) fun o2 => (match o2 with
  | .inl _ => (some true)
  | .inr r => some r))
  | .inr r => some r))))
theorem spec_EqualNotifiers_s {a0 : Y73} {a1 : Y73} {r : Bool} (h : spec_EqualNotifiers a0 a1 = some r) : SoundAt Try.prog 39 [.agg (c74_dddddddddddddd a0), .agg (c74_dddddddddddddd a1)] (.bool r) := by
  unfold spec_EqualNotifiers at h
  refine sound_lit tbOk lit39 (nb rfl) rfl ?_
  unfold c39
  refine ls_keep [(0, .agg (c74_dddddddddddddd a0)), (1, .agg (c74_dddddddddddddd a1))] ⟨kr, kr, trivial⟩ rfl ?_
  refine ls_rs tbOk ?_
  refine evs (ev_bx (c1 := .agg (c74_dddddddddddddd a0)) rfl rfl rfl (evs (ev_bx (c1 := .agg (c74_dddddddddddddd a1)) rfl rfl rfl (evs (ev_ac rfl nofun rfl (evn ?_))))))
  refine ls_keep [(2, .box [dL c208_dd a0.1, dL c161_dddddd a0.2.1, dL c159_ddd a0.2.2]), (3, .box [dL c208_dd a1.1, dL c161_dddddd a1.2.1, dL c159_ddd a1.2.2])] ⟨kr, kr, trivial⟩ rfl ?_
  refine ls_seq_k fun K1 hK1 => ?_
  refine ls_rs tbOk ?_
  refine evs (ev_fa (c1 := .cref 2 0) (v := .cref 2 0) rfl rfl rfl ⟨_, rfl⟩ rfl (evs (ev_ldB (off := 0) (v := .agg [dL c208_dd a0.1]) rfl rfl rfl rfl (nb rfl) rfl (evs (ev_fa (c1 := .cref 3 0) (v := .cref 3 0) rfl rfl rfl ⟨_, rfl⟩ rfl (evs (ev_ldB (off := 0) (v := .agg [dL c208_dd a1.1]) rfl rfl rfl rfl (nb rfl) rfl (?_))))))))
  obtain ⟨v2, g3, h⟩ := ob_some h
  refine evs (ev_call (era rfl (erg (erc (erD ec208_dd _) rfl)) (era rfl (erg (erc (erD ec208_dd _) rfl)) eran)) (spec_EqualDatabases_s g3) (evs (ev_un (c1 := .bool v2) rfl trivial (evs (ev_mv (c := .bool (!v2)) rfl rfl rfl (?_))))))
  rcases cond_some h with ⟨g4, h⟩ | ⟨g4, h⟩
  · refine evs (ev_gs rfl rfl (isb_T g4) (evs (ev_gs rfl rfl (isb_T g4) (evs (ev_gs rfl rfl (isb_T g4) (evs (ev_gs rfl rfl (isb_T g4) (evs (ev_gs rfl rfl (isb_T g4) (evs (ev_gs rfl rfl (isb_T g4) (evs (ev_gs rfl rfl (isb_T g4) (evs (ev_pkT (c1 := .bool true) rfl g4 rfl rfl (evs (ev_mv (c := .bool true) rfl rfl rfl (evs (ev_gs rfl rfl rfl (evs (ev_gs rfl rfl rfl (evs (ev_gs rfl rfl rfl (evs (ev_gs rfl rfl rfl (evs (ev_gs rfl rfl rfl (evs (ev_gs rfl rfl rfl (evs (ev_gs rfl rfl rfl (evs (ev_pkT (c1 := .bool true) rfl rfl rfl rfl (evn ?_))))))))))))))))))))))))))))))))))
    refine ls_keep [(2, .box [dL c208_dd a0.1, dL c161_dddddd a0.2.1, dL c159_ddd a0.2.2]), (3, .box [dL c208_dd a1.1, dL c161_dddddd a1.2.1, dL c159_ddd a1.2.2]), (30, .bool true)] ⟨kr, kr, kr, trivial⟩ rfl ?_
    refine ls_cT rfl rfl ?_
    refine ls_rs tbOk ?_
    refine evs (ev_ac rfl nofun rfl (evn ?_))
    refine ls_keep [(4, .bool false)] ⟨kr, trivial⟩ rfl ?_
    refine ls_ret ?_
    have hr := Option.some.inj h
    rw [← hr]
    exact ⟨.inl rfl, rfl⟩
  · refine evs (ev_gr rfl (congrArg V.bool g4) (ev_fa (c1 := .cref 2 0) (v := .cref 2 1) rfl rfl rfl ⟨_, rfl⟩ rfl (evs (ev_gr rfl (congrArg V.bool g4) (ev_ldB (off := 1) (v := dL c161_dddddd a0.2.1) rfl rfl rfl rfl (nb rfl) rfl (evs (ev_gr rfl (congrArg V.bool g4) (ev_len (c1 := dL c161_dddddd a0.2.1) rfl rfl rfl (evs (ev_gr rfl (congrArg V.bool g4) (ev_fa (c1 := .cref 3 0) (v := .cref 3 1) rfl rfl rfl ⟨_, rfl⟩ rfl (evs (ev_gr rfl (congrArg V.bool g4) (ev_ldB (off := 1) (v := dL c161_dddddd a1.2.1) rfl rfl rfl rfl (nb rfl) rfl (evs (ev_gr rfl (congrArg V.bool g4) (ev_len (c1 := dL c161_dddddd a1.2.1) rfl rfl rfl (evs (ev_gr rfl (congrArg V.bool g4) (ev_bin (c1 := nI (List.length a0.2.1 : Int)) (c2 := nI (List.length a1.2.1 : Int)) rfl rfl rfl (evs (ev_pkF (c1 := .bool ((List.length a0.2.1 : Int) != (List.length a1.2.1 : Int))) rfl g4 rfl rfl (evs (ev_mv (c := .bool ((List.length a0.2.1 : Int) != (List.length a1.2.1 : Int))) rfl rfl rfl (?_)))))))))))))))))))))))))
    rcases cond_some h with ⟨g5, h⟩ | ⟨g5, h⟩
    · refine evs (ev_gs rfl rfl (isb_T g5) (evs (ev_gs rfl rfl (isb_T g5) (evs (ev_gs rfl rfl (isb_T g5) (evs (ev_gs rfl rfl (isb_T g5) (evs (ev_gs rfl rfl (isb_T g5) (evs (ev_gs rfl rfl (isb_T g5) (evs (ev_gs rfl rfl (isb_T g5) (evs (ev_pkT (c1 := .bool true) rfl g5 rfl rfl (evn ?_))))))))))))))))
      refine ls_keep [(2, .box [dL c208_dd a0.1, dL c161_dddddd a0.2.1, dL c159_ddd a0.2.2]), (3, .box [dL c208_dd a1.1, dL c161_dddddd a1.2.1, dL c159_ddd a1.2.2]), (30, .bool true)] ⟨kr, kr, kr, trivial⟩ rfl ?_
      refine ls_cT rfl rfl ?_
      refine ls_rs tbOk ?_
      refine evs (ev_ac rfl nofun rfl (evn ?_))
      refine ls_keep [(4, .bool false)] ⟨kr, trivial⟩ rfl ?_
      refine ls_ret ?_
      have hr := Option.some.inj h
      rw [← hr]
      exact ⟨.inl rfl, rfl⟩
    · refine evs (ev_gr rfl (congrArg V.bool g5) (ev_fa (c1 := .cref 2 0) (v := .cref 2 2) rfl rfl rfl ⟨_, rfl⟩ rfl (evs (ev_gr rfl (congrArg V.bool g5) (ev_ldB (off := 2) (v := dL c159_ddd a0.2.2) rfl rfl rfl rfl (nb rfl) rfl (evs (ev_gr rfl (congrArg V.bool g5) (ev_len (c1 := dL c159_ddd a0.2.2) rfl rfl rfl (evs (ev_gr rfl (congrArg V.bool g5) (ev_fa (c1 := .cref 3 0) (v := .cref 3 2) rfl rfl rfl ⟨_, rfl⟩ rfl (evs (ev_gr rfl (congrArg V.bool g5) (ev_ldB (off := 2) (v := dL c159_ddd a1.2.2) rfl rfl rfl rfl (nb rfl) rfl (evs (ev_gr rfl (congrArg V.bool g5) (ev_len (c1 := dL c159_ddd a1.2.2) rfl rfl rfl (evs (ev_gr rfl (congrArg V.bool g5) (ev_bin (c1 := nI (List.length a0.2.2 : Int)) (c2 := nI (List.length a1.2.2 : Int)) rfl rfl rfl (evs (ev_pkF (c1 := .bool ((List.length a0.2.2 : Int) != (List.length a1.2.2 : Int))) rfl g5 rfl rfl (evn ?_)))))))))))))))))))))))
      refine ls_keep [(2, .box [dL c208_dd a0.1, dL c161_dddddd a0.2.1, dL c159_ddd a0.2.2]), (3, .box [dL c208_dd a1.1, dL c161_dddddd a1.2.1, dL c159_ddd a1.2.2]), (30, .bool ((List.length a0.2.2 : Int) != (List.length a1.2.2 : Int)))] ⟨kr, kr, kr, trivial⟩ rfl ?_
      rcases cond_some h with ⟨g6, h⟩ | ⟨g6, h⟩
      · refine ls_cT rfl g6 ?_
        refine ls_rs tbOk ?_
        refine evs (ev_ac rfl nofun rfl (evn ?_))
        refine ls_keep [(4, .bool false)] ⟨kr, trivial⟩ rfl ?_
        refine ls_ret ?_
        have hr := Option.some.inj h
        rw [← hr]
        exact ⟨.inl rfl, rfl⟩
      · refine ls_cF rfl g6 ?_
        refine ls_skip ?_
        refine hK1 _ (ls_keep [(2, .box [dL c208_dd a0.1, dL c161_dddddd a0.2.1, dL c159_ddd a0.2.2]), (3, .box [dL c208_dd a1.1, dL c161_dddddd a1.2.1, dL c159_ddd a1.2.2])] ⟨kr, kr, trivial⟩ rfl ?_)
        refine ls_seq_k fun K7 hK7 => ?_
        refine ls_rs tbOk ?_
        refine evs (ev_ac rfl nofun rfl (evn ?_))
        refine ls_keep [(2, .box [dL c208_dd a0.1, dL c161_dddddd a0.2.1, dL c159_ddd a0.2.2]), (3, .box [dL c208_dd a1.1, dL c161_dddddd a1.2.1, dL c159_ddd a1.2.2]), (5, nI 0)] ⟨kr, kr, kr, trivial⟩ rfl ?_
        obtain ⟨o1, hl, hr1⟩ := ob_some h
        clear h
        have kXspec_EqualNotifiers_B1 : ∀ (_ : Unit), (obind (loopF (spec_EqualNotifiers_B2 a0 a1) fz 0) fun o2 => (match o2 with
  | .inl _ => (some true)
  | .inr r => some r)) = some r → ∀ σ' : PS, okK σ' [(2, .box [dL c208_dd a0.1, dL c161_dddddd a0.2.1, dL c159_ddd a0.2.2]), (3, .box [dL c208_dd a1.1, dL c161_dddddd a1.2.1, dL c159_ddd a1.2.2])] → K7 σ' := by
          intro _ h σ' hk
          refine hK7 _ (ls_keep [(2, .box [dL c208_dd a0.1, dL c161_dddddd a0.2.1, dL c159_ddd a0.2.2]), (3, .box [dL c208_dd a1.1, dL c161_dddddd a1.2.1, dL c159_ddd a1.2.2])] hk rfl ?_)
          refine ls_seq_k fun K25 hK25 => ?_
          refine ls_rs tbOk ?_
          refine evs (ev_ac rfl nofun rfl (evn ?_))
          refine ls_keep [(2, .box [dL c208_dd a0.1, dL c161_dddddd a0.2.1, dL c159_ddd a0.2.2]), (3, .box [dL c208_dd a1.1, dL c161_dddddd a1.2.1, dL c159_ddd a1.2.2]), (6, nI 0)] ⟨kr, kr, kr, trivial⟩ rfl ?_
          obtain ⟨o2, hl, hr2⟩ := ob_some h
          clear h
          have kXspec_EqualNotifiers_B2 : ∀ (_ : Unit), (some true) = some r → ∀ σ' : PS, okK σ' [] → K25 σ' := by
            intro _ h σ' hk
            refine hK25 _ (ls_keep [] hk rfl ?_)
            refine ls_rs tbOk ?_
            refine evs (ev_ac rfl nofun rfl (evn ?_))
            refine ls_keep [(4, .bool true)] ⟨kr, trivial⟩ rfl ?_
            refine ls_ret ?_
            have hr := Option.some.inj h
            rw [← hr]
            exact ⟨.inl rfl, rfl⟩
          refine ls_rec (fun (y2 : Int) => [(2, .box [dL c208_dd a0.1, dL c161_dddddd a0.2.1, dL c159_ddd a0.2.2]), (3, .box [dL c208_dd a1.1, dL c161_dddddd a1.2.1, dL c159_ddd a1.2.2]), (6, nI y2)]) (spec_EqualNotifiers_B2 a0 a1) fz 0 o2 hl ⟨kr, kr, kr, trivial⟩ (fun _ => rfl) ?_
          rintro m y2 N h hN
          unfold spec_EqualNotifiers_B2 at h
          refine ls_seq_k fun K26 hK26 => ?_
          refine ls_rs tbOk ?_
          refine evs (ev_mv (c := nI y2) rfl rfl rfl (evs (ev_fa (c1 := .cref 2 0) (v := .cref 2 2) rfl rfl rfl ⟨_, rfl⟩ rfl (evs (ev_ldB (off := 2) (v := dL c159_ddd a0.2.2) rfl rfl rfl rfl (nb rfl) rfl (evs (ev_len (c1 := dL c159_ddd a0.2.2) rfl rfl rfl (evs (ev_bin (c1 := nI y2) (c2 := nI (List.length a0.2.2 : Int)) rfl rfl rfl (evn ?_))))))))))
          refine ls_keep [(2, .box [dL c208_dd a0.1, dL c161_dddddd a0.2.1, dL c159_ddd a0.2.2]), (3, .box [dL c208_dd a1.1, dL c161_dddddd a1.2.1, dL c159_ddd a1.2.2]), (6, nI y2), (72, .bool (decide (y2 < (List.length a0.2.2 : Int))))] ⟨kr, kr, kr, kr, trivial⟩ rfl ?_
          rcases cond_some h with ⟨g27, h⟩ | ⟨g27, h⟩
          · refine ls_cT rfl g27 ?_
            refine ls_skip ?_
            refine hK26 _ (ls_keep [(2, .box [dL c208_dd a0.1, dL c161_dddddd a0.2.1, dL c159_ddd a0.2.2]), (3, .box [dL c208_dd a1.1, dL c161_dddddd a1.2.1, dL c159_ddd a1.2.2]), (6, nI y2)] ⟨kr, kr, kr, trivial⟩ rfl ?_)
            refine ls_seq_k fun K28 hK28 => ?_
            refine ls_blk ?_
            refine ls_rd tbOk mixed (by kernel_rfl) ?_
            refine evd rfl rfl (ev_fa (c1 := .cref 2 0) (v := .cref 2 2) rfl rfl rfl ⟨_, rfl⟩ rfl (evd rfl rfl (ev_ldB (off := 2) (v := dL c159_ddd a0.2.2) rfl rfl rfl rfl (nb rfl) rfl (evd rfl rfl (ev_mv (c := nI y2) rfl rfl rfl (?_))))))
            obtain ⟨e29, g30, h⟩ := ob_some h
            refine evd rfl rfl (ev_ia rfl rfl rfl ⟨(geti_some g30).1, (geti_some g30).2.1⟩ (evd rfl rfl (ev_ldE (i := y2) (n := 3) (off := 0) (v := .agg (c159_ddd e29)) rfl rfl zc159_ddd g30 rfl (nb rfl) rfl (evd rfl rfl (ev_fa (c1 := .cref 3 0) (v := .cref 3 2) rfl rfl rfl ⟨_, rfl⟩ rfl (evd rfl rfl (ev_ldB (off := 2) (v := dL c159_ddd a1.2.2) rfl rfl rfl rfl (nb rfl) rfl (evd rfl rfl (ev_mv (c := nI y2) rfl rfl rfl (?_))))))))))
            obtain ⟨e31, g32, h⟩ := ob_some h
            refine evd rfl rfl (ev_ia rfl rfl rfl ⟨(geti_some g32).1, (geti_some g32).2.1⟩ (evd rfl rfl (ev_ldE (i := y2) (n := 3) (off := 0) (v := .agg (c159_ddd e31)) rfl rfl zc159_ddd g32 rfl (nb rfl) rfl (?_))))
            obtain ⟨v33, g34, h⟩ := ob_some h
            refine evd rfl rfl (ev_call (era rfl (erg (erc rfl (erc (erD ec25_d _) (erc (erD eci64 _) rfl)))) (era rfl (erg (erc rfl (erc (erD ec25_d _) (erc (erD eci64 _) rfl)))) eran)) (spec_EqualCounted_s g34) (evd rfl rfl (ev_un (c1 := .bool v33) rfl trivial (evdn ?_))))
            refine ls_keep [(2, .box [dL c208_dd a0.1, dL c161_dddddd a0.2.1, dL c159_ddd a0.2.2]), (3, .box [dL c208_dd a1.1, dL c161_dddddd a1.2.1, dL c159_ddd a1.2.2]), (6, nI y2), (86, .bool (!v33))] ⟨kr, kr, kr, kr, trivial⟩ rfl ?_
            rcases cond_some h with ⟨g35, h⟩ | ⟨g35, h⟩
            · refine ls_cT rfl g35 ?_
              refine ls_rs tbOk ?_
              refine evs (ev_ac rfl nofun rfl (evn ?_))
              refine ls_keep [(4, .bool false)] ⟨kr, trivial⟩ rfl ?_
              refine ls_ret ?_
              have q0 := (Option.some.inj h).symm
              have r0 := hr2
              rw [q0] at r0
              have hr := Option.some.inj r0
              rw [← hr]
              exact ⟨.inl rfl, rfl⟩
            · refine ls_cF rfl g35 ?_
              refine ls_skip ?_
              refine hK28 _ (ls_keep [(2, .box [dL c208_dd a0.1, dL c161_dddddd a0.2.1, dL c159_ddd a0.2.2]), (3, .box [dL c208_dd a1.1, dL c161_dddddd a1.2.1, dL c159_ddd a1.2.2]), (6, nI y2)] ⟨kr, kr, kr, trivial⟩ rfl ?_)
              refine ls_rgn tbOk ?_
              refine evs (ev_mv (c := nI y2) rfl rfl rfl (evs (ev_bin (c1 := nI y2) (c2 := nI 1) rfl rfl rfl (evs (ev_as (c := nI (IntKind.i64.wrap (y2 + 1))) rfl rfl rfl (evn ?_))))))
              exact hN _ (IntKind.i64.wrap (y2 + 1)) h ⟨kr, kr, kr, trivial⟩
          · refine ls_cF rfl g27 ?_
            refine ls_exit ?_
            have q0 := (Option.some.inj h).symm
            have r0 := hr2
            rw [q0] at r0
            exact kXspec_EqualNotifiers_B2 () r0 _ trivial
        refine ls_rec (fun (y1 : Int) => [(2, .box [dL c208_dd a0.1, dL c161_dddddd a0.2.1, dL c159_ddd a0.2.2]), (3, .box [dL c208_dd a1.1, dL c161_dddddd a1.2.1, dL c159_ddd a1.2.2]), (5, nI y1)]) (spec_EqualNotifiers_B1 a0 a1) fz 0 o1 hl ⟨kr, kr, kr, trivial⟩ (fun _ => rfl) ?_
        rintro m y1 N h hN
        unfold spec_EqualNotifiers_B1 at h
        refine ls_seq_k fun K8 hK8 => ?_
        refine ls_rs tbOk ?_
        refine evs (ev_mv (c := nI y1) rfl rfl rfl (evs (ev_fa (c1 := .cref 2 0) (v := .cref 2 1) rfl rfl rfl ⟨_, rfl⟩ rfl (evs (ev_ldB (off := 1) (v := dL c161_dddddd a0.2.1) rfl rfl rfl rfl (nb rfl) rfl (evs (ev_len (c1 := dL c161_dddddd a0.2.1) rfl rfl rfl (evs (ev_bin (c1 := nI y1) (c2 := nI (List.length a0.2.1 : Int)) rfl rfl rfl (evn ?_))))))))))
        refine ls_keep [(2, .box [dL c208_dd a0.1, dL c161_dddddd a0.2.1, dL c159_ddd a0.2.2]), (3, .box [dL c208_dd a1.1, dL c161_dddddd a1.2.1, dL c159_ddd a1.2.2]), (5, nI y1), (35, .bool (decide (y1 < (List.length a0.2.1 : Int))))] ⟨kr, kr, kr, kr, trivial⟩ rfl ?_
        rcases cond_some h with ⟨g9, h⟩ | ⟨g9, h⟩
        · refine ls_cT rfl g9 ?_
          refine ls_skip ?_
          refine hK8 _ (ls_keep [(2, .box [dL c208_dd a0.1, dL c161_dddddd a0.2.1, dL c159_ddd a0.2.2]), (3, .box [dL c208_dd a1.1, dL c161_dddddd a1.2.1, dL c159_ddd a1.2.2]), (5, nI y1)] ⟨kr, kr, kr, trivial⟩ rfl ?_)
          refine ls_seq_k fun K10 hK10 => ?_
          refine ls_blk ?_
          refine ls_rd tbOk mixed (by kernel_rfl) ?_
          refine evd rfl rfl (ev_fa (c1 := .cref 2 0) (v := .cref 2 1) rfl rfl rfl ⟨_, rfl⟩ rfl (evd rfl rfl (ev_ldB (off := 1) (v := dL c161_dddddd a0.2.1) rfl rfl rfl rfl (nb rfl) rfl (evd rfl rfl (ev_mv (c := nI y1) rfl rfl rfl (?_))))))
          obtain ⟨e11, g12, h⟩ := ob_some h
          refine evd rfl rfl (ev_ia rfl rfl rfl ⟨(geti_some g12).1, (geti_some g12).2.1⟩ (evd rfl rfl (ev_fa (c1 := .adr (a0.2.1.flatMap c161_dddddd) (Int.toNat y1 * 6)) (v := .adr (a0.2.1.flatMap c161_dddddd) (Int.toNat y1 * 6)) rfl rfl rfl trivial rfl (evd rfl rfl (ev_ldE (i := y1) (n := 6) (off := 0) (v := .agg (c92_ddd e11.1)) rfl rfl zc161_dddddd g12 rfl (nb rfl) rfl (evd rfl rfl (ev_fa (c1 := .cref 3 0) (v := .cref 3 1) rfl rfl rfl ⟨_, rfl⟩ rfl (evd rfl rfl (ev_ldB (off := 1) (v := dL c161_dddddd a1.2.1) rfl rfl rfl rfl (nb rfl) rfl (evd rfl rfl (ev_mv (c := nI y1) rfl rfl rfl (?_))))))))))))
          obtain ⟨e13, g14, h⟩ := ob_some h
          refine evd rfl rfl (ev_ia rfl rfl rfl ⟨(geti_some g14).1, (geti_some g14).2.1⟩ (evd rfl rfl (ev_fa (c1 := .adr (a1.2.1.flatMap c161_dddddd) (Int.toNat y1 * 6)) (v := .adr (a1.2.1.flatMap c161_dddddd) (Int.toNat y1 * 6)) rfl rfl rfl trivial rfl (evd rfl rfl (ev_ldE (i := y1) (n := 6) (off := 0) (v := .agg (c92_ddd e13.1)) rfl rfl zc161_dddddd g14 rfl (nb rfl) rfl (?_))))))
          obtain ⟨v15, g16, h⟩ := ob_some h
          refine evd rfl rfl (ev_call (era rfl (erg (erc rfl (erc (erD ec195_d _) (erc (erD eci64 _) rfl)))) (era rfl (erg (erc rfl (erc (erD ec195_d _) (erc (erD eci64 _) rfl)))) eran)) (spec_EqualQueries_s g16) (evd rfl rfl (ev_un (c1 := .bool v15) rfl trivial (evd rfl rfl (ev_mv (c := .bool (!v15)) rfl rfl rfl (?_))))))
          rcases cond_some h with ⟨g17, h⟩ | ⟨g17, h⟩
          · refine evd rfl rfl (ev_gs rfl rfl (isb_T g17) (evd rfl rfl (ev_gs rfl rfl (isb_T g17) (evd rfl rfl (ev_gs rfl rfl (isb_T g17) (evd rfl rfl (ev_gs rfl rfl (isb_T g17) (evd rfl rfl (ev_gs rfl rfl (isb_T g17) (evd rfl rfl (ev_gs rfl rfl (isb_T g17) (evd rfl rfl (ev_gs rfl rfl (isb_T g17) (evd rfl rfl (ev_gs rfl rfl (isb_T g17) (evd rfl rfl (ev_gs rfl rfl (isb_T g17) (evd rfl rfl (ev_gs rfl rfl (isb_T g17) (evd rfl rfl (ev_gs rfl rfl (isb_T g17) (evd rfl rfl (ev_gs rfl rfl (isb_T g17) (evd rfl rfl (ev_gs rfl rfl (isb_T g17) (evd rfl rfl (ev_gs rfl rfl (isb_T g17) (evd rfl rfl (ev_pkT (c1 := .bool true) rfl g17 rfl rfl (evdn ?_))))))))))))))))))))))))))))))
            refine ls_keep [(2, .box [dL c208_dd a0.1, dL c161_dddddd a0.2.1, dL c159_ddd a0.2.2]), (3, .box [dL c208_dd a1.1, dL c161_dddddd a1.2.1, dL c159_ddd a1.2.2]), (5, nI y1), (67, .bool true)] ⟨kr, kr, kr, kr, trivial⟩ rfl ?_
            refine ls_cT rfl rfl ?_
            refine ls_rs tbOk ?_
            refine evs (ev_ac rfl nofun rfl (evn ?_))
            refine ls_keep [(4, .bool false)] ⟨kr, trivial⟩ rfl ?_
            refine ls_ret ?_
            have q0 := (Option.some.inj h).symm
            have r0 := hr1
            rw [q0] at r0
            have hr := Option.some.inj r0
            rw [← hr]
            exact ⟨.inl rfl, rfl⟩
          · refine evd rfl rfl (ev_gr rfl (congrArg V.bool g17) (ev_fa (c1 := .cref 2 0) (v := .cref 2 1) rfl rfl rfl ⟨_, rfl⟩ rfl (evd rfl rfl (ev_gr rfl (congrArg V.bool g17) (ev_ldB (off := 1) (v := dL c161_dddddd a0.2.1) rfl rfl rfl rfl (nb rfl) rfl (evd rfl rfl (ev_gr rfl (congrArg V.bool g17) (ev_mv (c := nI y1) rfl rfl rfl (?_)))))))))
            obtain ⟨e18, g19, h⟩ := ob_some h
            refine evd rfl rfl (ev_gr rfl (congrArg V.bool g17) (ev_ia rfl rfl rfl ⟨(geti_some g19).1, (geti_some g19).2.1⟩ (evd rfl rfl (ev_gr rfl (congrArg V.bool g17) (ev_fa (c1 := .adr (a0.2.1.flatMap c161_dddddd) (Int.toNat y1 * 6)) (v := .adr (a0.2.1.flatMap c161_dddddd) (Int.toNat y1 * 6 + 3)) rfl rfl rfl trivial rfl (evd rfl rfl (ev_gr rfl (congrArg V.bool g17) (ev_ldE (i := y1) (n := 6) (off := 3) (v := .agg (c159_ddd e18.2)) rfl rfl zc161_dddddd g19 rfl (nb rfl) rfl (evd rfl rfl (ev_gr rfl (congrArg V.bool g17) (ev_fa (c1 := .cref 3 0) (v := .cref 3 1) rfl rfl rfl ⟨_, rfl⟩ rfl (evd rfl rfl (ev_gr rfl (congrArg V.bool g17) (ev_ldB (off := 1) (v := dL c161_dddddd a1.2.1) rfl rfl rfl rfl (nb rfl) rfl (evd rfl rfl (ev_gr rfl (congrArg V.bool g17) (ev_mv (c := nI y1) rfl rfl rfl (?_))))))))))))))))))
            obtain ⟨e20, g21, h⟩ := ob_some h
            refine evd rfl rfl (ev_gr rfl (congrArg V.bool g17) (ev_ia rfl rfl rfl ⟨(geti_some g21).1, (geti_some g21).2.1⟩ (evd rfl rfl (ev_gr rfl (congrArg V.bool g17) (ev_fa (c1 := .adr (a1.2.1.flatMap c161_dddddd) (Int.toNat y1 * 6)) (v := .adr (a1.2.1.flatMap c161_dddddd) (Int.toNat y1 * 6 + 3)) rfl rfl rfl trivial rfl (evd rfl rfl (ev_gr rfl (congrArg V.bool g17) (ev_ldE (i := y1) (n := 6) (off := 3) (v := .agg (c159_ddd e20.2)) rfl rfl zc161_dddddd g21 rfl (nb rfl) rfl (?_)))))))))
            obtain ⟨v22, g23, h⟩ := ob_some h
            refine evd rfl rfl (ev_gr rfl (congrArg V.bool g17) (ev_call (era rfl (erg (erc rfl (erc (erD ec25_d _) (erc (erD eci64 _) rfl)))) (era rfl (erg (erc rfl (erc (erD ec25_d _) (erc (erD eci64 _) rfl)))) eran)) (spec_EqualCounted_s g23) (evd rfl rfl (ev_gr rfl (congrArg V.bool g17) (ev_un (c1 := .bool v22) rfl trivial (evd rfl rfl (ev_pkF (c1 := .bool (!v22)) rfl g17 rfl rfl (evdn ?_))))))))
            refine ls_keep [(2, .box [dL c208_dd a0.1, dL c161_dddddd a0.2.1, dL c159_ddd a0.2.2]), (3, .box [dL c208_dd a1.1, dL c161_dddddd a1.2.1, dL c159_ddd a1.2.2]), (5, nI y1), (67, .bool (!v22))] ⟨kr, kr, kr, kr, trivial⟩ rfl ?_
            rcases cond_some h with ⟨g24, h⟩ | ⟨g24, h⟩
            · refine ls_cT rfl g24 ?_
              refine ls_rs tbOk ?_
              refine evs (ev_ac rfl nofun rfl (evn ?_))
              refine ls_keep [(4, .bool false)] ⟨kr, trivial⟩ rfl ?_
              refine ls_ret ?_
              have q0 := (Option.some.inj h).symm
              have r0 := hr1
              rw [q0] at r0
              have hr := Option.some.inj r0
              rw [← hr]
              exact ⟨.inl rfl, rfl⟩
            · refine ls_cF rfl g24 ?_
              refine ls_skip ?_
              refine hK10 _ (ls_keep [(2, .box [dL c208_dd a0.1, dL c161_dddddd a0.2.1, dL c159_ddd a0.2.2]), (3, .box [dL c208_dd a1.1, dL c161_dddddd a1.2.1, dL c159_ddd a1.2.2]), (5, nI y1)] ⟨kr, kr, kr, trivial⟩ rfl ?_)
              refine ls_rgn tbOk ?_
              refine evs (ev_mv (c := nI y1) rfl rfl rfl (evs (ev_bin (c1 := nI y1) (c2 := nI 1) rfl rfl rfl (evs (ev_as (c := nI (IntKind.i64.wrap (y1 + 1))) rfl rfl rfl (evn ?_))))))
              exact hN _ (IntKind.i64.wrap (y1 + 1)) h ⟨kr, kr, kr, trivial⟩
        · refine ls_cF rfl g9 ?_
          refine ls_exit ?_
          have q0 := (Option.some.inj h).symm
          have r0 := hr1
          rw [q0] at r0
          exact kXspec_EqualNotifiers_B1 () r0 _ ⟨kr, kr, trivial⟩
def laws_toIntS_B1 (a0 : List Int) (rec : ((List Int) × Int) → Option ((List Int))) (s : (List Int) × Int) : Option ((List Int)) := match s with
  | (y1, y2) => cond (decide (y2 < (List.length a0 : Int))) (obind (geti a0 y2) fun e7 => obind (geti y1 y2) fun e9 => rec ((seti y1 y2 e7), (IntKind.i64.wrap (y2 + 1)))) (some y1)
def laws_toIntS (a0 : List Int) : Option ((List Int)) := chk ((0 : Int) ≤ (List.length a0 : Int) ∧ Int.toNat (List.length a0 : Int) ≤ lim) (obind (loopF (laws_toIntS_B1 a0) fz ((List.replicate (Int.toNat (List.length a0 : Int)) (0 : Int)), 0)) fun z3 => some z3)
theorem laws_toIntS_s {a0 : List Int} {r : (List Int)} (h : laws_toIntS a0 = some r) : SoundAt Try.prog 58 [dL ci64 a0] (oL 3 ci64 r) := by
  unfold laws_toIntS at h
  refine sound_lit tbOk lit58 (nb rfl) rfl ?_
  unfold c58
  refine ls_keep [(0, dL ci64 a0)] ⟨kr, trivial⟩ rfl ?_
  refine ls_rs tbOk ?_
  refine evs (ev_an rfl rfl (evn ?_))
  refine ls_keep [(0, dL ci64 a0)] ⟨kr, trivial⟩ rfl ?_
  refine ls_rs tbOk ?_
  refine evs (ev_mv (c := dL ci64 a0) rfl rfl rfl (evs (ev_len (c1 := dL ci64 a0) rfl rfl rfl (?_))))
  obtain ⟨g1, h⟩ := chk_some h
  refine evs (ev_mku (f := ci64) (z := (0 : Int)) rfl rfl rfl rfl rfl rfl g1 rfl (evs (ev_asu rfl rfl rfl (evn ?_))))
  refine ls_keep [(0, dL ci64 a0), (3, wL 3 ci64 (List.replicate (Int.toNat (List.length a0 : Int)) (0 : Int)))] ⟨kr, kr, trivial⟩ rfl ?_
  refine ls_seq_k fun K2 hK2 => ?_
  refine ls_rs tbOk ?_
  refine evs (ev_ac rfl nofun rfl (evn ?_))
  refine ls_keep [(0, dL ci64 a0), (3, wL 3 ci64 (List.replicate (Int.toNat (List.length a0 : Int)) (0 : Int))), (4, nI 0)] ⟨kr, kr, kr, trivial⟩ rfl ?_
  obtain ⟨o1, hl, hr1⟩ := ob_some h
  clear h
  have kXlaws_toIntS_B1 : ∀ (z3 : List Int), (some z3) = some r → ∀ σ' : PS, okK σ' [(3, wL 3 ci64 z3)] → K2 σ' := by
    intro z3 h σ' hk
    refine hK2 _ (ls_keep [(3, wL 3 ci64 z3)] hk rfl ?_)
    refine ls_rs tbOk ?_
    refine evs (ev_mvtu rfl rfl (evs (ev_as (c := oL 3 ci64 z3) rfl rfl rfl (evn ?_))))
    refine ls_keep [(2, oL 3 ci64 z3)] ⟨kr, trivial⟩ rfl ?_
    refine ls_ret ?_
    have hr := Option.some.inj h
    rw [← hr]
    exact ⟨.inl rfl, rfl⟩
  refine ls_rec (fun (s : (List Int) × Int) => match s with | (y1, y2) => [(0, dL ci64 a0), (3, wL 3 ci64 y1), (4, nI y2)]) (laws_toIntS_B1 a0) fz ((List.replicate (Int.toNat (List.length a0 : Int)) (0 : Int)), 0) o1 hl ⟨kr, kr, kr, trivial⟩ (fun _ => rfl) ?_
  rintro m ⟨y1, y2⟩ N h hN
  unfold laws_toIntS_B1 at h
  dsimp only at h
  refine ls_seq_k fun K4 hK4 => ?_
  refine ls_rs tbOk ?_
  refine evs (ev_mv (c := nI y2) rfl rfl rfl (evs (ev_mv (c := dL ci64 a0) rfl rfl rfl (evs (ev_len (c1 := dL ci64 a0) rfl rfl rfl (evs (ev_bin (c1 := nI y2) (c2 := nI (List.length a0 : Int)) rfl rfl rfl (evn ?_))))))))
  refine ls_keep [(0, dL ci64 a0), (3, wL 3 ci64 y1), (4, nI y2), (11, .bool (decide (y2 < (List.length a0 : Int))))] ⟨kr, kr, kr, kr, trivial⟩ rfl ?_
  rcases cond_some h with ⟨g5, h⟩ | ⟨g5, h⟩
  · refine ls_cT rfl g5 ?_
    refine ls_skip ?_
    refine hK4 _ (ls_keep [(0, dL ci64 a0), (3, wL 3 ci64 y1), (4, nI y2)] ⟨kr, kr, kr, trivial⟩ rfl ?_)
    refine ls_seq_k fun K6 hK6 => ?_
    refine ls_blk ?_
    refine ls_rgn tbOk ?_
    refine evs (ev_mvu rfl rfl (evs (ev_mv (c := nI y2) rfl rfl rfl (evs (ev_mv (c := dL ci64 a0) rfl rfl rfl (evs (ev_mv (c := nI y2) rfl rfl rfl (?_))))))))
    obtain ⟨e7, g8, h⟩ := ob_some h
    refine evs (ev_ia rfl rfl rfl ⟨(geti_some g8).1, (geti_some g8).2.1⟩ (evs (ev_ldE (i := y2) (n := 1) (off := 0) (v := nI e7) rfl rfl zci64 g8 rfl (nb rfl) rfl (?_))))
    obtain ⟨e9, g10, h⟩ := ob_some h
    refine evs (ev_iau rfl rfl rfl rfl ⟨(geti_some g10).1, (geti_some g10).2.1⟩ (evs (ev_stu (e := e7) (c1 := nI e7) rfl rfl zci64 ⟨(geti_some g10).1, (geti_some g10).2.1⟩ rfl rfl rfl rfl rfl (evn ?_))))
    refine hK6 _ (ls_keep [(0, dL ci64 a0), (3, wL 3 ci64 (seti y1 y2 e7)), (4, nI y2)] ⟨kr, kr, kr, trivial⟩ rfl ?_)
    refine ls_rgn tbOk ?_
    refine evs (ev_mv (c := nI y2) rfl rfl rfl (evs (ev_bin (c1 := nI y2) (c2 := nI 1) rfl rfl rfl (evs (ev_as (c := nI (IntKind.i64.wrap (y2 + 1))) rfl rfl rfl (evn ?_))))))
    exact hN _ ((seti y1 y2 e7), (IntKind.i64.wrap (y2 + 1))) h ⟨kr, kr, kr, trivial⟩
  · refine ls_cF rfl g5 ?_
    refine ls_exit ?_
    have q0 := (Option.some.inj h).symm
    have r0 := hr1
    rw [q0] at r0
    exact kXlaws_toIntS_B1 y1 r0 _ ⟨kr, trivial⟩
def c25_o (x : List Int) : List V := [oL 3 ci64 x]
theorem zc25_o (x : List Int) : (c25_o x).length = 1 := rfl
theorem ec25_o (x : List Int) : erL (c25_o x) = c25_d x := (erc (erO eci64 _) rfl)
def laws_toIntSS_B1 (a0 : List (List Int)) (rec : ((List (List Int)) × Int) → Option ((List (List Int)))) (s : (List (List Int)) × Int) : Option ((List (List Int))) := match s with
  | (y1, y2) => cond (decide (y2 < (List.length a0 : Int))) (obind (geti a0 y2) fun e7 => obind (laws_toIntS e7) fun v9 => obind (geti y1 y2) fun e11 => rec ((seti y1 y2 v9), (IntKind.i64.wrap (y2 + 1)))) (some y1)
def laws_toIntSS (a0 : List (List Int)) : Option ((List (List Int))) := chk ((0 : Int) ≤ (List.length a0 : Int) ∧ Int.toNat (List.length a0 : Int) ≤ lim) (obind (loopF (laws_toIntSS_B1 a0) fz ((List.replicate (Int.toNat (List.length a0 : Int)) ([] : List Int)), 0)) fun z3 => some z3)
theorem laws_toIntSS_s {a0 : List (List Int)} {r : (List (List Int))} (h : laws_toIntSS a0 = some r) : SoundAt Try.prog 208 [dL c25_d a0] (oL 25 c25_o r) := by
  unfold laws_toIntSS at h
  refine sound_lit tbOk lit208 (nb rfl) rfl ?_
  unfold c208
  refine ls_keep [(0, dL c25_d a0)] ⟨kr, trivial⟩ rfl ?_
  refine ls_rs tbOk ?_
  refine evs (ev_an rfl rfl (evn ?_))
  refine ls_keep [(0, dL c25_d a0)] ⟨kr, trivial⟩ rfl ?_
  refine ls_rs tbOk ?_
  refine evs (ev_mv (c := dL c25_d a0) rfl rfl rfl (evs (ev_len (c1 := dL c25_d a0) rfl rfl rfl (?_))))
  obtain ⟨g1, h⟩ := chk_some h
  refine evs (ev_mku (f := c25_o) (z := ([] : List Int)) rfl rfl rfl rfl rfl rfl g1 rfl (evs (ev_asu rfl rfl rfl (evn ?_))))
  refine ls_keep [(0, dL c25_d a0), (3, wL 25 c25_o (List.replicate (Int.toNat (List.length a0 : Int)) ([] : List Int)))] ⟨kr, kr, trivial⟩ rfl ?_
  refine ls_seq_k fun K2 hK2 => ?_
  refine ls_rs tbOk ?_
  refine evs (ev_ac rfl nofun rfl (evn ?_))
  refine ls_keep [(0, dL c25_d a0), (3, wL 25 c25_o (List.replicate (Int.toNat (List.length a0 : Int)) ([] : List Int))), (4, nI 0)] ⟨kr, kr, kr, trivial⟩ rfl ?_
  obtain ⟨o1, hl, hr1⟩ := ob_some h
  clear h
  have kXlaws_toIntSS_B1 : ∀ (z3 : List (List Int)), (some z3) = some r → ∀ σ' : PS, okK σ' [(3, wL 25 c25_o z3)] → K2 σ' := by
    intro z3 h σ' hk
    refine hK2 _ (ls_keep [(3, wL 25 c25_o z3)] hk rfl ?_)
    refine ls_rs tbOk ?_
    refine evs (ev_mvtu rfl rfl (evs (ev_as (c := oL 25 c25_o z3) rfl rfl rfl (evn ?_))))
    refine ls_keep [(2, oL 25 c25_o z3)] ⟨kr, trivial⟩ rfl ?_
    refine ls_ret ?_
    have hr := Option.some.inj h
    rw [← hr]
    exact ⟨.inl rfl, rfl⟩
  refine ls_rec (fun (s : (List (List Int)) × Int) => match s with | (y1, y2) => [(0, dL c25_d a0), (3, wL 25 c25_o y1), (4, nI y2)]) (laws_toIntSS_B1 a0) fz ((List.replicate (Int.toNat (List.length a0 : Int)) ([] : List Int)), 0) o1 hl ⟨kr, kr, kr, trivial⟩ (fun _ => rfl) ?_
  rintro m ⟨y1, y2⟩ N h hN
  unfold laws_toIntSS_B1 at h
  dsimp only at h
  refine ls_seq_k fun K4 hK4 => ?_
  refine ls_rs tbOk ?_
  refine evs (ev_mv (c := nI y2) rfl rfl rfl (evs (ev_mv (c := dL c25_d a0) rfl rfl rfl (evs (ev_len (c1 := dL c25_d a0) rfl rfl rfl (evs (ev_bin (c1 := nI y2) (c2 := nI (List.length a0 : Int)) rfl rfl rfl (evn ?_))))))))
  refine ls_keep [(0, dL c25_d a0), (3, wL 25 c25_o y1), (4, nI y2), (11, .bool (decide (y2 < (List.length a0 : Int))))] ⟨kr, kr, kr, kr, trivial⟩ rfl ?_
  rcases cond_some h with ⟨g5, h⟩ | ⟨g5, h⟩
  · refine ls_cT rfl g5 ?_
    refine ls_skip ?_
    refine hK4 _ (ls_keep [(0, dL c25_d a0), (3, wL 25 c25_o y1), (4, nI y2)] ⟨kr, kr, kr, trivial⟩ rfl ?_)
    refine ls_seq_k fun K6 hK6 => ?_
    refine ls_blk ?_
    refine ls_rgn tbOk ?_
    refine evs (ev_mvu rfl rfl (evs (ev_mv (c := nI y2) rfl rfl rfl (evs (ev_mv (c := dL c25_d a0) rfl rfl rfl (evs (ev_mv (c := nI y2) rfl rfl rfl (?_))))))))
    obtain ⟨e7, g8, h⟩ := ob_some h
    refine evs (ev_ia rfl rfl rfl ⟨(geti_some g8).1, (geti_some g8).2.1⟩ (evs (ev_ldE (i := y2) (n := 1) (off := 0) (v := dL ci64 e7) rfl rfl zc25_d g8 rfl (nb rfl) rfl (?_))))
    obtain ⟨v9, g10, h⟩ := ob_some h
    refine evs (ev_call (era rfl (erD eci64 _) eran) (laws_toIntS_s g10) (?_))
    obtain ⟨e11, g12, h⟩ := ob_some h
    refine evs (ev_iau rfl rfl rfl rfl ⟨(geti_some g12).1, (geti_some g12).2.1⟩ (evs (ev_stu (e := v9) (c1 := oL 3 ci64 v9) rfl rfl zc25_o ⟨(geti_some g12).1, (geti_some g12).2.1⟩ rfl rfl rfl rfl rfl (evn ?_))))
    refine hK6 _ (ls_keep [(0, dL c25_d a0), (3, wL 25 c25_o (seti y1 y2 v9)), (4, nI y2)] ⟨kr, kr, kr, trivial⟩ rfl ?_)
    refine ls_rgn tbOk ?_
    refine evs (ev_mv (c := nI y2) rfl rfl rfl (evs (ev_bin (c1 := nI y2) (c2 := nI 1) rfl rfl rfl (evs (ev_as (c := nI (IntKind.i64.wrap (y2 + 1))) rfl rfl rfl (evn ?_))))))
    exact hN _ ((seti y1 y2 v9), (IntKind.i64.wrap (y2 + 1))) h ⟨kr, kr, kr, trivial⟩
  · refine ls_cF rfl g5 ?_
    refine ls_exit ?_
    have q0 := (Option.some.inj h).symm
    have r0 := hr1
    rw [q0] at r0
    exact kXlaws_toIntSS_B1 y1 r0 _ ⟨kr, trivial⟩
def c128_oo (x : Y127) : List V := [nI x.1, oL 25 c25_o x.2]
theorem zc128_oo (x : Y127) : (c128_oo x).length = 2 := rfl
theorem ec128_oo (x : Y127) : erL (c128_oo x) = c128_dd x := (erc rfl (erc (erO ec25_o _) rfl))
def laws_toRelation (a0 : Y127) : Option (Y127) := obind (laws_toIntSS a0.2) fun v1 => some (a0.1, v1)
theorem laws_toRelation_s {a0 : Y127} {r : Y127} (h : laws_toRelation a0 = some r) : SoundAt Try.prog 236 [.agg (c204_dd a0)] (.agg (c128_oo r)) := by
  unfold laws_toRelation at h
  refine sound_lit tbOk lit236 (nb rfl) rfl ?_
  unfold c236
  refine ls_keep [(0, .agg (c204_dd a0))] ⟨kr, trivial⟩ rfl ?_
  refine ls_rs tbOk ?_
  refine evs (ev_bx (c1 := .agg (c204_dd a0)) rfl rfl rfl (evs (ev_al rfl rfl (evn ?_))))
  refine ls_keep [(1, .box [nI a0.1, dL c25_d a0.2]), (2, .box [nI 0, oL 25 c25_o []])] ⟨kr, kr, trivial⟩ rfl ?_
  refine ls_rs tbOk ?_
  refine evs (ev_al rfl rfl (evn ?_))
  refine ls_keep [(1, .box [nI a0.1, dL c25_d a0.2]), (2, .box [nI 0, oL 25 c25_o []]), (3, .box [nI 0, oL 25 c25_o []])] ⟨kr, kr, kr, trivial⟩ rfl ?_
  refine ls_rs tbOk ?_
  refine evs (ev_fa (c1 := .cref 1 0) (v := .cref 1 0) rfl rfl rfl ⟨_, rfl⟩ rfl (evs (ev_ldB (off := 0) (v := nI a0.1) rfl rfl rfl rfl (nb rfl) rfl (evs (ev_fa (c1 := .cref 3 0) (v := .cref 3 0) rfl rfl rfl ⟨_, rfl⟩ rfl (evs (ev_st (off := 0) (c1 := nI a0.1) (cs' := [nI a0.1, oL 25 c25_o []]) rfl rfl rfl rfl rfl rfl (nb rfl) rfl (evn ?_))))))))
  refine ls_keep [(1, .box [nI a0.1, dL c25_d a0.2]), (2, .box [nI 0, oL 25 c25_o []]), (3, .box [nI a0.1, oL 25 c25_o []])] ⟨kr, kr, kr, trivial⟩ rfl ?_
  refine ls_rs tbOk ?_
  refine evs (ev_fa (c1 := .cref 1 0) (v := .cref 1 1) rfl rfl rfl ⟨_, rfl⟩ rfl (evs (ev_ldB (off := 1) (v := dL c25_d a0.2) rfl rfl rfl rfl (nb rfl) rfl (?_))))
  obtain ⟨v1, g2, h⟩ := ob_some h
  refine evs (ev_call (era rfl (erD ec25_d _) eran) (laws_toIntSS_s g2) (evs (ev_fa (c1 := .cref 3 0) (v := .cref 3 1) rfl rfl rfl ⟨_, rfl⟩ rfl (evs (ev_st (off := 1) (c1 := oL 25 c25_o v1) (cs' := [nI a0.1, oL 25 c25_o v1]) rfl rfl rfl rfl rfl rfl (nb rfl) rfl (evn ?_))))))
  refine ls_keep [(2, .box [nI 0, oL 25 c25_o []]), (3, .box [nI a0.1, oL 25 c25_o v1])] ⟨kr, kr, trivial⟩ rfl ?_
  refine ls_rs tbOk ?_
  refine evs (ev_ldBt (off := 0) (v := .agg [nI a0.1, oL 25 c25_o v1]) (c' := .box [nI a0.1, dL c25_o v1]) rfl rfl rfl rfl (nb rfl) rfl rfl (evs (ev_st (off := 0) (c1 := .agg [nI a0.1, oL 25 c25_o v1]) (cs' := [nI a0.1, oL 25 c25_o v1]) rfl rfl rfl rfl rfl rfl (nb rfl) rfl (evn ?_))))
  refine ls_keep [(2, .box [nI a0.1, oL 25 c25_o v1])] ⟨kr, trivial⟩ rfl ?_
  refine ls_ret ?_
  have hr := Option.some.inj h
  rw [← hr]
  exact ⟨.inl rfl, rfl⟩
def c208_oo (x : Y207) : List V := [.str x.1, nI x.2.1, oL 25 c25_o x.2.2]
theorem zc208_oo (x : Y207) : (c208_oo x).length = 3 := rfl
theorem ec208_oo (x : Y207) : erL (c208_oo x) = c208_dd x := (erc rfl (erc rfl (erc (erO ec25_o _) rfl)))
def laws_toTable (a0 : Y205) : Option (Y207) := obind (laws_toRelation a0.2) fun v1 => some (a0.1, v1)
theorem laws_toTable_s {a0 : Y205} {r : Y207} (h : laws_toTable a0 = some r) : SoundAt Try.prog 173 [.agg (c206_dd a0)] (.agg (c208_oo r)) := by
  unfold laws_toTable at h
  refine sound_lit tbOk lit173 (nb rfl) rfl ?_
  unfold c173
  refine ls_keep [(0, .agg (c206_dd a0))] ⟨kr, trivial⟩ rfl ?_
  refine ls_rs tbOk ?_
  refine evs (ev_bx (c1 := .agg (c206_dd a0)) rfl rfl rfl (evs (ev_al rfl rfl (evn ?_))))
  refine ls_keep [(1, .box [.str a0.1, nI a0.2.1, dL c25_d a0.2.2]), (2, .box [.str [], nI 0, oL 25 c25_o []])] ⟨kr, kr, trivial⟩ rfl ?_
  refine ls_rs tbOk ?_
  refine evs (ev_al rfl rfl (evn ?_))
  refine ls_keep [(1, .box [.str a0.1, nI a0.2.1, dL c25_d a0.2.2]), (2, .box [.str [], nI 0, oL 25 c25_o []]), (3, .box [.str [], nI 0, oL 25 c25_o []])] ⟨kr, kr, kr, trivial⟩ rfl ?_
  refine ls_rs tbOk ?_
  refine evs (ev_fa (c1 := .cref 1 0) (v := .cref 1 0) rfl rfl rfl ⟨_, rfl⟩ rfl (evs (ev_ldB (off := 0) (v := .str a0.1) rfl rfl rfl rfl (nb rfl) rfl (evs (ev_fa (c1 := .cref 3 0) (v := .cref 3 0) rfl rfl rfl ⟨_, rfl⟩ rfl (evs (ev_st (off := 0) (c1 := .str a0.1) (cs' := [.str a0.1, nI 0, oL 25 c25_o []]) rfl rfl rfl rfl rfl rfl (nb rfl) rfl (evn ?_))))))))
  refine ls_keep [(1, .box [.str a0.1, nI a0.2.1, dL c25_d a0.2.2]), (2, .box [.str [], nI 0, oL 25 c25_o []]), (3, .box [.str a0.1, nI 0, oL 25 c25_o []])] ⟨kr, kr, kr, trivial⟩ rfl ?_
  refine ls_rs tbOk ?_
  refine evs (ev_fa (c1 := .cref 1 0) (v := .cref 1 1) rfl rfl rfl ⟨_, rfl⟩ rfl (evs (ev_ldB (off := 1) (v := .agg (c204_dd a0.2)) rfl rfl rfl rfl (nb rfl) rfl (?_))))
  obtain ⟨v1, g2, h⟩ := ob_some h
  refine evs (ev_call (era rfl (erg (erc rfl (erc (erD ec25_d _) rfl))) eran) (laws_toRelation_s g2) (evs (ev_fa (c1 := .cref 3 0) (v := .cref 3 1) rfl rfl rfl ⟨_, rfl⟩ rfl (evs (ev_st (off := 1) (c1 := .agg (c128_oo v1)) (cs' := [.str a0.1, nI v1.1, oL 25 c25_o v1.2]) rfl rfl rfl rfl rfl rfl (nb rfl) rfl (evn ?_))))))
  refine ls_keep [(2, .box [.str [], nI 0, oL 25 c25_o []]), (3, .box [.str a0.1, nI v1.1, oL 25 c25_o v1.2])] ⟨kr, kr, trivial⟩ rfl ?_
  refine ls_rs tbOk ?_
  refine evs (ev_ldBt (off := 0) (v := .agg [.str a0.1, nI v1.1, oL 25 c25_o v1.2]) (c' := .box [.str a0.1, nI v1.1, dL c25_o v1.2]) rfl rfl rfl rfl (nb rfl) rfl rfl (evs (ev_st (off := 0) (c1 := .agg [.str a0.1, nI v1.1, oL 25 c25_o v1.2]) (cs' := [.str a0.1, nI v1.1, oL 25 c25_o v1.2]) rfl rfl rfl rfl rfl rfl (nb rfl) rfl (evn ?_))))
  refine ls_keep [(2, .box [.str a0.1, nI v1.1, oL 25 c25_o v1.2])] ⟨kr, trivial⟩ rfl ?_
  refine ls_ret ?_
  have hr := Option.some.inj h
  rw [← hr]
  exact ⟨.inl rfl, rfl⟩
def laws_toTableS_B1 (a0 : List Y205) (rec : ((List Y207) × Int) → Option ((List Y207))) (s : (List Y207) × Int) : Option ((List Y207)) := match s with
  | (y1, y2) => cond (decide (y2 < (List.length a0 : Int))) (obind (geti a0 y2) fun e7 => obind (laws_toTable e7) fun v9 => obind (geti y1 y2) fun e11 => rec ((seti y1 y2 v9), (IntKind.i64.wrap (y2 + 1)))) (some y1)
def laws_toTableS (a0 : List Y205) : Option ((List Y207)) := chk ((0 : Int) ≤ (List.length a0 : Int) ∧ Int.toNat (List.length a0 : Int) ≤ lim) (obind (loopF (laws_toTableS_B1 a0) fz ((List.replicate (Int.toNat (List.length a0 : Int)) (([], (0, [])) : Y207)), 0)) fun z3 => some z3)
theorem laws_toTableS_s {a0 : List Y205} {r : (List Y207)} (h : laws_toTableS a0 = some r) : SoundAt Try.prog 77 [dL c206_dd a0] (oL 208 c208_oo r) := by
  unfold laws_toTableS at h
  refine sound_lit tbOk lit77 (nb rfl) rfl ?_
  unfold c77
  refine ls_keep [(0, dL c206_dd a0)] ⟨kr, trivial⟩ rfl ?_
  refine ls_rs tbOk ?_
  refine evs (ev_an rfl rfl (evn ?_))
  refine ls_keep [(0, dL c206_dd a0)] ⟨kr, trivial⟩ rfl ?_
  refine ls_rs tbOk ?_
  refine evs (ev_mv (c := dL c206_dd a0) rfl rfl rfl (evs (ev_len (c1 := dL c206_dd a0) rfl rfl rfl (?_))))
  obtain ⟨g1, h⟩ := chk_some h
  refine evs (ev_mku (f := c208_oo) (z := (([], (0, [])) : Y207)) rfl rfl rfl rfl rfl rfl g1 rfl (evs (ev_asu rfl rfl rfl (evn ?_))))
  refine ls_keep [(0, dL c206_dd a0), (3, wL 208 c208_oo (List.replicate (Int.toNat (List.length a0 : Int)) (([], (0, [])) : Y207)))] ⟨kr, kr, trivial⟩ rfl ?_
  refine ls_seq_k fun K2 hK2 => ?_
  refine ls_rs tbOk ?_
  refine evs (ev_ac rfl nofun rfl (evn ?_))
  refine ls_keep [(0, dL c206_dd a0), (3, wL 208 c208_oo (List.replicate (Int.toNat (List.length a0 : Int)) (([], (0, [])) : Y207))), (4, nI 0)] ⟨kr, kr, kr, trivial⟩ rfl ?_
  obtain ⟨o1, hl, hr1⟩ := ob_some h
  clear h
  have kXlaws_toTableS_B1 : ∀ (z3 : List Y207), (some z3) = some r → ∀ σ' : PS, okK σ' [(3, wL 208 c208_oo z3)] → K2 σ' := by
    intro z3 h σ' hk
    refine hK2 _ (ls_keep [(3, wL 208 c208_oo z3)] hk rfl ?_)
    refine ls_rs tbOk ?_
    refine evs (ev_mvtu rfl rfl (evs (ev_as (c := oL 208 c208_oo z3) rfl rfl rfl (evn ?_))))
    refine ls_keep [(2, oL 208 c208_oo z3)] ⟨kr, trivial⟩ rfl ?_
    refine ls_ret ?_
    have hr := Option.some.inj h
    rw [← hr]
    exact ⟨.inl rfl, rfl⟩
  refine ls_rec (fun (s : (List Y207) × Int) => match s with | (y1, y2) => [(0, dL c206_dd a0), (3, wL 208 c208_oo y1), (4, nI y2)]) (laws_toTableS_B1 a0) fz ((List.replicate (Int.toNat (List.length a0 : Int)) (([], (0, [])) : Y207)), 0) o1 hl ⟨kr, kr, kr, trivial⟩ (fun _ => rfl) ?_
  rintro m ⟨y1, y2⟩ N h hN
  unfold laws_toTableS_B1 at h
  dsimp only at h
  refine ls_seq_k fun K4 hK4 => ?_
  refine ls_rs tbOk ?_
  refine evs (ev_mv (c := nI y2) rfl rfl rfl (evs (ev_mv (c := dL c206_dd a0) rfl rfl rfl (evs (ev_len (c1 := dL c206_dd a0) rfl rfl rfl (evs (ev_bin (c1 := nI y2) (c2 := nI (List.length a0 : Int)) rfl rfl rfl (evn ?_))))))))
  refine ls_keep [(0, dL c206_dd a0), (3, wL 208 c208_oo y1), (4, nI y2), (11, .bool (decide (y2 < (List.length a0 : Int))))] ⟨kr, kr, kr, kr, trivial⟩ rfl ?_
  rcases cond_some h with ⟨g5, h⟩ | ⟨g5, h⟩
  · refine ls_cT rfl g5 ?_
    refine ls_skip ?_
    refine hK4 _ (ls_keep [(0, dL c206_dd a0), (3, wL 208 c208_oo y1), (4, nI y2)] ⟨kr, kr, kr, trivial⟩ rfl ?_)
    refine ls_seq_k fun K6 hK6 => ?_
    refine ls_blk ?_
    refine ls_rgn tbOk ?_
    refine evs (ev_mvu rfl rfl (evs (ev_mv (c := nI y2) rfl rfl rfl (evs (ev_mv (c := dL c206_dd a0) rfl rfl rfl (evs (ev_mv (c := nI y2) rfl rfl rfl (?_))))))))
    obtain ⟨e7, g8, h⟩ := ob_some h
    refine evs (ev_ia rfl rfl rfl ⟨(geti_some g8).1, (geti_some g8).2.1⟩ (evs (ev_ldE (i := y2) (n := 3) (off := 0) (v := .agg (c206_dd e7)) rfl rfl zc206_dd g8 rfl (nb rfl) rfl (?_))))
    obtain ⟨v9, g10, h⟩ := ob_some h
    refine evs (ev_call (era rfl (erg (erc rfl (erc rfl (erc (erD ec25_d _) rfl)))) eran) (laws_toTable_s g10) (?_))
    obtain ⟨e11, g12, h⟩ := ob_some h
    refine evs (ev_iau rfl rfl rfl rfl ⟨(geti_some g12).1, (geti_some g12).2.1⟩ (evs (ev_stu (e := v9) (c1 := .agg (c208_oo v9)) rfl rfl zc208_oo ⟨(geti_some g12).1, (geti_some g12).2.1⟩ rfl rfl rfl rfl rfl (evn ?_))))
    refine hK6 _ (ls_keep [(0, dL c206_dd a0), (3, wL 208 c208_oo (seti y1 y2 v9)), (4, nI y2)] ⟨kr, kr, kr, trivial⟩ rfl ?_)
    refine ls_rgn tbOk ?_
    refine evs (ev_mv (c := nI y2) rfl rfl rfl (evs (ev_bin (c1 := nI y2) (c2 := nI 1) rfl rfl rfl (evs (ev_as (c := nI (IntKind.i64.wrap (y2 + 1))) rfl rfl rfl (evn ?_))))))
    exact hN _ ((seti y1 y2 v9), (IntKind.i64.wrap (y2 + 1))) h ⟨kr, kr, kr, trivial⟩
  · refine ls_cF rfl g5 ?_
    refine ls_exit ?_
    have q0 := (Option.some.inj h).symm
    have r0 := hr1
    rw [q0] at r0
    exact kXlaws_toTableS_B1 y1 r0 _ ⟨kr, trivial⟩
def laws_toDatabase (a0 : List Y205) : Option ((List Y207)) := obind (laws_toTableS a0) fun v1 => some v1
theorem laws_toDatabase_s {a0 : List Y205} {r : (List Y207)} (h : laws_toDatabase a0 = some r) : SoundAt Try.prog 16 [.agg [dL c206_dd a0]] (.agg [oL 208 c208_oo r]) := by
  unfold laws_toDatabase at h
  refine sound_lit tbOk lit16 (nb rfl) rfl ?_
  unfold c16
  refine ls_keep [(0, .agg [dL c206_dd a0])] ⟨kr, trivial⟩ rfl ?_
  refine ls_rs tbOk ?_
  refine evs (ev_bx (c1 := .agg [dL c206_dd a0]) rfl rfl rfl (evs (ev_al rfl rfl (evn ?_))))
  refine ls_keep [(1, .box [dL c206_dd a0]), (2, .box [oL 208 c208_oo []])] ⟨kr, kr, trivial⟩ rfl ?_
  refine ls_rs tbOk ?_
  refine evs (ev_al rfl rfl (evn ?_))
  refine ls_keep [(1, .box [dL c206_dd a0]), (2, .box [oL 208 c208_oo []]), (3, .box [oL 208 c208_oo []])] ⟨kr, kr, kr, trivial⟩ rfl ?_
  refine ls_rs tbOk ?_
  refine evs (ev_fa (c1 := .cref 1 0) (v := .cref 1 0) rfl rfl rfl ⟨_, rfl⟩ rfl (evs (ev_ldB (off := 0) (v := dL c206_dd a0) rfl rfl rfl rfl (nb rfl) rfl (?_))))
  obtain ⟨v1, g2, h⟩ := ob_some h
  refine evs (ev_call (era rfl (erD ec206_dd _) eran) (laws_toTableS_s g2) (evs (ev_fa (c1 := .cref 3 0) (v := .cref 3 0) rfl rfl rfl ⟨_, rfl⟩ rfl (evs (ev_st (off := 0) (c1 := oL 208 c208_oo v1) (cs' := [oL 208 c208_oo v1]) rfl rfl rfl rfl rfl rfl (nb rfl) rfl (evn ?_))))))
  refine ls_keep [(2, .box [oL 208 c208_oo []]), (3, .box [oL 208 c208_oo v1])] ⟨kr, kr, trivial⟩ rfl ?_
  refine ls_rs tbOk ?_
  refine evs (ev_ldBt (off := 0) (v := .agg [oL 208 c208_oo v1]) (c' := .box [dL c208_oo v1]) rfl rfl rfl rfl (nb rfl) rfl rfl (evs (ev_st (off := 0) (c1 := .agg [oL 208 c208_oo v1]) (cs' := [oL 208 c208_oo v1]) rfl rfl rfl rfl rfl rfl (nb rfl) rfl (evn ?_))))
  refine ls_keep [(2, .box [oL 208 c208_oo v1])] ⟨kr, trivial⟩ rfl ?_
  refine ls_ret ?_
  have hr := Option.some.inj h
  rw [← hr]
  exact ⟨.inl rfl, rfl⟩
def c195_o (x : Y194) : List V := [.str x.1, oL 3 ci64 x.2]
theorem zc195_o (x : Y194) : (c195_o x).length = 2 := rfl
theorem ec195_o (x : Y194) : erL (c195_o x) = c195_d x := (erc rfl (erc (erO eci64 _) rfl))
def laws_toAtom (a0 : Y194) : Option (Y194) := obind (laws_toIntS a0.2) fun v1 => some (a0.1, v1)
theorem laws_toAtom_s {a0 : Y194} {r : Y194} (h : laws_toAtom a0 = some r) : SoundAt Try.prog 207 [.agg (c231_d a0)] (.agg (c195_o r)) := by
  unfold laws_toAtom at h
  refine sound_lit tbOk lit207 (nb rfl) rfl ?_
  unfold c207
  refine ls_keep [(0, .agg (c231_d a0))] ⟨kr, trivial⟩ rfl ?_
  refine ls_rs tbOk ?_
  refine evs (ev_bx (c1 := .agg (c231_d a0)) rfl rfl rfl (evs (ev_al rfl rfl (evn ?_))))
  refine ls_keep [(1, .box [.str a0.1, dL ci64 a0.2]), (2, .box [.str [], oL 3 ci64 []])] ⟨kr, kr, trivial⟩ rfl ?_
  refine ls_rs tbOk ?_
  refine evs (ev_al rfl rfl (evn ?_))
  refine ls_keep [(1, .box [.str a0.1, dL ci64 a0.2]), (2, .box [.str [], oL 3 ci64 []]), (3, .box [.str [], oL 3 ci64 []])] ⟨kr, kr, kr, trivial⟩ rfl ?_
  refine ls_rs tbOk ?_
  refine evs (ev_fa (c1 := .cref 1 0) (v := .cref 1 0) rfl rfl rfl ⟨_, rfl⟩ rfl (evs (ev_ldB (off := 0) (v := .str a0.1) rfl rfl rfl rfl (nb rfl) rfl (evs (ev_fa (c1 := .cref 3 0) (v := .cref 3 0) rfl rfl rfl ⟨_, rfl⟩ rfl (evs (ev_st (off := 0) (c1 := .str a0.1) (cs' := [.str a0.1, oL 3 ci64 []]) rfl rfl rfl rfl rfl rfl (nb rfl) rfl (evn ?_))))))))
  refine ls_keep [(1, .box [.str a0.1, dL ci64 a0.2]), (2, .box [.str [], oL 3 ci64 []]), (3, .box [.str a0.1, oL 3 ci64 []])] ⟨kr, kr, kr, trivial⟩ rfl ?_
  refine ls_rs tbOk ?_
  refine evs (ev_fa (c1 := .cref 1 0) (v := .cref 1 1) rfl rfl rfl ⟨_, rfl⟩ rfl (evs (ev_ldB (off := 1) (v := dL ci64 a0.2) rfl rfl rfl rfl (nb rfl) rfl (?_))))
  obtain ⟨v1, g2, h⟩ := ob_some h
  refine evs (ev_call (era rfl (erD eci64 _) eran) (laws_toIntS_s g2) (evs (ev_fa (c1 := .cref 3 0) (v := .cref 3 1) rfl rfl rfl ⟨_, rfl⟩ rfl (evs (ev_st (off := 1) (c1 := oL 3 ci64 v1) (cs' := [.str a0.1, oL 3 ci64 v1]) rfl rfl rfl rfl rfl rfl (nb rfl) rfl (evn ?_))))))
  refine ls_keep [(2, .box [.str [], oL 3 ci64 []]), (3, .box [.str a0.1, oL 3 ci64 v1])] ⟨kr, kr, trivial⟩ rfl ?_
  refine ls_rs tbOk ?_
  refine evs (ev_ldBt (off := 0) (v := .agg [.str a0.1, oL 3 ci64 v1]) (c' := .box [.str a0.1, dL ci64 v1]) rfl rfl rfl rfl (nb rfl) rfl rfl (evs (ev_st (off := 0) (c1 := .agg [.str a0.1, oL 3 ci64 v1]) (cs' := [.str a0.1, oL 3 ci64 v1]) rfl rfl rfl rfl rfl rfl (nb rfl) rfl (evn ?_))))
  refine ls_keep [(2, .box [.str a0.1, oL 3 ci64 v1])] ⟨kr, trivial⟩ rfl ?_
  refine ls_ret ?_
  have hr := Option.some.inj h
  rw [← hr]
  exact ⟨.inl rfl, rfl⟩
def laws_toAtomS_B1 (a0 : List Y194) (rec : ((List Y194) × Int) → Option ((List Y194))) (s : (List Y194) × Int) : Option ((List Y194)) := match s with
  | (y1, y2) => cond (decide (y2 < (List.length a0 : Int))) (obind (geti a0 y2) fun e7 => obind (laws_toAtom e7) fun v9 => obind (geti y1 y2) fun e11 => rec ((seti y1 y2 v9), (IntKind.i64.wrap (y2 + 1)))) (some y1)
def laws_toAtomS (a0 : List Y194) : Option ((List Y194)) := chk ((0 : Int) ≤ (List.length a0 : Int) ∧ Int.toNat (List.length a0 : Int) ≤ lim) (obind (loopF (laws_toAtomS_B1 a0) fz ((List.replicate (Int.toNat (List.length a0 : Int)) (([], []) : Y194)), 0)) fun z3 => some z3)
theorem laws_toAtomS_s {a0 : List Y194} {r : (List Y194)} (h : laws_toAtomS a0 = some r) : SoundAt Try.prog 126 [dL c231_d a0] (oL 195 c195_o r) := by
  unfold laws_toAtomS at h
  refine sound_lit tbOk lit126 (nb rfl) rfl ?_
  unfold c126
  refine ls_keep [(0, dL c231_d a0)] ⟨kr, trivial⟩ rfl ?_
  refine ls_rs tbOk ?_
  refine evs (ev_an rfl rfl (evn ?_))
  refine ls_keep [(0, dL c231_d a0)] ⟨kr, trivial⟩ rfl ?_
  refine ls_rs tbOk ?_
  refine evs (ev_mv (c := dL c231_d a0) rfl rfl rfl (evs (ev_len (c1 := dL c231_d a0) rfl rfl rfl (?_))))
  obtain ⟨g1, h⟩ := chk_some h
  refine evs (ev_mku (f := c195_o) (z := (([], []) : Y194)) rfl rfl rfl rfl rfl rfl g1 rfl (evs (ev_asu rfl rfl rfl (evn ?_))))
  refine ls_keep [(0, dL c231_d a0), (3, wL 195 c195_o (List.replicate (Int.toNat (List.length a0 : Int)) (([], []) : Y194)))] ⟨kr, kr, trivial⟩ rfl ?_
  refine ls_seq_k fun K2 hK2 => ?_
  refine ls_rs tbOk ?_
  refine evs (ev_ac rfl nofun rfl (evn ?_))
  refine ls_keep [(0, dL c231_d a0), (3, wL 195 c195_o (List.replicate (Int.toNat (List.length a0 : Int)) (([], []) : Y194))), (4, nI 0)] ⟨kr, kr, kr, trivial⟩ rfl ?_
  obtain ⟨o1, hl, hr1⟩ := ob_some h
  clear h
  have kXlaws_toAtomS_B1 : ∀ (z3 : List Y194), (some z3) = some r → ∀ σ' : PS, okK σ' [(3, wL 195 c195_o z3)] → K2 σ' := by
    intro z3 h σ' hk
    refine hK2 _ (ls_keep [(3, wL 195 c195_o z3)] hk rfl ?_)
    refine ls_rs tbOk ?_
    refine evs (ev_mvtu rfl rfl (evs (ev_as (c := oL 195 c195_o z3) rfl rfl rfl (evn ?_))))
    refine ls_keep [(2, oL 195 c195_o z3)] ⟨kr, trivial⟩ rfl ?_
    refine ls_ret ?_
    have hr := Option.some.inj h
    rw [← hr]
    exact ⟨.inl rfl, rfl⟩
  refine ls_rec (fun (s : (List Y194) × Int) => match s with | (y1, y2) => [(0, dL c231_d a0), (3, wL 195 c195_o y1), (4, nI y2)]) (laws_toAtomS_B1 a0) fz ((List.replicate (Int.toNat (List.length a0 : Int)) (([], []) : Y194)), 0) o1 hl ⟨kr, kr, kr, trivial⟩ (fun _ => rfl) ?_
  rintro m ⟨y1, y2⟩ N h hN
  unfold laws_toAtomS_B1 at h
  dsimp only at h
  refine ls_seq_k fun K4 hK4 => ?_
  refine ls_rs tbOk ?_
  refine evs (ev_mv (c := nI y2) rfl rfl rfl (evs (ev_mv (c := dL c231_d a0) rfl rfl rfl (evs (ev_len (c1 := dL c231_d a0) rfl rfl rfl (evs (ev_bin (c1 := nI y2) (c2 := nI (List.length a0 : Int)) rfl rfl rfl (evn ?_))))))))
  refine ls_keep [(0, dL c231_d a0), (3, wL 195 c195_o y1), (4, nI y2), (11, .bool (decide (y2 < (List.length a0 : Int))))] ⟨kr, kr, kr, kr, trivial⟩ rfl ?_
  rcases cond_some h with ⟨g5, h⟩ | ⟨g5, h⟩
  · refine ls_cT rfl g5 ?_
    refine ls_skip ?_
    refine hK4 _ (ls_keep [(0, dL c231_d a0), (3, wL 195 c195_o y1), (4, nI y2)] ⟨kr, kr, kr, trivial⟩ rfl ?_)
    refine ls_seq_k fun K6 hK6 => ?_
    refine ls_blk ?_
    refine ls_rgn tbOk ?_
    refine evs (ev_mvu rfl rfl (evs (ev_mv (c := nI y2) rfl rfl rfl (evs (ev_mv (c := dL c231_d a0) rfl rfl rfl (evs (ev_mv (c := nI y2) rfl rfl rfl (?_))))))))
    obtain ⟨e7, g8, h⟩ := ob_some h
    refine evs (ev_ia rfl rfl rfl ⟨(geti_some g8).1, (geti_some g8).2.1⟩ (evs (ev_ldE (i := y2) (n := 2) (off := 0) (v := .agg (c231_d e7)) rfl rfl zc231_d g8 rfl (nb rfl) rfl (?_))))
    obtain ⟨v9, g10, h⟩ := ob_some h
    refine evs (ev_call (era rfl (erg (erc rfl (erc (erD eci64 _) rfl))) eran) (laws_toAtom_s g10) (?_))
    obtain ⟨e11, g12, h⟩ := ob_some h
    refine evs (ev_iau rfl rfl rfl rfl ⟨(geti_some g12).1, (geti_some g12).2.1⟩ (evs (ev_stu (e := v9) (c1 := .agg (c195_o v9)) rfl rfl zc195_o ⟨(geti_some g12).1, (geti_some g12).2.1⟩ rfl rfl rfl rfl rfl (evn ?_))))
    refine hK6 _ (ls_keep [(0, dL c231_d a0), (3, wL 195 c195_o (seti y1 y2 v9)), (4, nI y2)] ⟨kr, kr, kr, trivial⟩ rfl ?_)
    refine ls_rgn tbOk ?_
    refine evs (ev_mv (c := nI y2) rfl rfl rfl (evs (ev_bin (c1 := nI y2) (c2 := nI 1) rfl rfl rfl (evs (ev_as (c := nI (IntKind.i64.wrap (y2 + 1))) rfl rfl rfl (evn ?_))))))
    exact hN _ ((seti y1 y2 v9), (IntKind.i64.wrap (y2 + 1))) h ⟨kr, kr, kr, trivial⟩
  · refine ls_cF rfl g5 ?_
    refine ls_exit ?_
    have q0 := (Option.some.inj h).symm
    have r0 := hr1
    rw [q0] at r0
    exact kXlaws_toAtomS_B1 y1 r0 _ ⟨kr, trivial⟩
def c92_ooo (x : Y91) : List V := [nI x.1, oL 195 c195_o x.2.1, oL 3 ci64 x.2.2]
theorem zc92_ooo (x : Y91) : (c92_ooo x).length = 3 := rfl
theorem ec92_ooo (x : Y91) : erL (c92_ooo x) = c92_ddd x := (erc rfl (erc (erO ec195_o _) (erc (erO eci64 _) rfl)))
def laws_toQuery (a0 : Y78) : Option (Y91) := obind (laws_toAtomS a0.2.1) fun v1 => obind (laws_toIntS a0.2.2) fun v3 => some (a0.1, v1, v3)
theorem laws_toQuery_s {a0 : Y78} {r : Y91} (h : laws_toQuery a0 = some r) : SoundAt Try.prog 46 [.agg (c79_ddd a0)] (.agg (c92_ooo r)) := by
  unfold laws_toQuery at h
  refine sound_lit tbOk lit46 (nb rfl) rfl ?_
  unfold c46
  refine ls_keep [(0, .agg (c79_ddd a0))] ⟨kr, trivial⟩ rfl ?_
  refine ls_rs tbOk ?_
  refine evs (ev_bx (c1 := .agg (c79_ddd a0)) rfl rfl rfl (evs (ev_al rfl rfl (evn ?_))))
  refine ls_keep [(1, .box [nI a0.1, dL c231_d a0.2.1, dL ci64 a0.2.2]), (2, .box [nI 0, oL 195 c195_o [], oL 3 ci64 []])] ⟨kr, kr, trivial⟩ rfl ?_
  refine ls_rs tbOk ?_
  refine evs (ev_al rfl rfl (evn ?_))
  refine ls_keep [(1, .box [nI a0.1, dL c231_d a0.2.1, dL ci64 a0.2.2]), (2, .box [nI 0, oL 195 c195_o [], oL 3 ci64 []]), (3, .box [nI 0, oL 195 c195_o [], oL 3 ci64 []])] ⟨kr, kr, kr, trivial⟩ rfl ?_
  refine ls_rs tbOk ?_
  refine evs (ev_fa (c1 := .cref 1 0) (v := .cref 1 0) rfl rfl rfl ⟨_, rfl⟩ rfl (evs (ev_ldB (off := 0) (v := nI a0.1) rfl rfl rfl rfl (nb rfl) rfl (evs (ev_fa (c1 := .cref 3 0) (v := .cref 3 0) rfl rfl rfl ⟨_, rfl⟩ rfl (evs (ev_st (off := 0) (c1 := nI a0.1) (cs' := [nI a0.1, oL 195 c195_o [], oL 3 ci64 []]) rfl rfl rfl rfl rfl rfl (nb rfl) rfl (evn ?_))))))))
  refine ls_keep [(1, .box [nI a0.1, dL c231_d a0.2.1, dL ci64 a0.2.2]), (2, .box [nI 0, oL 195 c195_o [], oL 3 ci64 []]), (3, .box [nI a0.1, oL 195 c195_o [], oL 3 ci64 []])] ⟨kr, kr, kr, trivial⟩ rfl ?_
  refine ls_rs tbOk ?_
  refine evs (ev_fa (c1 := .cref 1 0) (v := .cref 1 1) rfl rfl rfl ⟨_, rfl⟩ rfl (evs (ev_ldB (off := 1) (v := dL c231_d a0.2.1) rfl rfl rfl rfl (nb rfl) rfl (?_))))
  obtain ⟨v1, g2, h⟩ := ob_some h
  refine evs (ev_call (era rfl (erD ec231_d _) eran) (laws_toAtomS_s g2) (evs (ev_fa (c1 := .cref 3 0) (v := .cref 3 1) rfl rfl rfl ⟨_, rfl⟩ rfl (evs (ev_st (off := 1) (c1 := oL 195 c195_o v1) (cs' := [nI a0.1, oL 195 c195_o v1, oL 3 ci64 []]) rfl rfl rfl rfl rfl rfl (nb rfl) rfl (evn ?_))))))
  refine ls_keep [(1, .box [nI a0.1, dL c231_d a0.2.1, dL ci64 a0.2.2]), (2, .box [nI 0, oL 195 c195_o [], oL 3 ci64 []]), (3, .box [nI a0.1, oL 195 c195_o v1, oL 3 ci64 []])] ⟨kr, kr, kr, trivial⟩ rfl ?_
  refine ls_rs tbOk ?_
  refine evs (ev_fa (c1 := .cref 1 0) (v := .cref 1 2) rfl rfl rfl ⟨_, rfl⟩ rfl (evs (ev_ldB (off := 2) (v := dL ci64 a0.2.2) rfl rfl rfl rfl (nb rfl) rfl (?_))))
  obtain ⟨v3, g4, h⟩ := ob_some h
  refine evs (ev_call (era rfl (erD eci64 _) eran) (laws_toIntS_s g4) (evs (ev_fa (c1 := .cref 3 0) (v := .cref 3 2) rfl rfl rfl ⟨_, rfl⟩ rfl (evs (ev_st (off := 2) (c1 := oL 3 ci64 v3) (cs' := [nI a0.1, oL 195 c195_o v1, oL 3 ci64 v3]) rfl rfl rfl rfl rfl rfl (nb rfl) rfl (evn ?_))))))
  refine ls_keep [(2, .box [nI 0, oL 195 c195_o [], oL 3 ci64 []]), (3, .box [nI a0.1, oL 195 c195_o v1, oL 3 ci64 v3])] ⟨kr, kr, trivial⟩ rfl ?_
  refine ls_rs tbOk ?_
  refine evs (ev_ldBt (off := 0) (v := .agg [nI a0.1, oL 195 c195_o v1, oL 3 ci64 v3]) (c' := .box [nI a0.1, dL c195_o v1, dL ci64 v3]) rfl rfl rfl rfl (nb rfl) rfl rfl (evs (ev_st (off := 0) (c1 := .agg [nI a0.1, oL 195 c195_o v1, oL 3 ci64 v3]) (cs' := [nI a0.1, oL 195 c195_o v1, oL 3 ci64 v3]) rfl rfl rfl rfl rfl rfl (nb rfl) rfl (evn ?_))))
  refine ls_keep [(2, .box [nI a0.1, oL 195 c195_o v1, oL 3 ci64 v3])] ⟨kr, trivial⟩ rfl ?_
  refine ls_ret ?_
  have hr := Option.some.inj h
  rw [← hr]
  exact ⟨.inl rfl, rfl⟩
def c159_ooo (x : Y158) : List V := [nI x.1, oL 25 c25_o x.2.1, oL 3 ci64 x.2.2]
theorem zc159_ooo (x : Y158) : (c159_ooo x).length = 3 := rfl
theorem ec159_ooo (x : Y158) : erL (c159_ooo x) = c159_ddd x := (erc rfl (erc (erO ec25_o _) (erc (erO eci64 _) rfl)))
def laws_toCountedRelation (a0 : Y158) : Option (Y158) := obind (laws_toIntSS a0.2.1) fun v1 => obind (laws_toIntS a0.2.2) fun v3 => some (a0.1, v1, v3)
theorem laws_toCountedRelation_s {a0 : Y158} {r : Y158} (h : laws_toCountedRelation a0 = some r) : SoundAt Try.prog 193 [.agg (c221_ddd a0)] (.agg (c159_ooo r)) := by
  unfold laws_toCountedRelation at h
  refine sound_lit tbOk lit193 (nb rfl) rfl ?_
  unfold c193
  refine ls_keep [(0, .agg (c221_ddd a0))] ⟨kr, trivial⟩ rfl ?_
  refine ls_rs tbOk ?_
  refine evs (ev_bx (c1 := .agg (c221_ddd a0)) rfl rfl rfl (evs (ev_al rfl rfl (evn ?_))))
  refine ls_keep [(1, .box [nI a0.1, dL c25_d a0.2.1, dL ci64 a0.2.2]), (2, .box [nI 0, oL 25 c25_o [], oL 3 ci64 []])] ⟨kr, kr, trivial⟩ rfl ?_
  refine ls_rs tbOk ?_
  refine evs (ev_al rfl rfl (evn ?_))
  refine ls_keep [(1, .box [nI a0.1, dL c25_d a0.2.1, dL ci64 a0.2.2]), (2, .box [nI 0, oL 25 c25_o [], oL 3 ci64 []]), (3, .box [nI 0, oL 25 c25_o [], oL 3 ci64 []])] ⟨kr, kr, kr, trivial⟩ rfl ?_
  refine ls_rs tbOk ?_
  refine evs (ev_fa (c1 := .cref 1 0) (v := .cref 1 0) rfl rfl rfl ⟨_, rfl⟩ rfl (evs (ev_ldB (off := 0) (v := nI a0.1) rfl rfl rfl rfl (nb rfl) rfl (evs (ev_fa (c1 := .cref 3 0) (v := .cref 3 0) rfl rfl rfl ⟨_, rfl⟩ rfl (evs (ev_st (off := 0) (c1 := nI a0.1) (cs' := [nI a0.1, oL 25 c25_o [], oL 3 ci64 []]) rfl rfl rfl rfl rfl rfl (nb rfl) rfl (evn ?_))))))))
  refine ls_keep [(1, .box [nI a0.1, dL c25_d a0.2.1, dL ci64 a0.2.2]), (2, .box [nI 0, oL 25 c25_o [], oL 3 ci64 []]), (3, .box [nI a0.1, oL 25 c25_o [], oL 3 ci64 []])] ⟨kr, kr, kr, trivial⟩ rfl ?_
  refine ls_rs tbOk ?_
  refine evs (ev_fa (c1 := .cref 1 0) (v := .cref 1 1) rfl rfl rfl ⟨_, rfl⟩ rfl (evs (ev_ldB (off := 1) (v := dL c25_d a0.2.1) rfl rfl rfl rfl (nb rfl) rfl (?_))))
  obtain ⟨v1, g2, h⟩ := ob_some h
  refine evs (ev_call (era rfl (erD ec25_d _) eran) (laws_toIntSS_s g2) (evs (ev_fa (c1 := .cref 3 0) (v := .cref 3 1) rfl rfl rfl ⟨_, rfl⟩ rfl (evs (ev_st (off := 1) (c1 := oL 25 c25_o v1) (cs' := [nI a0.1, oL 25 c25_o v1, oL 3 ci64 []]) rfl rfl rfl rfl rfl rfl (nb rfl) rfl (evn ?_))))))
  refine ls_keep [(1, .box [nI a0.1, dL c25_d a0.2.1, dL ci64 a0.2.2]), (2, .box [nI 0, oL 25 c25_o [], oL 3 ci64 []]), (3, .box [nI a0.1, oL 25 c25_o v1, oL 3 ci64 []])] ⟨kr, kr, kr, trivial⟩ rfl ?_
  refine ls_rs tbOk ?_
  refine evs (ev_fa (c1 := .cref 1 0) (v := .cref 1 2) rfl rfl rfl ⟨_, rfl⟩ rfl (evs (ev_ldB (off := 2) (v := dL ci64 a0.2.2) rfl rfl rfl rfl (nb rfl) rfl (?_))))
  obtain ⟨v3, g4, h⟩ := ob_some h
  refine evs (ev_call (era rfl (erD eci64 _) eran) (laws_toIntS_s g4) (evs (ev_fa (c1 := .cref 3 0) (v := .cref 3 2) rfl rfl rfl ⟨_, rfl⟩ rfl (evs (ev_st (off := 2) (c1 := oL 3 ci64 v3) (cs' := [nI a0.1, oL 25 c25_o v1, oL 3 ci64 v3]) rfl rfl rfl rfl rfl rfl (nb rfl) rfl (evn ?_))))))
  refine ls_keep [(2, .box [nI 0, oL 25 c25_o [], oL 3 ci64 []]), (3, .box [nI a0.1, oL 25 c25_o v1, oL 3 ci64 v3])] ⟨kr, kr, trivial⟩ rfl ?_
  refine ls_rs tbOk ?_
  refine evs (ev_ldBt (off := 0) (v := .agg [nI a0.1, oL 25 c25_o v1, oL 3 ci64 v3]) (c' := .box [nI a0.1, dL c25_o v1, dL ci64 v3]) rfl rfl rfl rfl (nb rfl) rfl rfl (evs (ev_st (off := 0) (c1 := .agg [nI a0.1, oL 25 c25_o v1, oL 3 ci64 v3]) (cs' := [nI a0.1, oL 25 c25_o v1, oL 3 ci64 v3]) rfl rfl rfl rfl rfl rfl (nb rfl) rfl (evn ?_))))
  refine ls_keep [(2, .box [nI a0.1, oL 25 c25_o v1, oL 3 ci64 v3])] ⟨kr, trivial⟩ rfl ?_
  refine ls_ret ?_
  have hr := Option.some.inj h
  rw [← hr]
  exact ⟨.inl rfl, rfl⟩
def c161_oooooo (x : Y160) : List V := [nI x.1.1, oL 195 c195_o x.1.2.1, oL 3 ci64 x.1.2.2, nI x.2.1, oL 25 c25_o x.2.2.1, oL 3 ci64 x.2.2.2]
theorem zc161_oooooo (x : Y160) : (c161_oooooo x).length = 6 := rfl
theorem ec161_oooooo (x : Y160) : erL (c161_oooooo x) = c161_dddddd x := (erc rfl (erc (erO ec195_o _) (erc (erO eci64 _) (erc rfl (erc (erO ec25_o _) (erc (erO eci64 _) rfl))))))
def laws_toView (a0 : Y222) : Option (Y160) := obind (laws_toQuery a0.1) fun v1 => obind (laws_toCountedRelation a0.2) fun v3 => some (v1, v3)
theorem laws_toView_s {a0 : Y222} {r : Y160} (h : laws_toView a0 = some r) : SoundAt Try.prog 192 [.agg (c223_dddddd a0)] (.agg (c161_oooooo r)) := by
  unfold laws_toView at h
  refine sound_lit tbOk lit192 (nb rfl) rfl ?_
  unfold c192
  refine ls_keep [(0, .agg (c223_dddddd a0))] ⟨kr, trivial⟩ rfl ?_
  refine ls_rs tbOk ?_
  refine evs (ev_bx (c1 := .agg (c223_dddddd a0)) rfl rfl rfl (evs (ev_al rfl rfl (evn ?_))))
  refine ls_keep [(1, .box [nI a0.1.1, dL c231_d a0.1.2.1, dL ci64 a0.1.2.2, nI a0.2.1, dL c25_d a0.2.2.1, dL ci64 a0.2.2.2]), (2, .box [nI 0, oL 195 c195_o [], oL 3 ci64 [], nI 0, oL 25 c25_o [], oL 3 ci64 []])] ⟨kr, kr, trivial⟩ rfl ?_
  refine ls_rs tbOk ?_
  refine evs (ev_al rfl rfl (evn ?_))
  refine ls_keep [(1, .box [nI a0.1.1, dL c231_d a0.1.2.1, dL ci64 a0.1.2.2, nI a0.2.1, dL c25_d a0.2.2.1, dL ci64 a0.2.2.2]), (2, .box [nI 0, oL 195 c195_o [], oL 3 ci64 [], nI 0, oL 25 c25_o [], oL 3 ci64 []]), (3, .box [nI 0, oL 195 c195_o [], oL 3 ci64 [], nI 0, oL 25 c25_o [], oL 3 ci64 []])] ⟨kr, kr, kr, trivial⟩ rfl ?_
  refine ls_rs tbOk ?_
  refine evs (ev_fa (c1 := .cref 1 0) (v := .cref 1 0) rfl rfl rfl ⟨_, rfl⟩ rfl (evs (ev_ldB (off := 0) (v := .agg (c79_ddd a0.1)) rfl rfl rfl rfl (nb rfl) rfl (?_))))
  obtain ⟨v1, g2, h⟩ := ob_some h
  refine evs (ev_call (era rfl (erg (erc rfl (erc (erD ec231_d _) (erc (erD eci64 _) rfl)))) eran) (laws_toQuery_s g2) (evs (ev_fa (c1 := .cref 3 0) (v := .cref 3 0) rfl rfl rfl ⟨_, rfl⟩ rfl (evs (ev_st (off := 0) (c1 := .agg (c92_ooo v1)) (cs' := [nI v1.1, oL 195 c195_o v1.2.1, oL 3 ci64 v1.2.2, nI 0, oL 25 c25_o [], oL 3 ci64 []]) rfl rfl rfl rfl rfl rfl (nb rfl) rfl (evn ?_))))))
  refine ls_keep [(1, .box [nI a0.1.1, dL c231_d a0.1.2.1, dL ci64 a0.1.2.2, nI a0.2.1, dL c25_d a0.2.2.1, dL ci64 a0.2.2.2]), (2, .box [nI 0, oL 195 c195_o [], oL 3 ci64 [], nI 0, oL 25 c25_o [], oL 3 ci64 []]), (3, .box [nI v1.1, oL 195 c195_o v1.2.1, oL 3 ci64 v1.2.2, nI 0, oL 25 c25_o [], oL 3 ci64 []])] ⟨kr, kr, kr, trivial⟩ rfl ?_
  refine ls_rs tbOk ?_
  refine evs (ev_fa (c1 := .cref 1 0) (v := .cref 1 3) rfl rfl rfl ⟨_, rfl⟩ rfl (evs (ev_ldB (off := 3) (v := .agg (c221_ddd a0.2)) rfl rfl rfl rfl (nb rfl) rfl (?_))))
  obtain ⟨v3, g4, h⟩ := ob_some h
  refine evs (ev_call (era rfl (erg (erc rfl (erc (erD ec25_d _) (erc (erD eci64 _) rfl)))) eran) (laws_toCountedRelation_s g4) (evs (ev_fa (c1 := .cref 3 0) (v := .cref 3 3) rfl rfl rfl ⟨_, rfl⟩ rfl (evs (ev_st (off := 3) (c1 := .agg (c159_ooo v3)) (cs' := [nI v1.1, oL 195 c195_o v1.2.1, oL 3 ci64 v1.2.2, nI v3.1, oL 25 c25_o v3.2.1, oL 3 ci64 v3.2.2]) rfl rfl rfl rfl rfl rfl (nb rfl) rfl (evn ?_))))))
  refine ls_keep [(2, .box [nI 0, oL 195 c195_o [], oL 3 ci64 [], nI 0, oL 25 c25_o [], oL 3 ci64 []]), (3, .box [nI v1.1, oL 195 c195_o v1.2.1, oL 3 ci64 v1.2.2, nI v3.1, oL 25 c25_o v3.2.1, oL 3 ci64 v3.2.2])] ⟨kr, kr, trivial⟩ rfl ?_
  refine ls_rs tbOk ?_
  refine evs (ev_ldBt (off := 0) (v := .agg [nI v1.1, oL 195 c195_o v1.2.1, oL 3 ci64 v1.2.2, nI v3.1, oL 25 c25_o v3.2.1, oL 3 ci64 v3.2.2]) (c' := .box [nI v1.1, dL c195_o v1.2.1, dL ci64 v1.2.2, nI v3.1, dL c25_o v3.2.1, dL ci64 v3.2.2]) rfl rfl rfl rfl (nb rfl) rfl rfl (evs (ev_st (off := 0) (c1 := .agg [nI v1.1, oL 195 c195_o v1.2.1, oL 3 ci64 v1.2.2, nI v3.1, oL 25 c25_o v3.2.1, oL 3 ci64 v3.2.2]) (cs' := [nI v1.1, oL 195 c195_o v1.2.1, oL 3 ci64 v1.2.2, nI v3.1, oL 25 c25_o v3.2.1, oL 3 ci64 v3.2.2]) rfl rfl rfl rfl rfl rfl (nb rfl) rfl (evn ?_))))
  refine ls_keep [(2, .box [nI v1.1, oL 195 c195_o v1.2.1, oL 3 ci64 v1.2.2, nI v3.1, oL 25 c25_o v3.2.1, oL 3 ci64 v3.2.2])] ⟨kr, trivial⟩ rfl ?_
  refine ls_ret ?_
  have hr := Option.some.inj h
  rw [← hr]
  exact ⟨.inl rfl, rfl⟩
def laws_toViewS_B1 (a0 : List Y222) (rec : ((List Y160) × Int) → Option ((List Y160))) (s : (List Y160) × Int) : Option ((List Y160)) := match s with
  | (y1, y2) => cond (decide (y2 < (List.length a0 : Int))) (obind (geti a0 y2) fun e7 => obind (laws_toView e7) fun v9 => obind (geti y1 y2) fun e11 => rec ((seti y1 y2 v9), (IntKind.i64.wrap (y2 + 1)))) (some y1)
def laws_toViewS (a0 : List Y222) : Option ((List Y160)) := chk ((0 : Int) ≤ (List.length a0 : Int) ∧ Int.toNat (List.length a0 : Int) ≤ lim) (obind (loopF (laws_toViewS_B1 a0) fz ((List.replicate (Int.toNat (List.length a0 : Int)) (((0, [], []), (0, [], [])) : Y160)), 0)) fun z3 => some z3)
theorem laws_toViewS_s {a0 : List Y222} {r : (List Y160)} (h : laws_toViewS a0 = some r) : SoundAt Try.prog 113 [dL c223_dddddd a0] (oL 161 c161_oooooo r) := by
  unfold laws_toViewS at h
  refine sound_lit tbOk lit113 (nb rfl) rfl ?_
  unfold c113
  refine ls_keep [(0, dL c223_dddddd a0)] ⟨kr, trivial⟩ rfl ?_
  refine ls_rs tbOk ?_
  refine evs (ev_an rfl rfl (evn ?_))
  refine ls_keep [(0, dL c223_dddddd a0)] ⟨kr, trivial⟩ rfl ?_
  refine ls_rs tbOk ?_
  refine evs (ev_mv (c := dL c223_dddddd a0) rfl rfl rfl (evs (ev_len (c1 := dL c223_dddddd a0) rfl rfl rfl (?_))))
  obtain ⟨g1, h⟩ := chk_some h
  refine evs (ev_mku (f := c161_oooooo) (z := (((0, [], []), (0, [], [])) : Y160)) rfl rfl rfl rfl rfl rfl g1 rfl (evs (ev_asu rfl rfl rfl (evn ?_))))
  refine ls_keep [(0, dL c223_dddddd a0), (3, wL 161 c161_oooooo (List.replicate (Int.toNat (List.length a0 : Int)) (((0, [], []), (0, [], [])) : Y160)))] ⟨kr, kr, trivial⟩ rfl ?_
  refine ls_seq_k fun K2 hK2 => ?_
  refine ls_rs tbOk ?_
  refine evs (ev_ac rfl nofun rfl (evn ?_))
  refine ls_keep [(0, dL c223_dddddd a0), (3, wL 161 c161_oooooo (List.replicate (Int.toNat (List.length a0 : Int)) (((0, [], []), (0, [], [])) : Y160))), (4, nI 0)] ⟨kr, kr, kr, trivial⟩ rfl ?_
  obtain ⟨o1, hl, hr1⟩ := ob_some h
  clear h
  have kXlaws_toViewS_B1 : ∀ (z3 : List Y160), (some z3) = some r → ∀ σ' : PS, okK σ' [(3, wL 161 c161_oooooo z3)] → K2 σ' := by
    intro z3 h σ' hk
    refine hK2 _ (ls_keep [(3, wL 161 c161_oooooo z3)] hk rfl ?_)
    refine ls_rs tbOk ?_
    refine evs (ev_mvtu rfl rfl (evs (ev_as (c := oL 161 c161_oooooo z3) rfl rfl rfl (evn ?_))))
    refine ls_keep [(2, oL 161 c161_oooooo z3)] ⟨kr, trivial⟩ rfl ?_
    refine ls_ret ?_
    have hr := Option.some.inj h
    rw [← hr]
    exact ⟨.inl rfl, rfl⟩
  refine ls_rec (fun (s : (List Y160) × Int) => match s with | (y1, y2) => [(0, dL c223_dddddd a0), (3, wL 161 c161_oooooo y1), (4, nI y2)]) (laws_toViewS_B1 a0) fz ((List.replicate (Int.toNat (List.length a0 : Int)) (((0, [], []), (0, [], [])) : Y160)), 0) o1 hl ⟨kr, kr, kr, trivial⟩ (fun _ => rfl) ?_
  rintro m ⟨y1, y2⟩ N h hN
  unfold laws_toViewS_B1 at h
  dsimp only at h
  refine ls_seq_k fun K4 hK4 => ?_
  refine ls_rs tbOk ?_
  refine evs (ev_mv (c := nI y2) rfl rfl rfl (evs (ev_mv (c := dL c223_dddddd a0) rfl rfl rfl (evs (ev_len (c1 := dL c223_dddddd a0) rfl rfl rfl (evs (ev_bin (c1 := nI y2) (c2 := nI (List.length a0 : Int)) rfl rfl rfl (evn ?_))))))))
  refine ls_keep [(0, dL c223_dddddd a0), (3, wL 161 c161_oooooo y1), (4, nI y2), (11, .bool (decide (y2 < (List.length a0 : Int))))] ⟨kr, kr, kr, kr, trivial⟩ rfl ?_
  rcases cond_some h with ⟨g5, h⟩ | ⟨g5, h⟩
  · refine ls_cT rfl g5 ?_
    refine ls_skip ?_
    refine hK4 _ (ls_keep [(0, dL c223_dddddd a0), (3, wL 161 c161_oooooo y1), (4, nI y2)] ⟨kr, kr, kr, trivial⟩ rfl ?_)
    refine ls_seq_k fun K6 hK6 => ?_
    refine ls_blk ?_
    refine ls_rgn tbOk ?_
    refine evs (ev_mvu rfl rfl (evs (ev_mv (c := nI y2) rfl rfl rfl (evs (ev_mv (c := dL c223_dddddd a0) rfl rfl rfl (evs (ev_mv (c := nI y2) rfl rfl rfl (?_))))))))
    obtain ⟨e7, g8, h⟩ := ob_some h
    refine evs (ev_ia rfl rfl rfl ⟨(geti_some g8).1, (geti_some g8).2.1⟩ (evs (ev_ldE (i := y2) (n := 6) (off := 0) (v := .agg (c223_dddddd e7)) rfl rfl zc223_dddddd g8 rfl (nb rfl) rfl (?_))))
    obtain ⟨v9, g10, h⟩ := ob_some h
    refine evs (ev_call (era rfl (erg (erc rfl (erc (erD ec231_d _) (erc (erD eci64 _) (erc rfl (erc (erD ec25_d _) (erc (erD eci64 _) rfl))))))) eran) (laws_toView_s g10) (?_))
    obtain ⟨e11, g12, h⟩ := ob_some h
    refine evs (ev_iau rfl rfl rfl rfl ⟨(geti_some g12).1, (geti_some g12).2.1⟩ (evs (ev_stu (e := v9) (c1 := .agg (c161_oooooo v9)) rfl rfl zc161_oooooo ⟨(geti_some g12).1, (geti_some g12).2.1⟩ rfl rfl rfl rfl rfl (evn ?_))))
    refine hK6 _ (ls_keep [(0, dL c223_dddddd a0), (3, wL 161 c161_oooooo (seti y1 y2 v9)), (4, nI y2)] ⟨kr, kr, kr, trivial⟩ rfl ?_)
    refine ls_rgn tbOk ?_
    refine evs (ev_mv (c := nI y2) rfl rfl rfl (evs (ev_bin (c1 := nI y2) (c2 := nI 1) rfl rfl rfl (evs (ev_as (c := nI (IntKind.i64.wrap (y2 + 1))) rfl rfl rfl (evn ?_))))))
    exact hN _ ((seti y1 y2 v9), (IntKind.i64.wrap (y2 + 1))) h ⟨kr, kr, kr, trivial⟩
  · refine ls_cF rfl g5 ?_
    refine ls_exit ?_
    have q0 := (Option.some.inj h).symm
    have r0 := hr1
    rw [q0] at r0
    exact kXlaws_toViewS_B1 y1 r0 _ ⟨kr, trivial⟩
def laws_toCountedRelationS_B1 (a0 : List Y158) (rec : ((List Y158) × Int) → Option ((List Y158))) (s : (List Y158) × Int) : Option ((List Y158)) := match s with
  | (y1, y2) => cond (decide (y2 < (List.length a0 : Int))) (obind (geti a0 y2) fun e7 => obind (laws_toCountedRelation e7) fun v9 => obind (geti y1 y2) fun e11 => rec ((seti y1 y2 v9), (IntKind.i64.wrap (y2 + 1)))) (some y1)
def laws_toCountedRelationS (a0 : List Y158) : Option ((List Y158)) := chk ((0 : Int) ≤ (List.length a0 : Int) ∧ Int.toNat (List.length a0 : Int) ≤ lim) (obind (loopF (laws_toCountedRelationS_B1 a0) fz ((List.replicate (Int.toNat (List.length a0 : Int)) ((0, [], []) : Y158)), 0)) fun z3 => some z3)
theorem laws_toCountedRelationS_s {a0 : List Y158} {r : (List Y158)} (h : laws_toCountedRelationS a0 = some r) : SoundAt Try.prog 114 [dL c221_ddd a0] (oL 159 c159_ooo r) := by
  unfold laws_toCountedRelationS at h
  refine sound_lit tbOk lit114 (nb rfl) rfl ?_
  unfold c114
  refine ls_keep [(0, dL c221_ddd a0)] ⟨kr, trivial⟩ rfl ?_
  refine ls_rs tbOk ?_
  refine evs (ev_an rfl rfl (evn ?_))
  refine ls_keep [(0, dL c221_ddd a0)] ⟨kr, trivial⟩ rfl ?_
  refine ls_rs tbOk ?_
  refine evs (ev_mv (c := dL c221_ddd a0) rfl rfl rfl (evs (ev_len (c1 := dL c221_ddd a0) rfl rfl rfl (?_))))
  obtain ⟨g1, h⟩ := chk_some h
  refine evs (ev_mku (f := c159_ooo) (z := ((0, [], []) : Y158)) rfl rfl rfl rfl rfl rfl g1 rfl (evs (ev_asu rfl rfl rfl (evn ?_))))
  refine ls_keep [(0, dL c221_ddd a0), (3, wL 159 c159_ooo (List.replicate (Int.toNat (List.length a0 : Int)) ((0, [], []) : Y158)))] ⟨kr, kr, trivial⟩ rfl ?_
  refine ls_seq_k fun K2 hK2 => ?_
  refine ls_rs tbOk ?_
  refine evs (ev_ac rfl nofun rfl (evn ?_))
  refine ls_keep [(0, dL c221_ddd a0), (3, wL 159 c159_ooo (List.replicate (Int.toNat (List.length a0 : Int)) ((0, [], []) : Y158))), (4, nI 0)] ⟨kr, kr, kr, trivial⟩ rfl ?_
  obtain ⟨o1, hl, hr1⟩ := ob_some h
  clear h
  have kXlaws_toCountedRelationS_B1 : ∀ (z3 : List Y158), (some z3) = some r → ∀ σ' : PS, okK σ' [(3, wL 159 c159_ooo z3)] → K2 σ' := by
    intro z3 h σ' hk
    refine hK2 _ (ls_keep [(3, wL 159 c159_ooo z3)] hk rfl ?_)
    refine ls_rs tbOk ?_
    refine evs (ev_mvtu rfl rfl (evs (ev_as (c := oL 159 c159_ooo z3) rfl rfl rfl (evn ?_))))
    refine ls_keep [(2, oL 159 c159_ooo z3)] ⟨kr, trivial⟩ rfl ?_
    refine ls_ret ?_
    have hr := Option.some.inj h
    rw [← hr]
    exact ⟨.inl rfl, rfl⟩
  refine ls_rec (fun (s : (List Y158) × Int) => match s with | (y1, y2) => [(0, dL c221_ddd a0), (3, wL 159 c159_ooo y1), (4, nI y2)]) (laws_toCountedRelationS_B1 a0) fz ((List.replicate (Int.toNat (List.length a0 : Int)) ((0, [], []) : Y158)), 0) o1 hl ⟨kr, kr, kr, trivial⟩ (fun _ => rfl) ?_
  rintro m ⟨y1, y2⟩ N h hN
  unfold laws_toCountedRelationS_B1 at h
  dsimp only at h
  refine ls_seq_k fun K4 hK4 => ?_
  refine ls_rs tbOk ?_
  refine evs (ev_mv (c := nI y2) rfl rfl rfl (evs (ev_mv (c := dL c221_ddd a0) rfl rfl rfl (evs (ev_len (c1 := dL c221_ddd a0) rfl rfl rfl (evs (ev_bin (c1 := nI y2) (c2 := nI (List.length a0 : Int)) rfl rfl rfl (evn ?_))))))))
  refine ls_keep [(0, dL c221_ddd a0), (3, wL 159 c159_ooo y1), (4, nI y2), (11, .bool (decide (y2 < (List.length a0 : Int))))] ⟨kr, kr, kr, kr, trivial⟩ rfl ?_
  rcases cond_some h with ⟨g5, h⟩ | ⟨g5, h⟩
  · refine ls_cT rfl g5 ?_
    refine ls_skip ?_
    refine hK4 _ (ls_keep [(0, dL c221_ddd a0), (3, wL 159 c159_ooo y1), (4, nI y2)] ⟨kr, kr, kr, trivial⟩ rfl ?_)
    refine ls_seq_k fun K6 hK6 => ?_
    refine ls_blk ?_
    refine ls_rgn tbOk ?_
    refine evs (ev_mvu rfl rfl (evs (ev_mv (c := nI y2) rfl rfl rfl (evs (ev_mv (c := dL c221_ddd a0) rfl rfl rfl (evs (ev_mv (c := nI y2) rfl rfl rfl (?_))))))))
    obtain ⟨e7, g8, h⟩ := ob_some h
    refine evs (ev_ia rfl rfl rfl ⟨(geti_some g8).1, (geti_some g8).2.1⟩ (evs (ev_ldE (i := y2) (n := 3) (off := 0) (v := .agg (c221_ddd e7)) rfl rfl zc221_ddd g8 rfl (nb rfl) rfl (?_))))
    obtain ⟨v9, g10, h⟩ := ob_some h
    refine evs (ev_call (era rfl (erg (erc rfl (erc (erD ec25_d _) (erc (erD eci64 _) rfl)))) eran) (laws_toCountedRelation_s g10) (?_))
    obtain ⟨e11, g12, h⟩ := ob_some h
    refine evs (ev_iau rfl rfl rfl rfl ⟨(geti_some g12).1, (geti_some g12).2.1⟩ (evs (ev_stu (e := v9) (c1 := .agg (c159_ooo v9)) rfl rfl zc159_ooo ⟨(geti_some g12).1, (geti_some g12).2.1⟩ rfl rfl rfl rfl rfl (evn ?_))))
    refine hK6 _ (ls_keep [(0, dL c221_ddd a0), (3, wL 159 c159_ooo (seti y1 y2 v9)), (4, nI y2)] ⟨kr, kr, kr, trivial⟩ rfl ?_)
    refine ls_rgn tbOk ?_
    refine evs (ev_mv (c := nI y2) rfl rfl rfl (evs (ev_bin (c1 := nI y2) (c2 := nI 1) rfl rfl rfl (evs (ev_as (c := nI (IntKind.i64.wrap (y2 + 1))) rfl rfl rfl (evn ?_))))))
    exact hN _ ((seti y1 y2 v9), (IntKind.i64.wrap (y2 + 1))) h ⟨kr, kr, kr, trivial⟩
  · refine ls_cF rfl g5 ?_
    refine ls_exit ?_
    have q0 := (Option.some.inj h).symm
    have r0 := hr1
    rw [q0] at r0
    exact kXlaws_toCountedRelationS_B1 y1 r0 _ ⟨kr, trivial⟩
def c74_oooooooooooooo (x : Y73) : List V := [oL 208 c208_oo x.1, oL 161 c161_oooooo x.2.1, oL 159 c159_ooo x.2.2]
theorem zc74_oooooooooooooo (x : Y73) : (c74_oooooooooooooo x).length = 3 := rfl
theorem ec74_oooooooooooooo (x : Y73) : erL (c74_oooooooooooooo x) = c74_dddddddddddddd x := (erc (erO ec208_oo _) (erc (erO ec161_oooooo _) (erc (erO ec159_ooo _) rfl)))
def laws_toNotifier (a0 : Y67) : Option (Y73) := obind (laws_toDatabase a0.1) fun v1 => obind (laws_toViewS a0.2.1) fun v3 => obind (laws_toCountedRelationS a0.2.2) fun v5 => some (v1, v3, v5)
theorem laws_toNotifier_s {a0 : Y67} {r : Y73} (h : laws_toNotifier a0 = some r) : SoundAt Try.prog 40 [.agg (c68_dddddddddddddd a0)] (.agg (c74_oooooooooooooo r)) := by
  unfold laws_toNotifier at h
  refine sound_lit tbOk lit40 (nb rfl) rfl ?_
  unfold c40
  refine ls_keep [(0, .agg (c68_dddddddddddddd a0))] ⟨kr, trivial⟩ rfl ?_
  refine ls_rs tbOk ?_
  refine evs (ev_bx (c1 := .agg (c68_dddddddddddddd a0)) rfl rfl rfl (evs (ev_al rfl rfl (evn ?_))))
  refine ls_keep [(1, .box [dL c206_dd a0.1, dL c223_dddddd a0.2.1, dL c221_ddd a0.2.2]), (2, .box [oL 208 c208_oo [], oL 161 c161_oooooo [], oL 159 c159_ooo []])] ⟨kr, kr, trivial⟩ rfl ?_
  refine ls_rs tbOk ?_
  refine evs (ev_al rfl rfl (evn ?_))
  refine ls_keep [(1, .box [dL c206_dd a0.1, dL c223_dddddd a0.2.1, dL c221_ddd a0.2.2]), (2, .box [oL 208 c208_oo [], oL 161 c161_oooooo [], oL 159 c159_ooo []]), (3, .box [oL 208 c208_oo [], oL 161 c161_oooooo [], oL 159 c159_ooo []])] ⟨kr, kr, kr, trivial⟩ rfl ?_
  refine ls_rs tbOk ?_
  refine evs (ev_fa (c1 := .cref 1 0) (v := .cref 1 0) rfl rfl rfl ⟨_, rfl⟩ rfl (evs (ev_ldB (off := 0) (v := .agg [dL c206_dd a0.1]) rfl rfl rfl rfl (nb rfl) rfl (?_))))
  obtain ⟨v1, g2, h⟩ := ob_some h
  refine evs (ev_call (era rfl (erg (erc (erD ec206_dd _) rfl)) eran) (laws_toDatabase_s g2) (evs (ev_fa (c1 := .cref 3 0) (v := .cref 3 0) rfl rfl rfl ⟨_, rfl⟩ rfl (evs (ev_st (off := 0) (c1 := .agg [oL 208 c208_oo v1]) (cs' := [oL 208 c208_oo v1, oL 161 c161_oooooo [], oL 159 c159_ooo []]) rfl rfl rfl rfl rfl rfl (nb rfl) rfl (evn ?_))))))
  refine ls_keep [(1, .box [dL c206_dd a0.1, dL c223_dddddd a0.2.1, dL c221_ddd a0.2.2]), (2, .box [oL 208 c208_oo [], oL 161 c161_oooooo [], oL 159 c159_ooo []]), (3, .box [oL 208 c208_oo v1, oL 161 c161_oooooo [], oL 159 c159_ooo []])] ⟨kr, kr, kr, trivial⟩ rfl ?_
  refine ls_rs tbOk ?_
  refine evs (ev_fa (c1 := .cref 1 0) (v := .cref 1 1) rfl rfl rfl ⟨_, rfl⟩ rfl (evs (ev_ldB (off := 1) (v := dL c223_dddddd a0.2.1) rfl rfl rfl rfl (nb rfl) rfl (?_))))
  obtain ⟨v3, g4, h⟩ := ob_some h
  refine evs (ev_call (era rfl (erD ec223_dddddd _) eran) (laws_toViewS_s g4) (evs (ev_fa (c1 := .cref 3 0) (v := .cref 3 1) rfl rfl rfl ⟨_, rfl⟩ rfl (evs (ev_st (off := 1) (c1 := oL 161 c161_oooooo v3) (cs' := [oL 208 c208_oo v1, oL 161 c161_oooooo v3, oL 159 c159_ooo []]) rfl rfl rfl rfl rfl rfl (nb rfl) rfl (evn ?_))))))
  refine ls_keep [(1, .box [dL c206_dd a0.1, dL c223_dddddd a0.2.1, dL c221_ddd a0.2.2]), (2, .box [oL 208 c208_oo [], oL 161 c161_oooooo [], oL 159 c159_ooo []]), (3, .box [oL 208 c208_oo v1, oL 161 c161_oooooo v3, oL 159 c159_ooo []])] ⟨kr, kr, kr, trivial⟩ rfl ?_
  refine ls_rs tbOk ?_
  refine evs (ev_fa (c1 := .cref 1 0) (v := .cref 1 2) rfl rfl rfl ⟨_, rfl⟩ rfl (evs (ev_ldB (off := 2) (v := dL c221_ddd a0.2.2) rfl rfl rfl rfl (nb rfl) rfl (?_))))
  obtain ⟨v5, g6, h⟩ := ob_some h
  refine evs (ev_call (era rfl (erD ec221_ddd _) eran) (laws_toCountedRelationS_s g6) (evs (ev_fa (c1 := .cref 3 0) (v := .cref 3 2) rfl rfl rfl ⟨_, rfl⟩ rfl (evs (ev_st (off := 2) (c1 := oL 159 c159_ooo v5) (cs' := [oL 208 c208_oo v1, oL 161 c161_oooooo v3, oL 159 c159_ooo v5]) rfl rfl rfl rfl rfl rfl (nb rfl) rfl (evn ?_))))))
  refine ls_keep [(2, .box [oL 208 c208_oo [], oL 161 c161_oooooo [], oL 159 c159_ooo []]), (3, .box [oL 208 c208_oo v1, oL 161 c161_oooooo v3, oL 159 c159_ooo v5])] ⟨kr, kr, trivial⟩ rfl ?_
  refine ls_rs tbOk ?_
  refine evs (ev_ldBt (off := 0) (v := .agg [oL 208 c208_oo v1, oL 161 c161_oooooo v3, oL 159 c159_ooo v5]) (c' := .box [dL c208_oo v1, dL c161_oooooo v3, dL c159_ooo v5]) rfl rfl rfl rfl (nb rfl) rfl rfl (evs (ev_st (off := 0) (c1 := .agg [oL 208 c208_oo v1, oL 161 c161_oooooo v3, oL 159 c159_ooo v5]) (cs' := [oL 208 c208_oo v1, oL 161 c161_oooooo v3, oL 159 c159_ooo v5]) rfl rfl rfl rfl rfl rfl (nb rfl) rfl (evn ?_))))
  refine ls_keep [(2, .box [oL 208 c208_oo v1, oL 161 c161_oooooo v3, oL 159 c159_ooo v5])] ⟨kr, trivial⟩ rfl ?_
  refine ls_ret ?_
  have hr := Option.some.inj h
  rw [← hr]
  exact ⟨.inl rfl, rfl⟩
def impl_sameInts_B1 (a0 : List Int) (a1 : List Int) (rec : Int → Option (Sum (Unit) (Bool))) (y1 : Int) : Option (Sum (Unit) (Bool)) := cond (decide (y1 < (List.length a0 : Int))) (obind (geti a0 y1) fun e7 => obind (geti a1 y1) fun e9 => cond (e7 != e9) (some (.inr false)) (rec (IntKind.i64.wrap (y1 + 1)))) (some (.inl ()))
def impl_sameInts (a0 : List Int) (a1 : List Int) : Option (Bool) := cond ((List.length a0 : Int) != (List.length a1 : Int)) (some false) (obind (loopF (impl_sameInts_B1 a0 a1) fz 0) fun o1 => (match o1 with
  | .inl _ => (some true)
  | .inr r => some r))
theorem impl_sameInts_s {a0 : List Int} {a1 : List Int} {r : Bool} (h : impl_sameInts a0 a1 = some r) : SoundAt Try.prog 80 [dL ci64 a0, dL ci64 a1] (.bool r) := by
  unfold impl_sameInts at h
  refine sound_lit tbOk lit80 (nb rfl) rfl ?_
  unfold c80
  refine ls_keep [(0, dL ci64 a0), (1, dL ci64 a1)] ⟨kr, kr, trivial⟩ rfl ?_
  refine ls_rs tbOk ?_
  refine evs (ev_ac rfl nofun rfl (evn ?_))
  refine ls_keep [(0, dL ci64 a0), (1, dL ci64 a1)] ⟨kr, kr, trivial⟩ rfl ?_
  refine ls_seq_k fun K1 hK1 => ?_
  refine ls_rs tbOk ?_
  refine evs (ev_mv (c := dL ci64 a0) rfl rfl rfl (evs (ev_len (c1 := dL ci64 a0) rfl rfl rfl (evs (ev_mv (c := dL ci64 a1) rfl rfl rfl (evs (ev_len (c1 := dL ci64 a1) rfl rfl rfl (evs (ev_bin (c1 := nI (List.length a0 : Int)) (c2 := nI (List.length a1 : Int)) rfl rfl rfl (evn ?_))))))))))
  refine ls_keep [(0, dL ci64 a0), (1, dL ci64 a1), (10, .bool ((List.length a0 : Int) != (List.length a1 : Int)))] ⟨kr, kr, kr, trivial⟩ rfl ?_
  rcases cond_some h with ⟨g2, h⟩ | ⟨g2, h⟩
  · refine ls_cT rfl g2 ?_
    refine ls_rs tbOk ?_
    refine evs (ev_ac rfl nofun rfl (evn ?_))
    refine ls_keep [(4, .bool false)] ⟨kr, trivial⟩ rfl ?_
    refine ls_ret ?_
    have hr := Option.some.inj h
    rw [← hr]
    exact ⟨.inl rfl, rfl⟩
  · refine ls_cF rfl g2 ?_
    refine ls_skip ?_
    refine hK1 _ (ls_keep [(0, dL ci64 a0), (1, dL ci64 a1)] ⟨kr, kr, trivial⟩ rfl ?_)
    refine ls_seq_k fun K3 hK3 => ?_
    refine ls_rs tbOk ?_
    refine evs (ev_mv (c := dL ci64 a0) rfl rfl rfl (evs (ev_len (c1 := dL ci64 a0) rfl rfl rfl (evs (ev_mc rfl rfl (evn ?_))))))
    refine ls_keep [(0, dL ci64 a0), (1, dL ci64 a1), (12, nI (List.length a0 : Int)), (13, nI 0)] ⟨kr, kr, kr, kr, trivial⟩ rfl ?_
    obtain ⟨o1, hl, hr1⟩ := ob_some h
    clear h
    have kXimpl_sameInts_B1 : ∀ (_ : Unit), (some true) = some r → ∀ σ' : PS, okK σ' [] → K3 σ' := by
      intro _ h σ' hk
      refine hK3 _ (ls_keep [] hk rfl ?_)
      refine ls_rs tbOk ?_
      refine evs (ev_ac rfl nofun rfl (evn ?_))
      refine ls_keep [(4, .bool true)] ⟨kr, trivial⟩ rfl ?_
      refine ls_ret ?_
      have hr := Option.some.inj h
      rw [← hr]
      exact ⟨.inl rfl, rfl⟩
    refine ls_rec (fun (y1 : Int) => [(0, dL ci64 a0), (1, dL ci64 a1), (12, nI (List.length a0 : Int)), (13, nI y1)]) (impl_sameInts_B1 a0 a1) fz 0 o1 hl ⟨kr, kr, kr, kr, trivial⟩ (fun _ => rfl) ?_
    rintro m y1 N h hN
    unfold impl_sameInts_B1 at h
    refine ls_rs tbOk ?_
    refine evs (ev_bin (c1 := nI y1) (c2 := nI (List.length a0 : Int)) rfl rfl rfl (evn ?_))
    refine ls_keep [(0, dL ci64 a0), (1, dL ci64 a1), (12, nI (List.length a0 : Int)), (13, nI y1), (14, .bool (decide (y1 < (List.length a0 : Int))))] ⟨kr, kr, kr, kr, kr, trivial⟩ rfl ?_
    refine ls_seq_k fun K4 hK4 => ?_
    rcases cond_some h with ⟨g5, h⟩ | ⟨g5, h⟩
    · refine ls_cT rfl g5 ?_
      refine ls_skip ?_
      refine hK4 _ (ls_keep [(0, dL ci64 a0), (1, dL ci64 a1), (12, nI (List.length a0 : Int)), (13, nI y1)] ⟨kr, kr, kr, kr, trivial⟩ rfl ?_)
      refine ls_seq_k fun K6 hK6 => ?_
      refine ls_blk ?_
      refine ls_rs tbOk ?_
      refine evs (ev_mv (c := nI y1) rfl rfl rfl (evs (ev_as (c := nI y1) rfl rfl rfl (evn ?_))))
      refine ls_keep [(0, dL ci64 a0), (1, dL ci64 a1), (5, nI y1), (12, nI (List.length a0 : Int)), (13, nI y1)] ⟨kr, kr, kr, kr, kr, trivial⟩ rfl ?_
      refine ls_rd tbOk mixed (by kernel_rfl) ?_
      refine evd rfl rfl (ev_mv (c := dL ci64 a0) rfl rfl rfl (evd rfl rfl (ev_mv (c := nI y1) rfl rfl rfl (?_))))
      obtain ⟨e7, g8, h⟩ := ob_some h
      refine evd rfl rfl (ev_ia rfl rfl rfl ⟨(geti_some g8).1, (geti_some g8).2.1⟩ (evd rfl rfl (ev_ldE (i := y1) (n := 1) (off := 0) (v := nI e7) rfl rfl zci64 g8 rfl (nb rfl) rfl (evd rfl rfl (ev_mv (c := dL ci64 a1) rfl rfl rfl (evd rfl rfl (ev_mv (c := nI y1) rfl rfl rfl (?_))))))))
      obtain ⟨e9, g10, h⟩ := ob_some h
      refine evd rfl rfl (ev_ia rfl rfl rfl ⟨(geti_some g10).1, (geti_some g10).2.1⟩ (evd rfl rfl (ev_ldE (i := y1) (n := 1) (off := 0) (v := nI e9) rfl rfl zci64 g10 rfl (nb rfl) rfl (evd rfl rfl (ev_bin (c1 := nI e7) (c2 := nI e9) rfl rfl rfl (evdn ?_))))))
      refine ls_keep [(0, dL ci64 a0), (1, dL ci64 a1), (12, nI (List.length a0 : Int)), (13, nI y1), (24, .bool (e7 != e9))] ⟨kr, kr, kr, kr, kr, trivial⟩ rfl ?_
      rcases cond_some h with ⟨g11, h⟩ | ⟨g11, h⟩
      · refine ls_cT rfl g11 ?_
        refine ls_rs tbOk ?_
        refine evs (ev_ac rfl nofun rfl (evn ?_))
        refine ls_keep [(4, .bool false)] ⟨kr, trivial⟩ rfl ?_
        refine ls_ret ?_
        have q0 := (Option.some.inj h).symm
        have r0 := hr1
        rw [q0] at r0
        have hr := Option.some.inj r0
        rw [← hr]
        exact ⟨.inl rfl, rfl⟩
      · refine ls_cF rfl g11 ?_
        refine ls_skip ?_
        refine hK6 _ (ls_keep [(0, dL ci64 a0), (1, dL ci64 a1), (12, nI (List.length a0 : Int)), (13, nI y1)] ⟨kr, kr, kr, kr, trivial⟩ rfl ?_)
        refine ls_rgn tbOk ?_
        refine evs (ev_bin (c1 := nI y1) (c2 := nI 1) rfl rfl rfl (evs (ev_mv (c := nI (IntKind.i64.wrap (y1 + 1))) rfl rfl rfl (evn ?_))))
        exact hN _ (IntKind.i64.wrap (y1 + 1)) h ⟨kr, kr, kr, kr, trivial⟩
    · refine ls_cF rfl g5 ?_
      refine ls_exit ?_
      have q0 := (Option.some.inj h).symm
      have r0 := hr1
      rw [q0] at r0
      exact kXimpl_sameInts_B1 () r0 _ trivial
def impl_sameRows_B1 (a0 : List (List Int)) (a1 : List (List Int)) (rec : Int → Option (Sum (Unit) (Bool))) (y1 : Int) : Option (Sum (Unit) (Bool)) := cond (decide (y1 < (List.length a0 : Int))) (obind (geti a0 y1) fun e7 => obind (geti a1 y1) fun e9 => obind (impl_sameInts e7 e9) fun v11 => cond (!v11) (some (.inr false)) (rec (IntKind.i64.wrap (y1 + 1)))) (some (.inl ()))
def impl_sameRows (a0 : List (List Int)) (a1 : List (List Int)) : Option (Bool) := cond ((List.length a0 : Int) != (List.length a1 : Int)) (some false) (obind (loopF (impl_sameRows_B1 a0 a1) fz 0) fun o1 => (match o1 with
  | .inl _ => (some true)
  | .inr r => some r))
theorem impl_sameRows_s {a0 : List (List Int)} {a1 : List (List Int)} {r : Bool} (h : impl_sameRows a0 a1 = some r) : SoundAt Try.prog 195 [dL c25_d a0, dL c25_d a1] (.bool r) := by
  unfold impl_sameRows at h
  refine sound_lit tbOk lit195 (nb rfl) rfl ?_
  unfold c195
  refine ls_keep [(0, dL c25_d a0), (1, dL c25_d a1)] ⟨kr, kr, trivial⟩ rfl ?_
  refine ls_rs tbOk ?_
  refine evs (ev_ac rfl nofun rfl (evn ?_))
  refine ls_keep [(0, dL c25_d a0), (1, dL c25_d a1)] ⟨kr, kr, trivial⟩ rfl ?_
  refine ls_seq_k fun K1 hK1 => ?_
  refine ls_rs tbOk ?_
  refine evs (ev_mv (c := dL c25_d a0) rfl rfl rfl (evs (ev_len (c1 := dL c25_d a0) rfl rfl rfl (evs (ev_mv (c := dL c25_d a1) rfl rfl rfl (evs (ev_len (c1 := dL c25_d a1) rfl rfl rfl (evs (ev_bin (c1 := nI (List.length a0 : Int)) (c2 := nI (List.length a1 : Int)) rfl rfl rfl (evn ?_))))))))))
  refine ls_keep [(0, dL c25_d a0), (1, dL c25_d a1), (10, .bool ((List.length a0 : Int) != (List.length a1 : Int)))] ⟨kr, kr, kr, trivial⟩ rfl ?_
  rcases cond_some h with ⟨g2, h⟩ | ⟨g2, h⟩
  · refine ls_cT rfl g2 ?_
    refine ls_rs tbOk ?_
    refine evs (ev_ac rfl nofun rfl (evn ?_))
    refine ls_keep [(4, .bool false)] ⟨kr, trivial⟩ rfl ?_
    refine ls_ret ?_
    have hr := Option.some.inj h
    rw [← hr]
    exact ⟨.inl rfl, rfl⟩
  · refine ls_cF rfl g2 ?_
    refine ls_skip ?_
    refine hK1 _ (ls_keep [(0, dL c25_d a0), (1, dL c25_d a1)] ⟨kr, kr, trivial⟩ rfl ?_)
    refine ls_seq_k fun K3 hK3 => ?_
    refine ls_rs tbOk ?_
    refine evs (ev_mv (c := dL c25_d a0) rfl rfl rfl (evs (ev_len (c1 := dL c25_d a0) rfl rfl rfl (evs (ev_mc rfl rfl (evn ?_))))))
    refine ls_keep [(0, dL c25_d a0), (1, dL c25_d a1), (12, nI (List.length a0 : Int)), (13, nI 0)] ⟨kr, kr, kr, kr, trivial⟩ rfl ?_
    obtain ⟨o1, hl, hr1⟩ := ob_some h
    clear h
    have kXimpl_sameRows_B1 : ∀ (_ : Unit), (some true) = some r → ∀ σ' : PS, okK σ' [] → K3 σ' := by
      intro _ h σ' hk
      refine hK3 _ (ls_keep [] hk rfl ?_)
      refine ls_rs tbOk ?_
      refine evs (ev_ac rfl nofun rfl (evn ?_))
      refine ls_keep [(4, .bool true)] ⟨kr, trivial⟩ rfl ?_
      refine ls_ret ?_
      have hr := Option.some.inj h
      rw [← hr]
      exact ⟨.inl rfl, rfl⟩
    refine ls_rec (fun (y1 : Int) => [(0, dL c25_d a0), (1, dL c25_d a1), (12, nI (List.length a0 : Int)), (13, nI y1)]) (impl_sameRows_B1 a0 a1) fz 0 o1 hl ⟨kr, kr, kr, kr, trivial⟩ (fun _ => rfl) ?_
    rintro m y1 N h hN
    unfold impl_sameRows_B1 at h
    refine ls_rs tbOk ?_
    refine evs (ev_bin (c1 := nI y1) (c2 := nI (List.length a0 : Int)) rfl rfl rfl (evn ?_))
    refine ls_keep [(0, dL c25_d a0), (1, dL c25_d a1), (12, nI (List.length a0 : Int)), (13, nI y1), (14, .bool (decide (y1 < (List.length a0 : Int))))] ⟨kr, kr, kr, kr, kr, trivial⟩ rfl ?_
    refine ls_seq_k fun K4 hK4 => ?_
    rcases cond_some h with ⟨g5, h⟩ | ⟨g5, h⟩
    · refine ls_cT rfl g5 ?_
      refine ls_skip ?_
      refine hK4 _ (ls_keep [(0, dL c25_d a0), (1, dL c25_d a1), (12, nI (List.length a0 : Int)), (13, nI y1)] ⟨kr, kr, kr, kr, trivial⟩ rfl ?_)
      refine ls_seq_k fun K6 hK6 => ?_
      refine ls_blk ?_
      refine ls_rs tbOk ?_
      refine evs (ev_mv (c := nI y1) rfl rfl rfl (evs (ev_as (c := nI y1) rfl rfl rfl (evn ?_))))
      refine ls_keep [(0, dL c25_d a0), (1, dL c25_d a1), (5, nI y1), (12, nI (List.length a0 : Int)), (13, nI y1)] ⟨kr, kr, kr, kr, kr, trivial⟩ rfl ?_
      refine ls_rd tbOk mixed (by kernel_rfl) ?_
      refine evd rfl rfl (ev_mv (c := dL c25_d a0) rfl rfl rfl (evd rfl rfl (ev_mv (c := nI y1) rfl rfl rfl (?_))))
      obtain ⟨e7, g8, h⟩ := ob_some h
      refine evd rfl rfl (ev_ia rfl rfl rfl ⟨(geti_some g8).1, (geti_some g8).2.1⟩ (evd rfl rfl (ev_ldE (i := y1) (n := 1) (off := 0) (v := dL ci64 e7) rfl rfl zc25_d g8 rfl (nb rfl) rfl (evd rfl rfl (ev_mv (c := dL c25_d a1) rfl rfl rfl (evd rfl rfl (ev_mv (c := nI y1) rfl rfl rfl (?_))))))))
      obtain ⟨e9, g10, h⟩ := ob_some h
      refine evd rfl rfl (ev_ia rfl rfl rfl ⟨(geti_some g10).1, (geti_some g10).2.1⟩ (evd rfl rfl (ev_ldE (i := y1) (n := 1) (off := 0) (v := dL ci64 e9) rfl rfl zc25_d g10 rfl (nb rfl) rfl (?_))))
      obtain ⟨v11, g12, h⟩ := ob_some h
      refine evd rfl rfl (ev_call (era rfl (erD eci64 _) (era rfl (erD eci64 _) eran)) (impl_sameInts_s g12) (evd rfl rfl (ev_un (c1 := .bool v11) rfl trivial (evdn ?_))))
      refine ls_keep [(0, dL c25_d a0), (1, dL c25_d a1), (12, nI (List.length a0 : Int)), (13, nI y1), (25, .bool (!v11))] ⟨kr, kr, kr, kr, kr, trivial⟩ rfl ?_
      rcases cond_some h with ⟨g13, h⟩ | ⟨g13, h⟩
      · refine ls_cT rfl g13 ?_
        refine ls_rs tbOk ?_
        refine evs (ev_ac rfl nofun rfl (evn ?_))
        refine ls_keep [(4, .bool false)] ⟨kr, trivial⟩ rfl ?_
        refine ls_ret ?_
        have q0 := (Option.some.inj h).symm
        have r0 := hr1
        rw [q0] at r0
        have hr := Option.some.inj r0
        rw [← hr]
        exact ⟨.inl rfl, rfl⟩
      · refine ls_cF rfl g13 ?_
        refine ls_skip ?_
        refine hK6 _ (ls_keep [(0, dL c25_d a0), (1, dL c25_d a1), (12, nI (List.length a0 : Int)), (13, nI y1)] ⟨kr, kr, kr, kr, trivial⟩ rfl ?_)
        refine ls_rgn tbOk ?_
        refine evs (ev_bin (c1 := nI y1) (c2 := nI 1) rfl rfl rfl (evs (ev_mv (c := nI (IntKind.i64.wrap (y1 + 1))) rfl rfl rfl (evn ?_))))
        exact hN _ (IntKind.i64.wrap (y1 + 1)) h ⟨kr, kr, kr, kr, trivial⟩
    · refine ls_cF rfl g5 ?_
      refine ls_exit ?_
      have q0 := (Option.some.inj h).symm
      have r0 := hr1
      rw [q0] at r0
      exact kXimpl_sameRows_B1 () r0 _ trivial
def impl_EqualRelations_J1 (x2 : Bool) : Option (Bool) := some x2
def impl_EqualRelations (a0 : Y127) (a1 : Y127) : Option (Bool) := cond (a0.1 == a1.1) (obind (impl_sameRows a0.2 a1.2) fun v4 => impl_EqualRelations_J1 v4) (impl_EqualRelations_J1 false)
theorem impl_EqualRelations_s {a0 : Y127} {a1 : Y127} {r : Bool} (h : impl_EqualRelations a0 a1 = some r) : SoundAt Try.prog 194 [.agg (c128_dd a0), .agg (c128_dd a1)] (.bool r) := by
  unfold impl_EqualRelations at h
  refine sound_lit tbOk lit194 (nb rfl) rfl ?_
  unfold c194
  refine ls_keep [(0, .agg (c128_dd a0)), (1, .agg (c128_dd a1))] ⟨kr, kr, trivial⟩ rfl ?_
  refine ls_rs tbOk ?_
  refine evs (ev_bx (c1 := .agg (c128_dd a0)) rfl rfl rfl (evs (ev_bx (c1 := .agg (c128_dd a1)) rfl rfl rfl (evs (ev_ac rfl nofun rfl (evn ?_))))))
  refine ls_keep [(2, .box [nI a0.1, dL c25_d a0.2]), (3, .box [nI a1.1, dL c25_d a1.2])] ⟨kr, kr, trivial⟩ rfl ?_
  refine ls_rs_k tbOk fun K1 hK1 => ?_
  have kimpl_EqualRelations_J1 : ∀ (x2 : Bool), impl_EqualRelations_J1 x2 = some r → ∀ σ' : PS, okK σ' [(4, .bool x2)] → K1 σ' := by
    intro x2 h σ' hk
    unfold impl_EqualRelations_J1 at h
    refine hK1 _ (ls_keep [(4, .bool x2)] hk rfl ?_)
    refine ls_ret ?_
    have hr := Option.some.inj h
    rw [← hr]
    exact ⟨.inl rfl, rfl⟩
  refine evs (ev_fa (c1 := .cref 2 0) (v := .cref 2 0) rfl rfl rfl ⟨_, rfl⟩ rfl (evs (ev_ldB (off := 0) (v := nI a0.1) rfl rfl rfl rfl (nb rfl) rfl (evs (ev_fa (c1 := .cref 3 0) (v := .cref 3 0) rfl rfl rfl ⟨_, rfl⟩ rfl (evs (ev_ldB (off := 0) (v := nI a1.1) rfl rfl rfl rfl (nb rfl) rfl (evs (ev_bin (c1 := nI a0.1) (c2 := nI a1.1) rfl rfl rfl (evs (ev_mv (c := .bool (a0.1 == a1.1)) rfl rfl rfl (?_))))))))))))
  rcases cond_some h with ⟨g3, h⟩ | ⟨g3, h⟩
  · refine evs (ev_gr rfl (congrArg V.bool g3) (ev_fa (c1 := .cref 2 0) (v := .cref 2 1) rfl rfl rfl ⟨_, rfl⟩ rfl (evs (ev_gr rfl (congrArg V.bool g3) (ev_ldB (off := 1) (v := dL c25_d a0.2) rfl rfl rfl rfl (nb rfl) rfl (evs (ev_gr rfl (congrArg V.bool g3) (ev_fa (c1 := .cref 3 0) (v := .cref 3 1) rfl rfl rfl ⟨_, rfl⟩ rfl (evs (ev_gr rfl (congrArg V.bool g3) (ev_ldB (off := 1) (v := dL c25_d a1.2) rfl rfl rfl rfl (nb rfl) rfl (?_))))))))))))
    obtain ⟨v4, g5, h⟩ := ob_some h
    refine evs (ev_gr rfl (congrArg V.bool g3) (ev_call (era rfl (erD ec25_d _) (era rfl (erD ec25_d _) eran)) (impl_sameRows_s g5) (evs (ev_pkT (c1 := .bool v4) rfl g3 rfl rfl (evs (ev_as (c := .bool v4) rfl rfl rfl (evn ?_)))))))
    exact kimpl_EqualRelations_J1 v4 h _ ⟨kr, trivial⟩
  · refine evs (ev_gs rfl rfl (isb_F g3) (evs (ev_gs rfl rfl (isb_F g3) (evs (ev_gs rfl rfl (isb_F g3) (evs (ev_gs rfl rfl (isb_F g3) (evs (ev_gs rfl rfl (isb_F g3) (evs (ev_pkF (c1 := .bool false) rfl g3 rfl rfl (evs (ev_as (c := .bool false) rfl rfl rfl (evn ?_))))))))))))))
    exact kimpl_EqualRelations_J1 false h _ ⟨kr, trivial⟩
def impl_EqualDatabases_B1 (a0 : List Y207) (a1 : List Y207) (rec : Int → Option (Sum (Unit) (Bool))) (y1 : Int) : Option (Sum (Unit) (Bool)) := cond (decide (y1 < (List.length a0 : Int))) (obind (geti a0 y1) fun e7 => obind (geti a1 y1) fun e9 => cond (!(e7.1 == e9.1)) (some (.inr false)) (obind (geti a0 y1) fun e12 => obind (geti a1 y1) fun e14 => obind (impl_EqualRelations e12.2 e14.2) fun v16 => cond (!v16) (some (.inr false)) (rec (IntKind.i64.wrap (y1 + 1))))) (some (.inl ()))
def impl_EqualDatabases (a0 : List Y207) (a1 : List Y207) : Option (Bool) := cond ((List.length a0 : Int) != (List.length a1 : Int)) (some false) (obind (loopF (impl_EqualDatabases_B1 a0 a1) fz 0) fun o1 => (match o1 with
  | .inl _ => (some true)
  | .inr r => some r))
theorem impl_EqualDatabases_s {a0 : List Y207} {a1 : List Y207} {r : Bool} (h : impl_EqualDatabases a0 a1 = some r) : SoundAt Try.prog 115 [.agg [dL c208_dd a0], .agg [dL c208_dd a1]] (.bool r) := by
  unfold impl_EqualDatabases at h
  refine sound_lit tbOk lit115 (nb rfl) rfl ?_
  unfold c115
  refine ls_keep [(0, .agg [dL c208_dd a0]), (1, .agg [dL c208_dd a1])] ⟨kr, kr, trivial⟩ rfl ?_
  refine ls_rs tbOk ?_
  refine evs (ev_bx (c1 := .agg [dL c208_dd a0]) rfl rfl rfl (evs (ev_bx (c1 := .agg [dL c208_dd a1]) rfl rfl rfl (evs (ev_ac rfl nofun rfl (evn ?_))))))
  refine ls_keep [(2, .box [dL c208_dd a0]), (3, .box [dL c208_dd a1])] ⟨kr, kr, trivial⟩ rfl ?_
  refine ls_seq_k fun K1 hK1 => ?_
  refine ls_rs tbOk ?_
  refine evs (ev_fa (c1 := .cref 2 0) (v := .cref 2 0) rfl rfl rfl ⟨_, rfl⟩ rfl (evs (ev_ldB (off := 0) (v := dL c208_dd a0) rfl rfl rfl rfl (nb rfl) rfl (evs (ev_len (c1 := dL c208_dd a0) rfl rfl rfl (evs (ev_fa (c1 := .cref 3 0) (v := .cref 3 0) rfl rfl rfl ⟨_, rfl⟩ rfl (evs (ev_ldB (off := 0) (v := dL c208_dd a1) rfl rfl rfl rfl (nb rfl) rfl (evs (ev_len (c1 := dL c208_dd a1) rfl rfl rfl (evs (ev_bin (c1 := nI (List.length a0 : Int)) (c2 := nI (List.length a1 : Int)) rfl rfl rfl (evn ?_))))))))))))))
  refine ls_keep [(2, .box [dL c208_dd a0]), (3, .box [dL c208_dd a1]), (12, .bool ((List.length a0 : Int) != (List.length a1 : Int)))] ⟨kr, kr, kr, trivial⟩ rfl ?_
  rcases cond_some h with ⟨g2, h⟩ | ⟨g2, h⟩
  · refine ls_cT rfl g2 ?_
    refine ls_rs tbOk ?_
    refine evs (ev_ac rfl nofun rfl (evn ?_))
    refine ls_keep [(4, .bool false)] ⟨kr, trivial⟩ rfl ?_
    refine ls_ret ?_
    have hr := Option.some.inj h
    rw [← hr]
    exact ⟨.inl rfl, rfl⟩
  · refine ls_cF rfl g2 ?_
    refine ls_skip ?_
    refine hK1 _ (ls_keep [(2, .box [dL c208_dd a0]), (3, .box [dL c208_dd a1])] ⟨kr, kr, trivial⟩ rfl ?_)
    refine ls_seq_k fun K3 hK3 => ?_
    refine ls_rs tbOk ?_
    refine evs (ev_fa (c1 := .cref 2 0) (v := .cref 2 0) rfl rfl rfl ⟨_, rfl⟩ rfl (evs (ev_ldB (off := 0) (v := dL c208_dd a0) rfl rfl rfl rfl (nb rfl) rfl (evs (ev_len (c1 := dL c208_dd a0) rfl rfl rfl (evs (ev_mc rfl rfl (evn ?_))))))))
    refine ls_keep [(2, .box [dL c208_dd a0]), (3, .box [dL c208_dd a1]), (15, nI (List.length a0 : Int)), (16, nI 0)] ⟨kr, kr, kr, kr, trivial⟩ rfl ?_
    obtain ⟨o1, hl, hr1⟩ := ob_some h
    clear h
    have kXimpl_EqualDatabases_B1 : ∀ (_ : Unit), (some true) = some r → ∀ σ' : PS, okK σ' [] → K3 σ' := by
      intro _ h σ' hk
      refine hK3 _ (ls_keep [] hk rfl ?_)
      refine ls_rs tbOk ?_
      refine evs (ev_ac rfl nofun rfl (evn ?_))
      refine ls_keep [(4, .bool true)] ⟨kr, trivial⟩ rfl ?_
      refine ls_ret ?_
      have hr := Option.some.inj h
      rw [← hr]
      exact ⟨.inl rfl, rfl⟩
    refine ls_rec (fun (y1 : Int) => [(2, .box [dL c208_dd a0]), (3, .box [dL c208_dd a1]), (15, nI (List.length a0 : Int)), (16, nI y1)]) (impl_EqualDatabases_B1 a0 a1) fz 0 o1 hl ⟨kr, kr, kr, kr, trivial⟩ (fun _ => rfl) ?_
    rintro m y1 N h hN
    unfold impl_EqualDatabases_B1 at h
    refine ls_rs tbOk ?_
    refine evs (ev_bin (c1 := nI y1) (c2 := nI (List.length a0 : Int)) rfl rfl rfl (evn ?_))
    refine ls_keep [(2, .box [dL c208_dd a0]), (3, .box [dL c208_dd a1]), (15, nI (List.length a0 : Int)), (16, nI y1), (17, .bool (decide (y1 < (List.length a0 : Int))))] ⟨kr, kr, kr, kr, kr, trivial⟩ rfl ?_
    refine ls_seq_k fun K4 hK4 => ?_
    rcases cond_some h with ⟨g5, h⟩ | ⟨g5, h⟩
    · refine ls_cT rfl g5 ?_
      refine ls_skip ?_
      refine hK4 _ (ls_keep [(2, .box [dL c208_dd a0]), (3, .box [dL c208_dd a1]), (15, nI (List.length a0 : Int)), (16, nI y1)] ⟨kr, kr, kr, kr, trivial⟩ rfl ?_)
      refine ls_seq_k fun K6 hK6 => ?_
      refine ls_blk ?_
      refine ls_rs tbOk ?_
      refine evs (ev_mv (c := nI y1) rfl rfl rfl (evs (ev_as (c := nI y1) rfl rfl rfl (evn ?_))))
      refine ls_keep [(2, .box [dL c208_dd a0]), (3, .box [dL c208_dd a1]), (5, nI y1), (15, nI (List.length a0 : Int)), (16, nI y1)] ⟨kr, kr, kr, kr, kr, trivial⟩ rfl ?_
      refine ls_rd tbOk mixed (by kernel_rfl) ?_
      refine evd rfl rfl (ev_fa (c1 := .cref 2 0) (v := .cref 2 0) rfl rfl rfl ⟨_, rfl⟩ rfl (evd rfl rfl (ev_ldB (off := 0) (v := dL c208_dd a0) rfl rfl rfl rfl (nb rfl) rfl (evd rfl rfl (ev_mv (c := nI y1) rfl rfl rfl (?_))))))
      obtain ⟨e7, g8, h⟩ := ob_some h
      refine evd rfl rfl (ev_ia rfl rfl rfl ⟨(geti_some g8).1, (geti_some g8).2.1⟩ (evd rfl rfl (ev_fa (c1 := .adr (a0.flatMap c208_dd) (Int.toNat y1 * 3)) (v := .adr (a0.flatMap c208_dd) (Int.toNat y1 * 3)) rfl rfl rfl trivial rfl (evd rfl rfl (ev_ldE (i := y1) (n := 3) (off := 0) (v := .str e7.1) rfl rfl zc208_dd g8 rfl (nb rfl) rfl (evd rfl rfl (ev_fa (c1 := .cref 3 0) (v := .cref 3 0) rfl rfl rfl ⟨_, rfl⟩ rfl (evd rfl rfl (ev_ldB (off := 0) (v := dL c208_dd a1) rfl rfl rfl rfl (nb rfl) rfl (evd rfl rfl (ev_mv (c := nI y1) rfl rfl rfl (?_))))))))))))
      obtain ⟨e9, g10, h⟩ := ob_some h
      refine evd rfl rfl (ev_ia rfl rfl rfl ⟨(geti_some g10).1, (geti_some g10).2.1⟩ (evd rfl rfl (ev_fa (c1 := .adr (a1.flatMap c208_dd) (Int.toNat y1 * 3)) (v := .adr (a1.flatMap c208_dd) (Int.toNat y1 * 3)) rfl rfl rfl trivial rfl (evd rfl rfl (ev_ldE (i := y1) (n := 3) (off := 0) (v := .str e9.1) rfl rfl zc208_dd g10 rfl (nb rfl) rfl (evd rfl rfl (ev_bin (c1 := .str e7.1) (c2 := .str e9.1) rfl rfl trivial (evd rfl rfl (ev_mv (c := .bool (!(e7.1 == e9.1))) rfl rfl rfl (?_))))))))))
      rcases cond_some h with ⟨g11, h⟩ | ⟨g11, h⟩
      · refine evd rfl rfl (ev_gs rfl rfl (isb_T g11) (evd rfl rfl (ev_gs rfl rfl (isb_T g11) (evd rfl rfl (ev_gs rfl rfl (isb_T g11) (evd rfl rfl (ev_gs rfl rfl (isb_T g11) (evd rfl rfl (ev_gs rfl rfl (isb_T g11) (evd rfl rfl (ev_gs rfl rfl (isb_T g11) (evd rfl rfl (ev_gs rfl rfl (isb_T g11) (evd rfl rfl (ev_gs rfl rfl (isb_T g11) (evd rfl rfl (ev_gs rfl rfl (isb_T g11) (evd rfl rfl (ev_gs rfl rfl (isb_T g11) (evd rfl rfl (ev_gs rfl rfl (isb_T g11) (evd rfl rfl (ev_gs rfl rfl (isb_T g11) (evd rfl rfl (ev_gs rfl rfl (isb_T g11) (evd rfl rfl (ev_gs rfl rfl (isb_T g11) (evd rfl rfl (ev_pkT (c1 := .bool true) rfl g11 rfl rfl (evdn ?_))))))))))))))))))))))))))))))
        refine ls_keep [(2, .box [dL c208_dd a0]), (3, .box [dL c208_dd a1]), (15, nI (List.length a0 : Int)), (16, nI y1), (47, .bool true)] ⟨kr, kr, kr, kr, kr, trivial⟩ rfl ?_
        refine ls_cT rfl rfl ?_
        refine ls_rs tbOk ?_
        refine evs (ev_ac rfl nofun rfl (evn ?_))
        refine ls_keep [(4, .bool false)] ⟨kr, trivial⟩ rfl ?_
        refine ls_ret ?_
        have q0 := (Option.some.inj h).symm
        have r0 := hr1
        rw [q0] at r0
        have hr := Option.some.inj r0
        rw [← hr]
        exact ⟨.inl rfl, rfl⟩
      · refine evd rfl rfl (ev_gr rfl (congrArg V.bool g11) (ev_fa (c1 := .cref 2 0) (v := .cref 2 0) rfl rfl rfl ⟨_, rfl⟩ rfl (evd rfl rfl (ev_gr rfl (congrArg V.bool g11) (ev_ldB (off := 0) (v := dL c208_dd a0) rfl rfl rfl rfl (nb rfl) rfl (evd rfl rfl (ev_gr rfl (congrArg V.bool g11) (ev_mv (c := nI y1) rfl rfl rfl (?_)))))))))
        obtain ⟨e12, g13, h⟩ := ob_some h
        refine evd rfl rfl (ev_gr rfl (congrArg V.bool g11) (ev_ia rfl rfl rfl ⟨(geti_some g13).1, (geti_some g13).2.1⟩ (evd rfl rfl (ev_gr rfl (congrArg V.bool g11) (ev_fa (c1 := .adr (a0.flatMap c208_dd) (Int.toNat y1 * 3)) (v := .adr (a0.flatMap c208_dd) (Int.toNat y1 * 3 + 1)) rfl rfl rfl trivial rfl (evd rfl rfl (ev_gr rfl (congrArg V.bool g11) (ev_ldE (i := y1) (n := 3) (off := 1) (v := .agg (c128_dd e12.2)) rfl rfl zc208_dd g13 rfl (nb rfl) rfl (evd rfl rfl (ev_gr rfl (congrArg V.bool g11) (ev_fa (c1 := .cref 3 0) (v := .cref 3 0) rfl rfl rfl ⟨_, rfl⟩ rfl (evd rfl rfl (ev_gr rfl (congrArg V.bool g11) (ev_ldB (off := 0) (v := dL c208_dd a1) rfl rfl rfl rfl (nb rfl) rfl (evd rfl rfl (ev_gr rfl (congrArg V.bool g11) (ev_mv (c := nI y1) rfl rfl rfl (?_))))))))))))))))))
        obtain ⟨e14, g15, h⟩ := ob_some h
        refine evd rfl rfl (ev_gr rfl (congrArg V.bool g11) (ev_ia rfl rfl rfl ⟨(geti_some g15).1, (geti_some g15).2.1⟩ (evd rfl rfl (ev_gr rfl (congrArg V.bool g11) (ev_fa (c1 := .adr (a1.flatMap c208_dd) (Int.toNat y1 * 3)) (v := .adr (a1.flatMap c208_dd) (Int.toNat y1 * 3 + 1)) rfl rfl rfl trivial rfl (evd rfl rfl (ev_gr rfl (congrArg V.bool g11) (ev_ldE (i := y1) (n := 3) (off := 1) (v := .agg (c128_dd e14.2)) rfl rfl zc208_dd g15 rfl (nb rfl) rfl (?_)))))))))
        obtain ⟨v16, g17, h⟩ := ob_some h
        refine evd rfl rfl (ev_gr rfl (congrArg V.bool g11) (ev_call (era rfl (erg (erc rfl (erc (erD ec25_d _) rfl))) (era rfl (erg (erc rfl (erc (erD ec25_d _) rfl))) eran)) (impl_EqualRelations_s g17) (evd rfl rfl (ev_gr rfl (congrArg V.bool g11) (ev_un (c1 := .bool v16) rfl trivial (evd rfl rfl (ev_pkF (c1 := .bool (!v16)) rfl g11 rfl rfl (evdn ?_))))))))
        refine ls_keep [(2, .box [dL c208_dd a0]), (3, .box [dL c208_dd a1]), (15, nI (List.length a0 : Int)), (16, nI y1), (47, .bool (!v16))] ⟨kr, kr, kr, kr, kr, trivial⟩ rfl ?_
        rcases cond_some h with ⟨g18, h⟩ | ⟨g18, h⟩
        · refine ls_cT rfl g18 ?_
          refine ls_rs tbOk ?_
          refine evs (ev_ac rfl nofun rfl (evn ?_))
          refine ls_keep [(4, .bool false)] ⟨kr, trivial⟩ rfl ?_
          refine ls_ret ?_
          have q0 := (Option.some.inj h).symm
          have r0 := hr1
          rw [q0] at r0
          have hr := Option.some.inj r0
          rw [← hr]
          exact ⟨.inl rfl, rfl⟩
        · refine ls_cF rfl g18 ?_
          refine ls_skip ?_
          refine hK6 _ (ls_keep [(2, .box [dL c208_dd a0]), (3, .box [dL c208_dd a1]), (15, nI (List.length a0 : Int)), (16, nI y1)] ⟨kr, kr, kr, kr, trivial⟩ rfl ?_)
          refine ls_rgn tbOk ?_
          refine evs (ev_bin (c1 := nI y1) (c2 := nI 1) rfl rfl rfl (evs (ev_mv (c := nI (IntKind.i64.wrap (y1 + 1))) rfl rfl rfl (evn ?_))))
          exact hN _ (IntKind.i64.wrap (y1 + 1)) h ⟨kr, kr, kr, kr, trivial⟩
    · refine ls_cF rfl g5 ?_
      refine ls_exit ?_
      have q0 := (Option.some.inj h).symm
      have r0 := hr1
      rw [q0] at r0
      exact kXimpl_EqualDatabases_B1 () r0 _ trivial
def impl_EqualQueries_B1 (a0 : Y91) (a1 : Y91) (rec : Int → Option (Sum (Unit) (Bool))) (y1 : Int) : Option (Sum (Unit) (Bool)) := cond (decide (y1 < (List.length a0.2.1 : Int))) (obind (geti a0.2.1 y1) fun e11 => obind (geti a1.2.1 y1) fun e13 => cond (!(e11.1 == e13.1)) (some (.inr false)) (obind (geti a0.2.1 y1) fun e16 => obind (geti a1.2.1 y1) fun e18 => obind (impl_sameInts e16.2 e18.2) fun v20 => cond (!v20) (some (.inr false)) (rec (IntKind.i64.wrap (y1 + 1))))) (some (.inl ()))
def impl_EqualQueries (a0 : Y91) (a1 : Y91) : Option (Bool) := cond (a0.1 != a1.1) (some false) (cond ((List.length a0.2.1 : Int) != (List.length a1.2.1 : Int)) (some false) (obind (impl_sameInts a0.2.2 a1.2.2) fun v4 => cond (!v4) (some false) (obind (loopF (impl_EqualQueries_B1 a0 a1) fz 0) fun o1 => (match o1 with
  | .inl _ => (some true)
  | .inr r => some r))))
theorem impl_EqualQueries_s {a0 : Y91} {a1 : Y91} {r : Bool} (h : impl_EqualQueries a0 a1 = some r) : SoundAt Try.prog 116 [.agg (c92_ddd a0), .agg (c92_ddd a1)] (.bool r) := by
  unfold impl_EqualQueries at h
  refine sound_lit tbOk lit116 (nb rfl) rfl ?_
  unfold c116
  refine ls_keep [(0, .agg (c92_ddd a0)), (1, .agg (c92_ddd a1))] ⟨kr, kr, trivial⟩ rfl ?_
  refine ls_rs tbOk ?_
  refine evs (ev_bx (c1 := .agg (c92_ddd a0)) rfl rfl rfl (evs (ev_bx (c1 := .agg (c92_ddd a1)) rfl rfl rfl (evs (ev_ac rfl nofun rfl (evn ?_))))))
  refine ls_keep [(2, .box [nI a0.1, dL c195_d a0.2.1, dL ci64 a0.2.2]), (3, .box [nI a1.1, dL c195_d a1.2.1, dL ci64 a1.2.2])] ⟨kr, kr, trivial⟩ rfl ?_
  refine ls_seq_k fun K1 hK1 => ?_
  refine ls_rs tbOk ?_
  refine evs (ev_fa (c1 := .cref 2 0) (v := .cref 2 0) rfl rfl rfl ⟨_, rfl⟩ rfl (evs (ev_ldB (off := 0) (v := nI a0.1) rfl rfl rfl rfl (nb rfl) rfl (evs (ev_fa (c1 := .cref 3 0) (v := .cref 3 0) rfl rfl rfl ⟨_, rfl⟩ rfl (evs (ev_ldB (off := 0) (v := nI a1.1) rfl rfl rfl rfl (nb rfl) rfl (evs (ev_bin (c1 := nI a0.1) (c2 := nI a1.1) rfl rfl rfl (evs (ev_mv (c := .bool (a0.1 != a1.1)) rfl rfl rfl (?_))))))))))))
  rcases cond_some h with ⟨g2, h⟩ | ⟨g2, h⟩
  · refine evs (ev_gs rfl rfl (isb_T g2) (evs (ev_gs rfl rfl (isb_T g2) (evs (ev_gs rfl rfl (isb_T g2) (evs (ev_gs rfl rfl (isb_T g2) (evs (ev_gs rfl rfl (isb_T g2) (evs (ev_gs rfl rfl (isb_T g2) (evs (ev_gs rfl rfl (isb_T g2) (evs (ev_pkT (c1 := .bool true) rfl g2 rfl rfl (evs (ev_mv (c := .bool true) rfl rfl rfl (evs (ev_gs rfl rfl rfl (evs (ev_gs rfl rfl rfl (evs (ev_gs rfl rfl rfl (evs (ev_gs rfl rfl rfl (evs (ev_gs rfl rfl rfl (evs (ev_gs rfl rfl rfl (evs (ev_pkT (c1 := .bool true) rfl rfl rfl rfl (evn ?_))))))))))))))))))))))))))))))))
    refine ls_keep [(2, .box [nI a0.1, dL c195_d a0.2.1, dL ci64 a0.2.2]), (3, .box [nI a1.1, dL c195_d a1.2.1, dL ci64 a1.2.2]), (27, .bool true)] ⟨kr, kr, kr, trivial⟩ rfl ?_
    refine ls_cT rfl rfl ?_
    refine ls_rs tbOk ?_
    refine evs (ev_ac rfl nofun rfl (evn ?_))
    refine ls_keep [(4, .bool false)] ⟨kr, trivial⟩ rfl ?_
    refine ls_ret ?_
    have hr := Option.some.inj h
    rw [← hr]
    exact ⟨.inl rfl, rfl⟩
  · refine evs (ev_gr rfl (congrArg V.bool g2) (ev_fa (c1 := .cref 2 0) (v := .cref 2 1) rfl rfl rfl ⟨_, rfl⟩ rfl (evs (ev_gr rfl (congrArg V.bool g2) (ev_ldB (off := 1) (v := dL c195_d a0.2.1) rfl rfl rfl rfl (nb rfl) rfl (evs (ev_gr rfl (congrArg V.bool g2) (ev_len (c1 := dL c195_d a0.2.1) rfl rfl rfl (evs (ev_gr rfl (congrArg V.bool g2) (ev_fa (c1 := .cref 3 0) (v := .cref 3 1) rfl rfl rfl ⟨_, rfl⟩ rfl (evs (ev_gr rfl (congrArg V.bool g2) (ev_ldB (off := 1) (v := dL c195_d a1.2.1) rfl rfl rfl rfl (nb rfl) rfl (evs (ev_gr rfl (congrArg V.bool g2) (ev_len (c1 := dL c195_d a1.2.1) rfl rfl rfl (evs (ev_gr rfl (congrArg V.bool g2) (ev_bin (c1 := nI (List.length a0.2.1 : Int)) (c2 := nI (List.length a1.2.1 : Int)) rfl rfl rfl (evs (ev_pkF (c1 := .bool ((List.length a0.2.1 : Int) != (List.length a1.2.1 : Int))) rfl g2 rfl rfl (evs (ev_mv (c := .bool ((List.length a0.2.1 : Int) != (List.length a1.2.1 : Int))) rfl rfl rfl (?_)))))))))))))))))))))))))
    rcases cond_some h with ⟨g3, h⟩ | ⟨g3, h⟩
    · refine evs (ev_gs rfl rfl (isb_T g3) (evs (ev_gs rfl rfl (isb_T g3) (evs (ev_gs rfl rfl (isb_T g3) (evs (ev_gs rfl rfl (isb_T g3) (evs (ev_gs rfl rfl (isb_T g3) (evs (ev_gs rfl rfl (isb_T g3) (evs (ev_pkT (c1 := .bool true) rfl g3 rfl rfl (evn ?_))))))))))))))
      refine ls_keep [(2, .box [nI a0.1, dL c195_d a0.2.1, dL ci64 a0.2.2]), (3, .box [nI a1.1, dL c195_d a1.2.1, dL ci64 a1.2.2]), (27, .bool true)] ⟨kr, kr, kr, trivial⟩ rfl ?_
      refine ls_cT rfl rfl ?_
      refine ls_rs tbOk ?_
      refine evs (ev_ac rfl nofun rfl (evn ?_))
      refine ls_keep [(4, .bool false)] ⟨kr, trivial⟩ rfl ?_
      refine ls_ret ?_
      have hr := Option.some.inj h
      rw [← hr]
      exact ⟨.inl rfl, rfl⟩
    · refine evs (ev_gr rfl (congrArg V.bool g3) (ev_fa (c1 := .cref 2 0) (v := .cref 2 2) rfl rfl rfl ⟨_, rfl⟩ rfl (evs (ev_gr rfl (congrArg V.bool g3) (ev_ldB (off := 2) (v := dL ci64 a0.2.2) rfl rfl rfl rfl (nb rfl) rfl (evs (ev_gr rfl (congrArg V.bool g3) (ev_fa (c1 := .cref 3 0) (v := .cref 3 2) rfl rfl rfl ⟨_, rfl⟩ rfl (evs (ev_gr rfl (congrArg V.bool g3) (ev_ldB (off := 2) (v := dL ci64 a1.2.2) rfl rfl rfl rfl (nb rfl) rfl (?_))))))))))))
      obtain ⟨v4, g5, h⟩ := ob_some h
      refine evs (ev_gr rfl (congrArg V.bool g3) (ev_call (era rfl (erD eci64 _) (era rfl (erD eci64 _) eran)) (impl_sameInts_s g5) (evs (ev_gr rfl (congrArg V.bool g3) (ev_un (c1 := .bool v4) rfl trivial (evs (ev_pkF (c1 := .bool (!v4)) rfl g3 rfl rfl (evn ?_))))))))
      refine ls_keep [(2, .box [nI a0.1, dL c195_d a0.2.1, dL ci64 a0.2.2]), (3, .box [nI a1.1, dL c195_d a1.2.1, dL ci64 a1.2.2]), (27, .bool (!v4))] ⟨kr, kr, kr, trivial⟩ rfl ?_
      rcases cond_some h with ⟨g6, h⟩ | ⟨g6, h⟩
      · refine ls_cT rfl g6 ?_
        refine ls_rs tbOk ?_
        refine evs (ev_ac rfl nofun rfl (evn ?_))
        refine ls_keep [(4, .bool false)] ⟨kr, trivial⟩ rfl ?_
        refine ls_ret ?_
        have hr := Option.some.inj h
        rw [← hr]
        exact ⟨.inl rfl, rfl⟩
      · refine ls_cF rfl g6 ?_
        refine ls_skip ?_
        refine hK1 _ (ls_keep [(2, .box [nI a0.1, dL c195_d a0.2.1, dL ci64 a0.2.2]), (3, .box [nI a1.1, dL c195_d a1.2.1, dL ci64 a1.2.2])] ⟨kr, kr, trivial⟩ rfl ?_)
        refine ls_seq_k fun K7 hK7 => ?_
        refine ls_rs tbOk ?_
        refine evs (ev_fa (c1 := .cref 2 0) (v := .cref 2 1) rfl rfl rfl ⟨_, rfl⟩ rfl (evs (ev_ldB (off := 1) (v := dL c195_d a0.2.1) rfl rfl rfl rfl (nb rfl) rfl (evs (ev_len (c1 := dL c195_d a0.2.1) rfl rfl rfl (evs (ev_mc rfl rfl (evn ?_))))))))
        refine ls_keep [(2, .box [nI a0.1, dL c195_d a0.2.1, dL ci64 a0.2.2]), (3, .box [nI a1.1, dL c195_d a1.2.1, dL ci64 a1.2.2]), (30, nI (List.length a0.2.1 : Int)), (31, nI 0)] ⟨kr, kr, kr, kr, trivial⟩ rfl ?_
        obtain ⟨o1, hl, hr1⟩ := ob_some h
        clear h
        have kXimpl_EqualQueries_B1 : ∀ (_ : Unit), (some true) = some r → ∀ σ' : PS, okK σ' [] → K7 σ' := by
          intro _ h σ' hk
          refine hK7 _ (ls_keep [] hk rfl ?_)
          refine ls_rs tbOk ?_
          refine evs (ev_ac rfl nofun rfl (evn ?_))
          refine ls_keep [(4, .bool true)] ⟨kr, trivial⟩ rfl ?_
          refine ls_ret ?_
          have hr := Option.some.inj h
          rw [← hr]
          exact ⟨.inl rfl, rfl⟩
        refine ls_rec (fun (y1 : Int) => [(2, .box [nI a0.1, dL c195_d a0.2.1, dL ci64 a0.2.2]), (3, .box [nI a1.1, dL c195_d a1.2.1, dL ci64 a1.2.2]), (30, nI (List.length a0.2.1 : Int)), (31, nI y1)]) (impl_EqualQueries_B1 a0 a1) fz 0 o1 hl ⟨kr, kr, kr, kr, trivial⟩ (fun _ => rfl) ?_
        rintro m y1 N h hN
        unfold impl_EqualQueries_B1 at h
        refine ls_rs tbOk ?_
        refine evs (ev_bin (c1 := nI y1) (c2 := nI (List.length a0.2.1 : Int)) rfl rfl rfl (evn ?_))
        refine ls_keep [(2, .box [nI a0.1, dL c195_d a0.2.1, dL ci64 a0.2.2]), (3, .box [nI a1.1, dL c195_d a1.2.1, dL ci64 a1.2.2]), (30, nI (List.length a0.2.1 : Int)), (31, nI y1), (32, .bool (decide (y1 < (List.length a0.2.1 : Int))))] ⟨kr, kr, kr, kr, kr, trivial⟩ rfl ?_
        refine ls_seq_k fun K8 hK8 => ?_
        rcases cond_some h with ⟨g9, h⟩ | ⟨g9, h⟩
        · refine ls_cT rfl g9 ?_
          refine ls_skip ?_
          refine hK8 _ (ls_keep [(2, .box [nI a0.1, dL c195_d a0.2.1, dL ci64 a0.2.2]), (3, .box [nI a1.1, dL c195_d a1.2.1, dL ci64 a1.2.2]), (30, nI (List.length a0.2.1 : Int)), (31, nI y1)] ⟨kr, kr, kr, kr, trivial⟩ rfl ?_)
          refine ls_seq_k fun K10 hK10 => ?_
          refine ls_blk ?_
          refine ls_rs tbOk ?_
          refine evs (ev_mv (c := nI y1) rfl rfl rfl (evs (ev_as (c := nI y1) rfl rfl rfl (evn ?_))))
          refine ls_keep [(2, .box [nI a0.1, dL c195_d a0.2.1, dL ci64 a0.2.2]), (3, .box [nI a1.1, dL c195_d a1.2.1, dL ci64 a1.2.2]), (5, nI y1), (30, nI (List.length a0.2.1 : Int)), (31, nI y1)] ⟨kr, kr, kr, kr, kr, trivial⟩ rfl ?_
          refine ls_rd tbOk mixed (by kernel_rfl) ?_
          refine evd rfl rfl (ev_fa (c1 := .cref 2 0) (v := .cref 2 1) rfl rfl rfl ⟨_, rfl⟩ rfl (evd rfl rfl (ev_ldB (off := 1) (v := dL c195_d a0.2.1) rfl rfl rfl rfl (nb rfl) rfl (evd rfl rfl (ev_mv (c := nI y1) rfl rfl rfl (?_))))))
          obtain ⟨e11, g12, h⟩ := ob_some h
          refine evd rfl rfl (ev_ia rfl rfl rfl ⟨(geti_some g12).1, (geti_some g12).2.1⟩ (evd rfl rfl (ev_fa (c1 := .adr (a0.2.1.flatMap c195_d) (Int.toNat y1 * 2)) (v := .adr (a0.2.1.flatMap c195_d) (Int.toNat y1 * 2)) rfl rfl rfl trivial rfl (evd rfl rfl (ev_ldE (i := y1) (n := 2) (off := 0) (v := .str e11.1) rfl rfl zc195_d g12 rfl (nb rfl) rfl (evd rfl rfl (ev_fa (c1 := .cref 3 0) (v := .cref 3 1) rfl rfl rfl ⟨_, rfl⟩ rfl (evd rfl rfl (ev_ldB (off := 1) (v := dL c195_d a1.2.1) rfl rfl rfl rfl (nb rfl) rfl (evd rfl rfl (ev_mv (c := nI y1) rfl rfl rfl (?_))))))))))))
          obtain ⟨e13, g14, h⟩ := ob_some h
          refine evd rfl rfl (ev_ia rfl rfl rfl ⟨(geti_some g14).1, (geti_some g14).2.1⟩ (evd rfl rfl (ev_fa (c1 := .adr (a1.2.1.flatMap c195_d) (Int.toNat y1 * 2)) (v := .adr (a1.2.1.flatMap c195_d) (Int.toNat y1 * 2)) rfl rfl rfl trivial rfl (evd rfl rfl (ev_ldE (i := y1) (n := 2) (off := 0) (v := .str e13.1) rfl rfl zc195_d g14 rfl (nb rfl) rfl (evd rfl rfl (ev_bin (c1 := .str e11.1) (c2 := .str e13.1) rfl rfl trivial (evd rfl rfl (ev_mv (c := .bool (!(e11.1 == e13.1))) rfl rfl rfl (?_))))))))))
          rcases cond_some h with ⟨g15, h⟩ | ⟨g15, h⟩
          · refine evd rfl rfl (ev_gs rfl rfl (isb_T g15) (evd rfl rfl (ev_gs rfl rfl (isb_T g15) (evd rfl rfl (ev_gs rfl rfl (isb_T g15) (evd rfl rfl (ev_gs rfl rfl (isb_T g15) (evd rfl rfl (ev_gs rfl rfl (isb_T g15) (evd rfl rfl (ev_gs rfl rfl (isb_T g15) (evd rfl rfl (ev_gs rfl rfl (isb_T g15) (evd rfl rfl (ev_gs rfl rfl (isb_T g15) (evd rfl rfl (ev_gs rfl rfl (isb_T g15) (evd rfl rfl (ev_gs rfl rfl (isb_T g15) (evd rfl rfl (ev_gs rfl rfl (isb_T g15) (evd rfl rfl (ev_gs rfl rfl (isb_T g15) (evd rfl rfl (ev_gs rfl rfl (isb_T g15) (evd rfl rfl (ev_gs rfl rfl (isb_T g15) (evd rfl rfl (ev_pkT (c1 := .bool true) rfl g15 rfl rfl (evdn ?_))))))))))))))))))))))))))))))
            refine ls_keep [(2, .box [nI a0.1, dL c195_d a0.2.1, dL ci64 a0.2.2]), (3, .box [nI a1.1, dL c195_d a1.2.1, dL ci64 a1.2.2]), (30, nI (List.length a0.2.1 : Int)), (31, nI y1), (62, .bool true)] ⟨kr, kr, kr, kr, kr, trivial⟩ rfl ?_
            refine ls_cT rfl rfl ?_
            refine ls_rs tbOk ?_
            refine evs (ev_ac rfl nofun rfl (evn ?_))
            refine ls_keep [(4, .bool false)] ⟨kr, trivial⟩ rfl ?_
            refine ls_ret ?_
            have q0 := (Option.some.inj h).symm
            have r0 := hr1
            rw [q0] at r0
            have hr := Option.some.inj r0
            rw [← hr]
            exact ⟨.inl rfl, rfl⟩
          · refine evd rfl rfl (ev_gr rfl (congrArg V.bool g15) (ev_fa (c1 := .cref 2 0) (v := .cref 2 1) rfl rfl rfl ⟨_, rfl⟩ rfl (evd rfl rfl (ev_gr rfl (congrArg V.bool g15) (ev_ldB (off := 1) (v := dL c195_d a0.2.1) rfl rfl rfl rfl (nb rfl) rfl (evd rfl rfl (ev_gr rfl (congrArg V.bool g15) (ev_mv (c := nI y1) rfl rfl rfl (?_)))))))))
            obtain ⟨e16, g17, h⟩ := ob_some h
            refine evd rfl rfl (ev_gr rfl (congrArg V.bool g15) (ev_ia rfl rfl rfl ⟨(geti_some g17).1, (geti_some g17).2.1⟩ (evd rfl rfl (ev_gr rfl (congrArg V.bool g15) (ev_fa (c1 := .adr (a0.2.1.flatMap c195_d) (Int.toNat y1 * 2)) (v := .adr (a0.2.1.flatMap c195_d) (Int.toNat y1 * 2 + 1)) rfl rfl rfl trivial rfl (evd rfl rfl (ev_gr rfl (congrArg V.bool g15) (ev_ldE (i := y1) (n := 2) (off := 1) (v := dL ci64 e16.2) rfl rfl zc195_d g17 rfl (nb rfl) rfl (evd rfl rfl (ev_gr rfl (congrArg V.bool g15) (ev_fa (c1 := .cref 3 0) (v := .cref 3 1) rfl rfl rfl ⟨_, rfl⟩ rfl (evd rfl rfl (ev_gr rfl (congrArg V.bool g15) (ev_ldB (off := 1) (v := dL c195_d a1.2.1) rfl rfl rfl rfl (nb rfl) rfl (evd rfl rfl (ev_gr rfl (congrArg V.bool g15) (ev_mv (c := nI y1) rfl rfl rfl (?_))))))))))))))))))
            obtain ⟨e18, g19, h⟩ := ob_some h
            refine evd rfl rfl (ev_gr rfl (congrArg V.bool g15) (ev_ia rfl rfl rfl ⟨(geti_some g19).1, (geti_some g19).2.1⟩ (evd rfl rfl (ev_gr rfl (congrArg V.bool g15) (ev_fa (c1 := .adr (a1.2.1.flatMap c195_d) (Int.toNat y1 * 2)) (v := .adr (a1.2.1.flatMap c195_d) (Int.toNat y1 * 2 + 1)) rfl rfl rfl trivial rfl (evd rfl rfl (ev_gr rfl (congrArg V.bool g15) (ev_ldE (i := y1) (n := 2) (off := 1) (v := dL ci64 e18.2) rfl rfl zc195_d g19 rfl (nb rfl) rfl (?_)))))))))
            obtain ⟨v20, g21, h⟩ := ob_some h
            refine evd rfl rfl (ev_gr rfl (congrArg V.bool g15) (ev_call (era rfl (erD eci64 _) (era rfl (erD eci64 _) eran)) (impl_sameInts_s g21) (evd rfl rfl (ev_gr rfl (congrArg V.bool g15) (ev_un (c1 := .bool v20) rfl trivial (evd rfl rfl (ev_pkF (c1 := .bool (!v20)) rfl g15 rfl rfl (evdn ?_))))))))
            refine ls_keep [(2, .box [nI a0.1, dL c195_d a0.2.1, dL ci64 a0.2.2]), (3, .box [nI a1.1, dL c195_d a1.2.1, dL ci64 a1.2.2]), (30, nI (List.length a0.2.1 : Int)), (31, nI y1), (62, .bool (!v20))] ⟨kr, kr, kr, kr, kr, trivial⟩ rfl ?_
            rcases cond_some h with ⟨g22, h⟩ | ⟨g22, h⟩
            · refine ls_cT rfl g22 ?_
              refine ls_rs tbOk ?_
              refine evs (ev_ac rfl nofun rfl (evn ?_))
              refine ls_keep [(4, .bool false)] ⟨kr, trivial⟩ rfl ?_
              refine ls_ret ?_
              have q0 := (Option.some.inj h).symm
              have r0 := hr1
              rw [q0] at r0
              have hr := Option.some.inj r0
              rw [← hr]
              exact ⟨.inl rfl, rfl⟩
            · refine ls_cF rfl g22 ?_
              refine ls_skip ?_
              refine hK10 _ (ls_keep [(2, .box [nI a0.1, dL c195_d a0.2.1, dL ci64 a0.2.2]), (3, .box [nI a1.1, dL c195_d a1.2.1, dL ci64 a1.2.2]), (30, nI (List.length a0.2.1 : Int)), (31, nI y1)] ⟨kr, kr, kr, kr, trivial⟩ rfl ?_)
              refine ls_rgn tbOk ?_
              refine evs (ev_bin (c1 := nI y1) (c2 := nI 1) rfl rfl rfl (evs (ev_mv (c := nI (IntKind.i64.wrap (y1 + 1))) rfl rfl rfl (evn ?_))))
              exact hN _ (IntKind.i64.wrap (y1 + 1)) h ⟨kr, kr, kr, kr, trivial⟩
        · refine ls_cF rfl g9 ?_
          refine ls_exit ?_
          have q0 := (Option.some.inj h).symm
          have r0 := hr1
          rw [q0] at r0
          exact kXimpl_EqualQueries_B1 () r0 _ trivial
def impl_EqualCounted_J1 (x2 : Bool) : Option (Bool) := some x2
def impl_EqualCounted (a0 : Y158) (a1 : Y158) : Option (Bool) := cond (a0.1 == a1.1) (obind (impl_sameRows a0.2.1 a1.2.1) fun v4 => cond v4 (obind (impl_sameInts a0.2.2 a1.2.2) fun v7 => impl_EqualCounted_J1 v7) (impl_EqualCounted_J1 false)) (impl_EqualCounted_J1 false)
theorem impl_EqualCounted_s {a0 : Y158} {a1 : Y158} {r : Bool} (h : impl_EqualCounted a0 a1 = some r) : SoundAt Try.prog 117 [.agg (c159_ddd a0), .agg (c159_ddd a1)] (.bool r) := by
  unfold impl_EqualCounted at h
  refine sound_lit tbOk lit117 (nb rfl) rfl ?_
  unfold c117
  refine ls_keep [(0, .agg (c159_ddd a0)), (1, .agg (c159_ddd a1))] ⟨kr, kr, trivial⟩ rfl ?_
  refine ls_rs tbOk ?_
  refine evs (ev_bx (c1 := .agg (c159_ddd a0)) rfl rfl rfl (evs (ev_bx (c1 := .agg (c159_ddd a1)) rfl rfl rfl (evs (ev_ac rfl nofun rfl (evn ?_))))))
  refine ls_keep [(2, .box [nI a0.1, dL c25_d a0.2.1, dL ci64 a0.2.2]), (3, .box [nI a1.1, dL c25_d a1.2.1, dL ci64 a1.2.2])] ⟨kr, kr, trivial⟩ rfl ?_
  refine ls_rs_k tbOk fun K1 hK1 => ?_
  have kimpl_EqualCounted_J1 : ∀ (x2 : Bool), impl_EqualCounted_J1 x2 = some r → ∀ σ' : PS, okK σ' [(4, .bool x2)] → K1 σ' := by
    intro x2 h σ' hk
    unfold impl_EqualCounted_J1 at h
    refine hK1 _ (ls_keep [(4, .bool x2)] hk rfl ?_)
    refine ls_ret ?_
    have hr := Option.some.inj h
    rw [← hr]
    exact ⟨.inl rfl, rfl⟩
  refine evs (ev_fa (c1 := .cref 2 0) (v := .cref 2 0) rfl rfl rfl ⟨_, rfl⟩ rfl (evs (ev_ldB (off := 0) (v := nI a0.1) rfl rfl rfl rfl (nb rfl) rfl (evs (ev_fa (c1 := .cref 3 0) (v := .cref 3 0) rfl rfl rfl ⟨_, rfl⟩ rfl (evs (ev_ldB (off := 0) (v := nI a1.1) rfl rfl rfl rfl (nb rfl) rfl (evs (ev_bin (c1 := nI a0.1) (c2 := nI a1.1) rfl rfl rfl (evs (ev_mv (c := .bool (a0.1 == a1.1)) rfl rfl rfl (?_))))))))))))
  rcases cond_some h with ⟨g3, h⟩ | ⟨g3, h⟩
  · refine evs (ev_gr rfl (congrArg V.bool g3) (ev_fa (c1 := .cref 2 0) (v := .cref 2 1) rfl rfl rfl ⟨_, rfl⟩ rfl (evs (ev_gr rfl (congrArg V.bool g3) (ev_ldB (off := 1) (v := dL c25_d a0.2.1) rfl rfl rfl rfl (nb rfl) rfl (evs (ev_gr rfl (congrArg V.bool g3) (ev_fa (c1 := .cref 3 0) (v := .cref 3 1) rfl rfl rfl ⟨_, rfl⟩ rfl (evs (ev_gr rfl (congrArg V.bool g3) (ev_ldB (off := 1) (v := dL c25_d a1.2.1) rfl rfl rfl rfl (nb rfl) rfl (?_))))))))))))
    obtain ⟨v4, g5, h⟩ := ob_some h
    refine evs (ev_gr rfl (congrArg V.bool g3) (ev_call (era rfl (erD ec25_d _) (era rfl (erD ec25_d _) eran)) (impl_sameRows_s g5) (evs (ev_pkT (c1 := .bool v4) rfl g3 rfl rfl (evs (ev_mv (c := .bool v4) rfl rfl rfl (?_)))))))
    rcases cond_some h with ⟨g6, h⟩ | ⟨g6, h⟩
    · refine evs (ev_gr rfl (congrArg V.bool g6) (ev_fa (c1 := .cref 2 0) (v := .cref 2 2) rfl rfl rfl ⟨_, rfl⟩ rfl (evs (ev_gr rfl (congrArg V.bool g6) (ev_ldB (off := 2) (v := dL ci64 a0.2.2) rfl rfl rfl rfl (nb rfl) rfl (evs (ev_gr rfl (congrArg V.bool g6) (ev_fa (c1 := .cref 3 0) (v := .cref 3 2) rfl rfl rfl ⟨_, rfl⟩ rfl (evs (ev_gr rfl (congrArg V.bool g6) (ev_ldB (off := 2) (v := dL ci64 a1.2.2) rfl rfl rfl rfl (nb rfl) rfl (?_))))))))))))
      obtain ⟨v7, g8, h⟩ := ob_some h
      refine evs (ev_gr rfl (congrArg V.bool g6) (ev_call (era rfl (erD eci64 _) (era rfl (erD eci64 _) eran)) (impl_sameInts_s g8) (evs (ev_pkT (c1 := .bool v7) rfl g6 rfl rfl (evs (ev_as (c := .bool v7) rfl rfl rfl (evn ?_)))))))
      exact kimpl_EqualCounted_J1 v7 h _ ⟨kr, trivial⟩
    · refine evs (ev_gs rfl rfl (isb_F g6) (evs (ev_gs rfl rfl (isb_F g6) (evs (ev_gs rfl rfl (isb_F g6) (evs (ev_gs rfl rfl (isb_F g6) (evs (ev_gs rfl rfl (isb_F g6) (evs (ev_pkF (c1 := .bool false) rfl g6 rfl rfl (evs (ev_as (c := .bool false) rfl rfl rfl (evn ?_))))))))))))))
      exact kimpl_EqualCounted_J1 false h _ ⟨kr, trivial⟩
  · refine evs (ev_gs rfl rfl (isb_F g3) (evs (ev_gs rfl rfl (isb_F g3) (evs (ev_gs rfl rfl (isb_F g3) (evs (ev_gs rfl rfl (isb_F g3) (evs (ev_gs rfl rfl (isb_F g3) (evs (ev_pkF (c1 := .bool false) rfl g3 rfl rfl (evs (ev_mv (c := .bool false) rfl rfl rfl (evs (ev_gs rfl rfl rfl (evs (ev_gs rfl rfl rfl (evs (ev_gs rfl rfl rfl (evs (ev_gs rfl rfl rfl (evs (ev_gs rfl rfl rfl (evs (ev_pkF (c1 := .bool false) rfl rfl rfl rfl (evs (ev_as (c := .bool false) rfl rfl rfl (evn ?_))))))))))))))))))))))))))))
    exact kimpl_EqualCounted_J1 false h _ ⟨kr, trivial⟩
def impl_EqualNotifiers_B1 (a0 : Y73) (a1 : Y73) (rec : Int → Option (Sum (Unit) (Bool))) (y1 : Int) : Option (Sum (Unit) (Bool)) := cond (decide (y1 < (List.length a0.2.1 : Int))) (obind (geti a0.2.1 y1) fun e11 => obind (geti a1.2.1 y1) fun e13 => obind (impl_EqualQueries e11.1 e13.1) fun v15 => cond (!v15) (some (.inr false)) (obind (geti a0.2.1 y1) fun e18 => obind (geti a1.2.1 y1) fun e20 => obind (impl_EqualCounted e18.2 e20.2) fun v22 => cond (!v22) (some (.inr false)) (rec (IntKind.i64.wrap (y1 + 1))))) (some (.inl ()))
def impl_EqualNotifiers_B2 (a0 : Y73) (a1 : Y73) (rec : Int → Option (Sum (Unit) (Bool))) (y2 : Int) : Option (Sum (Unit) (Bool)) := cond (decide (y2 < (List.length a0.2.2 : Int))) (obind (geti a0.2.2 y2) fun e29 => obind (geti a1.2.2 y2) fun e31 => obind (impl_EqualCounted e29 e31) fun v33 => cond (!v33) (some (.inr false)) (rec (IntKind.i64.wrap (y2 + 1)))) (some (.inl ()))
def impl_EqualNotifiers (a0 : Y73) (a1 : Y73) : Option (Bool) := obind (impl_EqualDatabases a0.1 a1.1) fun v2 => cond (!v2) (some false) (cond ((List.length a0.2.1 : Int) != (List.length a1.2.1 : Int)) (some false) (cond ((List.length a0.2.2 : Int) != (List.length a1.2.2 : Int)) (some false) (obind (loopF (impl_EqualNotifiers_B1 a0 a1) fz 0) fun o1 => (match o1 with
  | .inl _ => (obind (loopF (impl_EqualNotifiers_B2 a0 a1) fz 0) fun o2 => (match o2 with
  | .inl _ => (some true)
  | .inr r => some r))
  | .inr r => some r))))
theorem impl_EqualNotifiers_s {a0 : Y73} {a1 : Y73} {r : Bool} (h : impl_EqualNotifiers a0 a1 = some r) : SoundAt Try.prog 41 [.agg (c74_dddddddddddddd a0), .agg (c74_dddddddddddddd a1)] (.bool r) := by
  unfold impl_EqualNotifiers at h
  refine sound_lit tbOk lit41 (nb rfl) rfl ?_
  unfold c41
  refine ls_keep [(0, .agg (c74_dddddddddddddd a0)), (1, .agg (c74_dddddddddddddd a1))] ⟨kr, kr, trivial⟩ rfl ?_
  refine ls_rs tbOk ?_
  refine evs (ev_bx (c1 := .agg (c74_dddddddddddddd a0)) rfl rfl rfl (evs (ev_bx (c1 := .agg (c74_dddddddddddddd a1)) rfl rfl rfl (evs (ev_ac rfl nofun rfl (evn ?_))))))
  refine ls_keep [(2, .box [dL c208_dd a0.1, dL c161_dddddd a0.2.1, dL c159_ddd a0.2.2]), (3, .box [dL c208_dd a1.1, dL c161_dddddd a1.2.1, dL c159_ddd a1.2.2])] ⟨kr, kr, trivial⟩ rfl ?_
  refine ls_seq_k fun K1 hK1 => ?_
  refine ls_rs tbOk ?_
  refine evs (ev_fa (c1 := .cref 2 0) (v := .cref 2 0) rfl rfl rfl ⟨_, rfl⟩ rfl (evs (ev_ldB (off := 0) (v := .agg [dL c208_dd a0.1]) rfl rfl rfl rfl (nb rfl) rfl (evs (ev_fa (c1 := .cref 3 0) (v := .cref 3 0) rfl rfl rfl ⟨_, rfl⟩ rfl (evs (ev_ldB (off := 0) (v := .agg [dL c208_dd a1.1]) rfl rfl rfl rfl (nb rfl) rfl (?_))))))))
  obtain ⟨v2, g3, h⟩ := ob_some h
  refine evs (ev_call (era rfl (erg (erc (erD ec208_dd _) rfl)) (era rfl (erg (erc (erD ec208_dd _) rfl)) eran)) (impl_EqualDatabases_s g3) (evs (ev_un (c1 := .bool v2) rfl trivial (evs (ev_mv (c := .bool (!v2)) rfl rfl rfl (?_))))))
  rcases cond_some h with ⟨g4, h⟩ | ⟨g4, h⟩
  · refine evs (ev_gs rfl rfl (isb_T g4) (evs (ev_gs rfl rfl (isb_T g4) (evs (ev_gs rfl rfl (isb_T g4) (evs (ev_gs rfl rfl (isb_T g4) (evs (ev_gs rfl rfl (isb_T g4) (evs (ev_gs rfl rfl (isb_T g4) (evs (ev_gs rfl rfl (isb_T g4) (evs (ev_pkT (c1 := .bool true) rfl g4 rfl rfl (evs (ev_mv (c := .bool true) rfl rfl rfl (evs (ev_gs rfl rfl rfl (evs (ev_gs rfl rfl rfl (evs (ev_gs rfl rfl rfl (evs (ev_gs rfl rfl rfl (evs (ev_gs rfl rfl rfl (evs (ev_gs rfl rfl rfl (evs (ev_gs rfl rfl rfl (evs (ev_pkT (c1 := .bool true) rfl rfl rfl rfl (evn ?_))))))))))))))))))))))))))))))))))
    refine ls_keep [(2, .box [dL c208_dd a0.1, dL c161_dddddd a0.2.1, dL c159_ddd a0.2.2]), (3, .box [dL c208_dd a1.1, dL c161_dddddd a1.2.1, dL c159_ddd a1.2.2]), (30, .bool true)] ⟨kr, kr, kr, trivial⟩ rfl ?_
    refine ls_cT rfl rfl ?_
    refine ls_rs tbOk ?_
    refine evs (ev_ac rfl nofun rfl (evn ?_))
    refine ls_keep [(4, .bool false)] ⟨kr, trivial⟩ rfl ?_
    refine ls_ret ?_
    have hr := Option.some.inj h
    rw [← hr]
    exact ⟨.inl rfl, rfl⟩
  · refine evs (ev_gr rfl (congrArg V.bool g4) (ev_fa (c1 := .cref 2 0) (v := .cref 2 1) rfl rfl rfl ⟨_, rfl⟩ rfl (evs (ev_gr rfl (congrArg V.bool g4) (ev_ldB (off := 1) (v := dL c161_dddddd a0.2.1) rfl rfl rfl rfl (nb rfl) rfl (evs (ev_gr rfl (congrArg V.bool g4) (ev_len (c1 := dL c161_dddddd a0.2.1) rfl rfl rfl (evs (ev_gr rfl (congrArg V.bool g4) (ev_fa (c1 := .cref 3 0) (v := .cref 3 1) rfl rfl rfl ⟨_, rfl⟩ rfl (evs (ev_gr rfl (congrArg V.bool g4) (ev_ldB (off := 1) (v := dL c161_dddddd a1.2.1) rfl rfl rfl rfl (nb rfl) rfl (evs (ev_gr rfl (congrArg V.bool g4) (ev_len (c1 := dL c161_dddddd a1.2.1) rfl rfl rfl (evs (ev_gr rfl (congrArg V.bool g4) (ev_bin (c1 := nI (List.length a0.2.1 : Int)) (c2 := nI (List.length a1.2.1 : Int)) rfl rfl rfl (evs (ev_pkF (c1 := .bool ((List.length a0.2.1 : Int) != (List.length a1.2.1 : Int))) rfl g4 rfl rfl (evs (ev_mv (c := .bool ((List.length a0.2.1 : Int) != (List.length a1.2.1 : Int))) rfl rfl rfl (?_)))))))))))))))))))))))))
    rcases cond_some h with ⟨g5, h⟩ | ⟨g5, h⟩
    · refine evs (ev_gs rfl rfl (isb_T g5) (evs (ev_gs rfl rfl (isb_T g5) (evs (ev_gs rfl rfl (isb_T g5) (evs (ev_gs rfl rfl (isb_T g5) (evs (ev_gs rfl rfl (isb_T g5) (evs (ev_gs rfl rfl (isb_T g5) (evs (ev_gs rfl rfl (isb_T g5) (evs (ev_pkT (c1 := .bool true) rfl g5 rfl rfl (evn ?_))))))))))))))))
      refine ls_keep [(2, .box [dL c208_dd a0.1, dL c161_dddddd a0.2.1, dL c159_ddd a0.2.2]), (3, .box [dL c208_dd a1.1, dL c161_dddddd a1.2.1, dL c159_ddd a1.2.2]), (30, .bool true)] ⟨kr, kr, kr, trivial⟩ rfl ?_
      refine ls_cT rfl rfl ?_
      refine ls_rs tbOk ?_
      refine evs (ev_ac rfl nofun rfl (evn ?_))
      refine ls_keep [(4, .bool false)] ⟨kr, trivial⟩ rfl ?_
      refine ls_ret ?_
      have hr := Option.some.inj h
      rw [← hr]
      exact ⟨.inl rfl, rfl⟩
    · refine evs (ev_gr rfl (congrArg V.bool g5) (ev_fa (c1 := .cref 2 0) (v := .cref 2 2) rfl rfl rfl ⟨_, rfl⟩ rfl (evs (ev_gr rfl (congrArg V.bool g5) (ev_ldB (off := 2) (v := dL c159_ddd a0.2.2) rfl rfl rfl rfl (nb rfl) rfl (evs (ev_gr rfl (congrArg V.bool g5) (ev_len (c1 := dL c159_ddd a0.2.2) rfl rfl rfl (evs (ev_gr rfl (congrArg V.bool g5) (ev_fa (c1 := .cref 3 0) (v := .cref 3 2) rfl rfl rfl ⟨_, rfl⟩ rfl (evs (ev_gr rfl (congrArg V.bool g5) (ev_ldB (off := 2) (v := dL c159_ddd a1.2.2) rfl rfl rfl rfl (nb rfl) rfl (evs (ev_gr rfl (congrArg V.bool g5) (ev_len (c1 := dL c159_ddd a1.2.2) rfl rfl rfl (evs (ev_gr rfl (congrArg V.bool g5) (ev_bin (c1 := nI (List.length a0.2.2 : Int)) (c2 := nI (List.length a1.2.2 : Int)) rfl rfl rfl (evs (ev_pkF (c1 := .bool ((List.length a0.2.2 : Int) != (List.length a1.2.2 : Int))) rfl g5 rfl rfl (evn ?_)))))))))))))))))))))))
      refine ls_keep [(2, .box [dL c208_dd a0.1, dL c161_dddddd a0.2.1, dL c159_ddd a0.2.2]), (3, .box [dL c208_dd a1.1, dL c161_dddddd a1.2.1, dL c159_ddd a1.2.2]), (30, .bool ((List.length a0.2.2 : Int) != (List.length a1.2.2 : Int)))] ⟨kr, kr, kr, trivial⟩ rfl ?_
      rcases cond_some h with ⟨g6, h⟩ | ⟨g6, h⟩
      · refine ls_cT rfl g6 ?_
        refine ls_rs tbOk ?_
        refine evs (ev_ac rfl nofun rfl (evn ?_))
        refine ls_keep [(4, .bool false)] ⟨kr, trivial⟩ rfl ?_
        refine ls_ret ?_
        have hr := Option.some.inj h
        rw [← hr]
        exact ⟨.inl rfl, rfl⟩
      · refine ls_cF rfl g6 ?_
        refine ls_skip ?_
        refine hK1 _ (ls_keep [(2, .box [dL c208_dd a0.1, dL c161_dddddd a0.2.1, dL c159_ddd a0.2.2]), (3, .box [dL c208_dd a1.1, dL c161_dddddd a1.2.1, dL c159_ddd a1.2.2])] ⟨kr, kr, trivial⟩ rfl ?_)
        refine ls_seq_k fun K7 hK7 => ?_
        refine ls_rs tbOk ?_
        refine evs (ev_fa (c1 := .cref 2 0) (v := .cref 2 1) rfl rfl rfl ⟨_, rfl⟩ rfl (evs (ev_ldB (off := 1) (v := dL c161_dddddd a0.2.1) rfl rfl rfl rfl (nb rfl) rfl (evs (ev_len (c1 := dL c161_dddddd a0.2.1) rfl rfl rfl (evs (ev_mc rfl rfl (evn ?_))))))))
        refine ls_keep [(2, .box [dL c208_dd a0.1, dL c161_dddddd a0.2.1, dL c159_ddd a0.2.2]), (3, .box [dL c208_dd a1.1, dL c161_dddddd a1.2.1, dL c159_ddd a1.2.2]), (33, nI (List.length a0.2.1 : Int)), (34, nI 0)] ⟨kr, kr, kr, kr, trivial⟩ rfl ?_
        obtain ⟨o1, hl, hr1⟩ := ob_some h
        clear h
        have kXimpl_EqualNotifiers_B1 : ∀ (_ : Unit), (obind (loopF (impl_EqualNotifiers_B2 a0 a1) fz 0) fun o2 => (match o2 with
  | .inl _ => (some true)
  | .inr r => some r)) = some r → ∀ σ' : PS, okK σ' [(2, .box [dL c208_dd a0.1, dL c161_dddddd a0.2.1, dL c159_ddd a0.2.2]), (3, .box [dL c208_dd a1.1, dL c161_dddddd a1.2.1, dL c159_ddd a1.2.2])] → K7 σ' := by
          intro _ h σ' hk
          refine hK7 _ (ls_keep [(2, .box [dL c208_dd a0.1, dL c161_dddddd a0.2.1, dL c159_ddd a0.2.2]), (3, .box [dL c208_dd a1.1, dL c161_dddddd a1.2.1, dL c159_ddd a1.2.2])] hk rfl ?_)
          refine ls_seq_k fun K25 hK25 => ?_
          refine ls_rs tbOk ?_
          refine evs (ev_fa (c1 := .cref 2 0) (v := .cref 2 2) rfl rfl rfl ⟨_, rfl⟩ rfl (evs (ev_ldB (off := 2) (v := dL c159_ddd a0.2.2) rfl rfl rfl rfl (nb rfl) rfl (evs (ev_len (c1 := dL c159_ddd a0.2.2) rfl rfl rfl (evs (ev_mc rfl rfl (evn ?_))))))))
          refine ls_keep [(2, .box [dL c208_dd a0.1, dL c161_dddddd a0.2.1, dL c159_ddd a0.2.2]), (3, .box [dL c208_dd a1.1, dL c161_dddddd a1.2.1, dL c159_ddd a1.2.2]), (70, nI (List.length a0.2.2 : Int)), (71, nI 0)] ⟨kr, kr, kr, kr, trivial⟩ rfl ?_
          obtain ⟨o2, hl, hr2⟩ := ob_some h
          clear h
          have kXimpl_EqualNotifiers_B2 : ∀ (_ : Unit), (some true) = some r → ∀ σ' : PS, okK σ' [] → K25 σ' := by
            intro _ h σ' hk
            refine hK25 _ (ls_keep [] hk rfl ?_)
            refine ls_rs tbOk ?_
            refine evs (ev_ac rfl nofun rfl (evn ?_))
            refine ls_keep [(4, .bool true)] ⟨kr, trivial⟩ rfl ?_
            refine ls_ret ?_
            have hr := Option.some.inj h
            rw [← hr]
            exact ⟨.inl rfl, rfl⟩
          refine ls_rec (fun (y2 : Int) => [(2, .box [dL c208_dd a0.1, dL c161_dddddd a0.2.1, dL c159_ddd a0.2.2]), (3, .box [dL c208_dd a1.1, dL c161_dddddd a1.2.1, dL c159_ddd a1.2.2]), (70, nI (List.length a0.2.2 : Int)), (71, nI y2)]) (impl_EqualNotifiers_B2 a0 a1) fz 0 o2 hl ⟨kr, kr, kr, kr, trivial⟩ (fun _ => rfl) ?_
          rintro m y2 N h hN
          unfold impl_EqualNotifiers_B2 at h
          refine ls_rs tbOk ?_
          refine evs (ev_bin (c1 := nI y2) (c2 := nI (List.length a0.2.2 : Int)) rfl rfl rfl (evn ?_))
          refine ls_keep [(2, .box [dL c208_dd a0.1, dL c161_dddddd a0.2.1, dL c159_ddd a0.2.2]), (3, .box [dL c208_dd a1.1, dL c161_dddddd a1.2.1, dL c159_ddd a1.2.2]), (70, nI (List.length a0.2.2 : Int)), (71, nI y2), (72, .bool (decide (y2 < (List.length a0.2.2 : Int))))] ⟨kr, kr, kr, kr, kr, trivial⟩ rfl ?_
          refine ls_seq_k fun K26 hK26 => ?_
          rcases cond_some h with ⟨g27, h⟩ | ⟨g27, h⟩
          · refine ls_cT rfl g27 ?_
            refine ls_skip ?_
            refine hK26 _ (ls_keep [(2, .box [dL c208_dd a0.1, dL c161_dddddd a0.2.1, dL c159_ddd a0.2.2]), (3, .box [dL c208_dd a1.1, dL c161_dddddd a1.2.1, dL c159_ddd a1.2.2]), (70, nI (List.length a0.2.2 : Int)), (71, nI y2)] ⟨kr, kr, kr, kr, trivial⟩ rfl ?_)
            refine ls_seq_k fun K28 hK28 => ?_
            refine ls_blk ?_
            refine ls_rs tbOk ?_
            refine evs (ev_mv (c := nI y2) rfl rfl rfl (evs (ev_as (c := nI y2) rfl rfl rfl (evn ?_))))
            refine ls_keep [(2, .box [dL c208_dd a0.1, dL c161_dddddd a0.2.1, dL c159_ddd a0.2.2]), (3, .box [dL c208_dd a1.1, dL c161_dddddd a1.2.1, dL c159_ddd a1.2.2]), (6, nI y2), (70, nI (List.length a0.2.2 : Int)), (71, nI y2)] ⟨kr, kr, kr, kr, kr, trivial⟩ rfl ?_
            refine ls_rd tbOk mixed (by kernel_rfl) ?_
            refine evd rfl rfl (ev_fa (c1 := .cref 2 0) (v := .cref 2 2) rfl rfl rfl ⟨_, rfl⟩ rfl (evd rfl rfl (ev_ldB (off := 2) (v := dL c159_ddd a0.2.2) rfl rfl rfl rfl (nb rfl) rfl (evd rfl rfl (ev_mv (c := nI y2) rfl rfl rfl (?_))))))
            obtain ⟨e29, g30, h⟩ := ob_some h
            refine evd rfl rfl (ev_ia rfl rfl rfl ⟨(geti_some g30).1, (geti_some g30).2.1⟩ (evd rfl rfl (ev_ldE (i := y2) (n := 3) (off := 0) (v := .agg (c159_ddd e29)) rfl rfl zc159_ddd g30 rfl (nb rfl) rfl (evd rfl rfl (ev_fa (c1 := .cref 3 0) (v := .cref 3 2) rfl rfl rfl ⟨_, rfl⟩ rfl (evd rfl rfl (ev_ldB (off := 2) (v := dL c159_ddd a1.2.2) rfl rfl rfl rfl (nb rfl) rfl (evd rfl rfl (ev_mv (c := nI y2) rfl rfl rfl (?_))))))))))
            obtain ⟨e31, g32, h⟩ := ob_some h
            refine evd rfl rfl (ev_ia rfl rfl rfl ⟨(geti_some g32).1, (geti_some g32).2.1⟩ (evd rfl rfl (ev_ldE (i := y2) (n := 3) (off := 0) (v := .agg (c159_ddd e31)) rfl rfl zc159_ddd g32 rfl (nb rfl) rfl (?_))))
            obtain ⟨v33, g34, h⟩ := ob_some h
            refine evd rfl rfl (ev_call (era rfl (erg (erc rfl (erc (erD ec25_d _) (erc (erD eci64 _) rfl)))) (era rfl (erg (erc rfl (erc (erD ec25_d _) (erc (erD eci64 _) rfl)))) eran)) (impl_EqualCounted_s g34) (evd rfl rfl (ev_un (c1 := .bool v33) rfl trivial (evdn ?_))))
            refine ls_keep [(2, .box [dL c208_dd a0.1, dL c161_dddddd a0.2.1, dL c159_ddd a0.2.2]), (3, .box [dL c208_dd a1.1, dL c161_dddddd a1.2.1, dL c159_ddd a1.2.2]), (70, nI (List.length a0.2.2 : Int)), (71, nI y2), (85, .bool (!v33))] ⟨kr, kr, kr, kr, kr, trivial⟩ rfl ?_
            rcases cond_some h with ⟨g35, h⟩ | ⟨g35, h⟩
            · refine ls_cT rfl g35 ?_
              refine ls_rs tbOk ?_
              refine evs (ev_ac rfl nofun rfl (evn ?_))
              refine ls_keep [(4, .bool false)] ⟨kr, trivial⟩ rfl ?_
              refine ls_ret ?_
              have q0 := (Option.some.inj h).symm
              have r0 := hr2
              rw [q0] at r0
              have hr := Option.some.inj r0
              rw [← hr]
              exact ⟨.inl rfl, rfl⟩
            · refine ls_cF rfl g35 ?_
              refine ls_skip ?_
              refine hK28 _ (ls_keep [(2, .box [dL c208_dd a0.1, dL c161_dddddd a0.2.1, dL c159_ddd a0.2.2]), (3, .box [dL c208_dd a1.1, dL c161_dddddd a1.2.1, dL c159_ddd a1.2.2]), (70, nI (List.length a0.2.2 : Int)), (71, nI y2)] ⟨kr, kr, kr, kr, trivial⟩ rfl ?_)
              refine ls_rgn tbOk ?_
              refine evs (ev_bin (c1 := nI y2) (c2 := nI 1) rfl rfl rfl (evs (ev_mv (c := nI (IntKind.i64.wrap (y2 + 1))) rfl rfl rfl (evn ?_))))
              exact hN _ (IntKind.i64.wrap (y2 + 1)) h ⟨kr, kr, kr, kr, trivial⟩
          · refine ls_cF rfl g27 ?_
            refine ls_exit ?_
            have q0 := (Option.some.inj h).symm
            have r0 := hr2
            rw [q0] at r0
            exact kXimpl_EqualNotifiers_B2 () r0 _ trivial
        refine ls_rec (fun (y1 : Int) => [(2, .box [dL c208_dd a0.1, dL c161_dddddd a0.2.1, dL c159_ddd a0.2.2]), (3, .box [dL c208_dd a1.1, dL c161_dddddd a1.2.1, dL c159_ddd a1.2.2]), (33, nI (List.length a0.2.1 : Int)), (34, nI y1)]) (impl_EqualNotifiers_B1 a0 a1) fz 0 o1 hl ⟨kr, kr, kr, kr, trivial⟩ (fun _ => rfl) ?_
        rintro m y1 N h hN
        unfold impl_EqualNotifiers_B1 at h
        refine ls_rs tbOk ?_
        refine evs (ev_bin (c1 := nI y1) (c2 := nI (List.length a0.2.1 : Int)) rfl rfl rfl (evn ?_))
        refine ls_keep [(2, .box [dL c208_dd a0.1, dL c161_dddddd a0.2.1, dL c159_ddd a0.2.2]), (3, .box [dL c208_dd a1.1, dL c161_dddddd a1.2.1, dL c159_ddd a1.2.2]), (33, nI (List.length a0.2.1 : Int)), (34, nI y1), (35, .bool (decide (y1 < (List.length a0.2.1 : Int))))] ⟨kr, kr, kr, kr, kr, trivial⟩ rfl ?_
        refine ls_seq_k fun K8 hK8 => ?_
        rcases cond_some h with ⟨g9, h⟩ | ⟨g9, h⟩
        · refine ls_cT rfl g9 ?_
          refine ls_skip ?_
          refine hK8 _ (ls_keep [(2, .box [dL c208_dd a0.1, dL c161_dddddd a0.2.1, dL c159_ddd a0.2.2]), (3, .box [dL c208_dd a1.1, dL c161_dddddd a1.2.1, dL c159_ddd a1.2.2]), (33, nI (List.length a0.2.1 : Int)), (34, nI y1)] ⟨kr, kr, kr, kr, trivial⟩ rfl ?_)
          refine ls_seq_k fun K10 hK10 => ?_
          refine ls_blk ?_
          refine ls_rs tbOk ?_
          refine evs (ev_mv (c := nI y1) rfl rfl rfl (evs (ev_as (c := nI y1) rfl rfl rfl (evn ?_))))
          refine ls_keep [(2, .box [dL c208_dd a0.1, dL c161_dddddd a0.2.1, dL c159_ddd a0.2.2]), (3, .box [dL c208_dd a1.1, dL c161_dddddd a1.2.1, dL c159_ddd a1.2.2]), (5, nI y1), (33, nI (List.length a0.2.1 : Int)), (34, nI y1)] ⟨kr, kr, kr, kr, kr, trivial⟩ rfl ?_
          refine ls_rd tbOk mixed (by kernel_rfl) ?_
          refine evd rfl rfl (ev_fa (c1 := .cref 2 0) (v := .cref 2 1) rfl rfl rfl ⟨_, rfl⟩ rfl (evd rfl rfl (ev_ldB (off := 1) (v := dL c161_dddddd a0.2.1) rfl rfl rfl rfl (nb rfl) rfl (evd rfl rfl (ev_mv (c := nI y1) rfl rfl rfl (?_))))))
          obtain ⟨e11, g12, h⟩ := ob_some h
          refine evd rfl rfl (ev_ia rfl rfl rfl ⟨(geti_some g12).1, (geti_some g12).2.1⟩ (evd rfl rfl (ev_fa (c1 := .adr (a0.2.1.flatMap c161_dddddd) (Int.toNat y1 * 6)) (v := .adr (a0.2.1.flatMap c161_dddddd) (Int.toNat y1 * 6)) rfl rfl rfl trivial rfl (evd rfl rfl (ev_ldE (i := y1) (n := 6) (off := 0) (v := .agg (c92_ddd e11.1)) rfl rfl zc161_dddddd g12 rfl (nb rfl) rfl (evd rfl rfl (ev_fa (c1 := .cref 3 0) (v := .cref 3 1) rfl rfl rfl ⟨_, rfl⟩ rfl (evd rfl rfl (ev_ldB (off := 1) (v := dL c161_dddddd a1.2.1) rfl rfl rfl rfl (nb rfl) rfl (evd rfl rfl (ev_mv (c := nI y1) rfl rfl rfl (?_))))))))))))
          obtain ⟨e13, g14, h⟩ := ob_some h
          refine evd rfl rfl (ev_ia rfl rfl rfl ⟨(geti_some g14).1, (geti_some g14).2.1⟩ (evd rfl rfl (ev_fa (c1 := .adr (a1.2.1.flatMap c161_dddddd) (Int.toNat y1 * 6)) (v := .adr (a1.2.1.flatMap c161_dddddd) (Int.toNat y1 * 6)) rfl rfl rfl trivial rfl (evd rfl rfl (ev_ldE (i := y1) (n := 6) (off := 0) (v := .agg (c92_ddd e13.1)) rfl rfl zc161_dddddd g14 rfl (nb rfl) rfl (?_))))))
          obtain ⟨v15, g16, h⟩ := ob_some h
          refine evd rfl rfl (ev_call (era rfl (erg (erc rfl (erc (erD ec195_d _) (erc (erD eci64 _) rfl)))) (era rfl (erg (erc rfl (erc (erD ec195_d _) (erc (erD eci64 _) rfl)))) eran)) (impl_EqualQueries_s g16) (evd rfl rfl (ev_un (c1 := .bool v15) rfl trivial (evd rfl rfl (ev_mv (c := .bool (!v15)) rfl rfl rfl (?_))))))
          rcases cond_some h with ⟨g17, h⟩ | ⟨g17, h⟩
          · refine evd rfl rfl (ev_gs rfl rfl (isb_T g17) (evd rfl rfl (ev_gs rfl rfl (isb_T g17) (evd rfl rfl (ev_gs rfl rfl (isb_T g17) (evd rfl rfl (ev_gs rfl rfl (isb_T g17) (evd rfl rfl (ev_gs rfl rfl (isb_T g17) (evd rfl rfl (ev_gs rfl rfl (isb_T g17) (evd rfl rfl (ev_gs rfl rfl (isb_T g17) (evd rfl rfl (ev_gs rfl rfl (isb_T g17) (evd rfl rfl (ev_gs rfl rfl (isb_T g17) (evd rfl rfl (ev_gs rfl rfl (isb_T g17) (evd rfl rfl (ev_gs rfl rfl (isb_T g17) (evd rfl rfl (ev_gs rfl rfl (isb_T g17) (evd rfl rfl (ev_gs rfl rfl (isb_T g17) (evd rfl rfl (ev_gs rfl rfl (isb_T g17) (evd rfl rfl (ev_pkT (c1 := .bool true) rfl g17 rfl rfl (evdn ?_))))))))))))))))))))))))))))))
            refine ls_keep [(2, .box [dL c208_dd a0.1, dL c161_dddddd a0.2.1, dL c159_ddd a0.2.2]), (3, .box [dL c208_dd a1.1, dL c161_dddddd a1.2.1, dL c159_ddd a1.2.2]), (33, nI (List.length a0.2.1 : Int)), (34, nI y1), (66, .bool true)] ⟨kr, kr, kr, kr, kr, trivial⟩ rfl ?_
            refine ls_cT rfl rfl ?_
            refine ls_rs tbOk ?_
            refine evs (ev_ac rfl nofun rfl (evn ?_))
            refine ls_keep [(4, .bool false)] ⟨kr, trivial⟩ rfl ?_
            refine ls_ret ?_
            have q0 := (Option.some.inj h).symm
            have r0 := hr1
            rw [q0] at r0
            have hr := Option.some.inj r0
            rw [← hr]
            exact ⟨.inl rfl, rfl⟩
          · refine evd rfl rfl (ev_gr rfl (congrArg V.bool g17) (ev_fa (c1 := .cref 2 0) (v := .cref 2 1) rfl rfl rfl ⟨_, rfl⟩ rfl (evd rfl rfl (ev_gr rfl (congrArg V.bool g17) (ev_ldB (off := 1) (v := dL c161_dddddd a0.2.1) rfl rfl rfl rfl (nb rfl) rfl (evd rfl rfl (ev_gr rfl (congrArg V.bool g17) (ev_mv (c := nI y1) rfl rfl rfl (?_)))))))))
            obtain ⟨e18, g19, h⟩ := ob_some h
            refine evd rfl rfl (ev_gr rfl (congrArg V.bool g17) (ev_ia rfl rfl rfl ⟨(geti_some g19).1, (geti_some g19).2.1⟩ (evd rfl rfl (ev_gr rfl (congrArg V.bool g17) (ev_fa (c1 := .adr (a0.2.1.flatMap c161_dddddd) (Int.toNat y1 * 6)) (v := .adr (a0.2.1.flatMap c161_dddddd) (Int.toNat y1 * 6 + 3)) rfl rfl rfl trivial rfl (evd rfl rfl (ev_gr rfl (congrArg V.bool g17) (ev_ldE (i := y1) (n := 6) (off := 3) (v := .agg (c159_ddd e18.2)) rfl rfl zc161_dddddd g19 rfl (nb rfl) rfl (evd rfl rfl (ev_gr rfl (congrArg V.bool g17) (ev_fa (c1 := .cref 3 0) (v := .cref 3 1) rfl rfl rfl ⟨_, rfl⟩ rfl (evd rfl rfl (ev_gr rfl (congrArg V.bool g17) (ev_ldB (off := 1) (v := dL c161_dddddd a1.2.1) rfl rfl rfl rfl (nb rfl) rfl (evd rfl rfl (ev_gr rfl (congrArg V.bool g17) (ev_mv (c := nI y1) rfl rfl rfl (?_))))))))))))))))))
            obtain ⟨e20, g21, h⟩ := ob_some h
            refine evd rfl rfl (ev_gr rfl (congrArg V.bool g17) (ev_ia rfl rfl rfl ⟨(geti_some g21).1, (geti_some g21).2.1⟩ (evd rfl rfl (ev_gr rfl (congrArg V.bool g17) (ev_fa (c1 := .adr (a1.2.1.flatMap c161_dddddd) (Int.toNat y1 * 6)) (v := .adr (a1.2.1.flatMap c161_dddddd) (Int.toNat y1 * 6 + 3)) rfl rfl rfl trivial rfl (evd rfl rfl (ev_gr rfl (congrArg V.bool g17) (ev_ldE (i := y1) (n := 6) (off := 3) (v := .agg (c159_ddd e20.2)) rfl rfl zc161_dddddd g21 rfl (nb rfl) rfl (?_)))))))))
            obtain ⟨v22, g23, h⟩ := ob_some h
            refine evd rfl rfl (ev_gr rfl (congrArg V.bool g17) (ev_call (era rfl (erg (erc rfl (erc (erD ec25_d _) (erc (erD eci64 _) rfl)))) (era rfl (erg (erc rfl (erc (erD ec25_d _) (erc (erD eci64 _) rfl)))) eran)) (impl_EqualCounted_s g23) (evd rfl rfl (ev_gr rfl (congrArg V.bool g17) (ev_un (c1 := .bool v22) rfl trivial (evd rfl rfl (ev_pkF (c1 := .bool (!v22)) rfl g17 rfl rfl (evdn ?_))))))))
            refine ls_keep [(2, .box [dL c208_dd a0.1, dL c161_dddddd a0.2.1, dL c159_ddd a0.2.2]), (3, .box [dL c208_dd a1.1, dL c161_dddddd a1.2.1, dL c159_ddd a1.2.2]), (33, nI (List.length a0.2.1 : Int)), (34, nI y1), (66, .bool (!v22))] ⟨kr, kr, kr, kr, kr, trivial⟩ rfl ?_
            rcases cond_some h with ⟨g24, h⟩ | ⟨g24, h⟩
            · refine ls_cT rfl g24 ?_
              refine ls_rs tbOk ?_
              refine evs (ev_ac rfl nofun rfl (evn ?_))
              refine ls_keep [(4, .bool false)] ⟨kr, trivial⟩ rfl ?_
              refine ls_ret ?_
              have q0 := (Option.some.inj h).symm
              have r0 := hr1
              rw [q0] at r0
              have hr := Option.some.inj r0
              rw [← hr]
              exact ⟨.inl rfl, rfl⟩
            · refine ls_cF rfl g24 ?_
              refine ls_skip ?_
              refine hK10 _ (ls_keep [(2, .box [dL c208_dd a0.1, dL c161_dddddd a0.2.1, dL c159_ddd a0.2.2]), (3, .box [dL c208_dd a1.1, dL c161_dddddd a1.2.1, dL c159_ddd a1.2.2]), (33, nI (List.length a0.2.1 : Int)), (34, nI y1)] ⟨kr, kr, kr, kr, trivial⟩ rfl ?_)
              refine ls_rgn tbOk ?_
              refine evs (ev_bin (c1 := nI y1) (c2 := nI 1) rfl rfl rfl (evs (ev_mv (c := nI (IntKind.i64.wrap (y1 + 1))) rfl rfl rfl (evn ?_))))
              exact hN _ (IntKind.i64.wrap (y1 + 1)) h ⟨kr, kr, kr, kr, trivial⟩
        · refine ls_cF rfl g9 ?_
          refine ls_exit ?_
          have q0 := (Option.some.inj h).symm
          have r0 := hr1
          rw [q0] at r0
          exact kXimpl_EqualNotifiers_B1 () r0 _ ⟨kr, kr, trivial⟩
end Go.Proofs.Ytkcfahfladikkaa
