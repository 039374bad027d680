/-
  Functions of the program as typed functions, printed by gen.py, and that the program's functions do what they say. No conditions.
-/
import Derived.Test.YtkcfahfladikkaaKb
import Derived.Test.YtkcfahfladikkaaLit2X1
namespace Go.Proofs.Ytkcfahfladikkaa
open Go.RowKit
set_option linter.unusedVariables false
set_option maxRecDepth 100000
set_option maxHeartbeats 1000000
def laws_szIntS (a0 : List Int) (a1 : Int) : Option (Int) := cond (decide ((IntKind.i64.wrap (a1 - (List.length a0 : Int))) < 0)) (some (-1)) (some (IntKind.i64.wrap (a1 - (List.length a0 : Int))))
theorem laws_szIntS_s {a0 : List Int} {a1 : Int} {r : Int} (h : laws_szIntS a0 a1 = some r) : SoundAt Try.prog 72 [dL ci64 a0, nI a1] (nI r) := by
  unfold laws_szIntS at h
  refine sound_lit tbOk lit72 (nb rfl) rfl ?_
  unfold c72
  refine ls_keep [(0, dL ci64 a0), (1, nI a1)] ⟨kr, kr, trivial⟩ rfl ?_
  refine ls_rs tbOk ?_
  refine evs (ev_ac rfl nofun rfl (evn ?_))
  refine ls_keep [(0, dL ci64 a0), (1, nI a1)] ⟨kr, kr, trivial⟩ rfl ?_
  refine ls_rs tbOk ?_
  refine evs (ev_mv (c := nI a1) rfl rfl rfl (evs (ev_mv (c := dL ci64 a0) rfl rfl rfl (evs (ev_len (c1 := dL ci64 a0) rfl rfl rfl (evs (ev_bin (c1 := nI a1) (c2 := nI (List.length a0 : Int)) rfl rfl rfl (evs (ev_as (c := nI (IntKind.i64.wrap (a1 - (List.length a0 : Int)))) rfl rfl rfl (evn ?_))))))))))
  refine ls_keep [(1, nI (IntKind.i64.wrap (a1 - (List.length a0 : Int))))] ⟨kr, trivial⟩ rfl ?_
  refine ls_seq_k fun K1 hK1 => ?_
  refine ls_rs tbOk ?_
  refine evs (ev_mv (c := nI (IntKind.i64.wrap (a1 - (List.length a0 : Int)))) rfl rfl rfl (evs (ev_bin (c1 := nI (IntKind.i64.wrap (a1 - (List.length a0 : Int)))) (c2 := nI 0) rfl rfl rfl (evn ?_))))
  refine ls_keep [(1, nI (IntKind.i64.wrap (a1 - (List.length a0 : Int)))), (10, .bool (decide ((IntKind.i64.wrap (a1 - (List.length a0 : Int))) < 0)))] ⟨kr, kr, trivial⟩ rfl ?_
  rcases cond_some h with ⟨g2, h⟩ | ⟨g2, h⟩
  · refine ls_cT rfl g2 ?_
    refine ls_rs tbOk ?_
    refine evs (ev_ac rfl nofun rfl (evn ?_))
    refine ls_keep [(4, nI (-1))] ⟨kr, trivial⟩ rfl ?_
    refine ls_ret ?_
    have hr := Option.some.inj h
    rw [← hr]
    exact ⟨.inl rfl, rfl⟩
  · refine ls_cF rfl g2 ?_
    refine ls_skip ?_
    refine hK1 _ (ls_keep [(1, nI (IntKind.i64.wrap (a1 - (List.length a0 : Int))))] ⟨kr, trivial⟩ rfl ?_)
    refine ls_rs tbOk ?_
    refine evs (ev_mv (c := nI (IntKind.i64.wrap (a1 - (List.length a0 : Int)))) rfl rfl rfl (evs (ev_as (c := nI (IntKind.i64.wrap (a1 - (List.length a0 : Int)))) rfl rfl rfl (evn ?_))))
    refine ls_keep [(4, nI (IntKind.i64.wrap (a1 - (List.length a0 : Int))))] ⟨kr, trivial⟩ rfl ?_
    refine ls_ret ?_
    have hr := Option.some.inj h
    rw [← hr]
    exact ⟨.inl rfl, rfl⟩
abbrev Y194 := (List UInt8) × (List Int)
def c231_d (x : Y194) : List V := [.str x.1, dL ci64 x.2]
theorem zc231_d (x : Y194) : (c231_d x).length = 2 := rfl
theorem ec231_d (x : Y194) : erL (c231_d x) = c231_d x := (erc rfl (erc (erD eci64 _) rfl))
def laws_szAtom (a0 : Y194) (a1 : Int) : Option (Int) := cond (decide ((IntKind.i64.wrap (a1 - (List.length a0.1 : Int))) < 0)) (some (-1)) (obind (laws_szIntS a0.2 (IntKind.i64.wrap (a1 - (List.length a0.1 : Int)))) fun v3 => cond (decide (v3 < 0)) (some (-1)) (some v3))
theorem laws_szAtom_s {a0 : Y194} {a1 : Int} {r : Int} (h : laws_szAtom a0 a1 = some r) : SoundAt Try.prog 198 [.agg (c231_d a0), nI a1] (nI r) := by
  unfold laws_szAtom at h
  refine sound_lit tbOk lit198 (nb rfl) rfl ?_
  unfold c198
  refine ls_keep [(0, .agg (c231_d a0)), (1, nI a1)] ⟨kr, kr, trivial⟩ rfl ?_
  refine ls_rs tbOk ?_
  refine evs (ev_bx (c1 := .agg (c231_d a0)) rfl rfl rfl (evs (ev_ac rfl nofun rfl (evn ?_))))
  refine ls_keep [(1, nI a1), (2, .box [.str a0.1, dL ci64 a0.2])] ⟨kr, kr, trivial⟩ rfl ?_
  refine ls_rs tbOk ?_
  refine evs (ev_mv (c := nI a1) rfl rfl rfl (evs (ev_fa (c1 := .cref 2 0) (v := .cref 2 0) rfl rfl rfl ⟨_, rfl⟩ rfl (evs (ev_ldB (off := 0) (v := .str a0.1) rfl rfl rfl rfl (nb rfl) rfl (evs (ev_lens (z := []) rfl rfl (evs (ev_bin (c1 := nI a1) (c2 := nI (List.length a0.1 : Int)) rfl rfl rfl (evs (ev_as (c := nI (IntKind.i64.wrap (a1 - (List.length a0.1 : Int)))) rfl rfl rfl (evn ?_))))))))))))
  refine ls_keep [(1, nI (IntKind.i64.wrap (a1 - (List.length a0.1 : Int)))), (2, .box [.str a0.1, dL ci64 a0.2])] ⟨kr, kr, trivial⟩ rfl ?_
  refine ls_seq_k fun K1 hK1 => ?_
  refine ls_rs tbOk ?_
  refine evs (ev_mv (c := nI (IntKind.i64.wrap (a1 - (List.length a0.1 : Int)))) rfl rfl rfl (evs (ev_bin (c1 := nI (IntKind.i64.wrap (a1 - (List.length a0.1 : Int)))) (c2 := nI 0) rfl rfl rfl (evn ?_))))
  refine ls_keep [(1, nI (IntKind.i64.wrap (a1 - (List.length a0.1 : Int)))), (2, .box [.str a0.1, dL ci64 a0.2]), (11, .bool (decide ((IntKind.i64.wrap (a1 - (List.length a0.1 : Int))) < 0)))] ⟨kr, kr, kr, trivial⟩ rfl ?_
  rcases cond_some h with ⟨g2, h⟩ | ⟨g2, h⟩
  · refine ls_cT rfl g2 ?_
    refine ls_rs tbOk ?_
    refine evs (ev_ac rfl nofun rfl (evn ?_))
    refine ls_keep [(4, nI (-1))] ⟨kr, trivial⟩ rfl ?_
    refine ls_ret ?_
    have hr := Option.some.inj h
    rw [← hr]
    exact ⟨.inl rfl, rfl⟩
  · refine ls_cF rfl g2 ?_
    refine ls_skip ?_
    refine hK1 _ (ls_keep [(1, nI (IntKind.i64.wrap (a1 - (List.length a0.1 : Int)))), (2, .box [.str a0.1, dL ci64 a0.2])] ⟨kr, kr, trivial⟩ rfl ?_)
    refine ls_rs tbOk ?_
    refine evs (ev_fa (c1 := .cref 2 0) (v := .cref 2 1) rfl rfl rfl ⟨_, rfl⟩ rfl (evs (ev_ldB (off := 1) (v := dL ci64 a0.2) rfl rfl rfl rfl (nb rfl) rfl (evs (ev_mv (c := nI (IntKind.i64.wrap (a1 - (List.length a0.1 : Int)))) rfl rfl rfl (?_))))))
    obtain ⟨v3, g4, h⟩ := ob_some h
    refine evs (ev_call (era rfl (erD eci64 _) (era rfl rfl eran)) (laws_szIntS_s g4) (evs (ev_as (c := nI v3) rfl rfl rfl (evn ?_))))
    refine ls_keep [(1, nI v3)] ⟨kr, trivial⟩ rfl ?_
    refine ls_seq_k fun K5 hK5 => ?_
    refine ls_rs tbOk ?_
    refine evs (ev_mv (c := nI v3) rfl rfl rfl (evs (ev_bin (c1 := nI v3) (c2 := nI 0) rfl rfl rfl (evn ?_))))
    refine ls_keep [(1, nI v3), (17, .bool (decide (v3 < 0)))] ⟨kr, kr, trivial⟩ rfl ?_
    rcases cond_some h with ⟨g6, h⟩ | ⟨g6, h⟩
    · refine ls_cT rfl g6 ?_
      refine ls_rs tbOk ?_
      refine evs (ev_ac rfl nofun rfl (evn ?_))
      refine ls_keep [(4, nI (-1))] ⟨kr, trivial⟩ rfl ?_
      refine ls_ret ?_
      have hr := Option.some.inj h
      rw [← hr]
      exact ⟨.inl rfl, rfl⟩
    · refine ls_cF rfl g6 ?_
      refine ls_skip ?_
      refine hK5 _ (ls_keep [(1, nI v3)] ⟨kr, trivial⟩ rfl ?_)
      refine ls_rs tbOk ?_
      refine evs (ev_mv (c := nI v3) rfl rfl rfl (evs (ev_as (c := nI v3) rfl rfl rfl (evn ?_))))
      refine ls_keep [(4, nI v3)] ⟨kr, trivial⟩ rfl ?_
      refine ls_ret ?_
      have hr := Option.some.inj h
      rw [← hr]
      exact ⟨.inl rfl, rfl⟩
def laws_szAtomS_B1 (a0 : List Y194) (rec : (Int × Int) → Option (Sum (Int) (Int))) (s : Int × Int) : Option (Sum (Int) (Int)) := match s with
  | (y1, y2) => cond (decide (y2 < (List.length a0 : Int))) (obind (geti a0 y2) fun e8 => obind (laws_szAtom e8 y1) fun v10 => cond (decide (v10 < 0)) (some (.inr (-1))) (rec (v10, (IntKind.i64.wrap (y2 + 1))))) (some (.inl y1))
def laws_szAtomS (a0 : List Y194) (a1 : Int) : Option (Int) := cond (decide ((IntKind.i64.wrap (a1 - (List.length a0 : Int))) < 0)) (some (-1)) (obind (loopF (laws_szAtomS_B1 a0) fz ((IntKind.i64.wrap (a1 - (List.length a0 : Int))), 0)) fun o1 => (match o1 with
  | .inl z4 => (some z4)
  | .inr r => some r))
theorem laws_szAtomS_s {a0 : List Y194} {a1 : Int} {r : Int} (h : laws_szAtomS a0 a1 = some r) : SoundAt Try.prog 120 [dL c231_d a0, nI a1] (nI r) := by
  unfold laws_szAtomS at h
  refine sound_lit tbOk lit120 (nb rfl) rfl ?_
  unfold c120
  refine ls_keep [(0, dL c231_d a0), (1, nI a1)] ⟨kr, kr, trivial⟩ rfl ?_
  refine ls_rs tbOk ?_
  refine evs (ev_ac rfl nofun rfl (evn ?_))
  refine ls_keep [(0, dL c231_d a0), (1, nI a1)] ⟨kr, kr, trivial⟩ rfl ?_
  refine ls_rs tbOk ?_
  refine evs (ev_mv (c := nI a1) rfl rfl rfl (evs (ev_mv (c := dL c231_d a0) rfl rfl rfl (evs (ev_len (c1 := dL c231_d a0) rfl rfl rfl (evs (ev_bin (c1 := nI a1) (c2 := nI (List.length a0 : Int)) rfl rfl rfl (evs (ev_as (c := nI (IntKind.i64.wrap (a1 - (List.length a0 : Int)))) rfl rfl rfl (evn ?_))))))))))
  refine ls_keep [(0, dL c231_d a0), (1, nI (IntKind.i64.wrap (a1 - (List.length a0 : Int))))] ⟨kr, kr, trivial⟩ rfl ?_
  refine ls_seq_k fun K1 hK1 => ?_
  refine ls_rs tbOk ?_
  refine evs (ev_mv (c := nI (IntKind.i64.wrap (a1 - (List.length a0 : Int)))) rfl rfl rfl (evs (ev_bin (c1 := nI (IntKind.i64.wrap (a1 - (List.length a0 : Int)))) (c2 := nI 0) rfl rfl rfl (evn ?_))))
  refine ls_keep [(0, dL c231_d a0), (1, nI (IntKind.i64.wrap (a1 - (List.length a0 : Int)))), (11, .bool (decide ((IntKind.i64.wrap (a1 - (List.length a0 : Int))) < 0)))] ⟨kr, kr, kr, trivial⟩ rfl ?_
  rcases cond_some h with ⟨g2, h⟩ | ⟨g2, h⟩
  · refine ls_cT rfl g2 ?_
    refine ls_rs tbOk ?_
    refine evs (ev_ac rfl nofun rfl (evn ?_))
    refine ls_keep [(4, nI (-1))] ⟨kr, trivial⟩ rfl ?_
    refine ls_ret ?_
    have hr := Option.some.inj h
    rw [← hr]
    exact ⟨.inl rfl, rfl⟩
  · refine ls_cF rfl g2 ?_
    refine ls_skip ?_
    refine hK1 _ (ls_keep [(0, dL c231_d a0), (1, nI (IntKind.i64.wrap (a1 - (List.length a0 : Int))))] ⟨kr, kr, trivial⟩ rfl ?_)
    refine ls_seq_k fun K3 hK3 => ?_
    refine ls_rs tbOk ?_
    refine evs (ev_ac rfl nofun rfl (evn ?_))
    refine ls_keep [(0, dL c231_d a0), (1, nI (IntKind.i64.wrap (a1 - (List.length a0 : Int)))), (5, nI 0)] ⟨kr, kr, kr, trivial⟩ rfl ?_
    obtain ⟨o1, hl, hr1⟩ := ob_some h
    clear h
    have kXlaws_szAtomS_B1 : ∀ (z4 : Int), (some z4) = some r → ∀ σ' : PS, okK σ' [(1, nI z4)] → K3 σ' := by
      intro z4 h σ' hk
      refine hK3 _ (ls_keep [(1, nI z4)] hk rfl ?_)
      refine ls_rs tbOk ?_
      refine evs (ev_mv (c := nI z4) rfl rfl rfl (evs (ev_as (c := nI z4) rfl rfl rfl (evn ?_))))
      refine ls_keep [(4, nI z4)] ⟨kr, trivial⟩ rfl ?_
      refine ls_ret ?_
      have hr := Option.some.inj h
      rw [← hr]
      exact ⟨.inl rfl, rfl⟩
    refine ls_rec (fun (s : Int × Int) => match s with | (y1, y2) => [(0, dL c231_d a0), (1, nI y1), (5, nI y2)]) (laws_szAtomS_B1 a0) fz ((IntKind.i64.wrap (a1 - (List.length a0 : Int))), 0) o1 hl ⟨kr, kr, kr, trivial⟩ (fun _ => rfl) ?_
    rintro m ⟨y1, y2⟩ N h hN
    unfold laws_szAtomS_B1 at h
    dsimp only at h
    refine ls_seq_k fun K5 hK5 => ?_
    refine ls_rs tbOk ?_
    refine evs (ev_mv (c := nI y2) rfl rfl rfl (evs (ev_mv (c := dL c231_d a0) rfl rfl rfl (evs (ev_len (c1 := dL c231_d a0) rfl rfl rfl (evs (ev_bin (c1 := nI y2) (c2 := nI (List.length a0 : Int)) rfl rfl rfl (evn ?_))))))))
    refine ls_keep [(0, dL c231_d a0), (1, nI y1), (5, nI y2), (15, .bool (decide (y2 < (List.length a0 : Int))))] ⟨kr, kr, kr, kr, trivial⟩ rfl ?_
    rcases cond_some h with ⟨g6, h⟩ | ⟨g6, h⟩
    · refine ls_cT rfl g6 ?_
      refine ls_skip ?_
      refine hK5 _ (ls_keep [(0, dL c231_d a0), (1, nI y1), (5, nI y2)] ⟨kr, kr, kr, trivial⟩ rfl ?_)
      refine ls_seq_k fun K7 hK7 => ?_
      refine ls_blk ?_
      refine ls_rs tbOk ?_
      refine evs (ev_mv (c := dL c231_d a0) rfl rfl rfl (evs (ev_mv (c := nI y2) rfl rfl rfl (?_))))
      obtain ⟨e8, g9, h⟩ := ob_some h
      refine evs (ev_ia rfl rfl rfl ⟨(geti_some g9).1, (geti_some g9).2.1⟩ (evs (ev_ldE (i := y2) (n := 2) (off := 0) (v := .agg (c231_d e8)) rfl rfl zc231_d g9 rfl (nb rfl) rfl (evs (ev_mv (c := nI y1) rfl rfl rfl (?_))))))
      obtain ⟨v10, g11, h⟩ := ob_some h
      refine evs (ev_call (era rfl (erg (erc rfl (erc (erD eci64 _) rfl))) (era rfl rfl eran)) (laws_szAtom_s g11) (evs (ev_as (c := nI v10) rfl rfl rfl (evn ?_))))
      refine ls_keep [(0, dL c231_d a0), (1, nI v10), (5, nI y2)] ⟨kr, kr, kr, trivial⟩ rfl ?_
      refine ls_rs tbOk ?_
      refine evs (ev_mv (c := nI v10) rfl rfl rfl (evs (ev_bin (c1 := nI v10) (c2 := nI 0) rfl rfl rfl (evn ?_))))
      refine ls_keep [(0, dL c231_d a0), (1, nI v10), (5, nI y2), (25, .bool (decide (v10 < 0)))] ⟨kr, kr, kr, kr, trivial⟩ rfl ?_
      rcases cond_some h with ⟨g12, h⟩ | ⟨g12, h⟩
      · refine ls_cT rfl g12 ?_
        refine ls_rs tbOk ?_
        refine evs (ev_ac rfl nofun rfl (evn ?_))
        refine ls_keep [(4, nI (-1))] ⟨kr, trivial⟩ rfl ?_
        refine ls_ret ?_
        have q0 := (Option.some.inj h).symm
        have r0 := hr1
        rw [q0] at r0
        have hr := Option.some.inj r0
        rw [← hr]
        exact ⟨.inl rfl, rfl⟩
      · refine ls_cF rfl g12 ?_
        refine ls_skip ?_
        refine hK7 _ (ls_keep [(0, dL c231_d a0), (1, nI v10), (5, nI y2)] ⟨kr, kr, kr, trivial⟩ rfl ?_)
        refine ls_rgn tbOk ?_
        refine evs (ev_mv (c := nI y2) rfl rfl rfl (evs (ev_bin (c1 := nI y2) (c2 := nI 1) rfl rfl rfl (evs (ev_as (c := nI (IntKind.i64.wrap (y2 + 1))) rfl rfl rfl (evn ?_))))))
        exact hN _ (v10, (IntKind.i64.wrap (y2 + 1))) h ⟨kr, kr, kr, trivial⟩
    · refine ls_cF rfl g6 ?_
      refine ls_exit ?_
      have q0 := (Option.some.inj h).symm
      have r0 := hr1
      rw [q0] at r0
      exact kXlaws_szAtomS_B1 y1 r0 _ ⟨kr, trivial⟩
abbrev Y78 := Int × (List Y194) × (List Int)
def c79_ddd (x : Y78) : List V := [nI x.1, dL c231_d x.2.1, dL ci64 x.2.2]
theorem zc79_ddd (x : Y78) : (c79_ddd x).length = 3 := rfl
theorem ec79_ddd (x : Y78) : erL (c79_ddd x) = c79_ddd x := (erc rfl (erc (erD ec231_d _) (erc (erD eci64 _) rfl)))
def laws_szQuery (a0 : Y78) (a1 : Int) : Option (Int) := obind (laws_szAtomS a0.2.1 a1) fun v1 => cond (decide (v1 < 0)) (some (-1)) (obind (laws_szIntS a0.2.2 v1) fun v5 => cond (decide (v5 < 0)) (some (-1)) (some v5))
theorem laws_szQuery_s {a0 : Y78} {a1 : Int} {r : Int} (h : laws_szQuery a0 a1 = some r) : SoundAt Try.prog 43 [.agg (c79_ddd a0), nI a1] (nI r) := by
  unfold laws_szQuery at h
  refine sound_lit tbOk lit43 (nb rfl) rfl ?_
  unfold c43
  refine ls_keep [(0, .agg (c79_ddd a0)), (1, nI a1)] ⟨kr, kr, trivial⟩ rfl ?_
  refine ls_rs tbOk ?_
  refine evs (ev_bx (c1 := .agg (c79_ddd a0)) rfl rfl rfl (evs (ev_ac rfl nofun rfl (evn ?_))))
  refine ls_keep [(1, nI a1), (2, .box [nI a0.1, dL c231_d a0.2.1, dL ci64 a0.2.2])] ⟨kr, kr, trivial⟩ rfl ?_
  refine ls_rs tbOk ?_
  refine evs (ev_fa (c1 := .cref 2 0) (v := .cref 2 1) rfl rfl rfl ⟨_, rfl⟩ rfl (evs (ev_ldB (off := 1) (v := dL c231_d a0.2.1) rfl rfl rfl rfl (nb rfl) rfl (evs (ev_mv (c := nI a1) rfl rfl rfl (?_))))))
  obtain ⟨v1, g2, h⟩ := ob_some h
  refine evs (ev_call (era rfl (erD ec231_d _) (era rfl rfl eran)) (laws_szAtomS_s g2) (evs (ev_as (c := nI v1) rfl rfl rfl (evn ?_))))
  refine ls_keep [(1, nI v1), (2, .box [nI a0.1, dL c231_d a0.2.1, dL ci64 a0.2.2])] ⟨kr, kr, trivial⟩ rfl ?_
  refine ls_seq_k fun K3 hK3 => ?_
  refine ls_rs tbOk ?_
  refine evs (ev_mv (c := nI v1) rfl rfl rfl (evs (ev_bin (c1 := nI v1) (c2 := nI 0) rfl rfl rfl (evn ?_))))
  refine ls_keep [(1, nI v1), (2, .box [nI a0.1, dL c231_d a0.2.1, dL ci64 a0.2.2]), (10, .bool (decide (v1 < 0)))] ⟨kr, kr, kr, trivial⟩ rfl ?_
  rcases cond_some h with ⟨g4, h⟩ | ⟨g4, h⟩
  · refine ls_cT rfl g4 ?_
    refine ls_rs tbOk ?_
    refine evs (ev_ac rfl nofun rfl (evn ?_))
    refine ls_keep [(4, nI (-1))] ⟨kr, trivial⟩ rfl ?_
    refine ls_ret ?_
    have hr := Option.some.inj h
    rw [← hr]
    exact ⟨.inl rfl, rfl⟩
  · refine ls_cF rfl g4 ?_
    refine ls_skip ?_
    refine hK3 _ (ls_keep [(1, nI v1), (2, .box [nI a0.1, dL c231_d a0.2.1, dL ci64 a0.2.2])] ⟨kr, kr, trivial⟩ rfl ?_)
    refine ls_rs tbOk ?_
    refine evs (ev_fa (c1 := .cref 2 0) (v := .cref 2 2) rfl rfl rfl ⟨_, rfl⟩ rfl (evs (ev_ldB (off := 2) (v := dL ci64 a0.2.2) rfl rfl rfl rfl (nb rfl) rfl (evs (ev_mv (c := nI v1) rfl rfl rfl (?_))))))
    obtain ⟨v5, g6, h⟩ := ob_some h
    refine evs (ev_call (era rfl (erD eci64 _) (era rfl rfl eran)) (laws_szIntS_s g6) (evs (ev_as (c := nI v5) rfl rfl rfl (evn ?_))))
    refine ls_keep [(1, nI v5)] ⟨kr, trivial⟩ rfl ?_
    refine ls_seq_k fun K7 hK7 => ?_
    refine ls_rs tbOk ?_
    refine evs (ev_mv (c := nI v5) rfl rfl rfl (evs (ev_bin (c1 := nI v5) (c2 := nI 0) rfl rfl rfl (evn ?_))))
    refine ls_keep [(1, nI v5), (16, .bool (decide (v5 < 0)))] ⟨kr, kr, trivial⟩ rfl ?_
    rcases cond_some h with ⟨g8, h⟩ | ⟨g8, h⟩
    · refine ls_cT rfl g8 ?_
      refine ls_rs tbOk ?_
      refine evs (ev_ac rfl nofun rfl (evn ?_))
      refine ls_keep [(4, nI (-1))] ⟨kr, trivial⟩ rfl ?_
      refine ls_ret ?_
      have hr := Option.some.inj h
      rw [← hr]
      exact ⟨.inl rfl, rfl⟩
    · refine ls_cF rfl g8 ?_
      refine ls_skip ?_
      refine hK7 _ (ls_keep [(1, nI v5)] ⟨kr, trivial⟩ rfl ?_)
      refine ls_rs tbOk ?_
      refine evs (ev_mv (c := nI v5) rfl rfl rfl (evs (ev_as (c := nI v5) rfl rfl rfl (evn ?_))))
      refine ls_keep [(4, nI v5)] ⟨kr, trivial⟩ rfl ?_
      refine ls_ret ?_
      have hr := Option.some.inj h
      rw [← hr]
      exact ⟨.inl rfl, rfl⟩
def laws_szJoinForest (a0 : List Int) (a1 : Int) : Option (Int) := obind (laws_szIntS a0 a1) fun v1 => cond (decide (v1 < 0)) (some (-1)) (some v1)
theorem laws_szJoinForest_s {a0 : List Int} {a1 : Int} {r : Int} (h : laws_szJoinForest a0 a1 = some r) : SoundAt Try.prog 121 [.agg [dL ci64 a0], nI a1] (nI r) := by
  unfold laws_szJoinForest at h
  refine sound_lit tbOk lit121 (nb rfl) rfl ?_
  unfold c121
  refine ls_keep [(0, .agg [dL ci64 a0]), (1, nI a1)] ⟨kr, kr, trivial⟩ rfl ?_
  refine ls_rs tbOk ?_
  refine evs (ev_bx (c1 := .agg [dL ci64 a0]) rfl rfl rfl (evs (ev_ac rfl nofun rfl (evn ?_))))
  refine ls_keep [(1, nI a1), (2, .box [dL ci64 a0])] ⟨kr, kr, trivial⟩ rfl ?_
  refine ls_rs tbOk ?_
  refine evs (ev_fa (c1 := .cref 2 0) (v := .cref 2 0) rfl rfl rfl ⟨_, rfl⟩ rfl (evs (ev_ldB (off := 0) (v := dL ci64 a0) rfl rfl rfl rfl (nb rfl) rfl (evs (ev_mv (c := nI a1) rfl rfl rfl (?_))))))
  obtain ⟨v1, g2, h⟩ := ob_some h
  refine evs (ev_call (era rfl (erD eci64 _) (era rfl rfl eran)) (laws_szIntS_s g2) (evs (ev_as (c := nI v1) rfl rfl rfl (evn ?_))))
  refine ls_keep [(1, nI v1)] ⟨kr, trivial⟩ rfl ?_
  refine ls_seq_k fun K3 hK3 => ?_
  refine ls_rs tbOk ?_
  refine evs (ev_mv (c := nI v1) rfl rfl rfl (evs (ev_bin (c1 := nI v1) (c2 := nI 0) rfl rfl rfl (evn ?_))))
  refine ls_keep [(1, nI v1), (10, .bool (decide (v1 < 0)))] ⟨kr, kr, trivial⟩ rfl ?_
  rcases cond_some h with ⟨g4, h⟩ | ⟨g4, h⟩
  · refine ls_cT rfl g4 ?_
    refine ls_rs tbOk ?_
    refine evs (ev_ac rfl nofun rfl (evn ?_))
    refine ls_keep [(4, nI (-1))] ⟨kr, trivial⟩ rfl ?_
    refine ls_ret ?_
    have hr := Option.some.inj h
    rw [← hr]
    exact ⟨.inl rfl, rfl⟩
  · refine ls_cF rfl g4 ?_
    refine ls_skip ?_
    refine hK3 _ (ls_keep [(1, nI v1)] ⟨kr, trivial⟩ rfl ?_)
    refine ls_rs tbOk ?_
    refine evs (ev_mv (c := nI v1) rfl rfl rfl (evs (ev_as (c := nI v1) rfl rfl rfl (evn ?_))))
    refine ls_keep [(4, nI v1)] ⟨kr, trivial⟩ rfl ?_
    refine ls_ret ?_
    have hr := Option.some.inj h
    rw [← hr]
    exact ⟨.inl rfl, rfl⟩
def c25_d (x : List Int) : List V := [dL ci64 x]
theorem zc25_d (x : List Int) : (c25_d x).length = 1 := rfl
theorem ec25_d (x : List Int) : erL (c25_d x) = c25_d x := (erc (erD eci64 _) rfl)
def laws_szIntSS_B1 (a0 : List (List Int)) (rec : (Int × Int) → Option (Sum (Int) (Int))) (s : Int × Int) : Option (Sum (Int) (Int)) := match s with
  | (y1, y2) => cond (decide (y2 < (List.length a0 : Int))) (obind (geti a0 y2) fun e8 => obind (laws_szIntS e8 y1) fun v10 => cond (decide (v10 < 0)) (some (.inr (-1))) (rec (v10, (IntKind.i64.wrap (y2 + 1))))) (some (.inl y1))
def laws_szIntSS (a0 : List (List Int)) (a1 : Int) : Option (Int) := cond (decide ((IntKind.i64.wrap (a1 - (List.length a0 : Int))) < 0)) (some (-1)) (obind (loopF (laws_szIntSS_B1 a0) fz ((IntKind.i64.wrap (a1 - (List.length a0 : Int))), 0)) fun o1 => (match o1 with
  | .inl z4 => (some z4)
  | .inr r => some r))
theorem laws_szIntSS_s {a0 : List (List Int)} {a1 : Int} {r : Int} (h : laws_szIntSS a0 a1 = some r) : SoundAt Try.prog 199 [dL c25_d a0, nI a1] (nI r) := by
  unfold laws_szIntSS at h
  refine sound_lit tbOk lit199 (nb rfl) rfl ?_
  unfold c199
  refine ls_keep [(0, dL c25_d a0), (1, nI a1)] ⟨kr, kr, trivial⟩ rfl ?_
  refine ls_rs tbOk ?_
  refine evs (ev_ac rfl nofun rfl (evn ?_))
  refine ls_keep [(0, dL c25_d a0), (1, nI a1)] ⟨kr, kr, trivial⟩ rfl ?_
  refine ls_rs tbOk ?_
  refine evs (ev_mv (c := nI a1) rfl rfl rfl (evs (ev_mv (c := dL c25_d a0) rfl rfl rfl (evs (ev_len (c1 := dL c25_d a0) rfl rfl rfl (evs (ev_bin (c1 := nI a1) (c2 := nI (List.length a0 : Int)) rfl rfl rfl (evs (ev_as (c := nI (IntKind.i64.wrap (a1 - (List.length a0 : Int)))) rfl rfl rfl (evn ?_))))))))))
  refine ls_keep [(0, dL c25_d a0), (1, nI (IntKind.i64.wrap (a1 - (List.length a0 : Int))))] ⟨kr, kr, trivial⟩ rfl ?_
  refine ls_seq_k fun K1 hK1 => ?_
  refine ls_rs tbOk ?_
  refine evs (ev_mv (c := nI (IntKind.i64.wrap (a1 - (List.length a0 : Int)))) rfl rfl rfl (evs (ev_bin (c1 := nI (IntKind.i64.wrap (a1 - (List.length a0 : Int)))) (c2 := nI 0) rfl rfl rfl (evn ?_))))
  refine ls_keep [(0, dL c25_d a0), (1, nI (IntKind.i64.wrap (a1 - (List.length a0 : Int)))), (11, .bool (decide ((IntKind.i64.wrap (a1 - (List.length a0 : Int))) < 0)))] ⟨kr, kr, kr, trivial⟩ rfl ?_
  rcases cond_some h with ⟨g2, h⟩ | ⟨g2, h⟩
  · refine ls_cT rfl g2 ?_
    refine ls_rs tbOk ?_
    refine evs (ev_ac rfl nofun rfl (evn ?_))
    refine ls_keep [(4, nI (-1))] ⟨kr, trivial⟩ rfl ?_
    refine ls_ret ?_
    have hr := Option.some.inj h
    rw [← hr]
    exact ⟨.inl rfl, rfl⟩
  · refine ls_cF rfl g2 ?_
    refine ls_skip ?_
    refine hK1 _ (ls_keep [(0, dL c25_d a0), (1, nI (IntKind.i64.wrap (a1 - (List.length a0 : Int))))] ⟨kr, kr, trivial⟩ rfl ?_)
    refine ls_seq_k fun K3 hK3 => ?_
    refine ls_rs tbOk ?_
    refine evs (ev_ac rfl nofun rfl (evn ?_))
    refine ls_keep [(0, dL c25_d a0), (1, nI (IntKind.i64.wrap (a1 - (List.length a0 : Int)))), (5, nI 0)] ⟨kr, kr, kr, trivial⟩ rfl ?_
    obtain ⟨o1, hl, hr1⟩ := ob_some h
    clear h
    have kXlaws_szIntSS_B1 : ∀ (z4 : Int), (some z4) = some r → ∀ σ' : PS, okK σ' [(1, nI z4)] → K3 σ' := by
      intro z4 h σ' hk
      refine hK3 _ (ls_keep [(1, nI z4)] hk rfl ?_)
      refine ls_rs tbOk ?_
      refine evs (ev_mv (c := nI z4) rfl rfl rfl (evs (ev_as (c := nI z4) rfl rfl rfl (evn ?_))))
      refine ls_keep [(4, nI z4)] ⟨kr, trivial⟩ rfl ?_
      refine ls_ret ?_
      have hr := Option.some.inj h
      rw [← hr]
      exact ⟨.inl rfl, rfl⟩
    refine ls_rec (fun (s : Int × Int) => match s with | (y1, y2) => [(0, dL c25_d a0), (1, nI y1), (5, nI y2)]) (laws_szIntSS_B1 a0) fz ((IntKind.i64.wrap (a1 - (List.length a0 : Int))), 0) o1 hl ⟨kr, kr, kr, trivial⟩ (fun _ => rfl) ?_
    rintro m ⟨y1, y2⟩ N h hN
    unfold laws_szIntSS_B1 at h
    dsimp only at h
    refine ls_seq_k fun K5 hK5 => ?_
    refine ls_rs tbOk ?_
    refine evs (ev_mv (c := nI y2) rfl rfl rfl (evs (ev_mv (c := dL c25_d a0) rfl rfl rfl (evs (ev_len (c1 := dL c25_d a0) rfl rfl rfl (evs (ev_bin (c1 := nI y2) (c2 := nI (List.length a0 : Int)) rfl rfl rfl (evn ?_))))))))
    refine ls_keep [(0, dL c25_d a0), (1, nI y1), (5, nI y2), (15, .bool (decide (y2 < (List.length a0 : Int))))] ⟨kr, kr, kr, kr, trivial⟩ rfl ?_
    rcases cond_some h with ⟨g6, h⟩ | ⟨g6, h⟩
    · refine ls_cT rfl g6 ?_
      refine ls_skip ?_
      refine hK5 _ (ls_keep [(0, dL c25_d a0), (1, nI y1), (5, nI y2)] ⟨kr, kr, kr, trivial⟩ rfl ?_)
      refine ls_seq_k fun K7 hK7 => ?_
      refine ls_blk ?_
      refine ls_rs tbOk ?_
      refine evs (ev_mv (c := dL c25_d a0) rfl rfl rfl (evs (ev_mv (c := nI y2) rfl rfl rfl (?_))))
      obtain ⟨e8, g9, h⟩ := ob_some h
      refine evs (ev_ia rfl rfl rfl ⟨(geti_some g9).1, (geti_some g9).2.1⟩ (evs (ev_ldE (i := y2) (n := 1) (off := 0) (v := dL ci64 e8) rfl rfl zc25_d g9 rfl (nb rfl) rfl (evs (ev_mv (c := nI y1) rfl rfl rfl (?_))))))
      obtain ⟨v10, g11, h⟩ := ob_some h
      refine evs (ev_call (era rfl (erD eci64 _) (era rfl rfl eran)) (laws_szIntS_s g11) (evs (ev_as (c := nI v10) rfl rfl rfl (evn ?_))))
      refine ls_keep [(0, dL c25_d a0), (1, nI v10), (5, nI y2)] ⟨kr, kr, kr, trivial⟩ rfl ?_
      refine ls_rs tbOk ?_
      refine evs (ev_mv (c := nI v10) rfl rfl rfl (evs (ev_bin (c1 := nI v10) (c2 := nI 0) rfl rfl rfl (evn ?_))))
      refine ls_keep [(0, dL c25_d a0), (1, nI v10), (5, nI y2), (25, .bool (decide (v10 < 0)))] ⟨kr, kr, kr, kr, trivial⟩ rfl ?_
      rcases cond_some h with ⟨g12, h⟩ | ⟨g12, h⟩
      · refine ls_cT rfl g12 ?_
        refine ls_rs tbOk ?_
        refine evs (ev_ac rfl nofun rfl (evn ?_))
        refine ls_keep [(4, nI (-1))] ⟨kr, trivial⟩ rfl ?_
        refine ls_ret ?_
        have q0 := (Option.some.inj h).symm
        have r0 := hr1
        rw [q0] at r0
        have hr := Option.some.inj r0
        rw [← hr]
        exact ⟨.inl rfl, rfl⟩
      · refine ls_cF rfl g12 ?_
        refine ls_skip ?_
        refine hK7 _ (ls_keep [(0, dL c25_d a0), (1, nI v10), (5, nI y2)] ⟨kr, kr, kr, trivial⟩ rfl ?_)
        refine ls_rgn tbOk ?_
        refine evs (ev_mv (c := nI y2) rfl rfl rfl (evs (ev_bin (c1 := nI y2) (c2 := nI 1) rfl rfl rfl (evs (ev_as (c := nI (IntKind.i64.wrap (y2 + 1))) rfl rfl rfl (evn ?_))))))
        exact hN _ (v10, (IntKind.i64.wrap (y2 + 1))) h ⟨kr, kr, kr, trivial⟩
    · refine ls_cF rfl g6 ?_
      refine ls_exit ?_
      have q0 := (Option.some.inj h).symm
      have r0 := hr1
      rw [q0] at r0
      exact kXlaws_szIntSS_B1 y1 r0 _ ⟨kr, trivial⟩
abbrev Y83 := (List (List Int)) × (List Int)
def c84_ddd (x : Y83) : List V := [dL c25_d x.1, dL ci64 x.2]
theorem zc84_ddd (x : Y83) : (c84_ddd x).length = 2 := rfl
theorem ec84_ddd (x : Y83) : erL (c84_ddd x) = c84_ddd x := (erc (erD ec25_d _) (erc (erD eci64 _) rfl))
def laws_szDecomposition (a0 : Y83) (a1 : Int) : Option (Int) := obind (laws_szIntSS a0.1 a1) fun v1 => cond (decide (v1 < 0)) (some (-1)) (obind (laws_szIntS a0.2 v1) fun v5 => cond (decide (v5 < 0)) (some (-1)) (some v5))
theorem laws_szDecomposition_s {a0 : Y83} {a1 : Int} {r : Int} (h : laws_szDecomposition a0 a1 = some r) : SoundAt Try.prog 122 [.agg (c84_ddd a0), nI a1] (nI r) := by
  unfold laws_szDecomposition at h
  refine sound_lit tbOk lit122 (nb rfl) rfl ?_
  unfold c122
  refine ls_keep [(0, .agg (c84_ddd a0)), (1, nI a1)] ⟨kr, kr, trivial⟩ rfl ?_
  refine ls_rs tbOk ?_
  refine evs (ev_bx (c1 := .agg (c84_ddd a0)) rfl rfl rfl (evs (ev_ac rfl nofun rfl (evn ?_))))
  refine ls_keep [(1, nI a1), (2, .box [dL c25_d a0.1, dL ci64 a0.2])] ⟨kr, kr, trivial⟩ rfl ?_
  refine ls_rs tbOk ?_
  refine evs (ev_fa (c1 := .cref 2 0) (v := .cref 2 0) rfl rfl rfl ⟨_, rfl⟩ rfl (evs (ev_ldB (off := 0) (v := dL c25_d a0.1) rfl rfl rfl rfl (nb rfl) rfl (evs (ev_mv (c := nI a1) rfl rfl rfl (?_))))))
  obtain ⟨v1, g2, h⟩ := ob_some h
  refine evs (ev_call (era rfl (erD ec25_d _) (era rfl rfl eran)) (laws_szIntSS_s g2) (evs (ev_as (c := nI v1) rfl rfl rfl (evn ?_))))
  refine ls_keep [(1, nI v1), (2, .box [dL c25_d a0.1, dL ci64 a0.2])] ⟨kr, kr, trivial⟩ rfl ?_
  refine ls_seq_k fun K3 hK3 => ?_
  refine ls_rs tbOk ?_
  refine evs (ev_mv (c := nI v1) rfl rfl rfl (evs (ev_bin (c1 := nI v1) (c2 := nI 0) rfl rfl rfl (evn ?_))))
  refine ls_keep [(1, nI v1), (2, .box [dL c25_d a0.1, dL ci64 a0.2]), (10, .bool (decide (v1 < 0)))] ⟨kr, kr, kr, trivial⟩ rfl ?_
  rcases cond_some h with ⟨g4, h⟩ | ⟨g4, h⟩
  · refine ls_cT rfl g4 ?_
    refine ls_rs tbOk ?_
    refine evs (ev_ac rfl nofun rfl (evn ?_))
    refine ls_keep [(4, nI (-1))] ⟨kr, trivial⟩ rfl ?_
    refine ls_ret ?_
    have hr := Option.some.inj h
    rw [← hr]
    exact ⟨.inl rfl, rfl⟩
  · refine ls_cF rfl g4 ?_
    refine ls_skip ?_
    refine hK3 _ (ls_keep [(1, nI v1), (2, .box [dL c25_d a0.1, dL ci64 a0.2])] ⟨kr, kr, trivial⟩ rfl ?_)
    refine ls_rs tbOk ?_
    refine evs (ev_fa (c1 := .cref 2 0) (v := .cref 2 1) rfl rfl rfl ⟨_, rfl⟩ rfl (evs (ev_ldB (off := 1) (v := dL ci64 a0.2) rfl rfl rfl rfl (nb rfl) rfl (evs (ev_mv (c := nI v1) rfl rfl rfl (?_))))))
    obtain ⟨v5, g6, h⟩ := ob_some h
    refine evs (ev_call (era rfl (erD eci64 _) (era rfl rfl eran)) (laws_szIntS_s g6) (evs (ev_as (c := nI v5) rfl rfl rfl (evn ?_))))
    refine ls_keep [(1, nI v5)] ⟨kr, trivial⟩ rfl ?_
    refine ls_seq_k fun K7 hK7 => ?_
    refine ls_rs tbOk ?_
    refine evs (ev_mv (c := nI v5) rfl rfl rfl (evs (ev_bin (c1 := nI v5) (c2 := nI 0) rfl rfl rfl (evn ?_))))
    refine ls_keep [(1, nI v5), (16, .bool (decide (v5 < 0)))] ⟨kr, kr, trivial⟩ rfl ?_
    rcases cond_some h with ⟨g8, h⟩ | ⟨g8, h⟩
    · refine ls_cT rfl g8 ?_
      refine ls_rs tbOk ?_
      refine evs (ev_ac rfl nofun rfl (evn ?_))
      refine ls_keep [(4, nI (-1))] ⟨kr, trivial⟩ rfl ?_
      refine ls_ret ?_
      have hr := Option.some.inj h
      rw [← hr]
      exact ⟨.inl rfl, rfl⟩
    · refine ls_cF rfl g8 ?_
      refine ls_skip ?_
      refine hK7 _ (ls_keep [(1, nI v5)] ⟨kr, trivial⟩ rfl ?_)
      refine ls_rs tbOk ?_
      refine evs (ev_mv (c := nI v5) rfl rfl rfl (evs (ev_as (c := nI v5) rfl rfl rfl (evn ?_))))
      refine ls_keep [(4, nI v5)] ⟨kr, trivial⟩ rfl ?_
      refine ls_ret ?_
      have hr := Option.some.inj h
      rw [← hr]
      exact ⟨.inl rfl, rfl⟩
abbrev Y85 := Int × (List Int) × (List Int) × Y83
def c86_ddddd (x : Y85) : List V := [nI x.1, dL ci64 x.2.1, dL ci64 x.2.2.1, dL c25_d x.2.2.2.1, dL ci64 x.2.2.2.2]
theorem zc86_ddddd (x : Y85) : (c86_ddddd x).length = 5 := rfl
theorem ec86_ddddd (x : Y85) : erL (c86_ddddd x) = c86_ddddd x := (erc rfl (erc (erD eci64 _) (erc (erD eci64 _) (erc (erD ec25_d _) (erc (erD eci64 _) rfl)))))
def laws_szPlan (a0 : Y85) (a1 : Int) : Option (Int) := obind (laws_szIntS a0.2.1 a1) fun v1 => cond (decide (v1 < 0)) (some (-1)) (obind (laws_szJoinForest a0.2.2.1 v1) fun v5 => cond (decide (v5 < 0)) (some (-1)) (obind (laws_szDecomposition a0.2.2.2 v5) fun v9 => cond (decide (v9 < 0)) (some (-1)) (some v9)))
theorem laws_szPlan_s {a0 : Y85} {a1 : Int} {r : Int} (h : laws_szPlan a0 a1 = some r) : SoundAt Try.prog 44 [.agg (c86_ddddd a0), nI a1] (nI r) := by
  unfold laws_szPlan at h
  refine sound_lit tbOk lit44 (nb rfl) rfl ?_
  unfold c44
  refine ls_keep [(0, .agg (c86_ddddd a0)), (1, nI a1)] ⟨kr, kr, trivial⟩ rfl ?_
  refine ls_rs tbOk ?_
  refine evs (ev_bx (c1 := .agg (c86_ddddd a0)) rfl rfl rfl (evs (ev_ac rfl nofun rfl (evn ?_))))
  refine ls_keep [(1, nI a1), (2, .box [nI a0.1, dL ci64 a0.2.1, dL ci64 a0.2.2.1, dL c25_d a0.2.2.2.1, dL ci64 a0.2.2.2.2])] ⟨kr, kr, trivial⟩ rfl ?_
  refine ls_rs tbOk ?_
  refine evs (ev_fa (c1 := .cref 2 0) (v := .cref 2 1) rfl rfl rfl ⟨_, rfl⟩ rfl (evs (ev_ldB (off := 1) (v := dL ci64 a0.2.1) rfl rfl rfl rfl (nb rfl) rfl (evs (ev_mv (c := nI a1) rfl rfl rfl (?_))))))
  obtain ⟨v1, g2, h⟩ := ob_some h
  refine evs (ev_call (era rfl (erD eci64 _) (era rfl rfl eran)) (laws_szIntS_s g2) (evs (ev_as (c := nI v1) rfl rfl rfl (evn ?_))))
  refine ls_keep [(1, nI v1), (2, .box [nI a0.1, dL ci64 a0.2.1, dL ci64 a0.2.2.1, dL c25_d a0.2.2.2.1, dL ci64 a0.2.2.2.2])] ⟨kr, kr, trivial⟩ rfl ?_
  refine ls_seq_k fun K3 hK3 => ?_
  refine ls_rs tbOk ?_
  refine evs (ev_mv (c := nI v1) rfl rfl rfl (evs (ev_bin (c1 := nI v1) (c2 := nI 0) rfl rfl rfl (evn ?_))))
  refine ls_keep [(1, nI v1), (2, .box [nI a0.1, dL ci64 a0.2.1, dL ci64 a0.2.2.1, dL c25_d a0.2.2.2.1, dL ci64 a0.2.2.2.2]), (10, .bool (decide (v1 < 0)))] ⟨kr, kr, kr, trivial⟩ rfl ?_
  rcases cond_some h with ⟨g4, h⟩ | ⟨g4, h⟩
  · refine ls_cT rfl g4 ?_
    refine ls_rs tbOk ?_
    refine evs (ev_ac rfl nofun rfl (evn ?_))
    refine ls_keep [(4, nI (-1))] ⟨kr, trivial⟩ rfl ?_
    refine ls_ret ?_
    have hr := Option.some.inj h
    rw [← hr]
    exact ⟨.inl rfl, rfl⟩
  · refine ls_cF rfl g4 ?_
    refine ls_skip ?_
    refine hK3 _ (ls_keep [(1, nI v1), (2, .box [nI a0.1, dL ci64 a0.2.1, dL ci64 a0.2.2.1, dL c25_d a0.2.2.2.1, dL ci64 a0.2.2.2.2])] ⟨kr, kr, trivial⟩ rfl ?_)
    refine ls_rs tbOk ?_
    refine evs (ev_fa (c1 := .cref 2 0) (v := .cref 2 2) rfl rfl rfl ⟨_, rfl⟩ rfl (evs (ev_ldB (off := 2) (v := .agg [dL ci64 a0.2.2.1]) rfl rfl rfl rfl (nb rfl) rfl (evs (ev_mv (c := nI v1) rfl rfl rfl (?_))))))
    obtain ⟨v5, g6, h⟩ := ob_some h
    refine evs (ev_call (era rfl (erg (erc (erD eci64 _) rfl)) (era rfl rfl eran)) (laws_szJoinForest_s g6) (evs (ev_as (c := nI v5) rfl rfl rfl (evn ?_))))
    refine ls_keep [(1, nI v5), (2, .box [nI a0.1, dL ci64 a0.2.1, dL ci64 a0.2.2.1, dL c25_d a0.2.2.2.1, dL ci64 a0.2.2.2.2])] ⟨kr, kr, trivial⟩ rfl ?_
    refine ls_seq_k fun K7 hK7 => ?_
    refine ls_rs tbOk ?_
    refine evs (ev_mv (c := nI v5) rfl rfl rfl (evs (ev_bin (c1 := nI v5) (c2 := nI 0) rfl rfl rfl (evn ?_))))
    refine ls_keep [(1, nI v5), (2, .box [nI a0.1, dL ci64 a0.2.1, dL ci64 a0.2.2.1, dL c25_d a0.2.2.2.1, dL ci64 a0.2.2.2.2]), (16, .bool (decide (v5 < 0)))] ⟨kr, kr, kr, trivial⟩ rfl ?_
    rcases cond_some h with ⟨g8, h⟩ | ⟨g8, h⟩
    · refine ls_cT rfl g8 ?_
      refine ls_rs tbOk ?_
      refine evs (ev_ac rfl nofun rfl (evn ?_))
      refine ls_keep [(4, nI (-1))] ⟨kr, trivial⟩ rfl ?_
      refine ls_ret ?_
      have hr := Option.some.inj h
      rw [← hr]
      exact ⟨.inl rfl, rfl⟩
    · refine ls_cF rfl g8 ?_
      refine ls_skip ?_
      refine hK7 _ (ls_keep [(1, nI v5), (2, .box [nI a0.1, dL ci64 a0.2.1, dL ci64 a0.2.2.1, dL c25_d a0.2.2.2.1, dL ci64 a0.2.2.2.2])] ⟨kr, kr, trivial⟩ rfl ?_)
      refine ls_rs tbOk ?_
      refine evs (ev_fa (c1 := .cref 2 0) (v := .cref 2 3) rfl rfl rfl ⟨_, rfl⟩ rfl (evs (ev_ldB (off := 3) (v := .agg (c84_ddd a0.2.2.2)) rfl rfl rfl rfl (nb rfl) rfl (evs (ev_mv (c := nI v5) rfl rfl rfl (?_))))))
      obtain ⟨v9, g10, h⟩ := ob_some h
      refine evs (ev_call (era rfl (erg (erc (erD ec25_d _) (erc (erD eci64 _) rfl))) (era rfl rfl eran)) (laws_szDecomposition_s g10) (evs (ev_as (c := nI v9) rfl rfl rfl (evn ?_))))
      refine ls_keep [(1, nI v9)] ⟨kr, trivial⟩ rfl ?_
      refine ls_seq_k fun K11 hK11 => ?_
      refine ls_rs tbOk ?_
      refine evs (ev_mv (c := nI v9) rfl rfl rfl (evs (ev_bin (c1 := nI v9) (c2 := nI 0) rfl rfl rfl (evn ?_))))
      refine ls_keep [(1, nI v9), (22, .bool (decide (v9 < 0)))] ⟨kr, kr, trivial⟩ rfl ?_
      rcases cond_some h with ⟨g12, h⟩ | ⟨g12, h⟩
      · refine ls_cT rfl g12 ?_
        refine ls_rs tbOk ?_
        refine evs (ev_ac rfl nofun rfl (evn ?_))
        refine ls_keep [(4, nI (-1))] ⟨kr, trivial⟩ rfl ?_
        refine ls_ret ?_
        have hr := Option.some.inj h
        rw [← hr]
        exact ⟨.inl rfl, rfl⟩
      · refine ls_cF rfl g12 ?_
        refine ls_skip ?_
        refine hK11 _ (ls_keep [(1, nI v9)] ⟨kr, trivial⟩ rfl ?_)
        refine ls_rs tbOk ?_
        refine evs (ev_mv (c := nI v9) rfl rfl rfl (evs (ev_as (c := nI v9) rfl rfl rfl (evn ?_))))
        refine ls_keep [(4, nI v9)] ⟨kr, trivial⟩ rfl ?_
        refine ls_ret ?_
        have hr := Option.some.inj h
        rw [← hr]
        exact ⟨.inl rfl, rfl⟩
def laws_toIntS_B1 (a0 : List Int) (rec : ((List Int) × Int) → Option ((List Int))) (s : (List Int) × Int) : Option ((List Int)) := match s with
  | (y1, y2) => cond (decide (y2 < (List.length a0 : Int))) (obind (geti a0 y2) fun e7 => obind (geti y1 y2) fun e9 => rec ((seti y1 y2 e7), (IntKind.i64.wrap (y2 + 1)))) (some y1)
def laws_toIntS (a0 : List Int) : Option ((List Int)) := chk ((0 : Int) ≤ (List.length a0 : Int) ∧ Int.toNat (List.length a0 : Int) ≤ lim) (obind (loopF (laws_toIntS_B1 a0) fz ((List.replicate (Int.toNat (List.length a0 : Int)) (0 : Int)), 0)) fun z3 => some z3)
theorem laws_toIntS_s {a0 : List Int} {r : (List Int)} (h : laws_toIntS a0 = some r) : SoundAt Try.prog 58 [dL ci64 a0] (oL 3 ci64 r) := by
  unfold laws_toIntS at h
  refine sound_lit tbOk lit58 (nb rfl) rfl ?_
  unfold c58
  refine ls_keep [(0, dL ci64 a0)] ⟨kr, trivial⟩ rfl ?_
  refine ls_rs tbOk ?_
  refine evs (ev_an rfl rfl (evn ?_))
  refine ls_keep [(0, dL ci64 a0)] ⟨kr, trivial⟩ rfl ?_
  refine ls_rs tbOk ?_
  refine evs (ev_mv (c := dL ci64 a0) rfl rfl rfl (evs (ev_len (c1 := dL ci64 a0) rfl rfl rfl (?_))))
  obtain ⟨g1, h⟩ := chk_some h
  refine evs (ev_mku (f := ci64) (z := (0 : Int)) rfl rfl rfl rfl rfl rfl g1 rfl (evs (ev_asu rfl rfl rfl (evn ?_))))
  refine ls_keep [(0, dL ci64 a0), (3, wL 3 ci64 (List.replicate (Int.toNat (List.length a0 : Int)) (0 : Int)))] ⟨kr, kr, trivial⟩ rfl ?_
  refine ls_seq_k fun K2 hK2 => ?_
  refine ls_rs tbOk ?_
  refine evs (ev_ac rfl nofun rfl (evn ?_))
  refine ls_keep [(0, dL ci64 a0), (3, wL 3 ci64 (List.replicate (Int.toNat (List.length a0 : Int)) (0 : Int))), (4, nI 0)] ⟨kr, kr, kr, trivial⟩ rfl ?_
  obtain ⟨o1, hl, hr1⟩ := ob_some h
  clear h
  have kXlaws_toIntS_B1 : ∀ (z3 : List Int), (some z3) = some r → ∀ σ' : PS, okK σ' [(3, wL 3 ci64 z3)] → K2 σ' := by
    intro z3 h σ' hk
    refine hK2 _ (ls_keep [(3, wL 3 ci64 z3)] hk rfl ?_)
    refine ls_rs tbOk ?_
    refine evs (ev_mvtu rfl rfl (evs (ev_as (c := oL 3 ci64 z3) rfl rfl rfl (evn ?_))))
    refine ls_keep [(2, oL 3 ci64 z3)] ⟨kr, trivial⟩ rfl ?_
    refine ls_ret ?_
    have hr := Option.some.inj h
    rw [← hr]
    exact ⟨.inl rfl, rfl⟩
  refine ls_rec (fun (s : (List Int) × Int) => match s with | (y1, y2) => [(0, dL ci64 a0), (3, wL 3 ci64 y1), (4, nI y2)]) (laws_toIntS_B1 a0) fz ((List.replicate (Int.toNat (List.length a0 : Int)) (0 : Int)), 0) o1 hl ⟨kr, kr, kr, trivial⟩ (fun _ => rfl) ?_
  rintro m ⟨y1, y2⟩ N h hN
  unfold laws_toIntS_B1 at h
  dsimp only at h
  refine ls_seq_k fun K4 hK4 => ?_
  refine ls_rs tbOk ?_
  refine evs (ev_mv (c := nI y2) rfl rfl rfl (evs (ev_mv (c := dL ci64 a0) rfl rfl rfl (evs (ev_len (c1 := dL ci64 a0) rfl rfl rfl (evs (ev_bin (c1 := nI y2) (c2 := nI (List.length a0 : Int)) rfl rfl rfl (evn ?_))))))))
  refine ls_keep [(0, dL ci64 a0), (3, wL 3 ci64 y1), (4, nI y2), (11, .bool (decide (y2 < (List.length a0 : Int))))] ⟨kr, kr, kr, kr, trivial⟩ rfl ?_
  rcases cond_some h with ⟨g5, h⟩ | ⟨g5, h⟩
  · refine ls_cT rfl g5 ?_
    refine ls_skip ?_
    refine hK4 _ (ls_keep [(0, dL ci64 a0), (3, wL 3 ci64 y1), (4, nI y2)] ⟨kr, kr, kr, trivial⟩ rfl ?_)
    refine ls_seq_k fun K6 hK6 => ?_
    refine ls_blk ?_
    refine ls_rgn tbOk ?_
    refine evs (ev_mvu rfl rfl (evs (ev_mv (c := nI y2) rfl rfl rfl (evs (ev_mv (c := dL ci64 a0) rfl rfl rfl (evs (ev_mv (c := nI y2) rfl rfl rfl (?_))))))))
    obtain ⟨e7, g8, h⟩ := ob_some h
    refine evs (ev_ia rfl rfl rfl ⟨(geti_some g8).1, (geti_some g8).2.1⟩ (evs (ev_ldE (i := y2) (n := 1) (off := 0) (v := nI e7) rfl rfl zci64 g8 rfl (nb rfl) rfl (?_))))
    obtain ⟨e9, g10, h⟩ := ob_some h
    refine evs (ev_iau rfl rfl rfl rfl ⟨(geti_some g10).1, (geti_some g10).2.1⟩ (evs (ev_stu (e := e7) (c1 := nI e7) rfl rfl zci64 ⟨(geti_some g10).1, (geti_some g10).2.1⟩ rfl rfl rfl rfl rfl (evn ?_))))
    refine hK6 _ (ls_keep [(0, dL ci64 a0), (3, wL 3 ci64 (seti y1 y2 e7)), (4, nI y2)] ⟨kr, kr, kr, trivial⟩ rfl ?_)
    refine ls_rgn tbOk ?_
    refine evs (ev_mv (c := nI y2) rfl rfl rfl (evs (ev_bin (c1 := nI y2) (c2 := nI 1) rfl rfl rfl (evs (ev_as (c := nI (IntKind.i64.wrap (y2 + 1))) rfl rfl rfl (evn ?_))))))
    exact hN _ ((seti y1 y2 e7), (IntKind.i64.wrap (y2 + 1))) h ⟨kr, kr, kr, trivial⟩
  · refine ls_cF rfl g5 ?_
    refine ls_exit ?_
    have q0 := (Option.some.inj h).symm
    have r0 := hr1
    rw [q0] at r0
    exact kXlaws_toIntS_B1 y1 r0 _ ⟨kr, trivial⟩
def c195_d (x : Y194) : List V := [.str x.1, dL ci64 x.2]
theorem zc195_d (x : Y194) : (c195_d x).length = 2 := rfl
theorem ec195_d (x : Y194) : erL (c195_d x) = c195_d x := (erc rfl (erc (erD eci64 _) rfl))
def c195_o (x : Y194) : List V := [.str x.1, oL 3 ci64 x.2]
theorem zc195_o (x : Y194) : (c195_o x).length = 2 := rfl
theorem ec195_o (x : Y194) : erL (c195_o x) = c195_d x := (erc rfl (erc (erO eci64 _) rfl))
def laws_toAtom (a0 : Y194) : Option (Y194) := obind (laws_toIntS a0.2) fun v1 => some (a0.1, v1)
theorem laws_toAtom_s {a0 : Y194} {r : Y194} (h : laws_toAtom a0 = some r) : SoundAt Try.prog 207 [.agg (c231_d a0)] (.agg (c195_o r)) := by
  unfold laws_toAtom at h
  refine sound_lit tbOk lit207 (nb rfl) rfl ?_
  unfold c207
  refine ls_keep [(0, .agg (c231_d a0))] ⟨kr, trivial⟩ rfl ?_
  refine ls_rs tbOk ?_
  refine evs (ev_bx (c1 := .agg (c231_d a0)) rfl rfl rfl (evs (ev_al rfl rfl (evn ?_))))
  refine ls_keep [(1, .box [.str a0.1, dL ci64 a0.2]), (2, .box [.str [], oL 3 ci64 []])] ⟨kr, kr, trivial⟩ rfl ?_
  refine ls_rs tbOk ?_
  refine evs (ev_al rfl rfl (evn ?_))
  refine ls_keep [(1, .box [.str a0.1, dL ci64 a0.2]), (2, .box [.str [], oL 3 ci64 []]), (3, .box [.str [], oL 3 ci64 []])] ⟨kr, kr, kr, trivial⟩ rfl ?_
  refine ls_rs tbOk ?_
  refine evs (ev_fa (c1 := .cref 1 0) (v := .cref 1 0) rfl rfl rfl ⟨_, rfl⟩ rfl (evs (ev_ldB (off := 0) (v := .str a0.1) rfl rfl rfl rfl (nb rfl) rfl (evs (ev_fa (c1 := .cref 3 0) (v := .cref 3 0) rfl rfl rfl ⟨_, rfl⟩ rfl (evs (ev_st (off := 0) (c1 := .str a0.1) (cs' := [.str a0.1, oL 3 ci64 []]) rfl rfl rfl rfl rfl rfl (nb rfl) rfl (evn ?_))))))))
  refine ls_keep [(1, .box [.str a0.1, dL ci64 a0.2]), (2, .box [.str [], oL 3 ci64 []]), (3, .box [.str a0.1, oL 3 ci64 []])] ⟨kr, kr, kr, trivial⟩ rfl ?_
  refine ls_rs tbOk ?_
  refine evs (ev_fa (c1 := .cref 1 0) (v := .cref 1 1) rfl rfl rfl ⟨_, rfl⟩ rfl (evs (ev_ldB (off := 1) (v := dL ci64 a0.2) rfl rfl rfl rfl (nb rfl) rfl (?_))))
  obtain ⟨v1, g2, h⟩ := ob_some h
  refine evs (ev_call (era rfl (erD eci64 _) eran) (laws_toIntS_s g2) (evs (ev_fa (c1 := .cref 3 0) (v := .cref 3 1) rfl rfl rfl ⟨_, rfl⟩ rfl (evs (ev_st (off := 1) (c1 := oL 3 ci64 v1) (cs' := [.str a0.1, oL 3 ci64 v1]) rfl rfl rfl rfl rfl rfl (nb rfl) rfl (evn ?_))))))
  refine ls_keep [(2, .box [.str [], oL 3 ci64 []]), (3, .box [.str a0.1, oL 3 ci64 v1])] ⟨kr, kr, trivial⟩ rfl ?_
  refine ls_rs tbOk ?_
  refine evs (ev_ldBt (off := 0) (v := .agg [.str a0.1, oL 3 ci64 v1]) (c' := .box [.str a0.1, dL ci64 v1]) rfl rfl rfl rfl (nb rfl) rfl rfl (evs (ev_st (off := 0) (c1 := .agg [.str a0.1, oL 3 ci64 v1]) (cs' := [.str a0.1, oL 3 ci64 v1]) rfl rfl rfl rfl rfl rfl (nb rfl) rfl (evn ?_))))
  refine ls_keep [(2, .box [.str a0.1, oL 3 ci64 v1])] ⟨kr, trivial⟩ rfl ?_
  refine ls_ret ?_
  have hr := Option.some.inj h
  rw [← hr]
  exact ⟨.inl rfl, rfl⟩
def laws_toAtomS_B1 (a0 : List Y194) (rec : ((List Y194) × Int) → Option ((List Y194))) (s : (List Y194) × Int) : Option ((List Y194)) := match s with
  | (y1, y2) => cond (decide (y2 < (List.length a0 : Int))) (obind (geti a0 y2) fun e7 => obind (laws_toAtom e7) fun v9 => obind (geti y1 y2) fun e11 => rec ((seti y1 y2 v9), (IntKind.i64.wrap (y2 + 1)))) (some y1)
def laws_toAtomS (a0 : List Y194) : Option ((List Y194)) := chk ((0 : Int) ≤ (List.length a0 : Int) ∧ Int.toNat (List.length a0 : Int) ≤ lim) (obind (loopF (laws_toAtomS_B1 a0) fz ((List.replicate (Int.toNat (List.length a0 : Int)) (([], []) : Y194)), 0)) fun z3 => some z3)
theorem laws_toAtomS_s {a0 : List Y194} {r : (List Y194)} (h : laws_toAtomS a0 = some r) : SoundAt Try.prog 126 [dL c231_d a0] (oL 195 c195_o r) := by
  unfold laws_toAtomS at h
  refine sound_lit tbOk lit126 (nb rfl) rfl ?_
  unfold c126
  refine ls_keep [(0, dL c231_d a0)] ⟨kr, trivial⟩ rfl ?_
  refine ls_rs tbOk ?_
  refine evs (ev_an rfl rfl (evn ?_))
  refine ls_keep [(0, dL c231_d a0)] ⟨kr, trivial⟩ rfl ?_
  refine ls_rs tbOk ?_
  refine evs (ev_mv (c := dL c231_d a0) rfl rfl rfl (evs (ev_len (c1 := dL c231_d a0) rfl rfl rfl (?_))))
  obtain ⟨g1, h⟩ := chk_some h
  refine evs (ev_mku (f := c195_o) (z := (([], []) : Y194)) rfl rfl rfl rfl rfl rfl g1 rfl (evs (ev_asu rfl rfl rfl (evn ?_))))
  refine ls_keep [(0, dL c231_d a0), (3, wL 195 c195_o (List.replicate (Int.toNat (List.length a0 : Int)) (([], []) : Y194)))] ⟨kr, kr, trivial⟩ rfl ?_
  refine ls_seq_k fun K2 hK2 => ?_
  refine ls_rs tbOk ?_
  refine evs (ev_ac rfl nofun rfl (evn ?_))
  refine ls_keep [(0, dL c231_d a0), (3, wL 195 c195_o (List.replicate (Int.toNat (List.length a0 : Int)) (([], []) : Y194))), (4, nI 0)] ⟨kr, kr, kr, trivial⟩ rfl ?_
  obtain ⟨o1, hl, hr1⟩ := ob_some h
  clear h
  have kXlaws_toAtomS_B1 : ∀ (z3 : List Y194), (some z3) = some r → ∀ σ' : PS, okK σ' [(3, wL 195 c195_o z3)] → K2 σ' := by
    intro z3 h σ' hk
    refine hK2 _ (ls_keep [(3, wL 195 c195_o z3)] hk rfl ?_)
    refine ls_rs tbOk ?_
    refine evs (ev_mvtu rfl rfl (evs (ev_as (c := oL 195 c195_o z3) rfl rfl rfl (evn ?_))))
    refine ls_keep [(2, oL 195 c195_o z3)] ⟨kr, trivial⟩ rfl ?_
    refine ls_ret ?_
    have hr := Option.some.inj h
    rw [← hr]
    exact ⟨.inl rfl, rfl⟩
  refine ls_rec (fun (s : (List Y194) × Int) => match s with | (y1, y2) => [(0, dL c231_d a0), (3, wL 195 c195_o y1), (4, nI y2)]) (laws_toAtomS_B1 a0) fz ((List.replicate (Int.toNat (List.length a0 : Int)) (([], []) : Y194)), 0) o1 hl ⟨kr, kr, kr, trivial⟩ (fun _ => rfl) ?_
  rintro m ⟨y1, y2⟩ N h hN
  unfold laws_toAtomS_B1 at h
  dsimp only at h
  refine ls_seq_k fun K4 hK4 => ?_
  refine ls_rs tbOk ?_
  refine evs (ev_mv (c := nI y2) rfl rfl rfl (evs (ev_mv (c := dL c231_d a0) rfl rfl rfl (evs (ev_len (c1 := dL c231_d a0) rfl rfl rfl (evs (ev_bin (c1 := nI y2) (c2 := nI (List.length a0 : Int)) rfl rfl rfl (evn ?_))))))))
  refine ls_keep [(0, dL c231_d a0), (3, wL 195 c195_o y1), (4, nI y2), (11, .bool (decide (y2 < (List.length a0 : Int))))] ⟨kr, kr, kr, kr, trivial⟩ rfl ?_
  rcases cond_some h with ⟨g5, h⟩ | ⟨g5, h⟩
  · refine ls_cT rfl g5 ?_
    refine ls_skip ?_
    refine hK4 _ (ls_keep [(0, dL c231_d a0), (3, wL 195 c195_o y1), (4, nI y2)] ⟨kr, kr, kr, trivial⟩ rfl ?_)
    refine ls_seq_k fun K6 hK6 => ?_
    refine ls_blk ?_
    refine ls_rgn tbOk ?_
    refine evs (ev_mvu rfl rfl (evs (ev_mv (c := nI y2) rfl rfl rfl (evs (ev_mv (c := dL c231_d a0) rfl rfl rfl (evs (ev_mv (c := nI y2) rfl rfl rfl (?_))))))))
    obtain ⟨e7, g8, h⟩ := ob_some h
    refine evs (ev_ia rfl rfl rfl ⟨(geti_some g8).1, (geti_some g8).2.1⟩ (evs (ev_ldE (i := y2) (n := 2) (off := 0) (v := .agg (c231_d e7)) rfl rfl zc231_d g8 rfl (nb rfl) rfl (?_))))
    obtain ⟨v9, g10, h⟩ := ob_some h
    refine evs (ev_call (era rfl (erg (erc rfl (erc (erD eci64 _) rfl))) eran) (laws_toAtom_s g10) (?_))
    obtain ⟨e11, g12, h⟩ := ob_some h
    refine evs (ev_iau rfl rfl rfl rfl ⟨(geti_some g12).1, (geti_some g12).2.1⟩ (evs (ev_stu (e := v9) (c1 := .agg (c195_o v9)) rfl rfl zc195_o ⟨(geti_some g12).1, (geti_some g12).2.1⟩ rfl rfl rfl rfl rfl (evn ?_))))
    refine hK6 _ (ls_keep [(0, dL c231_d a0), (3, wL 195 c195_o (seti y1 y2 v9)), (4, nI y2)] ⟨kr, kr, kr, trivial⟩ rfl ?_)
    refine ls_rgn tbOk ?_
    refine evs (ev_mv (c := nI y2) rfl rfl rfl (evs (ev_bin (c1 := nI y2) (c2 := nI 1) rfl rfl rfl (evs (ev_as (c := nI (IntKind.i64.wrap (y2 + 1))) rfl rfl rfl (evn ?_))))))
    exact hN _ ((seti y1 y2 v9), (IntKind.i64.wrap (y2 + 1))) h ⟨kr, kr, kr, trivial⟩
  · refine ls_cF rfl g5 ?_
    refine ls_exit ?_
    have q0 := (Option.some.inj h).symm
    have r0 := hr1
    rw [q0] at r0
    exact kXlaws_toAtomS_B1 y1 r0 _ ⟨kr, trivial⟩
abbrev Y91 := Int × (List Y194) × (List Int)
def c92_ddd (x : Y91) : List V := [nI x.1, dL c195_d x.2.1, dL ci64 x.2.2]
theorem zc92_ddd (x : Y91) : (c92_ddd x).length = 3 := rfl
theorem ec92_ddd (x : Y91) : erL (c92_ddd x) = c92_ddd x := (erc rfl (erc (erD ec195_d _) (erc (erD eci64 _) rfl)))
def c92_ooo (x : Y91) : List V := [nI x.1, oL 195 c195_o x.2.1, oL 3 ci64 x.2.2]
theorem zc92_ooo (x : Y91) : (c92_ooo x).length = 3 := rfl
theorem ec92_ooo (x : Y91) : erL (c92_ooo x) = c92_ddd x := (erc rfl (erc (erO ec195_o _) (erc (erO eci64 _) rfl)))
def laws_toQuery (a0 : Y78) : Option (Y91) := obind (laws_toAtomS a0.2.1) fun v1 => obind (laws_toIntS a0.2.2) fun v3 => some (a0.1, v1, v3)
theorem laws_toQuery_s {a0 : Y78} {r : Y91} (h : laws_toQuery a0 = some r) : SoundAt Try.prog 46 [.agg (c79_ddd a0)] (.agg (c92_ooo r)) := by
  unfold laws_toQuery at h
  refine sound_lit tbOk lit46 (nb rfl) rfl ?_
  unfold c46
  refine ls_keep [(0, .agg (c79_ddd a0))] ⟨kr, trivial⟩ rfl ?_
  refine ls_rs tbOk ?_
  refine evs (ev_bx (c1 := .agg (c79_ddd a0)) rfl rfl rfl (evs (ev_al rfl rfl (evn ?_))))
  refine ls_keep [(1, .box [nI a0.1, dL c231_d a0.2.1, dL ci64 a0.2.2]), (2, .box [nI 0, oL 195 c195_o [], oL 3 ci64 []])] ⟨kr, kr, trivial⟩ rfl ?_
  refine ls_rs tbOk ?_
  refine evs (ev_al rfl rfl (evn ?_))
  refine ls_keep [(1, .box [nI a0.1, dL c231_d a0.2.1, dL ci64 a0.2.2]), (2, .box [nI 0, oL 195 c195_o [], oL 3 ci64 []]), (3, .box [nI 0, oL 195 c195_o [], oL 3 ci64 []])] ⟨kr, kr, kr, trivial⟩ rfl ?_
  refine ls_rs tbOk ?_
  refine evs (ev_fa (c1 := .cref 1 0) (v := .cref 1 0) rfl rfl rfl ⟨_, rfl⟩ rfl (evs (ev_ldB (off := 0) (v := nI a0.1) rfl rfl rfl rfl (nb rfl) rfl (evs (ev_fa (c1 := .cref 3 0) (v := .cref 3 0) rfl rfl rfl ⟨_, rfl⟩ rfl (evs (ev_st (off := 0) (c1 := nI a0.1) (cs' := [nI a0.1, oL 195 c195_o [], oL 3 ci64 []]) rfl rfl rfl rfl rfl rfl (nb rfl) rfl (evn ?_))))))))
  refine ls_keep [(1, .box [nI a0.1, dL c231_d a0.2.1, dL ci64 a0.2.2]), (2, .box [nI 0, oL 195 c195_o [], oL 3 ci64 []]), (3, .box [nI a0.1, oL 195 c195_o [], oL 3 ci64 []])] ⟨kr, kr, kr, trivial⟩ rfl ?_
  refine ls_rs tbOk ?_
  refine evs (ev_fa (c1 := .cref 1 0) (v := .cref 1 1) rfl rfl rfl ⟨_, rfl⟩ rfl (evs (ev_ldB (off := 1) (v := dL c231_d a0.2.1) rfl rfl rfl rfl (nb rfl) rfl (?_))))
  obtain ⟨v1, g2, h⟩ := ob_some h
  refine evs (ev_call (era rfl (erD ec231_d _) eran) (laws_toAtomS_s g2) (evs (ev_fa (c1 := .cref 3 0) (v := .cref 3 1) rfl rfl rfl ⟨_, rfl⟩ rfl (evs (ev_st (off := 1) (c1 := oL 195 c195_o v1) (cs' := [nI a0.1, oL 195 c195_o v1, oL 3 ci64 []]) rfl rfl rfl rfl rfl rfl (nb rfl) rfl (evn ?_))))))
  refine ls_keep [(1, .box [nI a0.1, dL c231_d a0.2.1, dL ci64 a0.2.2]), (2, .box [nI 0, oL 195 c195_o [], oL 3 ci64 []]), (3, .box [nI a0.1, oL 195 c195_o v1, oL 3 ci64 []])] ⟨kr, kr, kr, trivial⟩ rfl ?_
  refine ls_rs tbOk ?_
  refine evs (ev_fa (c1 := .cref 1 0) (v := .cref 1 2) rfl rfl rfl ⟨_, rfl⟩ rfl (evs (ev_ldB (off := 2) (v := dL ci64 a0.2.2) rfl rfl rfl rfl (nb rfl) rfl (?_))))
  obtain ⟨v3, g4, h⟩ := ob_some h
  refine evs (ev_call (era rfl (erD eci64 _) eran) (laws_toIntS_s g4) (evs (ev_fa (c1 := .cref 3 0) (v := .cref 3 2) rfl rfl rfl ⟨_, rfl⟩ rfl (evs (ev_st (off := 2) (c1 := oL 3 ci64 v3) (cs' := [nI a0.1, oL 195 c195_o v1, oL 3 ci64 v3]) rfl rfl rfl rfl rfl rfl (nb rfl) rfl (evn ?_))))))
  refine ls_keep [(2, .box [nI 0, oL 195 c195_o [], oL 3 ci64 []]), (3, .box [nI a0.1, oL 195 c195_o v1, oL 3 ci64 v3])] ⟨kr, kr, trivial⟩ rfl ?_
  refine ls_rs tbOk ?_
  refine evs (ev_ldBt (off := 0) (v := .agg [nI a0.1, oL 195 c195_o v1, oL 3 ci64 v3]) (c' := .box [nI a0.1, dL c195_o v1, dL ci64 v3]) rfl rfl rfl rfl (nb rfl) rfl rfl (evs (ev_st (off := 0) (c1 := .agg [nI a0.1, oL 195 c195_o v1, oL 3 ci64 v3]) (cs' := [nI a0.1, oL 195 c195_o v1, oL 3 ci64 v3]) rfl rfl rfl rfl rfl rfl (nb rfl) rfl (evn ?_))))
  refine ls_keep [(2, .box [nI a0.1, oL 195 c195_o v1, oL 3 ci64 v3])] ⟨kr, trivial⟩ rfl ?_
  refine ls_ret ?_
  have hr := Option.some.inj h
  rw [← hr]
  exact ⟨.inl rfl, rfl⟩
def laws_toJoinForest (a0 : List Int) : Option ((List Int)) := obind (laws_toIntS a0) fun v1 => some v1
theorem laws_toJoinForest_s {a0 : List Int} {r : (List Int)} (h : laws_toJoinForest a0 = some r) : SoundAt Try.prog 127 [.agg [dL ci64 a0]] (.agg [oL 3 ci64 r]) := by
  unfold laws_toJoinForest at h
  refine sound_lit tbOk lit127 (nb rfl) rfl ?_
  unfold c127
  refine ls_keep [(0, .agg [dL ci64 a0])] ⟨kr, trivial⟩ rfl ?_
  refine ls_rs tbOk ?_
  refine evs (ev_bx (c1 := .agg [dL ci64 a0]) rfl rfl rfl (evs (ev_al rfl rfl (evn ?_))))
  refine ls_keep [(1, .box [dL ci64 a0]), (2, .box [oL 3 ci64 []])] ⟨kr, kr, trivial⟩ rfl ?_
  refine ls_rs tbOk ?_
  refine evs (ev_al rfl rfl (evn ?_))
  refine ls_keep [(1, .box [dL ci64 a0]), (2, .box [oL 3 ci64 []]), (3, .box [oL 3 ci64 []])] ⟨kr, kr, kr, trivial⟩ rfl ?_
  refine ls_rs tbOk ?_
  refine evs (ev_fa (c1 := .cref 1 0) (v := .cref 1 0) rfl rfl rfl ⟨_, rfl⟩ rfl (evs (ev_ldB (off := 0) (v := dL ci64 a0) rfl rfl rfl rfl (nb rfl) rfl (?_))))
  obtain ⟨v1, g2, h⟩ := ob_some h
  refine evs (ev_call (era rfl (erD eci64 _) eran) (laws_toIntS_s g2) (evs (ev_fa (c1 := .cref 3 0) (v := .cref 3 0) rfl rfl rfl ⟨_, rfl⟩ rfl (evs (ev_st (off := 0) (c1 := oL 3 ci64 v1) (cs' := [oL 3 ci64 v1]) rfl rfl rfl rfl rfl rfl (nb rfl) rfl (evn ?_))))))
  refine ls_keep [(2, .box [oL 3 ci64 []]), (3, .box [oL 3 ci64 v1])] ⟨kr, kr, trivial⟩ rfl ?_
  refine ls_rs tbOk ?_
  refine evs (ev_ldBt (off := 0) (v := .agg [oL 3 ci64 v1]) (c' := .box [dL ci64 v1]) rfl rfl rfl rfl (nb rfl) rfl rfl (evs (ev_st (off := 0) (c1 := .agg [oL 3 ci64 v1]) (cs' := [oL 3 ci64 v1]) rfl rfl rfl rfl rfl rfl (nb rfl) rfl (evn ?_))))
  refine ls_keep [(2, .box [oL 3 ci64 v1])] ⟨kr, trivial⟩ rfl ?_
  refine ls_ret ?_
  have hr := Option.some.inj h
  rw [← hr]
  exact ⟨.inl rfl, rfl⟩
def c25_o (x : List Int) : List V := [oL 3 ci64 x]
theorem zc25_o (x : List Int) : (c25_o x).length = 1 := rfl
theorem ec25_o (x : List Int) : erL (c25_o x) = c25_d x := (erc (erO eci64 _) rfl)
def laws_toIntSS_B1 (a0 : List (List Int)) (rec : ((List (List Int)) × Int) → Option ((List (List Int)))) (s : (List (List Int)) × Int) : Option ((List (List Int))) := match s with
  | (y1, y2) => cond (decide (y2 < (List.length a0 : Int))) (obind (geti a0 y2) fun e7 => obind (laws_toIntS e7) fun v9 => obind (geti y1 y2) fun e11 => rec ((seti y1 y2 v9), (IntKind.i64.wrap (y2 + 1)))) (some y1)
def laws_toIntSS (a0 : List (List Int)) : Option ((List (List Int))) := chk ((0 : Int) ≤ (List.length a0 : Int) ∧ Int.toNat (List.length a0 : Int) ≤ lim) (obind (loopF (laws_toIntSS_B1 a0) fz ((List.replicate (Int.toNat (List.length a0 : Int)) ([] : List Int)), 0)) fun z3 => some z3)
theorem laws_toIntSS_s {a0 : List (List Int)} {r : (List (List Int))} (h : laws_toIntSS a0 = some r) : SoundAt Try.prog 208 [dL c25_d a0] (oL 25 c25_o r) := by
  unfold laws_toIntSS at h
  refine sound_lit tbOk lit208 (nb rfl) rfl ?_
  unfold c208
  refine ls_keep [(0, dL c25_d a0)] ⟨kr, trivial⟩ rfl ?_
  refine ls_rs tbOk ?_
  refine evs (ev_an rfl rfl (evn ?_))
  refine ls_keep [(0, dL c25_d a0)] ⟨kr, trivial⟩ rfl ?_
  refine ls_rs tbOk ?_
  refine evs (ev_mv (c := dL c25_d a0) rfl rfl rfl (evs (ev_len (c1 := dL c25_d a0) rfl rfl rfl (?_))))
  obtain ⟨g1, h⟩ := chk_some h
  refine evs (ev_mku (f := c25_o) (z := ([] : List Int)) rfl rfl rfl rfl rfl rfl g1 rfl (evs (ev_asu rfl rfl rfl (evn ?_))))
  refine ls_keep [(0, dL c25_d a0), (3, wL 25 c25_o (List.replicate (Int.toNat (List.length a0 : Int)) ([] : List Int)))] ⟨kr, kr, trivial⟩ rfl ?_
  refine ls_seq_k fun K2 hK2 => ?_
  refine ls_rs tbOk ?_
  refine evs (ev_ac rfl nofun rfl (evn ?_))
  refine ls_keep [(0, dL c25_d a0), (3, wL 25 c25_o (List.replicate (Int.toNat (List.length a0 : Int)) ([] : List Int))), (4, nI 0)] ⟨kr, kr, kr, trivial⟩ rfl ?_
  obtain ⟨o1, hl, hr1⟩ := ob_some h
  clear h
  have kXlaws_toIntSS_B1 : ∀ (z3 : List (List Int)), (some z3) = some r → ∀ σ' : PS, okK σ' [(3, wL 25 c25_o z3)] → K2 σ' := by
    intro z3 h σ' hk
    refine hK2 _ (ls_keep [(3, wL 25 c25_o z3)] hk rfl ?_)
    refine ls_rs tbOk ?_
    refine evs (ev_mvtu rfl rfl (evs (ev_as (c := oL 25 c25_o z3) rfl rfl rfl (evn ?_))))
    refine ls_keep [(2, oL 25 c25_o z3)] ⟨kr, trivial⟩ rfl ?_
    refine ls_ret ?_
    have hr := Option.some.inj h
    rw [← hr]
    exact ⟨.inl rfl, rfl⟩
  refine ls_rec (fun (s : (List (List Int)) × Int) => match s with | (y1, y2) => [(0, dL c25_d a0), (3, wL 25 c25_o y1), (4, nI y2)]) (laws_toIntSS_B1 a0) fz ((List.replicate (Int.toNat (List.length a0 : Int)) ([] : List Int)), 0) o1 hl ⟨kr, kr, kr, trivial⟩ (fun _ => rfl) ?_
  rintro m ⟨y1, y2⟩ N h hN
  unfold laws_toIntSS_B1 at h
  dsimp only at h
  refine ls_seq_k fun K4 hK4 => ?_
  refine ls_rs tbOk ?_
  refine evs (ev_mv (c := nI y2) rfl rfl rfl (evs (ev_mv (c := dL c25_d a0) rfl rfl rfl (evs (ev_len (c1 := dL c25_d a0) rfl rfl rfl (evs (ev_bin (c1 := nI y2) (c2 := nI (List.length a0 : Int)) rfl rfl rfl (evn ?_))))))))
  refine ls_keep [(0, dL c25_d a0), (3, wL 25 c25_o y1), (4, nI y2), (11, .bool (decide (y2 < (List.length a0 : Int))))] ⟨kr, kr, kr, kr, trivial⟩ rfl ?_
  rcases cond_some h with ⟨g5, h⟩ | ⟨g5, h⟩
  · refine ls_cT rfl g5 ?_
    refine ls_skip ?_
    refine hK4 _ (ls_keep [(0, dL c25_d a0), (3, wL 25 c25_o y1), (4, nI y2)] ⟨kr, kr, kr, trivial⟩ rfl ?_)
    refine ls_seq_k fun K6 hK6 => ?_
    refine ls_blk ?_
    refine ls_rgn tbOk ?_
    refine evs (ev_mvu rfl rfl (evs (ev_mv (c := nI y2) rfl rfl rfl (evs (ev_mv (c := dL c25_d a0) rfl rfl rfl (evs (ev_mv (c := nI y2) rfl rfl rfl (?_))))))))
    obtain ⟨e7, g8, h⟩ := ob_some h
    refine evs (ev_ia rfl rfl rfl ⟨(geti_some g8).1, (geti_some g8).2.1⟩ (evs (ev_ldE (i := y2) (n := 1) (off := 0) (v := dL ci64 e7) rfl rfl zc25_d g8 rfl (nb rfl) rfl (?_))))
    obtain ⟨v9, g10, h⟩ := ob_some h
    refine evs (ev_call (era rfl (erD eci64 _) eran) (laws_toIntS_s g10) (?_))
    obtain ⟨e11, g12, h⟩ := ob_some h
    refine evs (ev_iau rfl rfl rfl rfl ⟨(geti_some g12).1, (geti_some g12).2.1⟩ (evs (ev_stu (e := v9) (c1 := oL 3 ci64 v9) rfl rfl zc25_o ⟨(geti_some g12).1, (geti_some g12).2.1⟩ rfl rfl rfl rfl rfl (evn ?_))))
    refine hK6 _ (ls_keep [(0, dL c25_d a0), (3, wL 25 c25_o (seti y1 y2 v9)), (4, nI y2)] ⟨kr, kr, kr, trivial⟩ rfl ?_)
    refine ls_rgn tbOk ?_
    refine evs (ev_mv (c := nI y2) rfl rfl rfl (evs (ev_bin (c1 := nI y2) (c2 := nI 1) rfl rfl rfl (evs (ev_as (c := nI (IntKind.i64.wrap (y2 + 1))) rfl rfl rfl (evn ?_))))))
    exact hN _ ((seti y1 y2 v9), (IntKind.i64.wrap (y2 + 1))) h ⟨kr, kr, kr, trivial⟩
  · refine ls_cF rfl g5 ?_
    refine ls_exit ?_
    have q0 := (Option.some.inj h).symm
    have r0 := hr1
    rw [q0] at r0
    exact kXlaws_toIntSS_B1 y1 r0 _ ⟨kr, trivial⟩
def c95_ddd (x : Y83) : List V := [dL c25_d x.1, dL ci64 x.2]
theorem zc95_ddd (x : Y83) : (c95_ddd x).length = 2 := rfl
theorem ec95_ddd (x : Y83) : erL (c95_ddd x) = c95_ddd x := (erc (erD ec25_d _) (erc (erD eci64 _) rfl))
def c95_ooo (x : Y83) : List V := [oL 25 c25_o x.1, oL 3 ci64 x.2]
theorem zc95_ooo (x : Y83) : (c95_ooo x).length = 2 := rfl
theorem ec95_ooo (x : Y83) : erL (c95_ooo x) = c95_ddd x := (erc (erO ec25_o _) (erc (erO eci64 _) rfl))
def laws_toDecomposition (a0 : Y83) : Option (Y83) := obind (laws_toIntSS a0.1) fun v1 => obind (laws_toIntS a0.2) fun v3 => some (v1, v3)
theorem laws_toDecomposition_s {a0 : Y83} {r : Y83} (h : laws_toDecomposition a0 = some r) : SoundAt Try.prog 128 [.agg (c84_ddd a0)] (.agg (c95_ooo r)) := by
  unfold laws_toDecomposition at h
  refine sound_lit tbOk lit128 (nb rfl) rfl ?_
  unfold c128
  refine ls_keep [(0, .agg (c84_ddd a0))] ⟨kr, trivial⟩ rfl ?_
  refine ls_rs tbOk ?_
  refine evs (ev_bx (c1 := .agg (c84_ddd a0)) rfl rfl rfl (evs (ev_al rfl rfl (evn ?_))))
  refine ls_keep [(1, .box [dL c25_d a0.1, dL ci64 a0.2]), (2, .box [oL 25 c25_o [], oL 3 ci64 []])] ⟨kr, kr, trivial⟩ rfl ?_
  refine ls_rs tbOk ?_
  refine evs (ev_al rfl rfl (evn ?_))
  refine ls_keep [(1, .box [dL c25_d a0.1, dL ci64 a0.2]), (2, .box [oL 25 c25_o [], oL 3 ci64 []]), (3, .box [oL 25 c25_o [], oL 3 ci64 []])] ⟨kr, kr, kr, trivial⟩ rfl ?_
  refine ls_rs tbOk ?_
  refine evs (ev_fa (c1 := .cref 1 0) (v := .cref 1 0) rfl rfl rfl ⟨_, rfl⟩ rfl (evs (ev_ldB (off := 0) (v := dL c25_d a0.1) rfl rfl rfl rfl (nb rfl) rfl (?_))))
  obtain ⟨v1, g2, h⟩ := ob_some h
  refine evs (ev_call (era rfl (erD ec25_d _) eran) (laws_toIntSS_s g2) (evs (ev_fa (c1 := .cref 3 0) (v := .cref 3 0) rfl rfl rfl ⟨_, rfl⟩ rfl (evs (ev_st (off := 0) (c1 := oL 25 c25_o v1) (cs' := [oL 25 c25_o v1, oL 3 ci64 []]) rfl rfl rfl rfl rfl rfl (nb rfl) rfl (evn ?_))))))
  refine ls_keep [(1, .box [dL c25_d a0.1, dL ci64 a0.2]), (2, .box [oL 25 c25_o [], oL 3 ci64 []]), (3, .box [oL 25 c25_o v1, oL 3 ci64 []])] ⟨kr, kr, kr, trivial⟩ rfl ?_
  refine ls_rs tbOk ?_
  refine evs (ev_fa (c1 := .cref 1 0) (v := .cref 1 1) rfl rfl rfl ⟨_, rfl⟩ rfl (evs (ev_ldB (off := 1) (v := dL ci64 a0.2) rfl rfl rfl rfl (nb rfl) rfl (?_))))
  obtain ⟨v3, g4, h⟩ := ob_some h
  refine evs (ev_call (era rfl (erD eci64 _) eran) (laws_toIntS_s g4) (evs (ev_fa (c1 := .cref 3 0) (v := .cref 3 1) rfl rfl rfl ⟨_, rfl⟩ rfl (evs (ev_st (off := 1) (c1 := oL 3 ci64 v3) (cs' := [oL 25 c25_o v1, oL 3 ci64 v3]) rfl rfl rfl rfl rfl rfl (nb rfl) rfl (evn ?_))))))
  refine ls_keep [(2, .box [oL 25 c25_o [], oL 3 ci64 []]), (3, .box [oL 25 c25_o v1, oL 3 ci64 v3])] ⟨kr, kr, trivial⟩ rfl ?_
  refine ls_rs tbOk ?_
  refine evs (ev_ldBt (off := 0) (v := .agg [oL 25 c25_o v1, oL 3 ci64 v3]) (c' := .box [dL c25_o v1, dL ci64 v3]) rfl rfl rfl rfl (nb rfl) rfl rfl (evs (ev_st (off := 0) (c1 := .agg [oL 25 c25_o v1, oL 3 ci64 v3]) (cs' := [oL 25 c25_o v1, oL 3 ci64 v3]) rfl rfl rfl rfl rfl rfl (nb rfl) rfl (evn ?_))))
  refine ls_keep [(2, .box [oL 25 c25_o v1, oL 3 ci64 v3])] ⟨kr, trivial⟩ rfl ?_
  refine ls_ret ?_
  have hr := Option.some.inj h
  rw [← hr]
  exact ⟨.inl rfl, rfl⟩
abbrev Y96 := Int × (List Int) × (List Int) × Y83
def c97_ddddd (x : Y96) : List V := [nI x.1, dL ci64 x.2.1, dL ci64 x.2.2.1, dL c25_d x.2.2.2.1, dL ci64 x.2.2.2.2]
theorem zc97_ddddd (x : Y96) : (c97_ddddd x).length = 5 := rfl
theorem ec97_ddddd (x : Y96) : erL (c97_ddddd x) = c97_ddddd x := (erc rfl (erc (erD eci64 _) (erc (erD eci64 _) (erc (erD ec25_d _) (erc (erD eci64 _) rfl)))))
def c97_ooooo (x : Y96) : List V := [nI x.1, oL 3 ci64 x.2.1, oL 3 ci64 x.2.2.1, oL 25 c25_o x.2.2.2.1, oL 3 ci64 x.2.2.2.2]
theorem zc97_ooooo (x : Y96) : (c97_ooooo x).length = 5 := rfl
theorem ec97_ooooo (x : Y96) : erL (c97_ooooo x) = c97_ddddd x := (erc rfl (erc (erO eci64 _) (erc (erO eci64 _) (erc (erO ec25_o _) (erc (erO eci64 _) rfl)))))
def laws_toPlan (a0 : Y85) : Option (Y96) := obind (laws_toIntS a0.2.1) fun v1 => obind (laws_toJoinForest a0.2.2.1) fun v3 => obind (laws_toDecomposition a0.2.2.2) fun v5 => some (a0.1, v1, v3, v5)
theorem laws_toPlan_s {a0 : Y85} {r : Y96} (h : laws_toPlan a0 = some r) : SoundAt Try.prog 47 [.agg (c86_ddddd a0)] (.agg (c97_ooooo r)) := by
  unfold laws_toPlan at h
  refine sound_lit tbOk lit47 (nb rfl) rfl ?_
  unfold c47
  refine ls_keep [(0, .agg (c86_ddddd a0))] ⟨kr, trivial⟩ rfl ?_
  refine ls_rs tbOk ?_
  refine evs (ev_bx (c1 := .agg (c86_ddddd a0)) rfl rfl rfl (evs (ev_al rfl rfl (evn ?_))))
  refine ls_keep [(1, .box [nI a0.1, dL ci64 a0.2.1, dL ci64 a0.2.2.1, dL c25_d a0.2.2.2.1, dL ci64 a0.2.2.2.2]), (2, .box [nI 0, oL 3 ci64 [], oL 3 ci64 [], oL 25 c25_o [], oL 3 ci64 []])] ⟨kr, kr, trivial⟩ rfl ?_
  refine ls_rs tbOk ?_
  refine evs (ev_al rfl rfl (evn ?_))
  refine ls_keep [(1, .box [nI a0.1, dL ci64 a0.2.1, dL ci64 a0.2.2.1, dL c25_d a0.2.2.2.1, dL ci64 a0.2.2.2.2]), (2, .box [nI 0, oL 3 ci64 [], oL 3 ci64 [], oL 25 c25_o [], oL 3 ci64 []]), (3, .box [nI 0, oL 3 ci64 [], oL 3 ci64 [], oL 25 c25_o [], oL 3 ci64 []])] ⟨kr, kr, kr, trivial⟩ rfl ?_
  refine ls_rs tbOk ?_
  refine evs (ev_fa (c1 := .cref 1 0) (v := .cref 1 0) rfl rfl rfl ⟨_, rfl⟩ rfl (evs (ev_ldB (off := 0) (v := nI a0.1) rfl rfl rfl rfl (nb rfl) rfl (evs (ev_fa (c1 := .cref 3 0) (v := .cref 3 0) rfl rfl rfl ⟨_, rfl⟩ rfl (evs (ev_st (off := 0) (c1 := nI a0.1) (cs' := [nI a0.1, oL 3 ci64 [], oL 3 ci64 [], oL 25 c25_o [], oL 3 ci64 []]) rfl rfl rfl rfl rfl rfl (nb rfl) rfl (evn ?_))))))))
  refine ls_keep [(1, .box [nI a0.1, dL ci64 a0.2.1, dL ci64 a0.2.2.1, dL c25_d a0.2.2.2.1, dL ci64 a0.2.2.2.2]), (2, .box [nI 0, oL 3 ci64 [], oL 3 ci64 [], oL 25 c25_o [], oL 3 ci64 []]), (3, .box [nI a0.1, oL 3 ci64 [], oL 3 ci64 [], oL 25 c25_o [], oL 3 ci64 []])] ⟨kr, kr, kr, trivial⟩ rfl ?_
  refine ls_rs tbOk ?_
  refine evs (ev_fa (c1 := .cref 1 0) (v := .cref 1 1) rfl rfl rfl ⟨_, rfl⟩ rfl (evs (ev_ldB (off := 1) (v := dL ci64 a0.2.1) rfl rfl rfl rfl (nb rfl) rfl (?_))))
  obtain ⟨v1, g2, h⟩ := ob_some h
  refine evs (ev_call (era rfl (erD eci64 _) eran) (laws_toIntS_s g2) (evs (ev_fa (c1 := .cref 3 0) (v := .cref 3 1) rfl rfl rfl ⟨_, rfl⟩ rfl (evs (ev_st (off := 1) (c1 := oL 3 ci64 v1) (cs' := [nI a0.1, oL 3 ci64 v1, oL 3 ci64 [], oL 25 c25_o [], oL 3 ci64 []]) rfl rfl rfl rfl rfl rfl (nb rfl) rfl (evn ?_))))))
  refine ls_keep [(1, .box [nI a0.1, dL ci64 a0.2.1, dL ci64 a0.2.2.1, dL c25_d a0.2.2.2.1, dL ci64 a0.2.2.2.2]), (2, .box [nI 0, oL 3 ci64 [], oL 3 ci64 [], oL 25 c25_o [], oL 3 ci64 []]), (3, .box [nI a0.1, oL 3 ci64 v1, oL 3 ci64 [], oL 25 c25_o [], oL 3 ci64 []])] ⟨kr, kr, kr, trivial⟩ rfl ?_
  refine ls_rs tbOk ?_
  refine evs (ev_fa (c1 := .cref 1 0) (v := .cref 1 2) rfl rfl rfl ⟨_, rfl⟩ rfl (evs (ev_ldB (off := 2) (v := .agg [dL ci64 a0.2.2.1]) rfl rfl rfl rfl (nb rfl) rfl (?_))))
  obtain ⟨v3, g4, h⟩ := ob_some h
  refine evs (ev_call (era rfl (erg (erc (erD eci64 _) rfl)) eran) (laws_toJoinForest_s g4) (evs (ev_fa (c1 := .cref 3 0) (v := .cref 3 2) rfl rfl rfl ⟨_, rfl⟩ rfl (evs (ev_st (off := 2) (c1 := .agg [oL 3 ci64 v3]) (cs' := [nI a0.1, oL 3 ci64 v1, oL 3 ci64 v3, oL 25 c25_o [], oL 3 ci64 []]) rfl rfl rfl rfl rfl rfl (nb rfl) rfl (evn ?_))))))
  refine ls_keep [(1, .box [nI a0.1, dL ci64 a0.2.1, dL ci64 a0.2.2.1, dL c25_d a0.2.2.2.1, dL ci64 a0.2.2.2.2]), (2, .box [nI 0, oL 3 ci64 [], oL 3 ci64 [], oL 25 c25_o [], oL 3 ci64 []]), (3, .box [nI a0.1, oL 3 ci64 v1, oL 3 ci64 v3, oL 25 c25_o [], oL 3 ci64 []])] ⟨kr, kr, kr, trivial⟩ rfl ?_
  refine ls_rs tbOk ?_
  refine evs (ev_fa (c1 := .cref 1 0) (v := .cref 1 3) rfl rfl rfl ⟨_, rfl⟩ rfl (evs (ev_ldB (off := 3) (v := .agg (c84_ddd a0.2.2.2)) rfl rfl rfl rfl (nb rfl) rfl (?_))))
  obtain ⟨v5, g6, h⟩ := ob_some h
  refine evs (ev_call (era rfl (erg (erc (erD ec25_d _) (erc (erD eci64 _) rfl))) eran) (laws_toDecomposition_s g6) (evs (ev_fa (c1 := .cref 3 0) (v := .cref 3 3) rfl rfl rfl ⟨_, rfl⟩ rfl (evs (ev_st (off := 3) (c1 := .agg (c95_ooo v5)) (cs' := [nI a0.1, oL 3 ci64 v1, oL 3 ci64 v3, oL 25 c25_o v5.1, oL 3 ci64 v5.2]) rfl rfl rfl rfl rfl rfl (nb rfl) rfl (evn ?_))))))
  refine ls_keep [(2, .box [nI 0, oL 3 ci64 [], oL 3 ci64 [], oL 25 c25_o [], oL 3 ci64 []]), (3, .box [nI a0.1, oL 3 ci64 v1, oL 3 ci64 v3, oL 25 c25_o v5.1, oL 3 ci64 v5.2])] ⟨kr, kr, trivial⟩ rfl ?_
  refine ls_rs tbOk ?_
  refine evs (ev_ldBt (off := 0) (v := .agg [nI a0.1, oL 3 ci64 v1, oL 3 ci64 v3, oL 25 c25_o v5.1, oL 3 ci64 v5.2]) (c' := .box [nI a0.1, dL ci64 v1, dL ci64 v3, dL c25_o v5.1, dL ci64 v5.2]) rfl rfl rfl rfl (nb rfl) rfl rfl (evs (ev_st (off := 0) (c1 := .agg [nI a0.1, oL 3 ci64 v1, oL 3 ci64 v3, oL 25 c25_o v5.1, oL 3 ci64 v5.2]) (cs' := [nI a0.1, oL 3 ci64 v1, oL 3 ci64 v3, oL 25 c25_o v5.1, oL 3 ci64 v5.2]) rfl rfl rfl rfl rfl rfl (nb rfl) rfl (evn ?_))))
  refine ls_keep [(2, .box [nI a0.1, oL 3 ci64 v1, oL 3 ci64 v3, oL 25 c25_o v5.1, oL 3 ci64 v5.2])] ⟨kr, trivial⟩ rfl ?_
  refine ls_ret ?_
  have hr := Option.some.inj h
  rw [← hr]
  exact ⟨.inl rfl, rfl⟩
def laws_eqIntS_B1 (a0 : List Int) (a1 : List Int) (rec : Int → Option (Sum (Unit) (Bool))) (y1 : Int) : Option (Sum (Unit) (Bool)) := cond (decide (y1 < (List.length a0 : Int))) (obind (geti a0 y1) fun e7 => obind (geti a1 y1) fun e9 => cond (e7 != e9) (some (.inr false)) (rec (IntKind.i64.wrap (y1 + 1)))) (some (.inl ()))
def laws_eqIntS (a0 : List Int) (a1 : List Int) : Option (Bool) := cond ((List.length a0 : Int) != (List.length a1 : Int)) (some false) (obind (loopF (laws_eqIntS_B1 a0 a1) fz 0) fun o1 => (match o1 with
  | .inl _ => (some true)
  | .inr r => some r))
theorem laws_eqIntS_s {a0 : List Int} {a1 : List Int} {r : Bool} (h : laws_eqIntS a0 a1 = some r) : SoundAt Try.prog 19 [dL ci64 a0, dL ci64 a1] (.bool r) := by
  unfold laws_eqIntS at h
  refine sound_lit tbOk lit19 (nb rfl) rfl ?_
  unfold c19
  refine ls_keep [(0, dL ci64 a0), (1, dL ci64 a1)] ⟨kr, kr, trivial⟩ rfl ?_
  refine ls_rs tbOk ?_
  refine evs (ev_ac rfl nofun rfl (evn ?_))
  refine ls_keep [(0, dL ci64 a0), (1, dL ci64 a1)] ⟨kr, kr, trivial⟩ rfl ?_
  refine ls_seq_k fun K1 hK1 => ?_
  refine ls_rs tbOk ?_
  refine evs (ev_mv (c := dL ci64 a0) rfl rfl rfl (evs (ev_len (c1 := dL ci64 a0) rfl rfl rfl (evs (ev_mv (c := dL ci64 a1) rfl rfl rfl (evs (ev_len (c1 := dL ci64 a1) rfl rfl rfl (evs (ev_bin (c1 := nI (List.length a0 : Int)) (c2 := nI (List.length a1 : Int)) rfl rfl rfl (evn ?_))))))))))
  refine ls_keep [(0, dL ci64 a0), (1, dL ci64 a1), (10, .bool ((List.length a0 : Int) != (List.length a1 : Int)))] ⟨kr, kr, kr, trivial⟩ rfl ?_
  rcases cond_some h with ⟨g2, h⟩ | ⟨g2, h⟩
  · refine ls_cT rfl g2 ?_
    refine ls_rs tbOk ?_
    refine evs (ev_ac rfl nofun rfl (evn ?_))
    refine ls_keep [(4, .bool false)] ⟨kr, trivial⟩ rfl ?_
    refine ls_ret ?_
    have hr := Option.some.inj h
    rw [← hr]
    exact ⟨.inl rfl, rfl⟩
  · refine ls_cF rfl g2 ?_
    refine ls_skip ?_
    refine hK1 _ (ls_keep [(0, dL ci64 a0), (1, dL ci64 a1)] ⟨kr, kr, trivial⟩ rfl ?_)
    refine ls_seq_k fun K3 hK3 => ?_
    refine ls_rs tbOk ?_
    refine evs (ev_ac rfl nofun rfl (evn ?_))
    refine ls_keep [(0, dL ci64 a0), (1, dL ci64 a1), (5, nI 0)] ⟨kr, kr, kr, trivial⟩ rfl ?_
    obtain ⟨o1, hl, hr1⟩ := ob_some h
    clear h
    have kXlaws_eqIntS_B1 : ∀ (_ : Unit), (some true) = some r → ∀ σ' : PS, okK σ' [] → K3 σ' := by
      intro _ h σ' hk
      refine hK3 _ (ls_keep [] hk rfl ?_)
      refine ls_rs tbOk ?_
      refine evs (ev_ac rfl nofun rfl (evn ?_))
      refine ls_keep [(4, .bool true)] ⟨kr, trivial⟩ rfl ?_
      refine ls_ret ?_
      have hr := Option.some.inj h
      rw [← hr]
      exact ⟨.inl rfl, rfl⟩
    refine ls_rec (fun (y1 : Int) => [(0, dL ci64 a0), (1, dL ci64 a1), (5, nI y1)]) (laws_eqIntS_B1 a0 a1) fz 0 o1 hl ⟨kr, kr, kr, trivial⟩ (fun _ => rfl) ?_
    rintro m y1 N h hN
    unfold laws_eqIntS_B1 at h
    refine ls_seq_k fun K4 hK4 => ?_
    refine ls_rs tbOk ?_
    refine evs (ev_mv (c := nI y1) rfl rfl rfl (evs (ev_mv (c := dL ci64 a0) rfl rfl rfl (evs (ev_len (c1 := dL ci64 a0) rfl rfl rfl (evs (ev_bin (c1 := nI y1) (c2 := nI (List.length a0 : Int)) rfl rfl rfl (evn ?_))))))))
    refine ls_keep [(0, dL ci64 a0), (1, dL ci64 a1), (5, nI y1), (14, .bool (decide (y1 < (List.length a0 : Int))))] ⟨kr, kr, kr, kr, trivial⟩ rfl ?_
    rcases cond_some h with ⟨g5, h⟩ | ⟨g5, h⟩
    · refine ls_cT rfl g5 ?_
      refine ls_skip ?_
      refine hK4 _ (ls_keep [(0, dL ci64 a0), (1, dL ci64 a1), (5, nI y1)] ⟨kr, kr, kr, trivial⟩ rfl ?_)
      refine ls_seq_k fun K6 hK6 => ?_
      refine ls_blk ?_
      refine ls_rd tbOk mixed (by kernel_rfl) ?_
      refine evd rfl rfl (ev_mv (c := dL ci64 a0) rfl rfl rfl (evd rfl rfl (ev_mv (c := nI y1) rfl rfl rfl (?_))))
      obtain ⟨e7, g8, h⟩ := ob_some h
      refine evd rfl rfl (ev_ia rfl rfl rfl ⟨(geti_some g8).1, (geti_some g8).2.1⟩ (evd rfl rfl (ev_ldE (i := y1) (n := 1) (off := 0) (v := nI e7) rfl rfl zci64 g8 rfl (nb rfl) rfl (evd rfl rfl (ev_mv (c := dL ci64 a1) rfl rfl rfl (evd rfl rfl (ev_mv (c := nI y1) rfl rfl rfl (?_))))))))
      obtain ⟨e9, g10, h⟩ := ob_some h
      refine evd rfl rfl (ev_ia rfl rfl rfl ⟨(geti_some g10).1, (geti_some g10).2.1⟩ (evd rfl rfl (ev_ldE (i := y1) (n := 1) (off := 0) (v := nI e9) rfl rfl zci64 g10 rfl (nb rfl) rfl (evd rfl rfl (ev_bin (c1 := nI e7) (c2 := nI e9) rfl rfl rfl (evdn ?_))))))
      refine ls_keep [(0, dL ci64 a0), (1, dL ci64 a1), (5, nI y1), (25, .bool (e7 != e9))] ⟨kr, kr, kr, kr, trivial⟩ rfl ?_
      rcases cond_some h with ⟨g11, h⟩ | ⟨g11, h⟩
      · refine ls_cT rfl g11 ?_
        refine ls_rs tbOk ?_
        refine evs (ev_ac rfl nofun rfl (evn ?_))
        refine ls_keep [(4, .bool false)] ⟨kr, trivial⟩ rfl ?_
        refine ls_ret ?_
        have q0 := (Option.some.inj h).symm
        have r0 := hr1
        rw [q0] at r0
        have hr := Option.some.inj r0
        rw [← hr]
        exact ⟨.inl rfl, rfl⟩
      · refine ls_cF rfl g11 ?_
        refine ls_skip ?_
        refine hK6 _ (ls_keep [(0, dL ci64 a0), (1, dL ci64 a1), (5, nI y1)] ⟨kr, kr, kr, trivial⟩ rfl ?_)
        refine ls_rgn tbOk ?_
        refine evs (ev_mv (c := nI y1) rfl rfl rfl (evs (ev_bin (c1 := nI y1) (c2 := nI 1) rfl rfl rfl (evs (ev_as (c := nI (IntKind.i64.wrap (y1 + 1))) rfl rfl rfl (evn ?_))))))
        exact hN _ (IntKind.i64.wrap (y1 + 1)) h ⟨kr, kr, kr, trivial⟩
    · refine ls_cF rfl g5 ?_
      refine ls_exit ?_
      have q0 := (Option.some.inj h).symm
      have r0 := hr1
      rw [q0] at r0
      exact kXlaws_eqIntS_B1 () r0 _ trivial
def laws_eqAtom (a0 : Y194) (a1 : Y194) : Option (Bool) := cond (!(a0.1 == a1.1)) (some false) (obind (laws_eqIntS a0.2 a1.2) fun v4 => cond (!v4) (some false) (some true))
theorem laws_eqAtom_s {a0 : Y194} {a1 : Y194} {r : Bool} (h : laws_eqAtom a0 a1 = some r) : SoundAt Try.prog 214 [.agg (c195_d a0), .agg (c195_d a1)] (.bool r) := by
  unfold laws_eqAtom at h
  refine sound_lit tbOk lit214 (nb rfl) rfl ?_
  unfold c214
  refine ls_keep [(0, .agg (c195_d a0)), (1, .agg (c195_d a1))] ⟨kr, kr, trivial⟩ rfl ?_
  refine ls_rs tbOk ?_
  refine evs (ev_bx (c1 := .agg (c195_d a0)) rfl rfl rfl (evs (ev_bx (c1 := .agg (c195_d a1)) rfl rfl rfl (evs (ev_ac rfl nofun rfl (evn ?_))))))
  refine ls_keep [(2, .box [.str a0.1, dL ci64 a0.2]), (3, .box [.str a1.1, dL ci64 a1.2])] ⟨kr, kr, trivial⟩ rfl ?_
  refine ls_seq_k fun K1 hK1 => ?_
  refine ls_rs tbOk ?_
  refine evs (ev_fa (c1 := .cref 2 0) (v := .cref 2 0) rfl rfl rfl ⟨_, rfl⟩ rfl (evs (ev_ldB (off := 0) (v := .str a0.1) rfl rfl rfl rfl (nb rfl) rfl (evs (ev_fa (c1 := .cref 3 0) (v := .cref 3 0) rfl rfl rfl ⟨_, rfl⟩ rfl (evs (ev_ldB (off := 0) (v := .str a1.1) rfl rfl rfl rfl (nb rfl) rfl (evs (ev_bin (c1 := .str a0.1) (c2 := .str a1.1) rfl rfl trivial (evn ?_))))))))))
  refine ls_keep [(2, .box [.str a0.1, dL ci64 a0.2]), (3, .box [.str a1.1, dL ci64 a1.2]), (9, .bool (!(a0.1 == a1.1)))] ⟨kr, kr, kr, trivial⟩ rfl ?_
  rcases cond_some h with ⟨g2, h⟩ | ⟨g2, h⟩
  · refine ls_cT rfl g2 ?_
    refine ls_rs tbOk ?_
    refine evs (ev_ac rfl nofun rfl (evn ?_))
    refine ls_keep [(4, .bool false)] ⟨kr, trivial⟩ rfl ?_
    refine ls_ret ?_
    have hr := Option.some.inj h
    rw [← hr]
    exact ⟨.inl rfl, rfl⟩
  · refine ls_cF rfl g2 ?_
    refine ls_skip ?_
    refine hK1 _ (ls_keep [(2, .box [.str a0.1, dL ci64 a0.2]), (3, .box [.str a1.1, dL ci64 a1.2])] ⟨kr, kr, trivial⟩ rfl ?_)
    refine ls_seq_k fun K3 hK3 => ?_
    refine ls_rs tbOk ?_
    refine evs (ev_fa (c1 := .cref 2 0) (v := .cref 2 1) rfl rfl rfl ⟨_, rfl⟩ rfl (evs (ev_ldB (off := 1) (v := dL ci64 a0.2) rfl rfl rfl rfl (nb rfl) rfl (evs (ev_fa (c1 := .cref 3 0) (v := .cref 3 1) rfl rfl rfl ⟨_, rfl⟩ rfl (evs (ev_ldB (off := 1) (v := dL ci64 a1.2) rfl rfl rfl rfl (nb rfl) rfl (?_))))))))
    obtain ⟨v4, g5, h⟩ := ob_some h
    refine evs (ev_call (era rfl (erD eci64 _) (era rfl (erD eci64 _) eran)) (laws_eqIntS_s g5) (evs (ev_un (c1 := .bool v4) rfl trivial (evn ?_))))
    refine ls_keep [(15, .bool (!v4))] ⟨kr, trivial⟩ rfl ?_
    rcases cond_some h with ⟨g6, h⟩ | ⟨g6, h⟩
    · refine ls_cT rfl g6 ?_
      refine ls_rs tbOk ?_
      refine evs (ev_ac rfl nofun rfl (evn ?_))
      refine ls_keep [(4, .bool false)] ⟨kr, trivial⟩ rfl ?_
      refine ls_ret ?_
      have hr := Option.some.inj h
      rw [← hr]
      exact ⟨.inl rfl, rfl⟩
    · refine ls_cF rfl g6 ?_
      refine ls_skip ?_
      refine hK3 _ (ls_keep [] trivial rfl ?_)
      refine ls_rs tbOk ?_
      refine evs (ev_ac rfl nofun rfl (evn ?_))
      refine ls_keep [(4, .bool true)] ⟨kr, trivial⟩ rfl ?_
      refine ls_ret ?_
      have hr := Option.some.inj h
      rw [← hr]
      exact ⟨.inl rfl, rfl⟩
def laws_eqAtomS_B1 (a0 : List Y194) (a1 : List Y194) (rec : Int → Option (Sum (Unit) (Bool))) (y1 : Int) : Option (Sum (Unit) (Bool)) := cond (decide (y1 < (List.length a0 : Int))) (obind (geti a0 y1) fun e7 => obind (geti a1 y1) fun e9 => obind (laws_eqAtom e7 e9) fun v11 => cond (!v11) (some (.inr false)) (rec (IntKind.i64.wrap (y1 + 1)))) (some (.inl ()))
def laws_eqAtomS (a0 : List Y194) (a1 : List Y194) : Option (Bool) := cond ((List.length a0 : Int) != (List.length a1 : Int)) (some false) (obind (loopF (laws_eqAtomS_B1 a0 a1) fz 0) fun o1 => (match o1 with
  | .inl _ => (some true)
  | .inr r => some r))
theorem laws_eqAtomS_s {a0 : List Y194} {a1 : List Y194} {r : Bool} (h : laws_eqAtomS a0 a1 = some r) : SoundAt Try.prog 132 [dL c195_d a0, dL c195_d a1] (.bool r) := by
  unfold laws_eqAtomS at h
  refine sound_lit tbOk lit132 (nb rfl) rfl ?_
  unfold c132
  refine ls_keep [(0, dL c195_d a0), (1, dL c195_d a1)] ⟨kr, kr, trivial⟩ rfl ?_
  refine ls_rs tbOk ?_
  refine evs (ev_ac rfl nofun rfl (evn ?_))
  refine ls_keep [(0, dL c195_d a0), (1, dL c195_d a1)] ⟨kr, kr, trivial⟩ rfl ?_
  refine ls_seq_k fun K1 hK1 => ?_
  refine ls_rs tbOk ?_
  refine evs (ev_mv (c := dL c195_d a0) rfl rfl rfl (evs (ev_len (c1 := dL c195_d a0) rfl rfl rfl (evs (ev_mv (c := dL c195_d a1) rfl rfl rfl (evs (ev_len (c1 := dL c195_d a1) rfl rfl rfl (evs (ev_bin (c1 := nI (List.length a0 : Int)) (c2 := nI (List.length a1 : Int)) rfl rfl rfl (evn ?_))))))))))
  refine ls_keep [(0, dL c195_d a0), (1, dL c195_d a1), (10, .bool ((List.length a0 : Int) != (List.length a1 : Int)))] ⟨kr, kr, kr, trivial⟩ rfl ?_
  rcases cond_some h with ⟨g2, h⟩ | ⟨g2, h⟩
  · refine ls_cT rfl g2 ?_
    refine ls_rs tbOk ?_
    refine evs (ev_ac rfl nofun rfl (evn ?_))
    refine ls_keep [(4, .bool false)] ⟨kr, trivial⟩ rfl ?_
    refine ls_ret ?_
    have hr := Option.some.inj h
    rw [← hr]
    exact ⟨.inl rfl, rfl⟩
  · refine ls_cF rfl g2 ?_
    refine ls_skip ?_
    refine hK1 _ (ls_keep [(0, dL c195_d a0), (1, dL c195_d a1)] ⟨kr, kr, trivial⟩ rfl ?_)
    refine ls_seq_k fun K3 hK3 => ?_
    refine ls_rs tbOk ?_
    refine evs (ev_ac rfl nofun rfl (evn ?_))
    refine ls_keep [(0, dL c195_d a0), (1, dL c195_d a1), (5, nI 0)] ⟨kr, kr, kr, trivial⟩ rfl ?_
    obtain ⟨o1, hl, hr1⟩ := ob_some h
    clear h
    have kXlaws_eqAtomS_B1 : ∀ (_ : Unit), (some true) = some r → ∀ σ' : PS, okK σ' [] → K3 σ' := by
      intro _ h σ' hk
      refine hK3 _ (ls_keep [] hk rfl ?_)
      refine ls_rs tbOk ?_
      refine evs (ev_ac rfl nofun rfl (evn ?_))
      refine ls_keep [(4, .bool true)] ⟨kr, trivial⟩ rfl ?_
      refine ls_ret ?_
      have hr := Option.some.inj h
      rw [← hr]
      exact ⟨.inl rfl, rfl⟩
    refine ls_rec (fun (y1 : Int) => [(0, dL c195_d a0), (1, dL c195_d a1), (5, nI y1)]) (laws_eqAtomS_B1 a0 a1) fz 0 o1 hl ⟨kr, kr, kr, trivial⟩ (fun _ => rfl) ?_
    rintro m y1 N h hN
    unfold laws_eqAtomS_B1 at h
    refine ls_seq_k fun K4 hK4 => ?_
    refine ls_rs tbOk ?_
    refine evs (ev_mv (c := nI y1) rfl rfl rfl (evs (ev_mv (c := dL c195_d a0) rfl rfl rfl (evs (ev_len (c1 := dL c195_d a0) rfl rfl rfl (evs (ev_bin (c1 := nI y1) (c2 := nI (List.length a0 : Int)) rfl rfl rfl (evn ?_))))))))
    refine ls_keep [(0, dL c195_d a0), (1, dL c195_d a1), (5, nI y1), (14, .bool (decide (y1 < (List.length a0 : Int))))] ⟨kr, kr, kr, kr, trivial⟩ rfl ?_
    rcases cond_some h with ⟨g5, h⟩ | ⟨g5, h⟩
    · refine ls_cT rfl g5 ?_
      refine ls_skip ?_
      refine hK4 _ (ls_keep [(0, dL c195_d a0), (1, dL c195_d a1), (5, nI y1)] ⟨kr, kr, kr, trivial⟩ rfl ?_)
      refine ls_seq_k fun K6 hK6 => ?_
      refine ls_blk ?_
      refine ls_rd tbOk mixed (by kernel_rfl) ?_
      refine evd rfl rfl (ev_mv (c := dL c195_d a0) rfl rfl rfl (evd rfl rfl (ev_mv (c := nI y1) rfl rfl rfl (?_))))
      obtain ⟨e7, g8, h⟩ := ob_some h
      refine evd rfl rfl (ev_ia rfl rfl rfl ⟨(geti_some g8).1, (geti_some g8).2.1⟩ (evd rfl rfl (ev_ldE (i := y1) (n := 2) (off := 0) (v := .agg (c195_d e7)) rfl rfl zc195_d g8 rfl (nb rfl) rfl (evd rfl rfl (ev_mv (c := dL c195_d a1) rfl rfl rfl (evd rfl rfl (ev_mv (c := nI y1) rfl rfl rfl (?_))))))))
      obtain ⟨e9, g10, h⟩ := ob_some h
      refine evd rfl rfl (ev_ia rfl rfl rfl ⟨(geti_some g10).1, (geti_some g10).2.1⟩ (evd rfl rfl (ev_ldE (i := y1) (n := 2) (off := 0) (v := .agg (c195_d e9)) rfl rfl zc195_d g10 rfl (nb rfl) rfl (?_))))
      obtain ⟨v11, g12, h⟩ := ob_some h
      refine evd rfl rfl (ev_call (era rfl (erg (erc rfl (erc (erD eci64 _) rfl))) (era rfl (erg (erc rfl (erc (erD eci64 _) rfl))) eran)) (laws_eqAtom_s g12) (evd rfl rfl (ev_un (c1 := .bool v11) rfl trivial (evdn ?_))))
      refine ls_keep [(0, dL c195_d a0), (1, dL c195_d a1), (5, nI y1), (26, .bool (!v11))] ⟨kr, kr, kr, kr, trivial⟩ rfl ?_
      rcases cond_some h with ⟨g13, h⟩ | ⟨g13, h⟩
      · refine ls_cT rfl g13 ?_
        refine ls_rs tbOk ?_
        refine evs (ev_ac rfl nofun rfl (evn ?_))
        refine ls_keep [(4, .bool false)] ⟨kr, trivial⟩ rfl ?_
        refine ls_ret ?_
        have q0 := (Option.some.inj h).symm
        have r0 := hr1
        rw [q0] at r0
        have hr := Option.some.inj r0
        rw [← hr]
        exact ⟨.inl rfl, rfl⟩
      · refine ls_cF rfl g13 ?_
        refine ls_skip ?_
        refine hK6 _ (ls_keep [(0, dL c195_d a0), (1, dL c195_d a1), (5, nI y1)] ⟨kr, kr, kr, trivial⟩ rfl ?_)
        refine ls_rgn tbOk ?_
        refine evs (ev_mv (c := nI y1) rfl rfl rfl (evs (ev_bin (c1 := nI y1) (c2 := nI 1) rfl rfl rfl (evs (ev_as (c := nI (IntKind.i64.wrap (y1 + 1))) rfl rfl rfl (evn ?_))))))
        exact hN _ (IntKind.i64.wrap (y1 + 1)) h ⟨kr, kr, kr, trivial⟩
    · refine ls_cF rfl g5 ?_
      refine ls_exit ?_
      have q0 := (Option.some.inj h).symm
      have r0 := hr1
      rw [q0] at r0
      exact kXlaws_eqAtomS_B1 () r0 _ trivial
def laws_eqQuery (a0 : Y91) (a1 : Y91) : Option (Bool) := cond (a0.1 != a1.1) (some false) (obind (laws_eqAtomS a0.2.1 a1.2.1) fun v4 => cond (!v4) (some false) (obind (laws_eqIntS a0.2.2 a1.2.2) fun v8 => cond (!v8) (some false) (some true)))
theorem laws_eqQuery_s {a0 : Y91} {a1 : Y91} {r : Bool} (h : laws_eqQuery a0 a1 = some r) : SoundAt Try.prog 49 [.agg (c92_ddd a0), .agg (c92_ddd a1)] (.bool r) := by
  unfold laws_eqQuery at h
  refine sound_lit tbOk lit49 (nb rfl) rfl ?_
  unfold c49
  refine ls_keep [(0, .agg (c92_ddd a0)), (1, .agg (c92_ddd a1))] ⟨kr, kr, trivial⟩ rfl ?_
  refine ls_rs tbOk ?_
  refine evs (ev_bx (c1 := .agg (c92_ddd a0)) rfl rfl rfl (evs (ev_bx (c1 := .agg (c92_ddd a1)) rfl rfl rfl (evs (ev_ac rfl nofun rfl (evn ?_))))))
  refine ls_keep [(2, .box [nI a0.1, dL c195_d a0.2.1, dL ci64 a0.2.2]), (3, .box [nI a1.1, dL c195_d a1.2.1, dL ci64 a1.2.2])] ⟨kr, kr, trivial⟩ rfl ?_
  refine ls_seq_k fun K1 hK1 => ?_
  refine ls_rs tbOk ?_
  refine evs (ev_fa (c1 := .cref 2 0) (v := .cref 2 0) rfl rfl rfl ⟨_, rfl⟩ rfl (evs (ev_ldB (off := 0) (v := nI a0.1) rfl rfl rfl rfl (nb rfl) rfl (evs (ev_fa (c1 := .cref 3 0) (v := .cref 3 0) rfl rfl rfl ⟨_, rfl⟩ rfl (evs (ev_ldB (off := 0) (v := nI a1.1) rfl rfl rfl rfl (nb rfl) rfl (evs (ev_bin (c1 := nI a0.1) (c2 := nI a1.1) rfl rfl rfl (evn ?_))))))))))
  refine ls_keep [(2, .box [nI a0.1, dL c195_d a0.2.1, dL ci64 a0.2.2]), (3, .box [nI a1.1, dL c195_d a1.2.1, dL ci64 a1.2.2]), (9, .bool (a0.1 != a1.1))] ⟨kr, kr, kr, trivial⟩ rfl ?_
  rcases cond_some h with ⟨g2, h⟩ | ⟨g2, h⟩
  · refine ls_cT rfl g2 ?_
    refine ls_rs tbOk ?_
    refine evs (ev_ac rfl nofun rfl (evn ?_))
    refine ls_keep [(4, .bool false)] ⟨kr, trivial⟩ rfl ?_
    refine ls_ret ?_
    have hr := Option.some.inj h
    rw [← hr]
    exact ⟨.inl rfl, rfl⟩
  · refine ls_cF rfl g2 ?_
    refine ls_skip ?_
    refine hK1 _ (ls_keep [(2, .box [nI a0.1, dL c195_d a0.2.1, dL ci64 a0.2.2]), (3, .box [nI a1.1, dL c195_d a1.2.1, dL ci64 a1.2.2])] ⟨kr, kr, trivial⟩ rfl ?_)
    refine ls_seq_k fun K3 hK3 => ?_
    refine ls_rs tbOk ?_
    refine evs (ev_fa (c1 := .cref 2 0) (v := .cref 2 1) rfl rfl rfl ⟨_, rfl⟩ rfl (evs (ev_ldB (off := 1) (v := dL c195_d a0.2.1) rfl rfl rfl rfl (nb rfl) rfl (evs (ev_fa (c1 := .cref 3 0) (v := .cref 3 1) rfl rfl rfl ⟨_, rfl⟩ rfl (evs (ev_ldB (off := 1) (v := dL c195_d a1.2.1) rfl rfl rfl rfl (nb rfl) rfl (?_))))))))
    obtain ⟨v4, g5, h⟩ := ob_some h
    refine evs (ev_call (era rfl (erD ec195_d _) (era rfl (erD ec195_d _) eran)) (laws_eqAtomS_s g5) (evs (ev_un (c1 := .bool v4) rfl trivial (evn ?_))))
    refine ls_keep [(2, .box [nI a0.1, dL c195_d a0.2.1, dL ci64 a0.2.2]), (3, .box [nI a1.1, dL c195_d a1.2.1, dL ci64 a1.2.2]), (15, .bool (!v4))] ⟨kr, kr, kr, trivial⟩ rfl ?_
    rcases cond_some h with ⟨g6, h⟩ | ⟨g6, h⟩
    · refine ls_cT rfl g6 ?_
      refine ls_rs tbOk ?_
      refine evs (ev_ac rfl nofun rfl (evn ?_))
      refine ls_keep [(4, .bool false)] ⟨kr, trivial⟩ rfl ?_
      refine ls_ret ?_
      have hr := Option.some.inj h
      rw [← hr]
      exact ⟨.inl rfl, rfl⟩
    · refine ls_cF rfl g6 ?_
      refine ls_skip ?_
      refine hK3 _ (ls_keep [(2, .box [nI a0.1, dL c195_d a0.2.1, dL ci64 a0.2.2]), (3, .box [nI a1.1, dL c195_d a1.2.1, dL ci64 a1.2.2])] ⟨kr, kr, trivial⟩ rfl ?_)
      refine ls_seq_k fun K7 hK7 => ?_
      refine ls_rs tbOk ?_
      refine evs (ev_fa (c1 := .cref 2 0) (v := .cref 2 2) rfl rfl rfl ⟨_, rfl⟩ rfl (evs (ev_ldB (off := 2) (v := dL ci64 a0.2.2) rfl rfl rfl rfl (nb rfl) rfl (evs (ev_fa (c1 := .cref 3 0) (v := .cref 3 2) rfl rfl rfl ⟨_, rfl⟩ rfl (evs (ev_ldB (off := 2) (v := dL ci64 a1.2.2) rfl rfl rfl rfl (nb rfl) rfl (?_))))))))
      obtain ⟨v8, g9, h⟩ := ob_some h
      refine evs (ev_call (era rfl (erD eci64 _) (era rfl (erD eci64 _) eran)) (laws_eqIntS_s g9) (evs (ev_un (c1 := .bool v8) rfl trivial (evn ?_))))
      refine ls_keep [(21, .bool (!v8))] ⟨kr, trivial⟩ rfl ?_
      rcases cond_some h with ⟨g10, h⟩ | ⟨g10, h⟩
      · refine ls_cT rfl g10 ?_
        refine ls_rs tbOk ?_
        refine evs (ev_ac rfl nofun rfl (evn ?_))
        refine ls_keep [(4, .bool false)] ⟨kr, trivial⟩ rfl ?_
        refine ls_ret ?_
        have hr := Option.some.inj h
        rw [← hr]
        exact ⟨.inl rfl, rfl⟩
      · refine ls_cF rfl g10 ?_
        refine ls_skip ?_
        refine hK7 _ (ls_keep [] trivial rfl ?_)
        refine ls_rs tbOk ?_
        refine evs (ev_ac rfl nofun rfl (evn ?_))
        refine ls_keep [(4, .bool true)] ⟨kr, trivial⟩ rfl ?_
        refine ls_ret ?_
        have hr := Option.some.inj h
        rw [← hr]
        exact ⟨.inl rfl, rfl⟩
def laws_eqJoinForest (a0 : List Int) (a1 : List Int) : Option (Bool) := obind (laws_eqIntS a0 a1) fun v2 => cond (!v2) (some false) (some true)
theorem laws_eqJoinForest_s {a0 : List Int} {a1 : List Int} {r : Bool} (h : laws_eqJoinForest a0 a1 = some r) : SoundAt Try.prog 133 [.agg [dL ci64 a0], .agg [dL ci64 a1]] (.bool r) := by
  unfold laws_eqJoinForest at h
  refine sound_lit tbOk lit133 (nb rfl) rfl ?_
  unfold c133
  refine ls_keep [(0, .agg [dL ci64 a0]), (1, .agg [dL ci64 a1])] ⟨kr, kr, trivial⟩ rfl ?_
  refine ls_rs tbOk ?_
  refine evs (ev_bx (c1 := .agg [dL ci64 a0]) rfl rfl rfl (evs (ev_bx (c1 := .agg [dL ci64 a1]) rfl rfl rfl (evs (ev_ac rfl nofun rfl (evn ?_))))))
  refine ls_keep [(2, .box [dL ci64 a0]), (3, .box [dL ci64 a1])] ⟨kr, kr, trivial⟩ rfl ?_
  refine ls_seq_k fun K1 hK1 => ?_
  refine ls_rs tbOk ?_
  refine evs (ev_fa (c1 := .cref 2 0) (v := .cref 2 0) rfl rfl rfl ⟨_, rfl⟩ rfl (evs (ev_ldB (off := 0) (v := dL ci64 a0) rfl rfl rfl rfl (nb rfl) rfl (evs (ev_fa (c1 := .cref 3 0) (v := .cref 3 0) rfl rfl rfl ⟨_, rfl⟩ rfl (evs (ev_ldB (off := 0) (v := dL ci64 a1) rfl rfl rfl rfl (nb rfl) rfl (?_))))))))
  obtain ⟨v2, g3, h⟩ := ob_some h
  refine evs (ev_call (era rfl (erD eci64 _) (era rfl (erD eci64 _) eran)) (laws_eqIntS_s g3) (evs (ev_un (c1 := .bool v2) rfl trivial (evn ?_))))
  refine ls_keep [(10, .bool (!v2))] ⟨kr, trivial⟩ rfl ?_
  rcases cond_some h with ⟨g4, h⟩ | ⟨g4, h⟩
  · refine ls_cT rfl g4 ?_
    refine ls_rs tbOk ?_
    refine evs (ev_ac rfl nofun rfl (evn ?_))
    refine ls_keep [(4, .bool false)] ⟨kr, trivial⟩ rfl ?_
    refine ls_ret ?_
    have hr := Option.some.inj h
    rw [← hr]
    exact ⟨.inl rfl, rfl⟩
  · refine ls_cF rfl g4 ?_
    refine ls_skip ?_
    refine hK1 _ (ls_keep [] trivial rfl ?_)
    refine ls_rs tbOk ?_
    refine evs (ev_ac rfl nofun rfl (evn ?_))
    refine ls_keep [(4, .bool true)] ⟨kr, trivial⟩ rfl ?_
    refine ls_ret ?_
    have hr := Option.some.inj h
    rw [← hr]
    exact ⟨.inl rfl, rfl⟩
def laws_eqIntSS_B1 (a0 : List (List Int)) (a1 : List (List Int)) (rec : Int → Option (Sum (Unit) (Bool))) (y1 : Int) : Option (Sum (Unit) (Bool)) := cond (decide (y1 < (List.length a0 : Int))) (obind (geti a0 y1) fun e7 => obind (geti a1 y1) fun e9 => obind (laws_eqIntS e7 e9) fun v11 => cond (!v11) (some (.inr false)) (rec (IntKind.i64.wrap (y1 + 1)))) (some (.inl ()))
def laws_eqIntSS (a0 : List (List Int)) (a1 : List (List Int)) : Option (Bool) := cond ((List.length a0 : Int) != (List.length a1 : Int)) (some false) (obind (loopF (laws_eqIntSS_B1 a0 a1) fz 0) fun o1 => (match o1 with
  | .inl _ => (some true)
  | .inr r => some r))
theorem laws_eqIntSS_s {a0 : List (List Int)} {a1 : List (List Int)} {r : Bool} (h : laws_eqIntSS a0 a1 = some r) : SoundAt Try.prog 215 [dL c25_d a0, dL c25_d a1] (.bool r) := by
  unfold laws_eqIntSS at h
  refine sound_lit tbOk lit215 (nb rfl) rfl ?_
  unfold c215
  refine ls_keep [(0, dL c25_d a0), (1, dL c25_d a1)] ⟨kr, kr, trivial⟩ rfl ?_
  refine ls_rs tbOk ?_
  refine evs (ev_ac rfl nofun rfl (evn ?_))
  refine ls_keep [(0, dL c25_d a0), (1, dL c25_d a1)] ⟨kr, kr, trivial⟩ rfl ?_
  refine ls_seq_k fun K1 hK1 => ?_
  refine ls_rs tbOk ?_
  refine evs (ev_mv (c := dL c25_d a0) rfl rfl rfl (evs (ev_len (c1 := dL c25_d a0) rfl rfl rfl (evs (ev_mv (c := dL c25_d a1) rfl rfl rfl (evs (ev_len (c1 := dL c25_d a1) rfl rfl rfl (evs (ev_bin (c1 := nI (List.length a0 : Int)) (c2 := nI (List.length a1 : Int)) rfl rfl rfl (evn ?_))))))))))
  refine ls_keep [(0, dL c25_d a0), (1, dL c25_d a1), (10, .bool ((List.length a0 : Int) != (List.length a1 : Int)))] ⟨kr, kr, kr, trivial⟩ rfl ?_
  rcases cond_some h with ⟨g2, h⟩ | ⟨g2, h⟩
  · refine ls_cT rfl g2 ?_
    refine ls_rs tbOk ?_
    refine evs (ev_ac rfl nofun rfl (evn ?_))
    refine ls_keep [(4, .bool false)] ⟨kr, trivial⟩ rfl ?_
    refine ls_ret ?_
    have hr := Option.some.inj h
    rw [← hr]
    exact ⟨.inl rfl, rfl⟩
  · refine ls_cF rfl g2 ?_
    refine ls_skip ?_
    refine hK1 _ (ls_keep [(0, dL c25_d a0), (1, dL c25_d a1)] ⟨kr, kr, trivial⟩ rfl ?_)
    refine ls_seq_k fun K3 hK3 => ?_
    refine ls_rs tbOk ?_
    refine evs (ev_ac rfl nofun rfl (evn ?_))
    refine ls_keep [(0, dL c25_d a0), (1, dL c25_d a1), (5, nI 0)] ⟨kr, kr, kr, trivial⟩ rfl ?_
    obtain ⟨o1, hl, hr1⟩ := ob_some h
    clear h
    have kXlaws_eqIntSS_B1 : ∀ (_ : Unit), (some true) = some r → ∀ σ' : PS, okK σ' [] → K3 σ' := by
      intro _ h σ' hk
      refine hK3 _ (ls_keep [] hk rfl ?_)
      refine ls_rs tbOk ?_
      refine evs (ev_ac rfl nofun rfl (evn ?_))
      refine ls_keep [(4, .bool true)] ⟨kr, trivial⟩ rfl ?_
      refine ls_ret ?_
      have hr := Option.some.inj h
      rw [← hr]
      exact ⟨.inl rfl, rfl⟩
    refine ls_rec (fun (y1 : Int) => [(0, dL c25_d a0), (1, dL c25_d a1), (5, nI y1)]) (laws_eqIntSS_B1 a0 a1) fz 0 o1 hl ⟨kr, kr, kr, trivial⟩ (fun _ => rfl) ?_
    rintro m y1 N h hN
    unfold laws_eqIntSS_B1 at h
    refine ls_seq_k fun K4 hK4 => ?_
    refine ls_rs tbOk ?_
    refine evs (ev_mv (c := nI y1) rfl rfl rfl (evs (ev_mv (c := dL c25_d a0) rfl rfl rfl (evs (ev_len (c1 := dL c25_d a0) rfl rfl rfl (evs (ev_bin (c1 := nI y1) (c2 := nI (List.length a0 : Int)) rfl rfl rfl (evn ?_))))))))
    refine ls_keep [(0, dL c25_d a0), (1, dL c25_d a1), (5, nI y1), (14, .bool (decide (y1 < (List.length a0 : Int))))] ⟨kr, kr, kr, kr, trivial⟩ rfl ?_
    rcases cond_some h with ⟨g5, h⟩ | ⟨g5, h⟩
    · refine ls_cT rfl g5 ?_
      refine ls_skip ?_
      refine hK4 _ (ls_keep [(0, dL c25_d a0), (1, dL c25_d a1), (5, nI y1)] ⟨kr, kr, kr, trivial⟩ rfl ?_)
      refine ls_seq_k fun K6 hK6 => ?_
      refine ls_blk ?_
      refine ls_rd tbOk mixed (by kernel_rfl) ?_
      refine evd rfl rfl (ev_mv (c := dL c25_d a0) rfl rfl rfl (evd rfl rfl (ev_mv (c := nI y1) rfl rfl rfl (?_))))
      obtain ⟨e7, g8, h⟩ := ob_some h
      refine evd rfl rfl (ev_ia rfl rfl rfl ⟨(geti_some g8).1, (geti_some g8).2.1⟩ (evd rfl rfl (ev_ldE (i := y1) (n := 1) (off := 0) (v := dL ci64 e7) rfl rfl zc25_d g8 rfl (nb rfl) rfl (evd rfl rfl (ev_mv (c := dL c25_d a1) rfl rfl rfl (evd rfl rfl (ev_mv (c := nI y1) rfl rfl rfl (?_))))))))
      obtain ⟨e9, g10, h⟩ := ob_some h
      refine evd rfl rfl (ev_ia rfl rfl rfl ⟨(geti_some g10).1, (geti_some g10).2.1⟩ (evd rfl rfl (ev_ldE (i := y1) (n := 1) (off := 0) (v := dL ci64 e9) rfl rfl zc25_d g10 rfl (nb rfl) rfl (?_))))
      obtain ⟨v11, g12, h⟩ := ob_some h
      refine evd rfl rfl (ev_call (era rfl (erD eci64 _) (era rfl (erD eci64 _) eran)) (laws_eqIntS_s g12) (evd rfl rfl (ev_un (c1 := .bool v11) rfl trivial (evdn ?_))))
      refine ls_keep [(0, dL c25_d a0), (1, dL c25_d a1), (5, nI y1), (26, .bool (!v11))] ⟨kr, kr, kr, kr, trivial⟩ rfl ?_
      rcases cond_some h with ⟨g13, h⟩ | ⟨g13, h⟩
      · refine ls_cT rfl g13 ?_
        refine ls_rs tbOk ?_
        refine evs (ev_ac rfl nofun rfl (evn ?_))
        refine ls_keep [(4, .bool false)] ⟨kr, trivial⟩ rfl ?_
        refine ls_ret ?_
        have q0 := (Option.some.inj h).symm
        have r0 := hr1
        rw [q0] at r0
        have hr := Option.some.inj r0
        rw [← hr]
        exact ⟨.inl rfl, rfl⟩
      · refine ls_cF rfl g13 ?_
        refine ls_skip ?_
        refine hK6 _ (ls_keep [(0, dL c25_d a0), (1, dL c25_d a1), (5, nI y1)] ⟨kr, kr, kr, trivial⟩ rfl ?_)
        refine ls_rgn tbOk ?_
        refine evs (ev_mv (c := nI y1) rfl rfl rfl (evs (ev_bin (c1 := nI y1) (c2 := nI 1) rfl rfl rfl (evs (ev_as (c := nI (IntKind.i64.wrap (y1 + 1))) rfl rfl rfl (evn ?_))))))
        exact hN _ (IntKind.i64.wrap (y1 + 1)) h ⟨kr, kr, kr, trivial⟩
    · refine ls_cF rfl g5 ?_
      refine ls_exit ?_
      have q0 := (Option.some.inj h).symm
      have r0 := hr1
      rw [q0] at r0
      exact kXlaws_eqIntSS_B1 () r0 _ trivial
def laws_eqDecomposition (a0 : Y83) (a1 : Y83) : Option (Bool) := obind (laws_eqIntSS a0.1 a1.1) fun v2 => cond (!v2) (some false) (obind (laws_eqIntS a0.2 a1.2) fun v6 => cond (!v6) (some false) (some true))
theorem laws_eqDecomposition_s {a0 : Y83} {a1 : Y83} {r : Bool} (h : laws_eqDecomposition a0 a1 = some r) : SoundAt Try.prog 134 [.agg (c95_ddd a0), .agg (c95_ddd a1)] (.bool r) := by
  unfold laws_eqDecomposition at h
  refine sound_lit tbOk lit134 (nb rfl) rfl ?_
  unfold c134
  refine ls_keep [(0, .agg (c95_ddd a0)), (1, .agg (c95_ddd a1))] ⟨kr, kr, trivial⟩ rfl ?_
  refine ls_rs tbOk ?_
  refine evs (ev_bx (c1 := .agg (c95_ddd a0)) rfl rfl rfl (evs (ev_bx (c1 := .agg (c95_ddd a1)) rfl rfl rfl (evs (ev_ac rfl nofun rfl (evn ?_))))))
  refine ls_keep [(2, .box [dL c25_d a0.1, dL ci64 a0.2]), (3, .box [dL c25_d a1.1, dL ci64 a1.2])] ⟨kr, kr, trivial⟩ rfl ?_
  refine ls_seq_k fun K1 hK1 => ?_
  refine ls_rs tbOk ?_
  refine evs (ev_fa (c1 := .cref 2 0) (v := .cref 2 0) rfl rfl rfl ⟨_, rfl⟩ rfl (evs (ev_ldB (off := 0) (v := dL c25_d a0.1) rfl rfl rfl rfl (nb rfl) rfl (evs (ev_fa (c1 := .cref 3 0) (v := .cref 3 0) rfl rfl rfl ⟨_, rfl⟩ rfl (evs (ev_ldB (off := 0) (v := dL c25_d a1.1) rfl rfl rfl rfl (nb rfl) rfl (?_))))))))
  obtain ⟨v2, g3, h⟩ := ob_some h
  refine evs (ev_call (era rfl (erD ec25_d _) (era rfl (erD ec25_d _) eran)) (laws_eqIntSS_s g3) (evs (ev_un (c1 := .bool v2) rfl trivial (evn ?_))))
  refine ls_keep [(2, .box [dL c25_d a0.1, dL ci64 a0.2]), (3, .box [dL c25_d a1.1, dL ci64 a1.2]), (10, .bool (!v2))] ⟨kr, kr, kr, trivial⟩ rfl ?_
  rcases cond_some h with ⟨g4, h⟩ | ⟨g4, h⟩
  · refine ls_cT rfl g4 ?_
    refine ls_rs tbOk ?_
    refine evs (ev_ac rfl nofun rfl (evn ?_))
    refine ls_keep [(4, .bool false)] ⟨kr, trivial⟩ rfl ?_
    refine ls_ret ?_
    have hr := Option.some.inj h
    rw [← hr]
    exact ⟨.inl rfl, rfl⟩
  · refine ls_cF rfl g4 ?_
    refine ls_skip ?_
    refine hK1 _ (ls_keep [(2, .box [dL c25_d a0.1, dL ci64 a0.2]), (3, .box [dL c25_d a1.1, dL ci64 a1.2])] ⟨kr, kr, trivial⟩ rfl ?_)
    refine ls_seq_k fun K5 hK5 => ?_
    refine ls_rs tbOk ?_
    refine evs (ev_fa (c1 := .cref 2 0) (v := .cref 2 1) rfl rfl rfl ⟨_, rfl⟩ rfl (evs (ev_ldB (off := 1) (v := dL ci64 a0.2) rfl rfl rfl rfl (nb rfl) rfl (evs (ev_fa (c1 := .cref 3 0) (v := .cref 3 1) rfl rfl rfl ⟨_, rfl⟩ rfl (evs (ev_ldB (off := 1) (v := dL ci64 a1.2) rfl rfl rfl rfl (nb rfl) rfl (?_))))))))
    obtain ⟨v6, g7, h⟩ := ob_some h
    refine evs (ev_call (era rfl (erD eci64 _) (era rfl (erD eci64 _) eran)) (laws_eqIntS_s g7) (evs (ev_un (c1 := .bool v6) rfl trivial (evn ?_))))
    refine ls_keep [(16, .bool (!v6))] ⟨kr, trivial⟩ rfl ?_
    rcases cond_some h with ⟨g8, h⟩ | ⟨g8, h⟩
    · refine ls_cT rfl g8 ?_
      refine ls_rs tbOk ?_
      refine evs (ev_ac rfl nofun rfl (evn ?_))
      refine ls_keep [(4, .bool false)] ⟨kr, trivial⟩ rfl ?_
      refine ls_ret ?_
      have hr := Option.some.inj h
      rw [← hr]
      exact ⟨.inl rfl, rfl⟩
    · refine ls_cF rfl g8 ?_
      refine ls_skip ?_
      refine hK5 _ (ls_keep [] trivial rfl ?_)
      refine ls_rs tbOk ?_
      refine evs (ev_ac rfl nofun rfl (evn ?_))
      refine ls_keep [(4, .bool true)] ⟨kr, trivial⟩ rfl ?_
      refine ls_ret ?_
      have hr := Option.some.inj h
      rw [← hr]
      exact ⟨.inl rfl, rfl⟩
def laws_eqPlan (a0 : Y96) (a1 : Y96) : Option (Bool) := cond (a0.1 != a1.1) (some false) (obind (laws_eqIntS a0.2.1 a1.2.1) fun v4 => cond (!v4) (some false) (obind (laws_eqJoinForest a0.2.2.1 a1.2.2.1) fun v8 => cond (!v8) (some false) (obind (laws_eqDecomposition a0.2.2.2 a1.2.2.2) fun v12 => cond (!v12) (some false) (some true))))
theorem laws_eqPlan_s {a0 : Y96} {a1 : Y96} {r : Bool} (h : laws_eqPlan a0 a1 = some r) : SoundAt Try.prog 50 [.agg (c97_ddddd a0), .agg (c97_ddddd a1)] (.bool r) := by
  unfold laws_eqPlan at h
  refine sound_lit tbOk lit50 (nb rfl) rfl ?_
  unfold c50
  refine ls_keep [(0, .agg (c97_ddddd a0)), (1, .agg (c97_ddddd a1))] ⟨kr, kr, trivial⟩ rfl ?_
  refine ls_rs tbOk ?_
  refine evs (ev_bx (c1 := .agg (c97_ddddd a0)) rfl rfl rfl (evs (ev_bx (c1 := .agg (c97_ddddd a1)) rfl rfl rfl (evs (ev_ac rfl nofun rfl (evn ?_))))))
  refine ls_keep [(2, .box [nI a0.1, dL ci64 a0.2.1, dL ci64 a0.2.2.1, dL c25_d a0.2.2.2.1, dL ci64 a0.2.2.2.2]), (3, .box [nI a1.1, dL ci64 a1.2.1, dL ci64 a1.2.2.1, dL c25_d a1.2.2.2.1, dL ci64 a1.2.2.2.2])] ⟨kr, kr, trivial⟩ rfl ?_
  refine ls_seq_k fun K1 hK1 => ?_
  refine ls_rs tbOk ?_
  refine evs (ev_fa (c1 := .cref 2 0) (v := .cref 2 0) rfl rfl rfl ⟨_, rfl⟩ rfl (evs (ev_ldB (off := 0) (v := nI a0.1) rfl rfl rfl rfl (nb rfl) rfl (evs (ev_fa (c1 := .cref 3 0) (v := .cref 3 0) rfl rfl rfl ⟨_, rfl⟩ rfl (evs (ev_ldB (off := 0) (v := nI a1.1) rfl rfl rfl rfl (nb rfl) rfl (evs (ev_bin (c1 := nI a0.1) (c2 := nI a1.1) rfl rfl rfl (evn ?_))))))))))
  refine ls_keep [(2, .box [nI a0.1, dL ci64 a0.2.1, dL ci64 a0.2.2.1, dL c25_d a0.2.2.2.1, dL ci64 a0.2.2.2.2]), (3, .box [nI a1.1, dL ci64 a1.2.1, dL ci64 a1.2.2.1, dL c25_d a1.2.2.2.1, dL ci64 a1.2.2.2.2]), (9, .bool (a0.1 != a1.1))] ⟨kr, kr, kr, trivial⟩ rfl ?_
  rcases cond_some h with ⟨g2, h⟩ | ⟨g2, h⟩
  · refine ls_cT rfl g2 ?_
    refine ls_rs tbOk ?_
    refine evs (ev_ac rfl nofun rfl (evn ?_))
    refine ls_keep [(4, .bool false)] ⟨kr, trivial⟩ rfl ?_
    refine ls_ret ?_
    have hr := Option.some.inj h
    rw [← hr]
    exact ⟨.inl rfl, rfl⟩
  · refine ls_cF rfl g2 ?_
    refine ls_skip ?_
    refine hK1 _ (ls_keep [(2, .box [nI a0.1, dL ci64 a0.2.1, dL ci64 a0.2.2.1, dL c25_d a0.2.2.2.1, dL ci64 a0.2.2.2.2]), (3, .box [nI a1.1, dL ci64 a1.2.1, dL ci64 a1.2.2.1, dL c25_d a1.2.2.2.1, dL ci64 a1.2.2.2.2])] ⟨kr, kr, trivial⟩ rfl ?_)
    refine ls_seq_k fun K3 hK3 => ?_
    refine ls_rs tbOk ?_
    refine evs (ev_fa (c1 := .cref 2 0) (v := .cref 2 1) rfl rfl rfl ⟨_, rfl⟩ rfl (evs (ev_ldB (off := 1) (v := dL ci64 a0.2.1) rfl rfl rfl rfl (nb rfl) rfl (evs (ev_fa (c1 := .cref 3 0) (v := .cref 3 1) rfl rfl rfl ⟨_, rfl⟩ rfl (evs (ev_ldB (off := 1) (v := dL ci64 a1.2.1) rfl rfl rfl rfl (nb rfl) rfl (?_))))))))
    obtain ⟨v4, g5, h⟩ := ob_some h
    refine evs (ev_call (era rfl (erD eci64 _) (era rfl (erD eci64 _) eran)) (laws_eqIntS_s g5) (evs (ev_un (c1 := .bool v4) rfl trivial (evn ?_))))
    refine ls_keep [(2, .box [nI a0.1, dL ci64 a0.2.1, dL ci64 a0.2.2.1, dL c25_d a0.2.2.2.1, dL ci64 a0.2.2.2.2]), (3, .box [nI a1.1, dL ci64 a1.2.1, dL ci64 a1.2.2.1, dL c25_d a1.2.2.2.1, dL ci64 a1.2.2.2.2]), (15, .bool (!v4))] ⟨kr, kr, kr, trivial⟩ rfl ?_
    rcases cond_some h with ⟨g6, h⟩ | ⟨g6, h⟩
    · refine ls_cT rfl g6 ?_
      refine ls_rs tbOk ?_
      refine evs (ev_ac rfl nofun rfl (evn ?_))
      refine ls_keep [(4, .bool false)] ⟨kr, trivial⟩ rfl ?_
      refine ls_ret ?_
      have hr := Option.some.inj h
      rw [← hr]
      exact ⟨.inl rfl, rfl⟩
    · refine ls_cF rfl g6 ?_
      refine ls_skip ?_
      refine hK3 _ (ls_keep [(2, .box [nI a0.1, dL ci64 a0.2.1, dL ci64 a0.2.2.1, dL c25_d a0.2.2.2.1, dL ci64 a0.2.2.2.2]), (3, .box [nI a1.1, dL ci64 a1.2.1, dL ci64 a1.2.2.1, dL c25_d a1.2.2.2.1, dL ci64 a1.2.2.2.2])] ⟨kr, kr, trivial⟩ rfl ?_)
      refine ls_seq_k fun K7 hK7 => ?_
      refine ls_rs tbOk ?_
      refine evs (ev_fa (c1 := .cref 2 0) (v := .cref 2 2) rfl rfl rfl ⟨_, rfl⟩ rfl (evs (ev_ldB (off := 2) (v := .agg [dL ci64 a0.2.2.1]) rfl rfl rfl rfl (nb rfl) rfl (evs (ev_fa (c1 := .cref 3 0) (v := .cref 3 2) rfl rfl rfl ⟨_, rfl⟩ rfl (evs (ev_ldB (off := 2) (v := .agg [dL ci64 a1.2.2.1]) rfl rfl rfl rfl (nb rfl) rfl (?_))))))))
      obtain ⟨v8, g9, h⟩ := ob_some h
      refine evs (ev_call (era rfl (erg (erc (erD eci64 _) rfl)) (era rfl (erg (erc (erD eci64 _) rfl)) eran)) (laws_eqJoinForest_s g9) (evs (ev_un (c1 := .bool v8) rfl trivial (evn ?_))))
      refine ls_keep [(2, .box [nI a0.1, dL ci64 a0.2.1, dL ci64 a0.2.2.1, dL c25_d a0.2.2.2.1, dL ci64 a0.2.2.2.2]), (3, .box [nI a1.1, dL ci64 a1.2.1, dL ci64 a1.2.2.1, dL c25_d a1.2.2.2.1, dL ci64 a1.2.2.2.2]), (21, .bool (!v8))] ⟨kr, kr, kr, trivial⟩ rfl ?_
      rcases cond_some h with ⟨g10, h⟩ | ⟨g10, h⟩
      · refine ls_cT rfl g10 ?_
        refine ls_rs tbOk ?_
        refine evs (ev_ac rfl nofun rfl (evn ?_))
        refine ls_keep [(4, .bool false)] ⟨kr, trivial⟩ rfl ?_
        refine ls_ret ?_
        have hr := Option.some.inj h
        rw [← hr]
        exact ⟨.inl rfl, rfl⟩
      · refine ls_cF rfl g10 ?_
        refine ls_skip ?_
        refine hK7 _ (ls_keep [(2, .box [nI a0.1, dL ci64 a0.2.1, dL ci64 a0.2.2.1, dL c25_d a0.2.2.2.1, dL ci64 a0.2.2.2.2]), (3, .box [nI a1.1, dL ci64 a1.2.1, dL ci64 a1.2.2.1, dL c25_d a1.2.2.2.1, dL ci64 a1.2.2.2.2])] ⟨kr, kr, trivial⟩ rfl ?_)
        refine ls_seq_k fun K11 hK11 => ?_
        refine ls_rs tbOk ?_
        refine evs (ev_fa (c1 := .cref 2 0) (v := .cref 2 3) rfl rfl rfl ⟨_, rfl⟩ rfl (evs (ev_ldB (off := 3) (v := .agg (c95_ddd a0.2.2.2)) rfl rfl rfl rfl (nb rfl) rfl (evs (ev_fa (c1 := .cref 3 0) (v := .cref 3 3) rfl rfl rfl ⟨_, rfl⟩ rfl (evs (ev_ldB (off := 3) (v := .agg (c95_ddd a1.2.2.2)) rfl rfl rfl rfl (nb rfl) rfl (?_))))))))
        obtain ⟨v12, g13, h⟩ := ob_some h
        refine evs (ev_call (era rfl (erg (erc (erD ec25_d _) (erc (erD eci64 _) rfl))) (era rfl (erg (erc (erD ec25_d _) (erc (erD eci64 _) rfl))) eran)) (laws_eqDecomposition_s g13) (evs (ev_un (c1 := .bool v12) rfl trivial (evn ?_))))
        refine ls_keep [(27, .bool (!v12))] ⟨kr, trivial⟩ rfl ?_
        rcases cond_some h with ⟨g14, h⟩ | ⟨g14, h⟩
        · refine ls_cT rfl g14 ?_
          refine ls_rs tbOk ?_
          refine evs (ev_ac rfl nofun rfl (evn ?_))
          refine ls_keep [(4, .bool false)] ⟨kr, trivial⟩ rfl ?_
          refine ls_ret ?_
          have hr := Option.some.inj h
          rw [← hr]
          exact ⟨.inl rfl, rfl⟩
        · refine ls_cF rfl g14 ?_
          refine ls_skip ?_
          refine hK11 _ (ls_keep [] trivial rfl ?_)
          refine ls_rs tbOk ?_
          refine evs (ev_ac rfl nofun rfl (evn ?_))
          refine ls_keep [(4, .bool true)] ⟨kr, trivial⟩ rfl ?_
          refine ls_ret ?_
          have hr := Option.some.inj h
          rw [← hr]
          exact ⟨.inl rfl, rfl⟩
def spec_ContainsVariable_B1 (a0 : Y194) (a1 : Int) (rec : Int → Option (Sum (Unit) (Bool))) (y1 : Int) : Option (Sum (Unit) (Bool)) := cond (decide (y1 < (List.length a0.2 : Int))) (obind (geti a0.2 y1) fun e5 => cond (e5 == a1) (some (.inr true)) (rec (IntKind.i64.wrap (y1 + 1)))) (some (.inl ()))
def spec_ContainsVariable (a0 : Y194) (a1 : Int) : Option (Bool) := obind (loopF (spec_ContainsVariable_B1 a0 a1) fz 0) fun o1 => (match o1 with
  | .inl _ => (some false)
  | .inr r => some r)
theorem spec_ContainsVariable_s {a0 : Y194} {a1 : Int} {r : Bool} (h : spec_ContainsVariable a0 a1 = some r) : SoundAt Try.prog 157 [.agg (c195_d a0), nI a1] (.bool r) := by
  unfold spec_ContainsVariable at h
  refine sound_lit tbOk lit157 (nb rfl) rfl ?_
  unfold c157
  refine ls_keep [(0, .agg (c195_d a0)), (1, nI a1)] ⟨kr, kr, trivial⟩ rfl ?_
  refine ls_rs tbOk ?_
  refine evs (ev_bx (c1 := .agg (c195_d a0)) rfl rfl rfl (evs (ev_ac rfl nofun rfl (evn ?_))))
  refine ls_keep [(1, nI a1), (2, .box [.str a0.1, dL ci64 a0.2])] ⟨kr, kr, trivial⟩ rfl ?_
  refine ls_seq_k fun K1 hK1 => ?_
  refine ls_rs tbOk ?_
  refine evs (ev_ac rfl nofun rfl (evn ?_))
  refine ls_keep [(1, nI a1), (2, .box [.str a0.1, dL ci64 a0.2]), (5, nI 0)] ⟨kr, kr, kr, trivial⟩ rfl ?_
  obtain ⟨o1, hl, hr1⟩ := ob_some h
  clear h
  have kXspec_ContainsVariable_B1 : ∀ (_ : Unit), (some false) = some r → ∀ σ' : PS, okK σ' [] → K1 σ' := by
    intro _ h σ' hk
    refine hK1 _ (ls_keep [] hk rfl ?_)
    refine ls_rs tbOk ?_
    refine evs (ev_ac rfl nofun rfl (evn ?_))
    refine ls_keep [(4, .bool false)] ⟨kr, trivial⟩ rfl ?_
    refine ls_ret ?_
    have hr := Option.some.inj h
    rw [← hr]
    exact ⟨.inl rfl, rfl⟩
  refine ls_rec (fun (y1 : Int) => [(1, nI a1), (2, .box [.str a0.1, dL ci64 a0.2]), (5, nI y1)]) (spec_ContainsVariable_B1 a0 a1) fz 0 o1 hl ⟨kr, kr, kr, trivial⟩ (fun _ => rfl) ?_
  rintro m y1 N h hN
  unfold spec_ContainsVariable_B1 at h
  refine ls_seq_k fun K2 hK2 => ?_
  refine ls_rs tbOk ?_
  refine evs (ev_mv (c := nI y1) rfl rfl rfl (evs (ev_fa (c1 := .cref 2 0) (v := .cref 2 1) rfl rfl rfl ⟨_, rfl⟩ rfl (evs (ev_ldB (off := 1) (v := dL ci64 a0.2) rfl rfl rfl rfl (nb rfl) rfl (evs (ev_len (c1 := dL ci64 a0.2) rfl rfl rfl (evs (ev_bin (c1 := nI y1) (c2 := nI (List.length a0.2 : Int)) rfl rfl rfl (evn ?_))))))))))
  refine ls_keep [(1, nI a1), (2, .box [.str a0.1, dL ci64 a0.2]), (5, nI y1), (10, .bool (decide (y1 < (List.length a0.2 : Int))))] ⟨kr, kr, kr, kr, trivial⟩ rfl ?_
  rcases cond_some h with ⟨g3, h⟩ | ⟨g3, h⟩
  · refine ls_cT rfl g3 ?_
    refine ls_skip ?_
    refine hK2 _ (ls_keep [(1, nI a1), (2, .box [.str a0.1, dL ci64 a0.2]), (5, nI y1)] ⟨kr, kr, kr, trivial⟩ rfl ?_)
    refine ls_seq_k fun K4 hK4 => ?_
    refine ls_blk ?_
    refine ls_rs tbOk ?_
    refine evs (ev_fa (c1 := .cref 2 0) (v := .cref 2 1) rfl rfl rfl ⟨_, rfl⟩ rfl (evs (ev_ldB (off := 1) (v := dL ci64 a0.2) rfl rfl rfl rfl (nb rfl) rfl (evs (ev_mv (c := nI y1) rfl rfl rfl (?_))))))
    obtain ⟨e5, g6, h⟩ := ob_some h
    refine evs (ev_ia rfl rfl rfl ⟨(geti_some g6).1, (geti_some g6).2.1⟩ (evs (ev_ldE (i := y1) (n := 1) (off := 0) (v := nI e5) rfl rfl zci64 g6 rfl (nb rfl) rfl (evs (ev_mv (c := nI a1) rfl rfl rfl (evs (ev_bin (c1 := nI e5) (c2 := nI a1) rfl rfl rfl (evn ?_))))))))
    refine ls_keep [(1, nI a1), (2, .box [.str a0.1, dL ci64 a0.2]), (5, nI y1), (19, .bool (e5 == a1))] ⟨kr, kr, kr, kr, trivial⟩ rfl ?_
    rcases cond_some h with ⟨g7, h⟩ | ⟨g7, h⟩
    · refine ls_cT rfl g7 ?_
      refine ls_rs tbOk ?_
      refine evs (ev_ac rfl nofun rfl (evn ?_))
      refine ls_keep [(4, .bool true)] ⟨kr, trivial⟩ rfl ?_
      refine ls_ret ?_
      have q0 := (Option.some.inj h).symm
      have r0 := hr1
      rw [q0] at r0
      have hr := Option.some.inj r0
      rw [← hr]
      exact ⟨.inl rfl, rfl⟩
    · refine ls_cF rfl g7 ?_
      refine ls_skip ?_
      refine hK4 _ (ls_keep [(1, nI a1), (2, .box [.str a0.1, dL ci64 a0.2]), (5, nI y1)] ⟨kr, kr, kr, trivial⟩ rfl ?_)
      refine ls_rgn tbOk ?_
      refine evs (ev_mv (c := nI y1) rfl rfl rfl (evs (ev_bin (c1 := nI y1) (c2 := nI 1) rfl rfl rfl (evs (ev_as (c := nI (IntKind.i64.wrap (y1 + 1))) rfl rfl rfl (evn ?_))))))
      exact hN _ (IntKind.i64.wrap (y1 + 1)) h ⟨kr, kr, kr, trivial⟩
  · refine ls_cF rfl g3 ?_
    refine ls_exit ?_
    have q0 := (Option.some.inj h).symm
    have r0 := hr1
    rw [q0] at r0
    exact kXspec_ContainsVariable_B1 () r0 _ trivial
def spec_l1In_J1 (x2 : Bool) : Option (Bool) := some x2
def spec_l1In (a0 : Int) (a1 : Int) (a2 : Int) : Option (Bool) := cond (decide (a1 ≤ a0)) (spec_l1In_J1 (decide (a0 ≤ a2))) (spec_l1In_J1 false)
theorem spec_l1In_s {a0 : Int} {a1 : Int} {a2 : Int} {r : Bool} (h : spec_l1In a0 a1 a2 = some r) : SoundAt Try.prog 86 [nI a0, nI a1, nI a2] (.bool r) := by
  unfold spec_l1In at h
  refine sound_lit tbOk lit86 (nb rfl) rfl ?_
  unfold c86
  refine ls_keep [(0, nI a0), (1, nI a1), (2, nI a2)] ⟨kr, kr, kr, trivial⟩ rfl ?_
  refine ls_rs tbOk ?_
  refine evs (ev_ac rfl nofun rfl (evn ?_))
  refine ls_keep [(0, nI a0), (1, nI a1), (2, nI a2)] ⟨kr, kr, kr, trivial⟩ rfl ?_
  refine ls_rs_k tbOk fun K1 hK1 => ?_
  have kspec_l1In_J1 : ∀ (x2 : Bool), spec_l1In_J1 x2 = some r → ∀ σ' : PS, okK σ' [(6, .bool x2)] → K1 σ' := by
    intro x2 h σ' hk
    unfold spec_l1In_J1 at h
    refine hK1 _ (ls_keep [(6, .bool x2)] hk rfl ?_)
    refine ls_ret ?_
    have hr := Option.some.inj h
    rw [← hr]
    exact ⟨.inl rfl, rfl⟩
  refine evs (ev_mv (c := nI a0) rfl rfl rfl (evs (ev_mv (c := nI a1) rfl rfl rfl (evs (ev_bin (c1 := nI a0) (c2 := nI a1) rfl rfl rfl (evs (ev_mv (c := .bool (decide (a1 ≤ a0))) rfl rfl rfl (?_))))))))
  rcases cond_some h with ⟨g3, h⟩ | ⟨g3, h⟩
  · refine evs (ev_gr rfl (congrArg V.bool g3) (ev_mv (c := nI a0) rfl rfl rfl (evs (ev_gr rfl (congrArg V.bool g3) (ev_mv (c := nI a2) rfl rfl rfl (evs (ev_gr rfl (congrArg V.bool g3) (ev_bin (c1 := nI a0) (c2 := nI a2) rfl rfl rfl (evs (ev_pkT (c1 := .bool (decide (a0 ≤ a2))) rfl g3 rfl rfl (evs (ev_as (c := .bool (decide (a0 ≤ a2))) rfl rfl rfl (evn ?_)))))))))))))
    exact kspec_l1In_J1 (decide (a0 ≤ a2)) h _ ⟨kr, trivial⟩
  · refine evs (ev_gs rfl rfl (isb_F g3) (evs (ev_gs rfl rfl (isb_F g3) (evs (ev_gs rfl rfl (isb_F g3) (evs (ev_pkF (c1 := .bool false) rfl g3 rfl rfl (evs (ev_as (c := .bool false) rfl rfl rfl (evn ?_))))))))))
    exact kspec_l1In_J1 false h _ ⟨kr, trivial⟩
def spec_l7Find_B1 (a0 : List Int) (a1 : Int) (rec : Int → Option (Sum (Unit) (Int))) (y1 : Int) : Option (Sum (Unit) (Int)) := cond (decide (y1 < (List.length a0 : Int))) (obind (geti a0 y1) fun e5 => cond (e5 == a1) (some (.inr y1)) (rec (IntKind.i64.wrap (y1 + 1)))) (some (.inl ()))
def spec_l7Find (a0 : List Int) (a1 : Int) : Option (Int) := obind (loopF (spec_l7Find_B1 a0 a1) fz 0) fun o1 => (match o1 with
  | .inl _ => (some (-1))
  | .inr r => some r)
theorem spec_l7Find_s {a0 : List Int} {a1 : Int} {r : Int} (h : spec_l7Find a0 a1 = some r) : SoundAt Try.prog 205 [dL ci64 a0, nI a1] (nI r) := by
  unfold spec_l7Find at h
  refine sound_lit tbOk lit205 (nb rfl) rfl ?_
  unfold c205
  refine ls_keep [(0, dL ci64 a0), (1, nI a1)] ⟨kr, kr, trivial⟩ rfl ?_
  refine ls_rs tbOk ?_
  refine evs (ev_ac rfl nofun rfl (evn ?_))
  refine ls_keep [(0, dL ci64 a0), (1, nI a1)] ⟨kr, kr, trivial⟩ rfl ?_
  refine ls_seq_k fun K1 hK1 => ?_
  refine ls_rs tbOk ?_
  refine evs (ev_ac rfl nofun rfl (evn ?_))
  refine ls_keep [(0, dL ci64 a0), (1, nI a1), (5, nI 0)] ⟨kr, kr, kr, trivial⟩ rfl ?_
  obtain ⟨o1, hl, hr1⟩ := ob_some h
  clear h
  have kXspec_l7Find_B1 : ∀ (_ : Unit), (some (-1)) = some r → ∀ σ' : PS, okK σ' [] → K1 σ' := by
    intro _ h σ' hk
    refine hK1 _ (ls_keep [] hk rfl ?_)
    refine ls_rs tbOk ?_
    refine evs (ev_ac rfl nofun rfl (evn ?_))
    refine ls_keep [(4, nI (-1))] ⟨kr, trivial⟩ rfl ?_
    refine ls_ret ?_
    have hr := Option.some.inj h
    rw [← hr]
    exact ⟨.inl rfl, rfl⟩
  refine ls_rec (fun (y1 : Int) => [(0, dL ci64 a0), (1, nI a1), (5, nI y1)]) (spec_l7Find_B1 a0 a1) fz 0 o1 hl ⟨kr, kr, kr, trivial⟩ (fun _ => rfl) ?_
  rintro m y1 N h hN
  unfold spec_l7Find_B1 at h
  refine ls_seq_k fun K2 hK2 => ?_
  refine ls_rs tbOk ?_
  refine evs (ev_mv (c := nI y1) rfl rfl rfl (evs (ev_mv (c := dL ci64 a0) rfl rfl rfl (evs (ev_len (c1 := dL ci64 a0) rfl rfl rfl (evs (ev_bin (c1 := nI y1) (c2 := nI (List.length a0 : Int)) rfl rfl rfl (evn ?_))))))))
  refine ls_keep [(0, dL ci64 a0), (1, nI a1), (5, nI y1), (9, .bool (decide (y1 < (List.length a0 : Int))))] ⟨kr, kr, kr, kr, trivial⟩ rfl ?_
  rcases cond_some h with ⟨g3, h⟩ | ⟨g3, h⟩
  · refine ls_cT rfl g3 ?_
    refine ls_skip ?_
    refine hK2 _ (ls_keep [(0, dL ci64 a0), (1, nI a1), (5, nI y1)] ⟨kr, kr, kr, trivial⟩ rfl ?_)
    refine ls_seq_k fun K4 hK4 => ?_
    refine ls_blk ?_
    refine ls_rs tbOk ?_
    refine evs (ev_mv (c := dL ci64 a0) rfl rfl rfl (evs (ev_mv (c := nI y1) rfl rfl rfl (?_))))
    obtain ⟨e5, g6, h⟩ := ob_some h
    refine evs (ev_ia rfl rfl rfl ⟨(geti_some g6).1, (geti_some g6).2.1⟩ (evs (ev_ldE (i := y1) (n := 1) (off := 0) (v := nI e5) rfl rfl zci64 g6 rfl (nb rfl) rfl (evs (ev_mv (c := nI a1) rfl rfl rfl (evs (ev_bin (c1 := nI e5) (c2 := nI a1) rfl rfl rfl (evn ?_))))))))
    refine ls_keep [(0, dL ci64 a0), (1, nI a1), (5, nI y1), (17, .bool (e5 == a1))] ⟨kr, kr, kr, kr, trivial⟩ rfl ?_
    rcases cond_some h with ⟨g7, h⟩ | ⟨g7, h⟩
    · refine ls_cT rfl g7 ?_
      refine ls_rs tbOk ?_
      refine evs (ev_mv (c := nI y1) rfl rfl rfl (evs (ev_as (c := nI y1) rfl rfl rfl (evn ?_))))
      refine ls_keep [(4, nI y1)] ⟨kr, trivial⟩ rfl ?_
      refine ls_ret ?_
      have q0 := (Option.some.inj h).symm
      have r0 := hr1
      rw [q0] at r0
      have hr := Option.some.inj r0
      rw [← hr]
      exact ⟨.inl rfl, rfl⟩
    · refine ls_cF rfl g7 ?_
      refine ls_skip ?_
      refine hK4 _ (ls_keep [(0, dL ci64 a0), (1, nI a1), (5, nI y1)] ⟨kr, kr, kr, trivial⟩ rfl ?_)
      refine ls_rgn tbOk ?_
      refine evs (ev_mv (c := nI y1) rfl rfl rfl (evs (ev_bin (c1 := nI y1) (c2 := nI 1) rfl rfl rfl (evs (ev_as (c := nI (IntKind.i64.wrap (y1 + 1))) rfl rfl rfl (evn ?_))))))
      exact hN _ (IntKind.i64.wrap (y1 + 1)) h ⟨kr, kr, kr, trivial⟩
  · refine ls_cF rfl g3 ?_
    refine ls_exit ?_
    have q0 := (Option.some.inj h).symm
    have r0 := hr1
    rw [q0] at r0
    exact kXspec_l7Find_B1 () r0 _ trivial
def spec_IsValidName_B1 (a0 : List UInt8) (rec : Int → Option (Sum (Unit) (Bool))) (y1 : Int) : Option (Sum (Unit) (Bool)) := cond (decide (y1 < (List.length a0 : Int))) (obind (geti a0 y1) fun b5 => cond (decide ((UInt8.toNat b5 : Int) < 97)) (some (.inr false)) (obind (geti a0 y1) fun b8 => cond (decide (122 < (UInt8.toNat b8 : Int))) (some (.inr false)) (rec (IntKind.i64.wrap (y1 + 1))))) (some (.inl ()))
def spec_IsValidName (a0 : List UInt8) : Option (Bool) := obind (loopF (spec_IsValidName_B1 a0) fz 0) fun o1 => (match o1 with
  | .inl _ => (obind (spec_l1In (List.length a0 : Int) 1 4) fun v11 => some v11)
  | .inr r => some r)
theorem spec_IsValidName_s {a0 : List UInt8} {r : Bool} (h : spec_IsValidName a0 = some r) : SoundAt Try.prog 216 [.str a0] (.bool r) := by
  unfold spec_IsValidName at h
  refine sound_lit tbOk lit216 (nb rfl) rfl ?_
  unfold c216
  refine ls_keep [(0, .str a0)] ⟨kr, trivial⟩ rfl ?_
  refine ls_rs tbOk ?_
  refine evs (ev_ac rfl nofun rfl (evn ?_))
  refine ls_keep [(0, .str a0)] ⟨kr, trivial⟩ rfl ?_
  refine ls_seq_k fun K1 hK1 => ?_
  refine ls_rs tbOk ?_
  refine evs (ev_ac rfl nofun rfl (evn ?_))
  refine ls_keep [(0, .str a0), (3, nI 0)] ⟨kr, kr, trivial⟩ rfl ?_
  obtain ⟨o1, hl, hr1⟩ := ob_some h
  clear h
  have kXspec_IsValidName_B1 : ∀ (_ : Unit), (obind (spec_l1In (List.length a0 : Int) 1 4) fun v11 => some v11) = some r → ∀ σ' : PS, okK σ' [(0, .str a0)] → K1 σ' := by
    intro _ h σ' hk
    refine hK1 _ (ls_keep [(0, .str a0)] hk rfl ?_)
    refine ls_rs tbOk ?_
    refine evs (ev_mv (c := .str a0) rfl rfl rfl (evs (ev_lens (z := []) rfl rfl (?_))))
    obtain ⟨v11, g12, h⟩ := ob_some h
    refine evs (ev_call (era rfl rfl (era rfl rfl (era rfl rfl eran))) (spec_l1In_s g12) (evs (ev_as (c := .bool v11) rfl rfl rfl (evn ?_))))
    refine ls_keep [(2, .bool v11)] ⟨kr, trivial⟩ rfl ?_
    refine ls_ret ?_
    have hr := Option.some.inj h
    rw [← hr]
    exact ⟨.inl rfl, rfl⟩
  refine ls_rec (fun (y1 : Int) => [(0, .str a0), (3, nI y1)]) (spec_IsValidName_B1 a0) fz 0 o1 hl ⟨kr, kr, trivial⟩ (fun _ => rfl) ?_
  rintro m y1 N h hN
  unfold spec_IsValidName_B1 at h
  refine ls_seq_k fun K2 hK2 => ?_
  refine ls_rs tbOk ?_
  refine evs (ev_mv (c := nI y1) rfl rfl rfl (evs (ev_mv (c := .str a0) rfl rfl rfl (evs (ev_lens (z := []) rfl rfl (evs (ev_bin (c1 := nI y1) (c2 := nI (List.length a0 : Int)) rfl rfl rfl (evn ?_))))))))
  refine ls_keep [(0, .str a0), (3, nI y1), (7, .bool (decide (y1 < (List.length a0 : Int))))] ⟨kr, kr, kr, trivial⟩ rfl ?_
  rcases cond_some h with ⟨g3, h⟩ | ⟨g3, h⟩
  · refine ls_cT rfl g3 ?_
    refine ls_skip ?_
    refine hK2 _ (ls_keep [(0, .str a0), (3, nI y1)] ⟨kr, kr, trivial⟩ rfl ?_)
    refine ls_seq_k fun K4 hK4 => ?_
    refine ls_blk ?_
    refine ls_rs tbOk ?_
    refine evs (ev_mv (c := .str a0) rfl rfl rfl (evs (ev_mv (c := nI y1) rfl rfl rfl (?_))))
    obtain ⟨b5, g6, h⟩ := ob_some h
    refine evs (ev_six rfl rfl rfl g6 (evs (ev_bin (c1 := .int .u8 (UInt8.toNat b5 : Int)) (c2 := .int .u8 97) rfl rfl rfl (evs (ev_mv (c := .bool (decide ((UInt8.toNat b5 : Int) < 97))) rfl rfl rfl (?_))))))
    rcases cond_some h with ⟨g7, h⟩ | ⟨g7, h⟩
    · refine evs (ev_gs rfl rfl (isb_T g7) (evs (ev_gs rfl rfl (isb_T g7) (evs (ev_gs rfl rfl (isb_T g7) (evs (ev_gs rfl rfl (isb_T g7) (evs (ev_pkT (c1 := .bool true) rfl g7 rfl rfl (evn ?_))))))))))
      refine ls_keep [(0, .str a0), (3, nI y1), (19, .bool true)] ⟨kr, kr, kr, trivial⟩ rfl ?_
      refine ls_cT rfl rfl ?_
      refine ls_rs tbOk ?_
      refine evs (ev_ac rfl nofun rfl (evn ?_))
      refine ls_keep [(2, .bool false)] ⟨kr, trivial⟩ rfl ?_
      refine ls_ret ?_
      have q0 := (Option.some.inj h).symm
      have r0 := hr1
      rw [q0] at r0
      have hr := Option.some.inj r0
      rw [← hr]
      exact ⟨.inl rfl, rfl⟩
    · refine evs (ev_gr rfl (congrArg V.bool g7) (ev_mv (c := .str a0) rfl rfl rfl (evs (ev_gr rfl (congrArg V.bool g7) (ev_mv (c := nI y1) rfl rfl rfl (?_))))))
      obtain ⟨b8, g9, h⟩ := ob_some h
      refine evs (ev_gr rfl (congrArg V.bool g7) (ev_six rfl rfl rfl g9 (evs (ev_gr rfl (congrArg V.bool g7) (ev_bin (c1 := .int .u8 (UInt8.toNat b8 : Int)) (c2 := .int .u8 122) rfl rfl rfl (evs (ev_pkF (c1 := .bool (decide (122 < (UInt8.toNat b8 : Int)))) rfl g7 rfl rfl (evn ?_))))))))
      refine ls_keep [(0, .str a0), (3, nI y1), (19, .bool (decide (122 < (UInt8.toNat b8 : Int))))] ⟨kr, kr, kr, trivial⟩ rfl ?_
      rcases cond_some h with ⟨g10, h⟩ | ⟨g10, h⟩
      · refine ls_cT rfl g10 ?_
        refine ls_rs tbOk ?_
        refine evs (ev_ac rfl nofun rfl (evn ?_))
        refine ls_keep [(2, .bool false)] ⟨kr, trivial⟩ rfl ?_
        refine ls_ret ?_
        have q0 := (Option.some.inj h).symm
        have r0 := hr1
        rw [q0] at r0
        have hr := Option.some.inj r0
        rw [← hr]
        exact ⟨.inl rfl, rfl⟩
      · refine ls_cF rfl g10 ?_
        refine ls_skip ?_
        refine hK4 _ (ls_keep [(0, .str a0), (3, nI y1)] ⟨kr, kr, trivial⟩ rfl ?_)
        refine ls_rgn tbOk ?_
        refine evs (ev_mv (c := nI y1) rfl rfl rfl (evs (ev_bin (c1 := nI y1) (c2 := nI 1) rfl rfl rfl (evs (ev_as (c := nI (IntKind.i64.wrap (y1 + 1))) rfl rfl rfl (evn ?_))))))
        exact hN _ (IntKind.i64.wrap (y1 + 1)) h ⟨kr, kr, trivial⟩
  · refine ls_cF rfl g3 ?_
    refine ls_exit ?_
    have q0 := (Option.some.inj h).symm
    have r0 := hr1
    rw [q0] at r0
    exact kXspec_IsValidName_B1 () r0 _ ⟨kr, trivial⟩
def spec_IsValidQuery_B2 (a0 : Y91) (y2 : Int) (rec : Int → Option (Sum (Unit) (Bool))) (y4 : Int) : Option (Sum (Unit) (Bool)) := obind (geti a0.2.1 y2) fun e25 => cond (decide (y4 < (List.length e25.2 : Int))) (obind (geti a0.2.1 y2) fun e29 => obind (geti e29.2 y4) fun e31 => obind (spec_l1In e31 0 (IntKind.i64.wrap (a0.1 - 1))) fun v33 => cond (!v33) (some (.inr false)) (rec (IntKind.i64.wrap (y4 + 1)))) (some (.inl ()))
def spec_IsValidQuery_B1 (a0 : Y91) (rec : Int → Option (Sum (Unit) (Bool))) (y2 : Int) : Option (Sum (Unit) (Bool)) := cond (decide (y2 < (List.length a0.2.1 : Int))) (obind (geti a0.2.1 y2) fun e14 => obind (spec_IsValidName e14.1) fun v16 => cond (!v16) (some (.inr false)) (obind (geti a0.2.1 y2) fun e19 => obind (spec_l1In (List.length e19.2 : Int) 1 5) fun v21 => cond (!v21) (some (.inr false)) (obind (loopF (spec_IsValidQuery_B2 a0 y2) fz 0) fun o2 => (match o2 with
  | .inl _ => (rec (IntKind.i64.wrap (y2 + 1)))
  | .inr r => some (.inr r))))) (some (.inl ()))
def spec_IsValidQuery_J5 (rec : (Bool × Int) → Option (Bool)) (y11 : Int) (x45 : Bool) : Option (Bool) := rec (x45, (IntKind.i64.wrap (y11 + 1)))
def spec_IsValidQuery_B4 (a0 : Y91) (y7 : Int) (rec : (Bool × Int) → Option (Bool)) (s : Bool × Int) : Option (Bool) := match s with
  | (y10, y11) => cond (decide (y11 < (List.length a0.2.1 : Int))) (cond y10 (spec_IsValidQuery_J5 rec y11 true) (obind (geti a0.2.1 y11) fun e47 => obind (spec_ContainsVariable e47 y7) fun v49 => spec_IsValidQuery_J5 rec y11 v49)) (some y10)
def spec_IsValidQuery_B3 (a0 : Y91) (rec : Int → Option (Sum (Unit) (Bool))) (y7 : Int) : Option (Sum (Unit) (Bool)) := cond (decide (y7 < a0.1)) (obind (loopF (spec_IsValidQuery_B4 a0 y7) fz (false, 0)) fun z41 => cond (!z41) (some (.inr false)) (rec (IntKind.i64.wrap (y7 + 1)))) (some (.inl ()))
def spec_IsValidQuery_B6 (a0 : Y91) (rec : Int → Option (Sum (Unit) (Bool))) (y12 : Int) : Option (Sum (Unit) (Bool)) := cond (decide (y12 < (List.length a0.2.2 : Int))) (obind (geti a0.2.2 y12) fun e56 => obind (spec_l1In e56 0 (IntKind.i64.wrap (a0.1 - 1))) fun v58 => cond (!v58) (some (.inr false)) (chk ((0 : Int) ≤ 0 ∧ 0 ≤ y12 ∧ y12 ≤ (List.length a0.2.2 : Int)) (obind (geti a0.2.2 y12) fun e62 => obind (spec_l7Find (subl a0.2.2 0 y12) e62) fun v64 => cond (decide (0 ≤ v64)) (some (.inr false)) (rec (IntKind.i64.wrap (y12 + 1)))))) (some (.inl ()))
def spec_IsValidQuery (a0 : Y91) : Option (Bool) := obind (spec_l1In a0.1 1 5) fun v2 => cond (!v2) (some false) (obind (spec_l1In (List.length a0.2.1 : Int) 1 4) fun v5 => cond (!v5) (some false) (cond (decide (a0.1 < (List.length a0.2.2 : Int))) (some false) (obind (loopF (spec_IsValidQuery_B1 a0) fz 0) fun o1 => (match o1 with
  | .inl _ => (obind (loopF (spec_IsValidQuery_B3 a0) fz 0) fun o3 => (match o3 with
  | .inl _ => (obind (loopF (spec_IsValidQuery_B6 a0) fz 0) fun o6 => (match o6 with
  | .inl _ => (some true)
  | .inr r => some r))
  | .inr r => some r))
  | .inr r => some r))))
theorem spec_IsValidQuery_s {a0 : Y91} {r : Bool} (h : spec_IsValidQuery a0 = some r) : SoundAt Try.prog 200 [.agg (c92_ddd a0)] (.bool r) := by
  unfold spec_IsValidQuery at h
  refine sound_lit tbOk lit200 (nb rfl) rfl ?_
  unfold c200
  refine ls_keep [(0, .agg (c92_ddd a0))] ⟨kr, trivial⟩ rfl ?_
  refine ls_rs tbOk ?_
  refine evs (ev_bx (c1 := .agg (c92_ddd a0)) rfl rfl rfl (evs (ev_ac rfl nofun rfl (evn ?_))))
  refine ls_keep [(1, .box [nI a0.1, dL c195_d a0.2.1, dL ci64 a0.2.2])] ⟨kr, trivial⟩ rfl ?_
  refine ls_seq_k fun K1 hK1 => ?_
  refine ls_rs tbOk ?_
  refine evs (ev_fa (c1 := .cref 1 0) (v := .cref 1 0) rfl rfl rfl ⟨_, rfl⟩ rfl (evs (ev_ldB (off := 0) (v := nI a0.1) rfl rfl rfl rfl (nb rfl) rfl (?_))))
  obtain ⟨v2, g3, h⟩ := ob_some h
  refine evs (ev_call (era rfl rfl (era rfl rfl (era rfl rfl eran))) (spec_l1In_s g3) (evs (ev_un (c1 := .bool v2) rfl trivial (evs (ev_mv (c := .bool (!v2)) rfl rfl rfl (?_))))))
  rcases cond_some h with ⟨g4, h⟩ | ⟨g4, h⟩
  · refine evs (ev_gs rfl rfl (isb_T g4) (evs (ev_gs rfl rfl (isb_T g4) (evs (ev_gs rfl rfl (isb_T g4) (evs (ev_gs rfl rfl (isb_T g4) (evs (ev_gs rfl rfl (isb_T g4) (evs (ev_pkT (c1 := .bool true) rfl g4 rfl rfl (evs (ev_mv (c := .bool true) rfl rfl rfl (evs (ev_gs rfl rfl rfl (evs (ev_gs rfl rfl rfl (evs (ev_gs rfl rfl rfl (evs (ev_gs rfl rfl rfl (evs (ev_gs rfl rfl rfl (evs (ev_gs rfl rfl rfl (evs (ev_pkT (c1 := .bool true) rfl rfl rfl rfl (evn ?_))))))))))))))))))))))))))))
    refine ls_keep [(1, .box [nI a0.1, dL c195_d a0.2.1, dL ci64 a0.2.2]), (27, .bool true)] ⟨kr, kr, trivial⟩ rfl ?_
    refine ls_cT rfl rfl ?_
    refine ls_rs tbOk ?_
    refine evs (ev_ac rfl nofun rfl (evn ?_))
    refine ls_keep [(2, .bool false)] ⟨kr, trivial⟩ rfl ?_
    refine ls_ret ?_
    have hr := Option.some.inj h
    rw [← hr]
    exact ⟨.inl rfl, rfl⟩
  · refine evs (ev_gr rfl (congrArg V.bool g4) (ev_fa (c1 := .cref 1 0) (v := .cref 1 1) rfl rfl rfl ⟨_, rfl⟩ rfl (evs (ev_gr rfl (congrArg V.bool g4) (ev_ldB (off := 1) (v := dL c195_d a0.2.1) rfl rfl rfl rfl (nb rfl) rfl (evs (ev_gr rfl (congrArg V.bool g4) (ev_len (c1 := dL c195_d a0.2.1) rfl rfl rfl (?_)))))))))
    obtain ⟨v5, g6, h⟩ := ob_some h
    refine evs (ev_gr rfl (congrArg V.bool g4) (ev_call (era rfl rfl (era rfl rfl (era rfl rfl eran))) (spec_l1In_s g6) (evs (ev_gr rfl (congrArg V.bool g4) (ev_un (c1 := .bool v5) rfl trivial (evs (ev_pkF (c1 := .bool (!v5)) rfl g4 rfl rfl (evs (ev_mv (c := .bool (!v5)) rfl rfl rfl (?_))))))))))
    rcases cond_some h with ⟨g7, h⟩ | ⟨g7, h⟩
    · refine evs (ev_gs rfl rfl (isb_T g7) (evs (ev_gs rfl rfl (isb_T g7) (evs (ev_gs rfl rfl (isb_T g7) (evs (ev_gs rfl rfl (isb_T g7) (evs (ev_gs rfl rfl (isb_T g7) (evs (ev_gs rfl rfl (isb_T g7) (evs (ev_pkT (c1 := .bool true) rfl g7 rfl rfl (evn ?_))))))))))))))
      refine ls_keep [(1, .box [nI a0.1, dL c195_d a0.2.1, dL ci64 a0.2.2]), (27, .bool true)] ⟨kr, kr, trivial⟩ rfl ?_
      refine ls_cT rfl rfl ?_
      refine ls_rs tbOk ?_
      refine evs (ev_ac rfl nofun rfl (evn ?_))
      refine ls_keep [(2, .bool false)] ⟨kr, trivial⟩ rfl ?_
      refine ls_ret ?_
      have hr := Option.some.inj h
      rw [← hr]
      exact ⟨.inl rfl, rfl⟩
    · refine evs (ev_gr rfl (congrArg V.bool g7) (ev_fa (c1 := .cref 1 0) (v := .cref 1 2) rfl rfl rfl ⟨_, rfl⟩ rfl (evs (ev_gr rfl (congrArg V.bool g7) (ev_ldB (off := 2) (v := dL ci64 a0.2.2) rfl rfl rfl rfl (nb rfl) rfl (evs (ev_gr rfl (congrArg V.bool g7) (ev_len (c1 := dL ci64 a0.2.2) rfl rfl rfl (evs (ev_gr rfl (congrArg V.bool g7) (ev_fa (c1 := .cref 1 0) (v := .cref 1 0) rfl rfl rfl ⟨_, rfl⟩ rfl (evs (ev_gr rfl (congrArg V.bool g7) (ev_ldB (off := 0) (v := nI a0.1) rfl rfl rfl rfl (nb rfl) rfl (evs (ev_gr rfl (congrArg V.bool g7) (ev_bin (c1 := nI (List.length a0.2.2 : Int)) (c2 := nI a0.1) rfl rfl rfl (evs (ev_pkF (c1 := .bool (decide (a0.1 < (List.length a0.2.2 : Int)))) rfl g7 rfl rfl (evn ?_))))))))))))))))))))
      refine ls_keep [(1, .box [nI a0.1, dL c195_d a0.2.1, dL ci64 a0.2.2]), (27, .bool (decide (a0.1 < (List.length a0.2.2 : Int))))] ⟨kr, kr, trivial⟩ rfl ?_
      rcases cond_some h with ⟨g8, h⟩ | ⟨g8, h⟩
      · refine ls_cT rfl g8 ?_
        refine ls_rs tbOk ?_
        refine evs (ev_ac rfl nofun rfl (evn ?_))
        refine ls_keep [(2, .bool false)] ⟨kr, trivial⟩ rfl ?_
        refine ls_ret ?_
        have hr := Option.some.inj h
        rw [← hr]
        exact ⟨.inl rfl, rfl⟩
      · refine ls_cF rfl g8 ?_
        refine ls_skip ?_
        refine hK1 _ (ls_keep [(1, .box [nI a0.1, dL c195_d a0.2.1, dL ci64 a0.2.2])] ⟨kr, trivial⟩ rfl ?_)
        refine ls_seq_k fun K9 hK9 => ?_
        refine ls_rs tbOk ?_
        refine evs (ev_ac rfl nofun rfl (evn ?_))
        refine ls_keep [(1, .box [nI a0.1, dL c195_d a0.2.1, dL ci64 a0.2.2]), (3, nI 0)] ⟨kr, kr, trivial⟩ rfl ?_
        obtain ⟨o1, hl, hr1⟩ := ob_some h
        clear h
        have kXspec_IsValidQuery_B1 : ∀ (_ : Unit), (obind (loopF (spec_IsValidQuery_B3 a0) fz 0) fun o3 => (match o3 with
  | .inl _ => (obind (loopF (spec_IsValidQuery_B6 a0) fz 0) fun o6 => (match o6 with
  | .inl _ => (some true)
  | .inr r => some r))
  | .inr r => some r)) = some r → ∀ σ' : PS, okK σ' [(1, .box [nI a0.1, dL c195_d a0.2.1, dL ci64 a0.2.2])] → K9 σ' := by
          intro _ h σ' hk
          refine hK9 _ (ls_keep [(1, .box [nI a0.1, dL c195_d a0.2.1, dL ci64 a0.2.2])] hk rfl ?_)
          refine ls_seq_k fun K36 hK36 => ?_
          refine ls_rs tbOk ?_
          refine evs (ev_ac rfl nofun rfl (evn ?_))
          refine ls_keep [(1, .box [nI a0.1, dL c195_d a0.2.1, dL ci64 a0.2.2]), (5, nI 0)] ⟨kr, kr, trivial⟩ rfl ?_
          obtain ⟨o3, hl, hr3⟩ := ob_some h
          clear h
          have kXspec_IsValidQuery_B3 : ∀ (_ : Unit), (obind (loopF (spec_IsValidQuery_B6 a0) fz 0) fun o6 => (match o6 with
  | .inl _ => (some true)
  | .inr r => some r)) = some r → ∀ σ' : PS, okK σ' [(1, .box [nI a0.1, dL c195_d a0.2.1, dL ci64 a0.2.2])] → K36 σ' := by
            intro _ h σ' hk
            refine hK36 _ (ls_keep [(1, .box [nI a0.1, dL c195_d a0.2.1, dL ci64 a0.2.2])] hk rfl ?_)
            refine ls_seq_k fun K52 hK52 => ?_
            refine ls_rs tbOk ?_
            refine evs (ev_ac rfl nofun rfl (evn ?_))
            refine ls_keep [(1, .box [nI a0.1, dL c195_d a0.2.1, dL ci64 a0.2.2]), (8, nI 0)] ⟨kr, kr, trivial⟩ rfl ?_
            obtain ⟨o6, hl, hr6⟩ := ob_some h
            clear h
            have kXspec_IsValidQuery_B6 : ∀ (_ : Unit), (some true) = some r → ∀ σ' : PS, okK σ' [] → K52 σ' := by
              intro _ h σ' hk
              refine hK52 _ (ls_keep [] hk rfl ?_)
              refine ls_rs tbOk ?_
              refine evs (ev_ac rfl nofun rfl (evn ?_))
              refine ls_keep [(2, .bool true)] ⟨kr, trivial⟩ rfl ?_
              refine ls_ret ?_
              have hr := Option.some.inj h
              rw [← hr]
              exact ⟨.inl rfl, rfl⟩
            refine ls_rec (fun (y12 : Int) => [(1, .box [nI a0.1, dL c195_d a0.2.1, dL ci64 a0.2.2]), (8, nI y12)]) (spec_IsValidQuery_B6 a0) fz 0 o6 hl ⟨kr, kr, trivial⟩ (fun _ => rfl) ?_
            rintro m y12 N h hN
            unfold spec_IsValidQuery_B6 at h
            refine ls_seq_k fun K53 hK53 => ?_
            refine ls_rs tbOk ?_
            refine evs (ev_mv (c := nI y12) rfl rfl rfl (evs (ev_fa (c1 := .cref 1 0) (v := .cref 1 2) rfl rfl rfl ⟨_, rfl⟩ rfl (evs (ev_ldB (off := 2) (v := dL ci64 a0.2.2) rfl rfl rfl rfl (nb rfl) rfl (evs (ev_len (c1 := dL ci64 a0.2.2) rfl rfl rfl (evs (ev_bin (c1 := nI y12) (c2 := nI (List.length a0.2.2 : Int)) rfl rfl rfl (evn ?_))))))))))
            refine ls_keep [(1, .box [nI a0.1, dL c195_d a0.2.1, dL ci64 a0.2.2]), (8, nI y12), (108, .bool (decide (y12 < (List.length a0.2.2 : Int))))] ⟨kr, kr, kr, trivial⟩ rfl ?_
            rcases cond_some h with ⟨g54, h⟩ | ⟨g54, h⟩
            · refine ls_cT rfl g54 ?_
              refine ls_skip ?_
              refine hK53 _ (ls_keep [(1, .box [nI a0.1, dL c195_d a0.2.1, dL ci64 a0.2.2]), (8, nI y12)] ⟨kr, kr, trivial⟩ rfl ?_)
              refine ls_seq_k fun K55 hK55 => ?_
              refine ls_blk ?_
              refine ls_rd tbOk mixed (by kernel_rfl) ?_
              refine evd rfl rfl (ev_fa (c1 := .cref 1 0) (v := .cref 1 2) rfl rfl rfl ⟨_, rfl⟩ rfl (evd rfl rfl (ev_ldB (off := 2) (v := dL ci64 a0.2.2) rfl rfl rfl rfl (nb rfl) rfl (evd rfl rfl (ev_mv (c := nI y12) rfl rfl rfl (?_))))))
              obtain ⟨e56, g57, h⟩ := ob_some h
              refine evd rfl rfl (ev_ia rfl rfl rfl ⟨(geti_some g57).1, (geti_some g57).2.1⟩ (evd rfl rfl (ev_ldE (i := y12) (n := 1) (off := 0) (v := nI e56) rfl rfl zci64 g57 rfl (nb rfl) rfl (evd rfl rfl (ev_fa (c1 := .cref 1 0) (v := .cref 1 0) rfl rfl rfl ⟨_, rfl⟩ rfl (evd rfl rfl (ev_ldB (off := 0) (v := nI a0.1) rfl rfl rfl rfl (nb rfl) rfl (evd rfl rfl (ev_bin (c1 := nI a0.1) (c2 := nI 1) rfl rfl rfl (?_))))))))))
              obtain ⟨v58, g59, h⟩ := ob_some h
              refine evd rfl rfl (ev_call (era rfl rfl (era rfl rfl (era rfl rfl eran))) (spec_l1In_s g59) (evd rfl rfl (ev_un (c1 := .bool v58) rfl trivial (evd rfl rfl (ev_mv (c := .bool (!v58)) rfl rfl rfl (?_))))))
              rcases cond_some h with ⟨g60, h⟩ | ⟨g60, h⟩
              · refine evd rfl rfl (ev_gs rfl rfl (isb_T g60) (evd rfl rfl (ev_gs rfl rfl (isb_T g60) (evd rfl rfl (ev_gs rfl rfl (isb_T g60) (evd rfl rfl (ev_gs rfl rfl (isb_T g60) (evd rfl rfl (ev_gs rfl rfl (isb_T g60) (evd rfl rfl (ev_gs rfl rfl (isb_T g60) (evd rfl rfl (ev_gs rfl rfl (isb_T g60) (evd rfl rfl (ev_gs rfl rfl (isb_T g60) (evd rfl rfl (ev_gs rfl rfl (isb_T g60) (evd rfl rfl (ev_gs rfl rfl (isb_T g60) (evd rfl rfl (ev_gs rfl rfl (isb_T g60) (evd rfl rfl (ev_pkT (c1 := .bool true) rfl g60 rfl rfl (evdn ?_))))))))))))))))))))))))
                refine ls_keep [(1, .box [nI a0.1, dL c195_d a0.2.1, dL ci64 a0.2.2]), (8, nI y12), (133, .bool true)] ⟨kr, kr, kr, trivial⟩ rfl ?_
                refine ls_cT rfl rfl ?_
                refine ls_rs tbOk ?_
                refine evs (ev_ac rfl nofun rfl (evn ?_))
                refine ls_keep [(2, .bool false)] ⟨kr, trivial⟩ rfl ?_
                refine ls_ret ?_
                have q0 := (Option.some.inj h).symm
                have r0 := hr6
                rw [q0] at r0
                have hr := Option.some.inj r0
                rw [← hr]
                exact ⟨.inl rfl, rfl⟩
              · refine evd rfl rfl (ev_gr rfl (congrArg V.bool g60) (ev_fa (c1 := .cref 1 0) (v := .cref 1 2) rfl rfl rfl ⟨_, rfl⟩ rfl (evd rfl rfl (ev_gr rfl (congrArg V.bool g60) (ev_ldB (off := 2) (v := dL ci64 a0.2.2) rfl rfl rfl rfl (nb rfl) rfl (evd rfl rfl (ev_gr rfl (congrArg V.bool g60) (ev_mv (c := nI y12) rfl rfl rfl (?_)))))))))
                obtain ⟨g61, h⟩ := chk_some h
                refine evd rfl rfl (ev_gr rfl (congrArg V.bool g60) (ev_sle (lst := a0.2.2) rfl rfl zci64 rfl rfl g61 (evd rfl rfl (ev_gr rfl (congrArg V.bool g60) (ev_fa (c1 := .cref 1 0) (v := .cref 1 2) rfl rfl rfl ⟨_, rfl⟩ rfl (evd rfl rfl (ev_gr rfl (congrArg V.bool g60) (ev_ldB (off := 2) (v := dL ci64 a0.2.2) rfl rfl rfl rfl (nb rfl) rfl (evd rfl rfl (ev_gr rfl (congrArg V.bool g60) (ev_mv (c := nI y12) rfl rfl rfl (?_))))))))))))
                obtain ⟨e62, g63, h⟩ := ob_some h
                refine evd rfl rfl (ev_gr rfl (congrArg V.bool g60) (ev_ia rfl rfl rfl ⟨(geti_some g63).1, (geti_some g63).2.1⟩ (evd rfl rfl (ev_gr rfl (congrArg V.bool g60) (ev_ldE (i := y12) (n := 1) (off := 0) (v := nI e62) rfl rfl zci64 g63 rfl (nb rfl) rfl (?_))))))
                obtain ⟨v64, g65, h⟩ := ob_some h
                refine evd rfl rfl (ev_gr rfl (congrArg V.bool g60) (ev_call (era rfl (erD eci64 _) (era rfl rfl eran)) (spec_l7Find_s g65) (evd rfl rfl (ev_gr rfl (congrArg V.bool g60) (ev_bin (c1 := nI v64) (c2 := nI 0) rfl rfl rfl (evd rfl rfl (ev_pkF (c1 := .bool (decide (0 ≤ v64))) rfl g60 rfl rfl (evdn ?_))))))))
                refine ls_keep [(1, .box [nI a0.1, dL c195_d a0.2.1, dL ci64 a0.2.2]), (8, nI y12), (133, .bool (decide (0 ≤ v64)))] ⟨kr, kr, kr, trivial⟩ rfl ?_
                rcases cond_some h with ⟨g66, h⟩ | ⟨g66, h⟩
                · refine ls_cT rfl g66 ?_
                  refine ls_rs tbOk ?_
                  refine evs (ev_ac rfl nofun rfl (evn ?_))
                  refine ls_keep [(2, .bool false)] ⟨kr, trivial⟩ rfl ?_
                  refine ls_ret ?_
                  have q0 := (Option.some.inj h).symm
                  have r0 := hr6
                  rw [q0] at r0
                  have hr := Option.some.inj r0
                  rw [← hr]
                  exact ⟨.inl rfl, rfl⟩
                · refine ls_cF rfl g66 ?_
                  refine ls_skip ?_
                  refine hK55 _ (ls_keep [(1, .box [nI a0.1, dL c195_d a0.2.1, dL ci64 a0.2.2]), (8, nI y12)] ⟨kr, kr, trivial⟩ rfl ?_)
                  refine ls_rgn tbOk ?_
                  refine evs (ev_mv (c := nI y12) rfl rfl rfl (evs (ev_bin (c1 := nI y12) (c2 := nI 1) rfl rfl rfl (evs (ev_as (c := nI (IntKind.i64.wrap (y12 + 1))) rfl rfl rfl (evn ?_))))))
                  exact hN _ (IntKind.i64.wrap (y12 + 1)) h ⟨kr, kr, trivial⟩
            · refine ls_cF rfl g54 ?_
              refine ls_exit ?_
              have q0 := (Option.some.inj h).symm
              have r0 := hr6
              rw [q0] at r0
              exact kXspec_IsValidQuery_B6 () r0 _ trivial
          refine ls_rec (fun (y7 : Int) => [(1, .box [nI a0.1, dL c195_d a0.2.1, dL ci64 a0.2.2]), (5, nI y7)]) (spec_IsValidQuery_B3 a0) fz 0 o3 hl ⟨kr, kr, trivial⟩ (fun _ => rfl) ?_
          rintro m y7 N h hN
          unfold spec_IsValidQuery_B3 at h
          refine ls_seq_k fun K37 hK37 => ?_
          refine ls_rs tbOk ?_
          refine evs (ev_mv (c := nI y7) rfl rfl rfl (evs (ev_fa (c1 := .cref 1 0) (v := .cref 1 0) rfl rfl rfl ⟨_, rfl⟩ rfl (evs (ev_ldB (off := 0) (v := nI a0.1) rfl rfl rfl rfl (nb rfl) rfl (evs (ev_bin (c1 := nI y7) (c2 := nI a0.1) rfl rfl rfl (evn ?_))))))))
          refine ls_keep [(1, .box [nI a0.1, dL c195_d a0.2.1, dL ci64 a0.2.2]), (5, nI y7), (82, .bool (decide (y7 < a0.1)))] ⟨kr, kr, kr, trivial⟩ rfl ?_
          rcases cond_some h with ⟨g38, h⟩ | ⟨g38, h⟩
          · refine ls_cT rfl g38 ?_
            refine ls_skip ?_
            refine hK37 _ (ls_keep [(1, .box [nI a0.1, dL c195_d a0.2.1, dL ci64 a0.2.2]), (5, nI y7)] ⟨kr, kr, trivial⟩ rfl ?_)
            refine ls_seq_k fun K39 hK39 => ?_
            refine ls_blk ?_
            refine ls_rs tbOk ?_
            refine evs (ev_ac rfl nofun rfl (evn ?_))
            refine ls_keep [(1, .box [nI a0.1, dL c195_d a0.2.1, dL ci64 a0.2.2]), (5, nI y7), (6, .bool false)] ⟨kr, kr, kr, trivial⟩ rfl ?_
            refine ls_seq_k fun K40 hK40 => ?_
            refine ls_rs tbOk ?_
            refine evs (ev_ac rfl nofun rfl (evn ?_))
            refine ls_keep [(1, .box [nI a0.1, dL c195_d a0.2.1, dL ci64 a0.2.2]), (5, nI y7), (6, .bool false), (7, nI 0)] ⟨kr, kr, kr, kr, trivial⟩ rfl ?_
            obtain ⟨o4, hl, hr4⟩ := ob_some h
            clear h
            have kXspec_IsValidQuery_B4 : ∀ (z41 : Bool), (cond (!z41) (some (.inr false)) ((loopF (spec_IsValidQuery_B3 a0) m) (IntKind.i64.wrap (y7 + 1)))) = some o3 → ∀ σ' : PS, okK σ' [(1, .box [nI a0.1, dL c195_d a0.2.1, dL ci64 a0.2.2]), (5, nI y7), (6, .bool z41)] → K40 σ' := by
              intro z41 h σ' hk
              refine hK40 _ (ls_keep [(1, .box [nI a0.1, dL c195_d a0.2.1, dL ci64 a0.2.2]), (5, nI y7), (6, .bool z41)] hk rfl ?_)
              refine ls_rs tbOk ?_
              refine evs (ev_mv (c := .bool z41) rfl rfl rfl (evs (ev_un (c1 := .bool z41) rfl trivial (evn ?_))))
              refine ls_keep [(1, .box [nI a0.1, dL c195_d a0.2.1, dL ci64 a0.2.2]), (5, nI y7), (103, .bool (!z41))] ⟨kr, kr, kr, trivial⟩ rfl ?_
              rcases cond_some h with ⟨g51, h⟩ | ⟨g51, h⟩
              · refine ls_cT rfl g51 ?_
                refine ls_rs tbOk ?_
                refine evs (ev_ac rfl nofun rfl (evn ?_))
                refine ls_keep [(2, .bool false)] ⟨kr, trivial⟩ rfl ?_
                refine ls_ret ?_
                have q0 := (Option.some.inj h).symm
                have r0 := hr3
                rw [q0] at r0
                have hr := Option.some.inj r0
                rw [← hr]
                exact ⟨.inl rfl, rfl⟩
              · refine ls_cF rfl g51 ?_
                refine ls_skip ?_
                refine hK39 _ (ls_keep [(1, .box [nI a0.1, dL c195_d a0.2.1, dL ci64 a0.2.2]), (5, nI y7)] ⟨kr, kr, trivial⟩ rfl ?_)
                refine ls_rgn tbOk ?_
                refine evs (ev_mv (c := nI y7) rfl rfl rfl (evs (ev_bin (c1 := nI y7) (c2 := nI 1) rfl rfl rfl (evs (ev_as (c := nI (IntKind.i64.wrap (y7 + 1))) rfl rfl rfl (evn ?_))))))
                exact hN _ (IntKind.i64.wrap (y7 + 1)) h ⟨kr, kr, trivial⟩
            refine ls_rec (fun (s : Bool × Int) => match s with | (y10, y11) => [(1, .box [nI a0.1, dL c195_d a0.2.1, dL ci64 a0.2.2]), (5, nI y7), (6, .bool y10), (7, nI y11)]) (spec_IsValidQuery_B4 a0 y7) fz (false, 0) o4 hl ⟨kr, kr, kr, kr, trivial⟩ (fun _ => rfl) ?_
            rintro m ⟨y10, y11⟩ N h hN
            unfold spec_IsValidQuery_B4 at h
            dsimp only at h
            refine ls_seq_k fun K42 hK42 => ?_
            refine ls_rs tbOk ?_
            refine evs (ev_mv (c := nI y11) rfl rfl rfl (evs (ev_fa (c1 := .cref 1 0) (v := .cref 1 1) rfl rfl rfl ⟨_, rfl⟩ rfl (evs (ev_ldB (off := 1) (v := dL c195_d a0.2.1) rfl rfl rfl rfl (nb rfl) rfl (evs (ev_len (c1 := dL c195_d a0.2.1) rfl rfl rfl (evs (ev_bin (c1 := nI y11) (c2 := nI (List.length a0.2.1 : Int)) rfl rfl rfl (evn ?_))))))))))
            refine ls_keep [(1, .box [nI a0.1, dL c195_d a0.2.1, dL ci64 a0.2.2]), (5, nI y7), (6, .bool y10), (7, nI y11), (89, .bool (decide (y11 < (List.length a0.2.1 : Int))))] ⟨kr, kr, kr, kr, kr, trivial⟩ rfl ?_
            rcases cond_some h with ⟨g43, h⟩ | ⟨g43, h⟩
            · refine ls_cT rfl g43 ?_
              refine ls_skip ?_
              refine hK42 _ (ls_keep [(1, .box [nI a0.1, dL c195_d a0.2.1, dL ci64 a0.2.2]), (5, nI y7), (6, .bool y10), (7, nI y11)] ⟨kr, kr, kr, kr, trivial⟩ rfl ?_)
              refine ls_seq_k fun K44 hK44 => ?_
              refine ls_blk ?_
              have kspec_IsValidQuery_J5 : ∀ (x45 : Bool), spec_IsValidQuery_J5 (loopF (spec_IsValidQuery_B4 a0 y7) m) y11 x45 = some o4 → ∀ σ' : PS, okK σ' [(1, .box [nI a0.1, dL c195_d a0.2.1, dL ci64 a0.2.2]), (5, nI y7), (6, .bool x45), (7, nI y11)] → K44 σ' := by
                intro x45 h σ' hk
                unfold spec_IsValidQuery_J5 at h
                refine hK44 _ (ls_keep [(1, .box [nI a0.1, dL c195_d a0.2.1, dL ci64 a0.2.2]), (5, nI y7), (6, .bool x45), (7, nI y11)] hk rfl ?_)
                refine ls_rgn tbOk ?_
                refine evs (ev_mv (c := nI y11) rfl rfl rfl (evs (ev_bin (c1 := nI y11) (c2 := nI 1) rfl rfl rfl (evs (ev_as (c := nI (IntKind.i64.wrap (y11 + 1))) rfl rfl rfl (evn ?_))))))
                exact hN _ (x45, (IntKind.i64.wrap (y11 + 1))) h ⟨kr, kr, kr, kr, trivial⟩
              refine ls_rgn tbOk ?_
              refine evs (ev_mv (c := .bool y10) rfl rfl rfl (evs (ev_mv (c := .bool y10) rfl rfl rfl (?_))))
              rcases cond_some h with ⟨g46, h⟩ | ⟨g46, h⟩
              · refine evs (ev_gs rfl rfl (isb_T g46) (evs (ev_gs rfl rfl (isb_T g46) (evs (ev_gs rfl rfl (isb_T g46) (evs (ev_gs rfl rfl (isb_T g46) (evs (ev_gs rfl rfl (isb_T g46) (evs (ev_gs rfl rfl (isb_T g46) (evs (ev_gs rfl rfl (isb_T g46) (evs (ev_pkT (c1 := .bool true) rfl g46 rfl rfl (evs (ev_as (c := .bool true) rfl rfl rfl (evn ?_))))))))))))))))))
                exact kspec_IsValidQuery_J5 true h _ ⟨kr, kr, kr, kr, trivial⟩
              · refine evs (ev_gr rfl (congrArg V.bool g46) (ev_fa (c1 := .cref 1 0) (v := .cref 1 1) rfl rfl rfl ⟨_, rfl⟩ rfl (evs (ev_gr rfl (congrArg V.bool g46) (ev_ldB (off := 1) (v := dL c195_d a0.2.1) rfl rfl rfl rfl (nb rfl) rfl (evs (ev_gr rfl (congrArg V.bool g46) (ev_mv (c := nI y11) rfl rfl rfl (?_)))))))))
                obtain ⟨e47, g48, h⟩ := ob_some h
                refine evs (ev_gr rfl (congrArg V.bool g46) (ev_ia rfl rfl rfl ⟨(geti_some g48).1, (geti_some g48).2.1⟩ (evs (ev_gr rfl (congrArg V.bool g46) (ev_ldE (i := y11) (n := 2) (off := 0) (v := .agg (c195_d e47)) rfl rfl zc195_d g48 rfl (nb rfl) rfl (evs (ev_gr rfl (congrArg V.bool g46) (ev_mv (c := nI y7) rfl rfl rfl (?_)))))))))
                obtain ⟨v49, g50, h⟩ := ob_some h
                refine evs (ev_gr rfl (congrArg V.bool g46) (ev_call (era rfl (erg (erc rfl (erc (erD eci64 _) rfl))) (era rfl rfl eran)) (spec_ContainsVariable_s g50) (evs (ev_pkF (c1 := .bool v49) rfl g46 rfl rfl (evs (ev_as (c := .bool v49) rfl rfl rfl (evn ?_)))))))
                exact kspec_IsValidQuery_J5 v49 h _ ⟨kr, kr, kr, kr, trivial⟩
            · refine ls_cF rfl g43 ?_
              refine ls_exit ?_
              have q0 := (Option.some.inj h).symm
              have r0 := hr4
              rw [q0] at r0
              exact kXspec_IsValidQuery_B4 y10 r0 _ ⟨kr, kr, kr, trivial⟩
          · refine ls_cF rfl g38 ?_
            refine ls_exit ?_
            have q0 := (Option.some.inj h).symm
            have r0 := hr3
            rw [q0] at r0
            exact kXspec_IsValidQuery_B3 () r0 _ ⟨kr, trivial⟩
        refine ls_rec (fun (y2 : Int) => [(1, .box [nI a0.1, dL c195_d a0.2.1, dL ci64 a0.2.2]), (3, nI y2)]) (spec_IsValidQuery_B1 a0) fz 0 o1 hl ⟨kr, kr, trivial⟩ (fun _ => rfl) ?_
        rintro m y2 N h hN
        unfold spec_IsValidQuery_B1 at h
        refine ls_seq_k fun K10 hK10 => ?_
        refine ls_rs tbOk ?_
        refine evs (ev_mv (c := nI y2) rfl rfl rfl (evs (ev_fa (c1 := .cref 1 0) (v := .cref 1 1) rfl rfl rfl ⟨_, rfl⟩ rfl (evs (ev_ldB (off := 1) (v := dL c195_d a0.2.1) rfl rfl rfl rfl (nb rfl) rfl (evs (ev_len (c1 := dL c195_d a0.2.1) rfl rfl rfl (evs (ev_bin (c1 := nI y2) (c2 := nI (List.length a0.2.1 : Int)) rfl rfl rfl (evn ?_))))))))))
        refine ls_keep [(1, .box [nI a0.1, dL c195_d a0.2.1, dL ci64 a0.2.2]), (3, nI y2), (32, .bool (decide (y2 < (List.length a0.2.1 : Int))))] ⟨kr, kr, kr, trivial⟩ rfl ?_
        rcases cond_some h with ⟨g11, h⟩ | ⟨g11, h⟩
        · refine ls_cT rfl g11 ?_
          refine ls_skip ?_
          refine hK10 _ (ls_keep [(1, .box [nI a0.1, dL c195_d a0.2.1, dL ci64 a0.2.2]), (3, nI y2)] ⟨kr, kr, trivial⟩ rfl ?_)
          refine ls_seq_k fun K12 hK12 => ?_
          refine ls_blk ?_
          refine ls_seq_k fun K13 hK13 => ?_
          refine ls_rs tbOk ?_
          refine evs (ev_fa (c1 := .cref 1 0) (v := .cref 1 1) rfl rfl rfl ⟨_, rfl⟩ rfl (evs (ev_ldB (off := 1) (v := dL c195_d a0.2.1) rfl rfl rfl rfl (nb rfl) rfl (evs (ev_mv (c := nI y2) rfl rfl rfl (?_))))))
          obtain ⟨e14, g15, h⟩ := ob_some h
          refine evs (ev_ia rfl rfl rfl ⟨(geti_some g15).1, (geti_some g15).2.1⟩ (evs (ev_fa (c1 := .adr (a0.2.1.flatMap c195_d) (Int.toNat y2 * 2)) (v := .adr (a0.2.1.flatMap c195_d) (Int.toNat y2 * 2)) rfl rfl rfl trivial rfl (evs (ev_ldE (i := y2) (n := 2) (off := 0) (v := .str e14.1) rfl rfl zc195_d g15 rfl (nb rfl) rfl (?_))))))
          obtain ⟨v16, g17, h⟩ := ob_some h
          refine evs (ev_call (era rfl rfl eran) (spec_IsValidName_s g17) (evs (ev_un (c1 := .bool v16) rfl trivial (evs (ev_mv (c := .bool (!v16)) rfl rfl rfl (?_))))))
          rcases cond_some h with ⟨g18, h⟩ | ⟨g18, h⟩
          · refine evs (ev_gs rfl rfl (isb_T g18) (evs (ev_gs rfl rfl (isb_T g18) (evs (ev_gs rfl rfl (isb_T g18) (evs (ev_gs rfl rfl (isb_T g18) (evs (ev_gs rfl rfl (isb_T g18) (evs (ev_gs rfl rfl (isb_T g18) (evs (ev_gs rfl rfl (isb_T g18) (evs (ev_gs rfl rfl (isb_T g18) (evs (ev_gs rfl rfl (isb_T g18) (evs (ev_pkT (c1 := .bool true) rfl g18 rfl rfl (evn ?_))))))))))))))))))))
            refine ls_keep [(1, .box [nI a0.1, dL c195_d a0.2.1, dL ci64 a0.2.2]), (3, nI y2), (53, .bool true)] ⟨kr, kr, kr, trivial⟩ rfl ?_
            refine ls_cT rfl rfl ?_
            refine ls_rs tbOk ?_
            refine evs (ev_ac rfl nofun rfl (evn ?_))
            refine ls_keep [(2, .bool false)] ⟨kr, trivial⟩ rfl ?_
            refine ls_ret ?_
            have q0 := (Option.some.inj h).symm
            have r0 := hr1
            rw [q0] at r0
            have hr := Option.some.inj r0
            rw [← hr]
            exact ⟨.inl rfl, rfl⟩
          · refine evs (ev_gr rfl (congrArg V.bool g18) (ev_fa (c1 := .cref 1 0) (v := .cref 1 1) rfl rfl rfl ⟨_, rfl⟩ rfl (evs (ev_gr rfl (congrArg V.bool g18) (ev_ldB (off := 1) (v := dL c195_d a0.2.1) rfl rfl rfl rfl (nb rfl) rfl (evs (ev_gr rfl (congrArg V.bool g18) (ev_mv (c := nI y2) rfl rfl rfl (?_)))))))))
            obtain ⟨e19, g20, h⟩ := ob_some h
            refine evs (ev_gr rfl (congrArg V.bool g18) (ev_ia rfl rfl rfl ⟨(geti_some g20).1, (geti_some g20).2.1⟩ (evs (ev_gr rfl (congrArg V.bool g18) (ev_fa (c1 := .adr (a0.2.1.flatMap c195_d) (Int.toNat y2 * 2)) (v := .adr (a0.2.1.flatMap c195_d) (Int.toNat y2 * 2 + 1)) rfl rfl rfl trivial rfl (evs (ev_gr rfl (congrArg V.bool g18) (ev_ldE (i := y2) (n := 2) (off := 1) (v := dL ci64 e19.2) rfl rfl zc195_d g20 rfl (nb rfl) rfl (evs (ev_gr rfl (congrArg V.bool g18) (ev_len (c1 := dL ci64 e19.2) rfl rfl rfl (?_))))))))))))
            obtain ⟨v21, g22, h⟩ := ob_some h
            refine evs (ev_gr rfl (congrArg V.bool g18) (ev_call (era rfl rfl (era rfl rfl (era rfl rfl eran))) (spec_l1In_s g22) (evs (ev_gr rfl (congrArg V.bool g18) (ev_un (c1 := .bool v21) rfl trivial (evs (ev_pkF (c1 := .bool (!v21)) rfl g18 rfl rfl (evn ?_))))))))
            refine ls_keep [(1, .box [nI a0.1, dL c195_d a0.2.1, dL ci64 a0.2.2]), (3, nI y2), (53, .bool (!v21))] ⟨kr, kr, kr, trivial⟩ rfl ?_
            rcases cond_some h with ⟨g23, h⟩ | ⟨g23, h⟩
            · refine ls_cT rfl g23 ?_
              refine ls_rs tbOk ?_
              refine evs (ev_ac rfl nofun rfl (evn ?_))
              refine ls_keep [(2, .bool false)] ⟨kr, trivial⟩ rfl ?_
              refine ls_ret ?_
              have q0 := (Option.some.inj h).symm
              have r0 := hr1
              rw [q0] at r0
              have hr := Option.some.inj r0
              rw [← hr]
              exact ⟨.inl rfl, rfl⟩
            · refine ls_cF rfl g23 ?_
              refine ls_skip ?_
              refine hK13 _ (ls_keep [(1, .box [nI a0.1, dL c195_d a0.2.1, dL ci64 a0.2.2]), (3, nI y2)] ⟨kr, kr, trivial⟩ rfl ?_)
              refine ls_rs tbOk ?_
              refine evs (ev_ac rfl nofun rfl (evn ?_))
              refine ls_keep [(1, .box [nI a0.1, dL c195_d a0.2.1, dL ci64 a0.2.2]), (3, nI y2), (4, nI 0)] ⟨kr, kr, kr, trivial⟩ rfl ?_
              obtain ⟨o2, hl, hr2⟩ := ob_some h
              clear h
              have kXspec_IsValidQuery_B2 : ∀ (_ : Unit), ((loopF (spec_IsValidQuery_B1 a0) m) (IntKind.i64.wrap (y2 + 1))) = some o1 → ∀ σ' : PS, okK σ' [(1, .box [nI a0.1, dL c195_d a0.2.1, dL ci64 a0.2.2]), (3, nI y2)] → K12 σ' := by
                intro _ h σ' hk
                refine hK12 _ (ls_keep [(1, .box [nI a0.1, dL c195_d a0.2.1, dL ci64 a0.2.2]), (3, nI y2)] hk rfl ?_)
                refine ls_rgn tbOk ?_
                refine evs (ev_mv (c := nI y2) rfl rfl rfl (evs (ev_bin (c1 := nI y2) (c2 := nI 1) rfl rfl rfl (evs (ev_as (c := nI (IntKind.i64.wrap (y2 + 1))) rfl rfl rfl (evn ?_))))))
                exact hN _ (IntKind.i64.wrap (y2 + 1)) h ⟨kr, kr, trivial⟩
              refine ls_rec (fun (y4 : Int) => [(1, .box [nI a0.1, dL c195_d a0.2.1, dL ci64 a0.2.2]), (3, nI y2), (4, nI y4)]) (spec_IsValidQuery_B2 a0 y2) fz 0 o2 hl ⟨kr, kr, kr, trivial⟩ (fun _ => rfl) ?_
              rintro m y4 N h hN
              unfold spec_IsValidQuery_B2 at h
              refine ls_seq_k fun K24 hK24 => ?_
              refine ls_rs tbOk ?_
              refine evs (ev_mv (c := nI y4) rfl rfl rfl (evs (ev_fa (c1 := .cref 1 0) (v := .cref 1 1) rfl rfl rfl ⟨_, rfl⟩ rfl (evs (ev_ldB (off := 1) (v := dL c195_d a0.2.1) rfl rfl rfl rfl (nb rfl) rfl (evs (ev_mv (c := nI y2) rfl rfl rfl (?_))))))))
              obtain ⟨e25, g26, h⟩ := ob_some h
              refine evs (ev_ia rfl rfl rfl ⟨(geti_some g26).1, (geti_some g26).2.1⟩ (evs (ev_fa (c1 := .adr (a0.2.1.flatMap c195_d) (Int.toNat y2 * 2)) (v := .adr (a0.2.1.flatMap c195_d) (Int.toNat y2 * 2 + 1)) rfl rfl rfl trivial rfl (evs (ev_ldE (i := y2) (n := 2) (off := 1) (v := dL ci64 e25.2) rfl rfl zc195_d g26 rfl (nb rfl) rfl (evs (ev_len (c1 := dL ci64 e25.2) rfl rfl rfl (evs (ev_bin (c1 := nI y4) (c2 := nI (List.length e25.2 : Int)) rfl rfl rfl (evn ?_))))))))))
              refine ls_keep [(1, .box [nI a0.1, dL c195_d a0.2.1, dL ci64 a0.2.2]), (3, nI y2), (4, nI y4), (62, .bool (decide (y4 < (List.length e25.2 : Int))))] ⟨kr, kr, kr, kr, trivial⟩ rfl ?_
              rcases cond_some h with ⟨g27, h⟩ | ⟨g27, h⟩
              · refine ls_cT rfl g27 ?_
                refine ls_skip ?_
                refine hK24 _ (ls_keep [(1, .box [nI a0.1, dL c195_d a0.2.1, dL ci64 a0.2.2]), (3, nI y2), (4, nI y4)] ⟨kr, kr, kr, trivial⟩ rfl ?_)
                refine ls_seq_k fun K28 hK28 => ?_
                refine ls_blk ?_
                refine ls_rd tbOk mixed (by kernel_rfl) ?_
                refine evd rfl rfl (ev_fa (c1 := .cref 1 0) (v := .cref 1 1) rfl rfl rfl ⟨_, rfl⟩ rfl (evd rfl rfl (ev_ldB (off := 1) (v := dL c195_d a0.2.1) rfl rfl rfl rfl (nb rfl) rfl (evd rfl rfl (ev_mv (c := nI y2) rfl rfl rfl (?_))))))
                obtain ⟨e29, g30, h⟩ := ob_some h
                refine evd rfl rfl (ev_ia rfl rfl rfl ⟨(geti_some g30).1, (geti_some g30).2.1⟩ (evd rfl rfl (ev_fa (c1 := .adr (a0.2.1.flatMap c195_d) (Int.toNat y2 * 2)) (v := .adr (a0.2.1.flatMap c195_d) (Int.toNat y2 * 2 + 1)) rfl rfl rfl trivial rfl (evd rfl rfl (ev_ldE (i := y2) (n := 2) (off := 1) (v := dL ci64 e29.2) rfl rfl zc195_d g30 rfl (nb rfl) rfl (evd rfl rfl (ev_mv (c := nI y4) rfl rfl rfl (?_))))))))
                obtain ⟨e31, g32, h⟩ := ob_some h
                refine evd rfl rfl (ev_ia rfl rfl rfl ⟨(geti_some g32).1, (geti_some g32).2.1⟩ (evd rfl rfl (ev_ldE (i := y4) (n := 1) (off := 0) (v := nI e31) rfl rfl zci64 g32 rfl (nb rfl) rfl (evd rfl rfl (ev_fa (c1 := .cref 1 0) (v := .cref 1 0) rfl rfl rfl ⟨_, rfl⟩ rfl (evd rfl rfl (ev_ldB (off := 0) (v := nI a0.1) rfl rfl rfl rfl (nb rfl) rfl (evd rfl rfl (ev_bin (c1 := nI a0.1) (c2 := nI 1) rfl rfl rfl (?_))))))))))
                obtain ⟨v33, g34, h⟩ := ob_some h
                refine evd rfl rfl (ev_call (era rfl rfl (era rfl rfl (era rfl rfl eran))) (spec_l1In_s g34) (evd rfl rfl (ev_un (c1 := .bool v33) rfl trivial (evdn ?_))))
                refine ls_keep [(1, .box [nI a0.1, dL c195_d a0.2.1, dL ci64 a0.2.2]), (3, nI y2), (4, nI y4), (78, .bool (!v33))] ⟨kr, kr, kr, kr, trivial⟩ rfl ?_
                rcases cond_some h with ⟨g35, h⟩ | ⟨g35, h⟩
                · refine ls_cT rfl g35 ?_
                  refine ls_rs tbOk ?_
                  refine evs (ev_ac rfl nofun rfl (evn ?_))
                  refine ls_keep [(2, .bool false)] ⟨kr, trivial⟩ rfl ?_
                  refine ls_ret ?_
                  have q0 := (Option.some.inj h).symm
                  have r0 := hr2
                  rw [q0] at r0
                  have q1 := (Option.some.inj r0).symm
                  have r1 := hr1
                  rw [q1] at r1
                  have hr := Option.some.inj r1
                  rw [← hr]
                  exact ⟨.inl rfl, rfl⟩
                · refine ls_cF rfl g35 ?_
                  refine ls_skip ?_
                  refine hK28 _ (ls_keep [(1, .box [nI a0.1, dL c195_d a0.2.1, dL ci64 a0.2.2]), (3, nI y2), (4, nI y4)] ⟨kr, kr, kr, trivial⟩ rfl ?_)
                  refine ls_rgn tbOk ?_
                  refine evs (ev_mv (c := nI y4) rfl rfl rfl (evs (ev_bin (c1 := nI y4) (c2 := nI 1) rfl rfl rfl (evs (ev_as (c := nI (IntKind.i64.wrap (y4 + 1))) rfl rfl rfl (evn ?_))))))
                  exact hN _ (IntKind.i64.wrap (y4 + 1)) h ⟨kr, kr, kr, trivial⟩
              · refine ls_cF rfl g27 ?_
                refine ls_exit ?_
                have q0 := (Option.some.inj h).symm
                have r0 := hr2
                rw [q0] at r0
                exact kXspec_IsValidQuery_B2 () r0 _ ⟨kr, kr, trivial⟩
        · refine ls_cF rfl g11 ?_
          refine ls_exit ?_
          have q0 := (Option.some.inj h).symm
          have r0 := hr1
          rw [q0] at r0
          exact kXspec_IsValidQuery_B1 () r0 _ ⟨kr, trivial⟩
def spec_JoinTreeRoot_J2 (rec : (Int × Int) → Option (Sum (Int) (Int))) (y2 : Int) (x8 : Int) : Option (Sum (Int) (Int)) := rec (x8, (IntKind.i64.wrap (y2 + 1)))
def spec_JoinTreeRoot_B1 (a0 : List Int) (rec : (Int × Int) → Option (Sum (Int) (Int))) (s : Int × Int) : Option (Sum (Int) (Int)) := match s with
  | (y1, y2) => cond (decide (y2 < (List.length a0 : Int))) (obind (geti a0 y2) fun e6 => cond (e6 == (-1)) (cond (decide (0 ≤ y1)) (some (.inr (-1))) (spec_JoinTreeRoot_J2 rec y2 y2)) (spec_JoinTreeRoot_J2 rec y2 y1)) (some (.inl y1))
def spec_JoinTreeRoot (a0 : List Int) : Option (Int) := obind (loopF (spec_JoinTreeRoot_B1 a0) fz ((-1), 0)) fun o1 => (match o1 with
  | .inl z2 => (some z2)
  | .inr r => some r)
theorem spec_JoinTreeRoot_s {a0 : List Int} {r : Int} (h : spec_JoinTreeRoot a0 = some r) : SoundAt Try.prog 201 [.agg [dL ci64 a0]] (nI r) := by
  unfold spec_JoinTreeRoot at h
  refine sound_lit tbOk lit201 (nb rfl) rfl ?_
  unfold c201
  refine ls_keep [(0, .agg [dL ci64 a0])] ⟨kr, trivial⟩ rfl ?_
  refine ls_rs tbOk ?_
  refine evs (ev_bx (c1 := .agg [dL ci64 a0]) rfl rfl rfl (evs (ev_ac rfl nofun rfl (evn ?_))))
  refine ls_keep [(1, .box [dL ci64 a0])] ⟨kr, trivial⟩ rfl ?_
  refine ls_rs tbOk ?_
  refine evs (ev_ac rfl nofun rfl (evn ?_))
  refine ls_keep [(1, .box [dL ci64 a0]), (3, nI (-1))] ⟨kr, kr, trivial⟩ rfl ?_
  refine ls_seq_k fun K1 hK1 => ?_
  refine ls_rs tbOk ?_
  refine evs (ev_ac rfl nofun rfl (evn ?_))
  refine ls_keep [(1, .box [dL ci64 a0]), (3, nI (-1)), (4, nI 0)] ⟨kr, kr, kr, trivial⟩ rfl ?_
  obtain ⟨o1, hl, hr1⟩ := ob_some h
  clear h
  have kXspec_JoinTreeRoot_B1 : ∀ (z2 : Int), (some z2) = some r → ∀ σ' : PS, okK σ' [(3, nI z2)] → K1 σ' := by
    intro z2 h σ' hk
    refine hK1 _ (ls_keep [(3, nI z2)] hk rfl ?_)
    refine ls_rs tbOk ?_
    refine evs (ev_mv (c := nI z2) rfl rfl rfl (evs (ev_as (c := nI z2) rfl rfl rfl (evn ?_))))
    refine ls_keep [(2, nI z2)] ⟨kr, trivial⟩ rfl ?_
    refine ls_ret ?_
    have hr := Option.some.inj h
    rw [← hr]
    exact ⟨.inl rfl, rfl⟩
  refine ls_rec (fun (s : Int × Int) => match s with | (y1, y2) => [(1, .box [dL ci64 a0]), (3, nI y1), (4, nI y2)]) (spec_JoinTreeRoot_B1 a0) fz ((-1), 0) o1 hl ⟨kr, kr, kr, trivial⟩ (fun _ => rfl) ?_
  rintro m ⟨y1, y2⟩ N h hN
  unfold spec_JoinTreeRoot_B1 at h
  dsimp only at h
  refine ls_seq_k fun K3 hK3 => ?_
  refine ls_rs tbOk ?_
  refine evs (ev_mv (c := nI y2) rfl rfl rfl (evs (ev_fa (c1 := .cref 1 0) (v := .cref 1 0) rfl rfl rfl ⟨_, rfl⟩ rfl (evs (ev_ldB (off := 0) (v := dL ci64 a0) rfl rfl rfl rfl (nb rfl) rfl (evs (ev_len (c1 := dL ci64 a0) rfl rfl rfl (evs (ev_bin (c1 := nI y2) (c2 := nI (List.length a0 : Int)) rfl rfl rfl (evn ?_))))))))))
  refine ls_keep [(1, .box [dL ci64 a0]), (3, nI y1), (4, nI y2), (9, .bool (decide (y2 < (List.length a0 : Int))))] ⟨kr, kr, kr, kr, trivial⟩ rfl ?_
  rcases cond_some h with ⟨g4, h⟩ | ⟨g4, h⟩
  · refine ls_cT rfl g4 ?_
    refine ls_skip ?_
    refine hK3 _ (ls_keep [(1, .box [dL ci64 a0]), (3, nI y1), (4, nI y2)] ⟨kr, kr, kr, trivial⟩ rfl ?_)
    refine ls_seq_k fun K5 hK5 => ?_
    refine ls_blk ?_
    refine ls_rs tbOk ?_
    refine evs (ev_fa (c1 := .cref 1 0) (v := .cref 1 0) rfl rfl rfl ⟨_, rfl⟩ rfl (evs (ev_ldB (off := 0) (v := dL ci64 a0) rfl rfl rfl rfl (nb rfl) rfl (evs (ev_mv (c := nI y2) rfl rfl rfl (?_))))))
    obtain ⟨e6, g7, h⟩ := ob_some h
    refine evs (ev_ia rfl rfl rfl ⟨(geti_some g7).1, (geti_some g7).2.1⟩ (evs (ev_ldE (i := y2) (n := 1) (off := 0) (v := nI e6) rfl rfl zci64 g7 rfl (nb rfl) rfl (evs (ev_bin (c1 := nI e6) (c2 := nI (-1)) rfl rfl rfl (evn ?_))))))
    refine ls_keep [(1, .box [dL ci64 a0]), (3, nI y1), (4, nI y2), (17, .bool (e6 == (-1)))] ⟨kr, kr, kr, kr, trivial⟩ rfl ?_
    have kspec_JoinTreeRoot_J2 : ∀ (x8 : Int), spec_JoinTreeRoot_J2 (loopF (spec_JoinTreeRoot_B1 a0) m) y2 x8 = some o1 → ∀ σ' : PS, okK σ' [(1, .box [dL ci64 a0]), (3, nI x8), (4, nI y2)] → K5 σ' := by
      intro x8 h σ' hk
      unfold spec_JoinTreeRoot_J2 at h
      refine hK5 _ (ls_keep [(1, .box [dL ci64 a0]), (3, nI x8), (4, nI y2)] hk rfl ?_)
      refine ls_rgn tbOk ?_
      refine evs (ev_mv (c := nI y2) rfl rfl rfl (evs (ev_bin (c1 := nI y2) (c2 := nI 1) rfl rfl rfl (evs (ev_as (c := nI (IntKind.i64.wrap (y2 + 1))) rfl rfl rfl (evn ?_))))))
      exact hN _ (x8, (IntKind.i64.wrap (y2 + 1))) h ⟨kr, kr, kr, trivial⟩
    rcases cond_some h with ⟨g9, h⟩ | ⟨g9, h⟩
    · refine ls_cT rfl g9 ?_
      refine ls_seq_k fun K10 hK10 => ?_
      refine ls_rs tbOk ?_
      refine evs (ev_mv (c := nI y1) rfl rfl rfl (evs (ev_bin (c1 := nI y1) (c2 := nI 0) rfl rfl rfl (evn ?_))))
      refine ls_keep [(1, .box [dL ci64 a0]), (4, nI y2), (19, .bool (decide (0 ≤ y1)))] ⟨kr, kr, kr, trivial⟩ rfl ?_
      rcases cond_some h with ⟨g11, h⟩ | ⟨g11, h⟩
      · refine ls_cT rfl g11 ?_
        refine ls_rs tbOk ?_
        refine evs (ev_ac rfl nofun rfl (evn ?_))
        refine ls_keep [(2, nI (-1))] ⟨kr, trivial⟩ rfl ?_
        refine ls_ret ?_
        have q0 := (Option.some.inj h).symm
        have r0 := hr1
        rw [q0] at r0
        have hr := Option.some.inj r0
        rw [← hr]
        exact ⟨.inl rfl, rfl⟩
      · refine ls_cF rfl g11 ?_
        refine ls_skip ?_
        refine hK10 _ (ls_keep [(1, .box [dL ci64 a0]), (4, nI y2)] ⟨kr, kr, trivial⟩ rfl ?_)
        refine ls_rgn tbOk ?_
        refine evs (ev_mv (c := nI y2) rfl rfl rfl (evs (ev_as (c := nI y2) rfl rfl rfl (evn ?_))))
        exact kspec_JoinTreeRoot_J2 y2 h _ ⟨kr, kr, kr, trivial⟩
    · refine ls_cF rfl g9 ?_
      refine ls_skip ?_
      exact kspec_JoinTreeRoot_J2 y1 h _ ⟨kr, kr, kr, trivial⟩
  · refine ls_cF rfl g4 ?_
    refine ls_exit ?_
    have q0 := (Option.some.inj h).symm
    have r0 := hr1
    rw [q0] at r0
    exact kXspec_JoinTreeRoot_B1 y1 r0 _ ⟨kr, trivial⟩
def spec_l10Path_B1 (a0 : List Int) (rec : (Int × (List Int)) → Option ((List Int))) (s : Int × (List Int)) : Option ((List Int)) := match s with
  | (y1, y2) => obind (spec_l1In y1 0 (IntKind.i64.wrap ((List.length a0 : Int) - 1))) fun v4 => cond v4 (cond (decide ((List.length y2 : Int) ≤ (List.length a0 : Int))) (chk (List.length y2 + List.length [y1] ≤ lim) (obind (geti a0 y1) fun e9 => rec (e9, (y2 ++ [y1])))) (some y2)) (some y2)
def spec_l10Path (a0 : List Int) (a1 : Int) : Option ((List Int)) := obind (loopF (spec_l10Path_B1 a0) fz (a1, ([] : List Int))) fun z2 => some z2
theorem spec_l10Path_s {a0 : List Int} {a1 : Int} {r : (List Int)} (h : spec_l10Path a0 a1 = some r) : SoundAt Try.prog 202 [.agg [dL ci64 a0], nI a1] (oL 3 ci64 r) := by
  unfold spec_l10Path at h
  refine sound_lit tbOk lit202 (nb rfl) rfl ?_
  unfold c202
  refine ls_keep [(0, .agg [dL ci64 a0]), (1, nI a1)] ⟨kr, kr, trivial⟩ rfl ?_
  refine ls_rs tbOk ?_
  refine evs (ev_bx (c1 := .agg [dL ci64 a0]) rfl rfl rfl (evs (ev_an rfl rfl (evn ?_))))
  refine ls_keep [(1, nI a1), (2, .box [dL ci64 a0])] ⟨kr, kr, trivial⟩ rfl ?_
  refine ls_rs tbOk ?_
  refine evs (ev_bs [] (cs := []) rfl trivial rfl (nb rfl) rfl (evs (ev_as (c := oL 3 ci64 []) rfl rfl rfl (evn ?_))))
  refine ls_keep [(1, nI a1), (2, .box [dL ci64 a0]), (5, oL 3 ci64 [])] ⟨kr, kr, kr, trivial⟩ rfl ?_
  refine ls_seq_k fun K1 hK1 => ?_
  obtain ⟨o1, hl, hr1⟩ := ob_some h
  clear h
  have kXspec_l10Path_B1 : ∀ (z2 : List Int), (some z2) = some r → ∀ σ' : PS, okK σ' [(5, oL 3 ci64 z2)] → K1 σ' := by
    intro z2 h σ' hk
    refine hK1 _ (ls_keep [(5, oL 3 ci64 z2)] hk rfl ?_)
    refine ls_rs tbOk ?_
    refine evs (ev_mvt (c := oL 3 ci64 z2) rfl rfl rfl (evs (ev_as (c := oL 3 ci64 z2) rfl rfl rfl (evn ?_))))
    refine ls_keep [(4, oL 3 ci64 z2)] ⟨kr, trivial⟩ rfl ?_
    refine ls_ret ?_
    have hr := Option.some.inj h
    rw [← hr]
    exact ⟨.inl rfl, rfl⟩
  refine ls_rec (fun (s : Int × (List Int)) => match s with | (y1, y2) => [(1, nI y1), (2, .box [dL ci64 a0]), (5, oL 3 ci64 y2)]) (spec_l10Path_B1 a0) fz (a1, ([] : List Int)) o1 hl ⟨kr, kr, kr, trivial⟩ (fun _ => rfl) ?_
  rintro m ⟨y1, y2⟩ N h hN
  unfold spec_l10Path_B1 at h
  dsimp only at h
  refine ls_seq_k fun K3 hK3 => ?_
  refine ls_rs tbOk ?_
  refine evs (ev_mv (c := nI y1) rfl rfl rfl (evs (ev_fa (c1 := .cref 2 0) (v := .cref 2 0) rfl rfl rfl ⟨_, rfl⟩ rfl (evs (ev_ldB (off := 0) (v := dL ci64 a0) rfl rfl rfl rfl (nb rfl) rfl (evs (ev_len (c1 := dL ci64 a0) rfl rfl rfl (evs (ev_bin (c1 := nI (List.length a0 : Int)) (c2 := nI 1) rfl rfl rfl (?_))))))))))
  obtain ⟨v4, g5, h⟩ := ob_some h
  refine evs (ev_call (era rfl rfl (era rfl rfl (era rfl rfl eran))) (spec_l1In_s g5) (evs (ev_mv (c := .bool v4) rfl rfl rfl (?_))))
  rcases cond_some h with ⟨g6, h⟩ | ⟨g6, h⟩
  · refine evs (ev_gr rfl (congrArg V.bool g6) (ev_mv (c := oL 3 ci64 y2) rfl rfl rfl (evs (ev_gr rfl (congrArg V.bool g6) (ev_len (c1 := dL ci64 y2) rfl rfl rfl (evs (ev_gr rfl (congrArg V.bool g6) (ev_fa (c1 := .cref 2 0) (v := .cref 2 0) rfl rfl rfl ⟨_, rfl⟩ rfl (evs (ev_gr rfl (congrArg V.bool g6) (ev_ldB (off := 0) (v := dL ci64 a0) rfl rfl rfl rfl (nb rfl) rfl (evs (ev_gr rfl (congrArg V.bool g6) (ev_len (c1 := dL ci64 a0) rfl rfl rfl (evs (ev_gr rfl (congrArg V.bool g6) (ev_bin (c1 := nI (List.length y2 : Int)) (c2 := nI (List.length a0 : Int)) rfl rfl rfl (evs (ev_pkT (c1 := .bool (decide ((List.length y2 : Int) ≤ (List.length a0 : Int)))) rfl g6 rfl rfl (evn ?_))))))))))))))))))))
    refine ls_keep [(1, nI y1), (2, .box [dL ci64 a0]), (5, oL 3 ci64 y2), (20, .bool (decide ((List.length y2 : Int) ≤ (List.length a0 : Int))))] ⟨kr, kr, kr, kr, trivial⟩ rfl ?_
    rcases cond_some h with ⟨g7, h⟩ | ⟨g7, h⟩
    · refine ls_cT rfl g7 ?_
      refine ls_skip ?_
      refine hK3 _ (ls_keep [(1, nI y1), (2, .box [dL ci64 a0]), (5, oL 3 ci64 y2)] ⟨kr, kr, kr, trivial⟩ rfl ?_)
      refine ls_blk ?_
      refine ls_rs tbOk ?_
      refine evs (ev_mvt (c := oL 3 ci64 y2) rfl rfl rfl (evs (ev_mv (c := nI y1) rfl rfl rfl (evs (ev_bs [nI y1] (cs := [nI y1]) rfl ⟨rfl, trivial⟩ rfl (nb rfl) rfl (?_))))))
      obtain ⟨g8, h⟩ := chk_some h
      refine evs (ev_app (f := ci64) (l := y2) (m := [y1]) (c2 := oL 3 ci64 [y1]) rfl rfl rfl (flat_len zci64 [y1]) rfl rfl g8 rfl (evs (ev_as (c := oL 3 ci64 (y2 ++ [y1])) rfl rfl rfl (evn ?_))))
      refine ls_keep [(1, nI y1), (2, .box [dL ci64 a0]), (5, oL 3 ci64 (y2 ++ [y1]))] ⟨kr, kr, kr, trivial⟩ rfl ?_
      refine ls_rgn tbOk ?_
      refine evs (ev_fa (c1 := .cref 2 0) (v := .cref 2 0) rfl rfl rfl ⟨_, rfl⟩ rfl (evs (ev_ldB (off := 0) (v := dL ci64 a0) rfl rfl rfl rfl (nb rfl) rfl (evs (ev_mv (c := nI y1) rfl rfl rfl (?_))))))
      obtain ⟨e9, g10, h⟩ := ob_some h
      refine evs (ev_ia rfl rfl rfl ⟨(geti_some g10).1, (geti_some g10).2.1⟩ (evs (ev_ldE (i := y1) (n := 1) (off := 0) (v := nI e9) rfl rfl zci64 g10 rfl (nb rfl) rfl (evs (ev_as (c := nI e9) rfl rfl rfl (evn ?_))))))
      exact hN _ (e9, (y2 ++ [y1])) h ⟨kr, kr, kr, trivial⟩
    · refine ls_cF rfl g7 ?_
      refine ls_exit ?_
      have q0 := (Option.some.inj h).symm
      have r0 := hr1
      rw [q0] at r0
      exact kXspec_l10Path_B1 y2 r0 _ ⟨kr, trivial⟩
  · refine evs (ev_gs rfl rfl (isb_F g6) (evs (ev_gs rfl rfl (isb_F g6) (evs (ev_gs rfl rfl (isb_F g6) (evs (ev_gs rfl rfl (isb_F g6) (evs (ev_gs rfl rfl (isb_F g6) (evs (ev_gs rfl rfl (isb_F g6) (evs (ev_pkF (c1 := .bool false) rfl g6 rfl rfl (evn ?_))))))))))))))
    refine ls_keep [(1, nI y1), (2, .box [dL ci64 a0]), (5, oL 3 ci64 y2), (20, .bool false)] ⟨kr, kr, kr, kr, trivial⟩ rfl ?_
    refine ls_cF rfl rfl ?_
    refine ls_exit ?_
    have q0 := (Option.some.inj h).symm
    have r0 := hr1
    rw [q0] at r0
    exact kXspec_l10Path_B1 y2 r0 _ ⟨kr, trivial⟩
def spec_IsValidJoinTree_B1 (a1 : List Int) (rec : Int → Option (Sum (Unit) (Bool))) (y1 : Int) : Option (Sum (Unit) (Bool)) := cond (decide (y1 < (List.length a1 : Int))) (obind (spec_l10Path a1 y1) fun v13 => cond (decide ((List.length a1 : Int) < (List.length v13 : Int))) (some (.inr false)) (obind (geti v13 (IntKind.i64.wrap ((List.length v13 : Int) - 1))) fun e16 => obind (spec_JoinTreeRoot a1) fun v18 => cond (e16 != v18) (some (.inr false)) (rec (IntKind.i64.wrap (y1 + 1))))) (some (.inl ()))
def spec_IsValidJoinTree_J5 (rec : (Int × Int) → Option (Int)) (y8 : Int) (x32 : Int) : Option (Int) := rec (x32, (IntKind.i64.wrap (y8 + 1)))
def spec_IsValidJoinTree_J4 (rec : (Int × Int) → Option (Int)) (y7 : Int) (y8 : Int) (x31 : Bool) : Option (Int) := cond x31 (spec_IsValidJoinTree_J5 rec y8 (IntKind.i64.wrap (y7 + 1))) (spec_IsValidJoinTree_J5 rec y8 y7)
def spec_IsValidJoinTree_B3 (a0 : Y91) (a1 : List Int) (y4 : Int) (rec : (Int × Int) → Option (Int)) (s : Int × Int) : Option (Int) := match s with
  | (y7, y8) => cond (decide (y8 < (List.length a1 : Int))) (obind (geti a0.2.1 y8) fun e34 => obind (spec_ContainsVariable e34 y4) fun v36 => cond v36 (obind (geti a1 y8) fun e39 => cond (e39 == (-1)) (spec_IsValidJoinTree_J4 rec y7 y8 true) (obind (geti a1 y8) fun e42 => obind (geti a0.2.1 e42) fun e44 => obind (spec_ContainsVariable e44 y4) fun v46 => spec_IsValidJoinTree_J4 rec y7 y8 (!v46))) (spec_IsValidJoinTree_J4 rec y7 y8 false)) (some y7)
def spec_IsValidJoinTree_B2 (a0 : Y91) (a1 : List Int) (rec : Int → Option (Sum (Unit) (Bool))) (y4 : Int) : Option (Sum (Unit) (Bool)) := cond (decide (y4 < a0.1)) (obind (loopF (spec_IsValidJoinTree_B3 a0 a1 y4) fz (0, 0)) fun z26 => cond (z26 != 1) (some (.inr false)) (rec (IntKind.i64.wrap (y4 + 1)))) (some (.inl ()))
def spec_IsValidJoinTree (a0 : Y91) (a1 : List Int) : Option (Bool) := obind (spec_IsValidQuery a0) fun v2 => cond (!v2) (some false) (cond ((List.length a1 : Int) != (List.length a0.2.1 : Int)) (some false) (obind (spec_JoinTreeRoot a1) fun v6 => cond (decide (v6 < 0)) (some false) (obind (loopF (spec_IsValidJoinTree_B1 a1) fz 0) fun o1 => (match o1 with
  | .inl _ => (obind (loopF (spec_IsValidJoinTree_B2 a0 a1) fz 0) fun o2 => (match o2 with
  | .inl _ => (some true)
  | .inr r => some r))
  | .inr r => some r))))
theorem spec_IsValidJoinTree_s {a0 : Y91} {a1 : List Int} {r : Bool} (h : spec_IsValidJoinTree a0 a1 = some r) : SoundAt Try.prog 123 [.agg (c92_ddd a0), .agg [dL ci64 a1]] (.bool r) := by
  unfold spec_IsValidJoinTree at h
  refine sound_lit tbOk lit123 (nb rfl) rfl ?_
  unfold c123
  refine ls_keep [(0, .agg (c92_ddd a0)), (1, .agg [dL ci64 a1])] ⟨kr, kr, trivial⟩ rfl ?_
  refine ls_rs tbOk ?_
  refine evs (ev_bx (c1 := .agg (c92_ddd a0)) rfl rfl rfl (evs (ev_bx (c1 := .agg [dL ci64 a1]) rfl rfl rfl (evs (ev_ac rfl nofun rfl (evn ?_))))))
  refine ls_keep [(2, .box [nI a0.1, dL c195_d a0.2.1, dL ci64 a0.2.2]), (3, .box [dL ci64 a1])] ⟨kr, kr, trivial⟩ rfl ?_
  refine ls_seq_k fun K1 hK1 => ?_
  refine ls_rs tbOk ?_
  refine evs (ev_ldB (off := 0) (v := .agg (c92_ddd a0)) rfl rfl rfl rfl (nb rfl) rfl (?_))
  obtain ⟨v2, g3, h⟩ := ob_some h
  refine evs (ev_call (era rfl (erg (erc rfl (erc (erD ec195_d _) (erc (erD eci64 _) rfl)))) eran) (spec_IsValidQuery_s g3) (evs (ev_un (c1 := .bool v2) rfl trivial (evs (ev_mv (c := .bool (!v2)) rfl rfl rfl (?_))))))
  rcases cond_some h with ⟨g4, h⟩ | ⟨g4, h⟩
  · refine evs (ev_gs rfl rfl (isb_T g4) (evs (ev_gs rfl rfl (isb_T g4) (evs (ev_gs rfl rfl (isb_T g4) (evs (ev_gs rfl rfl (isb_T g4) (evs (ev_gs rfl rfl (isb_T g4) (evs (ev_gs rfl rfl (isb_T g4) (evs (ev_gs rfl rfl (isb_T g4) (evs (ev_pkT (c1 := .bool true) rfl g4 rfl rfl (evs (ev_mv (c := .bool true) rfl rfl rfl (evs (ev_gs rfl rfl rfl (evs (ev_gs rfl rfl rfl (evs (ev_gs rfl rfl rfl (evs (ev_pkT (c1 := .bool true) rfl rfl rfl rfl (evn ?_))))))))))))))))))))))))))
    refine ls_keep [(2, .box [nI a0.1, dL c195_d a0.2.1, dL ci64 a0.2.2]), (3, .box [dL ci64 a1]), (26, .bool true)] ⟨kr, kr, kr, trivial⟩ rfl ?_
    refine ls_cT rfl rfl ?_
    refine ls_rs tbOk ?_
    refine evs (ev_ac rfl nofun rfl (evn ?_))
    refine ls_keep [(4, .bool false)] ⟨kr, trivial⟩ rfl ?_
    refine ls_ret ?_
    have hr := Option.some.inj h
    rw [← hr]
    exact ⟨.inl rfl, rfl⟩
  · refine evs (ev_gr rfl (congrArg V.bool g4) (ev_fa (c1 := .cref 3 0) (v := .cref 3 0) rfl rfl rfl ⟨_, rfl⟩ rfl (evs (ev_gr rfl (congrArg V.bool g4) (ev_ldB (off := 0) (v := dL ci64 a1) rfl rfl rfl rfl (nb rfl) rfl (evs (ev_gr rfl (congrArg V.bool g4) (ev_len (c1 := dL ci64 a1) rfl rfl rfl (evs (ev_gr rfl (congrArg V.bool g4) (ev_fa (c1 := .cref 2 0) (v := .cref 2 1) rfl rfl rfl ⟨_, rfl⟩ rfl (evs (ev_gr rfl (congrArg V.bool g4) (ev_ldB (off := 1) (v := dL c195_d a0.2.1) rfl rfl rfl rfl (nb rfl) rfl (evs (ev_gr rfl (congrArg V.bool g4) (ev_len (c1 := dL c195_d a0.2.1) rfl rfl rfl (evs (ev_gr rfl (congrArg V.bool g4) (ev_bin (c1 := nI (List.length a1 : Int)) (c2 := nI (List.length a0.2.1 : Int)) rfl rfl rfl (evs (ev_pkF (c1 := .bool ((List.length a1 : Int) != (List.length a0.2.1 : Int))) rfl g4 rfl rfl (evs (ev_mv (c := .bool ((List.length a1 : Int) != (List.length a0.2.1 : Int))) rfl rfl rfl (?_)))))))))))))))))))))))))
    rcases cond_some h with ⟨g5, h⟩ | ⟨g5, h⟩
    · refine evs (ev_gs rfl rfl (isb_T g5) (evs (ev_gs rfl rfl (isb_T g5) (evs (ev_gs rfl rfl (isb_T g5) (evs (ev_pkT (c1 := .bool true) rfl g5 rfl rfl (evn ?_))))))))
      refine ls_keep [(2, .box [nI a0.1, dL c195_d a0.2.1, dL ci64 a0.2.2]), (3, .box [dL ci64 a1]), (26, .bool true)] ⟨kr, kr, kr, trivial⟩ rfl ?_
      refine ls_cT rfl rfl ?_
      refine ls_rs tbOk ?_
      refine evs (ev_ac rfl nofun rfl (evn ?_))
      refine ls_keep [(4, .bool false)] ⟨kr, trivial⟩ rfl ?_
      refine ls_ret ?_
      have hr := Option.some.inj h
      rw [← hr]
      exact ⟨.inl rfl, rfl⟩
    · refine evs (ev_gr rfl (congrArg V.bool g5) (ev_ldB (off := 0) (v := .agg [dL ci64 a1]) rfl rfl rfl rfl (nb rfl) rfl (?_)))
      obtain ⟨v6, g7, h⟩ := ob_some h
      refine evs (ev_gr rfl (congrArg V.bool g5) (ev_call (era rfl (erg (erc (erD eci64 _) rfl)) eran) (spec_JoinTreeRoot_s g7) (evs (ev_gr rfl (congrArg V.bool g5) (ev_bin (c1 := nI v6) (c2 := nI 0) rfl rfl rfl (evs (ev_pkF (c1 := .bool (decide (v6 < 0))) rfl g5 rfl rfl (evn ?_))))))))
      refine ls_keep [(2, .box [nI a0.1, dL c195_d a0.2.1, dL ci64 a0.2.2]), (3, .box [dL ci64 a1]), (26, .bool (decide (v6 < 0)))] ⟨kr, kr, kr, trivial⟩ rfl ?_
      rcases cond_some h with ⟨g8, h⟩ | ⟨g8, h⟩
      · refine ls_cT rfl g8 ?_
        refine ls_rs tbOk ?_
        refine evs (ev_ac rfl nofun rfl (evn ?_))
        refine ls_keep [(4, .bool false)] ⟨kr, trivial⟩ rfl ?_
        refine ls_ret ?_
        have hr := Option.some.inj h
        rw [← hr]
        exact ⟨.inl rfl, rfl⟩
      · refine ls_cF rfl g8 ?_
        refine ls_skip ?_
        refine hK1 _ (ls_keep [(2, .box [nI a0.1, dL c195_d a0.2.1, dL ci64 a0.2.2]), (3, .box [dL ci64 a1])] ⟨kr, kr, trivial⟩ rfl ?_)
        refine ls_seq_k fun K9 hK9 => ?_
        refine ls_rs tbOk ?_
        refine evs (ev_ac rfl nofun rfl (evn ?_))
        refine ls_keep [(2, .box [nI a0.1, dL c195_d a0.2.1, dL ci64 a0.2.2]), (3, .box [dL ci64 a1]), (5, nI 0)] ⟨kr, kr, kr, trivial⟩ rfl ?_
        obtain ⟨o1, hl, hr1⟩ := ob_some h
        clear h
        have kXspec_IsValidJoinTree_B1 : ∀ (_ : Unit), (obind (loopF (spec_IsValidJoinTree_B2 a0 a1) fz 0) fun o2 => (match o2 with
  | .inl _ => (some true)
  | .inr r => some r)) = some r → ∀ σ' : PS, okK σ' [(2, .box [nI a0.1, dL c195_d a0.2.1, dL ci64 a0.2.2]), (3, .box [dL ci64 a1])] → K9 σ' := by
          intro _ h σ' hk
          refine hK9 _ (ls_keep [(2, .box [nI a0.1, dL c195_d a0.2.1, dL ci64 a0.2.2]), (3, .box [dL ci64 a1])] hk rfl ?_)
          refine ls_seq_k fun K21 hK21 => ?_
          refine ls_rs tbOk ?_
          refine evs (ev_ac rfl nofun rfl (evn ?_))
          refine ls_keep [(2, .box [nI a0.1, dL c195_d a0.2.1, dL ci64 a0.2.2]), (3, .box [dL ci64 a1]), (7, nI 0)] ⟨kr, kr, kr, trivial⟩ rfl ?_
          obtain ⟨o2, hl, hr2⟩ := ob_some h
          clear h
          have kXspec_IsValidJoinTree_B2 : ∀ (_ : Unit), (some true) = some r → ∀ σ' : PS, okK σ' [] → K21 σ' := by
            intro _ h σ' hk
            refine hK21 _ (ls_keep [] hk rfl ?_)
            refine ls_rs tbOk ?_
            refine evs (ev_ac rfl nofun rfl (evn ?_))
            refine ls_keep [(4, .bool true)] ⟨kr, trivial⟩ rfl ?_
            refine ls_ret ?_
            have hr := Option.some.inj h
            rw [← hr]
            exact ⟨.inl rfl, rfl⟩
          refine ls_rec (fun (y4 : Int) => [(2, .box [nI a0.1, dL c195_d a0.2.1, dL ci64 a0.2.2]), (3, .box [dL ci64 a1]), (7, nI y4)]) (spec_IsValidJoinTree_B2 a0 a1) fz 0 o2 hl ⟨kr, kr, kr, trivial⟩ (fun _ => rfl) ?_
          rintro m y4 N h hN
          unfold spec_IsValidJoinTree_B2 at h
          refine ls_seq_k fun K22 hK22 => ?_
          refine ls_rs tbOk ?_
          refine evs (ev_mv (c := nI y4) rfl rfl rfl (evs (ev_fa (c1 := .cref 2 0) (v := .cref 2 0) rfl rfl rfl ⟨_, rfl⟩ rfl (evs (ev_ldB (off := 0) (v := nI a0.1) rfl rfl rfl rfl (nb rfl) rfl (evs (ev_bin (c1 := nI y4) (c2 := nI a0.1) rfl rfl rfl (evn ?_))))))))
          refine ls_keep [(2, .box [nI a0.1, dL c195_d a0.2.1, dL ci64 a0.2.2]), (3, .box [dL ci64 a1]), (7, nI y4), (57, .bool (decide (y4 < a0.1)))] ⟨kr, kr, kr, kr, trivial⟩ rfl ?_
          rcases cond_some h with ⟨g23, h⟩ | ⟨g23, h⟩
          · refine ls_cT rfl g23 ?_
            refine ls_skip ?_
            refine hK22 _ (ls_keep [(2, .box [nI a0.1, dL c195_d a0.2.1, dL ci64 a0.2.2]), (3, .box [dL ci64 a1]), (7, nI y4)] ⟨kr, kr, kr, trivial⟩ rfl ?_)
            refine ls_seq_k fun K24 hK24 => ?_
            refine ls_blk ?_
            refine ls_rs tbOk ?_
            refine evs (ev_ac rfl nofun rfl (evn ?_))
            refine ls_keep [(2, .box [nI a0.1, dL c195_d a0.2.1, dL ci64 a0.2.2]), (3, .box [dL ci64 a1]), (7, nI y4), (8, nI 0)] ⟨kr, kr, kr, kr, trivial⟩ rfl ?_
            refine ls_seq_k fun K25 hK25 => ?_
            refine ls_rs tbOk ?_
            refine evs (ev_ac rfl nofun rfl (evn ?_))
            refine ls_keep [(2, .box [nI a0.1, dL c195_d a0.2.1, dL ci64 a0.2.2]), (3, .box [dL ci64 a1]), (7, nI y4), (8, nI 0), (9, nI 0)] ⟨kr, kr, kr, kr, kr, trivial⟩ rfl ?_
            obtain ⟨o3, hl, hr3⟩ := ob_some h
            clear h
            have kXspec_IsValidJoinTree_B3 : ∀ (z26 : Int), (cond (z26 != 1) (some (.inr false)) ((loopF (spec_IsValidJoinTree_B2 a0 a1) m) (IntKind.i64.wrap (y4 + 1)))) = some o2 → ∀ σ' : PS, okK σ' [(2, .box [nI a0.1, dL c195_d a0.2.1, dL ci64 a0.2.2]), (3, .box [dL ci64 a1]), (7, nI y4), (8, nI z26)] → K25 σ' := by
              intro z26 h σ' hk
              refine hK25 _ (ls_keep [(2, .box [nI a0.1, dL c195_d a0.2.1, dL ci64 a0.2.2]), (3, .box [dL ci64 a1]), (7, nI y4), (8, nI z26)] hk rfl ?_)
              refine ls_rs tbOk ?_
              refine evs (ev_mv (c := nI z26) rfl rfl rfl (evs (ev_bin (c1 := nI z26) (c2 := nI 1) rfl rfl rfl (evn ?_))))
              refine ls_keep [(2, .box [nI a0.1, dL c195_d a0.2.1, dL ci64 a0.2.2]), (3, .box [dL ci64 a1]), (7, nI y4), (99, .bool (z26 != 1))] ⟨kr, kr, kr, kr, trivial⟩ rfl ?_
              rcases cond_some h with ⟨g48, h⟩ | ⟨g48, h⟩
              · refine ls_cT rfl g48 ?_
                refine ls_rs tbOk ?_
                refine evs (ev_ac rfl nofun rfl (evn ?_))
                refine ls_keep [(4, .bool false)] ⟨kr, trivial⟩ rfl ?_
                refine ls_ret ?_
                have q0 := (Option.some.inj h).symm
                have r0 := hr2
                rw [q0] at r0
                have hr := Option.some.inj r0
                rw [← hr]
                exact ⟨.inl rfl, rfl⟩
              · refine ls_cF rfl g48 ?_
                refine ls_skip ?_
                refine hK24 _ (ls_keep [(2, .box [nI a0.1, dL c195_d a0.2.1, dL ci64 a0.2.2]), (3, .box [dL ci64 a1]), (7, nI y4)] ⟨kr, kr, kr, trivial⟩ rfl ?_)
                refine ls_rgn tbOk ?_
                refine evs (ev_mv (c := nI y4) rfl rfl rfl (evs (ev_bin (c1 := nI y4) (c2 := nI 1) rfl rfl rfl (evs (ev_as (c := nI (IntKind.i64.wrap (y4 + 1))) rfl rfl rfl (evn ?_))))))
                exact hN _ (IntKind.i64.wrap (y4 + 1)) h ⟨kr, kr, kr, trivial⟩
            refine ls_rec (fun (s : Int × Int) => match s with | (y7, y8) => [(2, .box [nI a0.1, dL c195_d a0.2.1, dL ci64 a0.2.2]), (3, .box [dL ci64 a1]), (7, nI y4), (8, nI y7), (9, nI y8)]) (spec_IsValidJoinTree_B3 a0 a1 y4) fz (0, 0) o3 hl ⟨kr, kr, kr, kr, kr, trivial⟩ (fun _ => rfl) ?_
            rintro m ⟨y7, y8⟩ N h hN
            unfold spec_IsValidJoinTree_B3 at h
            dsimp only at h
            refine ls_seq_k fun K27 hK27 => ?_
            refine ls_rs tbOk ?_
            refine evs (ev_mv (c := nI y8) rfl rfl rfl (evs (ev_fa (c1 := .cref 3 0) (v := .cref 3 0) rfl rfl rfl ⟨_, rfl⟩ rfl (evs (ev_ldB (off := 0) (v := dL ci64 a1) rfl rfl rfl rfl (nb rfl) rfl (evs (ev_len (c1 := dL ci64 a1) rfl rfl rfl (evs (ev_bin (c1 := nI y8) (c2 := nI (List.length a1 : Int)) rfl rfl rfl (evn ?_))))))))))
            refine ls_keep [(2, .box [nI a0.1, dL c195_d a0.2.1, dL ci64 a0.2.2]), (3, .box [dL ci64 a1]), (7, nI y4), (8, nI y7), (9, nI y8), (64, .bool (decide (y8 < (List.length a1 : Int))))] ⟨kr, kr, kr, kr, kr, kr, trivial⟩ rfl ?_
            rcases cond_some h with ⟨g28, h⟩ | ⟨g28, h⟩
            · refine ls_cT rfl g28 ?_
              refine ls_skip ?_
              refine hK27 _ (ls_keep [(2, .box [nI a0.1, dL c195_d a0.2.1, dL ci64 a0.2.2]), (3, .box [dL ci64 a1]), (7, nI y4), (8, nI y7), (9, nI y8)] ⟨kr, kr, kr, kr, kr, trivial⟩ rfl ?_)
              refine ls_seq_k fun K29 hK29 => ?_
              refine ls_blk ?_
              refine ls_rd_k tbOk mixed (by kernel_rfl) fun K30 hK30 => ?_
              have kspec_IsValidJoinTree_J4 : ∀ (x31 : Bool), spec_IsValidJoinTree_J4 (loopF (spec_IsValidJoinTree_B3 a0 a1 y4) m) y7 y8 x31 = some o3 → ∀ σ' : PS, okK σ' [(2, .box [nI a0.1, dL c195_d a0.2.1, dL ci64 a0.2.2]), (3, .box [dL ci64 a1]), (7, nI y4), (8, nI y7), (9, nI y8), (95, .bool x31)] → K30 σ' := by
                intro x31 h σ' hk
                unfold spec_IsValidJoinTree_J4 at h
                refine hK30 _ (ls_keep [(2, .box [nI a0.1, dL c195_d a0.2.1, dL ci64 a0.2.2]), (3, .box [dL ci64 a1]), (7, nI y4), (8, nI y7), (9, nI y8), (95, .bool x31)] hk rfl ?_)
                have kspec_IsValidJoinTree_J5 : ∀ (x32 : Int), spec_IsValidJoinTree_J5 (loopF (spec_IsValidJoinTree_B3 a0 a1 y4) m) y8 x32 = some o3 → ∀ σ' : PS, okK σ' [(2, .box [nI a0.1, dL c195_d a0.2.1, dL ci64 a0.2.2]), (3, .box [dL ci64 a1]), (7, nI y4), (8, nI x32), (9, nI y8)] → K29 σ' := by
                  intro x32 h σ' hk
                  unfold spec_IsValidJoinTree_J5 at h
                  refine hK29 _ (ls_keep [(2, .box [nI a0.1, dL c195_d a0.2.1, dL ci64 a0.2.2]), (3, .box [dL ci64 a1]), (7, nI y4), (8, nI x32), (9, nI y8)] hk rfl ?_)
                  refine ls_rgn tbOk ?_
                  refine evs (ev_mv (c := nI y8) rfl rfl rfl (evs (ev_bin (c1 := nI y8) (c2 := nI 1) rfl rfl rfl (evs (ev_as (c := nI (IntKind.i64.wrap (y8 + 1))) rfl rfl rfl (evn ?_))))))
                  exact hN _ (x32, (IntKind.i64.wrap (y8 + 1))) h ⟨kr, kr, kr, kr, kr, trivial⟩
                rcases cond_some h with ⟨g33, h⟩ | ⟨g33, h⟩
                · refine ls_cT rfl g33 ?_
                  refine ls_rgn tbOk ?_
                  refine evs (ev_mv (c := nI y7) rfl rfl rfl (evs (ev_bin (c1 := nI y7) (c2 := nI 1) rfl rfl rfl (evs (ev_as (c := nI (IntKind.i64.wrap (y7 + 1))) rfl rfl rfl (evn ?_))))))
                  exact kspec_IsValidJoinTree_J5 (IntKind.i64.wrap (y7 + 1)) h _ ⟨kr, kr, kr, kr, kr, trivial⟩
                · refine ls_cF rfl g33 ?_
                  refine ls_skip ?_
                  exact kspec_IsValidJoinTree_J5 y7 h _ ⟨kr, kr, kr, kr, kr, trivial⟩
              refine evd rfl rfl (ev_fa (c1 := .cref 2 0) (v := .cref 2 1) rfl rfl rfl ⟨_, rfl⟩ rfl (evd rfl rfl (ev_ldB (off := 1) (v := dL c195_d a0.2.1) rfl rfl rfl rfl (nb rfl) rfl (evd rfl rfl (ev_mv (c := nI y8) rfl rfl rfl (?_))))))
              obtain ⟨e34, g35, h⟩ := ob_some h
              refine evd rfl rfl (ev_ia rfl rfl rfl ⟨(geti_some g35).1, (geti_some g35).2.1⟩ (evd rfl rfl (ev_ldE (i := y8) (n := 2) (off := 0) (v := .agg (c195_d e34)) rfl rfl zc195_d g35 rfl (nb rfl) rfl (evd rfl rfl (ev_mv (c := nI y4) rfl rfl rfl (?_))))))
              obtain ⟨v36, g37, h⟩ := ob_some h
              refine evd rfl rfl (ev_call (era rfl (erg (erc rfl (erc (erD eci64 _) rfl))) (era rfl rfl eran)) (spec_ContainsVariable_s g37) (evd rfl rfl (ev_mv (c := .bool v36) rfl rfl rfl (?_))))
              rcases cond_some h with ⟨g38, h⟩ | ⟨g38, h⟩
              · refine evd rfl rfl (ev_gr rfl (congrArg V.bool g38) (ev_fa (c1 := .cref 3 0) (v := .cref 3 0) rfl rfl rfl ⟨_, rfl⟩ rfl (evd rfl rfl (ev_gr rfl (congrArg V.bool g38) (ev_ldB (off := 0) (v := dL ci64 a1) rfl rfl rfl rfl (nb rfl) rfl (evd rfl rfl (ev_gr rfl (congrArg V.bool g38) (ev_mv (c := nI y8) rfl rfl rfl (?_)))))))))
                obtain ⟨e39, g40, h⟩ := ob_some h
                refine evd rfl rfl (ev_gr rfl (congrArg V.bool g38) (ev_ia rfl rfl rfl ⟨(geti_some g40).1, (geti_some g40).2.1⟩ (evd rfl rfl (ev_gr rfl (congrArg V.bool g38) (ev_ldE (i := y8) (n := 1) (off := 0) (v := nI e39) rfl rfl zci64 g40 rfl (nb rfl) rfl (evd rfl rfl (ev_gr rfl (congrArg V.bool g38) (ev_bin (c1 := nI e39) (c2 := nI (-1)) rfl rfl rfl (evd rfl rfl (ev_gr rfl (congrArg V.bool g38) (ev_mv (c := .bool (e39 == (-1))) rfl rfl rfl (?_))))))))))))
                rcases cond_some h with ⟨g41, h⟩ | ⟨g41, h⟩
                · refine evd rfl rfl (ev_gs rfl rfl (isb_T g41) (evd rfl rfl (ev_gs rfl rfl (isb_T g41) (evd rfl rfl (ev_gs rfl rfl (isb_T g41) (evd rfl rfl (ev_gs rfl rfl (isb_T g41) (evd rfl rfl (ev_gs rfl rfl (isb_T g41) (evd rfl rfl (ev_gs rfl rfl (isb_T g41) (evd rfl rfl (ev_gs rfl rfl (isb_T g41) (evd rfl rfl (ev_gs rfl rfl (isb_T g41) (evd rfl rfl (ev_gs rfl rfl (isb_T g41) (evd rfl rfl (ev_gs rfl rfl (isb_T g41) (evd rfl rfl (ev_gs rfl rfl (isb_T g41) (evd rfl rfl (ev_gs rfl rfl (isb_T g41) (evd rfl rfl (ev_gr rfl (congrArg V.bool g38) (ev_pkT (c1 := .bool true) rfl g41 rfl rfl (evd rfl rfl (ev_pkT (c1 := .bool true) rfl g38 rfl rfl (evdn ?_)))))))))))))))))))))))))))))
                  exact kspec_IsValidJoinTree_J4 true h _ ⟨kr, kr, kr, kr, kr, kr, trivial⟩
                · refine evd rfl rfl (ev_gr rfl (congrArg V.bool g41) (ev_fa (c1 := .cref 2 0) (v := .cref 2 1) rfl rfl rfl ⟨_, rfl⟩ rfl (evd rfl rfl (ev_gr rfl (congrArg V.bool g41) (ev_ldB (off := 1) (v := dL c195_d a0.2.1) rfl rfl rfl rfl (nb rfl) rfl (evd rfl rfl (ev_gr rfl (congrArg V.bool g41) (ev_fa (c1 := .cref 3 0) (v := .cref 3 0) rfl rfl rfl ⟨_, rfl⟩ rfl (evd rfl rfl (ev_gr rfl (congrArg V.bool g41) (ev_ldB (off := 0) (v := dL ci64 a1) rfl rfl rfl rfl (nb rfl) rfl (evd rfl rfl (ev_gr rfl (congrArg V.bool g41) (ev_mv (c := nI y8) rfl rfl rfl (?_)))))))))))))))
                  obtain ⟨e42, g43, h⟩ := ob_some h
                  refine evd rfl rfl (ev_gr rfl (congrArg V.bool g41) (ev_ia rfl rfl rfl ⟨(geti_some g43).1, (geti_some g43).2.1⟩ (evd rfl rfl (ev_gr rfl (congrArg V.bool g41) (ev_ldE (i := y8) (n := 1) (off := 0) (v := nI e42) rfl rfl zci64 g43 rfl (nb rfl) rfl (?_))))))
                  obtain ⟨e44, g45, h⟩ := ob_some h
                  refine evd rfl rfl (ev_gr rfl (congrArg V.bool g41) (ev_ia rfl rfl rfl ⟨(geti_some g45).1, (geti_some g45).2.1⟩ (evd rfl rfl (ev_gr rfl (congrArg V.bool g41) (ev_ldE (i := e42) (n := 2) (off := 0) (v := .agg (c195_d e44)) rfl rfl zc195_d g45 rfl (nb rfl) rfl (evd rfl rfl (ev_gr rfl (congrArg V.bool g41) (ev_mv (c := nI y4) rfl rfl rfl (?_)))))))))
                  obtain ⟨v46, g47, h⟩ := ob_some h
                  refine evd rfl rfl (ev_gr rfl (congrArg V.bool g41) (ev_call (era rfl (erg (erc rfl (erc (erD eci64 _) rfl))) (era rfl rfl eran)) (spec_ContainsVariable_s g47) (evd rfl rfl (ev_gr rfl (congrArg V.bool g41) (ev_un (c1 := .bool v46) rfl trivial (evd rfl rfl (ev_gr rfl (congrArg V.bool g38) (ev_pkF (c1 := .bool (!v46)) rfl g41 rfl rfl (evd rfl rfl (ev_pkT (c1 := .bool (!v46)) rfl g38 rfl rfl (evdn ?_)))))))))))
                  exact kspec_IsValidJoinTree_J4 (!v46) h _ ⟨kr, kr, kr, kr, kr, kr, trivial⟩
              · refine evd rfl rfl (ev_gs rfl rfl (isb_F g38) (evd rfl rfl (ev_gs rfl rfl (isb_F g38) (evd rfl rfl (ev_gs rfl rfl (isb_F g38) (evd rfl rfl (ev_gs rfl rfl (isb_F g38) (evd rfl rfl (ev_gs rfl rfl (isb_F g38) (evd rfl rfl (ev_gs rfl rfl (isb_F g38) (evd rfl rfl (ev_gs rfl rfl (isb_F g38) (evd rfl rfl (ev_gs rfl rfl rfl (evd rfl rfl (ev_gs rfl rfl rfl (evd rfl rfl (ev_gs rfl rfl rfl (evd rfl rfl (ev_gs rfl rfl rfl (evd rfl rfl (ev_gs rfl rfl rfl (evd rfl rfl (ev_gs rfl rfl rfl (evd rfl rfl (ev_gs rfl rfl rfl (evd rfl rfl (ev_gs rfl rfl rfl (evd rfl rfl (ev_gs rfl rfl rfl (evd rfl rfl (ev_gs rfl rfl rfl (evd rfl rfl (ev_gs rfl rfl rfl (evd rfl rfl (ev_gs rfl rfl rfl (evd rfl rfl (ev_gs rfl rfl (isb_F g38) (evd rfl rfl (ev_pkF (c1 := .bool false) rfl g38 rfl rfl (evdn ?_))))))))))))))))))))))))))))))))))))))))))
                exact kspec_IsValidJoinTree_J4 false h _ ⟨kr, kr, kr, kr, kr, kr, trivial⟩
            · refine ls_cF rfl g28 ?_
              refine ls_exit ?_
              have q0 := (Option.some.inj h).symm
              have r0 := hr3
              rw [q0] at r0
              exact kXspec_IsValidJoinTree_B3 y7 r0 _ ⟨kr, kr, kr, kr, trivial⟩
          · refine ls_cF rfl g23 ?_
            refine ls_exit ?_
            have q0 := (Option.some.inj h).symm
            have r0 := hr2
            rw [q0] at r0
            exact kXspec_IsValidJoinTree_B2 () r0 _ trivial
        refine ls_rec (fun (y1 : Int) => [(2, .box [nI a0.1, dL c195_d a0.2.1, dL ci64 a0.2.2]), (3, .box [dL ci64 a1]), (5, nI y1)]) (spec_IsValidJoinTree_B1 a1) fz 0 o1 hl ⟨kr, kr, kr, trivial⟩ (fun _ => rfl) ?_
        rintro m y1 N h hN
        unfold spec_IsValidJoinTree_B1 at h
        refine ls_seq_k fun K10 hK10 => ?_
        refine ls_rs tbOk ?_
        refine evs (ev_mv (c := nI y1) rfl rfl rfl (evs (ev_fa (c1 := .cref 3 0) (v := .cref 3 0) rfl rfl rfl ⟨_, rfl⟩ rfl (evs (ev_ldB (off := 0) (v := dL ci64 a1) rfl rfl rfl rfl (nb rfl) rfl (evs (ev_len (c1 := dL ci64 a1) rfl rfl rfl (evs (ev_bin (c1 := nI y1) (c2 := nI (List.length a1 : Int)) rfl rfl rfl (evn ?_))))))))))
        refine ls_keep [(2, .box [nI a0.1, dL c195_d a0.2.1, dL ci64 a0.2.2]), (3, .box [dL ci64 a1]), (5, nI y1), (31, .bool (decide (y1 < (List.length a1 : Int))))] ⟨kr, kr, kr, kr, trivial⟩ rfl ?_
        rcases cond_some h with ⟨g11, h⟩ | ⟨g11, h⟩
        · refine ls_cT rfl g11 ?_
          refine ls_skip ?_
          refine hK10 _ (ls_keep [(2, .box [nI a0.1, dL c195_d a0.2.1, dL ci64 a0.2.2]), (3, .box [dL ci64 a1]), (5, nI y1)] ⟨kr, kr, kr, trivial⟩ rfl ?_)
          refine ls_seq_k fun K12 hK12 => ?_
          refine ls_blk ?_
          refine ls_rs tbOk ?_
          refine evs (ev_ldB (off := 0) (v := .agg [dL ci64 a1]) rfl rfl rfl rfl (nb rfl) rfl (evs (ev_mv (c := nI y1) rfl rfl rfl (?_))))
          obtain ⟨v13, g14, h⟩ := ob_some h
          refine evs (ev_call (era rfl (erg (erc (erD eci64 _) rfl)) (era rfl rfl eran)) (spec_l10Path_s g14) (evs (ev_as (c := oL 3 ci64 v13) rfl rfl rfl (evn ?_))))
          refine ls_keep [(2, .box [nI a0.1, dL c195_d a0.2.1, dL ci64 a0.2.2]), (3, .box [dL ci64 a1]), (5, nI y1), (6, oL 3 ci64 v13)] ⟨kr, kr, kr, kr, trivial⟩ rfl ?_
          refine ls_rd tbOk mixed (by kernel_rfl) ?_
          refine evd rfl rfl (ev_mv (c := oL 3 ci64 v13) rfl rfl rfl (evd rfl rfl (ev_len (c1 := dL ci64 v13) rfl rfl rfl (evd rfl rfl (ev_fa (c1 := .cref 3 0) (v := .cref 3 0) rfl rfl rfl ⟨_, rfl⟩ rfl (evd rfl rfl (ev_ldB (off := 0) (v := dL ci64 a1) rfl rfl rfl rfl (nb rfl) rfl (evd rfl rfl (ev_len (c1 := dL ci64 a1) rfl rfl rfl (evd rfl rfl (ev_bin (c1 := nI (List.length v13 : Int)) (c2 := nI (List.length a1 : Int)) rfl rfl rfl (evd rfl rfl (ev_mv (c := .bool (decide ((List.length a1 : Int) < (List.length v13 : Int)))) rfl rfl rfl (?_))))))))))))))
          rcases cond_some h with ⟨g15, h⟩ | ⟨g15, h⟩
          · refine evd rfl rfl (ev_gs rfl rfl (isb_T g15) (evd rfl rfl (ev_gs rfl rfl (isb_T g15) (evd rfl rfl (ev_gs rfl rfl (isb_T g15) (evd rfl rfl (ev_gs rfl rfl (isb_T g15) (evd rfl rfl (ev_gs rfl rfl (isb_T g15) (evd rfl rfl (ev_gs rfl rfl (isb_T g15) (evd rfl rfl (ev_gs rfl rfl (isb_T g15) (evd rfl rfl (ev_gs rfl rfl (isb_T g15) (evd rfl rfl (ev_gs rfl rfl (isb_T g15) (evd rfl rfl (ev_pkT (c1 := .bool true) rfl g15 rfl rfl (evdn ?_))))))))))))))))))))
            refine ls_keep [(2, .box [nI a0.1, dL c195_d a0.2.1, dL ci64 a0.2.2]), (3, .box [dL ci64 a1]), (5, nI y1), (53, .bool true)] ⟨kr, kr, kr, kr, trivial⟩ rfl ?_
            refine ls_cT rfl rfl ?_
            refine ls_rs tbOk ?_
            refine evs (ev_ac rfl nofun rfl (evn ?_))
            refine ls_keep [(4, .bool false)] ⟨kr, trivial⟩ rfl ?_
            refine ls_ret ?_
            have q0 := (Option.some.inj h).symm
            have r0 := hr1
            rw [q0] at r0
            have hr := Option.some.inj r0
            rw [← hr]
            exact ⟨.inl rfl, rfl⟩
          · refine evd rfl rfl (ev_gr rfl (congrArg V.bool g15) (ev_mv (c := oL 3 ci64 v13) rfl rfl rfl (evd rfl rfl (ev_gr rfl (congrArg V.bool g15) (ev_mv (c := oL 3 ci64 v13) rfl rfl rfl (evd rfl rfl (ev_gr rfl (congrArg V.bool g15) (ev_len (c1 := dL ci64 v13) rfl rfl rfl (evd rfl rfl (ev_gr rfl (congrArg V.bool g15) (ev_bin (c1 := nI (List.length v13 : Int)) (c2 := nI 1) rfl rfl rfl (?_))))))))))))
            obtain ⟨e16, g17, h⟩ := ob_some h
            refine evd rfl rfl (ev_gr rfl (congrArg V.bool g15) (ev_ia rfl rfl rfl ⟨(geti_some g17).1, (geti_some g17).2.1⟩ (evd rfl rfl (ev_gr rfl (congrArg V.bool g15) (ev_ldE (i := (IntKind.i64.wrap ((List.length v13 : Int) - 1))) (n := 1) (off := 0) (v := nI e16) rfl rfl zci64 g17 rfl (nb rfl) rfl (evd rfl rfl (ev_gr rfl (congrArg V.bool g15) (ev_ldB (off := 0) (v := .agg [dL ci64 a1]) rfl rfl rfl rfl (nb rfl) rfl (?_)))))))))
            obtain ⟨v18, g19, h⟩ := ob_some h
            refine evd rfl rfl (ev_gr rfl (congrArg V.bool g15) (ev_call (era rfl (erg (erc (erD eci64 _) rfl)) eran) (spec_JoinTreeRoot_s g19) (evd rfl rfl (ev_gr rfl (congrArg V.bool g15) (ev_bin (c1 := nI e16) (c2 := nI v18) rfl rfl rfl (evd rfl rfl (ev_pkF (c1 := .bool (e16 != v18)) rfl g15 rfl rfl (evdn ?_))))))))
            refine ls_keep [(2, .box [nI a0.1, dL c195_d a0.2.1, dL ci64 a0.2.2]), (3, .box [dL ci64 a1]), (5, nI y1), (53, .bool (e16 != v18))] ⟨kr, kr, kr, kr, trivial⟩ rfl ?_
            rcases cond_some h with ⟨g20, h⟩ | ⟨g20, h⟩
            · refine ls_cT rfl g20 ?_
              refine ls_rs tbOk ?_
              refine evs (ev_ac rfl nofun rfl (evn ?_))
              refine ls_keep [(4, .bool false)] ⟨kr, trivial⟩ rfl ?_
              refine ls_ret ?_
              have q0 := (Option.some.inj h).symm
              have r0 := hr1
              rw [q0] at r0
              have hr := Option.some.inj r0
              rw [← hr]
              exact ⟨.inl rfl, rfl⟩
            · refine ls_cF rfl g20 ?_
              refine ls_skip ?_
              refine hK12 _ (ls_keep [(2, .box [nI a0.1, dL c195_d a0.2.1, dL ci64 a0.2.2]), (3, .box [dL ci64 a1]), (5, nI y1)] ⟨kr, kr, kr, trivial⟩ rfl ?_)
              refine ls_rgn tbOk ?_
              refine evs (ev_mv (c := nI y1) rfl rfl rfl (evs (ev_bin (c1 := nI y1) (c2 := nI 1) rfl rfl rfl (evs (ev_as (c := nI (IntKind.i64.wrap (y1 + 1))) rfl rfl rfl (evn ?_))))))
              exact hN _ (IntKind.i64.wrap (y1 + 1)) h ⟨kr, kr, kr, trivial⟩
        · refine ls_cF rfl g11 ?_
          refine ls_exit ?_
          have q0 := (Option.some.inj h).symm
          have r0 := hr1
          rw [q0] at r0
          exact kXspec_IsValidJoinTree_B1 () r0 _ ⟨kr, kr, trivial⟩
def spec_l30Bag_J2 (rec : Int → Option (Sum (Unit) (Bool))) (y1 : Int) (x6 : Bool) : Option (Sum (Unit) (Bool)) := cond x6 (some (.inr false)) (rec (IntKind.i64.wrap (y1 + 1)))
def spec_l30Bag_B1 (a0 : Y91) (a1 : List Int) (rec : Int → Option (Sum (Unit) (Bool))) (y1 : Int) : Option (Sum (Unit) (Bool)) := cond (decide (y1 < (List.length a1 : Int))) (obind (geti a1 y1) fun e8 => obind (spec_l1In e8 0 (IntKind.i64.wrap (a0.1 - 1))) fun v10 => cond (!v10) (spec_l30Bag_J2 rec y1 true) (cond (decide (0 < y1)) (obind (geti a1 y1) fun e14 => obind (geti a1 (IntKind.i64.wrap (y1 - 1))) fun e16 => spec_l30Bag_J2 rec y1 (decide (e14 ≤ e16))) (spec_l30Bag_J2 rec y1 false))) (some (.inl ()))
def spec_l30Bag (a0 : Y91) (a1 : List Int) : Option (Bool) := obind (loopF (spec_l30Bag_B1 a0 a1) fz 0) fun o1 => (match o1 with
  | .inl _ => (some (decide (0 < (List.length a1 : Int))))
  | .inr r => some r)
theorem spec_l30Bag_s {a0 : Y91} {a1 : List Int} {r : Bool} (h : spec_l30Bag a0 a1 = some r) : SoundAt Try.prog 203 [.agg (c92_ddd a0), dL ci64 a1] (.bool r) := by
  unfold spec_l30Bag at h
  refine sound_lit tbOk lit203 (nb rfl) rfl ?_
  unfold c203
  refine ls_keep [(0, .agg (c92_ddd a0)), (1, dL ci64 a1)] ⟨kr, kr, trivial⟩ rfl ?_
  refine ls_rs tbOk ?_
  refine evs (ev_bx (c1 := .agg (c92_ddd a0)) rfl rfl rfl (evs (ev_ac rfl nofun rfl (evn ?_))))
  refine ls_keep [(1, dL ci64 a1), (2, .box [nI a0.1, dL c195_d a0.2.1, dL ci64 a0.2.2])] ⟨kr, kr, trivial⟩ rfl ?_
  refine ls_seq_k fun K1 hK1 => ?_
  refine ls_rs tbOk ?_
  refine evs (ev_ac rfl nofun rfl (evn ?_))
  refine ls_keep [(1, dL ci64 a1), (2, .box [nI a0.1, dL c195_d a0.2.1, dL ci64 a0.2.2]), (5, nI 0)] ⟨kr, kr, kr, trivial⟩ rfl ?_
  obtain ⟨o1, hl, hr1⟩ := ob_some h
  clear h
  have kXspec_l30Bag_B1 : ∀ (_ : Unit), (some (decide (0 < (List.length a1 : Int)))) = some r → ∀ σ' : PS, okK σ' [(1, dL ci64 a1)] → K1 σ' := by
    intro _ h σ' hk
    refine hK1 _ (ls_keep [(1, dL ci64 a1)] hk rfl ?_)
    refine ls_rs tbOk ?_
    refine evs (ev_mv (c := dL ci64 a1) rfl rfl rfl (evs (ev_len (c1 := dL ci64 a1) rfl rfl rfl (evs (ev_bin (c1 := nI (List.length a1 : Int)) (c2 := nI 0) rfl rfl rfl (evs (ev_as (c := .bool (decide (0 < (List.length a1 : Int)))) rfl rfl rfl (evn ?_))))))))
    refine ls_keep [(4, .bool (decide (0 < (List.length a1 : Int))))] ⟨kr, trivial⟩ rfl ?_
    refine ls_ret ?_
    have hr := Option.some.inj h
    rw [← hr]
    exact ⟨.inl rfl, rfl⟩
  refine ls_rec (fun (y1 : Int) => [(1, dL ci64 a1), (2, .box [nI a0.1, dL c195_d a0.2.1, dL ci64 a0.2.2]), (5, nI y1)]) (spec_l30Bag_B1 a0 a1) fz 0 o1 hl ⟨kr, kr, kr, trivial⟩ (fun _ => rfl) ?_
  rintro m y1 N h hN
  unfold spec_l30Bag_B1 at h
  refine ls_seq_k fun K2 hK2 => ?_
  refine ls_rs tbOk ?_
  refine evs (ev_mv (c := nI y1) rfl rfl rfl (evs (ev_mv (c := dL ci64 a1) rfl rfl rfl (evs (ev_len (c1 := dL ci64 a1) rfl rfl rfl (evs (ev_bin (c1 := nI y1) (c2 := nI (List.length a1 : Int)) rfl rfl rfl (evn ?_))))))))
  refine ls_keep [(1, dL ci64 a1), (2, .box [nI a0.1, dL c195_d a0.2.1, dL ci64 a0.2.2]), (5, nI y1), (9, .bool (decide (y1 < (List.length a1 : Int))))] ⟨kr, kr, kr, kr, trivial⟩ rfl ?_
  rcases cond_some h with ⟨g3, h⟩ | ⟨g3, h⟩
  · refine ls_cT rfl g3 ?_
    refine ls_skip ?_
    refine hK2 _ (ls_keep [(1, dL ci64 a1), (2, .box [nI a0.1, dL c195_d a0.2.1, dL ci64 a0.2.2]), (5, nI y1)] ⟨kr, kr, kr, trivial⟩ rfl ?_)
    refine ls_seq_k fun K4 hK4 => ?_
    refine ls_blk ?_
    refine ls_rd_k tbOk mixed (by kernel_rfl) fun K5 hK5 => ?_
    have kspec_l30Bag_J2 : ∀ (x6 : Bool), spec_l30Bag_J2 (loopF (spec_l30Bag_B1 a0 a1) m) y1 x6 = some o1 → ∀ σ' : PS, okK σ' [(1, dL ci64 a1), (2, .box [nI a0.1, dL c195_d a0.2.1, dL ci64 a0.2.2]), (5, nI y1), (36, .bool x6)] → K5 σ' := by
      intro x6 h σ' hk
      unfold spec_l30Bag_J2 at h
      refine hK5 _ (ls_keep [(1, dL ci64 a1), (2, .box [nI a0.1, dL c195_d a0.2.1, dL ci64 a0.2.2]), (5, nI y1), (36, .bool x6)] hk rfl ?_)
      rcases cond_some h with ⟨g7, h⟩ | ⟨g7, h⟩
      · refine ls_cT rfl g7 ?_
        refine ls_rs tbOk ?_
        refine evs (ev_ac rfl nofun rfl (evn ?_))
        refine ls_keep [(4, .bool false)] ⟨kr, trivial⟩ rfl ?_
        refine ls_ret ?_
        have q0 := (Option.some.inj h).symm
        have r0 := hr1
        rw [q0] at r0
        have hr := Option.some.inj r0
        rw [← hr]
        exact ⟨.inl rfl, rfl⟩
      · refine ls_cF rfl g7 ?_
        refine ls_skip ?_
        refine hK4 _ (ls_keep [(1, dL ci64 a1), (2, .box [nI a0.1, dL c195_d a0.2.1, dL ci64 a0.2.2]), (5, nI y1)] ⟨kr, kr, kr, trivial⟩ rfl ?_)
        refine ls_rgn tbOk ?_
        refine evs (ev_mv (c := nI y1) rfl rfl rfl (evs (ev_bin (c1 := nI y1) (c2 := nI 1) rfl rfl rfl (evs (ev_as (c := nI (IntKind.i64.wrap (y1 + 1))) rfl rfl rfl (evn ?_))))))
        exact hN _ (IntKind.i64.wrap (y1 + 1)) h ⟨kr, kr, kr, trivial⟩
    refine evd rfl rfl (ev_mv (c := dL ci64 a1) rfl rfl rfl (evd rfl rfl (ev_mv (c := nI y1) rfl rfl rfl (?_))))
    obtain ⟨e8, g9, h⟩ := ob_some h
    refine evd rfl rfl (ev_ia rfl rfl rfl ⟨(geti_some g9).1, (geti_some g9).2.1⟩ (evd rfl rfl (ev_ldE (i := y1) (n := 1) (off := 0) (v := nI e8) rfl rfl zci64 g9 rfl (nb rfl) rfl (evd rfl rfl (ev_fa (c1 := .cref 2 0) (v := .cref 2 0) rfl rfl rfl ⟨_, rfl⟩ rfl (evd rfl rfl (ev_ldB (off := 0) (v := nI a0.1) rfl rfl rfl rfl (nb rfl) rfl (evd rfl rfl (ev_bin (c1 := nI a0.1) (c2 := nI 1) rfl rfl rfl (?_))))))))))
    obtain ⟨v10, g11, h⟩ := ob_some h
    refine evd rfl rfl (ev_call (era rfl rfl (era rfl rfl (era rfl rfl eran))) (spec_l1In_s g11) (evd rfl rfl (ev_un (c1 := .bool v10) rfl trivial (evd rfl rfl (ev_mv (c := .bool (!v10)) rfl rfl rfl (?_))))))
    rcases cond_some h with ⟨g12, h⟩ | ⟨g12, h⟩
    · refine evd rfl rfl (ev_gs rfl rfl (isb_T g12) (evd rfl rfl (ev_gs rfl rfl (isb_T g12) (evd rfl rfl (ev_gs rfl rfl (isb_T g12) (evd rfl rfl (ev_gs rfl rfl rfl (evd rfl rfl (ev_gs rfl rfl rfl (evd rfl rfl (ev_gs rfl rfl rfl (evd rfl rfl (ev_gs rfl rfl rfl (evd rfl rfl (ev_gs rfl rfl rfl (evd rfl rfl (ev_gs rfl rfl rfl (evd rfl rfl (ev_gs rfl rfl rfl (evd rfl rfl (ev_gs rfl rfl rfl (evd rfl rfl (ev_gs rfl rfl rfl (evd rfl rfl (ev_gs rfl rfl rfl (evd rfl rfl (ev_gs rfl rfl (isb_T g12) (evd rfl rfl (ev_pkT (c1 := .bool true) rfl g12 rfl rfl (evdn ?_))))))))))))))))))))))))))))))
      exact kspec_l30Bag_J2 true h _ ⟨kr, kr, kr, kr, trivial⟩
    · refine evd rfl rfl (ev_gr rfl (congrArg V.bool g12) (ev_mv (c := nI y1) rfl rfl rfl (evd rfl rfl (ev_gr rfl (congrArg V.bool g12) (ev_bin (c1 := nI y1) (c2 := nI 0) rfl rfl rfl (evd rfl rfl (ev_gr rfl (congrArg V.bool g12) (ev_mv (c := .bool (decide (0 < y1))) rfl rfl rfl (?_)))))))))
      rcases cond_some h with ⟨g13, h⟩ | ⟨g13, h⟩
      · refine evd rfl rfl (ev_gr rfl (congrArg V.bool g13) (ev_mv (c := dL ci64 a1) rfl rfl rfl (evd rfl rfl (ev_gr rfl (congrArg V.bool g13) (ev_mv (c := nI y1) rfl rfl rfl (?_))))))
        obtain ⟨e14, g15, h⟩ := ob_some h
        refine evd rfl rfl (ev_gr rfl (congrArg V.bool g13) (ev_ia rfl rfl rfl ⟨(geti_some g15).1, (geti_some g15).2.1⟩ (evd rfl rfl (ev_gr rfl (congrArg V.bool g13) (ev_ldE (i := y1) (n := 1) (off := 0) (v := nI e14) rfl rfl zci64 g15 rfl (nb rfl) rfl (evd rfl rfl (ev_gr rfl (congrArg V.bool g13) (ev_mv (c := dL ci64 a1) rfl rfl rfl (evd rfl rfl (ev_gr rfl (congrArg V.bool g13) (ev_mv (c := nI y1) rfl rfl rfl (evd rfl rfl (ev_gr rfl (congrArg V.bool g13) (ev_bin (c1 := nI y1) (c2 := nI 1) rfl rfl rfl (?_)))))))))))))))
        obtain ⟨e16, g17, h⟩ := ob_some h
        refine evd rfl rfl (ev_gr rfl (congrArg V.bool g13) (ev_ia rfl rfl rfl ⟨(geti_some g17).1, (geti_some g17).2.1⟩ (evd rfl rfl (ev_gr rfl (congrArg V.bool g13) (ev_ldE (i := (IntKind.i64.wrap (y1 - 1))) (n := 1) (off := 0) (v := nI e16) rfl rfl zci64 g17 rfl (nb rfl) rfl (evd rfl rfl (ev_gr rfl (congrArg V.bool g13) (ev_bin (c1 := nI e14) (c2 := nI e16) rfl rfl rfl (evd rfl rfl (ev_gr rfl (congrArg V.bool g12) (ev_pkT (c1 := .bool (decide (e14 ≤ e16))) rfl g13 rfl rfl (evd rfl rfl (ev_pkF (c1 := .bool (decide (e14 ≤ e16))) rfl g12 rfl rfl (evdn ?_))))))))))))))
        exact kspec_l30Bag_J2 (decide (e14 ≤ e16)) h _ ⟨kr, kr, kr, kr, trivial⟩
      · refine evd rfl rfl (ev_gs rfl rfl (isb_F g13) (evd rfl rfl (ev_gs rfl rfl (isb_F g13) (evd rfl rfl (ev_gs rfl rfl (isb_F g13) (evd rfl rfl (ev_gs rfl rfl (isb_F g13) (evd rfl rfl (ev_gs rfl rfl (isb_F g13) (evd rfl rfl (ev_gs rfl rfl (isb_F g13) (evd rfl rfl (ev_gs rfl rfl (isb_F g13) (evd rfl rfl (ev_gs rfl rfl (isb_F g13) (evd rfl rfl (ev_gs rfl rfl (isb_F g13) (evd rfl rfl (ev_gs rfl rfl (isb_F g13) (evd rfl rfl (ev_gr rfl (congrArg V.bool g12) (ev_pkF (c1 := .bool false) rfl g13 rfl rfl (evd rfl rfl (ev_pkF (c1 := .bool false) rfl g12 rfl rfl (evdn ?_)))))))))))))))))))))))))
        exact kspec_l30Bag_J2 false h _ ⟨kr, kr, kr, kr, trivial⟩
  · refine ls_cF rfl g3 ?_
    refine ls_exit ?_
    have q0 := (Option.some.inj h).symm
    have r0 := hr1
    rw [q0] at r0
    exact kXspec_l30Bag_B1 () r0 _ ⟨kr, trivial⟩
def spec_l30Within_B1 (a0 : Y194) (a1 : List Int) (rec : Int → Option (Sum (Unit) (Bool))) (y1 : Int) : Option (Sum (Unit) (Bool)) := cond (decide (y1 < (List.length a0.2 : Int))) (obind (geti a0.2 y1) fun e5 => obind (spec_l7Find a1 e5) fun v7 => cond (decide (v7 < 0)) (some (.inr false)) (rec (IntKind.i64.wrap (y1 + 1)))) (some (.inl ()))
def spec_l30Within (a0 : Y194) (a1 : List Int) : Option (Bool) := obind (loopF (spec_l30Within_B1 a0 a1) fz 0) fun o1 => (match o1 with
  | .inl _ => (some true)
  | .inr r => some r)
theorem spec_l30Within_s {a0 : Y194} {a1 : List Int} {r : Bool} (h : spec_l30Within a0 a1 = some r) : SoundAt Try.prog 204 [.agg (c195_d a0), dL ci64 a1] (.bool r) := by
  unfold spec_l30Within at h
  refine sound_lit tbOk lit204 (nb rfl) rfl ?_
  unfold c204
  refine ls_keep [(0, .agg (c195_d a0)), (1, dL ci64 a1)] ⟨kr, kr, trivial⟩ rfl ?_
  refine ls_rs tbOk ?_
  refine evs (ev_bx (c1 := .agg (c195_d a0)) rfl rfl rfl (evs (ev_ac rfl nofun rfl (evn ?_))))
  refine ls_keep [(1, dL ci64 a1), (2, .box [.str a0.1, dL ci64 a0.2])] ⟨kr, kr, trivial⟩ rfl ?_
  refine ls_seq_k fun K1 hK1 => ?_
  refine ls_rs tbOk ?_
  refine evs (ev_ac rfl nofun rfl (evn ?_))
  refine ls_keep [(1, dL ci64 a1), (2, .box [.str a0.1, dL ci64 a0.2]), (5, nI 0)] ⟨kr, kr, kr, trivial⟩ rfl ?_
  obtain ⟨o1, hl, hr1⟩ := ob_some h
  clear h
  have kXspec_l30Within_B1 : ∀ (_ : Unit), (some true) = some r → ∀ σ' : PS, okK σ' [] → K1 σ' := by
    intro _ h σ' hk
    refine hK1 _ (ls_keep [] hk rfl ?_)
    refine ls_rs tbOk ?_
    refine evs (ev_ac rfl nofun rfl (evn ?_))
    refine ls_keep [(4, .bool true)] ⟨kr, trivial⟩ rfl ?_
    refine ls_ret ?_
    have hr := Option.some.inj h
    rw [← hr]
    exact ⟨.inl rfl, rfl⟩
  refine ls_rec (fun (y1 : Int) => [(1, dL ci64 a1), (2, .box [.str a0.1, dL ci64 a0.2]), (5, nI y1)]) (spec_l30Within_B1 a0 a1) fz 0 o1 hl ⟨kr, kr, kr, trivial⟩ (fun _ => rfl) ?_
  rintro m y1 N h hN
  unfold spec_l30Within_B1 at h
  refine ls_seq_k fun K2 hK2 => ?_
  refine ls_rs tbOk ?_
  refine evs (ev_mv (c := nI y1) rfl rfl rfl (evs (ev_fa (c1 := .cref 2 0) (v := .cref 2 1) rfl rfl rfl ⟨_, rfl⟩ rfl (evs (ev_ldB (off := 1) (v := dL ci64 a0.2) rfl rfl rfl rfl (nb rfl) rfl (evs (ev_len (c1 := dL ci64 a0.2) rfl rfl rfl (evs (ev_bin (c1 := nI y1) (c2 := nI (List.length a0.2 : Int)) rfl rfl rfl (evn ?_))))))))))
  refine ls_keep [(1, dL ci64 a1), (2, .box [.str a0.1, dL ci64 a0.2]), (5, nI y1), (10, .bool (decide (y1 < (List.length a0.2 : Int))))] ⟨kr, kr, kr, kr, trivial⟩ rfl ?_
  rcases cond_some h with ⟨g3, h⟩ | ⟨g3, h⟩
  · refine ls_cT rfl g3 ?_
    refine ls_skip ?_
    refine hK2 _ (ls_keep [(1, dL ci64 a1), (2, .box [.str a0.1, dL ci64 a0.2]), (5, nI y1)] ⟨kr, kr, kr, trivial⟩ rfl ?_)
    refine ls_seq_k fun K4 hK4 => ?_
    refine ls_blk ?_
    refine ls_rs tbOk ?_
    refine evs (ev_mv (c := dL ci64 a1) rfl rfl rfl (evs (ev_fa (c1 := .cref 2 0) (v := .cref 2 1) rfl rfl rfl ⟨_, rfl⟩ rfl (evs (ev_ldB (off := 1) (v := dL ci64 a0.2) rfl rfl rfl rfl (nb rfl) rfl (evs (ev_mv (c := nI y1) rfl rfl rfl (?_))))))))
    obtain ⟨e5, g6, h⟩ := ob_some h
    refine evs (ev_ia rfl rfl rfl ⟨(geti_some g6).1, (geti_some g6).2.1⟩ (evs (ev_ldE (i := y1) (n := 1) (off := 0) (v := nI e5) rfl rfl zci64 g6 rfl (nb rfl) rfl (?_))))
    obtain ⟨v7, g8, h⟩ := ob_some h
    refine evs (ev_call (era rfl (erD eci64 _) (era rfl rfl eran)) (spec_l7Find_s g8) (evs (ev_bin (c1 := nI v7) (c2 := nI 0) rfl rfl rfl (evn ?_))))
    refine ls_keep [(1, dL ci64 a1), (2, .box [.str a0.1, dL ci64 a0.2]), (5, nI y1), (20, .bool (decide (v7 < 0)))] ⟨kr, kr, kr, kr, trivial⟩ rfl ?_
    rcases cond_some h with ⟨g9, h⟩ | ⟨g9, h⟩
    · refine ls_cT rfl g9 ?_
      refine ls_rs tbOk ?_
      refine evs (ev_ac rfl nofun rfl (evn ?_))
      refine ls_keep [(4, .bool false)] ⟨kr, trivial⟩ rfl ?_
      refine ls_ret ?_
      have q0 := (Option.some.inj h).symm
      have r0 := hr1
      rw [q0] at r0
      have hr := Option.some.inj r0
      rw [← hr]
      exact ⟨.inl rfl, rfl⟩
    · refine ls_cF rfl g9 ?_
      refine ls_skip ?_
      refine hK4 _ (ls_keep [(1, dL ci64 a1), (2, .box [.str a0.1, dL ci64 a0.2]), (5, nI y1)] ⟨kr, kr, kr, trivial⟩ rfl ?_)
      refine ls_rgn tbOk ?_
      refine evs (ev_mv (c := nI y1) rfl rfl rfl (evs (ev_bin (c1 := nI y1) (c2 := nI 1) rfl rfl rfl (evs (ev_as (c := nI (IntKind.i64.wrap (y1 + 1))) rfl rfl rfl (evn ?_))))))
      exact hN _ (IntKind.i64.wrap (y1 + 1)) h ⟨kr, kr, kr, trivial⟩
  · refine ls_cF rfl g3 ?_
    refine ls_exit ?_
    have q0 := (Option.some.inj h).symm
    have r0 := hr1
    rw [q0] at r0
    exact kXspec_l30Within_B1 () r0 _ trivial
def spec_IsValidDecomposition_B1 (a0 : Y91) (a1 : Y83) (rec : Int → Option (Sum (Unit) (Bool))) (y1 : Int) : Option (Sum (Unit) (Bool)) := cond (decide (y1 < (List.length a1.1 : Int))) (obind (spec_l10Path a1.2 y1) fun v13 => obind (geti a1.1 y1) fun e15 => obind (spec_l30Bag a0 e15) fun v17 => cond (!v17) (some (.inr false)) (cond (decide ((List.length a1.2 : Int) < (List.length v13 : Int))) (some (.inr false)) (obind (geti v13 (IntKind.i64.wrap ((List.length v13 : Int) - 1))) fun e21 => obind (spec_JoinTreeRoot a1.2) fun v23 => cond (e21 != v23) (some (.inr false)) (rec (IntKind.i64.wrap (y1 + 1)))))) (some (.inl ()))
def spec_IsValidDecomposition_J4 (rec : (Bool × Int) → Option (Bool)) (y8 : Int) (x35 : Bool) : Option (Bool) := rec (x35, (IntKind.i64.wrap (y8 + 1)))
def spec_IsValidDecomposition_B3 (a0 : Y91) (a1 : Y83) (y4 : Int) (rec : (Bool × Int) → Option (Bool)) (s : Bool × Int) : Option (Bool) := match s with
  | (y7, y8) => cond (decide (y8 < (List.length a1.1 : Int))) (cond y7 (spec_IsValidDecomposition_J4 rec y8 true) (obind (geti a0.2.1 y4) fun e37 => obind (geti a1.1 y8) fun e39 => obind (spec_l30Within e37 e39) fun v41 => spec_IsValidDecomposition_J4 rec y8 v41)) (some y7)
def spec_IsValidDecomposition_B2 (a0 : Y91) (a1 : Y83) (rec : Int → Option (Sum (Unit) (Bool))) (y4 : Int) : Option (Sum (Unit) (Bool)) := cond (decide (y4 < (List.length a0.2.1 : Int))) (obind (loopF (spec_IsValidDecomposition_B3 a0 a1 y4) fz (false, 0)) fun z31 => cond (!z31) (some (.inr false)) (rec (IntKind.i64.wrap (y4 + 1)))) (some (.inl ()))
def spec_IsValidDecomposition_J8 (rec : (Int × Int) → Option (Int)) (y15 : Int) (x55 : Int) : Option (Int) := rec (x55, (IntKind.i64.wrap (y15 + 1)))
def spec_IsValidDecomposition_J7 (rec : (Int × Int) → Option (Int)) (y14 : Int) (y15 : Int) (x54 : Bool) : Option (Int) := cond x54 (spec_IsValidDecomposition_J8 rec y15 (IntKind.i64.wrap (y14 + 1))) (spec_IsValidDecomposition_J8 rec y15 y14)
def spec_IsValidDecomposition_B6 (a1 : Y83) (y11 : Int) (rec : (Int × Int) → Option (Int)) (s : Int × Int) : Option (Int) := match s with
  | (y14, y15) => cond (decide (y15 < (List.length a1.1 : Int))) (obind (geti a1.1 y15) fun e57 => obind (spec_l7Find e57 y11) fun v59 => cond (decide (0 ≤ v59)) (obind (geti a1.2 y15) fun e62 => cond (e62 == (-1)) (spec_IsValidDecomposition_J7 rec y14 y15 true) (obind (geti a1.2 y15) fun e65 => obind (geti a1.1 e65) fun e67 => obind (spec_l7Find e67 y11) fun v69 => spec_IsValidDecomposition_J7 rec y14 y15 (decide (v69 < 0)))) (spec_IsValidDecomposition_J7 rec y14 y15 false)) (some y14)
def spec_IsValidDecomposition_B5 (a0 : Y91) (a1 : Y83) (rec : Int → Option (Sum (Unit) (Bool))) (y11 : Int) : Option (Sum (Unit) (Bool)) := cond (decide (y11 < a0.1)) (obind (loopF (spec_IsValidDecomposition_B6 a1 y11) fz (0, 0)) fun z49 => cond (z49 != 1) (some (.inr false)) (rec (IntKind.i64.wrap (y11 + 1)))) (some (.inl ()))
def spec_IsValidDecomposition (a0 : Y91) (a1 : Y83) : Option (Bool) := obind (spec_IsValidQuery a0) fun v2 => cond (!v2) (some false) (cond ((List.length a1.2 : Int) != (List.length a1.1 : Int)) (some false) (obind (spec_JoinTreeRoot a1.2) fun v6 => cond (decide (v6 < 0)) (some false) (obind (loopF (spec_IsValidDecomposition_B1 a0 a1) fz 0) fun o1 => (match o1 with
  | .inl _ => (obind (loopF (spec_IsValidDecomposition_B2 a0 a1) fz 0) fun o2 => (match o2 with
  | .inl _ => (obind (loopF (spec_IsValidDecomposition_B5 a0 a1) fz 0) fun o5 => (match o5 with
  | .inl _ => (some true)
  | .inr r => some r))
  | .inr r => some r))
  | .inr r => some r))))
theorem spec_IsValidDecomposition_s {a0 : Y91} {a1 : Y83} {r : Bool} (h : spec_IsValidDecomposition a0 a1 = some r) : SoundAt Try.prog 124 [.agg (c92_ddd a0), .agg (c95_ddd a1)] (.bool r) := by
  unfold spec_IsValidDecomposition at h
  refine sound_lit tbOk lit124 (nb rfl) rfl ?_
  unfold c124
  refine ls_keep [(0, .agg (c92_ddd a0)), (1, .agg (c95_ddd a1))] ⟨kr, kr, trivial⟩ rfl ?_
  refine ls_rs tbOk ?_
  refine evs (ev_bx (c1 := .agg (c92_ddd a0)) rfl rfl rfl (evs (ev_bx (c1 := .agg (c95_ddd a1)) rfl rfl rfl (evs (ev_ac rfl nofun rfl (evn ?_))))))
  refine ls_keep [(2, .box [nI a0.1, dL c195_d a0.2.1, dL ci64 a0.2.2]), (3, .box [dL c25_d a1.1, dL ci64 a1.2])] ⟨kr, kr, trivial⟩ rfl ?_
  refine ls_rs tbOk ?_
  refine evs (ev_fa (c1 := .cref 3 0) (v := .cref 3 1) rfl rfl rfl ⟨_, rfl⟩ rfl (evs (ev_ldB (off := 1) (v := dL ci64 a1.2) rfl rfl rfl rfl (nb rfl) rfl (evs (ev_bd [dL ci64 a1.2] (cs := [dL ci64 a1.2]) rfl ⟨rfl, trivial⟩ rfl (evs (ev_al rfl rfl (evs (ev_st (off := 0) (c1 := .agg [dL ci64 a1.2]) (cs' := [dL ci64 a1.2]) rfl rfl rfl rfl rfl rfl (nb rfl) rfl (evn ?_))))))))))
  refine ls_keep [(2, .box [nI a0.1, dL c195_d a0.2.1, dL ci64 a0.2.2]), (3, .box [dL c25_d a1.1, dL ci64 a1.2]), (5, .box [dL ci64 a1.2])] ⟨kr, kr, kr, trivial⟩ rfl ?_
  refine ls_seq_k fun K1 hK1 => ?_
  refine ls_rs tbOk ?_
  refine evs (ev_ldB (off := 0) (v := .agg (c92_ddd a0)) rfl rfl rfl rfl (nb rfl) rfl (?_))
  obtain ⟨v2, g3, h⟩ := ob_some h
  refine evs (ev_call (era rfl (erg (erc rfl (erc (erD ec195_d _) (erc (erD eci64 _) rfl)))) eran) (spec_IsValidQuery_s g3) (evs (ev_un (c1 := .bool v2) rfl trivial (evs (ev_mv (c := .bool (!v2)) rfl rfl rfl (?_))))))
  rcases cond_some h with ⟨g4, h⟩ | ⟨g4, h⟩
  · refine evs (ev_gs rfl rfl (isb_T g4) (evs (ev_gs rfl rfl (isb_T g4) (evs (ev_gs rfl rfl (isb_T g4) (evs (ev_gs rfl rfl (isb_T g4) (evs (ev_gs rfl rfl (isb_T g4) (evs (ev_gs rfl rfl (isb_T g4) (evs (ev_gs rfl rfl (isb_T g4) (evs (ev_pkT (c1 := .bool true) rfl g4 rfl rfl (evs (ev_mv (c := .bool true) rfl rfl rfl (evs (ev_gs rfl rfl rfl (evs (ev_gs rfl rfl rfl (evs (ev_gs rfl rfl rfl (evs (ev_pkT (c1 := .bool true) rfl rfl rfl rfl (evn ?_))))))))))))))))))))))))))
    refine ls_keep [(2, .box [nI a0.1, dL c195_d a0.2.1, dL ci64 a0.2.2]), (3, .box [dL c25_d a1.1, dL ci64 a1.2]), (5, .box [dL ci64 a1.2]), (33, .bool true)] ⟨kr, kr, kr, kr, trivial⟩ rfl ?_
    refine ls_cT rfl rfl ?_
    refine ls_rs tbOk ?_
    refine evs (ev_ac rfl nofun rfl (evn ?_))
    refine ls_keep [(4, .bool false)] ⟨kr, trivial⟩ rfl ?_
    refine ls_ret ?_
    have hr := Option.some.inj h
    rw [← hr]
    exact ⟨.inl rfl, rfl⟩
  · refine evs (ev_gr rfl (congrArg V.bool g4) (ev_fa (c1 := .cref 3 0) (v := .cref 3 1) rfl rfl rfl ⟨_, rfl⟩ rfl (evs (ev_gr rfl (congrArg V.bool g4) (ev_ldB (off := 1) (v := dL ci64 a1.2) rfl rfl rfl rfl (nb rfl) rfl (evs (ev_gr rfl (congrArg V.bool g4) (ev_len (c1 := dL ci64 a1.2) rfl rfl rfl (evs (ev_gr rfl (congrArg V.bool g4) (ev_fa (c1 := .cref 3 0) (v := .cref 3 0) rfl rfl rfl ⟨_, rfl⟩ rfl (evs (ev_gr rfl (congrArg V.bool g4) (ev_ldB (off := 0) (v := dL c25_d a1.1) rfl rfl rfl rfl (nb rfl) rfl (evs (ev_gr rfl (congrArg V.bool g4) (ev_len (c1 := dL c25_d a1.1) rfl rfl rfl (evs (ev_gr rfl (congrArg V.bool g4) (ev_bin (c1 := nI (List.length a1.2 : Int)) (c2 := nI (List.length a1.1 : Int)) rfl rfl rfl (evs (ev_pkF (c1 := .bool ((List.length a1.2 : Int) != (List.length a1.1 : Int))) rfl g4 rfl rfl (evs (ev_mv (c := .bool ((List.length a1.2 : Int) != (List.length a1.1 : Int))) rfl rfl rfl (?_)))))))))))))))))))))))))
    rcases cond_some h with ⟨g5, h⟩ | ⟨g5, h⟩
    · refine evs (ev_gs rfl rfl (isb_T g5) (evs (ev_gs rfl rfl (isb_T g5) (evs (ev_gs rfl rfl (isb_T g5) (evs (ev_pkT (c1 := .bool true) rfl g5 rfl rfl (evn ?_))))))))
      refine ls_keep [(2, .box [nI a0.1, dL c195_d a0.2.1, dL ci64 a0.2.2]), (3, .box [dL c25_d a1.1, dL ci64 a1.2]), (5, .box [dL ci64 a1.2]), (33, .bool true)] ⟨kr, kr, kr, kr, trivial⟩ rfl ?_
      refine ls_cT rfl rfl ?_
      refine ls_rs tbOk ?_
      refine evs (ev_ac rfl nofun rfl (evn ?_))
      refine ls_keep [(4, .bool false)] ⟨kr, trivial⟩ rfl ?_
      refine ls_ret ?_
      have hr := Option.some.inj h
      rw [← hr]
      exact ⟨.inl rfl, rfl⟩
    · refine evs (ev_gr rfl (congrArg V.bool g5) (ev_ldB (off := 0) (v := .agg [dL ci64 a1.2]) rfl rfl rfl rfl (nb rfl) rfl (?_)))
      obtain ⟨v6, g7, h⟩ := ob_some h
      refine evs (ev_gr rfl (congrArg V.bool g5) (ev_call (era rfl (erg (erc (erD eci64 _) rfl)) eran) (spec_JoinTreeRoot_s g7) (evs (ev_gr rfl (congrArg V.bool g5) (ev_bin (c1 := nI v6) (c2 := nI 0) rfl rfl rfl (evs (ev_pkF (c1 := .bool (decide (v6 < 0))) rfl g5 rfl rfl (evn ?_))))))))
      refine ls_keep [(2, .box [nI a0.1, dL c195_d a0.2.1, dL ci64 a0.2.2]), (3, .box [dL c25_d a1.1, dL ci64 a1.2]), (5, .box [dL ci64 a1.2]), (33, .bool (decide (v6 < 0)))] ⟨kr, kr, kr, kr, trivial⟩ rfl ?_
      rcases cond_some h with ⟨g8, h⟩ | ⟨g8, h⟩
      · refine ls_cT rfl g8 ?_
        refine ls_rs tbOk ?_
        refine evs (ev_ac rfl nofun rfl (evn ?_))
        refine ls_keep [(4, .bool false)] ⟨kr, trivial⟩ rfl ?_
        refine ls_ret ?_
        have hr := Option.some.inj h
        rw [← hr]
        exact ⟨.inl rfl, rfl⟩
      · refine ls_cF rfl g8 ?_
        refine ls_skip ?_
        refine hK1 _ (ls_keep [(2, .box [nI a0.1, dL c195_d a0.2.1, dL ci64 a0.2.2]), (3, .box [dL c25_d a1.1, dL ci64 a1.2]), (5, .box [dL ci64 a1.2])] ⟨kr, kr, kr, trivial⟩ rfl ?_)
        refine ls_seq_k fun K9 hK9 => ?_
        refine ls_rs tbOk ?_
        refine evs (ev_ac rfl nofun rfl (evn ?_))
        refine ls_keep [(2, .box [nI a0.1, dL c195_d a0.2.1, dL ci64 a0.2.2]), (3, .box [dL c25_d a1.1, dL ci64 a1.2]), (5, .box [dL ci64 a1.2]), (6, nI 0)] ⟨kr, kr, kr, kr, trivial⟩ rfl ?_
        obtain ⟨o1, hl, hr1⟩ := ob_some h
        clear h
        have kXspec_IsValidDecomposition_B1 : ∀ (_ : Unit), (obind (loopF (spec_IsValidDecomposition_B2 a0 a1) fz 0) fun o2 => (match o2 with
  | .inl _ => (obind (loopF (spec_IsValidDecomposition_B5 a0 a1) fz 0) fun o5 => (match o5 with
  | .inl _ => (some true)
  | .inr r => some r))
  | .inr r => some r)) = some r → ∀ σ' : PS, okK σ' [(2, .box [nI a0.1, dL c195_d a0.2.1, dL ci64 a0.2.2]), (3, .box [dL c25_d a1.1, dL ci64 a1.2])] → K9 σ' := by
          intro _ h σ' hk
          refine hK9 _ (ls_keep [(2, .box [nI a0.1, dL c195_d a0.2.1, dL ci64 a0.2.2]), (3, .box [dL c25_d a1.1, dL ci64 a1.2])] hk rfl ?_)
          refine ls_seq_k fun K26 hK26 => ?_
          refine ls_rs tbOk ?_
          refine evs (ev_ac rfl nofun rfl (evn ?_))
          refine ls_keep [(2, .box [nI a0.1, dL c195_d a0.2.1, dL ci64 a0.2.2]), (3, .box [dL c25_d a1.1, dL ci64 a1.2]), (8, nI 0)] ⟨kr, kr, kr, trivial⟩ rfl ?_
          obtain ⟨o2, hl, hr2⟩ := ob_some h
          clear h
          have kXspec_IsValidDecomposition_B2 : ∀ (_ : Unit), (obind (loopF (spec_IsValidDecomposition_B5 a0 a1) fz 0) fun o5 => (match o5 with
  | .inl _ => (some true)
  | .inr r => some r)) = some r → ∀ σ' : PS, okK σ' [(2, .box [nI a0.1, dL c195_d a0.2.1, dL ci64 a0.2.2]), (3, .box [dL c25_d a1.1, dL ci64 a1.2])] → K26 σ' := by
            intro _ h σ' hk
            refine hK26 _ (ls_keep [(2, .box [nI a0.1, dL c195_d a0.2.1, dL ci64 a0.2.2]), (3, .box [dL c25_d a1.1, dL ci64 a1.2])] hk rfl ?_)
            refine ls_seq_k fun K44 hK44 => ?_
            refine ls_rs tbOk ?_
            refine evs (ev_ac rfl nofun rfl (evn ?_))
            refine ls_keep [(2, .box [nI a0.1, dL c195_d a0.2.1, dL ci64 a0.2.2]), (3, .box [dL c25_d a1.1, dL ci64 a1.2]), (11, nI 0)] ⟨kr, kr, kr, trivial⟩ rfl ?_
            obtain ⟨o5, hl, hr5⟩ := ob_some h
            clear h
            have kXspec_IsValidDecomposition_B5 : ∀ (_ : Unit), (some true) = some r → ∀ σ' : PS, okK σ' [] → K44 σ' := by
              intro _ h σ' hk
              refine hK44 _ (ls_keep [] hk rfl ?_)
              refine ls_rs tbOk ?_
              refine evs (ev_ac rfl nofun rfl (evn ?_))
              refine ls_keep [(4, .bool true)] ⟨kr, trivial⟩ rfl ?_
              refine ls_ret ?_
              have hr := Option.some.inj h
              rw [← hr]
              exact ⟨.inl rfl, rfl⟩
            refine ls_rec (fun (y11 : Int) => [(2, .box [nI a0.1, dL c195_d a0.2.1, dL ci64 a0.2.2]), (3, .box [dL c25_d a1.1, dL ci64 a1.2]), (11, nI y11)]) (spec_IsValidDecomposition_B5 a0 a1) fz 0 o5 hl ⟨kr, kr, kr, trivial⟩ (fun _ => rfl) ?_
            rintro m y11 N h hN
            unfold spec_IsValidDecomposition_B5 at h
            refine ls_seq_k fun K45 hK45 => ?_
            refine ls_rs tbOk ?_
            refine evs (ev_mv (c := nI y11) rfl rfl rfl (evs (ev_fa (c1 := .cref 2 0) (v := .cref 2 0) rfl rfl rfl ⟨_, rfl⟩ rfl (evs (ev_ldB (off := 0) (v := nI a0.1) rfl rfl rfl rfl (nb rfl) rfl (evs (ev_bin (c1 := nI y11) (c2 := nI a0.1) rfl rfl rfl (evn ?_))))))))
            refine ls_keep [(2, .box [nI a0.1, dL c195_d a0.2.1, dL ci64 a0.2.2]), (3, .box [dL c25_d a1.1, dL ci64 a1.2]), (11, nI y11), (104, .bool (decide (y11 < a0.1)))] ⟨kr, kr, kr, kr, trivial⟩ rfl ?_
            rcases cond_some h with ⟨g46, h⟩ | ⟨g46, h⟩
            · refine ls_cT rfl g46 ?_
              refine ls_skip ?_
              refine hK45 _ (ls_keep [(2, .box [nI a0.1, dL c195_d a0.2.1, dL ci64 a0.2.2]), (3, .box [dL c25_d a1.1, dL ci64 a1.2]), (11, nI y11)] ⟨kr, kr, kr, trivial⟩ rfl ?_)
              refine ls_seq_k fun K47 hK47 => ?_
              refine ls_blk ?_
              refine ls_rs tbOk ?_
              refine evs (ev_ac rfl nofun rfl (evn ?_))
              refine ls_keep [(2, .box [nI a0.1, dL c195_d a0.2.1, dL ci64 a0.2.2]), (3, .box [dL c25_d a1.1, dL ci64 a1.2]), (11, nI y11), (12, nI 0)] ⟨kr, kr, kr, kr, trivial⟩ rfl ?_
              refine ls_seq_k fun K48 hK48 => ?_
              refine ls_rs tbOk ?_
              refine evs (ev_ac rfl nofun rfl (evn ?_))
              refine ls_keep [(2, .box [nI a0.1, dL c195_d a0.2.1, dL ci64 a0.2.2]), (3, .box [dL c25_d a1.1, dL ci64 a1.2]), (11, nI y11), (12, nI 0), (13, nI 0)] ⟨kr, kr, kr, kr, kr, trivial⟩ rfl ?_
              obtain ⟨o6, hl, hr6⟩ := ob_some h
              clear h
              have kXspec_IsValidDecomposition_B6 : ∀ (z49 : Int), (cond (z49 != 1) (some (.inr false)) ((loopF (spec_IsValidDecomposition_B5 a0 a1) m) (IntKind.i64.wrap (y11 + 1)))) = some o5 → ∀ σ' : PS, okK σ' [(2, .box [nI a0.1, dL c195_d a0.2.1, dL ci64 a0.2.2]), (3, .box [dL c25_d a1.1, dL ci64 a1.2]), (11, nI y11), (12, nI z49)] → K48 σ' := by
                intro z49 h σ' hk
                refine hK48 _ (ls_keep [(2, .box [nI a0.1, dL c195_d a0.2.1, dL ci64 a0.2.2]), (3, .box [dL c25_d a1.1, dL ci64 a1.2]), (11, nI y11), (12, nI z49)] hk rfl ?_)
                refine ls_rs tbOk ?_
                refine evs (ev_mv (c := nI z49) rfl rfl rfl (evs (ev_bin (c1 := nI z49) (c2 := nI 1) rfl rfl rfl (evn ?_))))
                refine ls_keep [(2, .box [nI a0.1, dL c195_d a0.2.1, dL ci64 a0.2.2]), (3, .box [dL c25_d a1.1, dL ci64 a1.2]), (11, nI y11), (147, .bool (z49 != 1))] ⟨kr, kr, kr, kr, trivial⟩ rfl ?_
                rcases cond_some h with ⟨g71, h⟩ | ⟨g71, h⟩
                · refine ls_cT rfl g71 ?_
                  refine ls_rs tbOk ?_
                  refine evs (ev_ac rfl nofun rfl (evn ?_))
                  refine ls_keep [(4, .bool false)] ⟨kr, trivial⟩ rfl ?_
                  refine ls_ret ?_
                  have q0 := (Option.some.inj h).symm
                  have r0 := hr5
                  rw [q0] at r0
                  have hr := Option.some.inj r0
                  rw [← hr]
                  exact ⟨.inl rfl, rfl⟩
                · refine ls_cF rfl g71 ?_
                  refine ls_skip ?_
                  refine hK47 _ (ls_keep [(2, .box [nI a0.1, dL c195_d a0.2.1, dL ci64 a0.2.2]), (3, .box [dL c25_d a1.1, dL ci64 a1.2]), (11, nI y11)] ⟨kr, kr, kr, trivial⟩ rfl ?_)
                  refine ls_rgn tbOk ?_
                  refine evs (ev_mv (c := nI y11) rfl rfl rfl (evs (ev_bin (c1 := nI y11) (c2 := nI 1) rfl rfl rfl (evs (ev_as (c := nI (IntKind.i64.wrap (y11 + 1))) rfl rfl rfl (evn ?_))))))
                  exact hN _ (IntKind.i64.wrap (y11 + 1)) h ⟨kr, kr, kr, trivial⟩
              refine ls_rec (fun (s : Int × Int) => match s with | (y14, y15) => [(2, .box [nI a0.1, dL c195_d a0.2.1, dL ci64 a0.2.2]), (3, .box [dL c25_d a1.1, dL ci64 a1.2]), (11, nI y11), (12, nI y14), (13, nI y15)]) (spec_IsValidDecomposition_B6 a1 y11) fz (0, 0) o6 hl ⟨kr, kr, kr, kr, kr, trivial⟩ (fun _ => rfl) ?_
              rintro m ⟨y14, y15⟩ N h hN
              unfold spec_IsValidDecomposition_B6 at h
              dsimp only at h
              refine ls_seq_k fun K50 hK50 => ?_
              refine ls_rs tbOk ?_
              refine evs (ev_mv (c := nI y15) rfl rfl rfl (evs (ev_fa (c1 := .cref 3 0) (v := .cref 3 0) rfl rfl rfl ⟨_, rfl⟩ rfl (evs (ev_ldB (off := 0) (v := dL c25_d a1.1) rfl rfl rfl rfl (nb rfl) rfl (evs (ev_len (c1 := dL c25_d a1.1) rfl rfl rfl (evs (ev_bin (c1 := nI y15) (c2 := nI (List.length a1.1 : Int)) rfl rfl rfl (evn ?_))))))))))
              refine ls_keep [(2, .box [nI a0.1, dL c195_d a0.2.1, dL ci64 a0.2.2]), (3, .box [dL c25_d a1.1, dL ci64 a1.2]), (11, nI y11), (12, nI y14), (13, nI y15), (111, .bool (decide (y15 < (List.length a1.1 : Int))))] ⟨kr, kr, kr, kr, kr, kr, trivial⟩ rfl ?_
              rcases cond_some h with ⟨g51, h⟩ | ⟨g51, h⟩
              · refine ls_cT rfl g51 ?_
                refine ls_skip ?_
                refine hK50 _ (ls_keep [(2, .box [nI a0.1, dL c195_d a0.2.1, dL ci64 a0.2.2]), (3, .box [dL c25_d a1.1, dL ci64 a1.2]), (11, nI y11), (12, nI y14), (13, nI y15)] ⟨kr, kr, kr, kr, kr, trivial⟩ rfl ?_)
                refine ls_seq_k fun K52 hK52 => ?_
                refine ls_blk ?_
                refine ls_rd_k tbOk mixed (by kernel_rfl) fun K53 hK53 => ?_
                have kspec_IsValidDecomposition_J7 : ∀ (x54 : Bool), spec_IsValidDecomposition_J7 (loopF (spec_IsValidDecomposition_B6 a1 y11) m) y14 y15 x54 = some o6 → ∀ σ' : PS, okK σ' [(2, .box [nI a0.1, dL c195_d a0.2.1, dL ci64 a0.2.2]), (3, .box [dL c25_d a1.1, dL ci64 a1.2]), (11, nI y11), (12, nI y14), (13, nI y15), (143, .bool x54)] → K53 σ' := by
                  intro x54 h σ' hk
                  unfold spec_IsValidDecomposition_J7 at h
                  refine hK53 _ (ls_keep [(2, .box [nI a0.1, dL c195_d a0.2.1, dL ci64 a0.2.2]), (3, .box [dL c25_d a1.1, dL ci64 a1.2]), (11, nI y11), (12, nI y14), (13, nI y15), (143, .bool x54)] hk rfl ?_)
                  have kspec_IsValidDecomposition_J8 : ∀ (x55 : Int), spec_IsValidDecomposition_J8 (loopF (spec_IsValidDecomposition_B6 a1 y11) m) y15 x55 = some o6 → ∀ σ' : PS, okK σ' [(2, .box [nI a0.1, dL c195_d a0.2.1, dL ci64 a0.2.2]), (3, .box [dL c25_d a1.1, dL ci64 a1.2]), (11, nI y11), (12, nI x55), (13, nI y15)] → K52 σ' := by
                    intro x55 h σ' hk
                    unfold spec_IsValidDecomposition_J8 at h
                    refine hK52 _ (ls_keep [(2, .box [nI a0.1, dL c195_d a0.2.1, dL ci64 a0.2.2]), (3, .box [dL c25_d a1.1, dL ci64 a1.2]), (11, nI y11), (12, nI x55), (13, nI y15)] hk rfl ?_)
                    refine ls_rgn tbOk ?_
                    refine evs (ev_mv (c := nI y15) rfl rfl rfl (evs (ev_bin (c1 := nI y15) (c2 := nI 1) rfl rfl rfl (evs (ev_as (c := nI (IntKind.i64.wrap (y15 + 1))) rfl rfl rfl (evn ?_))))))
                    exact hN _ (x55, (IntKind.i64.wrap (y15 + 1))) h ⟨kr, kr, kr, kr, kr, trivial⟩
                  rcases cond_some h with ⟨g56, h⟩ | ⟨g56, h⟩
                  · refine ls_cT rfl g56 ?_
                    refine ls_rgn tbOk ?_
                    refine evs (ev_mv (c := nI y14) rfl rfl rfl (evs (ev_bin (c1 := nI y14) (c2 := nI 1) rfl rfl rfl (evs (ev_as (c := nI (IntKind.i64.wrap (y14 + 1))) rfl rfl rfl (evn ?_))))))
                    exact kspec_IsValidDecomposition_J8 (IntKind.i64.wrap (y14 + 1)) h _ ⟨kr, kr, kr, kr, kr, trivial⟩
                  · refine ls_cF rfl g56 ?_
                    refine ls_skip ?_
                    exact kspec_IsValidDecomposition_J8 y14 h _ ⟨kr, kr, kr, kr, kr, trivial⟩
                refine evd rfl rfl (ev_fa (c1 := .cref 3 0) (v := .cref 3 0) rfl rfl rfl ⟨_, rfl⟩ rfl (evd rfl rfl (ev_ldB (off := 0) (v := dL c25_d a1.1) rfl rfl rfl rfl (nb rfl) rfl (evd rfl rfl (ev_mv (c := nI y15) rfl rfl rfl (?_))))))
                obtain ⟨e57, g58, h⟩ := ob_some h
                refine evd rfl rfl (ev_ia rfl rfl rfl ⟨(geti_some g58).1, (geti_some g58).2.1⟩ (evd rfl rfl (ev_ldE (i := y15) (n := 1) (off := 0) (v := dL ci64 e57) rfl rfl zc25_d g58 rfl (nb rfl) rfl (evd rfl rfl (ev_mv (c := nI y11) rfl rfl rfl (?_))))))
                obtain ⟨v59, g60, h⟩ := ob_some h
                refine evd rfl rfl (ev_call (era rfl (erD eci64 _) (era rfl rfl eran)) (spec_l7Find_s g60) (evd rfl rfl (ev_bin (c1 := nI v59) (c2 := nI 0) rfl rfl rfl (evd rfl rfl (ev_mv (c := .bool (decide (0 ≤ v59))) rfl rfl rfl (?_))))))
                rcases cond_some h with ⟨g61, h⟩ | ⟨g61, h⟩
                · refine evd rfl rfl (ev_gr rfl (congrArg V.bool g61) (ev_fa (c1 := .cref 3 0) (v := .cref 3 1) rfl rfl rfl ⟨_, rfl⟩ rfl (evd rfl rfl (ev_gr rfl (congrArg V.bool g61) (ev_ldB (off := 1) (v := dL ci64 a1.2) rfl rfl rfl rfl (nb rfl) rfl (evd rfl rfl (ev_gr rfl (congrArg V.bool g61) (ev_mv (c := nI y15) rfl rfl rfl (?_)))))))))
                  obtain ⟨e62, g63, h⟩ := ob_some h
                  refine evd rfl rfl (ev_gr rfl (congrArg V.bool g61) (ev_ia rfl rfl rfl ⟨(geti_some g63).1, (geti_some g63).2.1⟩ (evd rfl rfl (ev_gr rfl (congrArg V.bool g61) (ev_ldE (i := y15) (n := 1) (off := 0) (v := nI e62) rfl rfl zci64 g63 rfl (nb rfl) rfl (evd rfl rfl (ev_gr rfl (congrArg V.bool g61) (ev_bin (c1 := nI e62) (c2 := nI (-1)) rfl rfl rfl (evd rfl rfl (ev_gr rfl (congrArg V.bool g61) (ev_mv (c := .bool (e62 == (-1))) rfl rfl rfl (?_))))))))))))
                  rcases cond_some h with ⟨g64, h⟩ | ⟨g64, h⟩
                  · refine evd rfl rfl (ev_gs rfl rfl (isb_T g64) (evd rfl rfl (ev_gs rfl rfl (isb_T g64) (evd rfl rfl (ev_gs rfl rfl (isb_T g64) (evd rfl rfl (ev_gs rfl rfl (isb_T g64) (evd rfl rfl (ev_gs rfl rfl (isb_T g64) (evd rfl rfl (ev_gs rfl rfl (isb_T g64) (evd rfl rfl (ev_gs rfl rfl (isb_T g64) (evd rfl rfl (ev_gs rfl rfl (isb_T g64) (evd rfl rfl (ev_gs rfl rfl (isb_T g64) (evd rfl rfl (ev_gs rfl rfl (isb_T g64) (evd rfl rfl (ev_gs rfl rfl (isb_T g64) (evd rfl rfl (ev_gs rfl rfl (isb_T g64) (evd rfl rfl (ev_gr rfl (congrArg V.bool g61) (ev_pkT (c1 := .bool true) rfl g64 rfl rfl (evd rfl rfl (ev_pkT (c1 := .bool true) rfl g61 rfl rfl (evdn ?_)))))))))))))))))))))))))))))
                    exact kspec_IsValidDecomposition_J7 true h _ ⟨kr, kr, kr, kr, kr, kr, trivial⟩
                  · refine evd rfl rfl (ev_gr rfl (congrArg V.bool g64) (ev_fa (c1 := .cref 3 0) (v := .cref 3 0) rfl rfl rfl ⟨_, rfl⟩ rfl (evd rfl rfl (ev_gr rfl (congrArg V.bool g64) (ev_ldB (off := 0) (v := dL c25_d a1.1) rfl rfl rfl rfl (nb rfl) rfl (evd rfl rfl (ev_gr rfl (congrArg V.bool g64) (ev_fa (c1 := .cref 3 0) (v := .cref 3 1) rfl rfl rfl ⟨_, rfl⟩ rfl (evd rfl rfl (ev_gr rfl (congrArg V.bool g64) (ev_ldB (off := 1) (v := dL ci64 a1.2) rfl rfl rfl rfl (nb rfl) rfl (evd rfl rfl (ev_gr rfl (congrArg V.bool g64) (ev_mv (c := nI y15) rfl rfl rfl (?_)))))))))))))))
                    obtain ⟨e65, g66, h⟩ := ob_some h
                    refine evd rfl rfl (ev_gr rfl (congrArg V.bool g64) (ev_ia rfl rfl rfl ⟨(geti_some g66).1, (geti_some g66).2.1⟩ (evd rfl rfl (ev_gr rfl (congrArg V.bool g64) (ev_ldE (i := y15) (n := 1) (off := 0) (v := nI e65) rfl rfl zci64 g66 rfl (nb rfl) rfl (?_))))))
                    obtain ⟨e67, g68, h⟩ := ob_some h
                    refine evd rfl rfl (ev_gr rfl (congrArg V.bool g64) (ev_ia rfl rfl rfl ⟨(geti_some g68).1, (geti_some g68).2.1⟩ (evd rfl rfl (ev_gr rfl (congrArg V.bool g64) (ev_ldE (i := e65) (n := 1) (off := 0) (v := dL ci64 e67) rfl rfl zc25_d g68 rfl (nb rfl) rfl (evd rfl rfl (ev_gr rfl (congrArg V.bool g64) (ev_mv (c := nI y11) rfl rfl rfl (?_)))))))))
                    obtain ⟨v69, g70, h⟩ := ob_some h
                    refine evd rfl rfl (ev_gr rfl (congrArg V.bool g64) (ev_call (era rfl (erD eci64 _) (era rfl rfl eran)) (spec_l7Find_s g70) (evd rfl rfl (ev_gr rfl (congrArg V.bool g64) (ev_bin (c1 := nI v69) (c2 := nI 0) rfl rfl rfl (evd rfl rfl (ev_gr rfl (congrArg V.bool g61) (ev_pkF (c1 := .bool (decide (v69 < 0))) rfl g64 rfl rfl (evd rfl rfl (ev_pkT (c1 := .bool (decide (v69 < 0))) rfl g61 rfl rfl (evdn ?_)))))))))))
                    exact kspec_IsValidDecomposition_J7 (decide (v69 < 0)) h _ ⟨kr, kr, kr, kr, kr, kr, trivial⟩
                · refine evd rfl rfl (ev_gs rfl rfl (isb_F g61) (evd rfl rfl (ev_gs rfl rfl (isb_F g61) (evd rfl rfl (ev_gs rfl rfl (isb_F g61) (evd rfl rfl (ev_gs rfl rfl (isb_F g61) (evd rfl rfl (ev_gs rfl rfl (isb_F g61) (evd rfl rfl (ev_gs rfl rfl (isb_F g61) (evd rfl rfl (ev_gs rfl rfl (isb_F g61) (evd rfl rfl (ev_gs rfl rfl rfl (evd rfl rfl (ev_gs rfl rfl rfl (evd rfl rfl (ev_gs rfl rfl rfl (evd rfl rfl (ev_gs rfl rfl rfl (evd rfl rfl (ev_gs rfl rfl rfl (evd rfl rfl (ev_gs rfl rfl rfl (evd rfl rfl (ev_gs rfl rfl rfl (evd rfl rfl (ev_gs rfl rfl rfl (evd rfl rfl (ev_gs rfl rfl rfl (evd rfl rfl (ev_gs rfl rfl rfl (evd rfl rfl (ev_gs rfl rfl rfl (evd rfl rfl (ev_gs rfl rfl rfl (evd rfl rfl (ev_gs rfl rfl (isb_F g61) (evd rfl rfl (ev_pkF (c1 := .bool false) rfl g61 rfl rfl (evdn ?_))))))))))))))))))))))))))))))))))))))))))
                  exact kspec_IsValidDecomposition_J7 false h _ ⟨kr, kr, kr, kr, kr, kr, trivial⟩
              · refine ls_cF rfl g51 ?_
                refine ls_exit ?_
                have q0 := (Option.some.inj h).symm
                have r0 := hr6
                rw [q0] at r0
                exact kXspec_IsValidDecomposition_B6 y14 r0 _ ⟨kr, kr, kr, kr, trivial⟩
            · refine ls_cF rfl g46 ?_
              refine ls_exit ?_
              have q0 := (Option.some.inj h).symm
              have r0 := hr5
              rw [q0] at r0
              exact kXspec_IsValidDecomposition_B5 () r0 _ trivial
          refine ls_rec (fun (y4 : Int) => [(2, .box [nI a0.1, dL c195_d a0.2.1, dL ci64 a0.2.2]), (3, .box [dL c25_d a1.1, dL ci64 a1.2]), (8, nI y4)]) (spec_IsValidDecomposition_B2 a0 a1) fz 0 o2 hl ⟨kr, kr, kr, trivial⟩ (fun _ => rfl) ?_
          rintro m y4 N h hN
          unfold spec_IsValidDecomposition_B2 at h
          refine ls_seq_k fun K27 hK27 => ?_
          refine ls_rs tbOk ?_
          refine evs (ev_mv (c := nI y4) rfl rfl rfl (evs (ev_fa (c1 := .cref 2 0) (v := .cref 2 1) rfl rfl rfl ⟨_, rfl⟩ rfl (evs (ev_ldB (off := 1) (v := dL c195_d a0.2.1) rfl rfl rfl rfl (nb rfl) rfl (evs (ev_len (c1 := dL c195_d a0.2.1) rfl rfl rfl (evs (ev_bin (c1 := nI y4) (c2 := nI (List.length a0.2.1 : Int)) rfl rfl rfl (evn ?_))))))))))
          refine ls_keep [(2, .box [nI a0.1, dL c195_d a0.2.1, dL ci64 a0.2.2]), (3, .box [dL c25_d a1.1, dL ci64 a1.2]), (8, nI y4), (75, .bool (decide (y4 < (List.length a0.2.1 : Int))))] ⟨kr, kr, kr, kr, trivial⟩ rfl ?_
          rcases cond_some h with ⟨g28, h⟩ | ⟨g28, h⟩
          · refine ls_cT rfl g28 ?_
            refine ls_skip ?_
            refine hK27 _ (ls_keep [(2, .box [nI a0.1, dL c195_d a0.2.1, dL ci64 a0.2.2]), (3, .box [dL c25_d a1.1, dL ci64 a1.2]), (8, nI y4)] ⟨kr, kr, kr, trivial⟩ rfl ?_)
            refine ls_seq_k fun K29 hK29 => ?_
            refine ls_blk ?_
            refine ls_rs tbOk ?_
            refine evs (ev_ac rfl nofun rfl (evn ?_))
            refine ls_keep [(2, .box [nI a0.1, dL c195_d a0.2.1, dL ci64 a0.2.2]), (3, .box [dL c25_d a1.1, dL ci64 a1.2]), (8, nI y4), (9, .bool false)] ⟨kr, kr, kr, kr, trivial⟩ rfl ?_
            refine ls_seq_k fun K30 hK30 => ?_
            refine ls_rs tbOk ?_
            refine evs (ev_ac rfl nofun rfl (evn ?_))
            refine ls_keep [(2, .box [nI a0.1, dL c195_d a0.2.1, dL ci64 a0.2.2]), (3, .box [dL c25_d a1.1, dL ci64 a1.2]), (8, nI y4), (9, .bool false), (10, nI 0)] ⟨kr, kr, kr, kr, kr, trivial⟩ rfl ?_
            obtain ⟨o3, hl, hr3⟩ := ob_some h
            clear h
            have kXspec_IsValidDecomposition_B3 : ∀ (z31 : Bool), (cond (!z31) (some (.inr false)) ((loopF (spec_IsValidDecomposition_B2 a0 a1) m) (IntKind.i64.wrap (y4 + 1)))) = some o2 → ∀ σ' : PS, okK σ' [(2, .box [nI a0.1, dL c195_d a0.2.1, dL ci64 a0.2.2]), (3, .box [dL c25_d a1.1, dL ci64 a1.2]), (8, nI y4), (9, .bool z31)] → K30 σ' := by
              intro z31 h σ' hk
              refine hK30 _ (ls_keep [(2, .box [nI a0.1, dL c195_d a0.2.1, dL ci64 a0.2.2]), (3, .box [dL c25_d a1.1, dL ci64 a1.2]), (8, nI y4), (9, .bool z31)] hk rfl ?_)
              refine ls_rs tbOk ?_
              refine evs (ev_mv (c := .bool z31) rfl rfl rfl (evs (ev_un (c1 := .bool z31) rfl trivial (evn ?_))))
              refine ls_keep [(2, .box [nI a0.1, dL c195_d a0.2.1, dL ci64 a0.2.2]), (3, .box [dL c25_d a1.1, dL ci64 a1.2]), (8, nI y4), (100, .bool (!z31))] ⟨kr, kr, kr, kr, trivial⟩ rfl ?_
              rcases cond_some h with ⟨g43, h⟩ | ⟨g43, h⟩
              · refine ls_cT rfl g43 ?_
                refine ls_rs tbOk ?_
                refine evs (ev_ac rfl nofun rfl (evn ?_))
                refine ls_keep [(4, .bool false)] ⟨kr, trivial⟩ rfl ?_
                refine ls_ret ?_
                have q0 := (Option.some.inj h).symm
                have r0 := hr2
                rw [q0] at r0
                have hr := Option.some.inj r0
                rw [← hr]
                exact ⟨.inl rfl, rfl⟩
              · refine ls_cF rfl g43 ?_
                refine ls_skip ?_
                refine hK29 _ (ls_keep [(2, .box [nI a0.1, dL c195_d a0.2.1, dL ci64 a0.2.2]), (3, .box [dL c25_d a1.1, dL ci64 a1.2]), (8, nI y4)] ⟨kr, kr, kr, trivial⟩ rfl ?_)
                refine ls_rgn tbOk ?_
                refine evs (ev_mv (c := nI y4) rfl rfl rfl (evs (ev_bin (c1 := nI y4) (c2 := nI 1) rfl rfl rfl (evs (ev_as (c := nI (IntKind.i64.wrap (y4 + 1))) rfl rfl rfl (evn ?_))))))
                exact hN _ (IntKind.i64.wrap (y4 + 1)) h ⟨kr, kr, kr, trivial⟩
            refine ls_rec (fun (s : Bool × Int) => match s with | (y7, y8) => [(2, .box [nI a0.1, dL c195_d a0.2.1, dL ci64 a0.2.2]), (3, .box [dL c25_d a1.1, dL ci64 a1.2]), (8, nI y4), (9, .bool y7), (10, nI y8)]) (spec_IsValidDecomposition_B3 a0 a1 y4) fz (false, 0) o3 hl ⟨kr, kr, kr, kr, kr, trivial⟩ (fun _ => rfl) ?_
            rintro m ⟨y7, y8⟩ N h hN
            unfold spec_IsValidDecomposition_B3 at h
            dsimp only at h
            refine ls_seq_k fun K32 hK32 => ?_
            refine ls_rs tbOk ?_
            refine evs (ev_mv (c := nI y8) rfl rfl rfl (evs (ev_fa (c1 := .cref 3 0) (v := .cref 3 0) rfl rfl rfl ⟨_, rfl⟩ rfl (evs (ev_ldB (off := 0) (v := dL c25_d a1.1) rfl rfl rfl rfl (nb rfl) rfl (evs (ev_len (c1 := dL c25_d a1.1) rfl rfl rfl (evs (ev_bin (c1 := nI y8) (c2 := nI (List.length a1.1 : Int)) rfl rfl rfl (evn ?_))))))))))
            refine ls_keep [(2, .box [nI a0.1, dL c195_d a0.2.1, dL ci64 a0.2.2]), (3, .box [dL c25_d a1.1, dL ci64 a1.2]), (8, nI y4), (9, .bool y7), (10, nI y8), (82, .bool (decide (y8 < (List.length a1.1 : Int))))] ⟨kr, kr, kr, kr, kr, kr, trivial⟩ rfl ?_
            rcases cond_some h with ⟨g33, h⟩ | ⟨g33, h⟩
            · refine ls_cT rfl g33 ?_
              refine ls_skip ?_
              refine hK32 _ (ls_keep [(2, .box [nI a0.1, dL c195_d a0.2.1, dL ci64 a0.2.2]), (3, .box [dL c25_d a1.1, dL ci64 a1.2]), (8, nI y4), (9, .bool y7), (10, nI y8)] ⟨kr, kr, kr, kr, kr, trivial⟩ rfl ?_)
              refine ls_seq_k fun K34 hK34 => ?_
              refine ls_blk ?_
              have kspec_IsValidDecomposition_J4 : ∀ (x35 : Bool), spec_IsValidDecomposition_J4 (loopF (spec_IsValidDecomposition_B3 a0 a1 y4) m) y8 x35 = some o3 → ∀ σ' : PS, okK σ' [(2, .box [nI a0.1, dL c195_d a0.2.1, dL ci64 a0.2.2]), (3, .box [dL c25_d a1.1, dL ci64 a1.2]), (8, nI y4), (9, .bool x35), (10, nI y8)] → K34 σ' := by
                intro x35 h σ' hk
                unfold spec_IsValidDecomposition_J4 at h
                refine hK34 _ (ls_keep [(2, .box [nI a0.1, dL c195_d a0.2.1, dL ci64 a0.2.2]), (3, .box [dL c25_d a1.1, dL ci64 a1.2]), (8, nI y4), (9, .bool x35), (10, nI y8)] hk rfl ?_)
                refine ls_rgn tbOk ?_
                refine evs (ev_mv (c := nI y8) rfl rfl rfl (evs (ev_bin (c1 := nI y8) (c2 := nI 1) rfl rfl rfl (evs (ev_as (c := nI (IntKind.i64.wrap (y8 + 1))) rfl rfl rfl (evn ?_))))))
                exact hN _ (x35, (IntKind.i64.wrap (y8 + 1))) h ⟨kr, kr, kr, kr, kr, trivial⟩
              refine ls_drw tbOk mixed (by kernel_rfl) ?_
              refine evd rfl rfl (ev_mv (c := .bool y7) rfl rfl rfl (evd rfl rfl (ev_mv (c := .bool y7) rfl rfl rfl (?_))))
              rcases cond_some h with ⟨g36, h⟩ | ⟨g36, h⟩
              · refine evd rfl rfl (ev_gs rfl rfl (isb_T g36) (evd rfl rfl (ev_gs rfl rfl (isb_T g36) (evd rfl rfl (ev_gs rfl rfl (isb_T g36) (evd rfl rfl (ev_gs rfl rfl (isb_T g36) (evd rfl rfl (ev_gs rfl rfl (isb_T g36) (evd rfl rfl (ev_gs rfl rfl (isb_T g36) (evd rfl rfl (ev_gs rfl rfl (isb_T g36) (evd rfl rfl (ev_gs rfl rfl (isb_T g36) (evd rfl rfl (ev_gs rfl rfl (isb_T g36) (evd rfl rfl (ev_gs rfl rfl (isb_T g36) (evd rfl rfl (ev_gs rfl rfl (isb_T g36) (evd rfl rfl (ev_pkT (c1 := .bool true) rfl g36 rfl rfl (evd rfl rfl (ev_as (c := .bool true) rfl rfl rfl (evdn ?_))))))))))))))))))))))))))
                exact kspec_IsValidDecomposition_J4 true h _ ⟨kr, kr, kr, kr, kr, trivial⟩
              · refine evd rfl rfl (ev_gr rfl (congrArg V.bool g36) (ev_fa (c1 := .cref 2 0) (v := .cref 2 1) rfl rfl rfl ⟨_, rfl⟩ rfl (evd rfl rfl (ev_gr rfl (congrArg V.bool g36) (ev_ldB (off := 1) (v := dL c195_d a0.2.1) rfl rfl rfl rfl (nb rfl) rfl (evd rfl rfl (ev_gr rfl (congrArg V.bool g36) (ev_mv (c := nI y4) rfl rfl rfl (?_)))))))))
                obtain ⟨e37, g38, h⟩ := ob_some h
                refine evd rfl rfl (ev_gr rfl (congrArg V.bool g36) (ev_ia rfl rfl rfl ⟨(geti_some g38).1, (geti_some g38).2.1⟩ (evd rfl rfl (ev_gr rfl (congrArg V.bool g36) (ev_ldE (i := y4) (n := 2) (off := 0) (v := .agg (c195_d e37)) rfl rfl zc195_d g38 rfl (nb rfl) rfl (evd rfl rfl (ev_gr rfl (congrArg V.bool g36) (ev_fa (c1 := .cref 3 0) (v := .cref 3 0) rfl rfl rfl ⟨_, rfl⟩ rfl (evd rfl rfl (ev_gr rfl (congrArg V.bool g36) (ev_ldB (off := 0) (v := dL c25_d a1.1) rfl rfl rfl rfl (nb rfl) rfl (evd rfl rfl (ev_gr rfl (congrArg V.bool g36) (ev_mv (c := nI y8) rfl rfl rfl (?_)))))))))))))))
                obtain ⟨e39, g40, h⟩ := ob_some h
                refine evd rfl rfl (ev_gr rfl (congrArg V.bool g36) (ev_ia rfl rfl rfl ⟨(geti_some g40).1, (geti_some g40).2.1⟩ (evd rfl rfl (ev_gr rfl (congrArg V.bool g36) (ev_ldE (i := y8) (n := 1) (off := 0) (v := dL ci64 e39) rfl rfl zc25_d g40 rfl (nb rfl) rfl (?_))))))
                obtain ⟨v41, g42, h⟩ := ob_some h
                refine evd rfl rfl (ev_gr rfl (congrArg V.bool g36) (ev_call (era rfl (erg (erc rfl (erc (erD eci64 _) rfl))) (era rfl (erD eci64 _) eran)) (spec_l30Within_s g42) (evd rfl rfl (ev_pkF (c1 := .bool v41) rfl g36 rfl rfl (evd rfl rfl (ev_as (c := .bool v41) rfl rfl rfl (evdn ?_)))))))
                exact kspec_IsValidDecomposition_J4 v41 h _ ⟨kr, kr, kr, kr, kr, trivial⟩
            · refine ls_cF rfl g33 ?_
              refine ls_exit ?_
              have q0 := (Option.some.inj h).symm
              have r0 := hr3
              rw [q0] at r0
              exact kXspec_IsValidDecomposition_B3 y7 r0 _ ⟨kr, kr, kr, kr, trivial⟩
          · refine ls_cF rfl g28 ?_
            refine ls_exit ?_
            have q0 := (Option.some.inj h).symm
            have r0 := hr2
            rw [q0] at r0
            exact kXspec_IsValidDecomposition_B2 () r0 _ ⟨kr, kr, trivial⟩
        refine ls_rec (fun (y1 : Int) => [(2, .box [nI a0.1, dL c195_d a0.2.1, dL ci64 a0.2.2]), (3, .box [dL c25_d a1.1, dL ci64 a1.2]), (5, .box [dL ci64 a1.2]), (6, nI y1)]) (spec_IsValidDecomposition_B1 a0 a1) fz 0 o1 hl ⟨kr, kr, kr, kr, trivial⟩ (fun _ => rfl) ?_
        rintro m y1 N h hN
        unfold spec_IsValidDecomposition_B1 at h
        refine ls_seq_k fun K10 hK10 => ?_
        refine ls_rs tbOk ?_
        refine evs (ev_mv (c := nI y1) rfl rfl rfl (evs (ev_fa (c1 := .cref 3 0) (v := .cref 3 0) rfl rfl rfl ⟨_, rfl⟩ rfl (evs (ev_ldB (off := 0) (v := dL c25_d a1.1) rfl rfl rfl rfl (nb rfl) rfl (evs (ev_len (c1 := dL c25_d a1.1) rfl rfl rfl (evs (ev_bin (c1 := nI y1) (c2 := nI (List.length a1.1 : Int)) rfl rfl rfl (evn ?_))))))))))
        refine ls_keep [(2, .box [nI a0.1, dL c195_d a0.2.1, dL ci64 a0.2.2]), (3, .box [dL c25_d a1.1, dL ci64 a1.2]), (5, .box [dL ci64 a1.2]), (6, nI y1), (38, .bool (decide (y1 < (List.length a1.1 : Int))))] ⟨kr, kr, kr, kr, kr, trivial⟩ rfl ?_
        rcases cond_some h with ⟨g11, h⟩ | ⟨g11, h⟩
        · refine ls_cT rfl g11 ?_
          refine ls_skip ?_
          refine hK10 _ (ls_keep [(2, .box [nI a0.1, dL c195_d a0.2.1, dL ci64 a0.2.2]), (3, .box [dL c25_d a1.1, dL ci64 a1.2]), (5, .box [dL ci64 a1.2]), (6, nI y1)] ⟨kr, kr, kr, kr, trivial⟩ rfl ?_)
          refine ls_seq_k fun K12 hK12 => ?_
          refine ls_blk ?_
          refine ls_rs tbOk ?_
          refine evs (ev_ldB (off := 0) (v := .agg [dL ci64 a1.2]) rfl rfl rfl rfl (nb rfl) rfl (evs (ev_mv (c := nI y1) rfl rfl rfl (?_))))
          obtain ⟨v13, g14, h⟩ := ob_some h
          refine evs (ev_call (era rfl (erg (erc (erD eci64 _) rfl)) (era rfl rfl eran)) (spec_l10Path_s g14) (evs (ev_as (c := oL 3 ci64 v13) rfl rfl rfl (evn ?_))))
          refine ls_keep [(2, .box [nI a0.1, dL c195_d a0.2.1, dL ci64 a0.2.2]), (3, .box [dL c25_d a1.1, dL ci64 a1.2]), (5, .box [dL ci64 a1.2]), (6, nI y1), (7, oL 3 ci64 v13)] ⟨kr, kr, kr, kr, kr, trivial⟩ rfl ?_
          refine ls_rd tbOk mixed (by kernel_rfl) ?_
          refine evd rfl rfl (ev_ldB (off := 0) (v := .agg (c92_ddd a0)) rfl rfl rfl rfl (nb rfl) rfl (evd rfl rfl (ev_fa (c1 := .cref 3 0) (v := .cref 3 0) rfl rfl rfl ⟨_, rfl⟩ rfl (evd rfl rfl (ev_ldB (off := 0) (v := dL c25_d a1.1) rfl rfl rfl rfl (nb rfl) rfl (evd rfl rfl (ev_mv (c := nI y1) rfl rfl rfl (?_))))))))
          obtain ⟨e15, g16, h⟩ := ob_some h
          refine evd rfl rfl (ev_ia rfl rfl rfl ⟨(geti_some g16).1, (geti_some g16).2.1⟩ (evd rfl rfl (ev_ldE (i := y1) (n := 1) (off := 0) (v := dL ci64 e15) rfl rfl zc25_d g16 rfl (nb rfl) rfl (?_))))
          obtain ⟨v17, g18, h⟩ := ob_some h
          refine evd rfl rfl (ev_call (era rfl (erg (erc rfl (erc (erD ec195_d _) (erc (erD eci64 _) rfl)))) (era rfl (erD eci64 _) eran)) (spec_l30Bag_s g18) (evd rfl rfl (ev_un (c1 := .bool v17) rfl trivial (evd rfl rfl (ev_mv (c := .bool (!v17)) rfl rfl rfl (?_))))))
          rcases cond_some h with ⟨g19, h⟩ | ⟨g19, h⟩
          · refine evd rfl rfl (ev_gs rfl rfl (isb_T g19) (evd rfl rfl (ev_gs rfl rfl (isb_T g19) (evd rfl rfl (ev_gs rfl rfl (isb_T g19) (evd rfl rfl (ev_gs rfl rfl (isb_T g19) (evd rfl rfl (ev_gs rfl rfl (isb_T g19) (evd rfl rfl (ev_gs rfl rfl (isb_T g19) (evd rfl rfl (ev_pkT (c1 := .bool true) rfl g19 rfl rfl (evd rfl rfl (ev_mv (c := .bool true) rfl rfl rfl (evd rfl rfl (ev_gs rfl rfl rfl (evd rfl rfl (ev_gs rfl rfl rfl (evd rfl rfl (ev_gs rfl rfl rfl (evd rfl rfl (ev_gs rfl rfl rfl (evd rfl rfl (ev_gs rfl rfl rfl (evd rfl rfl (ev_gs rfl rfl rfl (evd rfl rfl (ev_gs rfl rfl rfl (evd rfl rfl (ev_gs rfl rfl rfl (evd rfl rfl (ev_gs rfl rfl rfl (evd rfl rfl (ev_pkT (c1 := .bool true) rfl rfl rfl rfl (evdn ?_))))))))))))))))))))))))))))))))))))
            refine ls_keep [(2, .box [nI a0.1, dL c195_d a0.2.1, dL ci64 a0.2.2]), (3, .box [dL c25_d a1.1, dL ci64 a1.2]), (5, .box [dL ci64 a1.2]), (6, nI y1), (70, .bool true)] ⟨kr, kr, kr, kr, kr, trivial⟩ rfl ?_
            refine ls_cT rfl rfl ?_
            refine ls_rs tbOk ?_
            refine evs (ev_ac rfl nofun rfl (evn ?_))
            refine ls_keep [(4, .bool false)] ⟨kr, trivial⟩ rfl ?_
            refine ls_ret ?_
            have q0 := (Option.some.inj h).symm
            have r0 := hr1
            rw [q0] at r0
            have hr := Option.some.inj r0
            rw [← hr]
            exact ⟨.inl rfl, rfl⟩
          · refine evd rfl rfl (ev_gr rfl (congrArg V.bool g19) (ev_mv (c := oL 3 ci64 v13) rfl rfl rfl (evd rfl rfl (ev_gr rfl (congrArg V.bool g19) (ev_len (c1 := dL ci64 v13) rfl rfl rfl (evd rfl rfl (ev_gr rfl (congrArg V.bool g19) (ev_fa (c1 := .cref 3 0) (v := .cref 3 1) rfl rfl rfl ⟨_, rfl⟩ rfl (evd rfl rfl (ev_gr rfl (congrArg V.bool g19) (ev_ldB (off := 1) (v := dL ci64 a1.2) rfl rfl rfl rfl (nb rfl) rfl (evd rfl rfl (ev_gr rfl (congrArg V.bool g19) (ev_len (c1 := dL ci64 a1.2) rfl rfl rfl (evd rfl rfl (ev_gr rfl (congrArg V.bool g19) (ev_bin (c1 := nI (List.length v13 : Int)) (c2 := nI (List.length a1.2 : Int)) rfl rfl rfl (evd rfl rfl (ev_pkF (c1 := .bool (decide ((List.length a1.2 : Int) < (List.length v13 : Int)))) rfl g19 rfl rfl (evd rfl rfl (ev_mv (c := .bool (decide ((List.length a1.2 : Int) < (List.length v13 : Int)))) rfl rfl rfl (?_))))))))))))))))))))))
            rcases cond_some h with ⟨g20, h⟩ | ⟨g20, h⟩
            · refine evd rfl rfl (ev_gs rfl rfl (isb_T g20) (evd rfl rfl (ev_gs rfl rfl (isb_T g20) (evd rfl rfl (ev_gs rfl rfl (isb_T g20) (evd rfl rfl (ev_gs rfl rfl (isb_T g20) (evd rfl rfl (ev_gs rfl rfl (isb_T g20) (evd rfl rfl (ev_gs rfl rfl (isb_T g20) (evd rfl rfl (ev_gs rfl rfl (isb_T g20) (evd rfl rfl (ev_gs rfl rfl (isb_T g20) (evd rfl rfl (ev_gs rfl rfl (isb_T g20) (evd rfl rfl (ev_pkT (c1 := .bool true) rfl g20 rfl rfl (evdn ?_))))))))))))))))))))
              refine ls_keep [(2, .box [nI a0.1, dL c195_d a0.2.1, dL ci64 a0.2.2]), (3, .box [dL c25_d a1.1, dL ci64 a1.2]), (5, .box [dL ci64 a1.2]), (6, nI y1), (70, .bool true)] ⟨kr, kr, kr, kr, kr, trivial⟩ rfl ?_
              refine ls_cT rfl rfl ?_
              refine ls_rs tbOk ?_
              refine evs (ev_ac rfl nofun rfl (evn ?_))
              refine ls_keep [(4, .bool false)] ⟨kr, trivial⟩ rfl ?_
              refine ls_ret ?_
              have q0 := (Option.some.inj h).symm
              have r0 := hr1
              rw [q0] at r0
              have hr := Option.some.inj r0
              rw [← hr]
              exact ⟨.inl rfl, rfl⟩
            · refine evd rfl rfl (ev_gr rfl (congrArg V.bool g20) (ev_mv (c := oL 3 ci64 v13) rfl rfl rfl (evd rfl rfl (ev_gr rfl (congrArg V.bool g20) (ev_mv (c := oL 3 ci64 v13) rfl rfl rfl (evd rfl rfl (ev_gr rfl (congrArg V.bool g20) (ev_len (c1 := dL ci64 v13) rfl rfl rfl (evd rfl rfl (ev_gr rfl (congrArg V.bool g20) (ev_bin (c1 := nI (List.length v13 : Int)) (c2 := nI 1) rfl rfl rfl (?_))))))))))))
              obtain ⟨e21, g22, h⟩ := ob_some h
              refine evd rfl rfl (ev_gr rfl (congrArg V.bool g20) (ev_ia rfl rfl rfl ⟨(geti_some g22).1, (geti_some g22).2.1⟩ (evd rfl rfl (ev_gr rfl (congrArg V.bool g20) (ev_ldE (i := (IntKind.i64.wrap ((List.length v13 : Int) - 1))) (n := 1) (off := 0) (v := nI e21) rfl rfl zci64 g22 rfl (nb rfl) rfl (evd rfl rfl (ev_gr rfl (congrArg V.bool g20) (ev_ldB (off := 0) (v := .agg [dL ci64 a1.2]) rfl rfl rfl rfl (nb rfl) rfl (?_)))))))))
              obtain ⟨v23, g24, h⟩ := ob_some h
              refine evd rfl rfl (ev_gr rfl (congrArg V.bool g20) (ev_call (era rfl (erg (erc (erD eci64 _) rfl)) eran) (spec_JoinTreeRoot_s g24) (evd rfl rfl (ev_gr rfl (congrArg V.bool g20) (ev_bin (c1 := nI e21) (c2 := nI v23) rfl rfl rfl (evd rfl rfl (ev_pkF (c1 := .bool (e21 != v23)) rfl g20 rfl rfl (evdn ?_))))))))
              refine ls_keep [(2, .box [nI a0.1, dL c195_d a0.2.1, dL ci64 a0.2.2]), (3, .box [dL c25_d a1.1, dL ci64 a1.2]), (5, .box [dL ci64 a1.2]), (6, nI y1), (70, .bool (e21 != v23))] ⟨kr, kr, kr, kr, kr, trivial⟩ rfl ?_
              rcases cond_some h with ⟨g25, h⟩ | ⟨g25, h⟩
              · refine ls_cT rfl g25 ?_
                refine ls_rs tbOk ?_
                refine evs (ev_ac rfl nofun rfl (evn ?_))
                refine ls_keep [(4, .bool false)] ⟨kr, trivial⟩ rfl ?_
                refine ls_ret ?_
                have q0 := (Option.some.inj h).symm
                have r0 := hr1
                rw [q0] at r0
                have hr := Option.some.inj r0
                rw [← hr]
                exact ⟨.inl rfl, rfl⟩
              · refine ls_cF rfl g25 ?_
                refine ls_skip ?_
                refine hK12 _ (ls_keep [(2, .box [nI a0.1, dL c195_d a0.2.1, dL ci64 a0.2.2]), (3, .box [dL c25_d a1.1, dL ci64 a1.2]), (5, .box [dL ci64 a1.2]), (6, nI y1)] ⟨kr, kr, kr, kr, trivial⟩ rfl ?_)
                refine ls_rgn tbOk ?_
                refine evs (ev_mv (c := nI y1) rfl rfl rfl (evs (ev_bin (c1 := nI y1) (c2 := nI 1) rfl rfl rfl (evs (ev_as (c := nI (IntKind.i64.wrap (y1 + 1))) rfl rfl rfl (evn ?_))))))
                exact hN _ (IntKind.i64.wrap (y1 + 1)) h ⟨kr, kr, kr, kr, trivial⟩
        · refine ls_cF rfl g11 ?_
          refine ls_exit ?_
          have q0 := (Option.some.inj h).symm
          have r0 := hr1
          rw [q0] at r0
          exact kXspec_IsValidDecomposition_B1 () r0 _ ⟨kr, kr, trivial⟩
def spec_IsPermutation_B1 (a0 : List Int) (rec : Int → Option (Sum (Unit) (Bool))) (y1 : Int) : Option (Sum (Unit) (Bool)) := cond (decide (y1 < (List.length a0 : Int))) (obind (geti a0 y1) fun e5 => obind (spec_l1In e5 0 (IntKind.i64.wrap ((List.length a0 : Int) - 1))) fun v7 => cond (!v7) (some (.inr false)) (chk ((0 : Int) ≤ 0 ∧ 0 ≤ y1 ∧ y1 ≤ (List.length a0 : Int)) (obind (geti a0 y1) fun e11 => obind (spec_l7Find (subl a0 0 y1) e11) fun v13 => cond (decide (0 ≤ v13)) (some (.inr false)) (rec (IntKind.i64.wrap (y1 + 1)))))) (some (.inl ()))
def spec_IsPermutation (a0 : List Int) : Option (Bool) := obind (loopF (spec_IsPermutation_B1 a0) fz 0) fun o1 => (match o1 with
  | .inl _ => (some (decide ((List.length a0 : Int) ≤ 5)))
  | .inr r => some r)
theorem spec_IsPermutation_s {a0 : List Int} {r : Bool} (h : spec_IsPermutation a0 = some r) : SoundAt Try.prog 206 [dL ci64 a0] (.bool r) := by
  unfold spec_IsPermutation at h
  refine sound_lit tbOk lit206 (nb rfl) rfl ?_
  unfold c206
  refine ls_keep [(0, dL ci64 a0)] ⟨kr, trivial⟩ rfl ?_
  refine ls_rs tbOk ?_
  refine evs (ev_ac rfl nofun rfl (evn ?_))
  refine ls_keep [(0, dL ci64 a0)] ⟨kr, trivial⟩ rfl ?_
  refine ls_seq_k fun K1 hK1 => ?_
  refine ls_rs tbOk ?_
  refine evs (ev_ac rfl nofun rfl (evn ?_))
  refine ls_keep [(0, dL ci64 a0), (3, nI 0)] ⟨kr, kr, trivial⟩ rfl ?_
  obtain ⟨o1, hl, hr1⟩ := ob_some h
  clear h
  have kXspec_IsPermutation_B1 : ∀ (_ : Unit), (some (decide ((List.length a0 : Int) ≤ 5))) = some r → ∀ σ' : PS, okK σ' [(0, dL ci64 a0)] → K1 σ' := by
    intro _ h σ' hk
    refine hK1 _ (ls_keep [(0, dL ci64 a0)] hk rfl ?_)
    refine ls_rs tbOk ?_
    refine evs (ev_mv (c := dL ci64 a0) rfl rfl rfl (evs (ev_len (c1 := dL ci64 a0) rfl rfl rfl (evs (ev_bin (c1 := nI (List.length a0 : Int)) (c2 := nI 5) rfl rfl rfl (evs (ev_as (c := .bool (decide ((List.length a0 : Int) ≤ 5))) rfl rfl rfl (evn ?_))))))))
    refine ls_keep [(2, .bool (decide ((List.length a0 : Int) ≤ 5)))] ⟨kr, trivial⟩ rfl ?_
    refine ls_ret ?_
    have hr := Option.some.inj h
    rw [← hr]
    exact ⟨.inl rfl, rfl⟩
  refine ls_rec (fun (y1 : Int) => [(0, dL ci64 a0), (3, nI y1)]) (spec_IsPermutation_B1 a0) fz 0 o1 hl ⟨kr, kr, trivial⟩ (fun _ => rfl) ?_
  rintro m y1 N h hN
  unfold spec_IsPermutation_B1 at h
  refine ls_seq_k fun K2 hK2 => ?_
  refine ls_rs tbOk ?_
  refine evs (ev_mv (c := nI y1) rfl rfl rfl (evs (ev_mv (c := dL ci64 a0) rfl rfl rfl (evs (ev_len (c1 := dL ci64 a0) rfl rfl rfl (evs (ev_bin (c1 := nI y1) (c2 := nI (List.length a0 : Int)) rfl rfl rfl (evn ?_))))))))
  refine ls_keep [(0, dL ci64 a0), (3, nI y1), (7, .bool (decide (y1 < (List.length a0 : Int))))] ⟨kr, kr, kr, trivial⟩ rfl ?_
  rcases cond_some h with ⟨g3, h⟩ | ⟨g3, h⟩
  · refine ls_cT rfl g3 ?_
    refine ls_skip ?_
    refine hK2 _ (ls_keep [(0, dL ci64 a0), (3, nI y1)] ⟨kr, kr, trivial⟩ rfl ?_)
    refine ls_seq_k fun K4 hK4 => ?_
    refine ls_blk ?_
    refine ls_rd tbOk mixed (by kernel_rfl) ?_
    refine evd rfl rfl (ev_mv (c := dL ci64 a0) rfl rfl rfl (evd rfl rfl (ev_mv (c := nI y1) rfl rfl rfl (?_))))
    obtain ⟨e5, g6, h⟩ := ob_some h
    refine evd rfl rfl (ev_ia rfl rfl rfl ⟨(geti_some g6).1, (geti_some g6).2.1⟩ (evd rfl rfl (ev_ldE (i := y1) (n := 1) (off := 0) (v := nI e5) rfl rfl zci64 g6 rfl (nb rfl) rfl (evd rfl rfl (ev_mv (c := dL ci64 a0) rfl rfl rfl (evd rfl rfl (ev_len (c1 := dL ci64 a0) rfl rfl rfl (evd rfl rfl (ev_bin (c1 := nI (List.length a0 : Int)) (c2 := nI 1) rfl rfl rfl (?_))))))))))
    obtain ⟨v7, g8, h⟩ := ob_some h
    refine evd rfl rfl (ev_call (era rfl rfl (era rfl rfl (era rfl rfl eran))) (spec_l1In_s g8) (evd rfl rfl (ev_un (c1 := .bool v7) rfl trivial (evd rfl rfl (ev_mv (c := .bool (!v7)) rfl rfl rfl (?_))))))
    rcases cond_some h with ⟨g9, h⟩ | ⟨g9, h⟩
    · refine evd rfl rfl (ev_gs rfl rfl (isb_T g9) (evd rfl rfl (ev_gs rfl rfl (isb_T g9) (evd rfl rfl (ev_gs rfl rfl (isb_T g9) (evd rfl rfl (ev_gs rfl rfl (isb_T g9) (evd rfl rfl (ev_gs rfl rfl (isb_T g9) (evd rfl rfl (ev_gs rfl rfl (isb_T g9) (evd rfl rfl (ev_gs rfl rfl (isb_T g9) (evd rfl rfl (ev_gs rfl rfl (isb_T g9) (evd rfl rfl (ev_gs rfl rfl (isb_T g9) (evd rfl rfl (ev_pkT (c1 := .bool true) rfl g9 rfl rfl (evdn ?_))))))))))))))))))))
      refine ls_keep [(0, dL ci64 a0), (3, nI y1), (29, .bool true)] ⟨kr, kr, kr, trivial⟩ rfl ?_
      refine ls_cT rfl rfl ?_
      refine ls_rs tbOk ?_
      refine evs (ev_ac rfl nofun rfl (evn ?_))
      refine ls_keep [(2, .bool false)] ⟨kr, trivial⟩ rfl ?_
      refine ls_ret ?_
      have q0 := (Option.some.inj h).symm
      have r0 := hr1
      rw [q0] at r0
      have hr := Option.some.inj r0
      rw [← hr]
      exact ⟨.inl rfl, rfl⟩
    · refine evd rfl rfl (ev_gr rfl (congrArg V.bool g9) (ev_mv (c := dL ci64 a0) rfl rfl rfl (evd rfl rfl (ev_gr rfl (congrArg V.bool g9) (ev_mv (c := nI y1) rfl rfl rfl (?_))))))
      obtain ⟨g10, h⟩ := chk_some h
      refine evd rfl rfl (ev_gr rfl (congrArg V.bool g9) (ev_sle (lst := a0) rfl rfl zci64 rfl rfl g10 (evd rfl rfl (ev_gr rfl (congrArg V.bool g9) (ev_mv (c := dL ci64 a0) rfl rfl rfl (evd rfl rfl (ev_gr rfl (congrArg V.bool g9) (ev_mv (c := nI y1) rfl rfl rfl (?_)))))))))
      obtain ⟨e11, g12, h⟩ := ob_some h
      refine evd rfl rfl (ev_gr rfl (congrArg V.bool g9) (ev_ia rfl rfl rfl ⟨(geti_some g12).1, (geti_some g12).2.1⟩ (evd rfl rfl (ev_gr rfl (congrArg V.bool g9) (ev_ldE (i := y1) (n := 1) (off := 0) (v := nI e11) rfl rfl zci64 g12 rfl (nb rfl) rfl (?_))))))
      obtain ⟨v13, g14, h⟩ := ob_some h
      refine evd rfl rfl (ev_gr rfl (congrArg V.bool g9) (ev_call (era rfl (erD eci64 _) (era rfl rfl eran)) (spec_l7Find_s g14) (evd rfl rfl (ev_gr rfl (congrArg V.bool g9) (ev_bin (c1 := nI v13) (c2 := nI 0) rfl rfl rfl (evd rfl rfl (ev_pkF (c1 := .bool (decide (0 ≤ v13))) rfl g9 rfl rfl (evdn ?_))))))))
      refine ls_keep [(0, dL ci64 a0), (3, nI y1), (29, .bool (decide (0 ≤ v13)))] ⟨kr, kr, kr, trivial⟩ rfl ?_
      rcases cond_some h with ⟨g15, h⟩ | ⟨g15, h⟩
      · refine ls_cT rfl g15 ?_
        refine ls_rs tbOk ?_
        refine evs (ev_ac rfl nofun rfl (evn ?_))
        refine ls_keep [(2, .bool false)] ⟨kr, trivial⟩ rfl ?_
        refine ls_ret ?_
        have q0 := (Option.some.inj h).symm
        have r0 := hr1
        rw [q0] at r0
        have hr := Option.some.inj r0
        rw [← hr]
        exact ⟨.inl rfl, rfl⟩
      · refine ls_cF rfl g15 ?_
        refine ls_skip ?_
        refine hK4 _ (ls_keep [(0, dL ci64 a0), (3, nI y1)] ⟨kr, kr, trivial⟩ rfl ?_)
        refine ls_rgn tbOk ?_
        refine evs (ev_mv (c := nI y1) rfl rfl rfl (evs (ev_bin (c1 := nI y1) (c2 := nI 1) rfl rfl rfl (evs (ev_as (c := nI (IntKind.i64.wrap (y1 + 1))) rfl rfl rfl (evn ?_))))))
        exact hN _ (IntKind.i64.wrap (y1 + 1)) h ⟨kr, kr, trivial⟩
  · refine ls_cF rfl g3 ?_
    refine ls_exit ?_
    have q0 := (Option.some.inj h).symm
    have r0 := hr1
    rw [q0] at r0
    exact kXspec_IsPermutation_B1 () r0 _ ⟨kr, trivial⟩
def spec_IsValidOrder_J1 (x2 : Bool) : Option (Bool) := some x2
def spec_IsValidOrder (a0 : Y91) (a1 : List Int) : Option (Bool) := obind (spec_IsValidQuery a0) fun v3 => cond v3 (cond ((List.length a1 : Int) == a0.1) (obind (spec_IsPermutation a1) fun v7 => spec_IsValidOrder_J1 v7) (spec_IsValidOrder_J1 false)) (spec_IsValidOrder_J1 false)
theorem spec_IsValidOrder_s {a0 : Y91} {a1 : List Int} {r : Bool} (h : spec_IsValidOrder a0 a1 = some r) : SoundAt Try.prog 125 [.agg (c92_ddd a0), dL ci64 a1] (.bool r) := by
  unfold spec_IsValidOrder at h
  refine sound_lit tbOk lit125 (nb rfl) rfl ?_
  unfold c125
  refine ls_keep [(0, .agg (c92_ddd a0)), (1, dL ci64 a1)] ⟨kr, kr, trivial⟩ rfl ?_
  refine ls_rs tbOk ?_
  refine evs (ev_bx (c1 := .agg (c92_ddd a0)) rfl rfl rfl (evs (ev_ac rfl nofun rfl (evn ?_))))
  refine ls_keep [(1, dL ci64 a1), (2, .box [nI a0.1, dL c195_d a0.2.1, dL ci64 a0.2.2])] ⟨kr, kr, trivial⟩ rfl ?_
  refine ls_rs_k tbOk fun K1 hK1 => ?_
  have kspec_IsValidOrder_J1 : ∀ (x2 : Bool), spec_IsValidOrder_J1 x2 = some r → ∀ σ' : PS, okK σ' [(4, .bool x2)] → K1 σ' := by
    intro x2 h σ' hk
    unfold spec_IsValidOrder_J1 at h
    refine hK1 _ (ls_keep [(4, .bool x2)] hk rfl ?_)
    refine ls_ret ?_
    have hr := Option.some.inj h
    rw [← hr]
    exact ⟨.inl rfl, rfl⟩
  refine evs (ev_ldB (off := 0) (v := .agg (c92_ddd a0)) rfl rfl rfl rfl (nb rfl) rfl (?_))
  obtain ⟨v3, g4, h⟩ := ob_some h
  refine evs (ev_call (era rfl (erg (erc rfl (erc (erD ec195_d _) (erc (erD eci64 _) rfl)))) eran) (spec_IsValidQuery_s g4) (evs (ev_mv (c := .bool v3) rfl rfl rfl (?_))))
  rcases cond_some h with ⟨g5, h⟩ | ⟨g5, h⟩
  · refine evs (ev_gr rfl (congrArg V.bool g5) (ev_mv (c := dL ci64 a1) rfl rfl rfl (evs (ev_gr rfl (congrArg V.bool g5) (ev_len (c1 := dL ci64 a1) rfl rfl rfl (evs (ev_gr rfl (congrArg V.bool g5) (ev_fa (c1 := .cref 2 0) (v := .cref 2 0) rfl rfl rfl ⟨_, rfl⟩ rfl (evs (ev_gr rfl (congrArg V.bool g5) (ev_ldB (off := 0) (v := nI a0.1) rfl rfl rfl rfl (nb rfl) rfl (evs (ev_gr rfl (congrArg V.bool g5) (ev_bin (c1 := nI (List.length a1 : Int)) (c2 := nI a0.1) rfl rfl rfl (evs (ev_pkT (c1 := .bool ((List.length a1 : Int) == a0.1)) rfl g5 rfl rfl (evs (ev_mv (c := .bool ((List.length a1 : Int) == a0.1)) rfl rfl rfl (?_)))))))))))))))))))
    rcases cond_some h with ⟨g6, h⟩ | ⟨g6, h⟩
    · refine evs (ev_gr rfl (congrArg V.bool g6) (ev_mv (c := dL ci64 a1) rfl rfl rfl (?_)))
      obtain ⟨v7, g8, h⟩ := ob_some h
      refine evs (ev_gr rfl (congrArg V.bool g6) (ev_call (era rfl (erD eci64 _) eran) (spec_IsPermutation_s g8) (evs (ev_pkT (c1 := .bool v7) rfl g6 rfl rfl (evs (ev_as (c := .bool v7) rfl rfl rfl (evn ?_)))))))
      exact kspec_IsValidOrder_J1 v7 h _ ⟨kr, trivial⟩
    · refine evs (ev_gs rfl rfl (isb_F g6) (evs (ev_gs rfl rfl (isb_F g6) (evs (ev_pkF (c1 := .bool false) rfl g6 rfl rfl (evs (ev_as (c := .bool false) rfl rfl rfl (evn ?_))))))))
      exact kspec_IsValidOrder_J1 false h _ ⟨kr, trivial⟩
  · refine evs (ev_gs rfl rfl (isb_F g5) (evs (ev_gs rfl rfl (isb_F g5) (evs (ev_gs rfl rfl (isb_F g5) (evs (ev_gs rfl rfl (isb_F g5) (evs (ev_gs rfl rfl (isb_F g5) (evs (ev_pkF (c1 := .bool false) rfl g5 rfl rfl (evs (ev_mv (c := .bool false) rfl rfl rfl (evs (ev_gs rfl rfl rfl (evs (ev_gs rfl rfl rfl (evs (ev_pkF (c1 := .bool false) rfl rfl rfl rfl (evs (ev_as (c := .bool false) rfl rfl rfl (evn ?_))))))))))))))))))))))
    exact kspec_IsValidOrder_J1 false h _ ⟨kr, trivial⟩
end Go.Proofs.Ytkcfahfladikkaa
