/-
  Functions of the program as typed functions, printed by gen.py, and that the program's functions do what they say. No conditions.
-/
import Derived.Test.YtkcfahfladikkaaGSX1
namespace Go.Proofs.Ytkcfahfladikkaa
open Go.RowKit
set_option linter.unusedVariables false
set_option maxRecDepth 100000
set_option maxHeartbeats 1000000
def spec_IsValidPlan (a0 : Y91) (a1 : Y96) : Option (Bool) := cond (a1.1 == 1) (obind (spec_IsValidJoinTree a0 a1.2.2.1) fun v3 => some v3) (cond (a1.1 == 2) (obind (spec_IsValidDecomposition a0 a1.2.2.2) fun v6 => some v6) (cond (a1.1 == 3) (obind (spec_IsValidOrder a0 a1.2.1) fun v9 => some v9) (some false)))
theorem spec_IsValidPlan_s {a0 : Y91} {a1 : Y96} {r : Bool} (h : spec_IsValidPlan a0 a1 = some r) : SoundAt Try.prog 45 [.agg (c92_ddd a0), .agg (c97_ddddd a1)] (.bool r) := by
  unfold spec_IsValidPlan at h
  refine sound_lit tbOk lit45 (nb rfl) rfl ?_
  unfold c45
  refine ls_keep [(0, .agg (c92_ddd a0)), (1, .agg (c97_ddddd a1))] ⟨kr, kr, trivial⟩ rfl ?_
  refine ls_rs tbOk ?_
  refine evs (ev_bx (c1 := .agg (c92_ddd a0)) rfl rfl rfl (evs (ev_bx (c1 := .agg (c97_ddddd a1)) rfl rfl rfl (evs (ev_ac rfl nofun rfl (evn ?_))))))
  refine ls_keep [(2, .box [nI a0.1, dL c195_d a0.2.1, dL ci64 a0.2.2]), (3, .box [nI a1.1, dL ci64 a1.2.1, dL ci64 a1.2.2.1, dL c25_d a1.2.2.2.1, dL ci64 a1.2.2.2.2])] ⟨kr, kr, trivial⟩ rfl ?_
  refine ls_seq_k fun K1 hK1 => ?_
  refine ls_rs tbOk ?_
  refine evs (ev_fa (c1 := .cref 3 0) (v := .cref 3 0) rfl rfl rfl ⟨_, rfl⟩ rfl (evs (ev_ldB (off := 0) (v := nI a1.1) rfl rfl rfl rfl (nb rfl) rfl (evn ?_))))
  refine ls_keep [(2, .box [nI a0.1, dL c195_d a0.2.1, dL ci64 a0.2.2]), (3, .box [nI a1.1, dL ci64 a1.2.1, dL ci64 a1.2.2.1, dL c25_d a1.2.2.2.1, dL ci64 a1.2.2.2.2]), (6, nI a1.1)] ⟨kr, kr, kr, trivial⟩ rfl ?_
  refine ls_blk ?_
  refine ls_rs tbOk ?_
  refine evs (ev_bin (c1 := nI a1.1) (c2 := nI 1) rfl rfl rfl (evs (ev_as (c := .bool (a1.1 == 1)) rfl rfl rfl (evn ?_))))
  refine ls_keep [(2, .box [nI a0.1, dL c195_d a0.2.1, dL ci64 a0.2.2]), (3, .box [nI a1.1, dL ci64 a1.2.1, dL ci64 a1.2.2.1, dL c25_d a1.2.2.2.1, dL ci64 a1.2.2.2.2]), (6, nI a1.1), (7, .bool (a1.1 == 1))] ⟨kr, kr, kr, kr, trivial⟩ rfl ?_
  rcases cond_some h with ⟨g2, h⟩ | ⟨g2, h⟩
  · refine ls_cT rfl g2 ?_
    refine ls_rs tbOk ?_
    refine evs (ev_ldB (off := 0) (v := .agg (c92_ddd a0)) rfl rfl rfl rfl (nb rfl) rfl (evs (ev_fa (c1 := .cref 3 0) (v := .cref 3 2) rfl rfl rfl ⟨_, rfl⟩ rfl (evs (ev_ldB (off := 2) (v := .agg [dL ci64 a1.2.2.1]) rfl rfl rfl rfl (nb rfl) rfl (?_))))))
    obtain ⟨v3, g4, h⟩ := ob_some h
    refine evs (ev_call (era rfl (erg (erc rfl (erc (erD ec195_d _) (erc (erD eci64 _) rfl)))) (era rfl (erg (erc (erD eci64 _) rfl)) eran)) (spec_IsValidJoinTree_s g4) (evs (ev_as (c := .bool v3) rfl rfl rfl (evn ?_))))
    refine ls_keep [(4, .bool v3)] ⟨kr, trivial⟩ rfl ?_
    refine ls_ret ?_
    have hr := Option.some.inj h
    rw [← hr]
    exact ⟨.inl rfl, rfl⟩
  · refine ls_cF rfl g2 ?_
    refine ls_rs tbOk ?_
    refine evs (ev_bin (c1 := nI a1.1) (c2 := nI 2) rfl rfl rfl (evs (ev_as (c := .bool (a1.1 == 2)) rfl rfl rfl (evn ?_))))
    refine ls_keep [(2, .box [nI a0.1, dL c195_d a0.2.1, dL ci64 a0.2.2]), (3, .box [nI a1.1, dL ci64 a1.2.1, dL ci64 a1.2.2.1, dL c25_d a1.2.2.2.1, dL ci64 a1.2.2.2.2]), (6, nI a1.1), (13, .bool (a1.1 == 2))] ⟨kr, kr, kr, kr, trivial⟩ rfl ?_
    rcases cond_some h with ⟨g5, h⟩ | ⟨g5, h⟩
    · refine ls_cT rfl g5 ?_
      refine ls_rs tbOk ?_
      refine evs (ev_ldB (off := 0) (v := .agg (c92_ddd a0)) rfl rfl rfl rfl (nb rfl) rfl (evs (ev_fa (c1 := .cref 3 0) (v := .cref 3 3) rfl rfl rfl ⟨_, rfl⟩ rfl (evs (ev_ldB (off := 3) (v := .agg (c95_ddd a1.2.2.2)) rfl rfl rfl rfl (nb rfl) rfl (?_))))))
      obtain ⟨v6, g7, h⟩ := ob_some h
      refine evs (ev_call (era rfl (erg (erc rfl (erc (erD ec195_d _) (erc (erD eci64 _) rfl)))) (era rfl (erg (erc (erD ec25_d _) (erc (erD eci64 _) rfl))) eran)) (spec_IsValidDecomposition_s g7) (evs (ev_as (c := .bool v6) rfl rfl rfl (evn ?_))))
      refine ls_keep [(4, .bool v6)] ⟨kr, trivial⟩ rfl ?_
      refine ls_ret ?_
      have hr := Option.some.inj h
      rw [← hr]
      exact ⟨.inl rfl, rfl⟩
    · refine ls_cF rfl g5 ?_
      refine ls_rs tbOk ?_
      refine evs (ev_bin (c1 := nI a1.1) (c2 := nI 3) rfl rfl rfl (evs (ev_as (c := .bool (a1.1 == 3)) rfl rfl rfl (evn ?_))))
      refine ls_keep [(2, .box [nI a0.1, dL c195_d a0.2.1, dL ci64 a0.2.2]), (3, .box [nI a1.1, dL ci64 a1.2.1, dL ci64 a1.2.2.1, dL c25_d a1.2.2.2.1, dL ci64 a1.2.2.2.2]), (19, .bool (a1.1 == 3))] ⟨kr, kr, kr, trivial⟩ rfl ?_
      rcases cond_some h with ⟨g8, h⟩ | ⟨g8, h⟩
      · refine ls_cT rfl g8 ?_
        refine ls_rs tbOk ?_
        refine evs (ev_ldB (off := 0) (v := .agg (c92_ddd a0)) rfl rfl rfl rfl (nb rfl) rfl (evs (ev_fa (c1 := .cref 3 0) (v := .cref 3 1) rfl rfl rfl ⟨_, rfl⟩ rfl (evs (ev_ldB (off := 1) (v := dL ci64 a1.2.1) rfl rfl rfl rfl (nb rfl) rfl (?_))))))
        obtain ⟨v9, g10, h⟩ := ob_some h
        refine evs (ev_call (era rfl (erg (erc rfl (erc (erD ec195_d _) (erc (erD eci64 _) rfl)))) (era rfl (erD eci64 _) eran)) (spec_IsValidOrder_s g10) (evs (ev_as (c := .bool v9) rfl rfl rfl (evn ?_))))
        refine ls_keep [(4, .bool v9)] ⟨kr, trivial⟩ rfl ?_
        refine ls_ret ?_
        have hr := Option.some.inj h
        rw [← hr]
        exact ⟨.inl rfl, rfl⟩
      · refine ls_cF rfl g8 ?_
        refine ls_skip ?_
        refine hK1 _ (ls_keep [] trivial rfl ?_)
        refine ls_rs tbOk ?_
        refine evs (ev_ac rfl nofun rfl (evn ?_))
        refine ls_keep [(4, .bool false)] ⟨kr, trivial⟩ rfl ?_
        refine ls_ret ?_
        have hr := Option.some.inj h
        rw [← hr]
        exact ⟨.inl rfl, rfl⟩
def spec_l2Dec_R (rec : (Int) → Option ((List UInt8))) (a0 : Int) : Option ((List UInt8)) := cond (decide (a0 ≤ (-10))) (obind (rec (IntKind.i64.wrap (0 - (IntKind.i64.wrap (Int.tdiv a0 10))))) fun v3 => chk (List.length [45] + List.length v3 ≤ lim) (obind (rec (IntKind.i64.wrap (0 - (Int.tmod a0 10)))) fun v6 => chk (List.length ([45] ++ v3) + List.length v6 ≤ lim) (some (([45] ++ v3) ++ v6)))) (cond (decide (a0 < 0)) (obind (rec (IntKind.i64.wrap (0 - a0))) fun v11 => chk (List.length [45] + List.length v11 ≤ lim) (some ([45] ++ v11))) (cond (decide (a0 < 10)) (some (bytesOf [IntKind.u8.wrap (IntKind.i64.wrap (48 + a0))])) (obind (rec (IntKind.i64.wrap (Int.tdiv a0 10))) fun v16 => chk (List.length v16 + List.length (bytesOf [IntKind.u8.wrap (IntKind.i64.wrap (48 + (Int.tmod a0 10)))]) ≤ lim) (some (v16 ++ (bytesOf [IntKind.u8.wrap (IntKind.i64.wrap (48 + (Int.tmod a0 10)))]))))))
def spec_l2Dec (a0 : Int) : Option ((List UInt8)) := loopF spec_l2Dec_R fz a0
theorem spec_l2Dec_s {a0 : Int} {r : (List UInt8)} (h : spec_l2Dec a0 = some r) : SoundAt Try.prog 183 [nI a0] (.str r) := by
  suffices key : ∀ m (a0 : Int) (r : (List UInt8)), loopF spec_l2Dec_R m a0 = some r → SoundAt Try.prog 183 [nI a0] (.str r) from key fz a0 r h
  intro m
  induction m with
  | zero => intro a0 r h; cases h
  | succ m ih0 =>
    intro a0 r h
    have ih : ∀ {a0 : Int} {r : (List UInt8)}, loopF spec_l2Dec_R m a0 = some r → SoundAt Try.prog 183 [nI a0] (.str r) := fun h => ih0 _ _ h
    change spec_l2Dec_R (loopF spec_l2Dec_R m) a0 = some r at h
    unfold spec_l2Dec_R at h
    try dsimp only at h
    refine sound_lit tbOk lit183 (nb rfl) rfl ?_
    unfold c183
    refine ls_keep [(0, nI a0)] ⟨kr, trivial⟩ rfl ?_
    refine ls_rs tbOk ?_
    refine evs (ev_ac rfl nofun rfl (evn ?_))
    refine ls_keep [(0, nI a0)] ⟨kr, trivial⟩ rfl ?_
    refine ls_seq_k fun K1 hK1 => ?_
    refine ls_rs tbOk ?_
    refine evs (ev_mv (c := nI a0) rfl rfl rfl (evs (ev_bin (c1 := nI a0) (c2 := nI (-10)) rfl rfl rfl (evn ?_))))
    refine ls_keep [(0, nI a0), (4, .bool (decide (a0 ≤ (-10))))] ⟨kr, kr, trivial⟩ rfl ?_
    rcases cond_some h with ⟨g2, h⟩ | ⟨g2, h⟩
    · refine ls_cT rfl g2 ?_
      refine ls_rs tbOk ?_
      refine evs (ev_mv (c := nI a0) rfl rfl rfl (evs (ev_bin (c1 := nI a0) (c2 := nI 10) rfl rfl ⟨rfl, by decide⟩ (evs (ev_un (c1 := nI (IntKind.i64.wrap (Int.tdiv a0 10))) rfl trivial (?_))))))
      obtain ⟨v3, g4, h⟩ := ob_some h
      refine evs (ev_call (era rfl rfl eran) (ih g4) (?_))
      obtain ⟨g5, h⟩ := chk_some h
      refine evs (ev_bin (c1 := .str [45]) (c2 := .str v3) rfl rfl g5 (evs (ev_mv (c := nI a0) rfl rfl rfl (evs (ev_bin (c1 := nI a0) (c2 := nI 10) rfl rfl ⟨rfl, by decide⟩ (evs (ev_un (c1 := nI (Int.tmod a0 10)) rfl trivial (?_))))))))
      obtain ⟨v6, g7, h⟩ := ob_some h
      refine evs (ev_call (era rfl rfl eran) (ih g7) (?_))
      obtain ⟨g8, h⟩ := chk_some h
      refine evs (ev_bin (c1 := .str ([45] ++ v3)) (c2 := .str v6) rfl rfl g8 (evs (ev_as (c := .str (([45] ++ v3) ++ v6)) rfl rfl rfl (evn ?_))))
      refine ls_keep [(2, .str (([45] ++ v3) ++ v6))] ⟨kr, trivial⟩ rfl ?_
      refine ls_ret ?_
      have hr := Option.some.inj h
      rw [← hr]
      exact ⟨.inl rfl, rfl⟩
    · refine ls_cF rfl g2 ?_
      refine ls_skip ?_
      refine hK1 _ (ls_keep [(0, nI a0)] ⟨kr, trivial⟩ rfl ?_)
      refine ls_seq_k fun K9 hK9 => ?_
      refine ls_rs tbOk ?_
      refine evs (ev_mv (c := nI a0) rfl rfl rfl (evs (ev_bin (c1 := nI a0) (c2 := nI 0) rfl rfl rfl (evn ?_))))
      refine ls_keep [(0, nI a0), (16, .bool (decide (a0 < 0)))] ⟨kr, kr, trivial⟩ rfl ?_
      rcases cond_some h with ⟨g10, h⟩ | ⟨g10, h⟩
      · refine ls_cT rfl g10 ?_
        refine ls_rs tbOk ?_
        refine evs (ev_mv (c := nI a0) rfl rfl rfl (evs (ev_un (c1 := nI a0) rfl trivial (?_))))
        obtain ⟨v11, g12, h⟩ := ob_some h
        refine evs (ev_call (era rfl rfl eran) (ih g12) (?_))
        obtain ⟨g13, h⟩ := chk_some h
        refine evs (ev_bin (c1 := .str [45]) (c2 := .str v11) rfl rfl g13 (evs (ev_as (c := .str ([45] ++ v11)) rfl rfl rfl (evn ?_))))
        refine ls_keep [(2, .str ([45] ++ v11))] ⟨kr, trivial⟩ rfl ?_
        refine ls_ret ?_
        have hr := Option.some.inj h
        rw [← hr]
        exact ⟨.inl rfl, rfl⟩
      · refine ls_cF rfl g10 ?_
        refine ls_skip ?_
        refine hK9 _ (ls_keep [(0, nI a0)] ⟨kr, trivial⟩ rfl ?_)
        refine ls_seq_k fun K14 hK14 => ?_
        refine ls_rs tbOk ?_
        refine evs (ev_mv (c := nI a0) rfl rfl rfl (evs (ev_bin (c1 := nI a0) (c2 := nI 10) rfl rfl rfl (evn ?_))))
        refine ls_keep [(0, nI a0), (22, .bool (decide (a0 < 10)))] ⟨kr, kr, trivial⟩ rfl ?_
        rcases cond_some h with ⟨g15, h⟩ | ⟨g15, h⟩
        · refine ls_cT rfl g15 ?_
          refine ls_rs tbOk ?_
          refine evs (ev_mv (c := nI a0) rfl rfl rfl (evs (ev_bin (c1 := nI 48) (c2 := nI a0) rfl rfl rfl (evs (ev_cvi rfl rfl rfl (evs (ev_bs [.int .u8 (IntKind.u8.wrap (IntKind.i64.wrap (48 + a0)))] (cs := [.int .u8 (IntKind.u8.wrap (IntKind.i64.wrap (48 + a0)))]) rfl ⟨rfl, trivial⟩ rfl (nb rfl) rfl (evs (ev_cvs (l := [IntKind.u8.wrap (IntKind.i64.wrap (48 + a0))]) rfl rfl rfl rfl (evs (ev_as (c := .str (bytesOf [IntKind.u8.wrap (IntKind.i64.wrap (48 + a0))])) rfl rfl rfl (evn ?_))))))))))))
          refine ls_keep [(2, .str (bytesOf [IntKind.u8.wrap (IntKind.i64.wrap (48 + a0))]))] ⟨kr, trivial⟩ rfl ?_
          refine ls_ret ?_
          have hr := Option.some.inj h
          rw [← hr]
          exact ⟨.inl rfl, rfl⟩
        · refine ls_cF rfl g15 ?_
          refine ls_skip ?_
          refine hK14 _ (ls_keep [(0, nI a0)] ⟨kr, trivial⟩ rfl ?_)
          refine ls_rd tbOk mixed (by kernel_rfl) ?_
          refine evd rfl rfl (ev_mv (c := nI a0) rfl rfl rfl (evd rfl rfl (ev_bin (c1 := nI a0) (c2 := nI 10) rfl rfl ⟨rfl, by decide⟩ (?_))))
          obtain ⟨v16, g17, h⟩ := ob_some h
          refine evd rfl rfl (ev_call (era rfl rfl eran) (ih g17) (evd rfl rfl (ev_mv (c := nI a0) rfl rfl rfl (evd rfl rfl (ev_bin (c1 := nI a0) (c2 := nI 10) rfl rfl ⟨rfl, by decide⟩ (evd rfl rfl (ev_bin (c1 := nI 48) (c2 := nI (Int.tmod a0 10)) rfl rfl rfl (evd rfl rfl (ev_cvi rfl rfl rfl (evd rfl rfl (ev_bs [.int .u8 (IntKind.u8.wrap (IntKind.i64.wrap (48 + (Int.tmod a0 10))))] (cs := [.int .u8 (IntKind.u8.wrap (IntKind.i64.wrap (48 + (Int.tmod a0 10))))]) rfl ⟨rfl, trivial⟩ rfl (nb rfl) rfl (evd rfl rfl (ev_cvs (l := [IntKind.u8.wrap (IntKind.i64.wrap (48 + (Int.tmod a0 10)))]) rfl rfl rfl rfl (?_))))))))))))))
          obtain ⟨g18, h⟩ := chk_some h
          refine evd rfl rfl (ev_bin (c1 := .str v16) (c2 := .str (bytesOf [IntKind.u8.wrap (IntKind.i64.wrap (48 + (Int.tmod a0 10)))])) rfl rfl g18 (evd rfl rfl (ev_as (c := .str (v16 ++ (bytesOf [IntKind.u8.wrap (IntKind.i64.wrap (48 + (Int.tmod a0 10)))]))) rfl rfl rfl (evdn ?_))))
          refine ls_keep [(2, .str (v16 ++ (bytesOf [IntKind.u8.wrap (IntKind.i64.wrap (48 + (Int.tmod a0 10)))])))] ⟨kr, trivial⟩ rfl ?_
          refine ls_ret ?_
          have hr := Option.some.inj h
          rw [← hr]
          exact ⟨.inl rfl, rfl⟩
def spec_l34Ints_J2 (rec : ((List UInt8) × Int) → Option ((List UInt8))) (a0 : List Int) (y2 : Int) (x7 : List UInt8) : Option ((List UInt8)) := obind (geti a0 y2) fun e8 => obind (spec_l2Dec e8) fun v10 => chk (List.length x7 + List.length v10 ≤ lim) (rec ((x7 ++ v10), (IntKind.i64.wrap (y2 + 1))))
def spec_l34Ints_B1 (a0 : List Int) (rec : ((List UInt8) × Int) → Option ((List UInt8))) (s : (List UInt8) × Int) : Option ((List UInt8)) := match s with
  | (y1, y2) => cond (decide (y2 < (List.length a0 : Int))) (cond (decide (0 < y2)) (chk (List.length y1 + List.length [32] ≤ lim) (spec_l34Ints_J2 rec a0 y2 (y1 ++ [32]))) (spec_l34Ints_J2 rec a0 y2 y1)) (some y1)
def spec_l34Ints (a0 : List Int) : Option ((List UInt8)) := obind (loopF (spec_l34Ints_B1 a0) fz ([], 0)) fun z2 => some z2
theorem spec_l34Ints_s {a0 : List Int} {r : (List UInt8)} (h : spec_l34Ints a0 = some r) : SoundAt Try.prog 141 [dL ci64 a0] (.str r) := by
  unfold spec_l34Ints at h
  refine sound_lit tbOk lit141 (nb rfl) rfl ?_
  unfold c141
  refine ls_keep [(0, dL ci64 a0)] ⟨kr, trivial⟩ rfl ?_
  refine ls_rs tbOk ?_
  refine evs (ev_ac rfl nofun rfl (evn ?_))
  refine ls_keep [(0, dL ci64 a0)] ⟨kr, trivial⟩ rfl ?_
  refine ls_rs tbOk ?_
  refine evs (ev_ac rfl nofun rfl (evn ?_))
  refine ls_keep [(0, dL ci64 a0), (3, .str [])] ⟨kr, kr, trivial⟩ rfl ?_
  refine ls_seq_k fun K1 hK1 => ?_
  refine ls_rs tbOk ?_
  refine evs (ev_ac rfl nofun rfl (evn ?_))
  refine ls_keep [(0, dL ci64 a0), (3, .str []), (4, nI 0)] ⟨kr, kr, kr, trivial⟩ rfl ?_
  obtain ⟨o1, hl, hr1⟩ := ob_some h
  clear h
  have kXspec_l34Ints_B1 : ∀ (z2 : List UInt8), (some z2) = some r → ∀ σ' : PS, okK σ' [(3, .str z2)] → K1 σ' := by
    intro z2 h σ' hk
    refine hK1 _ (ls_keep [(3, .str z2)] hk rfl ?_)
    refine ls_rs tbOk ?_
    refine evs (ev_mv (c := .str z2) rfl rfl rfl (evs (ev_as (c := .str z2) rfl rfl rfl (evn ?_))))
    refine ls_keep [(2, .str z2)] ⟨kr, trivial⟩ rfl ?_
    refine ls_ret ?_
    have hr := Option.some.inj h
    rw [← hr]
    exact ⟨.inl rfl, rfl⟩
  refine ls_rec (fun (s : (List UInt8) × Int) => match s with | (y1, y2) => [(0, dL ci64 a0), (3, .str y1), (4, nI y2)]) (spec_l34Ints_B1 a0) fz ([], 0) o1 hl ⟨kr, kr, kr, trivial⟩ (fun _ => rfl) ?_
  rintro m ⟨y1, y2⟩ N h hN
  unfold spec_l34Ints_B1 at h
  dsimp only at h
  refine ls_seq_k fun K3 hK3 => ?_
  refine ls_rs tbOk ?_
  refine evs (ev_mv (c := nI y2) rfl rfl rfl (evs (ev_mv (c := dL ci64 a0) rfl rfl rfl (evs (ev_len (c1 := dL ci64 a0) rfl rfl rfl (evs (ev_bin (c1 := nI y2) (c2 := nI (List.length a0 : Int)) rfl rfl rfl (evn ?_))))))))
  refine ls_keep [(0, dL ci64 a0), (3, .str y1), (4, nI y2), (8, .bool (decide (y2 < (List.length a0 : Int))))] ⟨kr, kr, kr, kr, trivial⟩ rfl ?_
  rcases cond_some h with ⟨g4, h⟩ | ⟨g4, h⟩
  · refine ls_cT rfl g4 ?_
    refine ls_skip ?_
    refine hK3 _ (ls_keep [(0, dL ci64 a0), (3, .str y1), (4, nI y2)] ⟨kr, kr, kr, trivial⟩ rfl ?_)
    refine ls_seq_k fun K5 hK5 => ?_
    refine ls_blk ?_
    refine ls_seq_k fun K6 hK6 => ?_
    refine ls_rs tbOk ?_
    refine evs (ev_mv (c := nI y2) rfl rfl rfl (evs (ev_bin (c1 := nI y2) (c2 := nI 0) rfl rfl rfl (evn ?_))))
    refine ls_keep [(0, dL ci64 a0), (3, .str y1), (4, nI y2), (12, .bool (decide (0 < y2)))] ⟨kr, kr, kr, kr, trivial⟩ rfl ?_
    have kspec_l34Ints_J2 : ∀ (x7 : List UInt8), spec_l34Ints_J2 (loopF (spec_l34Ints_B1 a0) m) a0 y2 x7 = some o1 → ∀ σ' : PS, okK σ' [(0, dL ci64 a0), (3, .str x7), (4, nI y2)] → K6 σ' := by
      intro x7 h σ' hk
      unfold spec_l34Ints_J2 at h
      refine hK6 _ (ls_keep [(0, dL ci64 a0), (3, .str x7), (4, nI y2)] hk rfl ?_)
      refine ls_rgn tbOk ?_
      refine evs (ev_mv (c := .str x7) rfl rfl rfl (evs (ev_mv (c := dL ci64 a0) rfl rfl rfl (evs (ev_mv (c := nI y2) rfl rfl rfl (?_))))))
      obtain ⟨e8, g9, h⟩ := ob_some h
      refine evs (ev_ia rfl rfl rfl ⟨(geti_some g9).1, (geti_some g9).2.1⟩ (evs (ev_ldE (i := y2) (n := 1) (off := 0) (v := nI e8) rfl rfl zci64 g9 rfl (nb rfl) rfl (?_))))
      obtain ⟨v10, g11, h⟩ := ob_some h
      refine evs (ev_call (era rfl rfl eran) (spec_l2Dec_s g11) (?_))
      obtain ⟨g12, h⟩ := chk_some h
      refine evs (ev_bin (c1 := .str x7) (c2 := .str v10) rfl rfl g12 (evs (ev_as (c := .str (x7 ++ v10)) rfl rfl rfl (evn ?_))))
      refine hK5 _ (ls_keep [(0, dL ci64 a0), (3, .str (x7 ++ v10)), (4, nI y2)] ⟨kr, kr, kr, trivial⟩ rfl ?_)
      refine ls_rgn tbOk ?_
      refine evs (ev_mv (c := nI y2) rfl rfl rfl (evs (ev_bin (c1 := nI y2) (c2 := nI 1) rfl rfl rfl (evs (ev_as (c := nI (IntKind.i64.wrap (y2 + 1))) rfl rfl rfl (evn ?_))))))
      exact hN _ ((x7 ++ v10), (IntKind.i64.wrap (y2 + 1))) h ⟨kr, kr, kr, trivial⟩
    rcases cond_some h with ⟨g13, h⟩ | ⟨g13, h⟩
    · refine ls_cT rfl g13 ?_
      refine ls_rgn tbOk ?_
      refine evs (ev_mv (c := .str y1) rfl rfl rfl (?_))
      obtain ⟨g14, h⟩ := chk_some h
      refine evs (ev_bin (c1 := .str y1) (c2 := .str [32]) rfl rfl g14 (evs (ev_as (c := .str (y1 ++ [32])) rfl rfl rfl (evn ?_))))
      exact kspec_l34Ints_J2 (y1 ++ [32]) h _ ⟨kr, kr, kr, trivial⟩
    · refine ls_cF rfl g13 ?_
      refine ls_skip ?_
      exact kspec_l34Ints_J2 y1 h _ ⟨kr, kr, kr, trivial⟩
  · refine ls_cF rfl g4 ?_
    refine ls_exit ?_
    have q0 := (Option.some.inj h).symm
    have r0 := hr1
    rw [q0] at r0
    exact kXspec_l34Ints_B1 y1 r0 _ ⟨kr, trivial⟩
def spec_VariableName (a0 : Int) : Option ((List UInt8)) := obind (spec_l1In a0 0 4) fun v2 => cond (!v2) (some []) (chk ((0 : Int) ≤ a0 ∧ a0 ≤ IntKind.i64.wrap (a0 + 1) ∧ IntKind.i64.wrap (a0 + 1) ≤ (List.length [88, 89, 90, 85, 86] : Int)) (some (subl [88, 89, 90, 85, 86] a0 (IntKind.i64.wrap (a0 + 1)))))
theorem spec_VariableName_s {a0 : Int} {r : (List UInt8)} (h : spec_VariableName a0 = some r) : SoundAt Try.prog 180 [nI a0] (.str r) := by
  unfold spec_VariableName at h
  refine sound_lit tbOk lit180 (nb rfl) rfl ?_
  unfold c180
  refine ls_keep [(0, nI a0)] ⟨kr, trivial⟩ rfl ?_
  refine ls_rs tbOk ?_
  refine evs (ev_ac rfl nofun rfl (evn ?_))
  refine ls_keep [(0, nI a0)] ⟨kr, trivial⟩ rfl ?_
  refine ls_seq_k fun K1 hK1 => ?_
  refine ls_rs tbOk ?_
  refine evs (ev_mv (c := nI a0) rfl rfl rfl (?_))
  obtain ⟨v2, g3, h⟩ := ob_some h
  refine evs (ev_call (era rfl rfl (era rfl rfl (era rfl rfl eran))) (spec_l1In_s g3) (evs (ev_un (c1 := .bool v2) rfl trivial (evn ?_))))
  refine ls_keep [(0, nI a0), (5, .bool (!v2))] ⟨kr, kr, trivial⟩ rfl ?_
  rcases cond_some h with ⟨g4, h⟩ | ⟨g4, h⟩
  · refine ls_cT rfl g4 ?_
    refine ls_rs tbOk ?_
    refine evs (ev_ac rfl nofun rfl (evn ?_))
    refine ls_keep [(2, .str [])] ⟨kr, trivial⟩ rfl ?_
    refine ls_ret ?_
    have hr := Option.some.inj h
    rw [← hr]
    exact ⟨.inl rfl, rfl⟩
  · refine ls_cF rfl g4 ?_
    refine ls_skip ?_
    refine hK1 _ (ls_keep [(0, nI a0)] ⟨kr, trivial⟩ rfl ?_)
    refine ls_rs tbOk ?_
    refine evs (ev_mv (c := nI a0) rfl rfl rfl (evs (ev_mv (c := nI a0) rfl rfl rfl (evs (ev_bin (c1 := nI a0) (c2 := nI 1) rfl rfl rfl (?_))))))
    obtain ⟨g5, h⟩ := chk_some h
    refine evs (ev_sls rfl rfl rfl rfl g5 (evs (ev_as (c := .str (subl [88, 89, 90, 85, 86] a0 (IntKind.i64.wrap (a0 + 1)))) rfl rfl rfl (evn ?_))))
    refine ls_keep [(2, .str (subl [88, 89, 90, 85, 86] a0 (IntKind.i64.wrap (a0 + 1))))] ⟨kr, trivial⟩ rfl ?_
    refine ls_ret ?_
    have hr := Option.some.inj h
    rw [← hr]
    exact ⟨.inl rfl, rfl⟩
def spec_l7Vars_B1 (a0 : List Int) (rec : ((List UInt8) × Int) → Option ((List UInt8))) (s : (List UInt8) × Int) : Option ((List UInt8)) := match s with
  | (y1, y2) => cond (decide (y2 < (List.length a0 : Int))) (obind (geti a0 y2) fun e6 => obind (spec_VariableName e6) fun v8 => chk (List.length y1 + List.length v8 ≤ lim) (rec ((y1 ++ v8), (IntKind.i64.wrap (y2 + 1))))) (some y1)
def spec_l7Vars (a0 : List Int) : Option ((List UInt8)) := obind (loopF (spec_l7Vars_B1 a0) fz ([40], 0)) fun z2 => chk (List.length z2 + List.length [41] ≤ lim) (some (z2 ++ [41]))
theorem spec_l7Vars_s {a0 : List Int} {r : (List UInt8)} (h : spec_l7Vars a0 = some r) : SoundAt Try.prog 143 [dL ci64 a0] (.str r) := by
  unfold spec_l7Vars at h
  refine sound_lit tbOk lit143 (nb rfl) rfl ?_
  unfold c143
  refine ls_keep [(0, dL ci64 a0)] ⟨kr, trivial⟩ rfl ?_
  refine ls_rs tbOk ?_
  refine evs (ev_ac rfl nofun rfl (evn ?_))
  refine ls_keep [(0, dL ci64 a0)] ⟨kr, trivial⟩ rfl ?_
  refine ls_rs tbOk ?_
  refine evs (ev_ac rfl nofun rfl (evn ?_))
  refine ls_keep [(0, dL ci64 a0), (3, .str [40])] ⟨kr, kr, trivial⟩ rfl ?_
  refine ls_seq_k fun K1 hK1 => ?_
  refine ls_rs tbOk ?_
  refine evs (ev_ac rfl nofun rfl (evn ?_))
  refine ls_keep [(0, dL ci64 a0), (3, .str [40]), (4, nI 0)] ⟨kr, kr, kr, trivial⟩ rfl ?_
  obtain ⟨o1, hl, hr1⟩ := ob_some h
  clear h
  have kXspec_l7Vars_B1 : ∀ (z2 : List UInt8), (chk (List.length z2 + List.length [41] ≤ lim) (some (z2 ++ [41]))) = some r → ∀ σ' : PS, okK σ' [(3, .str z2)] → K1 σ' := by
    intro z2 h σ' hk
    refine hK1 _ (ls_keep [(3, .str z2)] hk rfl ?_)
    refine ls_rs tbOk ?_
    refine evs (ev_mv (c := .str z2) rfl rfl rfl (?_))
    obtain ⟨g11, h⟩ := chk_some h
    refine evs (ev_bin (c1 := .str z2) (c2 := .str [41]) rfl rfl g11 (evs (ev_as (c := .str (z2 ++ [41])) rfl rfl rfl (evn ?_))))
    refine ls_keep [(2, .str (z2 ++ [41]))] ⟨kr, trivial⟩ rfl ?_
    refine ls_ret ?_
    have hr := Option.some.inj h
    rw [← hr]
    exact ⟨.inl rfl, rfl⟩
  refine ls_rec (fun (s : (List UInt8) × Int) => match s with | (y1, y2) => [(0, dL ci64 a0), (3, .str y1), (4, nI y2)]) (spec_l7Vars_B1 a0) fz ([40], 0) o1 hl ⟨kr, kr, kr, trivial⟩ (fun _ => rfl) ?_
  rintro m ⟨y1, y2⟩ N h hN
  unfold spec_l7Vars_B1 at h
  dsimp only at h
  refine ls_seq_k fun K3 hK3 => ?_
  refine ls_rs tbOk ?_
  refine evs (ev_mv (c := nI y2) rfl rfl rfl (evs (ev_mv (c := dL ci64 a0) rfl rfl rfl (evs (ev_len (c1 := dL ci64 a0) rfl rfl rfl (evs (ev_bin (c1 := nI y2) (c2 := nI (List.length a0 : Int)) rfl rfl rfl (evn ?_))))))))
  refine ls_keep [(0, dL ci64 a0), (3, .str y1), (4, nI y2), (8, .bool (decide (y2 < (List.length a0 : Int))))] ⟨kr, kr, kr, kr, trivial⟩ rfl ?_
  rcases cond_some h with ⟨g4, h⟩ | ⟨g4, h⟩
  · refine ls_cT rfl g4 ?_
    refine ls_skip ?_
    refine hK3 _ (ls_keep [(0, dL ci64 a0), (3, .str y1), (4, nI y2)] ⟨kr, kr, kr, trivial⟩ rfl ?_)
    refine ls_seq_k fun K5 hK5 => ?_
    refine ls_blk ?_
    refine ls_rgn tbOk ?_
    refine evs (ev_mv (c := .str y1) rfl rfl rfl (evs (ev_mv (c := dL ci64 a0) rfl rfl rfl (evs (ev_mv (c := nI y2) rfl rfl rfl (?_))))))
    obtain ⟨e6, g7, h⟩ := ob_some h
    refine evs (ev_ia rfl rfl rfl ⟨(geti_some g7).1, (geti_some g7).2.1⟩ (evs (ev_ldE (i := y2) (n := 1) (off := 0) (v := nI e6) rfl rfl zci64 g7 rfl (nb rfl) rfl (?_))))
    obtain ⟨v8, g9, h⟩ := ob_some h
    refine evs (ev_call (era rfl rfl eran) (spec_VariableName_s g9) (?_))
    obtain ⟨g10, h⟩ := chk_some h
    refine evs (ev_bin (c1 := .str y1) (c2 := .str v8) rfl rfl g10 (evs (ev_as (c := .str (y1 ++ v8)) rfl rfl rfl (evn ?_))))
    refine hK5 _ (ls_keep [(0, dL ci64 a0), (3, .str (y1 ++ v8)), (4, nI y2)] ⟨kr, kr, kr, trivial⟩ rfl ?_)
    refine ls_rgn tbOk ?_
    refine evs (ev_mv (c := nI y2) rfl rfl rfl (evs (ev_bin (c1 := nI y2) (c2 := nI 1) rfl rfl rfl (evs (ev_as (c := nI (IntKind.i64.wrap (y2 + 1))) rfl rfl rfl (evn ?_))))))
    exact hN _ ((y1 ++ v8), (IntKind.i64.wrap (y2 + 1))) h ⟨kr, kr, kr, trivial⟩
  · refine ls_cF rfl g4 ?_
    refine ls_exit ?_
    have q0 := (Option.some.inj h).symm
    have r0 := hr1
    rw [q0] at r0
    exact kXspec_l7Vars_B1 y1 r0 _ ⟨kr, trivial⟩
def spec_FormatDecomposition_J3 (rec : ((List UInt8) × Int) → Option ((List UInt8))) (y2 : Int) (x16 : List UInt8) : Option ((List UInt8)) := rec (x16, (IntKind.i64.wrap (y2 + 1)))
def spec_FormatDecomposition_J2 (rec : ((List UInt8) × Int) → Option ((List UInt8))) (a0 : Y83) (y2 : Int) (x8 : List UInt8) : Option ((List UInt8)) := obind (geti a0.1 y2) fun e9 => obind (spec_l7Vars e9) fun v11 => chk (List.length x8 + List.length v11 ≤ lim) (obind (geti a0.2 y2) fun e14 => cond (decide (0 ≤ e14)) (obind (geti a0.2 y2) fun e18 => obind (spec_l2Dec e18) fun v20 => chk (List.length (x8 ++ v11) + List.length v20 ≤ lim) (spec_FormatDecomposition_J3 rec y2 ((x8 ++ v11) ++ v20))) (spec_FormatDecomposition_J3 rec y2 (x8 ++ v11)))
def spec_FormatDecomposition_B1 (a0 : Y83) (rec : ((List UInt8) × Int) → Option ((List UInt8))) (s : (List UInt8) × Int) : Option ((List UInt8)) := match s with
  | (y1, y2) => cond (decide (y2 < (List.length a0.1 : Int))) (cond ((List.length a0.1 : Int) == (List.length a0.2 : Int)) (cond (decide (0 < y2)) (chk (List.length y1 + List.length [32] ≤ lim) (spec_FormatDecomposition_J2 rec a0 y2 (y1 ++ [32]))) (spec_FormatDecomposition_J2 rec a0 y2 y1)) (some y1)) (some y1)
def spec_FormatDecomposition (a0 : Y83) : Option ((List UInt8)) := obind (loopF (spec_FormatDecomposition_B1 a0) fz ([], 0)) fun z2 => some z2
theorem spec_FormatDecomposition_s {a0 : Y83} {r : (List UInt8)} (h : spec_FormatDecomposition a0 = some r) : SoundAt Try.prog 142 [.agg (c95_ddd a0)] (.str r) := by
  unfold spec_FormatDecomposition at h
  refine sound_lit tbOk lit142 (nb rfl) rfl ?_
  unfold c142
  refine ls_keep [(0, .agg (c95_ddd a0))] ⟨kr, trivial⟩ rfl ?_
  refine ls_rs tbOk ?_
  refine evs (ev_bx (c1 := .agg (c95_ddd a0)) rfl rfl rfl (evs (ev_ac rfl nofun rfl (evn ?_))))
  refine ls_keep [(1, .box [dL c25_d a0.1, dL ci64 a0.2])] ⟨kr, trivial⟩ rfl ?_
  refine ls_rs tbOk ?_
  refine evs (ev_ac rfl nofun rfl (evn ?_))
  refine ls_keep [(1, .box [dL c25_d a0.1, dL ci64 a0.2]), (3, .str [])] ⟨kr, kr, trivial⟩ rfl ?_
  refine ls_seq_k fun K1 hK1 => ?_
  refine ls_rs tbOk ?_
  refine evs (ev_ac rfl nofun rfl (evn ?_))
  refine ls_keep [(1, .box [dL c25_d a0.1, dL ci64 a0.2]), (3, .str []), (4, nI 0)] ⟨kr, kr, kr, trivial⟩ rfl ?_
  obtain ⟨o1, hl, hr1⟩ := ob_some h
  clear h
  have kXspec_FormatDecomposition_B1 : ∀ (z2 : List UInt8), (some z2) = some r → ∀ σ' : PS, okK σ' [(3, .str z2)] → K1 σ' := by
    intro z2 h σ' hk
    refine hK1 _ (ls_keep [(3, .str z2)] hk rfl ?_)
    refine ls_rs tbOk ?_
    refine evs (ev_mv (c := .str z2) rfl rfl rfl (evs (ev_as (c := .str z2) rfl rfl rfl (evn ?_))))
    refine ls_keep [(2, .str z2)] ⟨kr, trivial⟩ rfl ?_
    refine ls_ret ?_
    have hr := Option.some.inj h
    rw [← hr]
    exact ⟨.inl rfl, rfl⟩
  refine ls_rec (fun (s : (List UInt8) × Int) => match s with | (y1, y2) => [(1, .box [dL c25_d a0.1, dL ci64 a0.2]), (3, .str y1), (4, nI y2)]) (spec_FormatDecomposition_B1 a0) fz ([], 0) o1 hl ⟨kr, kr, kr, trivial⟩ (fun _ => rfl) ?_
  rintro m ⟨y1, y2⟩ N h hN
  unfold spec_FormatDecomposition_B1 at h
  dsimp only at h
  refine ls_seq_k fun K3 hK3 => ?_
  refine ls_rs tbOk ?_
  refine evs (ev_mv (c := nI y2) rfl rfl rfl (evs (ev_fa (c1 := .cref 1 0) (v := .cref 1 0) rfl rfl rfl ⟨_, rfl⟩ rfl (evs (ev_ldB (off := 0) (v := dL c25_d a0.1) rfl rfl rfl rfl (nb rfl) rfl (evs (ev_len (c1 := dL c25_d a0.1) rfl rfl rfl (evs (ev_bin (c1 := nI y2) (c2 := nI (List.length a0.1 : Int)) rfl rfl rfl (evs (ev_mv (c := .bool (decide (y2 < (List.length a0.1 : Int)))) rfl rfl rfl (?_))))))))))))
  rcases cond_some h with ⟨g4, h⟩ | ⟨g4, h⟩
  · refine evs (ev_gr rfl (congrArg V.bool g4) (ev_fa (c1 := .cref 1 0) (v := .cref 1 0) rfl rfl rfl ⟨_, rfl⟩ rfl (evs (ev_gr rfl (congrArg V.bool g4) (ev_ldB (off := 0) (v := dL c25_d a0.1) rfl rfl rfl rfl (nb rfl) rfl (evs (ev_gr rfl (congrArg V.bool g4) (ev_len (c1 := dL c25_d a0.1) rfl rfl rfl (evs (ev_gr rfl (congrArg V.bool g4) (ev_fa (c1 := .cref 1 0) (v := .cref 1 1) rfl rfl rfl ⟨_, rfl⟩ rfl (evs (ev_gr rfl (congrArg V.bool g4) (ev_ldB (off := 1) (v := dL ci64 a0.2) rfl rfl rfl rfl (nb rfl) rfl (evs (ev_gr rfl (congrArg V.bool g4) (ev_len (c1 := dL ci64 a0.2) rfl rfl rfl (evs (ev_gr rfl (congrArg V.bool g4) (ev_bin (c1 := nI (List.length a0.1 : Int)) (c2 := nI (List.length a0.2 : Int)) rfl rfl rfl (evs (ev_pkT (c1 := .bool ((List.length a0.1 : Int) == (List.length a0.2 : Int))) rfl g4 rfl rfl (evn ?_)))))))))))))))))))))))
    refine ls_keep [(1, .box [dL c25_d a0.1, dL ci64 a0.2]), (3, .str y1), (4, nI y2), (18, .bool ((List.length a0.1 : Int) == (List.length a0.2 : Int)))] ⟨kr, kr, kr, kr, trivial⟩ rfl ?_
    rcases cond_some h with ⟨g5, h⟩ | ⟨g5, h⟩
    · refine ls_cT rfl g5 ?_
      refine ls_skip ?_
      refine hK3 _ (ls_keep [(1, .box [dL c25_d a0.1, dL ci64 a0.2]), (3, .str y1), (4, nI y2)] ⟨kr, kr, kr, trivial⟩ rfl ?_)
      refine ls_seq_k fun K6 hK6 => ?_
      refine ls_blk ?_
      refine ls_seq_k fun K7 hK7 => ?_
      refine ls_rs tbOk ?_
      refine evs (ev_mv (c := nI y2) rfl rfl rfl (evs (ev_bin (c1 := nI y2) (c2 := nI 0) rfl rfl rfl (evn ?_))))
      refine ls_keep [(1, .box [dL c25_d a0.1, dL ci64 a0.2]), (3, .str y1), (4, nI y2), (22, .bool (decide (0 < y2)))] ⟨kr, kr, kr, kr, trivial⟩ rfl ?_
      have kspec_FormatDecomposition_J2 : ∀ (x8 : List UInt8), spec_FormatDecomposition_J2 (loopF (spec_FormatDecomposition_B1 a0) m) a0 y2 x8 = some o1 → ∀ σ' : PS, okK σ' [(1, .box [dL c25_d a0.1, dL ci64 a0.2]), (3, .str x8), (4, nI y2)] → K7 σ' := by
        intro x8 h σ' hk
        unfold spec_FormatDecomposition_J2 at h
        refine hK7 _ (ls_keep [(1, .box [dL c25_d a0.1, dL ci64 a0.2]), (3, .str x8), (4, nI y2)] hk rfl ?_)
        refine ls_rs tbOk ?_
        refine evs (ev_mv (c := .str x8) rfl rfl rfl (evs (ev_fa (c1 := .cref 1 0) (v := .cref 1 0) rfl rfl rfl ⟨_, rfl⟩ rfl (evs (ev_ldB (off := 0) (v := dL c25_d a0.1) rfl rfl rfl rfl (nb rfl) rfl (evs (ev_mv (c := nI y2) rfl rfl rfl (?_))))))))
        obtain ⟨e9, g10, h⟩ := ob_some h
        refine evs (ev_ia rfl rfl rfl ⟨(geti_some g10).1, (geti_some g10).2.1⟩ (evs (ev_ldE (i := y2) (n := 1) (off := 0) (v := dL ci64 e9) rfl rfl zc25_d g10 rfl (nb rfl) rfl (?_))))
        obtain ⟨v11, g12, h⟩ := ob_some h
        refine evs (ev_call (era rfl (erD eci64 _) eran) (spec_l7Vars_s g12) (?_))
        obtain ⟨g13, h⟩ := chk_some h
        refine evs (ev_bin (c1 := .str x8) (c2 := .str v11) rfl rfl g13 (evs (ev_as (c := .str (x8 ++ v11)) rfl rfl rfl (evn ?_))))
        refine ls_keep [(1, .box [dL c25_d a0.1, dL ci64 a0.2]), (3, .str (x8 ++ v11)), (4, nI y2)] ⟨kr, kr, kr, trivial⟩ rfl ?_
        refine ls_rs tbOk ?_
        refine evs (ev_fa (c1 := .cref 1 0) (v := .cref 1 1) rfl rfl rfl ⟨_, rfl⟩ rfl (evs (ev_ldB (off := 1) (v := dL ci64 a0.2) rfl rfl rfl rfl (nb rfl) rfl (evs (ev_mv (c := nI y2) rfl rfl rfl (?_))))))
        obtain ⟨e14, g15, h⟩ := ob_some h
        refine evs (ev_ia rfl rfl rfl ⟨(geti_some g15).1, (geti_some g15).2.1⟩ (evs (ev_ldE (i := y2) (n := 1) (off := 0) (v := nI e14) rfl rfl zci64 g15 rfl (nb rfl) rfl (evs (ev_bin (c1 := nI e14) (c2 := nI 0) rfl rfl rfl (evn ?_))))))
        refine ls_keep [(1, .box [dL c25_d a0.1, dL ci64 a0.2]), (3, .str (x8 ++ v11)), (4, nI y2), (38, .bool (decide (0 ≤ e14)))] ⟨kr, kr, kr, kr, trivial⟩ rfl ?_
        have kspec_FormatDecomposition_J3 : ∀ (x16 : List UInt8), spec_FormatDecomposition_J3 (loopF (spec_FormatDecomposition_B1 a0) m) y2 x16 = some o1 → ∀ σ' : PS, okK σ' [(1, .box [dL c25_d a0.1, dL ci64 a0.2]), (3, .str x16), (4, nI y2)] → K6 σ' := by
          intro x16 h σ' hk
          unfold spec_FormatDecomposition_J3 at h
          refine hK6 _ (ls_keep [(1, .box [dL c25_d a0.1, dL ci64 a0.2]), (3, .str x16), (4, nI y2)] hk rfl ?_)
          refine ls_rgn tbOk ?_
          refine evs (ev_mv (c := nI y2) rfl rfl rfl (evs (ev_bin (c1 := nI y2) (c2 := nI 1) rfl rfl rfl (evs (ev_as (c := nI (IntKind.i64.wrap (y2 + 1))) rfl rfl rfl (evn ?_))))))
          exact hN _ (x16, (IntKind.i64.wrap (y2 + 1))) h ⟨kr, kr, kr, trivial⟩
        rcases cond_some h with ⟨g17, h⟩ | ⟨g17, h⟩
        · refine ls_cT rfl g17 ?_
          refine ls_rgn tbOk ?_
          refine evs (ev_mv (c := .str (x8 ++ v11)) rfl rfl rfl (evs (ev_fa (c1 := .cref 1 0) (v := .cref 1 1) rfl rfl rfl ⟨_, rfl⟩ rfl (evs (ev_ldB (off := 1) (v := dL ci64 a0.2) rfl rfl rfl rfl (nb rfl) rfl (evs (ev_mv (c := nI y2) rfl rfl rfl (?_))))))))
          obtain ⟨e18, g19, h⟩ := ob_some h
          refine evs (ev_ia rfl rfl rfl ⟨(geti_some g19).1, (geti_some g19).2.1⟩ (evs (ev_ldE (i := y2) (n := 1) (off := 0) (v := nI e18) rfl rfl zci64 g19 rfl (nb rfl) rfl (?_))))
          obtain ⟨v20, g21, h⟩ := ob_some h
          refine evs (ev_call (era rfl rfl eran) (spec_l2Dec_s g21) (?_))
          obtain ⟨g22, h⟩ := chk_some h
          refine evs (ev_bin (c1 := .str (x8 ++ v11)) (c2 := .str v20) rfl rfl g22 (evs (ev_as (c := .str ((x8 ++ v11) ++ v20)) rfl rfl rfl (evn ?_))))
          exact kspec_FormatDecomposition_J3 ((x8 ++ v11) ++ v20) h _ ⟨kr, kr, kr, trivial⟩
        · refine ls_cF rfl g17 ?_
          refine ls_skip ?_
          exact kspec_FormatDecomposition_J3 (x8 ++ v11) h _ ⟨kr, kr, kr, trivial⟩
      rcases cond_some h with ⟨g23, h⟩ | ⟨g23, h⟩
      · refine ls_cT rfl g23 ?_
        refine ls_rgn tbOk ?_
        refine evs (ev_mv (c := .str y1) rfl rfl rfl (?_))
        obtain ⟨g24, h⟩ := chk_some h
        refine evs (ev_bin (c1 := .str y1) (c2 := .str [32]) rfl rfl g24 (evs (ev_as (c := .str (y1 ++ [32])) rfl rfl rfl (evn ?_))))
        exact kspec_FormatDecomposition_J2 (y1 ++ [32]) h _ ⟨kr, kr, kr, trivial⟩
      · refine ls_cF rfl g23 ?_
        refine ls_skip ?_
        exact kspec_FormatDecomposition_J2 y1 h _ ⟨kr, kr, kr, trivial⟩
    · refine ls_cF rfl g5 ?_
      refine ls_exit ?_
      have q0 := (Option.some.inj h).symm
      have r0 := hr1
      rw [q0] at r0
      exact kXspec_FormatDecomposition_B1 y1 r0 _ ⟨kr, trivial⟩
  · refine evs (ev_gs rfl rfl (isb_F g4) (evs (ev_gs rfl rfl (isb_F g4) (evs (ev_gs rfl rfl (isb_F g4) (evs (ev_gs rfl rfl (isb_F g4) (evs (ev_gs rfl rfl (isb_F g4) (evs (ev_gs rfl rfl (isb_F g4) (evs (ev_gs rfl rfl (isb_F g4) (evs (ev_pkF (c1 := .bool false) rfl g4 rfl rfl (evn ?_))))))))))))))))
    refine ls_keep [(1, .box [dL c25_d a0.1, dL ci64 a0.2]), (3, .str y1), (4, nI y2), (18, .bool false)] ⟨kr, kr, kr, kr, trivial⟩ rfl ?_
    refine ls_cF rfl rfl ?_
    refine ls_exit ?_
    have q0 := (Option.some.inj h).symm
    have r0 := hr1
    rw [q0] at r0
    exact kXspec_FormatDecomposition_B1 y1 r0 _ ⟨kr, trivial⟩
def spec_ExplainPlan (a0 : Y91) (a1 : Y96) : Option ((List UInt8)) := obind (spec_IsValidPlan a0 a1) fun v2 => cond (!v2) (some []) (cond (a1.1 == 1) (obind (spec_l34Ints a1.2.2.1) fun v7 => chk (List.length [116, 114, 101, 101, 32] + List.length v7 ≤ lim) (some ([116, 114, 101, 101, 32] ++ v7))) (cond (a1.1 == 2) (obind (spec_FormatDecomposition a1.2.2.2) fun v11 => chk (List.length [98, 97, 103, 115, 32] + List.length v11 ≤ lim) (some ([98, 97, 103, 115, 32] ++ v11))) (obind (spec_l7Vars a1.2.1) fun v14 => chk (List.length [108, 101, 97, 112, 32] + List.length v14 ≤ lim) (some ([108, 101, 97, 112, 32] ++ v14)))))
theorem spec_ExplainPlan_s {a0 : Y91} {a1 : Y96} {r : (List UInt8)} (h : spec_ExplainPlan a0 a1 = some r) : SoundAt Try.prog 55 [.agg (c92_ddd a0), .agg (c97_ddddd a1)] (.str r) := by
  unfold spec_ExplainPlan at h
  refine sound_lit tbOk lit55 (nb rfl) rfl ?_
  unfold c55
  refine ls_keep [(0, .agg (c92_ddd a0)), (1, .agg (c97_ddddd a1))] ⟨kr, kr, trivial⟩ rfl ?_
  refine ls_rs tbOk ?_
  refine evs (ev_bx (c1 := .agg (c92_ddd a0)) rfl rfl rfl (evs (ev_bx (c1 := .agg (c97_ddddd a1)) rfl rfl rfl (evs (ev_ac rfl nofun rfl (evn ?_))))))
  refine ls_keep [(2, .box [nI a0.1, dL c195_d a0.2.1, dL ci64 a0.2.2]), (3, .box [nI a1.1, dL ci64 a1.2.1, dL ci64 a1.2.2.1, dL c25_d a1.2.2.2.1, dL ci64 a1.2.2.2.2])] ⟨kr, kr, trivial⟩ rfl ?_
  refine ls_seq_k fun K1 hK1 => ?_
  refine ls_rs tbOk ?_
  refine evs (ev_ldB (off := 0) (v := .agg (c92_ddd a0)) rfl rfl rfl rfl (nb rfl) rfl (evs (ev_ldB (off := 0) (v := .agg (c97_ddddd a1)) rfl rfl rfl rfl (nb rfl) rfl (?_))))
  obtain ⟨v2, g3, h⟩ := ob_some h
  refine evs (ev_call (era rfl (erg (erc rfl (erc (erD ec195_d _) (erc (erD eci64 _) rfl)))) (era rfl (erg (erc rfl (erc (erD eci64 _) (erc (erD eci64 _) (erc (erD ec25_d _) (erc (erD eci64 _) rfl)))))) eran)) (spec_IsValidPlan_s g3) (evs (ev_un (c1 := .bool v2) rfl trivial (evn ?_))))
  refine ls_keep [(3, .box [nI a1.1, dL ci64 a1.2.1, dL ci64 a1.2.2.1, dL c25_d a1.2.2.2.1, dL ci64 a1.2.2.2.2]), (8, .bool (!v2))] ⟨kr, kr, trivial⟩ rfl ?_
  rcases cond_some h with ⟨g4, h⟩ | ⟨g4, h⟩
  · refine ls_cT rfl g4 ?_
    refine ls_rs tbOk ?_
    refine evs (ev_ac rfl nofun rfl (evn ?_))
    refine ls_keep [(4, .str [])] ⟨kr, trivial⟩ rfl ?_
    refine ls_ret ?_
    have hr := Option.some.inj h
    rw [← hr]
    exact ⟨.inl rfl, rfl⟩
  · refine ls_cF rfl g4 ?_
    refine ls_skip ?_
    refine hK1 _ (ls_keep [(3, .box [nI a1.1, dL ci64 a1.2.1, dL ci64 a1.2.2.1, dL c25_d a1.2.2.2.1, dL ci64 a1.2.2.2.2])] ⟨kr, trivial⟩ rfl ?_)
    refine ls_seq_k fun K5 hK5 => ?_
    refine ls_rs tbOk ?_
    refine evs (ev_fa (c1 := .cref 3 0) (v := .cref 3 0) rfl rfl rfl ⟨_, rfl⟩ rfl (evs (ev_ldB (off := 0) (v := nI a1.1) rfl rfl rfl rfl (nb rfl) rfl (evn ?_))))
    refine ls_keep [(3, .box [nI a1.1, dL ci64 a1.2.1, dL ci64 a1.2.2.1, dL c25_d a1.2.2.2.1, dL ci64 a1.2.2.2.2]), (10, nI a1.1)] ⟨kr, kr, trivial⟩ rfl ?_
    refine ls_blk ?_
    refine ls_rs tbOk ?_
    refine evs (ev_bin (c1 := nI a1.1) (c2 := nI 1) rfl rfl rfl (evs (ev_as (c := .bool (a1.1 == 1)) rfl rfl rfl (evn ?_))))
    refine ls_keep [(3, .box [nI a1.1, dL ci64 a1.2.1, dL ci64 a1.2.2.1, dL c25_d a1.2.2.2.1, dL ci64 a1.2.2.2.2]), (10, nI a1.1), (11, .bool (a1.1 == 1))] ⟨kr, kr, kr, trivial⟩ rfl ?_
    rcases cond_some h with ⟨g6, h⟩ | ⟨g6, h⟩
    · refine ls_cT rfl g6 ?_
      refine ls_rs tbOk ?_
      refine evs (ev_fa (c1 := .cref 3 0) (v := .cref 3 2) rfl rfl rfl ⟨_, rfl⟩ rfl (evs (ev_fa (c1 := .cref 3 2) (v := .cref 3 2) rfl rfl rfl ⟨_, rfl⟩ rfl (evs (ev_ldB (off := 2) (v := dL ci64 a1.2.2.1) rfl rfl rfl rfl (nb rfl) rfl (?_))))))
      obtain ⟨v7, g8, h⟩ := ob_some h
      refine evs (ev_call (era rfl (erD eci64 _) eran) (spec_l34Ints_s g8) (?_))
      obtain ⟨g9, h⟩ := chk_some h
      refine evs (ev_bin (c1 := .str [116, 114, 101, 101, 32]) (c2 := .str v7) rfl rfl g9 (evs (ev_as (c := .str ([116, 114, 101, 101, 32] ++ v7)) rfl rfl rfl (evn ?_))))
      refine ls_keep [(4, .str ([116, 114, 101, 101, 32] ++ v7))] ⟨kr, trivial⟩ rfl ?_
      refine ls_ret ?_
      have hr := Option.some.inj h
      rw [← hr]
      exact ⟨.inl rfl, rfl⟩
    · refine ls_cF rfl g6 ?_
      refine ls_rs tbOk ?_
      refine evs (ev_bin (c1 := nI a1.1) (c2 := nI 2) rfl rfl rfl (evs (ev_as (c := .bool (a1.1 == 2)) rfl rfl rfl (evn ?_))))
      refine ls_keep [(3, .box [nI a1.1, dL ci64 a1.2.1, dL ci64 a1.2.2.1, dL c25_d a1.2.2.2.1, dL ci64 a1.2.2.2.2]), (18, .bool (a1.1 == 2))] ⟨kr, kr, trivial⟩ rfl ?_
      rcases cond_some h with ⟨g10, h⟩ | ⟨g10, h⟩
      · refine ls_cT rfl g10 ?_
        refine ls_rs tbOk ?_
        refine evs (ev_fa (c1 := .cref 3 0) (v := .cref 3 3) rfl rfl rfl ⟨_, rfl⟩ rfl (evs (ev_ldB (off := 3) (v := .agg (c95_ddd a1.2.2.2)) rfl rfl rfl rfl (nb rfl) rfl (?_))))
        obtain ⟨v11, g12, h⟩ := ob_some h
        refine evs (ev_call (era rfl (erg (erc (erD ec25_d _) (erc (erD eci64 _) rfl))) eran) (spec_FormatDecomposition_s g12) (?_))
        obtain ⟨g13, h⟩ := chk_some h
        refine evs (ev_bin (c1 := .str [98, 97, 103, 115, 32]) (c2 := .str v11) rfl rfl g13 (evs (ev_as (c := .str ([98, 97, 103, 115, 32] ++ v11)) rfl rfl rfl (evn ?_))))
        refine ls_keep [(4, .str ([98, 97, 103, 115, 32] ++ v11))] ⟨kr, trivial⟩ rfl ?_
        refine ls_ret ?_
        have hr := Option.some.inj h
        rw [← hr]
        exact ⟨.inl rfl, rfl⟩
      · refine ls_cF rfl g10 ?_
        refine ls_skip ?_
        refine hK5 _ (ls_keep [(3, .box [nI a1.1, dL ci64 a1.2.1, dL ci64 a1.2.2.1, dL c25_d a1.2.2.2.1, dL ci64 a1.2.2.2.2])] ⟨kr, trivial⟩ rfl ?_)
        refine ls_rs tbOk ?_
        refine evs (ev_fa (c1 := .cref 3 0) (v := .cref 3 1) rfl rfl rfl ⟨_, rfl⟩ rfl (evs (ev_ldB (off := 1) (v := dL ci64 a1.2.1) rfl rfl rfl rfl (nb rfl) rfl (?_))))
        obtain ⟨v14, g15, h⟩ := ob_some h
        refine evs (ev_call (era rfl (erD eci64 _) eran) (spec_l7Vars_s g15) (?_))
        obtain ⟨g16, h⟩ := chk_some h
        refine evs (ev_bin (c1 := .str [108, 101, 97, 112, 32]) (c2 := .str v14) rfl rfl g16 (evs (ev_as (c := .str ([108, 101, 97, 112, 32] ++ v14)) rfl rfl rfl (evn ?_))))
        refine ls_keep [(4, .str ([108, 101, 97, 112, 32] ++ v14))] ⟨kr, trivial⟩ rfl ?_
        refine ls_ret ?_
        have hr := Option.some.inj h
        rw [← hr]
        exact ⟨.inl rfl, rfl⟩
def impl_within_J1 (x2 : Bool) : Option (Bool) := some x2
def impl_within (a0 : Int) (a1 : Int) (a2 : Int) : Option (Bool) := cond (decide (a1 ≤ a0)) (impl_within_J1 (decide (a0 ≤ a2))) (impl_within_J1 false)
theorem impl_within_s {a0 : Int} {a1 : Int} {a2 : Int} {r : Bool} (h : impl_within a0 a1 a2 = some r) : SoundAt Try.prog 90 [nI a0, nI a1, nI a2] (.bool r) := by
  unfold impl_within at h
  refine sound_lit tbOk lit90 (nb rfl) rfl ?_
  unfold c90
  refine ls_keep [(0, nI a0), (1, nI a1), (2, nI a2)] ⟨kr, kr, kr, trivial⟩ rfl ?_
  refine ls_rs tbOk ?_
  refine evs (ev_ac rfl nofun rfl (evn ?_))
  refine ls_keep [(0, nI a0), (1, nI a1), (2, nI a2)] ⟨kr, kr, kr, trivial⟩ rfl ?_
  refine ls_rs_k tbOk fun K1 hK1 => ?_
  have kimpl_within_J1 : ∀ (x2 : Bool), impl_within_J1 x2 = some r → ∀ σ' : PS, okK σ' [(6, .bool x2)] → K1 σ' := by
    intro x2 h σ' hk
    unfold impl_within_J1 at h
    refine hK1 _ (ls_keep [(6, .bool x2)] hk rfl ?_)
    refine ls_ret ?_
    have hr := Option.some.inj h
    rw [← hr]
    exact ⟨.inl rfl, rfl⟩
  refine evs (ev_mv (c := nI a0) rfl rfl rfl (evs (ev_mv (c := nI a1) rfl rfl rfl (evs (ev_bin (c1 := nI a0) (c2 := nI a1) rfl rfl rfl (evs (ev_mv (c := .bool (decide (a1 ≤ a0))) rfl rfl rfl (?_))))))))
  rcases cond_some h with ⟨g3, h⟩ | ⟨g3, h⟩
  · refine evs (ev_gr rfl (congrArg V.bool g3) (ev_mv (c := nI a0) rfl rfl rfl (evs (ev_gr rfl (congrArg V.bool g3) (ev_mv (c := nI a2) rfl rfl rfl (evs (ev_gr rfl (congrArg V.bool g3) (ev_bin (c1 := nI a0) (c2 := nI a2) rfl rfl rfl (evs (ev_pkT (c1 := .bool (decide (a0 ≤ a2))) rfl g3 rfl rfl (evs (ev_as (c := .bool (decide (a0 ≤ a2))) rfl rfl rfl (evn ?_)))))))))))))
    exact kimpl_within_J1 (decide (a0 ≤ a2)) h _ ⟨kr, trivial⟩
  · refine evs (ev_gs rfl rfl (isb_F g3) (evs (ev_gs rfl rfl (isb_F g3) (evs (ev_gs rfl rfl (isb_F g3) (evs (ev_pkF (c1 := .bool false) rfl g3 rfl rfl (evs (ev_as (c := .bool false) rfl rfl rfl (evn ?_))))))))))
    exact kimpl_within_J1 false h _ ⟨kr, trivial⟩
def impl_indexOf_B1 (a0 : List Int) (a1 : Int) (rec : Int → Option (Sum (Unit) (Int))) (y1 : Int) : Option (Sum (Unit) (Int)) := cond (decide (y1 < (List.length a0 : Int))) (obind (geti a0 y1) fun e5 => cond (e5 == a1) (some (.inr y1)) (rec (IntKind.i64.wrap (y1 + 1)))) (some (.inl ()))
def impl_indexOf (a0 : List Int) (a1 : Int) : Option (Int) := obind (loopF (impl_indexOf_B1 a0 a1) fz 0) fun o1 => (match o1 with
  | .inl _ => (some (-1))
  | .inr r => some r)
theorem impl_indexOf_s {a0 : List Int} {a1 : Int} {r : Int} (h : impl_indexOf a0 a1 = some r) : SoundAt Try.prog 252 [dL ci64 a0, nI a1] (nI r) := by
  unfold impl_indexOf at h
  refine sound_lit tbOk lit252 (nb rfl) rfl ?_
  unfold c252
  refine ls_keep [(0, dL ci64 a0), (1, nI a1)] ⟨kr, kr, trivial⟩ rfl ?_
  refine ls_rs tbOk ?_
  refine evs (ev_ac rfl nofun rfl (evn ?_))
  refine ls_keep [(0, dL ci64 a0), (1, nI a1)] ⟨kr, kr, trivial⟩ rfl ?_
  refine ls_seq_k fun K1 hK1 => ?_
  refine ls_rs tbOk ?_
  refine evs (ev_mv (c := dL ci64 a0) rfl rfl rfl (evs (ev_len (c1 := dL ci64 a0) rfl rfl rfl (evs (ev_mc rfl rfl (evn ?_))))))
  refine ls_keep [(1, nI a1), (7, dL ci64 a0), (8, nI (List.length a0 : Int)), (9, nI 0)] ⟨kr, kr, kr, kr, trivial⟩ rfl ?_
  obtain ⟨o1, hl, hr1⟩ := ob_some h
  clear h
  have kXimpl_indexOf_B1 : ∀ (_ : Unit), (some (-1)) = some r → ∀ σ' : PS, okK σ' [] → K1 σ' := by
    intro _ h σ' hk
    refine hK1 _ (ls_keep [] hk rfl ?_)
    refine ls_rs tbOk ?_
    refine evs (ev_ac rfl nofun rfl (evn ?_))
    refine ls_keep [(4, nI (-1))] ⟨kr, trivial⟩ rfl ?_
    refine ls_ret ?_
    have hr := Option.some.inj h
    rw [← hr]
    exact ⟨.inl rfl, rfl⟩
  refine ls_rec (fun (y1 : Int) => [(1, nI a1), (7, dL ci64 a0), (8, nI (List.length a0 : Int)), (9, nI y1)]) (impl_indexOf_B1 a0 a1) fz 0 o1 hl ⟨kr, kr, kr, kr, trivial⟩ (fun _ => rfl) ?_
  rintro m y1 N h hN
  unfold impl_indexOf_B1 at h
  refine ls_rs tbOk ?_
  refine evs (ev_bin (c1 := nI y1) (c2 := nI (List.length a0 : Int)) rfl rfl rfl (evn ?_))
  refine ls_keep [(1, nI a1), (7, dL ci64 a0), (8, nI (List.length a0 : Int)), (9, nI y1), (10, .bool (decide (y1 < (List.length a0 : Int))))] ⟨kr, kr, kr, kr, kr, trivial⟩ rfl ?_
  refine ls_seq_k fun K2 hK2 => ?_
  rcases cond_some h with ⟨g3, h⟩ | ⟨g3, h⟩
  · refine ls_cT rfl g3 ?_
    refine ls_skip ?_
    refine hK2 _ (ls_keep [(1, nI a1), (7, dL ci64 a0), (8, nI (List.length a0 : Int)), (9, nI y1)] ⟨kr, kr, kr, kr, trivial⟩ rfl ?_)
    refine ls_seq_k fun K4 hK4 => ?_
    refine ls_blk ?_
    refine ls_rs tbOk ?_
    refine evs (ev_mv (c := nI y1) rfl rfl rfl (?_))
    obtain ⟨e5, g6, h⟩ := ob_some h
    refine evs (ev_ia rfl rfl rfl ⟨(geti_some g6).1, (geti_some g6).2.1⟩ (evs (ev_ldE (i := y1) (n := 1) (off := 0) (v := nI e5) rfl rfl zci64 g6 rfl (nb rfl) rfl (evs (ev_as (c := nI y1) rfl rfl rfl (evs (ev_as (c := nI e5) rfl rfl rfl (evn ?_))))))))
    refine ls_keep [(1, nI a1), (5, nI y1), (6, nI e5), (7, dL ci64 a0), (8, nI (List.length a0 : Int)), (9, nI y1)] ⟨kr, kr, kr, kr, kr, kr, trivial⟩ rfl ?_
    refine ls_rs tbOk ?_
    refine evs (ev_mv (c := nI e5) rfl rfl rfl (evs (ev_mv (c := nI a1) rfl rfl rfl (evs (ev_bin (c1 := nI e5) (c2 := nI a1) rfl rfl rfl (evn ?_))))))
    refine ls_keep [(1, nI a1), (5, nI y1), (7, dL ci64 a0), (8, nI (List.length a0 : Int)), (9, nI y1), (16, .bool (e5 == a1))] ⟨kr, kr, kr, kr, kr, kr, trivial⟩ rfl ?_
    rcases cond_some h with ⟨g7, h⟩ | ⟨g7, h⟩
    · refine ls_cT rfl g7 ?_
      refine ls_rs tbOk ?_
      refine evs (ev_mv (c := nI y1) rfl rfl rfl (evs (ev_as (c := nI y1) rfl rfl rfl (evn ?_))))
      refine ls_keep [(4, nI y1)] ⟨kr, trivial⟩ rfl ?_
      refine ls_ret ?_
      have q0 := (Option.some.inj h).symm
      have r0 := hr1
      rw [q0] at r0
      have hr := Option.some.inj r0
      rw [← hr]
      exact ⟨.inl rfl, rfl⟩
    · refine ls_cF rfl g7 ?_
      refine ls_skip ?_
      refine hK4 _ (ls_keep [(1, nI a1), (7, dL ci64 a0), (8, nI (List.length a0 : Int)), (9, nI y1)] ⟨kr, kr, kr, kr, trivial⟩ rfl ?_)
      refine ls_rgn tbOk ?_
      refine evs (ev_bin (c1 := nI y1) (c2 := nI 1) rfl rfl rfl (evs (ev_mv (c := nI (IntKind.i64.wrap (y1 + 1))) rfl rfl rfl (evn ?_))))
      exact hN _ (IntKind.i64.wrap (y1 + 1)) h ⟨kr, kr, kr, kr, trivial⟩
  · refine ls_cF rfl g3 ?_
    refine ls_exit ?_
    have q0 := (Option.some.inj h).symm
    have r0 := hr1
    rw [q0] at r0
    exact kXimpl_indexOf_B1 () r0 _ trivial
def impl_hasInt (a0 : List Int) (a1 : Int) : Option (Bool) := obind (impl_indexOf a0 a1) fun v1 => some (decide (0 ≤ v1))
theorem impl_hasInt_s {a0 : List Int} {a1 : Int} {r : Bool} (h : impl_hasInt a0 a1 = some r) : SoundAt Try.prog 230 [dL ci64 a0, nI a1] (.bool r) := by
  unfold impl_hasInt at h
  refine sound_lit tbOk lit230 (nb rfl) rfl ?_
  unfold c230
  refine ls_keep [(0, dL ci64 a0), (1, nI a1)] ⟨kr, kr, trivial⟩ rfl ?_
  refine ls_rs tbOk ?_
  refine evs (ev_ac rfl nofun rfl (evn ?_))
  refine ls_keep [(0, dL ci64 a0), (1, nI a1)] ⟨kr, kr, trivial⟩ rfl ?_
  refine ls_rs tbOk ?_
  refine evs (ev_mv (c := dL ci64 a0) rfl rfl rfl (evs (ev_mv (c := nI a1) rfl rfl rfl (?_))))
  obtain ⟨v1, g2, h⟩ := ob_some h
  refine evs (ev_call (era rfl (erD eci64 _) (era rfl rfl eran)) (impl_indexOf_s g2) (evs (ev_bin (c1 := nI v1) (c2 := nI 0) rfl rfl rfl (evs (ev_as (c := .bool (decide (0 ≤ v1))) rfl rfl rfl (evn ?_))))))
  refine ls_keep [(4, .bool (decide (0 ≤ v1)))] ⟨kr, trivial⟩ rfl ?_
  refine ls_ret ?_
  have hr := Option.some.inj h
  rw [← hr]
  exact ⟨.inl rfl, rfl⟩
def impl_isSetOf_B1 (a0 : List Int) (a1 : Int) (rec : Int → Option (Sum (Unit) (Bool))) (y1 : Int) : Option (Sum (Unit) (Bool)) := cond (decide (y1 < (List.length a0 : Int))) (obind (geti a0 y1) fun e5 => obind (impl_within e5 0 (IntKind.i64.wrap (a1 - 1))) fun v7 => cond (!v7) (some (.inr false)) (chk ((0 : Int) ≤ 0 ∧ 0 ≤ y1 ∧ y1 ≤ (List.length a0 : Int)) (obind (impl_hasInt (subl a0 0 y1) e5) fun v11 => cond v11 (some (.inr false)) (rec (IntKind.i64.wrap (y1 + 1)))))) (some (.inl ()))
def impl_isSetOf (a0 : List Int) (a1 : Int) : Option (Bool) := obind (loopF (impl_isSetOf_B1 a0 a1) fz 0) fun o1 => (match o1 with
  | .inl _ => (some true)
  | .inr r => some r)
theorem impl_isSetOf_s {a0 : List Int} {a1 : Int} {r : Bool} (h : impl_isSetOf a0 a1 = some r) : SoundAt Try.prog 213 [dL ci64 a0, nI a1] (.bool r) := by
  unfold impl_isSetOf at h
  refine sound_lit tbOk lit213 (nb rfl) rfl ?_
  unfold c213
  refine ls_keep [(0, dL ci64 a0), (1, nI a1)] ⟨kr, kr, trivial⟩ rfl ?_
  refine ls_rs tbOk ?_
  refine evs (ev_ac rfl nofun rfl (evn ?_))
  refine ls_keep [(0, dL ci64 a0), (1, nI a1)] ⟨kr, kr, trivial⟩ rfl ?_
  refine ls_seq_k fun K1 hK1 => ?_
  refine ls_rs tbOk ?_
  refine evs (ev_mv (c := dL ci64 a0) rfl rfl rfl (evs (ev_len (c1 := dL ci64 a0) rfl rfl rfl (evs (ev_mc rfl rfl (evn ?_))))))
  refine ls_keep [(0, dL ci64 a0), (1, nI a1), (7, dL ci64 a0), (8, nI (List.length a0 : Int)), (9, nI 0)] ⟨kr, kr, kr, kr, kr, trivial⟩ rfl ?_
  obtain ⟨o1, hl, hr1⟩ := ob_some h
  clear h
  have kXimpl_isSetOf_B1 : ∀ (_ : Unit), (some true) = some r → ∀ σ' : PS, okK σ' [] → K1 σ' := by
    intro _ h σ' hk
    refine hK1 _ (ls_keep [] hk rfl ?_)
    refine ls_rs tbOk ?_
    refine evs (ev_ac rfl nofun rfl (evn ?_))
    refine ls_keep [(4, .bool true)] ⟨kr, trivial⟩ rfl ?_
    refine ls_ret ?_
    have hr := Option.some.inj h
    rw [← hr]
    exact ⟨.inl rfl, rfl⟩
  refine ls_rec (fun (y1 : Int) => [(0, dL ci64 a0), (1, nI a1), (7, dL ci64 a0), (8, nI (List.length a0 : Int)), (9, nI y1)]) (impl_isSetOf_B1 a0 a1) fz 0 o1 hl ⟨kr, kr, kr, kr, kr, trivial⟩ (fun _ => rfl) ?_
  rintro m y1 N h hN
  unfold impl_isSetOf_B1 at h
  refine ls_rs tbOk ?_
  refine evs (ev_bin (c1 := nI y1) (c2 := nI (List.length a0 : Int)) rfl rfl rfl (evn ?_))
  refine ls_keep [(0, dL ci64 a0), (1, nI a1), (7, dL ci64 a0), (8, nI (List.length a0 : Int)), (9, nI y1), (10, .bool (decide (y1 < (List.length a0 : Int))))] ⟨kr, kr, kr, kr, kr, kr, trivial⟩ rfl ?_
  refine ls_seq_k fun K2 hK2 => ?_
  rcases cond_some h with ⟨g3, h⟩ | ⟨g3, h⟩
  · refine ls_cT rfl g3 ?_
    refine ls_skip ?_
    refine hK2 _ (ls_keep [(0, dL ci64 a0), (1, nI a1), (7, dL ci64 a0), (8, nI (List.length a0 : Int)), (9, nI y1)] ⟨kr, kr, kr, kr, kr, trivial⟩ rfl ?_)
    refine ls_seq_k fun K4 hK4 => ?_
    refine ls_blk ?_
    refine ls_rs tbOk ?_
    refine evs (ev_mv (c := nI y1) rfl rfl rfl (?_))
    obtain ⟨e5, g6, h⟩ := ob_some h
    refine evs (ev_ia rfl rfl rfl ⟨(geti_some g6).1, (geti_some g6).2.1⟩ (evs (ev_ldE (i := y1) (n := 1) (off := 0) (v := nI e5) rfl rfl zci64 g6 rfl (nb rfl) rfl (evs (ev_as (c := nI y1) rfl rfl rfl (evs (ev_as (c := nI e5) rfl rfl rfl (evn ?_))))))))
    refine ls_keep [(0, dL ci64 a0), (1, nI a1), (5, nI y1), (6, nI e5), (7, dL ci64 a0), (8, nI (List.length a0 : Int)), (9, nI y1)] ⟨kr, kr, kr, kr, kr, kr, kr, trivial⟩ rfl ?_
    refine ls_rs tbOk ?_
    refine evs (ev_mv (c := nI e5) rfl rfl rfl (evs (ev_mv (c := nI a1) rfl rfl rfl (evs (ev_bin (c1 := nI a1) (c2 := nI 1) rfl rfl rfl (?_))))))
    obtain ⟨v7, g8, h⟩ := ob_some h
    refine evs (ev_call (era rfl rfl (era rfl rfl (era rfl rfl eran))) (impl_within_s g8) (evs (ev_un (c1 := .bool v7) rfl trivial (evs (ev_mv (c := .bool (!v7)) rfl rfl rfl (?_))))))
    rcases cond_some h with ⟨g9, h⟩ | ⟨g9, h⟩
    · refine evs (ev_gs rfl rfl (isb_T g9) (evs (ev_gs rfl rfl (isb_T g9) (evs (ev_gs rfl rfl (isb_T g9) (evs (ev_gs rfl rfl (isb_T g9) (evs (ev_gs rfl rfl (isb_T g9) (evs (ev_pkT (c1 := .bool true) rfl g9 rfl rfl (evn ?_))))))))))))
      refine ls_keep [(0, dL ci64 a0), (1, nI a1), (7, dL ci64 a0), (8, nI (List.length a0 : Int)), (9, nI y1), (25, .bool true)] ⟨kr, kr, kr, kr, kr, kr, trivial⟩ rfl ?_
      refine ls_cT rfl rfl ?_
      refine ls_rs tbOk ?_
      refine evs (ev_ac rfl nofun rfl (evn ?_))
      refine ls_keep [(4, .bool false)] ⟨kr, trivial⟩ rfl ?_
      refine ls_ret ?_
      have q0 := (Option.some.inj h).symm
      have r0 := hr1
      rw [q0] at r0
      have hr := Option.some.inj r0
      rw [← hr]
      exact ⟨.inl rfl, rfl⟩
    · refine evs (ev_gr rfl (congrArg V.bool g9) (ev_mv (c := dL ci64 a0) rfl rfl rfl (evs (ev_gr rfl (congrArg V.bool g9) (ev_mv (c := nI y1) rfl rfl rfl (?_))))))
      obtain ⟨g10, h⟩ := chk_some h
      refine evs (ev_gr rfl (congrArg V.bool g9) (ev_sle (lst := a0) rfl rfl zci64 rfl rfl g10 (evs (ev_gr rfl (congrArg V.bool g9) (ev_mv (c := nI e5) rfl rfl rfl (?_))))))
      obtain ⟨v11, g12, h⟩ := ob_some h
      refine evs (ev_gr rfl (congrArg V.bool g9) (ev_call (era rfl (erD eci64 _) (era rfl rfl eran)) (impl_hasInt_s g12) (evs (ev_pkF (c1 := .bool v11) rfl g9 rfl rfl (evn ?_)))))
      refine ls_keep [(0, dL ci64 a0), (1, nI a1), (7, dL ci64 a0), (8, nI (List.length a0 : Int)), (9, nI y1), (25, .bool v11)] ⟨kr, kr, kr, kr, kr, kr, trivial⟩ rfl ?_
      rcases cond_some h with ⟨g13, h⟩ | ⟨g13, h⟩
      · refine ls_cT rfl g13 ?_
        refine ls_rs tbOk ?_
        refine evs (ev_ac rfl nofun rfl (evn ?_))
        refine ls_keep [(4, .bool false)] ⟨kr, trivial⟩ rfl ?_
        refine ls_ret ?_
        have q0 := (Option.some.inj h).symm
        have r0 := hr1
        rw [q0] at r0
        have hr := Option.some.inj r0
        rw [← hr]
        exact ⟨.inl rfl, rfl⟩
      · refine ls_cF rfl g13 ?_
        refine ls_skip ?_
        refine hK4 _ (ls_keep [(0, dL ci64 a0), (1, nI a1), (7, dL ci64 a0), (8, nI (List.length a0 : Int)), (9, nI y1)] ⟨kr, kr, kr, kr, kr, trivial⟩ rfl ?_)
        refine ls_rgn tbOk ?_
        refine evs (ev_bin (c1 := nI y1) (c2 := nI 1) rfl rfl rfl (evs (ev_mv (c := nI (IntKind.i64.wrap (y1 + 1))) rfl rfl rfl (evn ?_))))
        exact hN _ (IntKind.i64.wrap (y1 + 1)) h ⟨kr, kr, kr, kr, kr, trivial⟩
  · refine ls_cF rfl g3 ?_
    refine ls_exit ?_
    have q0 := (Option.some.inj h).symm
    have r0 := hr1
    rw [q0] at r0
    exact kXimpl_isSetOf_B1 () r0 _ trivial
def impl_isLetters_B1 (a0 : List UInt8) (rec : Int → Option (Sum (Unit) (Bool))) (y1 : Int) : Option (Sum (Unit) (Bool)) := cond (decide (y1 < (List.length a0 : Int))) (obind (geti a0 y1) fun b8 => cond (decide ((UInt8.toNat b8 : Int) < 97)) (some (.inr false)) (obind (geti a0 y1) fun b11 => cond (decide (122 < (UInt8.toNat b11 : Int))) (some (.inr false)) (rec (IntKind.i64.wrap (y1 + 1))))) (some (.inl ()))
def impl_isLetters (a0 : List UInt8) (a1 : Int) : Option (Bool) := cond (decide ((List.length a0 : Int) < 1)) (some false) (cond (decide (a1 < (List.length a0 : Int))) (some false) (obind (loopF (impl_isLetters_B1 a0) fz 0) fun o1 => (match o1 with
  | .inl _ => (some true)
  | .inr r => some r)))
theorem impl_isLetters_s {a0 : List UInt8} {a1 : Int} {r : Bool} (h : impl_isLetters a0 a1 = some r) : SoundAt Try.prog 243 [.str a0, nI a1] (.bool r) := by
  unfold impl_isLetters at h
  refine sound_lit tbOk lit243 (nb rfl) rfl ?_
  unfold c243
  refine ls_keep [(0, .str a0), (1, nI a1)] ⟨kr, kr, trivial⟩ rfl ?_
  refine ls_rs tbOk ?_
  refine evs (ev_ac rfl nofun rfl (evn ?_))
  refine ls_keep [(0, .str a0), (1, nI a1)] ⟨kr, kr, trivial⟩ rfl ?_
  refine ls_seq_k fun K1 hK1 => ?_
  refine ls_rs tbOk ?_
  refine evs (ev_mv (c := .str a0) rfl rfl rfl (evs (ev_lens (z := []) rfl rfl (evs (ev_bin (c1 := nI (List.length a0 : Int)) (c2 := nI 1) rfl rfl rfl (evs (ev_mv (c := .bool (decide ((List.length a0 : Int) < 1))) rfl rfl rfl (?_))))))))
  rcases cond_some h with ⟨g2, h⟩ | ⟨g2, h⟩
  · refine evs (ev_gs rfl rfl (isb_T g2) (evs (ev_gs rfl rfl (isb_T g2) (evs (ev_gs rfl rfl (isb_T g2) (evs (ev_gs rfl rfl (isb_T g2) (evs (ev_pkT (c1 := .bool true) rfl g2 rfl rfl (evn ?_))))))))))
    refine ls_keep [(0, .str a0), (14, .bool true)] ⟨kr, kr, trivial⟩ rfl ?_
    refine ls_cT rfl rfl ?_
    refine ls_rs tbOk ?_
    refine evs (ev_ac rfl nofun rfl (evn ?_))
    refine ls_keep [(4, .bool false)] ⟨kr, trivial⟩ rfl ?_
    refine ls_ret ?_
    have hr := Option.some.inj h
    rw [← hr]
    exact ⟨.inl rfl, rfl⟩
  · refine evs (ev_gr rfl (congrArg V.bool g2) (ev_mv (c := .str a0) rfl rfl rfl (evs (ev_gr rfl (congrArg V.bool g2) (ev_lens (z := []) rfl rfl (evs (ev_gr rfl (congrArg V.bool g2) (ev_mv (c := nI a1) rfl rfl rfl (evs (ev_gr rfl (congrArg V.bool g2) (ev_bin (c1 := nI (List.length a0 : Int)) (c2 := nI a1) rfl rfl rfl (evs (ev_pkF (c1 := .bool (decide (a1 < (List.length a0 : Int)))) rfl g2 rfl rfl (evn ?_))))))))))))))
    refine ls_keep [(0, .str a0), (14, .bool (decide (a1 < (List.length a0 : Int))))] ⟨kr, kr, trivial⟩ rfl ?_
    rcases cond_some h with ⟨g3, h⟩ | ⟨g3, h⟩
    · refine ls_cT rfl g3 ?_
      refine ls_rs tbOk ?_
      refine evs (ev_ac rfl nofun rfl (evn ?_))
      refine ls_keep [(4, .bool false)] ⟨kr, trivial⟩ rfl ?_
      refine ls_ret ?_
      have hr := Option.some.inj h
      rw [← hr]
      exact ⟨.inl rfl, rfl⟩
    · refine ls_cF rfl g3 ?_
      refine ls_skip ?_
      refine hK1 _ (ls_keep [(0, .str a0)] ⟨kr, trivial⟩ rfl ?_)
      refine ls_seq_k fun K4 hK4 => ?_
      refine ls_rs tbOk ?_
      refine evs (ev_ac rfl nofun rfl (evn ?_))
      refine ls_keep [(0, .str a0), (5, nI 0)] ⟨kr, kr, trivial⟩ rfl ?_
      obtain ⟨o1, hl, hr1⟩ := ob_some h
      clear h
      have kXimpl_isLetters_B1 : ∀ (_ : Unit), (some true) = some r → ∀ σ' : PS, okK σ' [] → K4 σ' := by
        intro _ h σ' hk
        refine hK4 _ (ls_keep [] hk rfl ?_)
        refine ls_rs tbOk ?_
        refine evs (ev_ac rfl nofun rfl (evn ?_))
        refine ls_keep [(4, .bool true)] ⟨kr, trivial⟩ rfl ?_
        refine ls_ret ?_
        have hr := Option.some.inj h
        rw [← hr]
        exact ⟨.inl rfl, rfl⟩
      refine ls_rec (fun (y1 : Int) => [(0, .str a0), (5, nI y1)]) (impl_isLetters_B1 a0) fz 0 o1 hl ⟨kr, kr, trivial⟩ (fun _ => rfl) ?_
      rintro m y1 N h hN
      unfold impl_isLetters_B1 at h
      refine ls_seq_k fun K5 hK5 => ?_
      refine ls_rs tbOk ?_
      refine evs (ev_mv (c := nI y1) rfl rfl rfl (evs (ev_mv (c := .str a0) rfl rfl rfl (evs (ev_lens (z := []) rfl rfl (evs (ev_bin (c1 := nI y1) (c2 := nI (List.length a0 : Int)) rfl rfl rfl (evn ?_))))))))
      refine ls_keep [(0, .str a0), (5, nI y1), (18, .bool (decide (y1 < (List.length a0 : Int))))] ⟨kr, kr, kr, trivial⟩ rfl ?_
      rcases cond_some h with ⟨g6, h⟩ | ⟨g6, h⟩
      · refine ls_cT rfl g6 ?_
        refine ls_skip ?_
        refine hK5 _ (ls_keep [(0, .str a0), (5, nI y1)] ⟨kr, kr, trivial⟩ rfl ?_)
        refine ls_seq_k fun K7 hK7 => ?_
        refine ls_blk ?_
        refine ls_rs tbOk ?_
        refine evs (ev_mv (c := .str a0) rfl rfl rfl (evs (ev_mv (c := nI y1) rfl rfl rfl (?_))))
        obtain ⟨b8, g9, h⟩ := ob_some h
        refine evs (ev_six rfl rfl rfl g9 (evs (ev_bin (c1 := .int .u8 (UInt8.toNat b8 : Int)) (c2 := .int .u8 97) rfl rfl rfl (evs (ev_mv (c := .bool (decide ((UInt8.toNat b8 : Int) < 97))) rfl rfl rfl (?_))))))
        rcases cond_some h with ⟨g10, h⟩ | ⟨g10, h⟩
        · refine evs (ev_gs rfl rfl (isb_T g10) (evs (ev_gs rfl rfl (isb_T g10) (evs (ev_gs rfl rfl (isb_T g10) (evs (ev_gs rfl rfl (isb_T g10) (evs (ev_pkT (c1 := .bool true) rfl g10 rfl rfl (evn ?_))))))))))
          refine ls_keep [(0, .str a0), (5, nI y1), (30, .bool true)] ⟨kr, kr, kr, trivial⟩ rfl ?_
          refine ls_cT rfl rfl ?_
          refine ls_rs tbOk ?_
          refine evs (ev_ac rfl nofun rfl (evn ?_))
          refine ls_keep [(4, .bool false)] ⟨kr, trivial⟩ rfl ?_
          refine ls_ret ?_
          have q0 := (Option.some.inj h).symm
          have r0 := hr1
          rw [q0] at r0
          have hr := Option.some.inj r0
          rw [← hr]
          exact ⟨.inl rfl, rfl⟩
        · refine evs (ev_gr rfl (congrArg V.bool g10) (ev_mv (c := .str a0) rfl rfl rfl (evs (ev_gr rfl (congrArg V.bool g10) (ev_mv (c := nI y1) rfl rfl rfl (?_))))))
          obtain ⟨b11, g12, h⟩ := ob_some h
          refine evs (ev_gr rfl (congrArg V.bool g10) (ev_six rfl rfl rfl g12 (evs (ev_gr rfl (congrArg V.bool g10) (ev_bin (c1 := .int .u8 (UInt8.toNat b11 : Int)) (c2 := .int .u8 122) rfl rfl rfl (evs (ev_pkF (c1 := .bool (decide (122 < (UInt8.toNat b11 : Int)))) rfl g10 rfl rfl (evn ?_))))))))
          refine ls_keep [(0, .str a0), (5, nI y1), (30, .bool (decide (122 < (UInt8.toNat b11 : Int))))] ⟨kr, kr, kr, trivial⟩ rfl ?_
          rcases cond_some h with ⟨g13, h⟩ | ⟨g13, h⟩
          · refine ls_cT rfl g13 ?_
            refine ls_rs tbOk ?_
            refine evs (ev_ac rfl nofun rfl (evn ?_))
            refine ls_keep [(4, .bool false)] ⟨kr, trivial⟩ rfl ?_
            refine ls_ret ?_
            have q0 := (Option.some.inj h).symm
            have r0 := hr1
            rw [q0] at r0
            have hr := Option.some.inj r0
            rw [← hr]
            exact ⟨.inl rfl, rfl⟩
          · refine ls_cF rfl g13 ?_
            refine ls_skip ?_
            refine hK7 _ (ls_keep [(0, .str a0), (5, nI y1)] ⟨kr, kr, trivial⟩ rfl ?_)
            refine ls_rgn tbOk ?_
            refine evs (ev_mv (c := nI y1) rfl rfl rfl (evs (ev_bin (c1 := nI y1) (c2 := nI 1) rfl rfl rfl (evs (ev_as (c := nI (IntKind.i64.wrap (y1 + 1))) rfl rfl rfl (evn ?_))))))
            exact hN _ (IntKind.i64.wrap (y1 + 1)) h ⟨kr, kr, trivial⟩
      · refine ls_cF rfl g6 ?_
        refine ls_exit ?_
        have q0 := (Option.some.inj h).symm
        have r0 := hr1
        rw [q0] at r0
        exact kXimpl_isLetters_B1 () r0 _ trivial
def impl_IsValidName (a0 : List UInt8) : Option (Bool) := obind (impl_isLetters a0 4) fun v1 => some v1
theorem impl_IsValidName_s {a0 : List UInt8} {r : Bool} (h : impl_IsValidName a0 = some r) : SoundAt Try.prog 218 [.str a0] (.bool r) := by
  unfold impl_IsValidName at h
  refine sound_lit tbOk lit218 (nb rfl) rfl ?_
  unfold c218
  refine ls_keep [(0, .str a0)] ⟨kr, trivial⟩ rfl ?_
  refine ls_rs tbOk ?_
  refine evs (ev_ac rfl nofun rfl (evn ?_))
  refine ls_keep [(0, .str a0)] ⟨kr, trivial⟩ rfl ?_
  refine ls_rs tbOk ?_
  refine evs (ev_mv (c := .str a0) rfl rfl rfl (?_))
  obtain ⟨v1, g2, h⟩ := ob_some h
  refine evs (ev_call (era rfl rfl (era rfl rfl eran)) (impl_isLetters_s g2) (evs (ev_as (c := .bool v1) rfl rfl rfl (evn ?_))))
  refine ls_keep [(2, .bool v1)] ⟨kr, trivial⟩ rfl ?_
  refine ls_ret ?_
  have hr := Option.some.inj h
  rw [← hr]
  exact ⟨.inl rfl, rfl⟩
def impl_IsValidQuery_B2 (a0 : Y91) (e17 : Y194) (rec : ((List Bool) × Int) → Option (Sum ((List Bool)) (Bool))) (s : (List Bool) × Int) : Option (Sum ((List Bool)) (Bool)) := match s with
  | (y7, y8) => cond (decide (y8 < (List.length e17.2 : Int))) (obind (geti e17.2 y8) fun e30 => obind (impl_within e30 0 (IntKind.i64.wrap (a0.1 - 1))) fun v33 => cond (!v33) (some (.inr false)) (obind (geti y7 e30) fun e36 => rec ((seti y7 e30 true), (IntKind.i64.wrap (y8 + 1))))) (some (.inl y7))
def impl_IsValidQuery_B1 (a0 : Y91) (rec : ((List Bool) × Int) → Option (Sum ((List Bool)) (Bool))) (s : (List Bool) × Int) : Option (Sum ((List Bool)) (Bool)) := match s with
  | (y3, y4) => cond (decide (y4 < (List.length a0.2.1 : Int))) (obind (geti a0.2.1 y4) fun e17 => obind (impl_IsValidName e17.1) fun v20 => cond (!v20) (some (.inr false)) (obind (impl_within (List.length e17.2 : Int) 1 5) fun v23 => cond (!v23) (some (.inr false)) (obind (loopF (impl_IsValidQuery_B2 a0 e17) fz (y3, 0)) fun o2 => (match o2 with
  | .inl z26 => (rec (z26, (IntKind.i64.wrap (y4 + 1))))
  | .inr r => some (.inr r))))) (some (.inl y3))
def impl_IsValidQuery_B3 (z13 : List Bool) (rec : Int → Option (Sum (Unit) (Bool))) (y9 : Int) : Option (Sum (Unit) (Bool)) := cond (decide (y9 < (List.length z13 : Int))) (obind (geti z13 y9) fun e42 => cond (!e42) (some (.inr false)) (rec (IntKind.i64.wrap (y9 + 1)))) (some (.inl ()))
def impl_IsValidQuery (a0 : Y91) : Option (Bool) := obind (impl_within a0.1 1 5) fun v2 => cond (!v2) (some false) (obind (impl_within (List.length a0.2.1 : Int) 1 4) fun v5 => cond (!v5) (some false) (obind (impl_isSetOf a0.2.2 a0.1) fun v8 => cond (!v8) (some false) (chk ((0 : Int) ≤ a0.1 ∧ Int.toNat a0.1 ≤ lim) (obind (loopF (impl_IsValidQuery_B1 a0) fz ((List.replicate (Int.toNat a0.1) (false : Bool)), 0)) fun o1 => (match o1 with
  | .inl z13 => (obind (loopF (impl_IsValidQuery_B3 z13) fz 0) fun o3 => (match o3 with
  | .inl _ => (some true)
  | .inr r => some r))
  | .inr r => some r)))))
theorem impl_IsValidQuery_s {a0 : Y91} {r : Bool} (h : impl_IsValidQuery a0 = some r) : SoundAt Try.prog 209 [.agg (c92_ddd a0)] (.bool r) := by
  unfold impl_IsValidQuery at h
  refine sound_lit tbOk lit209 (nb rfl) rfl ?_
  unfold c209
  refine ls_keep [(0, .agg (c92_ddd a0))] ⟨kr, trivial⟩ rfl ?_
  refine ls_rs tbOk ?_
  refine evs (ev_bx (c1 := .agg (c92_ddd a0)) rfl rfl rfl (evs (ev_ac rfl nofun rfl (evn ?_))))
  refine ls_keep [(1, .box [nI a0.1, dL c195_d a0.2.1, dL ci64 a0.2.2])] ⟨kr, trivial⟩ rfl ?_
  refine ls_rs tbOk ?_
  refine evs (ev_fa (c1 := .cref 1 0) (v := .cref 1 0) rfl rfl rfl ⟨_, rfl⟩ rfl (evs (ev_ldB (off := 0) (v := nI a0.1) rfl rfl rfl rfl (nb rfl) rfl (evs (ev_as (c := nI a0.1) rfl rfl rfl (evn ?_))))))
  refine ls_keep [(1, .box [nI a0.1, dL c195_d a0.2.1, dL ci64 a0.2.2]), (3, nI a0.1)] ⟨kr, kr, trivial⟩ rfl ?_
  refine ls_seq_k fun K1 hK1 => ?_
  refine ls_rs tbOk ?_
  refine evs (ev_mv (c := nI a0.1) rfl rfl rfl (?_))
  obtain ⟨v2, g3, h⟩ := ob_some h
  refine evs (ev_call (era rfl rfl (era rfl rfl (era rfl rfl eran))) (impl_within_s g3) (evs (ev_un (c1 := .bool v2) rfl trivial (evs (ev_mv (c := .bool (!v2)) rfl rfl rfl (?_))))))
  rcases cond_some h with ⟨g4, h⟩ | ⟨g4, h⟩
  · refine evs (ev_gs rfl rfl (isb_T g4) (evs (ev_gs rfl rfl (isb_T g4) (evs (ev_gs rfl rfl (isb_T g4) (evs (ev_gs rfl rfl (isb_T g4) (evs (ev_gs rfl rfl (isb_T g4) (evs (ev_pkT (c1 := .bool true) rfl g4 rfl rfl (evs (ev_mv (c := .bool true) rfl rfl rfl (evs (ev_gs rfl rfl rfl (evs (ev_gs rfl rfl rfl (evs (ev_gs rfl rfl rfl (evs (ev_gs rfl rfl rfl (evs (ev_gs rfl rfl rfl (evs (ev_pkT (c1 := .bool true) rfl rfl rfl rfl (evn ?_))))))))))))))))))))))))))
    refine ls_keep [(1, .box [nI a0.1, dL c195_d a0.2.1, dL ci64 a0.2.2]), (3, nI a0.1), (29, .bool true)] ⟨kr, kr, kr, trivial⟩ rfl ?_
    refine ls_cT rfl rfl ?_
    refine ls_rs tbOk ?_
    refine evs (ev_ac rfl nofun rfl (evn ?_))
    refine ls_keep [(2, .bool false)] ⟨kr, trivial⟩ rfl ?_
    refine ls_ret ?_
    have hr := Option.some.inj h
    rw [← hr]
    exact ⟨.inl rfl, rfl⟩
  · refine evs (ev_gr rfl (congrArg V.bool g4) (ev_fa (c1 := .cref 1 0) (v := .cref 1 1) rfl rfl rfl ⟨_, rfl⟩ rfl (evs (ev_gr rfl (congrArg V.bool g4) (ev_ldB (off := 1) (v := dL c195_d a0.2.1) rfl rfl rfl rfl (nb rfl) rfl (evs (ev_gr rfl (congrArg V.bool g4) (ev_len (c1 := dL c195_d a0.2.1) rfl rfl rfl (?_)))))))))
    obtain ⟨v5, g6, h⟩ := ob_some h
    refine evs (ev_gr rfl (congrArg V.bool g4) (ev_call (era rfl rfl (era rfl rfl (era rfl rfl eran))) (impl_within_s g6) (evs (ev_gr rfl (congrArg V.bool g4) (ev_un (c1 := .bool v5) rfl trivial (evs (ev_pkF (c1 := .bool (!v5)) rfl g4 rfl rfl (evs (ev_mv (c := .bool (!v5)) rfl rfl rfl (?_))))))))))
    rcases cond_some h with ⟨g7, h⟩ | ⟨g7, h⟩
    · refine evs (ev_gs rfl rfl (isb_T g7) (evs (ev_gs rfl rfl (isb_T g7) (evs (ev_gs rfl rfl (isb_T g7) (evs (ev_gs rfl rfl (isb_T g7) (evs (ev_gs rfl rfl (isb_T g7) (evs (ev_pkT (c1 := .bool true) rfl g7 rfl rfl (evn ?_))))))))))))
      refine ls_keep [(1, .box [nI a0.1, dL c195_d a0.2.1, dL ci64 a0.2.2]), (3, nI a0.1), (29, .bool true)] ⟨kr, kr, kr, trivial⟩ rfl ?_
      refine ls_cT rfl rfl ?_
      refine ls_rs tbOk ?_
      refine evs (ev_ac rfl nofun rfl (evn ?_))
      refine ls_keep [(2, .bool false)] ⟨kr, trivial⟩ rfl ?_
      refine ls_ret ?_
      have hr := Option.some.inj h
      rw [← hr]
      exact ⟨.inl rfl, rfl⟩
    · refine evs (ev_gr rfl (congrArg V.bool g7) (ev_fa (c1 := .cref 1 0) (v := .cref 1 2) rfl rfl rfl ⟨_, rfl⟩ rfl (evs (ev_gr rfl (congrArg V.bool g7) (ev_ldB (off := 2) (v := dL ci64 a0.2.2) rfl rfl rfl rfl (nb rfl) rfl (evs (ev_gr rfl (congrArg V.bool g7) (ev_mv (c := nI a0.1) rfl rfl rfl (?_)))))))))
      obtain ⟨v8, g9, h⟩ := ob_some h
      refine evs (ev_gr rfl (congrArg V.bool g7) (ev_call (era rfl (erD eci64 _) (era rfl rfl eran)) (impl_isSetOf_s g9) (evs (ev_gr rfl (congrArg V.bool g7) (ev_un (c1 := .bool v8) rfl trivial (evs (ev_pkF (c1 := .bool (!v8)) rfl g7 rfl rfl (evn ?_))))))))
      refine ls_keep [(1, .box [nI a0.1, dL c195_d a0.2.1, dL ci64 a0.2.2]), (3, nI a0.1), (29, .bool (!v8))] ⟨kr, kr, kr, trivial⟩ rfl ?_
      rcases cond_some h with ⟨g10, h⟩ | ⟨g10, h⟩
      · refine ls_cT rfl g10 ?_
        refine ls_rs tbOk ?_
        refine evs (ev_ac rfl nofun rfl (evn ?_))
        refine ls_keep [(2, .bool false)] ⟨kr, trivial⟩ rfl ?_
        refine ls_ret ?_
        have hr := Option.some.inj h
        rw [← hr]
        exact ⟨.inl rfl, rfl⟩
      · refine ls_cF rfl g10 ?_
        refine ls_skip ?_
        refine hK1 _ (ls_keep [(1, .box [nI a0.1, dL c195_d a0.2.1, dL ci64 a0.2.2]), (3, nI a0.1)] ⟨kr, kr, trivial⟩ rfl ?_)
        refine ls_rs tbOk ?_
        refine evs (ev_mv (c := nI a0.1) rfl rfl rfl (?_))
        obtain ⟨g11, h⟩ := chk_some h
        refine evs (ev_mku (f := cbl) (z := (false : Bool)) rfl rfl rfl rfl rfl rfl g11 rfl (evs (ev_asu rfl rfl rfl (evn ?_))))
        refine ls_keep [(1, .box [nI a0.1, dL c195_d a0.2.1, dL ci64 a0.2.2]), (3, nI a0.1), (4, wL 4 cbl (List.replicate (Int.toNat a0.1) (false : Bool)))] ⟨kr, kr, kr, trivial⟩ rfl ?_
        refine ls_seq_k fun K12 hK12 => ?_
        refine ls_rs tbOk ?_
        refine evs (ev_fa (c1 := .cref 1 0) (v := .cref 1 1) rfl rfl rfl ⟨_, rfl⟩ rfl (evs (ev_ldB (off := 1) (v := dL c195_d a0.2.1) rfl rfl rfl rfl (nb rfl) rfl (evs (ev_len (c1 := dL c195_d a0.2.1) rfl rfl rfl (evs (ev_mc rfl rfl (evn ?_))))))))
        refine ls_keep [(3, nI a0.1), (4, wL 4 cbl (List.replicate (Int.toNat a0.1) (false : Bool))), (33, dL c195_d a0.2.1), (34, nI (List.length a0.2.1 : Int)), (35, nI 0)] ⟨kr, kr, kr, kr, kr, trivial⟩ rfl ?_
        obtain ⟨o1, hl, hr1⟩ := ob_some h
        clear h
        have kXimpl_IsValidQuery_B1 : ∀ (z13 : List Bool), (obind (loopF (impl_IsValidQuery_B3 z13) fz 0) fun o3 => (match o3 with
  | .inl _ => (some true)
  | .inr r => some r)) = some r → ∀ σ' : PS, okK σ' [(4, wL 4 cbl z13)] → K12 σ' := by
          intro z13 h σ' hk
          refine hK12 _ (ls_keep [(4, wL 4 cbl z13)] hk rfl ?_)
          refine ls_seq_k fun K38 hK38 => ?_
          refine ls_rs tbOk ?_
          refine evs (ev_mvu rfl rfl (evs (ev_lenu rfl rfl rfl (evs (ev_mc rfl rfl (evn ?_))))))
          refine ls_keep [(4, wL 4 cbl z13), (67, .same 4), (68, nI (List.length z13 : Int)), (69, nI 0)] ⟨kr, kr, kr, kr, trivial⟩ rfl ?_
          obtain ⟨o3, hl, hr3⟩ := ob_some h
          clear h
          have kXimpl_IsValidQuery_B3 : ∀ (_ : Unit), (some true) = some r → ∀ σ' : PS, okK σ' [] → K38 σ' := by
            intro _ h σ' hk
            refine hK38 _ (ls_keep [] hk rfl ?_)
            refine ls_rs tbOk ?_
            refine evs (ev_ac rfl nofun rfl (evn ?_))
            refine ls_keep [(2, .bool true)] ⟨kr, trivial⟩ rfl ?_
            refine ls_ret ?_
            have hr := Option.some.inj h
            rw [← hr]
            exact ⟨.inl rfl, rfl⟩
          refine ls_rec (fun (y9 : Int) => [(4, wL 4 cbl z13), (67, .same 4), (68, nI (List.length z13 : Int)), (69, nI y9)]) (impl_IsValidQuery_B3 z13) fz 0 o3 hl ⟨kr, kr, kr, kr, trivial⟩ (fun _ => rfl) ?_
          rintro m y9 N h hN
          unfold impl_IsValidQuery_B3 at h
          refine ls_rs tbOk ?_
          refine evs (ev_bin (c1 := nI y9) (c2 := nI (List.length z13 : Int)) rfl rfl rfl (evn ?_))
          refine ls_keep [(4, wL 4 cbl z13), (67, .same 4), (68, nI (List.length z13 : Int)), (69, nI y9), (70, .bool (decide (y9 < (List.length z13 : Int))))] ⟨kr, kr, kr, kr, kr, trivial⟩ rfl ?_
          refine ls_seq_k fun K39 hK39 => ?_
          rcases cond_some h with ⟨g40, h⟩ | ⟨g40, h⟩
          · refine ls_cT rfl g40 ?_
            refine ls_skip ?_
            refine hK39 _ (ls_keep [(4, wL 4 cbl z13), (67, .same 4), (68, nI (List.length z13 : Int)), (69, nI y9)] ⟨kr, kr, kr, kr, trivial⟩ rfl ?_)
            refine ls_seq_k fun K41 hK41 => ?_
            refine ls_blk ?_
            refine ls_rs tbOk ?_
            obtain ⟨e42, g43, h⟩ := ob_some h
            refine evs (ev_iau rfl rfl rfl rfl ⟨(geti_some g43).1, (geti_some g43).2.1⟩ (evs (ev_ldU (off := 0) (v := .bool e42) rfl rfl rfl zcbl g43 rfl (nb rfl) rfl (evs (ev_as (c := .bool e42) rfl rfl rfl (evn ?_))))))
            refine ls_keep [(4, wL 4 cbl z13), (10, .bool e42), (67, .same 4), (68, nI (List.length z13 : Int)), (69, nI y9)] ⟨kr, kr, kr, kr, kr, trivial⟩ rfl ?_
            refine ls_rs tbOk ?_
            refine evs (ev_mv (c := .bool e42) rfl rfl rfl (evs (ev_un (c1 := .bool e42) rfl trivial (evn ?_))))
            refine ls_keep [(4, wL 4 cbl z13), (67, .same 4), (68, nI (List.length z13 : Int)), (69, nI y9), (74, .bool (!e42))] ⟨kr, kr, kr, kr, kr, trivial⟩ rfl ?_
            rcases cond_some h with ⟨g44, h⟩ | ⟨g44, h⟩
            · refine ls_cT rfl g44 ?_
              refine ls_rs tbOk ?_
              refine evs (ev_ac rfl nofun rfl (evn ?_))
              refine ls_keep [(2, .bool false)] ⟨kr, trivial⟩ rfl ?_
              refine ls_ret ?_
              have q0 := (Option.some.inj h).symm
              have r0 := hr3
              rw [q0] at r0
              have hr := Option.some.inj r0
              rw [← hr]
              exact ⟨.inl rfl, rfl⟩
            · refine ls_cF rfl g44 ?_
              refine ls_skip ?_
              refine hK41 _ (ls_keep [(4, wL 4 cbl z13), (67, .same 4), (68, nI (List.length z13 : Int)), (69, nI y9)] ⟨kr, kr, kr, kr, trivial⟩ rfl ?_)
              refine ls_rgn tbOk ?_
              refine evs (ev_bin (c1 := nI y9) (c2 := nI 1) rfl rfl rfl (evs (ev_mv (c := nI (IntKind.i64.wrap (y9 + 1))) rfl rfl rfl (evn ?_))))
              exact hN _ (IntKind.i64.wrap (y9 + 1)) h ⟨kr, kr, kr, kr, trivial⟩
          · refine ls_cF rfl g40 ?_
            refine ls_exit ?_
            have q0 := (Option.some.inj h).symm
            have r0 := hr3
            rw [q0] at r0
            exact kXimpl_IsValidQuery_B3 () r0 _ trivial
        refine ls_rec (fun (s : (List Bool) × Int) => match s with | (y3, y4) => [(3, nI a0.1), (4, wL 4 cbl y3), (33, dL c195_d a0.2.1), (34, nI (List.length a0.2.1 : Int)), (35, nI y4)]) (impl_IsValidQuery_B1 a0) fz ((List.replicate (Int.toNat a0.1) (false : Bool)), 0) o1 hl ⟨kr, kr, kr, kr, kr, trivial⟩ (fun _ => rfl) ?_
        rintro m ⟨y3, y4⟩ N h hN
        unfold impl_IsValidQuery_B1 at h
        dsimp only at h
        refine ls_rs tbOk ?_
        refine evs (ev_bin (c1 := nI y4) (c2 := nI (List.length a0.2.1 : Int)) rfl rfl rfl (evn ?_))
        refine ls_keep [(3, nI a0.1), (4, wL 4 cbl y3), (33, dL c195_d a0.2.1), (34, nI (List.length a0.2.1 : Int)), (35, nI y4), (36, .bool (decide (y4 < (List.length a0.2.1 : Int))))] ⟨kr, kr, kr, kr, kr, kr, trivial⟩ rfl ?_
        refine ls_seq_k fun K14 hK14 => ?_
        rcases cond_some h with ⟨g15, h⟩ | ⟨g15, h⟩
        · refine ls_cT rfl g15 ?_
          refine ls_skip ?_
          refine hK14 _ (ls_keep [(3, nI a0.1), (4, wL 4 cbl y3), (33, dL c195_d a0.2.1), (34, nI (List.length a0.2.1 : Int)), (35, nI y4)] ⟨kr, kr, kr, kr, kr, trivial⟩ rfl ?_)
          refine ls_seq_k fun K16 hK16 => ?_
          refine ls_blk ?_
          refine ls_rs tbOk ?_
          obtain ⟨e17, g18, h⟩ := ob_some h
          refine evs (ev_ia rfl rfl rfl ⟨(geti_some g18).1, (geti_some g18).2.1⟩ (evs (ev_ldEt (i := y4) (n := 2) (off := 0) (v := .agg (c195_d e17)) rfl rfl zc195_d g18 rfl (nb rfl) rfl (evs (ev_al rfl rfl (evs (ev_st (off := 0) (c1 := .agg (c195_d e17)) (cs' := [.str e17.1, dL ci64 e17.2]) rfl rfl rfl rfl rfl rfl (nb rfl) rfl (evn ?_))))))))
          refine ls_keep [(3, nI a0.1), (4, wL 4 cbl y3), (6, .box [.str e17.1, dL ci64 e17.2]), (33, dL c195_d a0.2.1), (34, nI (List.length a0.2.1 : Int)), (35, nI y4)] ⟨kr, kr, kr, kr, kr, kr, trivial⟩ rfl ?_
          refine ls_seq_k fun K19 hK19 => ?_
          refine ls_rs tbOk ?_
          refine evs (ev_fa (c1 := .cref 6 0) (v := .cref 6 0) rfl rfl rfl ⟨_, rfl⟩ rfl (evs (ev_ldB (off := 0) (v := .str e17.1) rfl rfl rfl rfl (nb rfl) rfl (?_))))
          obtain ⟨v20, g21, h⟩ := ob_some h
          refine evs (ev_call (era rfl rfl eran) (impl_IsValidName_s g21) (evs (ev_un (c1 := .bool v20) rfl trivial (evs (ev_mv (c := .bool (!v20)) rfl rfl rfl (?_))))))
          rcases cond_some h with ⟨g22, h⟩ | ⟨g22, h⟩
          · refine evs (ev_gs rfl rfl (isb_T g22) (evs (ev_gs rfl rfl (isb_T g22) (evs (ev_gs rfl rfl (isb_T g22) (evs (ev_gs rfl rfl (isb_T g22) (evs (ev_gs rfl rfl (isb_T g22) (evs (ev_pkT (c1 := .bool true) rfl g22 rfl rfl (evn ?_))))))))))))
            refine ls_keep [(3, nI a0.1), (4, wL 4 cbl y3), (6, .box [.str e17.1, dL ci64 e17.2]), (33, dL c195_d a0.2.1), (34, nI (List.length a0.2.1 : Int)), (35, nI y4), (49, .bool true)] ⟨kr, kr, kr, kr, kr, kr, kr, trivial⟩ rfl ?_
            refine ls_cT rfl rfl ?_
            refine ls_rs tbOk ?_
            refine evs (ev_ac rfl nofun rfl (evn ?_))
            refine ls_keep [(2, .bool false)] ⟨kr, trivial⟩ rfl ?_
            refine ls_ret ?_
            have q0 := (Option.some.inj h).symm
            have r0 := hr1
            rw [q0] at r0
            have hr := Option.some.inj r0
            rw [← hr]
            exact ⟨.inl rfl, rfl⟩
          · refine evs (ev_gr rfl (congrArg V.bool g22) (ev_fa (c1 := .cref 6 0) (v := .cref 6 1) rfl rfl rfl ⟨_, rfl⟩ rfl (evs (ev_gr rfl (congrArg V.bool g22) (ev_ldB (off := 1) (v := dL ci64 e17.2) rfl rfl rfl rfl (nb rfl) rfl (evs (ev_gr rfl (congrArg V.bool g22) (ev_len (c1 := dL ci64 e17.2) rfl rfl rfl (?_)))))))))
            obtain ⟨v23, g24, h⟩ := ob_some h
            refine evs (ev_gr rfl (congrArg V.bool g22) (ev_call (era rfl rfl (era rfl rfl (era rfl rfl eran))) (impl_within_s g24) (evs (ev_gr rfl (congrArg V.bool g22) (ev_un (c1 := .bool v23) rfl trivial (evs (ev_pkF (c1 := .bool (!v23)) rfl g22 rfl rfl (evn ?_))))))))
            refine ls_keep [(3, nI a0.1), (4, wL 4 cbl y3), (6, .box [.str e17.1, dL ci64 e17.2]), (33, dL c195_d a0.2.1), (34, nI (List.length a0.2.1 : Int)), (35, nI y4), (49, .bool (!v23))] ⟨kr, kr, kr, kr, kr, kr, kr, trivial⟩ rfl ?_
            rcases cond_some h with ⟨g25, h⟩ | ⟨g25, h⟩
            · refine ls_cT rfl g25 ?_
              refine ls_rs tbOk ?_
              refine evs (ev_ac rfl nofun rfl (evn ?_))
              refine ls_keep [(2, .bool false)] ⟨kr, trivial⟩ rfl ?_
              refine ls_ret ?_
              have q0 := (Option.some.inj h).symm
              have r0 := hr1
              rw [q0] at r0
              have hr := Option.some.inj r0
              rw [← hr]
              exact ⟨.inl rfl, rfl⟩
            · refine ls_cF rfl g25 ?_
              refine ls_skip ?_
              refine hK19 _ (ls_keep [(3, nI a0.1), (4, wL 4 cbl y3), (6, .box [.str e17.1, dL ci64 e17.2]), (33, dL c195_d a0.2.1), (34, nI (List.length a0.2.1 : Int)), (35, nI y4)] ⟨kr, kr, kr, kr, kr, kr, trivial⟩ rfl ?_)
              refine ls_rs tbOk ?_
              refine evs (ev_fa (c1 := .cref 6 0) (v := .cref 6 1) rfl rfl rfl ⟨_, rfl⟩ rfl (evs (ev_ldB (off := 1) (v := dL ci64 e17.2) rfl rfl rfl rfl (nb rfl) rfl (evs (ev_len (c1 := dL ci64 e17.2) rfl rfl rfl (evs (ev_mc rfl rfl (evn ?_))))))))
              refine ls_keep [(3, nI a0.1), (4, wL 4 cbl y3), (33, dL c195_d a0.2.1), (34, nI (List.length a0.2.1 : Int)), (35, nI y4), (51, dL ci64 e17.2), (52, nI (List.length e17.2 : Int)), (53, nI 0)] ⟨kr, kr, kr, kr, kr, kr, kr, kr, trivial⟩ rfl ?_
              obtain ⟨o2, hl, hr2⟩ := ob_some h
              clear h
              have kXimpl_IsValidQuery_B2 : ∀ (z26 : List Bool), ((loopF (impl_IsValidQuery_B1 a0) m) (z26, (IntKind.i64.wrap (y4 + 1)))) = some o1 → ∀ σ' : PS, okK σ' [(3, nI a0.1), (4, wL 4 cbl z26), (33, dL c195_d a0.2.1), (34, nI (List.length a0.2.1 : Int)), (35, nI y4)] → K16 σ' := by
                intro z26 h σ' hk
                refine hK16 _ (ls_keep [(3, nI a0.1), (4, wL 4 cbl z26), (33, dL c195_d a0.2.1), (34, nI (List.length a0.2.1 : Int)), (35, nI y4)] hk rfl ?_)
                refine ls_rgn tbOk ?_
                refine evs (ev_bin (c1 := nI y4) (c2 := nI 1) rfl rfl rfl (evs (ev_mv (c := nI (IntKind.i64.wrap (y4 + 1))) rfl rfl rfl (evn ?_))))
                exact hN _ (z26, (IntKind.i64.wrap (y4 + 1))) h ⟨kr, kr, kr, kr, kr, trivial⟩
              refine ls_rec (fun (s : (List Bool) × Int) => match s with | (y7, y8) => [(3, nI a0.1), (4, wL 4 cbl y7), (33, dL c195_d a0.2.1), (34, nI (List.length a0.2.1 : Int)), (35, nI y4), (51, dL ci64 e17.2), (52, nI (List.length e17.2 : Int)), (53, nI y8)]) (impl_IsValidQuery_B2 a0 e17) fz (y3, 0) o2 hl ⟨kr, kr, kr, kr, kr, kr, kr, kr, trivial⟩ (fun _ => rfl) ?_
              rintro m ⟨y7, y8⟩ N h hN
              unfold impl_IsValidQuery_B2 at h
              dsimp only at h
              refine ls_rs tbOk ?_
              refine evs (ev_bin (c1 := nI y8) (c2 := nI (List.length e17.2 : Int)) rfl rfl rfl (evn ?_))
              refine ls_keep [(3, nI a0.1), (4, wL 4 cbl y7), (33, dL c195_d a0.2.1), (34, nI (List.length a0.2.1 : Int)), (35, nI y4), (51, dL ci64 e17.2), (52, nI (List.length e17.2 : Int)), (53, nI y8), (54, .bool (decide (y8 < (List.length e17.2 : Int))))] ⟨kr, kr, kr, kr, kr, kr, kr, kr, kr, trivial⟩ rfl ?_
              refine ls_seq_k fun K27 hK27 => ?_
              rcases cond_some h with ⟨g28, h⟩ | ⟨g28, h⟩
              · refine ls_cT rfl g28 ?_
                refine ls_skip ?_
                refine hK27 _ (ls_keep [(3, nI a0.1), (4, wL 4 cbl y7), (33, dL c195_d a0.2.1), (34, nI (List.length a0.2.1 : Int)), (35, nI y4), (51, dL ci64 e17.2), (52, nI (List.length e17.2 : Int)), (53, nI y8)] ⟨kr, kr, kr, kr, kr, kr, kr, kr, trivial⟩ rfl ?_)
                refine ls_seq_k fun K29 hK29 => ?_
                refine ls_blk ?_
                refine ls_rs tbOk ?_
                obtain ⟨e30, g31, h⟩ := ob_some h
                refine evs (ev_ia rfl rfl rfl ⟨(geti_some g31).1, (geti_some g31).2.1⟩ (evs (ev_ldE (i := y8) (n := 1) (off := 0) (v := nI e30) rfl rfl zci64 g31 rfl (nb rfl) rfl (evs (ev_as (c := nI e30) rfl rfl rfl (evn ?_))))))
                refine ls_keep [(3, nI a0.1), (4, wL 4 cbl y7), (8, nI e30), (33, dL c195_d a0.2.1), (34, nI (List.length a0.2.1 : Int)), (35, nI y4), (51, dL ci64 e17.2), (52, nI (List.length e17.2 : Int)), (53, nI y8)] ⟨kr, kr, kr, kr, kr, kr, kr, kr, kr, trivial⟩ rfl ?_
                refine ls_seq_k fun K32 hK32 => ?_
                refine ls_rs tbOk ?_
                refine evs (ev_mv (c := nI e30) rfl rfl rfl (evs (ev_mv (c := nI a0.1) rfl rfl rfl (evs (ev_bin (c1 := nI a0.1) (c2 := nI 1) rfl rfl rfl (?_))))))
                obtain ⟨v33, g34, h⟩ := ob_some h
                refine evs (ev_call (era rfl rfl (era rfl rfl (era rfl rfl eran))) (impl_within_s g34) (evs (ev_un (c1 := .bool v33) rfl trivial (evn ?_))))
                refine ls_keep [(3, nI a0.1), (4, wL 4 cbl y7), (8, nI e30), (33, dL c195_d a0.2.1), (34, nI (List.length a0.2.1 : Int)), (35, nI y4), (51, dL ci64 e17.2), (52, nI (List.length e17.2 : Int)), (53, nI y8), (61, .bool (!v33))] ⟨kr, kr, kr, kr, kr, kr, kr, kr, kr, kr, trivial⟩ rfl ?_
                rcases cond_some h with ⟨g35, h⟩ | ⟨g35, h⟩
                · refine ls_cT rfl g35 ?_
                  refine ls_rs tbOk ?_
                  refine evs (ev_ac rfl nofun rfl (evn ?_))
                  refine ls_keep [(2, .bool false)] ⟨kr, trivial⟩ rfl ?_
                  refine ls_ret ?_
                  have q0 := (Option.some.inj h).symm
                  have r0 := hr2
                  rw [q0] at r0
                  have q1 := (Option.some.inj r0).symm
                  have r1 := hr1
                  rw [q1] at r1
                  have hr := Option.some.inj r1
                  rw [← hr]
                  exact ⟨.inl rfl, rfl⟩
                · refine ls_cF rfl g35 ?_
                  refine ls_skip ?_
                  refine hK32 _ (ls_keep [(3, nI a0.1), (4, wL 4 cbl y7), (8, nI e30), (33, dL c195_d a0.2.1), (34, nI (List.length a0.2.1 : Int)), (35, nI y4), (51, dL ci64 e17.2), (52, nI (List.length e17.2 : Int)), (53, nI y8)] ⟨kr, kr, kr, kr, kr, kr, kr, kr, kr, trivial⟩ rfl ?_)
                  refine ls_rgn tbOk ?_
                  refine evs (ev_mvu rfl rfl (evs (ev_mv (c := nI e30) rfl rfl rfl (?_))))
                  obtain ⟨e36, g37, h⟩ := ob_some h
                  refine evs (ev_iau rfl rfl rfl rfl ⟨(geti_some g37).1, (geti_some g37).2.1⟩ (evs (ev_stu (e := true) (c1 := .bool true) rfl rfl zcbl ⟨(geti_some g37).1, (geti_some g37).2.1⟩ rfl rfl rfl rfl rfl (evn ?_))))
                  refine hK29 _ (ls_keep [(3, nI a0.1), (4, wL 4 cbl (seti y7 e30 true)), (33, dL c195_d a0.2.1), (34, nI (List.length a0.2.1 : Int)), (35, nI y4), (51, dL ci64 e17.2), (52, nI (List.length e17.2 : Int)), (53, nI y8)] ⟨kr, kr, kr, kr, kr, kr, kr, kr, trivial⟩ rfl ?_)
                  refine ls_rgn tbOk ?_
                  refine evs (ev_bin (c1 := nI y8) (c2 := nI 1) rfl rfl rfl (evs (ev_mv (c := nI (IntKind.i64.wrap (y8 + 1))) rfl rfl rfl (evn ?_))))
                  exact hN _ ((seti y7 e30 true), (IntKind.i64.wrap (y8 + 1))) h ⟨kr, kr, kr, kr, kr, kr, kr, kr, trivial⟩
              · refine ls_cF rfl g28 ?_
                refine ls_exit ?_
                have q0 := (Option.some.inj h).symm
                have r0 := hr2
                rw [q0] at r0
                exact kXimpl_IsValidQuery_B2 y7 r0 _ ⟨kr, kr, kr, kr, kr, trivial⟩
        · refine ls_cF rfl g15 ?_
          refine ls_exit ?_
          have q0 := (Option.some.inj h).symm
          have r0 := hr1
          rw [q0] at r0
          exact kXimpl_IsValidQuery_B1 y3 r0 _ ⟨kr, trivial⟩
def impl_isTree_B3 (a0 : List Int) (rec : (Int × Int) → Option (Sum (Int) (Bool))) (s : Int × Int) : Option (Sum (Int) (Bool)) := match s with
  | (y7, y8) => cond (decide (y8 ≤ (List.length a0 : Int))) (cond (decide (0 ≤ y7)) (obind (geti a0 y7) fun e20 => obind (impl_within e20 (-1) (IntKind.i64.wrap ((List.length a0 : Int) - 1))) fun v22 => cond (!v22) (some (.inr false)) (rec (e20, (IntKind.i64.wrap (y8 + 1))))) (some (.inl y7))) (some (.inl y7))
def impl_isTree_J2 (rec : (Int × Int) → Option (Sum (Int) (Bool))) (a0 : List Int) (y4 : Int) (x13 : Int) : Option (Sum (Int) (Bool)) := obind (loopF (impl_isTree_B3 a0) fz (y4, 0)) fun o3 => (match o3 with
  | .inl z15 => (cond (decide (0 ≤ z15)) (some (.inr false)) (rec (x13, (IntKind.i64.wrap (y4 + 1)))))
  | .inr r => some (.inr r))
def impl_isTree_B1 (a0 : List Int) (rec : (Int × Int) → Option (Sum (Int) (Bool))) (s : Int × Int) : Option (Sum (Int) (Bool)) := match s with
  | (y3, y4) => cond (decide (y4 < (List.length a0 : Int))) (obind (geti a0 y4) fun e6 => obind (impl_within e6 (-1) (IntKind.i64.wrap ((List.length a0 : Int) - 1))) fun v9 => cond (!v9) (some (.inr false)) (cond (decide (e6 < 0)) (impl_isTree_J2 rec a0 y4 (IntKind.i64.wrap (y3 + 1))) (impl_isTree_J2 rec a0 y4 y3))) (some (.inl y3))
def impl_isTree (a0 : List Int) : Option (Bool) := obind (loopF (impl_isTree_B1 a0) fz (0, 0)) fun o1 => (match o1 with
  | .inl z2 => (some (z2 == 1))
  | .inr r => some r)
theorem impl_isTree_s {a0 : List Int} {r : Bool} (h : impl_isTree a0 = some r) : SoundAt Try.prog 210 [dL ci64 a0] (.bool r) := by
  unfold impl_isTree at h
  refine sound_lit tbOk lit210 (nb rfl) rfl ?_
  unfold c210
  refine ls_keep [(0, dL ci64 a0)] ⟨kr, trivial⟩ rfl ?_
  refine ls_rs tbOk ?_
  refine evs (ev_ac rfl nofun rfl (evn ?_))
  refine ls_keep [(0, dL ci64 a0)] ⟨kr, trivial⟩ rfl ?_
  refine ls_rs tbOk ?_
  refine evs (ev_ac rfl nofun rfl (evn ?_))
  refine ls_keep [(0, dL ci64 a0), (3, nI 0)] ⟨kr, kr, trivial⟩ rfl ?_
  refine ls_seq_k fun K1 hK1 => ?_
  refine ls_rs tbOk ?_
  refine evs (ev_mv (c := dL ci64 a0) rfl rfl rfl (evs (ev_len (c1 := dL ci64 a0) rfl rfl rfl (evs (ev_mc rfl rfl (evn ?_))))))
  refine ls_keep [(0, dL ci64 a0), (3, nI 0), (8, dL ci64 a0), (9, nI (List.length a0 : Int)), (10, nI 0)] ⟨kr, kr, kr, kr, kr, trivial⟩ rfl ?_
  obtain ⟨o1, hl, hr1⟩ := ob_some h
  clear h
  have kXimpl_isTree_B1 : ∀ (z2 : Int), (some (z2 == 1)) = some r → ∀ σ' : PS, okK σ' [(3, nI z2)] → K1 σ' := by
    intro z2 h σ' hk
    refine hK1 _ (ls_keep [(3, nI z2)] hk rfl ?_)
    refine ls_rs tbOk ?_
    refine evs (ev_mv (c := nI z2) rfl rfl rfl (evs (ev_bin (c1 := nI z2) (c2 := nI 1) rfl rfl rfl (evs (ev_as (c := .bool (z2 == 1)) rfl rfl rfl (evn ?_))))))
    refine ls_keep [(2, .bool (z2 == 1))] ⟨kr, trivial⟩ rfl ?_
    refine ls_ret ?_
    have hr := Option.some.inj h
    rw [← hr]
    exact ⟨.inl rfl, rfl⟩
  refine ls_rec (fun (s : Int × Int) => match s with | (y3, y4) => [(0, dL ci64 a0), (3, nI y3), (8, dL ci64 a0), (9, nI (List.length a0 : Int)), (10, nI y4)]) (impl_isTree_B1 a0) fz (0, 0) o1 hl ⟨kr, kr, kr, kr, kr, trivial⟩ (fun _ => rfl) ?_
  rintro m ⟨y3, y4⟩ N h hN
  unfold impl_isTree_B1 at h
  dsimp only at h
  refine ls_rs tbOk ?_
  refine evs (ev_bin (c1 := nI y4) (c2 := nI (List.length a0 : Int)) rfl rfl rfl (evn ?_))
  refine ls_keep [(0, dL ci64 a0), (3, nI y3), (8, dL ci64 a0), (9, nI (List.length a0 : Int)), (10, nI y4), (11, .bool (decide (y4 < (List.length a0 : Int))))] ⟨kr, kr, kr, kr, kr, kr, trivial⟩ rfl ?_
  refine ls_seq_k fun K3 hK3 => ?_
  rcases cond_some h with ⟨g4, h⟩ | ⟨g4, h⟩
  · refine ls_cT rfl g4 ?_
    refine ls_skip ?_
    refine hK3 _ (ls_keep [(0, dL ci64 a0), (3, nI y3), (8, dL ci64 a0), (9, nI (List.length a0 : Int)), (10, nI y4)] ⟨kr, kr, kr, kr, kr, trivial⟩ rfl ?_)
    refine ls_seq_k fun K5 hK5 => ?_
    refine ls_blk ?_
    refine ls_rs tbOk ?_
    refine evs (ev_mv (c := nI y4) rfl rfl rfl (?_))
    obtain ⟨e6, g7, h⟩ := ob_some h
    refine evs (ev_ia rfl rfl rfl ⟨(geti_some g7).1, (geti_some g7).2.1⟩ (evs (ev_ldE (i := y4) (n := 1) (off := 0) (v := nI e6) rfl rfl zci64 g7 rfl (nb rfl) rfl (evs (ev_as (c := nI y4) rfl rfl rfl (evs (ev_as (c := nI e6) rfl rfl rfl (evn ?_))))))))
    refine ls_keep [(0, dL ci64 a0), (3, nI y3), (4, nI y4), (5, nI e6), (8, dL ci64 a0), (9, nI (List.length a0 : Int)), (10, nI y4)] ⟨kr, kr, kr, kr, kr, kr, kr, trivial⟩ rfl ?_
    refine ls_seq_k fun K8 hK8 => ?_
    refine ls_rs tbOk ?_
    refine evs (ev_mv (c := nI e6) rfl rfl rfl (evs (ev_mv (c := dL ci64 a0) rfl rfl rfl (evs (ev_len (c1 := dL ci64 a0) rfl rfl rfl (evs (ev_bin (c1 := nI (List.length a0 : Int)) (c2 := nI 1) rfl rfl rfl (?_))))))))
    obtain ⟨v9, g10, h⟩ := ob_some h
    refine evs (ev_call (era rfl rfl (era rfl rfl (era rfl rfl eran))) (impl_within_s g10) (evs (ev_un (c1 := .bool v9) rfl trivial (evn ?_))))
    refine ls_keep [(0, dL ci64 a0), (3, nI y3), (4, nI y4), (5, nI e6), (8, dL ci64 a0), (9, nI (List.length a0 : Int)), (10, nI y4), (20, .bool (!v9))] ⟨kr, kr, kr, kr, kr, kr, kr, kr, trivial⟩ rfl ?_
    rcases cond_some h with ⟨g11, h⟩ | ⟨g11, h⟩
    · refine ls_cT rfl g11 ?_
      refine ls_rs tbOk ?_
      refine evs (ev_ac rfl nofun rfl (evn ?_))
      refine ls_keep [(2, .bool false)] ⟨kr, trivial⟩ rfl ?_
      refine ls_ret ?_
      have q0 := (Option.some.inj h).symm
      have r0 := hr1
      rw [q0] at r0
      have hr := Option.some.inj r0
      rw [← hr]
      exact ⟨.inl rfl, rfl⟩
    · refine ls_cF rfl g11 ?_
      refine ls_skip ?_
      refine hK8 _ (ls_keep [(0, dL ci64 a0), (3, nI y3), (4, nI y4), (5, nI e6), (8, dL ci64 a0), (9, nI (List.length a0 : Int)), (10, nI y4)] ⟨kr, kr, kr, kr, kr, kr, kr, trivial⟩ rfl ?_)
      refine ls_seq_k fun K12 hK12 => ?_
      refine ls_rs tbOk ?_
      refine evs (ev_mv (c := nI e6) rfl rfl rfl (evs (ev_bin (c1 := nI e6) (c2 := nI 0) rfl rfl rfl (evn ?_))))
      refine ls_keep [(0, dL ci64 a0), (3, nI y3), (4, nI y4), (8, dL ci64 a0), (9, nI (List.length a0 : Int)), (10, nI y4), (22, .bool (decide (e6 < 0)))] ⟨kr, kr, kr, kr, kr, kr, kr, trivial⟩ rfl ?_
      have kimpl_isTree_J2 : ∀ (x13 : Int), impl_isTree_J2 (loopF (impl_isTree_B1 a0) m) a0 y4 x13 = some o1 → ∀ σ' : PS, okK σ' [(0, dL ci64 a0), (3, nI x13), (4, nI y4), (8, dL ci64 a0), (9, nI (List.length a0 : Int)), (10, nI y4)] → K12 σ' := by
        intro x13 h σ' hk
        unfold impl_isTree_J2 at h
        refine hK12 _ (ls_keep [(0, dL ci64 a0), (3, nI x13), (4, nI y4), (8, dL ci64 a0), (9, nI (List.length a0 : Int)), (10, nI y4)] hk rfl ?_)
        refine ls_rs tbOk ?_
        refine evs (ev_mv (c := nI y4) rfl rfl rfl (evs (ev_as (c := nI y4) rfl rfl rfl (evn ?_))))
        refine ls_keep [(0, dL ci64 a0), (3, nI x13), (6, nI y4), (8, dL ci64 a0), (9, nI (List.length a0 : Int)), (10, nI y4)] ⟨kr, kr, kr, kr, kr, kr, trivial⟩ rfl ?_
        refine ls_seq_k fun K14 hK14 => ?_
        refine ls_rs tbOk ?_
        refine evs (ev_ac rfl nofun rfl (evn ?_))
        refine ls_keep [(0, dL ci64 a0), (3, nI x13), (6, nI y4), (7, nI 0), (8, dL ci64 a0), (9, nI (List.length a0 : Int)), (10, nI y4)] ⟨kr, kr, kr, kr, kr, kr, kr, trivial⟩ rfl ?_
        obtain ⟨o3, hl, hr3⟩ := ob_some h
        clear h
        have kXimpl_isTree_B3 : ∀ (z15 : Int), (cond (decide (0 ≤ z15)) (some (.inr false)) ((loopF (impl_isTree_B1 a0) m) (x13, (IntKind.i64.wrap (y4 + 1))))) = some o1 → ∀ σ' : PS, okK σ' [(0, dL ci64 a0), (3, nI x13), (6, nI z15), (8, dL ci64 a0), (9, nI (List.length a0 : Int)), (10, nI y4)] → K14 σ' := by
          intro z15 h σ' hk
          refine hK14 _ (ls_keep [(0, dL ci64 a0), (3, nI x13), (6, nI z15), (8, dL ci64 a0), (9, nI (List.length a0 : Int)), (10, nI y4)] hk rfl ?_)
          refine ls_rs tbOk ?_
          refine evs (ev_mv (c := nI z15) rfl rfl rfl (evs (ev_bin (c1 := nI z15) (c2 := nI 0) rfl rfl rfl (evn ?_))))
          refine ls_keep [(0, dL ci64 a0), (3, nI x13), (8, dL ci64 a0), (9, nI (List.length a0 : Int)), (10, nI y4), (47, .bool (decide (0 ≤ z15)))] ⟨kr, kr, kr, kr, kr, kr, trivial⟩ rfl ?_
          rcases cond_some h with ⟨g25, h⟩ | ⟨g25, h⟩
          · refine ls_cT rfl g25 ?_
            refine ls_rs tbOk ?_
            refine evs (ev_ac rfl nofun rfl (evn ?_))
            refine ls_keep [(2, .bool false)] ⟨kr, trivial⟩ rfl ?_
            refine ls_ret ?_
            have q0 := (Option.some.inj h).symm
            have r0 := hr1
            rw [q0] at r0
            have hr := Option.some.inj r0
            rw [← hr]
            exact ⟨.inl rfl, rfl⟩
          · refine ls_cF rfl g25 ?_
            refine ls_skip ?_
            refine hK5 _ (ls_keep [(0, dL ci64 a0), (3, nI x13), (8, dL ci64 a0), (9, nI (List.length a0 : Int)), (10, nI y4)] ⟨kr, kr, kr, kr, kr, trivial⟩ rfl ?_)
            refine ls_rgn tbOk ?_
            refine evs (ev_bin (c1 := nI y4) (c2 := nI 1) rfl rfl rfl (evs (ev_mv (c := nI (IntKind.i64.wrap (y4 + 1))) rfl rfl rfl (evn ?_))))
            exact hN _ (x13, (IntKind.i64.wrap (y4 + 1))) h ⟨kr, kr, kr, kr, kr, trivial⟩
        refine ls_rec (fun (s : Int × Int) => match s with | (y7, y8) => [(0, dL ci64 a0), (3, nI x13), (6, nI y7), (7, nI y8), (8, dL ci64 a0), (9, nI (List.length a0 : Int)), (10, nI y4)]) (impl_isTree_B3 a0) fz (y4, 0) o3 hl ⟨kr, kr, kr, kr, kr, kr, kr, trivial⟩ (fun _ => rfl) ?_
        rintro m ⟨y7, y8⟩ N h hN
        unfold impl_isTree_B3 at h
        dsimp only at h
        refine ls_seq_k fun K16 hK16 => ?_
        refine ls_rs tbOk ?_
        refine evs (ev_mv (c := nI y8) rfl rfl rfl (evs (ev_mv (c := dL ci64 a0) rfl rfl rfl (evs (ev_len (c1 := dL ci64 a0) rfl rfl rfl (evs (ev_bin (c1 := nI y8) (c2 := nI (List.length a0 : Int)) rfl rfl rfl (evs (ev_mv (c := .bool (decide (y8 ≤ (List.length a0 : Int)))) rfl rfl rfl (?_))))))))))
        rcases cond_some h with ⟨g17, h⟩ | ⟨g17, h⟩
        · refine evs (ev_gr rfl (congrArg V.bool g17) (ev_mv (c := nI y7) rfl rfl rfl (evs (ev_gr rfl (congrArg V.bool g17) (ev_bin (c1 := nI y7) (c2 := nI 0) rfl rfl rfl (evs (ev_pkT (c1 := .bool (decide (0 ≤ y7))) rfl g17 rfl rfl (evn ?_))))))))
          refine ls_keep [(0, dL ci64 a0), (3, nI x13), (6, nI y7), (7, nI y8), (8, dL ci64 a0), (9, nI (List.length a0 : Int)), (10, nI y4), (33, .bool (decide (0 ≤ y7)))] ⟨kr, kr, kr, kr, kr, kr, kr, kr, trivial⟩ rfl ?_
          rcases cond_some h with ⟨g18, h⟩ | ⟨g18, h⟩
          · refine ls_cT rfl g18 ?_
            refine ls_skip ?_
            refine hK16 _ (ls_keep [(0, dL ci64 a0), (3, nI x13), (6, nI y7), (7, nI y8), (8, dL ci64 a0), (9, nI (List.length a0 : Int)), (10, nI y4)] ⟨kr, kr, kr, kr, kr, kr, kr, trivial⟩ rfl ?_)
            refine ls_seq_k fun K19 hK19 => ?_
            refine ls_blk ?_
            refine ls_rs tbOk ?_
            refine evs (ev_mv (c := dL ci64 a0) rfl rfl rfl (evs (ev_mv (c := nI y7) rfl rfl rfl (?_))))
            obtain ⟨e20, g21, h⟩ := ob_some h
            refine evs (ev_ia rfl rfl rfl ⟨(geti_some g21).1, (geti_some g21).2.1⟩ (evs (ev_ldE (i := y7) (n := 1) (off := 0) (v := nI e20) rfl rfl zci64 g21 rfl (nb rfl) rfl (evs (ev_as (c := nI e20) rfl rfl rfl (evn ?_))))))
            refine ls_keep [(0, dL ci64 a0), (3, nI x13), (6, nI e20), (7, nI y8), (8, dL ci64 a0), (9, nI (List.length a0 : Int)), (10, nI y4)] ⟨kr, kr, kr, kr, kr, kr, kr, trivial⟩ rfl ?_
            refine ls_rs tbOk ?_
            refine evs (ev_mv (c := nI e20) rfl rfl rfl (evs (ev_mv (c := dL ci64 a0) rfl rfl rfl (evs (ev_len (c1 := dL ci64 a0) rfl rfl rfl (evs (ev_bin (c1 := nI (List.length a0 : Int)) (c2 := nI 1) rfl rfl rfl (?_))))))))
            obtain ⟨v22, g23, h⟩ := ob_some h
            refine evs (ev_call (era rfl rfl (era rfl rfl (era rfl rfl eran))) (impl_within_s g23) (evs (ev_un (c1 := .bool v22) rfl trivial (evn ?_))))
            refine ls_keep [(0, dL ci64 a0), (3, nI x13), (6, nI e20), (7, nI y8), (8, dL ci64 a0), (9, nI (List.length a0 : Int)), (10, nI y4), (45, .bool (!v22))] ⟨kr, kr, kr, kr, kr, kr, kr, kr, trivial⟩ rfl ?_
            rcases cond_some h with ⟨g24, h⟩ | ⟨g24, h⟩
            · refine ls_cT rfl g24 ?_
              refine ls_rs tbOk ?_
              refine evs (ev_ac rfl nofun rfl (evn ?_))
              refine ls_keep [(2, .bool false)] ⟨kr, trivial⟩ rfl ?_
              refine ls_ret ?_
              have q0 := (Option.some.inj h).symm
              have r0 := hr3
              rw [q0] at r0
              have q1 := (Option.some.inj r0).symm
              have r1 := hr1
              rw [q1] at r1
              have hr := Option.some.inj r1
              rw [← hr]
              exact ⟨.inl rfl, rfl⟩
            · refine ls_cF rfl g24 ?_
              refine ls_skip ?_
              refine hK19 _ (ls_keep [(0, dL ci64 a0), (3, nI x13), (6, nI e20), (7, nI y8), (8, dL ci64 a0), (9, nI (List.length a0 : Int)), (10, nI y4)] ⟨kr, kr, kr, kr, kr, kr, kr, trivial⟩ rfl ?_)
              refine ls_rgn tbOk ?_
              refine evs (ev_mv (c := nI y8) rfl rfl rfl (evs (ev_bin (c1 := nI y8) (c2 := nI 1) rfl rfl rfl (evs (ev_as (c := nI (IntKind.i64.wrap (y8 + 1))) rfl rfl rfl (evn ?_))))))
              exact hN _ (e20, (IntKind.i64.wrap (y8 + 1))) h ⟨kr, kr, kr, kr, kr, kr, kr, trivial⟩
          · refine ls_cF rfl g18 ?_
            refine ls_exit ?_
            have q0 := (Option.some.inj h).symm
            have r0 := hr3
            rw [q0] at r0
            exact kXimpl_isTree_B3 y7 r0 _ ⟨kr, kr, kr, kr, kr, kr, trivial⟩
        · refine evs (ev_gs rfl rfl (isb_F g17) (evs (ev_gs rfl rfl (isb_F g17) (evs (ev_pkF (c1 := .bool false) rfl g17 rfl rfl (evn ?_))))))
          refine ls_keep [(0, dL ci64 a0), (3, nI x13), (6, nI y7), (7, nI y8), (8, dL ci64 a0), (9, nI (List.length a0 : Int)), (10, nI y4), (33, .bool false)] ⟨kr, kr, kr, kr, kr, kr, kr, kr, trivial⟩ rfl ?_
          refine ls_cF rfl rfl ?_
          refine ls_exit ?_
          have q0 := (Option.some.inj h).symm
          have r0 := hr3
          rw [q0] at r0
          exact kXimpl_isTree_B3 y7 r0 _ ⟨kr, kr, kr, kr, kr, kr, trivial⟩
      rcases cond_some h with ⟨g26, h⟩ | ⟨g26, h⟩
      · refine ls_cT rfl g26 ?_
        refine ls_rgn tbOk ?_
        refine evs (ev_mv (c := nI y3) rfl rfl rfl (evs (ev_bin (c1 := nI y3) (c2 := nI 1) rfl rfl rfl (evs (ev_as (c := nI (IntKind.i64.wrap (y3 + 1))) rfl rfl rfl (evn ?_))))))
        exact kimpl_isTree_J2 (IntKind.i64.wrap (y3 + 1)) h _ ⟨kr, kr, kr, kr, kr, kr, trivial⟩
      · refine ls_cF rfl g26 ?_
        refine ls_skip ?_
        exact kimpl_isTree_J2 y3 h _ ⟨kr, kr, kr, kr, kr, kr, trivial⟩
  · refine ls_cF rfl g4 ?_
    refine ls_exit ?_
    have q0 := (Option.some.inj h).symm
    have r0 := hr1
    rw [q0] at r0
    exact kXimpl_isTree_B1 y3 r0 _ ⟨kr, trivial⟩
def impl_topsOf_J3 (rec : (Int × Int) → Option (Int)) (y2 : Int) (x10 : Int) : Option (Int) := rec (x10, (IntKind.i64.wrap (y2 + 1)))
def impl_topsOf_J2 (rec : (Int × Int) → Option (Int)) (y1 : Int) (y2 : Int) (x9 : Bool) : Option (Int) := cond x9 (impl_topsOf_J3 rec y2 (IntKind.i64.wrap (y1 + 1))) (impl_topsOf_J3 rec y2 y1)
def impl_topsOf_B1 (a0 : List (List Int)) (a1 : List Int) (a2 : Int) (rec : (Int × Int) → Option (Int)) (s : Int × Int) : Option (Int) := match s with
  | (y1, y2) => cond (decide (y2 < (List.length a0 : Int))) (obind (geti a0 y2) fun e6 => obind (impl_hasInt e6 a2) fun v12 => cond v12 (obind (geti a1 y2) fun e15 => cond (decide (e15 < 0)) (impl_topsOf_J2 rec y1 y2 true) (obind (geti a1 y2) fun e18 => obind (geti a0 e18) fun e20 => obind (impl_hasInt e20 a2) fun v22 => impl_topsOf_J2 rec y1 y2 (!v22))) (impl_topsOf_J2 rec y1 y2 false)) (some y1)
def impl_topsOf (a0 : List (List Int)) (a1 : List Int) (a2 : Int) : Option (Int) := obind (loopF (impl_topsOf_B1 a0 a1 a2) fz (0, 0)) fun z2 => some z2
theorem impl_topsOf_s {a0 : List (List Int)} {a1 : List Int} {a2 : Int} {r : Int} (h : impl_topsOf a0 a1 a2 = some r) : SoundAt Try.prog 211 [dL c25_d a0, dL ci64 a1, nI a2] (nI r) := by
  unfold impl_topsOf at h
  refine sound_lit tbOk lit211 (nb rfl) rfl ?_
  unfold c211
  refine ls_keep [(0, dL c25_d a0), (1, dL ci64 a1), (2, nI a2)] ⟨kr, kr, kr, trivial⟩ rfl ?_
  refine ls_rs tbOk ?_
  refine evs (ev_ac rfl nofun rfl (evn ?_))
  refine ls_keep [(0, dL c25_d a0), (1, dL ci64 a1), (2, nI a2)] ⟨kr, kr, kr, trivial⟩ rfl ?_
  refine ls_rs tbOk ?_
  refine evs (ev_ac rfl nofun rfl (evn ?_))
  refine ls_keep [(0, dL c25_d a0), (1, dL ci64 a1), (2, nI a2), (7, nI 0)] ⟨kr, kr, kr, kr, trivial⟩ rfl ?_
  refine ls_seq_k fun K1 hK1 => ?_
  refine ls_rs tbOk ?_
  refine evs (ev_mv (c := dL c25_d a0) rfl rfl rfl (evs (ev_len (c1 := dL c25_d a0) rfl rfl rfl (evs (ev_mc rfl rfl (evn ?_))))))
  refine ls_keep [(0, dL c25_d a0), (1, dL ci64 a1), (2, nI a2), (7, nI 0), (10, dL c25_d a0), (11, nI (List.length a0 : Int)), (12, nI 0)] ⟨kr, kr, kr, kr, kr, kr, kr, trivial⟩ rfl ?_
  obtain ⟨o1, hl, hr1⟩ := ob_some h
  clear h
  have kXimpl_topsOf_B1 : ∀ (z2 : Int), (some z2) = some r → ∀ σ' : PS, okK σ' [(7, nI z2)] → K1 σ' := by
    intro z2 h σ' hk
    refine hK1 _ (ls_keep [(7, nI z2)] hk rfl ?_)
    refine ls_rs tbOk ?_
    refine evs (ev_mv (c := nI z2) rfl rfl rfl (evs (ev_as (c := nI z2) rfl rfl rfl (evn ?_))))
    refine ls_keep [(6, nI z2)] ⟨kr, trivial⟩ rfl ?_
    refine ls_ret ?_
    have hr := Option.some.inj h
    rw [← hr]
    exact ⟨.inl rfl, rfl⟩
  refine ls_rec (fun (s : Int × Int) => match s with | (y1, y2) => [(0, dL c25_d a0), (1, dL ci64 a1), (2, nI a2), (7, nI y1), (10, dL c25_d a0), (11, nI (List.length a0 : Int)), (12, nI y2)]) (impl_topsOf_B1 a0 a1 a2) fz (0, 0) o1 hl ⟨kr, kr, kr, kr, kr, kr, kr, trivial⟩ (fun _ => rfl) ?_
  rintro m ⟨y1, y2⟩ N h hN
  unfold impl_topsOf_B1 at h
  dsimp only at h
  refine ls_rs tbOk ?_
  refine evs (ev_bin (c1 := nI y2) (c2 := nI (List.length a0 : Int)) rfl rfl rfl (evn ?_))
  refine ls_keep [(0, dL c25_d a0), (1, dL ci64 a1), (2, nI a2), (7, nI y1), (10, dL c25_d a0), (11, nI (List.length a0 : Int)), (12, nI y2), (13, .bool (decide (y2 < (List.length a0 : Int))))] ⟨kr, kr, kr, kr, kr, kr, kr, kr, trivial⟩ rfl ?_
  refine ls_seq_k fun K3 hK3 => ?_
  rcases cond_some h with ⟨g4, h⟩ | ⟨g4, h⟩
  · refine ls_cT rfl g4 ?_
    refine ls_skip ?_
    refine hK3 _ (ls_keep [(0, dL c25_d a0), (1, dL ci64 a1), (2, nI a2), (7, nI y1), (10, dL c25_d a0), (11, nI (List.length a0 : Int)), (12, nI y2)] ⟨kr, kr, kr, kr, kr, kr, kr, trivial⟩ rfl ?_)
    refine ls_seq_k fun K5 hK5 => ?_
    refine ls_blk ?_
    refine ls_rs tbOk ?_
    refine evs (ev_mv (c := nI y2) rfl rfl rfl (?_))
    obtain ⟨e6, g7, h⟩ := ob_some h
    refine evs (ev_ia rfl rfl rfl ⟨(geti_some g7).1, (geti_some g7).2.1⟩ (evs (ev_ldEt (i := y2) (n := 1) (off := 0) (v := dL ci64 e6) rfl rfl zc25_d g7 rfl (nb rfl) rfl (evs (ev_as (c := nI y2) rfl rfl rfl (evs (ev_as (c := dL ci64 e6) rfl rfl rfl (evn ?_))))))))
    refine ls_keep [(0, dL c25_d a0), (1, dL ci64 a1), (2, nI a2), (7, nI y1), (8, nI y2), (9, dL ci64 e6), (10, dL c25_d a0), (11, nI (List.length a0 : Int)), (12, nI y2)] ⟨kr, kr, kr, kr, kr, kr, kr, kr, kr, trivial⟩ rfl ?_
    refine ls_rs_k tbOk fun K8 hK8 => ?_
    have kimpl_topsOf_J2 : ∀ (x9 : Bool), impl_topsOf_J2 (loopF (impl_topsOf_B1 a0 a1 a2) m) y1 y2 x9 = some o1 → ∀ σ' : PS, okK σ' [(0, dL c25_d a0), (1, dL ci64 a1), (2, nI a2), (7, nI y1), (10, dL c25_d a0), (11, nI (List.length a0 : Int)), (12, nI y2), (38, .bool x9)] → K8 σ' := by
      intro x9 h σ' hk
      unfold impl_topsOf_J2 at h
      refine hK8 _ (ls_keep [(0, dL c25_d a0), (1, dL ci64 a1), (2, nI a2), (7, nI y1), (10, dL c25_d a0), (11, nI (List.length a0 : Int)), (12, nI y2), (38, .bool x9)] hk rfl ?_)
      have kimpl_topsOf_J3 : ∀ (x10 : Int), impl_topsOf_J3 (loopF (impl_topsOf_B1 a0 a1 a2) m) y2 x10 = some o1 → ∀ σ' : PS, okK σ' [(0, dL c25_d a0), (1, dL ci64 a1), (2, nI a2), (7, nI x10), (10, dL c25_d a0), (11, nI (List.length a0 : Int)), (12, nI y2)] → K5 σ' := by
        intro x10 h σ' hk
        unfold impl_topsOf_J3 at h
        refine hK5 _ (ls_keep [(0, dL c25_d a0), (1, dL ci64 a1), (2, nI a2), (7, nI x10), (10, dL c25_d a0), (11, nI (List.length a0 : Int)), (12, nI y2)] hk rfl ?_)
        refine ls_rgn tbOk ?_
        refine evs (ev_bin (c1 := nI y2) (c2 := nI 1) rfl rfl rfl (evs (ev_mv (c := nI (IntKind.i64.wrap (y2 + 1))) rfl rfl rfl (evn ?_))))
        exact hN _ (x10, (IntKind.i64.wrap (y2 + 1))) h ⟨kr, kr, kr, kr, kr, kr, kr, trivial⟩
      rcases cond_some h with ⟨g11, h⟩ | ⟨g11, h⟩
      · refine ls_cT rfl g11 ?_
        refine ls_rgn tbOk ?_
        refine evs (ev_mv (c := nI y1) rfl rfl rfl (evs (ev_bin (c1 := nI y1) (c2 := nI 1) rfl rfl rfl (evs (ev_as (c := nI (IntKind.i64.wrap (y1 + 1))) rfl rfl rfl (evn ?_))))))
        exact kimpl_topsOf_J3 (IntKind.i64.wrap (y1 + 1)) h _ ⟨kr, kr, kr, kr, kr, kr, kr, trivial⟩
      · refine ls_cF rfl g11 ?_
        refine ls_skip ?_
        exact kimpl_topsOf_J3 y1 h _ ⟨kr, kr, kr, kr, kr, kr, kr, trivial⟩
    refine evs (ev_mv (c := dL ci64 e6) rfl rfl rfl (evs (ev_mv (c := nI a2) rfl rfl rfl (?_))))
    obtain ⟨v12, g13, h⟩ := ob_some h
    refine evs (ev_call (era rfl (erD eci64 _) (era rfl rfl eran)) (impl_hasInt_s g13) (evs (ev_mv (c := .bool v12) rfl rfl rfl (?_))))
    rcases cond_some h with ⟨g14, h⟩ | ⟨g14, h⟩
    · refine evs (ev_gr rfl (congrArg V.bool g14) (ev_mv (c := dL ci64 a1) rfl rfl rfl (evs (ev_gr rfl (congrArg V.bool g14) (ev_mv (c := nI y2) rfl rfl rfl (?_))))))
      obtain ⟨e15, g16, h⟩ := ob_some h
      refine evs (ev_gr rfl (congrArg V.bool g14) (ev_ia rfl rfl rfl ⟨(geti_some g16).1, (geti_some g16).2.1⟩ (evs (ev_gr rfl (congrArg V.bool g14) (ev_ldE (i := y2) (n := 1) (off := 0) (v := nI e15) rfl rfl zci64 g16 rfl (nb rfl) rfl (evs (ev_gr rfl (congrArg V.bool g14) (ev_bin (c1 := nI e15) (c2 := nI 0) rfl rfl rfl (evs (ev_gr rfl (congrArg V.bool g14) (ev_mv (c := .bool (decide (e15 < 0))) rfl rfl rfl (?_))))))))))))
      rcases cond_some h with ⟨g17, h⟩ | ⟨g17, h⟩
      · refine evs (ev_gs rfl rfl (isb_T g17) (evs (ev_gs rfl rfl (isb_T g17) (evs (ev_gs rfl rfl (isb_T g17) (evs (ev_gs rfl rfl (isb_T g17) (evs (ev_gs rfl rfl (isb_T g17) (evs (ev_gs rfl rfl (isb_T g17) (evs (ev_gs rfl rfl (isb_T g17) (evs (ev_gs rfl rfl (isb_T g17) (evs (ev_gs rfl rfl (isb_T g17) (evs (ev_gs rfl rfl (isb_T g17) (evs (ev_gr rfl (congrArg V.bool g14) (ev_pkT (c1 := .bool true) rfl g17 rfl rfl (evs (ev_pkT (c1 := .bool true) rfl g14 rfl rfl (evn ?_)))))))))))))))))))))))))
        exact kimpl_topsOf_J2 true h _ ⟨kr, kr, kr, kr, kr, kr, kr, kr, trivial⟩
      · refine evs (ev_gr rfl (congrArg V.bool g17) (ev_mv (c := dL c25_d a0) rfl rfl rfl (evs (ev_gr rfl (congrArg V.bool g17) (ev_mv (c := dL ci64 a1) rfl rfl rfl (evs (ev_gr rfl (congrArg V.bool g17) (ev_mv (c := nI y2) rfl rfl rfl (?_)))))))))
        obtain ⟨e18, g19, h⟩ := ob_some h
        refine evs (ev_gr rfl (congrArg V.bool g17) (ev_ia rfl rfl rfl ⟨(geti_some g19).1, (geti_some g19).2.1⟩ (evs (ev_gr rfl (congrArg V.bool g17) (ev_ldE (i := y2) (n := 1) (off := 0) (v := nI e18) rfl rfl zci64 g19 rfl (nb rfl) rfl (?_))))))
        obtain ⟨e20, g21, h⟩ := ob_some h
        refine evs (ev_gr rfl (congrArg V.bool g17) (ev_ia rfl rfl rfl ⟨(geti_some g21).1, (geti_some g21).2.1⟩ (evs (ev_gr rfl (congrArg V.bool g17) (ev_ldE (i := e18) (n := 1) (off := 0) (v := dL ci64 e20) rfl rfl zc25_d g21 rfl (nb rfl) rfl (evs (ev_gr rfl (congrArg V.bool g17) (ev_mv (c := nI a2) rfl rfl rfl (?_)))))))))
        obtain ⟨v22, g23, h⟩ := ob_some h
        refine evs (ev_gr rfl (congrArg V.bool g17) (ev_call (era rfl (erD eci64 _) (era rfl rfl eran)) (impl_hasInt_s g23) (evs (ev_gr rfl (congrArg V.bool g17) (ev_un (c1 := .bool v22) rfl trivial (evs (ev_gr rfl (congrArg V.bool g14) (ev_pkF (c1 := .bool (!v22)) rfl g17 rfl rfl (evs (ev_pkT (c1 := .bool (!v22)) rfl g14 rfl rfl (evn ?_)))))))))))
        exact kimpl_topsOf_J2 (!v22) h _ ⟨kr, kr, kr, kr, kr, kr, kr, kr, trivial⟩
    · refine evs (ev_gs rfl rfl (isb_F g14) (evs (ev_gs rfl rfl (isb_F g14) (evs (ev_gs rfl rfl (isb_F g14) (evs (ev_gs rfl rfl (isb_F g14) (evs (ev_gs rfl rfl (isb_F g14) (evs (ev_gs rfl rfl (isb_F g14) (evs (ev_gs rfl rfl rfl (evs (ev_gs rfl rfl rfl (evs (ev_gs rfl rfl rfl (evs (ev_gs rfl rfl rfl (evs (ev_gs rfl rfl rfl (evs (ev_gs rfl rfl rfl (evs (ev_gs rfl rfl rfl (evs (ev_gs rfl rfl rfl (evs (ev_gs rfl rfl rfl (evs (ev_gs rfl rfl rfl (evs (ev_gs rfl rfl (isb_F g14) (evs (ev_pkF (c1 := .bool false) rfl g14 rfl rfl (evn ?_))))))))))))))))))))))))))))))))))))
      exact kimpl_topsOf_J2 false h _ ⟨kr, kr, kr, kr, kr, kr, kr, kr, trivial⟩
  · refine ls_cF rfl g4 ?_
    refine ls_exit ?_
    have q0 := (Option.some.inj h).symm
    have r0 := hr1
    rw [q0] at r0
    exact kXimpl_topsOf_B1 y1 r0 _ ⟨kr, trivial⟩
def impl_IsValidJoinTree_B1 (a0 : Y91) (rec : ((List (List Int)) × Int) → Option ((List (List Int)))) (s : (List (List Int)) × Int) : Option ((List (List Int))) := match s with
  | (y1, y2) => cond (decide (y2 < (List.length a0.2.1 : Int))) (obind (geti a0.2.1 y2) fun e14 => chk (List.length y1 + List.length [e14.2] ≤ lim) (rec ((y1 ++ [e14.2]), (IntKind.i64.wrap (y2 + 1))))) (some y1)
def impl_IsValidJoinTree_B2 (a0 : Y91) (a1 : List Int) (z10 : List (List Int)) (rec : Int → Option (Sum (Unit) (Bool))) (y3 : Int) : Option (Sum (Unit) (Bool)) := cond (decide (y3 < a0.1)) (obind (impl_topsOf z10 a1 y3) fun v21 => cond (v21 != 1) (some (.inr false)) (rec (IntKind.i64.wrap (y3 + 1)))) (some (.inl ()))
def impl_IsValidJoinTree (a0 : Y91) (a1 : List Int) : Option (Bool) := obind (impl_IsValidQuery a0) fun v2 => cond (!v2) (some false) (cond ((List.length a1 : Int) != (List.length a0.2.1 : Int)) (some false) (obind (impl_isTree a1) fun v6 => cond (!v6) (some false) (obind (loopF (impl_IsValidJoinTree_B1 a0) fz (([] : List (List Int)), 0)) fun z10 => obind (loopF (impl_IsValidJoinTree_B2 a0 a1 z10) fz 0) fun o2 => (match o2 with
  | .inl _ => (some true)
  | .inr r => some r))))
theorem impl_IsValidJoinTree_s {a0 : Y91} {a1 : List Int} {r : Bool} (h : impl_IsValidJoinTree a0 a1 = some r) : SoundAt Try.prog 129 [.agg (c92_ddd a0), .agg [dL ci64 a1]] (.bool r) := by
  unfold impl_IsValidJoinTree at h
  refine sound_lit tbOk lit129 (nb rfl) rfl ?_
  unfold c129
  refine ls_keep [(0, .agg (c92_ddd a0)), (1, .agg [dL ci64 a1])] ⟨kr, kr, trivial⟩ rfl ?_
  refine ls_rs tbOk ?_
  refine evs (ev_bx (c1 := .agg (c92_ddd a0)) rfl rfl rfl (evs (ev_bx (c1 := .agg [dL ci64 a1]) rfl rfl rfl (evs (ev_ac rfl nofun rfl (evn ?_))))))
  refine ls_keep [(2, .box [nI a0.1, dL c195_d a0.2.1, dL ci64 a0.2.2]), (3, .box [dL ci64 a1])] ⟨kr, kr, trivial⟩ rfl ?_
  refine ls_seq_k fun K1 hK1 => ?_
  refine ls_rs tbOk ?_
  refine evs (ev_ldB (off := 0) (v := .agg (c92_ddd a0)) rfl rfl rfl rfl (nb rfl) rfl (?_))
  obtain ⟨v2, g3, h⟩ := ob_some h
  refine evs (ev_call (era rfl (erg (erc rfl (erc (erD ec195_d _) (erc (erD eci64 _) rfl)))) eran) (impl_IsValidQuery_s g3) (evs (ev_un (c1 := .bool v2) rfl trivial (evs (ev_mv (c := .bool (!v2)) rfl rfl rfl (?_))))))
  rcases cond_some h with ⟨g4, h⟩ | ⟨g4, h⟩
  · refine evs (ev_gs rfl rfl (isb_T g4) (evs (ev_gs rfl rfl (isb_T g4) (evs (ev_gs rfl rfl (isb_T g4) (evs (ev_gs rfl rfl (isb_T g4) (evs (ev_gs rfl rfl (isb_T g4) (evs (ev_gs rfl rfl (isb_T g4) (evs (ev_gs rfl rfl (isb_T g4) (evs (ev_pkT (c1 := .bool true) rfl g4 rfl rfl (evs (ev_mv (c := .bool true) rfl rfl rfl (evs (ev_gs rfl rfl rfl (evs (ev_gs rfl rfl rfl (evs (ev_gs rfl rfl rfl (evs (ev_gs rfl rfl rfl (evs (ev_pkT (c1 := .bool true) rfl rfl rfl rfl (evn ?_))))))))))))))))))))))))))))
    refine ls_keep [(2, .box [nI a0.1, dL c195_d a0.2.1, dL ci64 a0.2.2]), (3, .box [dL ci64 a1]), (26, .bool true)] ⟨kr, kr, kr, trivial⟩ rfl ?_
    refine ls_cT rfl rfl ?_
    refine ls_rs tbOk ?_
    refine evs (ev_ac rfl nofun rfl (evn ?_))
    refine ls_keep [(4, .bool false)] ⟨kr, trivial⟩ rfl ?_
    refine ls_ret ?_
    have hr := Option.some.inj h
    rw [← hr]
    exact ⟨.inl rfl, rfl⟩
  · refine evs (ev_gr rfl (congrArg V.bool g4) (ev_fa (c1 := .cref 3 0) (v := .cref 3 0) rfl rfl rfl ⟨_, rfl⟩ rfl (evs (ev_gr rfl (congrArg V.bool g4) (ev_ldB (off := 0) (v := dL ci64 a1) rfl rfl rfl rfl (nb rfl) rfl (evs (ev_gr rfl (congrArg V.bool g4) (ev_len (c1 := dL ci64 a1) rfl rfl rfl (evs (ev_gr rfl (congrArg V.bool g4) (ev_fa (c1 := .cref 2 0) (v := .cref 2 1) rfl rfl rfl ⟨_, rfl⟩ rfl (evs (ev_gr rfl (congrArg V.bool g4) (ev_ldB (off := 1) (v := dL c195_d a0.2.1) rfl rfl rfl rfl (nb rfl) rfl (evs (ev_gr rfl (congrArg V.bool g4) (ev_len (c1 := dL c195_d a0.2.1) rfl rfl rfl (evs (ev_gr rfl (congrArg V.bool g4) (ev_bin (c1 := nI (List.length a1 : Int)) (c2 := nI (List.length a0.2.1 : Int)) rfl rfl rfl (evs (ev_pkF (c1 := .bool ((List.length a1 : Int) != (List.length a0.2.1 : Int))) rfl g4 rfl rfl (evs (ev_mv (c := .bool ((List.length a1 : Int) != (List.length a0.2.1 : Int))) rfl rfl rfl (?_)))))))))))))))))))))))))
    rcases cond_some h with ⟨g5, h⟩ | ⟨g5, h⟩
    · refine evs (ev_gs rfl rfl (isb_T g5) (evs (ev_gs rfl rfl (isb_T g5) (evs (ev_gs rfl rfl (isb_T g5) (evs (ev_gs rfl rfl (isb_T g5) (evs (ev_pkT (c1 := .bool true) rfl g5 rfl rfl (evn ?_))))))))))
      refine ls_keep [(2, .box [nI a0.1, dL c195_d a0.2.1, dL ci64 a0.2.2]), (3, .box [dL ci64 a1]), (26, .bool true)] ⟨kr, kr, kr, trivial⟩ rfl ?_
      refine ls_cT rfl rfl ?_
      refine ls_rs tbOk ?_
      refine evs (ev_ac rfl nofun rfl (evn ?_))
      refine ls_keep [(4, .bool false)] ⟨kr, trivial⟩ rfl ?_
      refine ls_ret ?_
      have hr := Option.some.inj h
      rw [← hr]
      exact ⟨.inl rfl, rfl⟩
    · refine evs (ev_gr rfl (congrArg V.bool g5) (ev_fa (c1 := .cref 3 0) (v := .cref 3 0) rfl rfl rfl ⟨_, rfl⟩ rfl (evs (ev_gr rfl (congrArg V.bool g5) (ev_ldB (off := 0) (v := dL ci64 a1) rfl rfl rfl rfl (nb rfl) rfl (?_))))))
      obtain ⟨v6, g7, h⟩ := ob_some h
      refine evs (ev_gr rfl (congrArg V.bool g5) (ev_call (era rfl (erD eci64 _) eran) (impl_isTree_s g7) (evs (ev_gr rfl (congrArg V.bool g5) (ev_un (c1 := .bool v6) rfl trivial (evs (ev_pkF (c1 := .bool (!v6)) rfl g5 rfl rfl (evn ?_))))))))
      refine ls_keep [(2, .box [nI a0.1, dL c195_d a0.2.1, dL ci64 a0.2.2]), (3, .box [dL ci64 a1]), (26, .bool (!v6))] ⟨kr, kr, kr, trivial⟩ rfl ?_
      rcases cond_some h with ⟨g8, h⟩ | ⟨g8, h⟩
      · refine ls_cT rfl g8 ?_
        refine ls_rs tbOk ?_
        refine evs (ev_ac rfl nofun rfl (evn ?_))
        refine ls_keep [(4, .bool false)] ⟨kr, trivial⟩ rfl ?_
        refine ls_ret ?_
        have hr := Option.some.inj h
        rw [← hr]
        exact ⟨.inl rfl, rfl⟩
      · refine ls_cF rfl g8 ?_
        refine ls_skip ?_
        refine hK1 _ (ls_keep [(2, .box [nI a0.1, dL c195_d a0.2.1, dL ci64 a0.2.2]), (3, .box [dL ci64 a1])] ⟨kr, kr, trivial⟩ rfl ?_)
        refine ls_rs tbOk ?_
        refine evs (ev_an rfl rfl (evn ?_))
        refine ls_keep [(2, .box [nI a0.1, dL c195_d a0.2.1, dL ci64 a0.2.2]), (3, .box [dL ci64 a1]), (5, oL 25 c25_o [])] ⟨kr, kr, kr, trivial⟩ rfl ?_
        refine ls_seq_k fun K9 hK9 => ?_
        refine ls_rs tbOk ?_
        refine evs (ev_fa (c1 := .cref 2 0) (v := .cref 2 1) rfl rfl rfl ⟨_, rfl⟩ rfl (evs (ev_ldB (off := 1) (v := dL c195_d a0.2.1) rfl rfl rfl rfl (nb rfl) rfl (evs (ev_len (c1 := dL c195_d a0.2.1) rfl rfl rfl (evs (ev_mc rfl rfl (evn ?_))))))))
        refine ls_keep [(2, .box [nI a0.1, dL c195_d a0.2.1, dL ci64 a0.2.2]), (3, .box [dL ci64 a1]), (5, oL 25 c25_o []), (28, dL c195_d a0.2.1), (29, nI (List.length a0.2.1 : Int)), (30, nI 0)] ⟨kr, kr, kr, kr, kr, kr, trivial⟩ rfl ?_
        obtain ⟨o1, hl, hr1⟩ := ob_some h
        clear h
        have kXimpl_IsValidJoinTree_B1 : ∀ (z10 : List (List Int)), (obind (loopF (impl_IsValidJoinTree_B2 a0 a1 z10) fz 0) fun o2 => (match o2 with
  | .inl _ => (some true)
  | .inr r => some r)) = some r → ∀ σ' : PS, okK σ' [(2, .box [nI a0.1, dL c195_d a0.2.1, dL ci64 a0.2.2]), (3, .box [dL ci64 a1]), (5, oL 25 c25_d z10)] → K9 σ' := by
          intro z10 h σ' hk
          refine hK9 _ (ls_keep [(2, .box [nI a0.1, dL c195_d a0.2.1, dL ci64 a0.2.2]), (3, .box [dL ci64 a1]), (5, oL 25 c25_d z10)] hk rfl ?_)
          refine ls_seq_k fun K17 hK17 => ?_
          refine ls_rs tbOk ?_
          refine evs (ev_ac rfl nofun rfl (evn ?_))
          refine ls_keep [(2, .box [nI a0.1, dL c195_d a0.2.1, dL ci64 a0.2.2]), (3, .box [dL ci64 a1]), (5, oL 25 c25_d z10), (8, nI 0)] ⟨kr, kr, kr, kr, trivial⟩ rfl ?_
          obtain ⟨o2, hl, hr2⟩ := ob_some h
          clear h
          have kXimpl_IsValidJoinTree_B2 : ∀ (_ : Unit), (some true) = some r → ∀ σ' : PS, okK σ' [] → K17 σ' := by
            intro _ h σ' hk
            refine hK17 _ (ls_keep [] hk rfl ?_)
            refine ls_rs tbOk ?_
            refine evs (ev_ac rfl nofun rfl (evn ?_))
            refine ls_keep [(4, .bool true)] ⟨kr, trivial⟩ rfl ?_
            refine ls_ret ?_
            have hr := Option.some.inj h
            rw [← hr]
            exact ⟨.inl rfl, rfl⟩
          refine ls_rec (fun (y3 : Int) => [(2, .box [nI a0.1, dL c195_d a0.2.1, dL ci64 a0.2.2]), (3, .box [dL ci64 a1]), (5, oL 25 c25_d z10), (8, nI y3)]) (impl_IsValidJoinTree_B2 a0 a1 z10) fz 0 o2 hl ⟨kr, kr, kr, kr, trivial⟩ (fun _ => rfl) ?_
          rintro m y3 N h hN
          unfold impl_IsValidJoinTree_B2 at h
          refine ls_seq_k fun K18 hK18 => ?_
          refine ls_rs tbOk ?_
          refine evs (ev_mv (c := nI y3) rfl rfl rfl (evs (ev_fa (c1 := .cref 2 0) (v := .cref 2 0) rfl rfl rfl ⟨_, rfl⟩ rfl (evs (ev_ldB (off := 0) (v := nI a0.1) rfl rfl rfl rfl (nb rfl) rfl (evs (ev_bin (c1 := nI y3) (c2 := nI a0.1) rfl rfl rfl (evn ?_))))))))
          refine ls_keep [(2, .box [nI a0.1, dL c195_d a0.2.1, dL ci64 a0.2.2]), (3, .box [dL ci64 a1]), (5, oL 25 c25_d z10), (8, nI y3), (43, .bool (decide (y3 < a0.1)))] ⟨kr, kr, kr, kr, kr, trivial⟩ rfl ?_
          rcases cond_some h with ⟨g19, h⟩ | ⟨g19, h⟩
          · refine ls_cT rfl g19 ?_
            refine ls_skip ?_
            refine hK18 _ (ls_keep [(2, .box [nI a0.1, dL c195_d a0.2.1, dL ci64 a0.2.2]), (3, .box [dL ci64 a1]), (5, oL 25 c25_d z10), (8, nI y3)] ⟨kr, kr, kr, kr, trivial⟩ rfl ?_)
            refine ls_seq_k fun K20 hK20 => ?_
            refine ls_blk ?_
            refine ls_rs tbOk ?_
            refine evs (ev_mv (c := oL 25 c25_d z10) rfl rfl rfl (evs (ev_fa (c1 := .cref 3 0) (v := .cref 3 0) rfl rfl rfl ⟨_, rfl⟩ rfl (evs (ev_ldB (off := 0) (v := dL ci64 a1) rfl rfl rfl rfl (nb rfl) rfl (evs (ev_mv (c := nI y3) rfl rfl rfl (?_))))))))
            obtain ⟨v21, g22, h⟩ := ob_some h
            refine evs (ev_call (era rfl (erD ec25_d _) (era rfl (erD eci64 _) (era rfl rfl eran))) (impl_topsOf_s g22) (evs (ev_bin (c1 := nI v21) (c2 := nI 1) rfl rfl rfl (evn ?_))))
            refine ls_keep [(2, .box [nI a0.1, dL c195_d a0.2.1, dL ci64 a0.2.2]), (3, .box [dL ci64 a1]), (5, oL 25 c25_d z10), (8, nI y3), (51, .bool (v21 != 1))] ⟨kr, kr, kr, kr, kr, trivial⟩ rfl ?_
            rcases cond_some h with ⟨g23, h⟩ | ⟨g23, h⟩
            · refine ls_cT rfl g23 ?_
              refine ls_rs tbOk ?_
              refine evs (ev_ac rfl nofun rfl (evn ?_))
              refine ls_keep [(4, .bool false)] ⟨kr, trivial⟩ rfl ?_
              refine ls_ret ?_
              have q0 := (Option.some.inj h).symm
              have r0 := hr2
              rw [q0] at r0
              have hr := Option.some.inj r0
              rw [← hr]
              exact ⟨.inl rfl, rfl⟩
            · refine ls_cF rfl g23 ?_
              refine ls_skip ?_
              refine hK20 _ (ls_keep [(2, .box [nI a0.1, dL c195_d a0.2.1, dL ci64 a0.2.2]), (3, .box [dL ci64 a1]), (5, oL 25 c25_d z10), (8, nI y3)] ⟨kr, kr, kr, kr, trivial⟩ rfl ?_)
              refine ls_rgn tbOk ?_
              refine evs (ev_mv (c := nI y3) rfl rfl rfl (evs (ev_bin (c1 := nI y3) (c2 := nI 1) rfl rfl rfl (evs (ev_as (c := nI (IntKind.i64.wrap (y3 + 1))) rfl rfl rfl (evn ?_))))))
              exact hN _ (IntKind.i64.wrap (y3 + 1)) h ⟨kr, kr, kr, kr, trivial⟩
          · refine ls_cF rfl g19 ?_
            refine ls_exit ?_
            have q0 := (Option.some.inj h).symm
            have r0 := hr2
            rw [q0] at r0
            exact kXimpl_IsValidJoinTree_B2 () r0 _ trivial
        refine ls_rec (fun (s : (List (List Int)) × Int) => match s with | (y1, y2) => [(2, .box [nI a0.1, dL c195_d a0.2.1, dL ci64 a0.2.2]), (3, .box [dL ci64 a1]), (5, oL 25 c25_d y1), (28, dL c195_d a0.2.1), (29, nI (List.length a0.2.1 : Int)), (30, nI y2)]) (impl_IsValidJoinTree_B1 a0) fz (([] : List (List Int)), 0) o1 hl ⟨kr, kr, kr, kr, kr, kr, trivial⟩ (fun _ => rfl) ?_
        rintro m ⟨y1, y2⟩ N h hN
        unfold impl_IsValidJoinTree_B1 at h
        dsimp only at h
        refine ls_rs tbOk ?_
        refine evs (ev_bin (c1 := nI y2) (c2 := nI (List.length a0.2.1 : Int)) rfl rfl rfl (evn ?_))
        refine ls_keep [(2, .box [nI a0.1, dL c195_d a0.2.1, dL ci64 a0.2.2]), (3, .box [dL ci64 a1]), (5, oL 25 c25_d y1), (28, dL c195_d a0.2.1), (29, nI (List.length a0.2.1 : Int)), (30, nI y2), (31, .bool (decide (y2 < (List.length a0.2.1 : Int))))] ⟨kr, kr, kr, kr, kr, kr, kr, trivial⟩ rfl ?_
        refine ls_seq_k fun K11 hK11 => ?_
        rcases cond_some h with ⟨g12, h⟩ | ⟨g12, h⟩
        · refine ls_cT rfl g12 ?_
          refine ls_skip ?_
          refine hK11 _ (ls_keep [(2, .box [nI a0.1, dL c195_d a0.2.1, dL ci64 a0.2.2]), (3, .box [dL ci64 a1]), (5, oL 25 c25_d y1), (28, dL c195_d a0.2.1), (29, nI (List.length a0.2.1 : Int)), (30, nI y2)] ⟨kr, kr, kr, kr, kr, kr, trivial⟩ rfl ?_)
          refine ls_seq_k fun K13 hK13 => ?_
          refine ls_blk ?_
          refine ls_rs tbOk ?_
          obtain ⟨e14, g15, h⟩ := ob_some h
          refine evs (ev_ia rfl rfl rfl ⟨(geti_some g15).1, (geti_some g15).2.1⟩ (evs (ev_ldEt (i := y2) (n := 2) (off := 0) (v := .agg (c195_d e14)) rfl rfl zc195_d g15 rfl (nb rfl) rfl (evs (ev_al rfl rfl (evs (ev_st (off := 0) (c1 := .agg (c195_d e14)) (cs' := [.str e14.1, dL ci64 e14.2]) rfl rfl rfl rfl rfl rfl (nb rfl) rfl (evn ?_))))))))
          refine ls_keep [(2, .box [nI a0.1, dL c195_d a0.2.1, dL ci64 a0.2.2]), (3, .box [dL ci64 a1]), (5, oL 25 c25_d y1), (7, .box [.str e14.1, dL ci64 e14.2]), (28, dL c195_d a0.2.1), (29, nI (List.length a0.2.1 : Int)), (30, nI y2)] ⟨kr, kr, kr, kr, kr, kr, kr, trivial⟩ rfl ?_
          refine ls_rgn tbOk ?_
          refine evs (ev_mvt (c := oL 25 c25_d y1) rfl rfl rfl (evs (ev_fa (c1 := .cref 7 0) (v := .cref 7 1) rfl rfl rfl ⟨_, rfl⟩ rfl (evs (ev_ldBt (off := 1) (v := dL ci64 e14.2) (c' := .box [.str e14.1, dL ci64 e14.2]) rfl rfl rfl rfl (nb rfl) rfl rfl (evs (ev_bs [dL ci64 e14.2] (cs := [dL ci64 e14.2]) rfl ⟨rfl, trivial⟩ rfl (nb rfl) rfl (?_))))))))
          obtain ⟨g16, h⟩ := chk_some h
          refine evs (ev_app (f := c25_d) (l := y1) (m := [e14.2]) (c2 := oL 25 c25_d [e14.2]) rfl rfl rfl (flat_len zc25_d [e14.2]) rfl rfl g16 rfl (evs (ev_as (c := oL 25 c25_d (y1 ++ [e14.2])) rfl rfl rfl (evn ?_))))
          refine hK13 _ (ls_keep [(2, .box [nI a0.1, dL c195_d a0.2.1, dL ci64 a0.2.2]), (3, .box [dL ci64 a1]), (5, oL 25 c25_d (y1 ++ [e14.2])), (28, dL c195_d a0.2.1), (29, nI (List.length a0.2.1 : Int)), (30, nI y2)] ⟨kr, kr, kr, kr, kr, kr, trivial⟩ rfl ?_)
          refine ls_rgn tbOk ?_
          refine evs (ev_bin (c1 := nI y2) (c2 := nI 1) rfl rfl rfl (evs (ev_mv (c := nI (IntKind.i64.wrap (y2 + 1))) rfl rfl rfl (evn ?_))))
          exact hN _ ((y1 ++ [e14.2]), (IntKind.i64.wrap (y2 + 1))) h ⟨kr, kr, kr, kr, kr, kr, trivial⟩
        · refine ls_cF rfl g12 ?_
          refine ls_exit ?_
          have q0 := (Option.some.inj h).symm
          have r0 := hr1
          rw [q0] at r0
          exact kXimpl_IsValidJoinTree_B1 y1 r0 _ ⟨kr, kr, kr, trivial⟩
def impl_common_J2 (rec : ((List Int) × Int) → Option ((List Int))) (y2 : Int) (x10 : List Int) : Option ((List Int)) := rec (x10, (IntKind.i64.wrap (y2 + 1)))
def impl_common_B1 (a0 : List Int) (a1 : List Int) (rec : ((List Int) × Int) → Option ((List Int))) (s : (List Int) × Int) : Option ((List Int)) := match s with
  | (y1, y2) => cond (decide (y2 < (List.length a0 : Int))) (obind (geti a0 y2) fun e6 => obind (impl_hasInt a1 e6) fun v8 => cond v8 (chk (List.length y1 + List.length [e6] ≤ lim) (impl_common_J2 rec y2 (y1 ++ [e6]))) (impl_common_J2 rec y2 y1)) (some y1)
def impl_common (a0 : List Int) (a1 : List Int) : Option ((List Int)) := obind (loopF (impl_common_B1 a0 a1) fz (([] : List Int), 0)) fun z2 => some z2
theorem impl_common_s {a0 : List Int} {a1 : List Int} {r : (List Int)} (h : impl_common a0 a1 = some r) : SoundAt Try.prog 161 [dL ci64 a0, dL ci64 a1] (oL 3 ci64 r) := by
  unfold impl_common at h
  refine sound_lit tbOk lit161 (nb rfl) rfl ?_
  unfold c161
  refine ls_keep [(0, dL ci64 a0), (1, dL ci64 a1)] ⟨kr, kr, trivial⟩ rfl ?_
  refine ls_rs tbOk ?_
  refine evs (ev_an rfl rfl (evn ?_))
  refine ls_keep [(0, dL ci64 a0), (1, dL ci64 a1)] ⟨kr, kr, trivial⟩ rfl ?_
  refine ls_rs tbOk ?_
  refine evs (ev_an rfl rfl (evn ?_))
  refine ls_keep [(0, dL ci64 a0), (1, dL ci64 a1), (5, oL 3 ci64 [])] ⟨kr, kr, kr, trivial⟩ rfl ?_
  refine ls_seq_k fun K1 hK1 => ?_
  refine ls_rs tbOk ?_
  refine evs (ev_mv (c := dL ci64 a0) rfl rfl rfl (evs (ev_len (c1 := dL ci64 a0) rfl rfl rfl (evs (ev_mc rfl rfl (evn ?_))))))
  refine ls_keep [(1, dL ci64 a1), (5, oL 3 ci64 []), (8, dL ci64 a0), (9, nI (List.length a0 : Int)), (10, nI 0)] ⟨kr, kr, kr, kr, kr, trivial⟩ rfl ?_
  obtain ⟨o1, hl, hr1⟩ := ob_some h
  clear h
  have kXimpl_common_B1 : ∀ (z2 : List Int), (some z2) = some r → ∀ σ' : PS, okK σ' [(5, oL 3 ci64 z2)] → K1 σ' := by
    intro z2 h σ' hk
    refine hK1 _ (ls_keep [(5, oL 3 ci64 z2)] hk rfl ?_)
    refine ls_rs tbOk ?_
    refine evs (ev_mvt (c := oL 3 ci64 z2) rfl rfl rfl (evs (ev_as (c := oL 3 ci64 z2) rfl rfl rfl (evn ?_))))
    refine ls_keep [(4, oL 3 ci64 z2)] ⟨kr, trivial⟩ rfl ?_
    refine ls_ret ?_
    have hr := Option.some.inj h
    rw [← hr]
    exact ⟨.inl rfl, rfl⟩
  refine ls_rec (fun (s : (List Int) × Int) => match s with | (y1, y2) => [(1, dL ci64 a1), (5, oL 3 ci64 y1), (8, dL ci64 a0), (9, nI (List.length a0 : Int)), (10, nI y2)]) (impl_common_B1 a0 a1) fz (([] : List Int), 0) o1 hl ⟨kr, kr, kr, kr, kr, trivial⟩ (fun _ => rfl) ?_
  rintro m ⟨y1, y2⟩ N h hN
  unfold impl_common_B1 at h
  dsimp only at h
  refine ls_rs tbOk ?_
  refine evs (ev_bin (c1 := nI y2) (c2 := nI (List.length a0 : Int)) rfl rfl rfl (evn ?_))
  refine ls_keep [(1, dL ci64 a1), (5, oL 3 ci64 y1), (8, dL ci64 a0), (9, nI (List.length a0 : Int)), (10, nI y2), (11, .bool (decide (y2 < (List.length a0 : Int))))] ⟨kr, kr, kr, kr, kr, kr, trivial⟩ rfl ?_
  refine ls_seq_k fun K3 hK3 => ?_
  rcases cond_some h with ⟨g4, h⟩ | ⟨g4, h⟩
  · refine ls_cT rfl g4 ?_
    refine ls_skip ?_
    refine hK3 _ (ls_keep [(1, dL ci64 a1), (5, oL 3 ci64 y1), (8, dL ci64 a0), (9, nI (List.length a0 : Int)), (10, nI y2)] ⟨kr, kr, kr, kr, kr, trivial⟩ rfl ?_)
    refine ls_seq_k fun K5 hK5 => ?_
    refine ls_blk ?_
    refine ls_rs tbOk ?_
    obtain ⟨e6, g7, h⟩ := ob_some h
    refine evs (ev_ia rfl rfl rfl ⟨(geti_some g7).1, (geti_some g7).2.1⟩ (evs (ev_ldE (i := y2) (n := 1) (off := 0) (v := nI e6) rfl rfl zci64 g7 rfl (nb rfl) rfl (evs (ev_as (c := nI e6) rfl rfl rfl (evn ?_))))))
    refine ls_keep [(1, dL ci64 a1), (5, oL 3 ci64 y1), (7, nI e6), (8, dL ci64 a0), (9, nI (List.length a0 : Int)), (10, nI y2)] ⟨kr, kr, kr, kr, kr, kr, trivial⟩ rfl ?_
    refine ls_rs tbOk ?_
    refine evs (ev_mv (c := dL ci64 a1) rfl rfl rfl (evs (ev_mv (c := nI e6) rfl rfl rfl (?_))))
    obtain ⟨v8, g9, h⟩ := ob_some h
    refine evs (ev_call (era rfl (erD eci64 _) (era rfl rfl eran)) (impl_hasInt_s g9) (evn ?_))
    refine ls_keep [(1, dL ci64 a1), (5, oL 3 ci64 y1), (7, nI e6), (8, dL ci64 a0), (9, nI (List.length a0 : Int)), (10, nI y2), (16, .bool v8)] ⟨kr, kr, kr, kr, kr, kr, kr, trivial⟩ rfl ?_
    have kimpl_common_J2 : ∀ (x10 : List Int), impl_common_J2 (loopF (impl_common_B1 a0 a1) m) y2 x10 = some o1 → ∀ σ' : PS, okK σ' [(1, dL ci64 a1), (5, oL 3 ci64 x10), (8, dL ci64 a0), (9, nI (List.length a0 : Int)), (10, nI y2)] → K5 σ' := by
      intro x10 h σ' hk
      unfold impl_common_J2 at h
      refine hK5 _ (ls_keep [(1, dL ci64 a1), (5, oL 3 ci64 x10), (8, dL ci64 a0), (9, nI (List.length a0 : Int)), (10, nI y2)] hk rfl ?_)
      refine ls_rgn tbOk ?_
      refine evs (ev_bin (c1 := nI y2) (c2 := nI 1) rfl rfl rfl (evs (ev_mv (c := nI (IntKind.i64.wrap (y2 + 1))) rfl rfl rfl (evn ?_))))
      exact hN _ (x10, (IntKind.i64.wrap (y2 + 1))) h ⟨kr, kr, kr, kr, kr, trivial⟩
    rcases cond_some h with ⟨g11, h⟩ | ⟨g11, h⟩
    · refine ls_cT rfl g11 ?_
      refine ls_rgn tbOk ?_
      refine evs (ev_mvt (c := oL 3 ci64 y1) rfl rfl rfl (evs (ev_mv (c := nI e6) rfl rfl rfl (evs (ev_bs [nI e6] (cs := [nI e6]) rfl ⟨rfl, trivial⟩ rfl (nb rfl) rfl (?_))))))
      obtain ⟨g12, h⟩ := chk_some h
      refine evs (ev_app (f := ci64) (l := y1) (m := [e6]) (c2 := oL 3 ci64 [e6]) rfl rfl rfl (flat_len zci64 [e6]) rfl rfl g12 rfl (evs (ev_as (c := oL 3 ci64 (y1 ++ [e6])) rfl rfl rfl (evn ?_))))
      exact kimpl_common_J2 (y1 ++ [e6]) h _ ⟨kr, kr, kr, kr, kr, trivial⟩
    · refine ls_cF rfl g11 ?_
      refine ls_skip ?_
      exact kimpl_common_J2 y1 h _ ⟨kr, kr, kr, kr, kr, trivial⟩
  · refine ls_cF rfl g4 ?_
    refine ls_exit ?_
    have q0 := (Option.some.inj h).symm
    have r0 := hr1
    rw [q0] at r0
    exact kXimpl_common_B1 y1 r0 _ ⟨kr, trivial⟩
def impl_ContainsVariable (a0 : Y194) (a1 : Int) : Option (Bool) := obind (impl_hasInt a0.2 a1) fun v1 => some v1
theorem impl_ContainsVariable_s {a0 : Y194} {a1 : Int} {r : Bool} (h : impl_ContainsVariable a0 a1 = some r) : SoundAt Try.prog 229 [.agg (c195_d a0), nI a1] (.bool r) := by
  unfold impl_ContainsVariable at h
  refine sound_lit tbOk lit229 (nb rfl) rfl ?_
  unfold c229
  refine ls_keep [(0, .agg (c195_d a0)), (1, nI a1)] ⟨kr, kr, trivial⟩ rfl ?_
  refine ls_rs tbOk ?_
  refine evs (ev_bx (c1 := .agg (c195_d a0)) rfl rfl rfl (evs (ev_ac rfl nofun rfl (evn ?_))))
  refine ls_keep [(1, nI a1), (2, .box [.str a0.1, dL ci64 a0.2])] ⟨kr, kr, trivial⟩ rfl ?_
  refine ls_rs tbOk ?_
  refine evs (ev_fa (c1 := .cref 2 0) (v := .cref 2 1) rfl rfl rfl ⟨_, rfl⟩ rfl (evs (ev_ldB (off := 1) (v := dL ci64 a0.2) rfl rfl rfl rfl (nb rfl) rfl (evs (ev_mv (c := nI a1) rfl rfl rfl (?_))))))
  obtain ⟨v1, g2, h⟩ := ob_some h
  refine evs (ev_call (era rfl (erD eci64 _) (era rfl rfl eran)) (impl_hasInt_s g2) (evs (ev_as (c := .bool v1) rfl rfl rfl (evn ?_))))
  refine ls_keep [(4, .bool v1)] ⟨kr, trivial⟩ rfl ?_
  refine ls_ret ?_
  have hr := Option.some.inj h
  rw [← hr]
  exact ⟨.inl rfl, rfl⟩
def impl_AtomVariables_J2 (rec : ((List Int) × Int) → Option ((List Int))) (y2 : Int) (x8 : List Int) : Option ((List Int)) := rec (x8, (IntKind.i64.wrap (y2 + 1)))
def impl_AtomVariables_B1 (a0 : Y194) (rec : ((List Int) × Int) → Option ((List Int))) (s : (List Int) × Int) : Option ((List Int)) := match s with
  | (y1, y2) => cond (decide (y2 < 5)) (obind (impl_ContainsVariable a0 y2) fun v6 => cond v6 (chk (List.length y1 + List.length [y2] ≤ lim) (impl_AtomVariables_J2 rec y2 (y1 ++ [y2]))) (impl_AtomVariables_J2 rec y2 y1)) (some y1)
def impl_AtomVariables (a0 : Y194) : Option ((List Int)) := obind (loopF (impl_AtomVariables_B1 a0) fz (([] : List Int), 0)) fun z2 => some z2
theorem impl_AtomVariables_s {a0 : Y194} {r : (List Int)} (h : impl_AtomVariables a0 = some r) : SoundAt Try.prog 162 [.agg (c195_d a0)] (oL 3 ci64 r) := by
  unfold impl_AtomVariables at h
  refine sound_lit tbOk lit162 (nb rfl) rfl ?_
  unfold c162
  refine ls_keep [(0, .agg (c195_d a0))] ⟨kr, trivial⟩ rfl ?_
  refine ls_rs tbOk ?_
  refine evs (ev_bx (c1 := .agg (c195_d a0)) rfl rfl rfl (evs (ev_an rfl rfl (evn ?_))))
  refine ls_keep [(1, .box [.str a0.1, dL ci64 a0.2])] ⟨kr, trivial⟩ rfl ?_
  refine ls_rs tbOk ?_
  refine evs (ev_an rfl rfl (evn ?_))
  refine ls_keep [(1, .box [.str a0.1, dL ci64 a0.2]), (3, oL 3 ci64 [])] ⟨kr, kr, trivial⟩ rfl ?_
  refine ls_seq_k fun K1 hK1 => ?_
  refine ls_rs tbOk ?_
  refine evs (ev_ac rfl nofun rfl (evn ?_))
  refine ls_keep [(1, .box [.str a0.1, dL ci64 a0.2]), (3, oL 3 ci64 []), (4, nI 0)] ⟨kr, kr, kr, trivial⟩ rfl ?_
  obtain ⟨o1, hl, hr1⟩ := ob_some h
  clear h
  have kXimpl_AtomVariables_B1 : ∀ (z2 : List Int), (some z2) = some r → ∀ σ' : PS, okK σ' [(3, oL 3 ci64 z2)] → K1 σ' := by
    intro z2 h σ' hk
    refine hK1 _ (ls_keep [(3, oL 3 ci64 z2)] hk rfl ?_)
    refine ls_rs tbOk ?_
    refine evs (ev_mvt (c := oL 3 ci64 z2) rfl rfl rfl (evs (ev_as (c := oL 3 ci64 z2) rfl rfl rfl (evn ?_))))
    refine ls_keep [(2, oL 3 ci64 z2)] ⟨kr, trivial⟩ rfl ?_
    refine ls_ret ?_
    have hr := Option.some.inj h
    rw [← hr]
    exact ⟨.inl rfl, rfl⟩
  refine ls_rec (fun (s : (List Int) × Int) => match s with | (y1, y2) => [(1, .box [.str a0.1, dL ci64 a0.2]), (3, oL 3 ci64 y1), (4, nI y2)]) (impl_AtomVariables_B1 a0) fz (([] : List Int), 0) o1 hl ⟨kr, kr, kr, trivial⟩ (fun _ => rfl) ?_
  rintro m ⟨y1, y2⟩ N h hN
  unfold impl_AtomVariables_B1 at h
  dsimp only at h
  refine ls_seq_k fun K3 hK3 => ?_
  refine ls_rs tbOk ?_
  refine evs (ev_mv (c := nI y2) rfl rfl rfl (evs (ev_bin (c1 := nI y2) (c2 := nI 5) rfl rfl rfl (evn ?_))))
  refine ls_keep [(1, .box [.str a0.1, dL ci64 a0.2]), (3, oL 3 ci64 y1), (4, nI y2), (6, .bool (decide (y2 < 5)))] ⟨kr, kr, kr, kr, trivial⟩ rfl ?_
  rcases cond_some h with ⟨g4, h⟩ | ⟨g4, h⟩
  · refine ls_cT rfl g4 ?_
    refine ls_skip ?_
    refine hK3 _ (ls_keep [(1, .box [.str a0.1, dL ci64 a0.2]), (3, oL 3 ci64 y1), (4, nI y2)] ⟨kr, kr, kr, trivial⟩ rfl ?_)
    refine ls_seq_k fun K5 hK5 => ?_
    refine ls_blk ?_
    refine ls_rs tbOk ?_
    refine evs (ev_ldB (off := 0) (v := .agg (c195_d a0)) rfl rfl rfl rfl (nb rfl) rfl (evs (ev_mv (c := nI y2) rfl rfl rfl (?_))))
    obtain ⟨v6, g7, h⟩ := ob_some h
    refine evs (ev_call (era rfl (erg (erc rfl (erc (erD eci64 _) rfl))) (era rfl rfl eran)) (impl_ContainsVariable_s g7) (evn ?_))
    refine ls_keep [(1, .box [.str a0.1, dL ci64 a0.2]), (3, oL 3 ci64 y1), (4, nI y2), (11, .bool v6)] ⟨kr, kr, kr, kr, trivial⟩ rfl ?_
    have kimpl_AtomVariables_J2 : ∀ (x8 : List Int), impl_AtomVariables_J2 (loopF (impl_AtomVariables_B1 a0) m) y2 x8 = some o1 → ∀ σ' : PS, okK σ' [(1, .box [.str a0.1, dL ci64 a0.2]), (3, oL 3 ci64 x8), (4, nI y2)] → K5 σ' := by
      intro x8 h σ' hk
      unfold impl_AtomVariables_J2 at h
      refine hK5 _ (ls_keep [(1, .box [.str a0.1, dL ci64 a0.2]), (3, oL 3 ci64 x8), (4, nI y2)] hk rfl ?_)
      refine ls_rgn tbOk ?_
      refine evs (ev_mv (c := nI y2) rfl rfl rfl (evs (ev_bin (c1 := nI y2) (c2 := nI 1) rfl rfl rfl (evs (ev_as (c := nI (IntKind.i64.wrap (y2 + 1))) rfl rfl rfl (evn ?_))))))
      exact hN _ (x8, (IntKind.i64.wrap (y2 + 1))) h ⟨kr, kr, kr, trivial⟩
    rcases cond_some h with ⟨g9, h⟩ | ⟨g9, h⟩
    · refine ls_cT rfl g9 ?_
      refine ls_rgn tbOk ?_
      refine evs (ev_mvt (c := oL 3 ci64 y1) rfl rfl rfl (evs (ev_mv (c := nI y2) rfl rfl rfl (evs (ev_bs [nI y2] (cs := [nI y2]) rfl ⟨rfl, trivial⟩ rfl (nb rfl) rfl (?_))))))
      obtain ⟨g10, h⟩ := chk_some h
      refine evs (ev_app (f := ci64) (l := y1) (m := [y2]) (c2 := oL 3 ci64 [y2]) rfl rfl rfl (flat_len zci64 [y2]) rfl rfl g10 rfl (evs (ev_as (c := oL 3 ci64 (y1 ++ [y2])) rfl rfl rfl (evn ?_))))
      exact kimpl_AtomVariables_J2 (y1 ++ [y2]) h _ ⟨kr, kr, kr, trivial⟩
    · refine ls_cF rfl g9 ?_
      refine ls_skip ?_
      exact kimpl_AtomVariables_J2 y1 h _ ⟨kr, kr, kr, trivial⟩
  · refine ls_cF rfl g4 ?_
    refine ls_exit ?_
    have q0 := (Option.some.inj h).symm
    have r0 := hr1
    rw [q0] at r0
    exact kXimpl_AtomVariables_B1 y1 r0 _ ⟨kr, trivial⟩
def impl_IsStrictlyAscending_B1 (a0 : List Int) (rec : Int → Option (Sum (Unit) (Bool))) (y1 : Int) : Option (Sum (Unit) (Bool)) := cond (decide (y1 < (List.length a0 : Int))) (obind (geti a0 (IntKind.i64.wrap (y1 - 1))) fun e5 => obind (geti a0 y1) fun e7 => cond (decide (e7 ≤ e5)) (some (.inr false)) (rec (IntKind.i64.wrap (y1 + 1)))) (some (.inl ()))
def impl_IsStrictlyAscending (a0 : List Int) : Option (Bool) := obind (loopF (impl_IsStrictlyAscending_B1 a0) fz 1) fun o1 => (match o1 with
  | .inl _ => (some true)
  | .inr r => some r)
theorem impl_IsStrictlyAscending_s {a0 : List Int} {r : Bool} (h : impl_IsStrictlyAscending a0 = some r) : SoundAt Try.prog 174 [dL ci64 a0] (.bool r) := by
  unfold impl_IsStrictlyAscending at h
  refine sound_lit tbOk lit174 (nb rfl) rfl ?_
  unfold c174
  refine ls_keep [(0, dL ci64 a0)] ⟨kr, trivial⟩ rfl ?_
  refine ls_rs tbOk ?_
  refine evs (ev_ac rfl nofun rfl (evn ?_))
  refine ls_keep [(0, dL ci64 a0)] ⟨kr, trivial⟩ rfl ?_
  refine ls_seq_k fun K1 hK1 => ?_
  refine ls_rs tbOk ?_
  refine evs (ev_ac rfl nofun rfl (evn ?_))
  refine ls_keep [(0, dL ci64 a0), (3, nI 1)] ⟨kr, kr, trivial⟩ rfl ?_
  obtain ⟨o1, hl, hr1⟩ := ob_some h
  clear h
  have kXimpl_IsStrictlyAscending_B1 : ∀ (_ : Unit), (some true) = some r → ∀ σ' : PS, okK σ' [] → K1 σ' := by
    intro _ h σ' hk
    refine hK1 _ (ls_keep [] hk rfl ?_)
    refine ls_rs tbOk ?_
    refine evs (ev_ac rfl nofun rfl (evn ?_))
    refine ls_keep [(2, .bool true)] ⟨kr, trivial⟩ rfl ?_
    refine ls_ret ?_
    have hr := Option.some.inj h
    rw [← hr]
    exact ⟨.inl rfl, rfl⟩
  refine ls_rec (fun (y1 : Int) => [(0, dL ci64 a0), (3, nI y1)]) (impl_IsStrictlyAscending_B1 a0) fz 1 o1 hl ⟨kr, kr, trivial⟩ (fun _ => rfl) ?_
  rintro m y1 N h hN
  unfold impl_IsStrictlyAscending_B1 at h
  refine ls_seq_k fun K2 hK2 => ?_
  refine ls_rs tbOk ?_
  refine evs (ev_mv (c := nI y1) rfl rfl rfl (evs (ev_mv (c := dL ci64 a0) rfl rfl rfl (evs (ev_len (c1 := dL ci64 a0) rfl rfl rfl (evs (ev_bin (c1 := nI y1) (c2 := nI (List.length a0 : Int)) rfl rfl rfl (evn ?_))))))))
  refine ls_keep [(0, dL ci64 a0), (3, nI y1), (7, .bool (decide (y1 < (List.length a0 : Int))))] ⟨kr, kr, kr, trivial⟩ rfl ?_
  rcases cond_some h with ⟨g3, h⟩ | ⟨g3, h⟩
  · refine ls_cT rfl g3 ?_
    refine ls_skip ?_
    refine hK2 _ (ls_keep [(0, dL ci64 a0), (3, nI y1)] ⟨kr, kr, trivial⟩ rfl ?_)
    refine ls_seq_k fun K4 hK4 => ?_
    refine ls_blk ?_
    refine ls_rd tbOk mixed (by kernel_rfl) ?_
    refine evd rfl rfl (ev_mv (c := dL ci64 a0) rfl rfl rfl (evd rfl rfl (ev_mv (c := nI y1) rfl rfl rfl (evd rfl rfl (ev_bin (c1 := nI y1) (c2 := nI 1) rfl rfl rfl (?_))))))
    obtain ⟨e5, g6, h⟩ := ob_some h
    refine evd rfl rfl (ev_ia rfl rfl rfl ⟨(geti_some g6).1, (geti_some g6).2.1⟩ (evd rfl rfl (ev_ldE (i := (IntKind.i64.wrap (y1 - 1))) (n := 1) (off := 0) (v := nI e5) rfl rfl zci64 g6 rfl (nb rfl) rfl (evd rfl rfl (ev_mv (c := dL ci64 a0) rfl rfl rfl (evd rfl rfl (ev_mv (c := nI y1) rfl rfl rfl (?_))))))))
    obtain ⟨e7, g8, h⟩ := ob_some h
    refine evd rfl rfl (ev_ia rfl rfl rfl ⟨(geti_some g8).1, (geti_some g8).2.1⟩ (evd rfl rfl (ev_ldE (i := y1) (n := 1) (off := 0) (v := nI e7) rfl rfl zci64 g8 rfl (nb rfl) rfl (evd rfl rfl (ev_bin (c1 := nI e5) (c2 := nI e7) rfl rfl rfl (evdn ?_))))))
    refine ls_keep [(0, dL ci64 a0), (3, nI y1), (19, .bool (decide (e7 ≤ e5)))] ⟨kr, kr, kr, trivial⟩ rfl ?_
    rcases cond_some h with ⟨g9, h⟩ | ⟨g9, h⟩
    · refine ls_cT rfl g9 ?_
      refine ls_rs tbOk ?_
      refine evs (ev_ac rfl nofun rfl (evn ?_))
      refine ls_keep [(2, .bool false)] ⟨kr, trivial⟩ rfl ?_
      refine ls_ret ?_
      have q0 := (Option.some.inj h).symm
      have r0 := hr1
      rw [q0] at r0
      have hr := Option.some.inj r0
      rw [← hr]
      exact ⟨.inl rfl, rfl⟩
    · refine ls_cF rfl g9 ?_
      refine ls_skip ?_
      refine hK4 _ (ls_keep [(0, dL ci64 a0), (3, nI y1)] ⟨kr, kr, trivial⟩ rfl ?_)
      refine ls_rgn tbOk ?_
      refine evs (ev_mv (c := nI y1) rfl rfl rfl (evs (ev_bin (c1 := nI y1) (c2 := nI 1) rfl rfl rfl (evs (ev_as (c := nI (IntKind.i64.wrap (y1 + 1))) rfl rfl rfl (evn ?_))))))
      exact hN _ (IntKind.i64.wrap (y1 + 1)) h ⟨kr, kr, trivial⟩
  · refine ls_cF rfl g3 ?_
    refine ls_exit ?_
    have q0 := (Option.some.inj h).symm
    have r0 := hr1
    rw [q0] at r0
    exact kXimpl_IsStrictlyAscending_B1 () r0 _ trivial
def impl_isBag_J1 (x2 : Bool) : Option (Bool) := some x2
def impl_isBag (a0 : Y91) (a1 : List Int) : Option (Bool) := cond (decide (0 < (List.length a1 : Int))) (obind (impl_IsStrictlyAscending a1) fun v4 => cond v4 (obind (impl_isSetOf a1 a0.1) fun v7 => impl_isBag_J1 v7) (impl_isBag_J1 false)) (impl_isBag_J1 false)
theorem impl_isBag_s {a0 : Y91} {a1 : List Int} {r : Bool} (h : impl_isBag a0 a1 = some r) : SoundAt Try.prog 212 [.agg (c92_ddd a0), dL ci64 a1] (.bool r) := by
  unfold impl_isBag at h
  refine sound_lit tbOk lit212 (nb rfl) rfl ?_
  unfold c212
  refine ls_keep [(0, .agg (c92_ddd a0)), (1, dL ci64 a1)] ⟨kr, kr, trivial⟩ rfl ?_
  refine ls_rs tbOk ?_
  refine evs (ev_bx (c1 := .agg (c92_ddd a0)) rfl rfl rfl (evs (ev_ac rfl nofun rfl (evn ?_))))
  refine ls_keep [(1, dL ci64 a1), (2, .box [nI a0.1, dL c195_d a0.2.1, dL ci64 a0.2.2])] ⟨kr, kr, trivial⟩ rfl ?_
  refine ls_rs_k tbOk fun K1 hK1 => ?_
  have kimpl_isBag_J1 : ∀ (x2 : Bool), impl_isBag_J1 x2 = some r → ∀ σ' : PS, okK σ' [(4, .bool x2)] → K1 σ' := by
    intro x2 h σ' hk
    unfold impl_isBag_J1 at h
    refine hK1 _ (ls_keep [(4, .bool x2)] hk rfl ?_)
    refine ls_ret ?_
    have hr := Option.some.inj h
    rw [← hr]
    exact ⟨.inl rfl, rfl⟩
  refine evs (ev_mv (c := dL ci64 a1) rfl rfl rfl (evs (ev_len (c1 := dL ci64 a1) rfl rfl rfl (evs (ev_bin (c1 := nI (List.length a1 : Int)) (c2 := nI 0) rfl rfl rfl (evs (ev_mv (c := .bool (decide (0 < (List.length a1 : Int)))) rfl rfl rfl (?_))))))))
  rcases cond_some h with ⟨g3, h⟩ | ⟨g3, h⟩
  · refine evs (ev_gr rfl (congrArg V.bool g3) (ev_mv (c := dL ci64 a1) rfl rfl rfl (?_)))
    obtain ⟨v4, g5, h⟩ := ob_some h
    refine evs (ev_gr rfl (congrArg V.bool g3) (ev_call (era rfl (erD eci64 _) eran) (impl_IsStrictlyAscending_s g5) (evs (ev_pkT (c1 := .bool v4) rfl g3 rfl rfl (evs (ev_mv (c := .bool v4) rfl rfl rfl (?_)))))))
    rcases cond_some h with ⟨g6, h⟩ | ⟨g6, h⟩
    · refine evs (ev_gr rfl (congrArg V.bool g6) (ev_mv (c := dL ci64 a1) rfl rfl rfl (evs (ev_gr rfl (congrArg V.bool g6) (ev_fa (c1 := .cref 2 0) (v := .cref 2 0) rfl rfl rfl ⟨_, rfl⟩ rfl (evs (ev_gr rfl (congrArg V.bool g6) (ev_ldB (off := 0) (v := nI a0.1) rfl rfl rfl rfl (nb rfl) rfl (?_)))))))))
      obtain ⟨v7, g8, h⟩ := ob_some h
      refine evs (ev_gr rfl (congrArg V.bool g6) (ev_call (era rfl (erD eci64 _) (era rfl rfl eran)) (impl_isSetOf_s g8) (evs (ev_pkT (c1 := .bool v7) rfl g6 rfl rfl (evs (ev_as (c := .bool v7) rfl rfl rfl (evn ?_)))))))
      exact kimpl_isBag_J1 v7 h _ ⟨kr, trivial⟩
    · refine evs (ev_gs rfl rfl (isb_F g6) (evs (ev_gs rfl rfl (isb_F g6) (evs (ev_gs rfl rfl (isb_F g6) (evs (ev_gs rfl rfl (isb_F g6) (evs (ev_pkF (c1 := .bool false) rfl g6 rfl rfl (evs (ev_as (c := .bool false) rfl rfl rfl (evn ?_))))))))))))
      exact kimpl_isBag_J1 false h _ ⟨kr, trivial⟩
  · refine evs (ev_gs rfl rfl (isb_F g3) (evs (ev_gs rfl rfl (isb_F g3) (evs (ev_pkF (c1 := .bool false) rfl g3 rfl rfl (evs (ev_mv (c := .bool false) rfl rfl rfl (evs (ev_gs rfl rfl rfl (evs (ev_gs rfl rfl rfl (evs (ev_gs rfl rfl rfl (evs (ev_gs rfl rfl rfl (evs (ev_pkF (c1 := .bool false) rfl rfl rfl rfl (evs (ev_as (c := .bool false) rfl rfl rfl (evn ?_))))))))))))))))))))
    exact kimpl_isBag_J1 false h _ ⟨kr, trivial⟩
def impl_IsValidDecomposition_B1 (a0 : Y91) (a1 : Y83) (rec : Int → Option (Sum (Unit) (Bool))) (y1 : Int) : Option (Sum (Unit) (Bool)) := cond (decide (y1 < (List.length a1.1 : Int))) (obind (geti a1.1 y1) fun e13 => obind (impl_isBag a0 e13) fun v15 => cond (!v15) (some (.inr false)) (rec (IntKind.i64.wrap (y1 + 1)))) (some (.inl ()))
def impl_IsValidDecomposition_J4 (rec : (Bool × Int) → Option (Bool)) (y8 : Int) (x31 : Bool) : Option (Bool) := rec (x31, (IntKind.i64.wrap (y8 + 1)))
def impl_IsValidDecomposition_B3 (a1 : Y83) (e22 : Y194) (rec : (Bool × Int) → Option (Bool)) (s : Bool × Int) : Option (Bool) := match s with
  | (y7, y8) => cond (decide (y8 < (List.length a1.1 : Int))) (obind (geti a1.1 y8) fun e29 => cond y7 (impl_IsValidDecomposition_J4 rec y8 true) (obind (impl_AtomVariables e22) fun v33 => obind (impl_common v33 e29) fun v35 => obind (impl_AtomVariables e22) fun v37 => impl_IsValidDecomposition_J4 rec y8 ((List.length v35 : Int) == (List.length v37 : Int)))) (some y7)
def impl_IsValidDecomposition_B2 (a0 : Y91) (a1 : Y83) (rec : Int → Option (Sum (Unit) (Bool))) (y4 : Int) : Option (Sum (Unit) (Bool)) := cond (decide (y4 < (List.length a0.2.1 : Int))) (obind (geti a0.2.1 y4) fun e22 => obind (loopF (impl_IsValidDecomposition_B3 a1 e22) fz (false, 0)) fun z25 => cond (!z25) (some (.inr false)) (rec (IntKind.i64.wrap (y4 + 1)))) (some (.inl ()))
def impl_IsValidDecomposition_B5 (a0 : Y91) (a1 : Y83) (rec : Int → Option (Sum (Unit) (Bool))) (y9 : Int) : Option (Sum (Unit) (Bool)) := cond (decide (y9 < a0.1)) (obind (impl_topsOf a1.1 a1.2 y9) fun v44 => cond (v44 != 1) (some (.inr false)) (rec (IntKind.i64.wrap (y9 + 1)))) (some (.inl ()))
def impl_IsValidDecomposition (a0 : Y91) (a1 : Y83) : Option (Bool) := obind (impl_IsValidQuery a0) fun v2 => cond (!v2) (some false) (cond ((List.length a1.1 : Int) != (List.length a1.2 : Int)) (some false) (obind (impl_isTree a1.2) fun v6 => cond (!v6) (some false) (obind (loopF (impl_IsValidDecomposition_B1 a0 a1) fz 0) fun o1 => (match o1 with
  | .inl _ => (obind (loopF (impl_IsValidDecomposition_B2 a0 a1) fz 0) fun o2 => (match o2 with
  | .inl _ => (obind (loopF (impl_IsValidDecomposition_B5 a0 a1) fz 0) fun o5 => (match o5 with
  | .inl _ => (some true)
  | .inr r => some r))
  | .inr r => some r))
  | .inr r => some r))))
theorem impl_IsValidDecomposition_s {a0 : Y91} {a1 : Y83} {r : Bool} (h : impl_IsValidDecomposition a0 a1 = some r) : SoundAt Try.prog 130 [.agg (c92_ddd a0), .agg (c95_ddd a1)] (.bool r) := by
  unfold impl_IsValidDecomposition at h
  refine sound_lit tbOk lit130 (nb rfl) rfl ?_
  unfold c130
  refine ls_keep [(0, .agg (c92_ddd a0)), (1, .agg (c95_ddd a1))] ⟨kr, kr, trivial⟩ rfl ?_
  refine ls_rs tbOk ?_
  refine evs (ev_bx (c1 := .agg (c92_ddd a0)) rfl rfl rfl (evs (ev_bx (c1 := .agg (c95_ddd a1)) rfl rfl rfl (evs (ev_ac rfl nofun rfl (evn ?_))))))
  refine ls_keep [(2, .box [nI a0.1, dL c195_d a0.2.1, dL ci64 a0.2.2]), (3, .box [dL c25_d a1.1, dL ci64 a1.2])] ⟨kr, kr, trivial⟩ rfl ?_
  refine ls_rs tbOk ?_
  refine evs (ev_ldB (off := 0) (v := .agg (c95_ddd a1)) rfl rfl rfl rfl (nb rfl) rfl (evs (ev_al rfl rfl (evs (ev_st (off := 0) (c1 := .agg (c95_ddd a1)) (cs' := [dL c25_d a1.1, dL ci64 a1.2]) rfl rfl rfl rfl rfl rfl (nb rfl) rfl (evn ?_))))))
  refine ls_keep [(2, .box [nI a0.1, dL c195_d a0.2.1, dL ci64 a0.2.2]), (5, .box [dL c25_d a1.1, dL ci64 a1.2])] ⟨kr, kr, trivial⟩ rfl ?_
  refine ls_seq_k fun K1 hK1 => ?_
  refine ls_rs tbOk ?_
  refine evs (ev_ldB (off := 0) (v := .agg (c92_ddd a0)) rfl rfl rfl rfl (nb rfl) rfl (?_))
  obtain ⟨v2, g3, h⟩ := ob_some h
  refine evs (ev_call (era rfl (erg (erc rfl (erc (erD ec195_d _) (erc (erD eci64 _) rfl)))) eran) (impl_IsValidQuery_s g3) (evs (ev_un (c1 := .bool v2) rfl trivial (evs (ev_mv (c := .bool (!v2)) rfl rfl rfl (?_))))))
  rcases cond_some h with ⟨g4, h⟩ | ⟨g4, h⟩
  · refine evs (ev_gs rfl rfl (isb_T g4) (evs (ev_gs rfl rfl (isb_T g4) (evs (ev_gs rfl rfl (isb_T g4) (evs (ev_gs rfl rfl (isb_T g4) (evs (ev_gs rfl rfl (isb_T g4) (evs (ev_gs rfl rfl (isb_T g4) (evs (ev_gs rfl rfl (isb_T g4) (evs (ev_pkT (c1 := .bool true) rfl g4 rfl rfl (evs (ev_mv (c := .bool true) rfl rfl rfl (evs (ev_gs rfl rfl rfl (evs (ev_gs rfl rfl rfl (evs (ev_gs rfl rfl rfl (evs (ev_gs rfl rfl rfl (evs (ev_pkT (c1 := .bool true) rfl rfl rfl rfl (evn ?_))))))))))))))))))))))))))))
    refine ls_keep [(2, .box [nI a0.1, dL c195_d a0.2.1, dL ci64 a0.2.2]), (5, .box [dL c25_d a1.1, dL ci64 a1.2]), (32, .bool true)] ⟨kr, kr, kr, trivial⟩ rfl ?_
    refine ls_cT rfl rfl ?_
    refine ls_rs tbOk ?_
    refine evs (ev_ac rfl nofun rfl (evn ?_))
    refine ls_keep [(4, .bool false)] ⟨kr, trivial⟩ rfl ?_
    refine ls_ret ?_
    have hr := Option.some.inj h
    rw [← hr]
    exact ⟨.inl rfl, rfl⟩
  · refine evs (ev_gr rfl (congrArg V.bool g4) (ev_fa (c1 := .cref 5 0) (v := .cref 5 0) rfl rfl rfl ⟨_, rfl⟩ rfl (evs (ev_gr rfl (congrArg V.bool g4) (ev_ldB (off := 0) (v := dL c25_d a1.1) rfl rfl rfl rfl (nb rfl) rfl (evs (ev_gr rfl (congrArg V.bool g4) (ev_len (c1 := dL c25_d a1.1) rfl rfl rfl (evs (ev_gr rfl (congrArg V.bool g4) (ev_fa (c1 := .cref 5 0) (v := .cref 5 1) rfl rfl rfl ⟨_, rfl⟩ rfl (evs (ev_gr rfl (congrArg V.bool g4) (ev_ldB (off := 1) (v := dL ci64 a1.2) rfl rfl rfl rfl (nb rfl) rfl (evs (ev_gr rfl (congrArg V.bool g4) (ev_len (c1 := dL ci64 a1.2) rfl rfl rfl (evs (ev_gr rfl (congrArg V.bool g4) (ev_bin (c1 := nI (List.length a1.1 : Int)) (c2 := nI (List.length a1.2 : Int)) rfl rfl rfl (evs (ev_pkF (c1 := .bool ((List.length a1.1 : Int) != (List.length a1.2 : Int))) rfl g4 rfl rfl (evs (ev_mv (c := .bool ((List.length a1.1 : Int) != (List.length a1.2 : Int))) rfl rfl rfl (?_)))))))))))))))))))))))))
    rcases cond_some h with ⟨g5, h⟩ | ⟨g5, h⟩
    · refine evs (ev_gs rfl rfl (isb_T g5) (evs (ev_gs rfl rfl (isb_T g5) (evs (ev_gs rfl rfl (isb_T g5) (evs (ev_gs rfl rfl (isb_T g5) (evs (ev_pkT (c1 := .bool true) rfl g5 rfl rfl (evn ?_))))))))))
      refine ls_keep [(2, .box [nI a0.1, dL c195_d a0.2.1, dL ci64 a0.2.2]), (5, .box [dL c25_d a1.1, dL ci64 a1.2]), (32, .bool true)] ⟨kr, kr, kr, trivial⟩ rfl ?_
      refine ls_cT rfl rfl ?_
      refine ls_rs tbOk ?_
      refine evs (ev_ac rfl nofun rfl (evn ?_))
      refine ls_keep [(4, .bool false)] ⟨kr, trivial⟩ rfl ?_
      refine ls_ret ?_
      have hr := Option.some.inj h
      rw [← hr]
      exact ⟨.inl rfl, rfl⟩
    · refine evs (ev_gr rfl (congrArg V.bool g5) (ev_fa (c1 := .cref 5 0) (v := .cref 5 1) rfl rfl rfl ⟨_, rfl⟩ rfl (evs (ev_gr rfl (congrArg V.bool g5) (ev_ldB (off := 1) (v := dL ci64 a1.2) rfl rfl rfl rfl (nb rfl) rfl (?_))))))
      obtain ⟨v6, g7, h⟩ := ob_some h
      refine evs (ev_gr rfl (congrArg V.bool g5) (ev_call (era rfl (erD eci64 _) eran) (impl_isTree_s g7) (evs (ev_gr rfl (congrArg V.bool g5) (ev_un (c1 := .bool v6) rfl trivial (evs (ev_pkF (c1 := .bool (!v6)) rfl g5 rfl rfl (evn ?_))))))))
      refine ls_keep [(2, .box [nI a0.1, dL c195_d a0.2.1, dL ci64 a0.2.2]), (5, .box [dL c25_d a1.1, dL ci64 a1.2]), (32, .bool (!v6))] ⟨kr, kr, kr, trivial⟩ rfl ?_
      rcases cond_some h with ⟨g8, h⟩ | ⟨g8, h⟩
      · refine ls_cT rfl g8 ?_
        refine ls_rs tbOk ?_
        refine evs (ev_ac rfl nofun rfl (evn ?_))
        refine ls_keep [(4, .bool false)] ⟨kr, trivial⟩ rfl ?_
        refine ls_ret ?_
        have hr := Option.some.inj h
        rw [← hr]
        exact ⟨.inl rfl, rfl⟩
      · refine ls_cF rfl g8 ?_
        refine ls_skip ?_
        refine hK1 _ (ls_keep [(2, .box [nI a0.1, dL c195_d a0.2.1, dL ci64 a0.2.2]), (5, .box [dL c25_d a1.1, dL ci64 a1.2])] ⟨kr, kr, trivial⟩ rfl ?_)
        refine ls_seq_k fun K9 hK9 => ?_
        refine ls_rs tbOk ?_
        refine evs (ev_fa (c1 := .cref 5 0) (v := .cref 5 0) rfl rfl rfl ⟨_, rfl⟩ rfl (evs (ev_ldB (off := 0) (v := dL c25_d a1.1) rfl rfl rfl rfl (nb rfl) rfl (evs (ev_len (c1 := dL c25_d a1.1) rfl rfl rfl (evs (ev_mc rfl rfl (evn ?_))))))))
        refine ls_keep [(2, .box [nI a0.1, dL c195_d a0.2.1, dL ci64 a0.2.2]), (5, .box [dL c25_d a1.1, dL ci64 a1.2]), (34, dL c25_d a1.1), (35, nI (List.length a1.1 : Int)), (36, nI 0)] ⟨kr, kr, kr, kr, kr, trivial⟩ rfl ?_
        obtain ⟨o1, hl, hr1⟩ := ob_some h
        clear h
        have kXimpl_IsValidDecomposition_B1 : ∀ (_ : Unit), (obind (loopF (impl_IsValidDecomposition_B2 a0 a1) fz 0) fun o2 => (match o2 with
  | .inl _ => (obind (loopF (impl_IsValidDecomposition_B5 a0 a1) fz 0) fun o5 => (match o5 with
  | .inl _ => (some true)
  | .inr r => some r))
  | .inr r => some r)) = some r → ∀ σ' : PS, okK σ' [(2, .box [nI a0.1, dL c195_d a0.2.1, dL ci64 a0.2.2]), (5, .box [dL c25_d a1.1, dL ci64 a1.2])] → K9 σ' := by
          intro _ h σ' hk
          refine hK9 _ (ls_keep [(2, .box [nI a0.1, dL c195_d a0.2.1, dL ci64 a0.2.2]), (5, .box [dL c25_d a1.1, dL ci64 a1.2])] hk rfl ?_)
          refine ls_seq_k fun K18 hK18 => ?_
          refine ls_rs tbOk ?_
          refine evs (ev_fa (c1 := .cref 2 0) (v := .cref 2 1) rfl rfl rfl ⟨_, rfl⟩ rfl (evs (ev_ldB (off := 1) (v := dL c195_d a0.2.1) rfl rfl rfl rfl (nb rfl) rfl (evs (ev_len (c1 := dL c195_d a0.2.1) rfl rfl rfl (evs (ev_mc rfl rfl (evn ?_))))))))
          refine ls_keep [(2, .box [nI a0.1, dL c195_d a0.2.1, dL ci64 a0.2.2]), (5, .box [dL c25_d a1.1, dL ci64 a1.2]), (46, dL c195_d a0.2.1), (47, nI (List.length a0.2.1 : Int)), (48, nI 0)] ⟨kr, kr, kr, kr, kr, trivial⟩ rfl ?_
          obtain ⟨o2, hl, hr2⟩ := ob_some h
          clear h
          have kXimpl_IsValidDecomposition_B2 : ∀ (_ : Unit), (obind (loopF (impl_IsValidDecomposition_B5 a0 a1) fz 0) fun o5 => (match o5 with
  | .inl _ => (some true)
  | .inr r => some r)) = some r → ∀ σ' : PS, okK σ' [(2, .box [nI a0.1, dL c195_d a0.2.1, dL ci64 a0.2.2]), (5, .box [dL c25_d a1.1, dL ci64 a1.2])] → K18 σ' := by
            intro _ h σ' hk
            refine hK18 _ (ls_keep [(2, .box [nI a0.1, dL c195_d a0.2.1, dL ci64 a0.2.2]), (5, .box [dL c25_d a1.1, dL ci64 a1.2])] hk rfl ?_)
            refine ls_seq_k fun K40 hK40 => ?_
            refine ls_rs tbOk ?_
            refine evs (ev_ac rfl nofun rfl (evn ?_))
            refine ls_keep [(2, .box [nI a0.1, dL c195_d a0.2.1, dL ci64 a0.2.2]), (5, .box [dL c25_d a1.1, dL ci64 a1.2]), (13, nI 0)] ⟨kr, kr, kr, trivial⟩ rfl ?_
            obtain ⟨o5, hl, hr5⟩ := ob_some h
            clear h
            have kXimpl_IsValidDecomposition_B5 : ∀ (_ : Unit), (some true) = some r → ∀ σ' : PS, okK σ' [] → K40 σ' := by
              intro _ h σ' hk
              refine hK40 _ (ls_keep [] hk rfl ?_)
              refine ls_rs tbOk ?_
              refine evs (ev_ac rfl nofun rfl (evn ?_))
              refine ls_keep [(4, .bool true)] ⟨kr, trivial⟩ rfl ?_
              refine ls_ret ?_
              have hr := Option.some.inj h
              rw [← hr]
              exact ⟨.inl rfl, rfl⟩
            refine ls_rec (fun (y9 : Int) => [(2, .box [nI a0.1, dL c195_d a0.2.1, dL ci64 a0.2.2]), (5, .box [dL c25_d a1.1, dL ci64 a1.2]), (13, nI y9)]) (impl_IsValidDecomposition_B5 a0 a1) fz 0 o5 hl ⟨kr, kr, kr, trivial⟩ (fun _ => rfl) ?_
            rintro m y9 N h hN
            unfold impl_IsValidDecomposition_B5 at h
            refine ls_seq_k fun K41 hK41 => ?_
            refine ls_rs tbOk ?_
            refine evs (ev_mv (c := nI y9) rfl rfl rfl (evs (ev_fa (c1 := .cref 2 0) (v := .cref 2 0) rfl rfl rfl ⟨_, rfl⟩ rfl (evs (ev_ldB (off := 0) (v := nI a0.1) rfl rfl rfl rfl (nb rfl) rfl (evs (ev_bin (c1 := nI y9) (c2 := nI a0.1) rfl rfl rfl (evn ?_))))))))
            refine ls_keep [(2, .box [nI a0.1, dL c195_d a0.2.1, dL ci64 a0.2.2]), (5, .box [dL c25_d a1.1, dL ci64 a1.2]), (13, nI y9), (78, .bool (decide (y9 < a0.1)))] ⟨kr, kr, kr, kr, trivial⟩ rfl ?_
            rcases cond_some h with ⟨g42, h⟩ | ⟨g42, h⟩
            · refine ls_cT rfl g42 ?_
              refine ls_skip ?_
              refine hK41 _ (ls_keep [(2, .box [nI a0.1, dL c195_d a0.2.1, dL ci64 a0.2.2]), (5, .box [dL c25_d a1.1, dL ci64 a1.2]), (13, nI y9)] ⟨kr, kr, kr, trivial⟩ rfl ?_)
              refine ls_seq_k fun K43 hK43 => ?_
              refine ls_blk ?_
              refine ls_rs tbOk ?_
              refine evs (ev_fa (c1 := .cref 5 0) (v := .cref 5 0) rfl rfl rfl ⟨_, rfl⟩ rfl (evs (ev_ldB (off := 0) (v := dL c25_d a1.1) rfl rfl rfl rfl (nb rfl) rfl (evs (ev_fa (c1 := .cref 5 0) (v := .cref 5 1) rfl rfl rfl ⟨_, rfl⟩ rfl (evs (ev_ldB (off := 1) (v := dL ci64 a1.2) rfl rfl rfl rfl (nb rfl) rfl (evs (ev_mv (c := nI y9) rfl rfl rfl (?_))))))))))
              obtain ⟨v44, g45, h⟩ := ob_some h
              refine evs (ev_call (era rfl (erD ec25_d _) (era rfl (erD eci64 _) (era rfl rfl eran))) (impl_topsOf_s g45) (evs (ev_bin (c1 := nI v44) (c2 := nI 1) rfl rfl rfl (evn ?_))))
              refine ls_keep [(2, .box [nI a0.1, dL c195_d a0.2.1, dL ci64 a0.2.2]), (5, .box [dL c25_d a1.1, dL ci64 a1.2]), (13, nI y9), (87, .bool (v44 != 1))] ⟨kr, kr, kr, kr, trivial⟩ rfl ?_
              rcases cond_some h with ⟨g46, h⟩ | ⟨g46, h⟩
              · refine ls_cT rfl g46 ?_
                refine ls_rs tbOk ?_
                refine evs (ev_ac rfl nofun rfl (evn ?_))
                refine ls_keep [(4, .bool false)] ⟨kr, trivial⟩ rfl ?_
                refine ls_ret ?_
                have q0 := (Option.some.inj h).symm
                have r0 := hr5
                rw [q0] at r0
                have hr := Option.some.inj r0
                rw [← hr]
                exact ⟨.inl rfl, rfl⟩
              · refine ls_cF rfl g46 ?_
                refine ls_skip ?_
                refine hK43 _ (ls_keep [(2, .box [nI a0.1, dL c195_d a0.2.1, dL ci64 a0.2.2]), (5, .box [dL c25_d a1.1, dL ci64 a1.2]), (13, nI y9)] ⟨kr, kr, kr, trivial⟩ rfl ?_)
                refine ls_rgn tbOk ?_
                refine evs (ev_mv (c := nI y9) rfl rfl rfl (evs (ev_bin (c1 := nI y9) (c2 := nI 1) rfl rfl rfl (evs (ev_as (c := nI (IntKind.i64.wrap (y9 + 1))) rfl rfl rfl (evn ?_))))))
                exact hN _ (IntKind.i64.wrap (y9 + 1)) h ⟨kr, kr, kr, trivial⟩
            · refine ls_cF rfl g42 ?_
              refine ls_exit ?_
              have q0 := (Option.some.inj h).symm
              have r0 := hr5
              rw [q0] at r0
              exact kXimpl_IsValidDecomposition_B5 () r0 _ trivial
          refine ls_rec (fun (y4 : Int) => [(2, .box [nI a0.1, dL c195_d a0.2.1, dL ci64 a0.2.2]), (5, .box [dL c25_d a1.1, dL ci64 a1.2]), (46, dL c195_d a0.2.1), (47, nI (List.length a0.2.1 : Int)), (48, nI y4)]) (impl_IsValidDecomposition_B2 a0 a1) fz 0 o2 hl ⟨kr, kr, kr, kr, kr, trivial⟩ (fun _ => rfl) ?_
          rintro m y4 N h hN
          unfold impl_IsValidDecomposition_B2 at h
          refine ls_rs tbOk ?_
          refine evs (ev_bin (c1 := nI y4) (c2 := nI (List.length a0.2.1 : Int)) rfl rfl rfl (evn ?_))
          refine ls_keep [(2, .box [nI a0.1, dL c195_d a0.2.1, dL ci64 a0.2.2]), (5, .box [dL c25_d a1.1, dL ci64 a1.2]), (46, dL c195_d a0.2.1), (47, nI (List.length a0.2.1 : Int)), (48, nI y4), (49, .bool (decide (y4 < (List.length a0.2.1 : Int))))] ⟨kr, kr, kr, kr, kr, kr, trivial⟩ rfl ?_
          refine ls_seq_k fun K19 hK19 => ?_
          rcases cond_some h with ⟨g20, h⟩ | ⟨g20, h⟩
          · refine ls_cT rfl g20 ?_
            refine ls_skip ?_
            refine hK19 _ (ls_keep [(2, .box [nI a0.1, dL c195_d a0.2.1, dL ci64 a0.2.2]), (5, .box [dL c25_d a1.1, dL ci64 a1.2]), (46, dL c195_d a0.2.1), (47, nI (List.length a0.2.1 : Int)), (48, nI y4)] ⟨kr, kr, kr, kr, kr, trivial⟩ rfl ?_)
            refine ls_seq_k fun K21 hK21 => ?_
            refine ls_blk ?_
            refine ls_rs tbOk ?_
            obtain ⟨e22, g23, h⟩ := ob_some h
            refine evs (ev_ia rfl rfl rfl ⟨(geti_some g23).1, (geti_some g23).2.1⟩ (evs (ev_ldEt (i := y4) (n := 2) (off := 0) (v := .agg (c195_d e22)) rfl rfl zc195_d g23 rfl (nb rfl) rfl (evs (ev_al rfl rfl (evs (ev_st (off := 0) (c1 := .agg (c195_d e22)) (cs' := [.str e22.1, dL ci64 e22.2]) rfl rfl rfl rfl rfl rfl (nb rfl) rfl (evn ?_))))))))
            refine ls_keep [(2, .box [nI a0.1, dL c195_d a0.2.1, dL ci64 a0.2.2]), (5, .box [dL c25_d a1.1, dL ci64 a1.2]), (9, .box [.str e22.1, dL ci64 e22.2]), (46, dL c195_d a0.2.1), (47, nI (List.length a0.2.1 : Int)), (48, nI y4)] ⟨kr, kr, kr, kr, kr, kr, trivial⟩ rfl ?_
            refine ls_rs tbOk ?_
            refine evs (ev_ac rfl nofun rfl (evn ?_))
            refine ls_keep [(2, .box [nI a0.1, dL c195_d a0.2.1, dL ci64 a0.2.2]), (5, .box [dL c25_d a1.1, dL ci64 a1.2]), (9, .box [.str e22.1, dL ci64 e22.2]), (10, .bool false), (46, dL c195_d a0.2.1), (47, nI (List.length a0.2.1 : Int)), (48, nI y4)] ⟨kr, kr, kr, kr, kr, kr, kr, trivial⟩ rfl ?_
            refine ls_seq_k fun K24 hK24 => ?_
            refine ls_rs tbOk ?_
            refine evs (ev_fa (c1 := .cref 5 0) (v := .cref 5 0) rfl rfl rfl ⟨_, rfl⟩ rfl (evs (ev_ldB (off := 0) (v := dL c25_d a1.1) rfl rfl rfl rfl (nb rfl) rfl (evs (ev_len (c1 := dL c25_d a1.1) rfl rfl rfl (evs (ev_mc rfl rfl (evn ?_))))))))
            refine ls_keep [(2, .box [nI a0.1, dL c195_d a0.2.1, dL ci64 a0.2.2]), (5, .box [dL c25_d a1.1, dL ci64 a1.2]), (9, .box [.str e22.1, dL ci64 e22.2]), (10, .bool false), (46, dL c195_d a0.2.1), (47, nI (List.length a0.2.1 : Int)), (48, nI y4), (53, dL c25_d a1.1), (54, nI (List.length a1.1 : Int)), (55, nI 0)] ⟨kr, kr, kr, kr, kr, kr, kr, kr, kr, kr, trivial⟩ rfl ?_
            obtain ⟨o3, hl, hr3⟩ := ob_some h
            clear h
            have kXimpl_IsValidDecomposition_B3 : ∀ (z25 : Bool), (cond (!z25) (some (.inr false)) ((loopF (impl_IsValidDecomposition_B2 a0 a1) m) (IntKind.i64.wrap (y4 + 1)))) = some o2 → ∀ σ' : PS, okK σ' [(2, .box [nI a0.1, dL c195_d a0.2.1, dL ci64 a0.2.2]), (5, .box [dL c25_d a1.1, dL ci64 a1.2]), (10, .bool z25), (46, dL c195_d a0.2.1), (47, nI (List.length a0.2.1 : Int)), (48, nI y4)] → K24 σ' := by
              intro z25 h σ' hk
              refine hK24 _ (ls_keep [(2, .box [nI a0.1, dL c195_d a0.2.1, dL ci64 a0.2.2]), (5, .box [dL c25_d a1.1, dL ci64 a1.2]), (10, .bool z25), (46, dL c195_d a0.2.1), (47, nI (List.length a0.2.1 : Int)), (48, nI y4)] hk rfl ?_)
              refine ls_rs tbOk ?_
              refine evs (ev_mv (c := .bool z25) rfl rfl rfl (evs (ev_un (c1 := .bool z25) rfl trivial (evn ?_))))
              refine ls_keep [(2, .box [nI a0.1, dL c195_d a0.2.1, dL ci64 a0.2.2]), (5, .box [dL c25_d a1.1, dL ci64 a1.2]), (46, dL c195_d a0.2.1), (47, nI (List.length a0.2.1 : Int)), (48, nI y4), (73, .bool (!z25))] ⟨kr, kr, kr, kr, kr, kr, trivial⟩ rfl ?_
              rcases cond_some h with ⟨g39, h⟩ | ⟨g39, h⟩
              · refine ls_cT rfl g39 ?_
                refine ls_rs tbOk ?_
                refine evs (ev_ac rfl nofun rfl (evn ?_))
                refine ls_keep [(4, .bool false)] ⟨kr, trivial⟩ rfl ?_
                refine ls_ret ?_
                have q0 := (Option.some.inj h).symm
                have r0 := hr2
                rw [q0] at r0
                have hr := Option.some.inj r0
                rw [← hr]
                exact ⟨.inl rfl, rfl⟩
              · refine ls_cF rfl g39 ?_
                refine ls_skip ?_
                refine hK21 _ (ls_keep [(2, .box [nI a0.1, dL c195_d a0.2.1, dL ci64 a0.2.2]), (5, .box [dL c25_d a1.1, dL ci64 a1.2]), (46, dL c195_d a0.2.1), (47, nI (List.length a0.2.1 : Int)), (48, nI y4)] ⟨kr, kr, kr, kr, kr, trivial⟩ rfl ?_)
                refine ls_rgn tbOk ?_
                refine evs (ev_bin (c1 := nI y4) (c2 := nI 1) rfl rfl rfl (evs (ev_mv (c := nI (IntKind.i64.wrap (y4 + 1))) rfl rfl rfl (evn ?_))))
                exact hN _ (IntKind.i64.wrap (y4 + 1)) h ⟨kr, kr, kr, kr, kr, trivial⟩
            refine ls_rec (fun (s : Bool × Int) => match s with | (y7, y8) => [(2, .box [nI a0.1, dL c195_d a0.2.1, dL ci64 a0.2.2]), (5, .box [dL c25_d a1.1, dL ci64 a1.2]), (9, .box [.str e22.1, dL ci64 e22.2]), (10, .bool y7), (46, dL c195_d a0.2.1), (47, nI (List.length a0.2.1 : Int)), (48, nI y4), (53, dL c25_d a1.1), (54, nI (List.length a1.1 : Int)), (55, nI y8)]) (impl_IsValidDecomposition_B3 a1 e22) fz (false, 0) o3 hl ⟨kr, kr, kr, kr, kr, kr, kr, kr, kr, kr, trivial⟩ (fun _ => rfl) ?_
            rintro m ⟨y7, y8⟩ N h hN
            unfold impl_IsValidDecomposition_B3 at h
            dsimp only at h
            refine ls_rs tbOk ?_
            refine evs (ev_bin (c1 := nI y8) (c2 := nI (List.length a1.1 : Int)) rfl rfl rfl (evn ?_))
            refine ls_keep [(2, .box [nI a0.1, dL c195_d a0.2.1, dL ci64 a0.2.2]), (5, .box [dL c25_d a1.1, dL ci64 a1.2]), (9, .box [.str e22.1, dL ci64 e22.2]), (10, .bool y7), (46, dL c195_d a0.2.1), (47, nI (List.length a0.2.1 : Int)), (48, nI y4), (53, dL c25_d a1.1), (54, nI (List.length a1.1 : Int)), (55, nI y8), (56, .bool (decide (y8 < (List.length a1.1 : Int))))] ⟨kr, kr, kr, kr, kr, kr, kr, kr, kr, kr, kr, trivial⟩ rfl ?_
            refine ls_seq_k fun K26 hK26 => ?_
            rcases cond_some h with ⟨g27, h⟩ | ⟨g27, h⟩
            · refine ls_cT rfl g27 ?_
              refine ls_skip ?_
              refine hK26 _ (ls_keep [(2, .box [nI a0.1, dL c195_d a0.2.1, dL ci64 a0.2.2]), (5, .box [dL c25_d a1.1, dL ci64 a1.2]), (9, .box [.str e22.1, dL ci64 e22.2]), (10, .bool y7), (46, dL c195_d a0.2.1), (47, nI (List.length a0.2.1 : Int)), (48, nI y4), (53, dL c25_d a1.1), (54, nI (List.length a1.1 : Int)), (55, nI y8)] ⟨kr, kr, kr, kr, kr, kr, kr, kr, kr, kr, trivial⟩ rfl ?_)
              refine ls_seq_k fun K28 hK28 => ?_
              refine ls_blk ?_
              refine ls_rs tbOk ?_
              obtain ⟨e29, g30, h⟩ := ob_some h
              refine evs (ev_ia rfl rfl rfl ⟨(geti_some g30).1, (geti_some g30).2.1⟩ (evs (ev_ldEt (i := y8) (n := 1) (off := 0) (v := dL ci64 e29) rfl rfl zc25_d g30 rfl (nb rfl) rfl (evs (ev_as (c := dL ci64 e29) rfl rfl rfl (evn ?_))))))
              refine ls_keep [(2, .box [nI a0.1, dL c195_d a0.2.1, dL ci64 a0.2.2]), (5, .box [dL c25_d a1.1, dL ci64 a1.2]), (9, .box [.str e22.1, dL ci64 e22.2]), (10, .bool y7), (12, dL ci64 e29), (46, dL c195_d a0.2.1), (47, nI (List.length a0.2.1 : Int)), (48, nI y4), (53, dL c25_d a1.1), (54, nI (List.length a1.1 : Int)), (55, nI y8)] ⟨kr, kr, kr, kr, kr, kr, kr, kr, kr, kr, kr, trivial⟩ rfl ?_
              have kimpl_IsValidDecomposition_J4 : ∀ (x31 : Bool), impl_IsValidDecomposition_J4 (loopF (impl_IsValidDecomposition_B3 a1 e22) m) y8 x31 = some o3 → ∀ σ' : PS, okK σ' [(2, .box [nI a0.1, dL c195_d a0.2.1, dL ci64 a0.2.2]), (5, .box [dL c25_d a1.1, dL ci64 a1.2]), (9, .box [.str e22.1, dL ci64 e22.2]), (10, .bool x31), (46, dL c195_d a0.2.1), (47, nI (List.length a0.2.1 : Int)), (48, nI y4), (53, dL c25_d a1.1), (54, nI (List.length a1.1 : Int)), (55, nI y8)] → K28 σ' := by
                intro x31 h σ' hk
                unfold impl_IsValidDecomposition_J4 at h
                refine hK28 _ (ls_keep [(2, .box [nI a0.1, dL c195_d a0.2.1, dL ci64 a0.2.2]), (5, .box [dL c25_d a1.1, dL ci64 a1.2]), (9, .box [.str e22.1, dL ci64 e22.2]), (10, .bool x31), (46, dL c195_d a0.2.1), (47, nI (List.length a0.2.1 : Int)), (48, nI y4), (53, dL c25_d a1.1), (54, nI (List.length a1.1 : Int)), (55, nI y8)] hk rfl ?_)
                refine ls_rgn tbOk ?_
                refine evs (ev_bin (c1 := nI y8) (c2 := nI 1) rfl rfl rfl (evs (ev_mv (c := nI (IntKind.i64.wrap (y8 + 1))) rfl rfl rfl (evn ?_))))
                exact hN _ (x31, (IntKind.i64.wrap (y8 + 1))) h ⟨kr, kr, kr, kr, kr, kr, kr, kr, kr, kr, trivial⟩
              refine ls_drw tbOk mixed (by kernel_rfl) ?_
              refine evd rfl rfl (ev_mv (c := .bool y7) rfl rfl rfl (evd rfl rfl (ev_mv (c := .bool y7) rfl rfl rfl (?_))))
              rcases cond_some h with ⟨g32, h⟩ | ⟨g32, h⟩
              · refine evd rfl rfl (ev_gs rfl rfl (isb_T g32) (evd rfl rfl (ev_gs rfl rfl (isb_T g32) (evd rfl rfl (ev_gs rfl rfl (isb_T g32) (evd rfl rfl (ev_gs rfl rfl (isb_T g32) (evd rfl rfl (ev_gs rfl rfl (isb_T g32) (evd rfl rfl (ev_gs rfl rfl (isb_T g32) (evd rfl rfl (ev_gs rfl rfl (isb_T g32) (evd rfl rfl (ev_gs rfl rfl (isb_T g32) (evd rfl rfl (ev_gs rfl rfl (isb_T g32) (evd rfl rfl (ev_pkT (c1 := .bool true) rfl g32 rfl rfl (evd rfl rfl (ev_as (c := .bool true) rfl rfl rfl (evdn ?_))))))))))))))))))))))
                exact kimpl_IsValidDecomposition_J4 true h _ ⟨kr, kr, kr, kr, kr, kr, kr, kr, kr, kr, trivial⟩
              · refine evd rfl rfl (ev_gr rfl (congrArg V.bool g32) (ev_ldB (off := 0) (v := .agg (c195_d e22)) rfl rfl rfl rfl (nb rfl) rfl (?_)))
                obtain ⟨v33, g34, h⟩ := ob_some h
                refine evd rfl rfl (ev_gr rfl (congrArg V.bool g32) (ev_call (era rfl (erg (erc rfl (erc (erD eci64 _) rfl))) eran) (impl_AtomVariables_s g34) (evd rfl rfl (ev_gr rfl (congrArg V.bool g32) (ev_mv (c := dL ci64 e29) rfl rfl rfl (?_))))))
                obtain ⟨v35, g36, h⟩ := ob_some h
                refine evd rfl rfl (ev_gr rfl (congrArg V.bool g32) (ev_call (era rfl (erO eci64 _) (era rfl (erD eci64 _) eran)) (impl_common_s g36) (evd rfl rfl (ev_gr rfl (congrArg V.bool g32) (ev_len (c1 := oL 3 ci64 v35) rfl rfl rfl (evd rfl rfl (ev_gr rfl (congrArg V.bool g32) (ev_ldB (off := 0) (v := .agg (c195_d e22)) rfl rfl rfl rfl (nb rfl) rfl (?_)))))))))
                obtain ⟨v37, g38, h⟩ := ob_some h
                refine evd rfl rfl (ev_gr rfl (congrArg V.bool g32) (ev_call (era rfl (erg (erc rfl (erc (erD eci64 _) rfl))) eran) (impl_AtomVariables_s g38) (evd rfl rfl (ev_gr rfl (congrArg V.bool g32) (ev_len (c1 := oL 3 ci64 v37) rfl rfl rfl (evd rfl rfl (ev_gr rfl (congrArg V.bool g32) (ev_bin (c1 := nI (List.length v35 : Int)) (c2 := nI (List.length v37 : Int)) rfl rfl rfl (evd rfl rfl (ev_pkF (c1 := .bool ((List.length v35 : Int) == (List.length v37 : Int))) rfl g32 rfl rfl (evd rfl rfl (ev_as (c := .bool ((List.length v35 : Int) == (List.length v37 : Int))) rfl rfl rfl (evdn ?_)))))))))))))
                exact kimpl_IsValidDecomposition_J4 ((List.length v35 : Int) == (List.length v37 : Int)) h _ ⟨kr, kr, kr, kr, kr, kr, kr, kr, kr, kr, trivial⟩
            · refine ls_cF rfl g27 ?_
              refine ls_exit ?_
              have q0 := (Option.some.inj h).symm
              have r0 := hr3
              rw [q0] at r0
              exact kXimpl_IsValidDecomposition_B3 y7 r0 _ ⟨kr, kr, kr, kr, kr, kr, trivial⟩
          · refine ls_cF rfl g20 ?_
            refine ls_exit ?_
            have q0 := (Option.some.inj h).symm
            have r0 := hr2
            rw [q0] at r0
            exact kXimpl_IsValidDecomposition_B2 () r0 _ ⟨kr, kr, trivial⟩
        refine ls_rec (fun (y1 : Int) => [(2, .box [nI a0.1, dL c195_d a0.2.1, dL ci64 a0.2.2]), (5, .box [dL c25_d a1.1, dL ci64 a1.2]), (34, dL c25_d a1.1), (35, nI (List.length a1.1 : Int)), (36, nI y1)]) (impl_IsValidDecomposition_B1 a0 a1) fz 0 o1 hl ⟨kr, kr, kr, kr, kr, trivial⟩ (fun _ => rfl) ?_
        rintro m y1 N h hN
        unfold impl_IsValidDecomposition_B1 at h
        refine ls_rs tbOk ?_
        refine evs (ev_bin (c1 := nI y1) (c2 := nI (List.length a1.1 : Int)) rfl rfl rfl (evn ?_))
        refine ls_keep [(2, .box [nI a0.1, dL c195_d a0.2.1, dL ci64 a0.2.2]), (5, .box [dL c25_d a1.1, dL ci64 a1.2]), (34, dL c25_d a1.1), (35, nI (List.length a1.1 : Int)), (36, nI y1), (37, .bool (decide (y1 < (List.length a1.1 : Int))))] ⟨kr, kr, kr, kr, kr, kr, trivial⟩ rfl ?_
        refine ls_seq_k fun K10 hK10 => ?_
        rcases cond_some h with ⟨g11, h⟩ | ⟨g11, h⟩
        · refine ls_cT rfl g11 ?_
          refine ls_skip ?_
          refine hK10 _ (ls_keep [(2, .box [nI a0.1, dL c195_d a0.2.1, dL ci64 a0.2.2]), (5, .box [dL c25_d a1.1, dL ci64 a1.2]), (34, dL c25_d a1.1), (35, nI (List.length a1.1 : Int)), (36, nI y1)] ⟨kr, kr, kr, kr, kr, trivial⟩ rfl ?_)
          refine ls_seq_k fun K12 hK12 => ?_
          refine ls_blk ?_
          refine ls_rs tbOk ?_
          obtain ⟨e13, g14, h⟩ := ob_some h
          refine evs (ev_ia rfl rfl rfl ⟨(geti_some g14).1, (geti_some g14).2.1⟩ (evs (ev_ldEt (i := y1) (n := 1) (off := 0) (v := dL ci64 e13) rfl rfl zc25_d g14 rfl (nb rfl) rfl (evs (ev_as (c := dL ci64 e13) rfl rfl rfl (evn ?_))))))
          refine ls_keep [(2, .box [nI a0.1, dL c195_d a0.2.1, dL ci64 a0.2.2]), (5, .box [dL c25_d a1.1, dL ci64 a1.2]), (7, dL ci64 e13), (34, dL c25_d a1.1), (35, nI (List.length a1.1 : Int)), (36, nI y1)] ⟨kr, kr, kr, kr, kr, kr, trivial⟩ rfl ?_
          refine ls_rs tbOk ?_
          refine evs (ev_ldB (off := 0) (v := .agg (c92_ddd a0)) rfl rfl rfl rfl (nb rfl) rfl (evs (ev_mv (c := dL ci64 e13) rfl rfl rfl (?_))))
          obtain ⟨v15, g16, h⟩ := ob_some h
          refine evs (ev_call (era rfl (erg (erc rfl (erc (erD ec195_d _) (erc (erD eci64 _) rfl)))) (era rfl (erD eci64 _) eran)) (impl_isBag_s g16) (evs (ev_un (c1 := .bool v15) rfl trivial (evn ?_))))
          refine ls_keep [(2, .box [nI a0.1, dL c195_d a0.2.1, dL ci64 a0.2.2]), (5, .box [dL c25_d a1.1, dL ci64 a1.2]), (34, dL c25_d a1.1), (35, nI (List.length a1.1 : Int)), (36, nI y1), (43, .bool (!v15))] ⟨kr, kr, kr, kr, kr, kr, trivial⟩ rfl ?_
          rcases cond_some h with ⟨g17, h⟩ | ⟨g17, h⟩
          · refine ls_cT rfl g17 ?_
            refine ls_rs tbOk ?_
            refine evs (ev_ac rfl nofun rfl (evn ?_))
            refine ls_keep [(4, .bool false)] ⟨kr, trivial⟩ rfl ?_
            refine ls_ret ?_
            have q0 := (Option.some.inj h).symm
            have r0 := hr1
            rw [q0] at r0
            have hr := Option.some.inj r0
            rw [← hr]
            exact ⟨.inl rfl, rfl⟩
          · refine ls_cF rfl g17 ?_
            refine ls_skip ?_
            refine hK12 _ (ls_keep [(2, .box [nI a0.1, dL c195_d a0.2.1, dL ci64 a0.2.2]), (5, .box [dL c25_d a1.1, dL ci64 a1.2]), (34, dL c25_d a1.1), (35, nI (List.length a1.1 : Int)), (36, nI y1)] ⟨kr, kr, kr, kr, kr, trivial⟩ rfl ?_)
            refine ls_rgn tbOk ?_
            refine evs (ev_bin (c1 := nI y1) (c2 := nI 1) rfl rfl rfl (evs (ev_mv (c := nI (IntKind.i64.wrap (y1 + 1))) rfl rfl rfl (evn ?_))))
            exact hN _ (IntKind.i64.wrap (y1 + 1)) h ⟨kr, kr, kr, kr, kr, trivial⟩
        · refine ls_cF rfl g11 ?_
          refine ls_exit ?_
          have q0 := (Option.some.inj h).symm
          have r0 := hr1
          rw [q0] at r0
          exact kXimpl_IsValidDecomposition_B1 () r0 _ ⟨kr, kr, trivial⟩
def impl_IsValidOrder_J1 (x2 : Bool) : Option (Bool) := some x2
def impl_IsValidOrder (a0 : Y91) (a1 : List Int) : Option (Bool) := obind (impl_IsValidQuery a0) fun v3 => cond v3 (cond ((List.length a1 : Int) == a0.1) (obind (impl_isSetOf a1 a0.1) fun v7 => impl_IsValidOrder_J1 v7) (impl_IsValidOrder_J1 false)) (impl_IsValidOrder_J1 false)
theorem impl_IsValidOrder_s {a0 : Y91} {a1 : List Int} {r : Bool} (h : impl_IsValidOrder a0 a1 = some r) : SoundAt Try.prog 131 [.agg (c92_ddd a0), dL ci64 a1] (.bool r) := by
  unfold impl_IsValidOrder at h
  refine sound_lit tbOk lit131 (nb rfl) rfl ?_
  unfold c131
  refine ls_keep [(0, .agg (c92_ddd a0)), (1, dL ci64 a1)] ⟨kr, kr, trivial⟩ rfl ?_
  refine ls_rs tbOk ?_
  refine evs (ev_bx (c1 := .agg (c92_ddd a0)) rfl rfl rfl (evs (ev_ac rfl nofun rfl (evn ?_))))
  refine ls_keep [(1, dL ci64 a1), (2, .box [nI a0.1, dL c195_d a0.2.1, dL ci64 a0.2.2])] ⟨kr, kr, trivial⟩ rfl ?_
  refine ls_rs_k tbOk fun K1 hK1 => ?_
  have kimpl_IsValidOrder_J1 : ∀ (x2 : Bool), impl_IsValidOrder_J1 x2 = some r → ∀ σ' : PS, okK σ' [(4, .bool x2)] → K1 σ' := by
    intro x2 h σ' hk
    unfold impl_IsValidOrder_J1 at h
    refine hK1 _ (ls_keep [(4, .bool x2)] hk rfl ?_)
    refine ls_ret ?_
    have hr := Option.some.inj h
    rw [← hr]
    exact ⟨.inl rfl, rfl⟩
  refine evs (ev_ldB (off := 0) (v := .agg (c92_ddd a0)) rfl rfl rfl rfl (nb rfl) rfl (?_))
  obtain ⟨v3, g4, h⟩ := ob_some h
  refine evs (ev_call (era rfl (erg (erc rfl (erc (erD ec195_d _) (erc (erD eci64 _) rfl)))) eran) (impl_IsValidQuery_s g4) (evs (ev_mv (c := .bool v3) rfl rfl rfl (?_))))
  rcases cond_some h with ⟨g5, h⟩ | ⟨g5, h⟩
  · refine evs (ev_gr rfl (congrArg V.bool g5) (ev_mv (c := dL ci64 a1) rfl rfl rfl (evs (ev_gr rfl (congrArg V.bool g5) (ev_len (c1 := dL ci64 a1) rfl rfl rfl (evs (ev_gr rfl (congrArg V.bool g5) (ev_fa (c1 := .cref 2 0) (v := .cref 2 0) rfl rfl rfl ⟨_, rfl⟩ rfl (evs (ev_gr rfl (congrArg V.bool g5) (ev_ldB (off := 0) (v := nI a0.1) rfl rfl rfl rfl (nb rfl) rfl (evs (ev_gr rfl (congrArg V.bool g5) (ev_bin (c1 := nI (List.length a1 : Int)) (c2 := nI a0.1) rfl rfl rfl (evs (ev_pkT (c1 := .bool ((List.length a1 : Int) == a0.1)) rfl g5 rfl rfl (evs (ev_mv (c := .bool ((List.length a1 : Int) == a0.1)) rfl rfl rfl (?_)))))))))))))))))))
    rcases cond_some h with ⟨g6, h⟩ | ⟨g6, h⟩
    · refine evs (ev_gr rfl (congrArg V.bool g6) (ev_mv (c := dL ci64 a1) rfl rfl rfl (evs (ev_gr rfl (congrArg V.bool g6) (ev_fa (c1 := .cref 2 0) (v := .cref 2 0) rfl rfl rfl ⟨_, rfl⟩ rfl (evs (ev_gr rfl (congrArg V.bool g6) (ev_ldB (off := 0) (v := nI a0.1) rfl rfl rfl rfl (nb rfl) rfl (?_)))))))))
      obtain ⟨v7, g8, h⟩ := ob_some h
      refine evs (ev_gr rfl (congrArg V.bool g6) (ev_call (era rfl (erD eci64 _) (era rfl rfl eran)) (impl_isSetOf_s g8) (evs (ev_pkT (c1 := .bool v7) rfl g6 rfl rfl (evs (ev_as (c := .bool v7) rfl rfl rfl (evn ?_)))))))
      exact kimpl_IsValidOrder_J1 v7 h _ ⟨kr, trivial⟩
    · refine evs (ev_gs rfl rfl (isb_F g6) (evs (ev_gs rfl rfl (isb_F g6) (evs (ev_gs rfl rfl (isb_F g6) (evs (ev_gs rfl rfl (isb_F g6) (evs (ev_pkF (c1 := .bool false) rfl g6 rfl rfl (evs (ev_as (c := .bool false) rfl rfl rfl (evn ?_))))))))))))
      exact kimpl_IsValidOrder_J1 false h _ ⟨kr, trivial⟩
  · refine evs (ev_gs rfl rfl (isb_F g5) (evs (ev_gs rfl rfl (isb_F g5) (evs (ev_gs rfl rfl (isb_F g5) (evs (ev_gs rfl rfl (isb_F g5) (evs (ev_gs rfl rfl (isb_F g5) (evs (ev_pkF (c1 := .bool false) rfl g5 rfl rfl (evs (ev_mv (c := .bool false) rfl rfl rfl (evs (ev_gs rfl rfl rfl (evs (ev_gs rfl rfl rfl (evs (ev_gs rfl rfl rfl (evs (ev_gs rfl rfl rfl (evs (ev_pkF (c1 := .bool false) rfl rfl rfl rfl (evs (ev_as (c := .bool false) rfl rfl rfl (evn ?_))))))))))))))))))))))))))
    exact kimpl_IsValidOrder_J1 false h _ ⟨kr, trivial⟩
def impl_IsValidPlan (a0 : Y91) (a1 : Y96) : Option (Bool) := cond (a1.1 == 1) (obind (impl_IsValidJoinTree a0 a1.2.2.1) fun v3 => some v3) (cond (a1.1 == 2) (obind (impl_IsValidDecomposition a0 a1.2.2.2) fun v6 => some v6) (cond (a1.1 == 3) (obind (impl_IsValidOrder a0 a1.2.1) fun v9 => some v9) (some false)))
theorem impl_IsValidPlan_s {a0 : Y91} {a1 : Y96} {r : Bool} (h : impl_IsValidPlan a0 a1 = some r) : SoundAt Try.prog 48 [.agg (c92_ddd a0), .agg (c97_ddddd a1)] (.bool r) := by
  unfold impl_IsValidPlan at h
  refine sound_lit tbOk lit48 (nb rfl) rfl ?_
  unfold c48
  refine ls_keep [(0, .agg (c92_ddd a0)), (1, .agg (c97_ddddd a1))] ⟨kr, kr, trivial⟩ rfl ?_
  refine ls_rs tbOk ?_
  refine evs (ev_bx (c1 := .agg (c92_ddd a0)) rfl rfl rfl (evs (ev_bx (c1 := .agg (c97_ddddd a1)) rfl rfl rfl (evs (ev_ac rfl nofun rfl (evn ?_))))))
  refine ls_keep [(2, .box [nI a0.1, dL c195_d a0.2.1, dL ci64 a0.2.2]), (3, .box [nI a1.1, dL ci64 a1.2.1, dL ci64 a1.2.2.1, dL c25_d a1.2.2.2.1, dL ci64 a1.2.2.2.2])] ⟨kr, kr, trivial⟩ rfl ?_
  refine ls_seq_k fun K1 hK1 => ?_
  refine ls_rs tbOk ?_
  refine evs (ev_fa (c1 := .cref 3 0) (v := .cref 3 0) rfl rfl rfl ⟨_, rfl⟩ rfl (evs (ev_ldB (off := 0) (v := nI a1.1) rfl rfl rfl rfl (nb rfl) rfl (evn ?_))))
  refine ls_keep [(2, .box [nI a0.1, dL c195_d a0.2.1, dL ci64 a0.2.2]), (3, .box [nI a1.1, dL ci64 a1.2.1, dL ci64 a1.2.2.1, dL c25_d a1.2.2.2.1, dL ci64 a1.2.2.2.2]), (6, nI a1.1)] ⟨kr, kr, kr, trivial⟩ rfl ?_
  refine ls_blk ?_
  refine ls_rs tbOk ?_
  refine evs (ev_bin (c1 := nI a1.1) (c2 := nI 1) rfl rfl rfl (evs (ev_as (c := .bool (a1.1 == 1)) rfl rfl rfl (evn ?_))))
  refine ls_keep [(2, .box [nI a0.1, dL c195_d a0.2.1, dL ci64 a0.2.2]), (3, .box [nI a1.1, dL ci64 a1.2.1, dL ci64 a1.2.2.1, dL c25_d a1.2.2.2.1, dL ci64 a1.2.2.2.2]), (6, nI a1.1), (7, .bool (a1.1 == 1))] ⟨kr, kr, kr, kr, trivial⟩ rfl ?_
  rcases cond_some h with ⟨g2, h⟩ | ⟨g2, h⟩
  · refine ls_cT rfl g2 ?_
    refine ls_rs tbOk ?_
    refine evs (ev_ldB (off := 0) (v := .agg (c92_ddd a0)) rfl rfl rfl rfl (nb rfl) rfl (evs (ev_fa (c1 := .cref 3 0) (v := .cref 3 2) rfl rfl rfl ⟨_, rfl⟩ rfl (evs (ev_ldB (off := 2) (v := .agg [dL ci64 a1.2.2.1]) rfl rfl rfl rfl (nb rfl) rfl (?_))))))
    obtain ⟨v3, g4, h⟩ := ob_some h
    refine evs (ev_call (era rfl (erg (erc rfl (erc (erD ec195_d _) (erc (erD eci64 _) rfl)))) (era rfl (erg (erc (erD eci64 _) rfl)) eran)) (impl_IsValidJoinTree_s g4) (evs (ev_as (c := .bool v3) rfl rfl rfl (evn ?_))))
    refine ls_keep [(4, .bool v3)] ⟨kr, trivial⟩ rfl ?_
    refine ls_ret ?_
    have hr := Option.some.inj h
    rw [← hr]
    exact ⟨.inl rfl, rfl⟩
  · refine ls_cF rfl g2 ?_
    refine ls_rs tbOk ?_
    refine evs (ev_bin (c1 := nI a1.1) (c2 := nI 2) rfl rfl rfl (evs (ev_as (c := .bool (a1.1 == 2)) rfl rfl rfl (evn ?_))))
    refine ls_keep [(2, .box [nI a0.1, dL c195_d a0.2.1, dL ci64 a0.2.2]), (3, .box [nI a1.1, dL ci64 a1.2.1, dL ci64 a1.2.2.1, dL c25_d a1.2.2.2.1, dL ci64 a1.2.2.2.2]), (6, nI a1.1), (13, .bool (a1.1 == 2))] ⟨kr, kr, kr, kr, trivial⟩ rfl ?_
    rcases cond_some h with ⟨g5, h⟩ | ⟨g5, h⟩
    · refine ls_cT rfl g5 ?_
      refine ls_rs tbOk ?_
      refine evs (ev_ldB (off := 0) (v := .agg (c92_ddd a0)) rfl rfl rfl rfl (nb rfl) rfl (evs (ev_fa (c1 := .cref 3 0) (v := .cref 3 3) rfl rfl rfl ⟨_, rfl⟩ rfl (evs (ev_ldB (off := 3) (v := .agg (c95_ddd a1.2.2.2)) rfl rfl rfl rfl (nb rfl) rfl (?_))))))
      obtain ⟨v6, g7, h⟩ := ob_some h
      refine evs (ev_call (era rfl (erg (erc rfl (erc (erD ec195_d _) (erc (erD eci64 _) rfl)))) (era rfl (erg (erc (erD ec25_d _) (erc (erD eci64 _) rfl))) eran)) (impl_IsValidDecomposition_s g7) (evs (ev_as (c := .bool v6) rfl rfl rfl (evn ?_))))
      refine ls_keep [(4, .bool v6)] ⟨kr, trivial⟩ rfl ?_
      refine ls_ret ?_
      have hr := Option.some.inj h
      rw [← hr]
      exact ⟨.inl rfl, rfl⟩
    · refine ls_cF rfl g5 ?_
      refine ls_rs tbOk ?_
      refine evs (ev_bin (c1 := nI a1.1) (c2 := nI 3) rfl rfl rfl (evs (ev_as (c := .bool (a1.1 == 3)) rfl rfl rfl (evn ?_))))
      refine ls_keep [(2, .box [nI a0.1, dL c195_d a0.2.1, dL ci64 a0.2.2]), (3, .box [nI a1.1, dL ci64 a1.2.1, dL ci64 a1.2.2.1, dL c25_d a1.2.2.2.1, dL ci64 a1.2.2.2.2]), (19, .bool (a1.1 == 3))] ⟨kr, kr, kr, trivial⟩ rfl ?_
      rcases cond_some h with ⟨g8, h⟩ | ⟨g8, h⟩
      · refine ls_cT rfl g8 ?_
        refine ls_rs tbOk ?_
        refine evs (ev_ldB (off := 0) (v := .agg (c92_ddd a0)) rfl rfl rfl rfl (nb rfl) rfl (evs (ev_fa (c1 := .cref 3 0) (v := .cref 3 1) rfl rfl rfl ⟨_, rfl⟩ rfl (evs (ev_ldB (off := 1) (v := dL ci64 a1.2.1) rfl rfl rfl rfl (nb rfl) rfl (?_))))))
        obtain ⟨v9, g10, h⟩ := ob_some h
        refine evs (ev_call (era rfl (erg (erc rfl (erc (erD ec195_d _) (erc (erD eci64 _) rfl)))) (era rfl (erD eci64 _) eran)) (impl_IsValidOrder_s g10) (evs (ev_as (c := .bool v9) rfl rfl rfl (evn ?_))))
        refine ls_keep [(4, .bool v9)] ⟨kr, trivial⟩ rfl ?_
        refine ls_ret ?_
        have hr := Option.some.inj h
        rw [← hr]
        exact ⟨.inl rfl, rfl⟩
      · refine ls_cF rfl g8 ?_
        refine ls_skip ?_
        refine hK1 _ (ls_keep [] trivial rfl ?_)
        refine ls_rs tbOk ?_
        refine evs (ev_ac rfl nofun rfl (evn ?_))
        refine ls_keep [(4, .bool false)] ⟨kr, trivial⟩ rfl ?_
        refine ls_ret ?_
        have hr := Option.some.inj h
        rw [← hr]
        exact ⟨.inl rfl, rfl⟩
def impl_FormatPlanKind (a0 : Int) : Option ((List UInt8)) := cond (a0 == 1) (some [116, 114, 101, 101]) (cond (a0 == 2) (some [98, 97, 103, 115]) (cond (a0 == 3) (some [108, 101, 97, 112]) (some [])))
theorem impl_FormatPlanKind_s {a0 : Int} {r : (List UInt8)} (h : impl_FormatPlanKind a0 = some r) : SoundAt Try.prog 144 [nI a0] (.str r) := by
  unfold impl_FormatPlanKind at h
  refine sound_lit tbOk lit144 (nb rfl) rfl ?_
  unfold c144
  refine ls_keep [(0, nI a0)] ⟨kr, trivial⟩ rfl ?_
  refine ls_rs tbOk ?_
  refine evs (ev_ac rfl nofun rfl (evn ?_))
  refine ls_keep [(0, nI a0)] ⟨kr, trivial⟩ rfl ?_
  refine ls_seq_k fun K1 hK1 => ?_
  refine ls_rs tbOk ?_
  refine evs (ev_mv (c := nI a0) rfl rfl rfl (evn ?_))
  refine ls_keep [(3, nI a0)] ⟨kr, trivial⟩ rfl ?_
  refine ls_blk ?_
  refine ls_rs tbOk ?_
  refine evs (ev_bin (c1 := nI a0) (c2 := nI 1) rfl rfl rfl (evs (ev_as (c := .bool (a0 == 1)) rfl rfl rfl (evn ?_))))
  refine ls_keep [(3, nI a0), (4, .bool (a0 == 1))] ⟨kr, kr, trivial⟩ rfl ?_
  rcases cond_some h with ⟨g2, h⟩ | ⟨g2, h⟩
  · refine ls_cT rfl g2 ?_
    refine ls_rs tbOk ?_
    refine evs (ev_ac rfl nofun rfl (evn ?_))
    refine ls_keep [(2, .str [116, 114, 101, 101])] ⟨kr, trivial⟩ rfl ?_
    refine ls_ret ?_
    have hr := Option.some.inj h
    rw [← hr]
    exact ⟨.inl rfl, rfl⟩
  · refine ls_cF rfl g2 ?_
    refine ls_rs tbOk ?_
    refine evs (ev_bin (c1 := nI a0) (c2 := nI 2) rfl rfl rfl (evs (ev_as (c := .bool (a0 == 2)) rfl rfl rfl (evn ?_))))
    refine ls_keep [(3, nI a0), (6, .bool (a0 == 2))] ⟨kr, kr, trivial⟩ rfl ?_
    rcases cond_some h with ⟨g3, h⟩ | ⟨g3, h⟩
    · refine ls_cT rfl g3 ?_
      refine ls_rs tbOk ?_
      refine evs (ev_ac rfl nofun rfl (evn ?_))
      refine ls_keep [(2, .str [98, 97, 103, 115])] ⟨kr, trivial⟩ rfl ?_
      refine ls_ret ?_
      have hr := Option.some.inj h
      rw [← hr]
      exact ⟨.inl rfl, rfl⟩
    · refine ls_cF rfl g3 ?_
      refine ls_rs tbOk ?_
      refine evs (ev_bin (c1 := nI a0) (c2 := nI 3) rfl rfl rfl (evs (ev_as (c := .bool (a0 == 3)) rfl rfl rfl (evn ?_))))
      refine ls_keep [(8, .bool (a0 == 3))] ⟨kr, trivial⟩ rfl ?_
      rcases cond_some h with ⟨g4, h⟩ | ⟨g4, h⟩
      · refine ls_cT rfl g4 ?_
        refine ls_rs tbOk ?_
        refine evs (ev_ac rfl nofun rfl (evn ?_))
        refine ls_keep [(2, .str [108, 101, 97, 112])] ⟨kr, trivial⟩ rfl ?_
        refine ls_ret ?_
        have hr := Option.some.inj h
        rw [← hr]
        exact ⟨.inl rfl, rfl⟩
      · refine ls_cF rfl g4 ?_
        refine ls_skip ?_
        refine hK1 _ (ls_keep [] trivial rfl ?_)
        refine ls_rs tbOk ?_
        refine evs (ev_ac rfl nofun rfl (evn ?_))
        refine ls_keep [(2, .str [])] ⟨kr, trivial⟩ rfl ?_
        refine ls_ret ?_
        have hr := Option.some.inj h
        rw [← hr]
        exact ⟨.inl rfl, rfl⟩
def impl_FormatInt_J2 (rec : (Int × (List Int)) → Option ((List Int))) (y1 : Int) (y2 : List Int) (x4 : Int) : Option ((List Int)) := chk (List.length [IntKind.u8.wrap (IntKind.i64.wrap (48 + x4))] + List.length y2 ≤ lim) (cond ((IntKind.i64.wrap (Int.tdiv y1 10)) == 0) (some ([IntKind.u8.wrap (IntKind.i64.wrap (48 + x4))] ++ y2)) (rec ((IntKind.i64.wrap (Int.tdiv y1 10)), ([IntKind.u8.wrap (IntKind.i64.wrap (48 + x4))] ++ y2))))
def impl_FormatInt_B1  (rec : (Int × (List Int)) → Option ((List Int))) (s : Int × (List Int)) : Option ((List Int)) := match s with
  | (y1, y2) => cond (decide ((Int.tmod y1 10) < 0)) (impl_FormatInt_J2 rec y1 y2 (IntKind.i64.wrap (0 - (Int.tmod y1 10)))) (impl_FormatInt_J2 rec y1 y2 (Int.tmod y1 10))
def impl_FormatInt (a0 : Int) : Option ((List UInt8)) := obind (loopF impl_FormatInt_B1 fz (a0, ([] : List Int))) fun z2 => cond (decide (a0 < 0)) (chk (List.length [45] + List.length (bytesOf z2) ≤ lim) (some ([45] ++ (bytesOf z2)))) (some (bytesOf z2))
theorem impl_FormatInt_s {a0 : Int} {r : (List UInt8)} (h : impl_FormatInt a0 = some r) : SoundAt Try.prog 187 [nI a0] (.str r) := by
  unfold impl_FormatInt at h
  refine sound_lit tbOk lit187 (nb rfl) rfl ?_
  unfold c187
  refine ls_keep [(0, nI a0)] ⟨kr, trivial⟩ rfl ?_
  refine ls_rs tbOk ?_
  refine evs (ev_ac rfl nofun rfl (evn ?_))
  refine ls_keep [(0, nI a0)] ⟨kr, trivial⟩ rfl ?_
  refine ls_rs tbOk ?_
  refine evs (ev_an rfl rfl (evn ?_))
  refine ls_keep [(0, nI a0), (3, oL 5 cu8 [])] ⟨kr, kr, trivial⟩ rfl ?_
  refine ls_rs tbOk ?_
  refine evs (ev_mv (c := nI a0) rfl rfl rfl (evs (ev_bin (c1 := nI a0) (c2 := nI 0) rfl rfl rfl (evs (ev_as (c := .bool (decide (a0 < 0))) rfl rfl rfl (evn ?_))))))
  refine ls_keep [(0, nI a0), (3, oL 5 cu8 []), (4, .bool (decide (a0 < 0)))] ⟨kr, kr, kr, trivial⟩ rfl ?_
  refine ls_seq_k fun K1 hK1 => ?_
  obtain ⟨o1, hl, hr1⟩ := ob_some h
  clear h
  have kXimpl_FormatInt_B1 : ∀ (z2 : List Int), (cond (decide (a0 < 0)) (chk (List.length [45] + List.length (bytesOf z2) ≤ lim) (some ([45] ++ (bytesOf z2)))) (some (bytesOf z2))) = some r → ∀ σ' : PS, okK σ' [(3, oL 5 cu8 z2), (4, .bool (decide (a0 < 0)))] → K1 σ' := by
    intro z2 h σ' hk
    refine hK1 _ (ls_keep [(3, oL 5 cu8 z2), (4, .bool (decide (a0 < 0)))] hk rfl ?_)
    refine ls_seq_k fun K8 hK8 => ?_
    refine ls_rs tbOk ?_
    refine evs (ev_mv (c := .bool (decide (a0 < 0))) rfl rfl rfl (evn ?_))
    refine ls_keep [(3, oL 5 cu8 z2), (24, .bool (decide (a0 < 0)))] ⟨kr, kr, trivial⟩ rfl ?_
    rcases cond_some h with ⟨g9, h⟩ | ⟨g9, h⟩
    · refine ls_cT rfl g9 ?_
      refine ls_rs tbOk ?_
      refine evs (ev_mv (c := oL 5 cu8 z2) rfl rfl rfl (evs (ev_cvs (l := z2) rfl rfl rfl rfl (?_))))
      obtain ⟨g10, h⟩ := chk_some h
      refine evs (ev_bin (c1 := .str [45]) (c2 := .str (bytesOf z2)) rfl rfl g10 (evs (ev_as (c := .str ([45] ++ (bytesOf z2))) rfl rfl rfl (evn ?_))))
      refine ls_keep [(2, .str ([45] ++ (bytesOf z2)))] ⟨kr, trivial⟩ rfl ?_
      refine ls_ret ?_
      have hr := Option.some.inj h
      rw [← hr]
      exact ⟨.inl rfl, rfl⟩
    · refine ls_cF rfl g9 ?_
      refine ls_skip ?_
      refine hK8 _ (ls_keep [(3, oL 5 cu8 z2)] ⟨kr, trivial⟩ rfl ?_)
      refine ls_rs tbOk ?_
      refine evs (ev_mv (c := oL 5 cu8 z2) rfl rfl rfl (evs (ev_cvs (l := z2) rfl rfl rfl rfl (evs (ev_as (c := .str (bytesOf z2)) rfl rfl rfl (evn ?_))))))
      refine ls_keep [(2, .str (bytesOf z2))] ⟨kr, trivial⟩ rfl ?_
      refine ls_ret ?_
      have hr := Option.some.inj h
      rw [← hr]
      exact ⟨.inl rfl, rfl⟩
  refine ls_rec (fun (s : Int × (List Int)) => match s with | (y1, y2) => [(0, nI y1), (3, oL 5 cu8 y2), (4, .bool (decide (a0 < 0)))]) impl_FormatInt_B1 fz (a0, ([] : List Int)) o1 hl ⟨kr, kr, kr, trivial⟩ (fun _ => rfl) ?_
  rintro m ⟨y1, y2⟩ N h hN
  unfold impl_FormatInt_B1 at h
  dsimp only at h
  refine ls_blk ?_
  refine ls_rs tbOk ?_
  refine evs (ev_mv (c := nI y1) rfl rfl rfl (evs (ev_bin (c1 := nI y1) (c2 := nI 10) rfl rfl ⟨rfl, by decide⟩ (evs (ev_as (c := nI (Int.tmod y1 10)) rfl rfl rfl (evn ?_))))))
  refine ls_keep [(0, nI y1), (3, oL 5 cu8 y2), (4, .bool (decide (a0 < 0))), (5, nI (Int.tmod y1 10))] ⟨kr, kr, kr, kr, trivial⟩ rfl ?_
  refine ls_seq_k fun K3 hK3 => ?_
  refine ls_rs tbOk ?_
  refine evs (ev_mv (c := nI (Int.tmod y1 10)) rfl rfl rfl (evs (ev_bin (c1 := nI (Int.tmod y1 10)) (c2 := nI 0) rfl rfl rfl (evn ?_))))
  refine ls_keep [(0, nI y1), (3, oL 5 cu8 y2), (4, .bool (decide (a0 < 0))), (5, nI (Int.tmod y1 10)), (11, .bool (decide ((Int.tmod y1 10) < 0)))] ⟨kr, kr, kr, kr, kr, trivial⟩ rfl ?_
  have kimpl_FormatInt_J2 : ∀ (x4 : Int), impl_FormatInt_J2 (loopF impl_FormatInt_B1 m) y1 y2 x4 = some o1 → ∀ σ' : PS, okK σ' [(0, nI y1), (3, oL 5 cu8 y2), (4, .bool (decide (a0 < 0))), (5, nI x4)] → K3 σ' := by
    intro x4 h σ' hk
    unfold impl_FormatInt_J2 at h
    refine hK3 _ (ls_keep [(0, nI y1), (3, oL 5 cu8 y2), (4, .bool (decide (a0 < 0))), (5, nI x4)] hk rfl ?_)
    refine ls_rs tbOk ?_
    refine evs (ev_mv (c := nI x4) rfl rfl rfl (evs (ev_bin (c1 := nI 48) (c2 := nI x4) rfl rfl rfl (evs (ev_cvi rfl rfl rfl (evs (ev_bs [.int .u8 (IntKind.u8.wrap (IntKind.i64.wrap (48 + x4)))] (cs := [.int .u8 (IntKind.u8.wrap (IntKind.i64.wrap (48 + x4)))]) rfl ⟨rfl, trivial⟩ rfl (nb rfl) rfl (evs (ev_mvt (c := oL 5 cu8 y2) rfl rfl rfl (?_))))))))))
    obtain ⟨g5, h⟩ := chk_some h
    refine evs (ev_app (f := cu8) (l := [IntKind.u8.wrap (IntKind.i64.wrap (48 + x4))]) (m := y2) (c2 := oL 5 cu8 y2) rfl rfl rfl (flat_len zcu8 y2) rfl rfl g5 rfl (evs (ev_as (c := oL 5 cu8 ([IntKind.u8.wrap (IntKind.i64.wrap (48 + x4))] ++ y2)) rfl rfl rfl (evn ?_))))
    refine ls_keep [(0, nI y1), (3, oL 5 cu8 ([IntKind.u8.wrap (IntKind.i64.wrap (48 + x4))] ++ y2)), (4, .bool (decide (a0 < 0)))] ⟨kr, kr, kr, trivial⟩ rfl ?_
    refine ls_rs tbOk ?_
    refine evs (ev_mv (c := nI y1) rfl rfl rfl (evs (ev_bin (c1 := nI y1) (c2 := nI 10) rfl rfl ⟨rfl, by decide⟩ (evs (ev_as (c := nI (IntKind.i64.wrap (Int.tdiv y1 10))) rfl rfl rfl (evn ?_))))))
    refine ls_keep [(0, nI (IntKind.i64.wrap (Int.tdiv y1 10))), (3, oL 5 cu8 ([IntKind.u8.wrap (IntKind.i64.wrap (48 + x4))] ++ y2)), (4, .bool (decide (a0 < 0)))] ⟨kr, kr, kr, trivial⟩ rfl ?_
    refine ls_rs tbOk ?_
    refine evs (ev_mv (c := nI (IntKind.i64.wrap (Int.tdiv y1 10))) rfl rfl rfl (evs (ev_bin (c1 := nI (IntKind.i64.wrap (Int.tdiv y1 10))) (c2 := nI 0) rfl rfl rfl (evn ?_))))
    refine ls_keep [(0, nI (IntKind.i64.wrap (Int.tdiv y1 10))), (3, oL 5 cu8 ([IntKind.u8.wrap (IntKind.i64.wrap (48 + x4))] ++ y2)), (4, .bool (decide (a0 < 0))), (23, .bool ((IntKind.i64.wrap (Int.tdiv y1 10)) == 0))] ⟨kr, kr, kr, kr, trivial⟩ rfl ?_
    rcases cond_some h with ⟨g6, h⟩ | ⟨g6, h⟩
    · refine ls_cT rfl g6 ?_
      refine ls_exit ?_
      have q0 := (Option.some.inj h).symm
      have r0 := hr1
      rw [q0] at r0
      exact kXimpl_FormatInt_B1 ([IntKind.u8.wrap (IntKind.i64.wrap (48 + x4))] ++ y2) r0 _ ⟨kr, kr, trivial⟩
    · refine ls_cF rfl g6 ?_
      refine ls_skip ?_
      exact hN _ ((IntKind.i64.wrap (Int.tdiv y1 10)), ([IntKind.u8.wrap (IntKind.i64.wrap (48 + x4))] ++ y2)) h ⟨kr, kr, kr, trivial⟩
  rcases cond_some h with ⟨g7, h⟩ | ⟨g7, h⟩
  · refine ls_cT rfl g7 ?_
    refine ls_rgn tbOk ?_
    refine evs (ev_mv (c := nI (Int.tmod y1 10)) rfl rfl rfl (evs (ev_un (c1 := nI (Int.tmod y1 10)) rfl trivial (evs (ev_as (c := nI (IntKind.i64.wrap (0 - (Int.tmod y1 10)))) rfl rfl rfl (evn ?_))))))
    exact kimpl_FormatInt_J2 (IntKind.i64.wrap (0 - (Int.tmod y1 10))) h _ ⟨kr, kr, kr, kr, trivial⟩
  · refine ls_cF rfl g7 ?_
    refine ls_skip ?_
    exact kimpl_FormatInt_J2 (Int.tmod y1 10) h _ ⟨kr, kr, kr, kr, trivial⟩
def impl_join_J2 (rec : ((List UInt8) × Int) → Option ((List UInt8))) (y2 : Int) (e6 : List UInt8) (x9 : List UInt8) : Option ((List UInt8)) := chk (List.length x9 + List.length e6 ≤ lim) (rec ((x9 ++ e6), (IntKind.i64.wrap (y2 + 1))))
def impl_join_B1 (a0 : List (List UInt8)) (a1 : List UInt8) (rec : ((List UInt8) × Int) → Option ((List UInt8))) (s : (List UInt8) × Int) : Option ((List UInt8)) := match s with
  | (y1, y2) => cond (decide (y2 < (List.length a0 : Int))) (obind (geti a0 y2) fun e6 => cond (decide (0 < y2)) (chk (List.length y1 + List.length a1 ≤ lim) (impl_join_J2 rec y2 e6 (y1 ++ a1))) (impl_join_J2 rec y2 e6 y1)) (some y1)
def impl_join (a0 : List (List UInt8)) (a1 : List UInt8) : Option ((List UInt8)) := obind (loopF (impl_join_B1 a0 a1) fz ([], 0)) fun z2 => some z2
theorem impl_join_s {a0 : List (List UInt8)} {a1 : List UInt8} {r : (List UInt8)} (h : impl_join a0 a1 = some r) : SoundAt Try.prog 221 [dL cst a0, .str a1] (.str r) := by
  unfold impl_join at h
  refine sound_lit tbOk lit221 (nb rfl) rfl ?_
  unfold c221
  refine ls_keep [(0, dL cst a0), (1, .str a1)] ⟨kr, kr, trivial⟩ rfl ?_
  refine ls_rs tbOk ?_
  refine evs (ev_ac rfl nofun rfl (evn ?_))
  refine ls_keep [(0, dL cst a0), (1, .str a1)] ⟨kr, kr, trivial⟩ rfl ?_
  refine ls_rs tbOk ?_
  refine evs (ev_ac rfl nofun rfl (evn ?_))
  refine ls_keep [(0, dL cst a0), (1, .str a1), (5, .str [])] ⟨kr, kr, kr, trivial⟩ rfl ?_
  refine ls_seq_k fun K1 hK1 => ?_
  refine ls_rs tbOk ?_
  refine evs (ev_mv (c := dL cst a0) rfl rfl rfl (evs (ev_len (c1 := dL cst a0) rfl rfl rfl (evs (ev_mc rfl rfl (evn ?_))))))
  refine ls_keep [(1, .str a1), (5, .str []), (8, dL cst a0), (9, nI (List.length a0 : Int)), (10, nI 0)] ⟨kr, kr, kr, kr, kr, trivial⟩ rfl ?_
  obtain ⟨o1, hl, hr1⟩ := ob_some h
  clear h
  have kXimpl_join_B1 : ∀ (z2 : List UInt8), (some z2) = some r → ∀ σ' : PS, okK σ' [(5, .str z2)] → K1 σ' := by
    intro z2 h σ' hk
    refine hK1 _ (ls_keep [(5, .str z2)] hk rfl ?_)
    refine ls_rs tbOk ?_
    refine evs (ev_mv (c := .str z2) rfl rfl rfl (evs (ev_as (c := .str z2) rfl rfl rfl (evn ?_))))
    refine ls_keep [(4, .str z2)] ⟨kr, trivial⟩ rfl ?_
    refine ls_ret ?_
    have hr := Option.some.inj h
    rw [← hr]
    exact ⟨.inl rfl, rfl⟩
  refine ls_rec (fun (s : (List UInt8) × Int) => match s with | (y1, y2) => [(1, .str a1), (5, .str y1), (8, dL cst a0), (9, nI (List.length a0 : Int)), (10, nI y2)]) (impl_join_B1 a0 a1) fz ([], 0) o1 hl ⟨kr, kr, kr, kr, kr, trivial⟩ (fun _ => rfl) ?_
  rintro m ⟨y1, y2⟩ N h hN
  unfold impl_join_B1 at h
  dsimp only at h
  refine ls_rs tbOk ?_
  refine evs (ev_bin (c1 := nI y2) (c2 := nI (List.length a0 : Int)) rfl rfl rfl (evn ?_))
  refine ls_keep [(1, .str a1), (5, .str y1), (8, dL cst a0), (9, nI (List.length a0 : Int)), (10, nI y2), (11, .bool (decide (y2 < (List.length a0 : Int))))] ⟨kr, kr, kr, kr, kr, kr, trivial⟩ rfl ?_
  refine ls_seq_k fun K3 hK3 => ?_
  rcases cond_some h with ⟨g4, h⟩ | ⟨g4, h⟩
  · refine ls_cT rfl g4 ?_
    refine ls_skip ?_
    refine hK3 _ (ls_keep [(1, .str a1), (5, .str y1), (8, dL cst a0), (9, nI (List.length a0 : Int)), (10, nI y2)] ⟨kr, kr, kr, kr, kr, trivial⟩ rfl ?_)
    refine ls_seq_k fun K5 hK5 => ?_
    refine ls_blk ?_
    refine ls_rs tbOk ?_
    refine evs (ev_mv (c := nI y2) rfl rfl rfl (?_))
    obtain ⟨e6, g7, h⟩ := ob_some h
    refine evs (ev_ia rfl rfl rfl ⟨(geti_some g7).1, (geti_some g7).2.1⟩ (evs (ev_ldE (i := y2) (n := 1) (off := 0) (v := .str e6) rfl rfl zcst g7 rfl (nb rfl) rfl (evs (ev_as (c := nI y2) rfl rfl rfl (evs (ev_as (c := .str e6) rfl rfl rfl (evn ?_))))))))
    refine ls_keep [(1, .str a1), (5, .str y1), (6, nI y2), (7, .str e6), (8, dL cst a0), (9, nI (List.length a0 : Int)), (10, nI y2)] ⟨kr, kr, kr, kr, kr, kr, kr, trivial⟩ rfl ?_
    refine ls_seq_k fun K8 hK8 => ?_
    refine ls_rs tbOk ?_
    refine evs (ev_mv (c := nI y2) rfl rfl rfl (evs (ev_bin (c1 := nI y2) (c2 := nI 0) rfl rfl rfl (evn ?_))))
    refine ls_keep [(1, .str a1), (5, .str y1), (7, .str e6), (8, dL cst a0), (9, nI (List.length a0 : Int)), (10, nI y2), (16, .bool (decide (0 < y2)))] ⟨kr, kr, kr, kr, kr, kr, kr, trivial⟩ rfl ?_
    have kimpl_join_J2 : ∀ (x9 : List UInt8), impl_join_J2 (loopF (impl_join_B1 a0 a1) m) y2 e6 x9 = some o1 → ∀ σ' : PS, okK σ' [(1, .str a1), (5, .str x9), (7, .str e6), (8, dL cst a0), (9, nI (List.length a0 : Int)), (10, nI y2)] → K8 σ' := by
      intro x9 h σ' hk
      unfold impl_join_J2 at h
      refine hK8 _ (ls_keep [(1, .str a1), (5, .str x9), (7, .str e6), (8, dL cst a0), (9, nI (List.length a0 : Int)), (10, nI y2)] hk rfl ?_)
      refine ls_rgn tbOk ?_
      refine evs (ev_mv (c := .str x9) rfl rfl rfl (evs (ev_mv (c := .str e6) rfl rfl rfl (?_))))
      obtain ⟨g10, h⟩ := chk_some h
      refine evs (ev_bin (c1 := .str x9) (c2 := .str e6) rfl rfl g10 (evs (ev_as (c := .str (x9 ++ e6)) rfl rfl rfl (evn ?_))))
      refine hK5 _ (ls_keep [(1, .str a1), (5, .str (x9 ++ e6)), (8, dL cst a0), (9, nI (List.length a0 : Int)), (10, nI y2)] ⟨kr, kr, kr, kr, kr, trivial⟩ rfl ?_)
      refine ls_rgn tbOk ?_
      refine evs (ev_bin (c1 := nI y2) (c2 := nI 1) rfl rfl rfl (evs (ev_mv (c := nI (IntKind.i64.wrap (y2 + 1))) rfl rfl rfl (evn ?_))))
      exact hN _ ((x9 ++ e6), (IntKind.i64.wrap (y2 + 1))) h ⟨kr, kr, kr, kr, kr, trivial⟩
    rcases cond_some h with ⟨g11, h⟩ | ⟨g11, h⟩
    · refine ls_cT rfl g11 ?_
      refine ls_rgn tbOk ?_
      refine evs (ev_mv (c := .str y1) rfl rfl rfl (evs (ev_mv (c := .str a1) rfl rfl rfl (?_))))
      obtain ⟨g12, h⟩ := chk_some h
      refine evs (ev_bin (c1 := .str y1) (c2 := .str a1) rfl rfl g12 (evs (ev_as (c := .str (y1 ++ a1)) rfl rfl rfl (evn ?_))))
      exact kimpl_join_J2 (y1 ++ a1) h _ ⟨kr, kr, kr, kr, kr, kr, trivial⟩
    · refine ls_cF rfl g11 ?_
      refine ls_skip ?_
      exact kimpl_join_J2 y1 h _ ⟨kr, kr, kr, kr, kr, kr, trivial⟩
  · refine ls_cF rfl g4 ?_
    refine ls_exit ?_
    have q0 := (Option.some.inj h).symm
    have r0 := hr1
    rw [q0] at r0
    exact kXimpl_join_B1 y1 r0 _ ⟨kr, trivial⟩
def impl_formatList_B1 (a0 : List Int) (rec : ((List (List UInt8)) × Int) → Option ((List (List UInt8)))) (s : (List (List UInt8)) × Int) : Option ((List (List UInt8))) := match s with
  | (y1, y2) => cond (decide (y2 < (List.length a0 : Int))) (obind (geti a0 y2) fun e6 => obind (impl_FormatInt e6) fun v8 => chk (List.length y1 + List.length [v8] ≤ lim) (rec ((y1 ++ [v8]), (IntKind.i64.wrap (y2 + 1))))) (some y1)
def impl_formatList (a0 : List Int) (a1 : List UInt8) : Option ((List UInt8)) := obind (loopF (impl_formatList_B1 a0) fz (([] : List (List UInt8)), 0)) fun z2 => obind (impl_join z2 a1) fun v11 => some v11
theorem impl_formatList_s {a0 : List Int} {a1 : List UInt8} {r : (List UInt8)} (h : impl_formatList a0 a1 = some r) : SoundAt Try.prog 145 [dL ci64 a0, .str a1] (.str r) := by
  unfold impl_formatList at h
  refine sound_lit tbOk lit145 (nb rfl) rfl ?_
  unfold c145
  refine ls_keep [(0, dL ci64 a0), (1, .str a1)] ⟨kr, kr, trivial⟩ rfl ?_
  refine ls_rs tbOk ?_
  refine evs (ev_ac rfl nofun rfl (evn ?_))
  refine ls_keep [(0, dL ci64 a0), (1, .str a1)] ⟨kr, kr, trivial⟩ rfl ?_
  refine ls_rs tbOk ?_
  refine evs (ev_an rfl rfl (evn ?_))
  refine ls_keep [(0, dL ci64 a0), (1, .str a1), (5, oL 9 cst [])] ⟨kr, kr, kr, trivial⟩ rfl ?_
  refine ls_seq_k fun K1 hK1 => ?_
  refine ls_rs tbOk ?_
  refine evs (ev_mv (c := dL ci64 a0) rfl rfl rfl (evs (ev_len (c1 := dL ci64 a0) rfl rfl rfl (evs (ev_mc rfl rfl (evn ?_))))))
  refine ls_keep [(1, .str a1), (5, oL 9 cst []), (8, dL ci64 a0), (9, nI (List.length a0 : Int)), (10, nI 0)] ⟨kr, kr, kr, kr, kr, trivial⟩ rfl ?_
  obtain ⟨o1, hl, hr1⟩ := ob_some h
  clear h
  have kXimpl_formatList_B1 : ∀ (z2 : List (List UInt8)), (obind (impl_join z2 a1) fun v11 => some v11) = some r → ∀ σ' : PS, okK σ' [(1, .str a1), (5, oL 9 cst z2)] → K1 σ' := by
    intro z2 h σ' hk
    refine hK1 _ (ls_keep [(1, .str a1), (5, oL 9 cst z2)] hk rfl ?_)
    refine ls_rs tbOk ?_
    refine evs (ev_mv (c := oL 9 cst z2) rfl rfl rfl (evs (ev_mv (c := .str a1) rfl rfl rfl (?_))))
    obtain ⟨v11, g12, h⟩ := ob_some h
    refine evs (ev_call (era rfl (erD ecst _) (era rfl rfl eran)) (impl_join_s g12) (evs (ev_as (c := .str v11) rfl rfl rfl (evn ?_))))
    refine ls_keep [(4, .str v11)] ⟨kr, trivial⟩ rfl ?_
    refine ls_ret ?_
    have hr := Option.some.inj h
    rw [← hr]
    exact ⟨.inl rfl, rfl⟩
  refine ls_rec (fun (s : (List (List UInt8)) × Int) => match s with | (y1, y2) => [(1, .str a1), (5, oL 9 cst y1), (8, dL ci64 a0), (9, nI (List.length a0 : Int)), (10, nI y2)]) (impl_formatList_B1 a0) fz (([] : List (List UInt8)), 0) o1 hl ⟨kr, kr, kr, kr, kr, trivial⟩ (fun _ => rfl) ?_
  rintro m ⟨y1, y2⟩ N h hN
  unfold impl_formatList_B1 at h
  dsimp only at h
  refine ls_rs tbOk ?_
  refine evs (ev_bin (c1 := nI y2) (c2 := nI (List.length a0 : Int)) rfl rfl rfl (evn ?_))
  refine ls_keep [(1, .str a1), (5, oL 9 cst y1), (8, dL ci64 a0), (9, nI (List.length a0 : Int)), (10, nI y2), (11, .bool (decide (y2 < (List.length a0 : Int))))] ⟨kr, kr, kr, kr, kr, kr, trivial⟩ rfl ?_
  refine ls_seq_k fun K3 hK3 => ?_
  rcases cond_some h with ⟨g4, h⟩ | ⟨g4, h⟩
  · refine ls_cT rfl g4 ?_
    refine ls_skip ?_
    refine hK3 _ (ls_keep [(1, .str a1), (5, oL 9 cst y1), (8, dL ci64 a0), (9, nI (List.length a0 : Int)), (10, nI y2)] ⟨kr, kr, kr, kr, kr, trivial⟩ rfl ?_)
    refine ls_seq_k fun K5 hK5 => ?_
    refine ls_blk ?_
    refine ls_rs tbOk ?_
    obtain ⟨e6, g7, h⟩ := ob_some h
    refine evs (ev_ia rfl rfl rfl ⟨(geti_some g7).1, (geti_some g7).2.1⟩ (evs (ev_ldE (i := y2) (n := 1) (off := 0) (v := nI e6) rfl rfl zci64 g7 rfl (nb rfl) rfl (evs (ev_as (c := nI e6) rfl rfl rfl (evn ?_))))))
    refine ls_keep [(1, .str a1), (5, oL 9 cst y1), (7, nI e6), (8, dL ci64 a0), (9, nI (List.length a0 : Int)), (10, nI y2)] ⟨kr, kr, kr, kr, kr, kr, trivial⟩ rfl ?_
    refine ls_rgn tbOk ?_
    refine evs (ev_mvt (c := oL 9 cst y1) rfl rfl rfl (evs (ev_mv (c := nI e6) rfl rfl rfl (?_))))
    obtain ⟨v8, g9, h⟩ := ob_some h
    refine evs (ev_call (era rfl rfl eran) (impl_FormatInt_s g9) (evs (ev_bs [.str v8] (cs := [.str v8]) rfl ⟨rfl, trivial⟩ rfl (nb rfl) rfl (?_))))
    obtain ⟨g10, h⟩ := chk_some h
    refine evs (ev_app (f := cst) (l := y1) (m := [v8]) (c2 := oL 9 cst [v8]) rfl rfl rfl (flat_len zcst [v8]) rfl rfl g10 rfl (evs (ev_as (c := oL 9 cst (y1 ++ [v8])) rfl rfl rfl (evn ?_))))
    refine hK5 _ (ls_keep [(1, .str a1), (5, oL 9 cst (y1 ++ [v8])), (8, dL ci64 a0), (9, nI (List.length a0 : Int)), (10, nI y2)] ⟨kr, kr, kr, kr, kr, trivial⟩ rfl ?_)
    refine ls_rgn tbOk ?_
    refine evs (ev_bin (c1 := nI y2) (c2 := nI 1) rfl rfl rfl (evs (ev_mv (c := nI (IntKind.i64.wrap (y2 + 1))) rfl rfl rfl (evn ?_))))
    exact hN _ ((y1 ++ [v8]), (IntKind.i64.wrap (y2 + 1))) h ⟨kr, kr, kr, kr, kr, trivial⟩
  · refine ls_cF rfl g4 ?_
    refine ls_exit ?_
    have q0 := (Option.some.inj h).symm
    have r0 := hr1
    rw [q0] at r0
    exact kXimpl_formatList_B1 y1 r0 _ ⟨kr, kr, trivial⟩
def impl_VariableName (a0 : Int) : Option ((List UInt8)) := obind (impl_within a0 0 4) fun v2 => cond (!v2) (some []) (chk ((0 : Int) ≤ a0 ∧ a0 ≤ IntKind.i64.wrap (a0 + 1) ∧ IntKind.i64.wrap (a0 + 1) ≤ (List.length [88, 89, 90, 85, 86] : Int)) (some (subl [88, 89, 90, 85, 86] a0 (IntKind.i64.wrap (a0 + 1)))))
theorem impl_VariableName_s {a0 : Int} {r : (List UInt8)} (h : impl_VariableName a0 = some r) : SoundAt Try.prog 184 [nI a0] (.str r) := by
  unfold impl_VariableName at h
  refine sound_lit tbOk lit184 (nb rfl) rfl ?_
  unfold c184
  refine ls_keep [(0, nI a0)] ⟨kr, trivial⟩ rfl ?_
  refine ls_rs tbOk ?_
  refine evs (ev_ac rfl nofun rfl (evn ?_))
  refine ls_keep [(0, nI a0)] ⟨kr, trivial⟩ rfl ?_
  refine ls_seq_k fun K1 hK1 => ?_
  refine ls_rs tbOk ?_
  refine evs (ev_mv (c := nI a0) rfl rfl rfl (?_))
  obtain ⟨v2, g3, h⟩ := ob_some h
  refine evs (ev_call (era rfl rfl (era rfl rfl (era rfl rfl eran))) (impl_within_s g3) (evs (ev_un (c1 := .bool v2) rfl trivial (evn ?_))))
  refine ls_keep [(0, nI a0), (5, .bool (!v2))] ⟨kr, kr, trivial⟩ rfl ?_
  rcases cond_some h with ⟨g4, h⟩ | ⟨g4, h⟩
  · refine ls_cT rfl g4 ?_
    refine ls_rs tbOk ?_
    refine evs (ev_ac rfl nofun rfl (evn ?_))
    refine ls_keep [(2, .str [])] ⟨kr, trivial⟩ rfl ?_
    refine ls_ret ?_
    have hr := Option.some.inj h
    rw [← hr]
    exact ⟨.inl rfl, rfl⟩
  · refine ls_cF rfl g4 ?_
    refine ls_skip ?_
    refine hK1 _ (ls_keep [(0, nI a0)] ⟨kr, trivial⟩ rfl ?_)
    refine ls_rs tbOk ?_
    refine evs (ev_mv (c := nI a0) rfl rfl rfl (evs (ev_mv (c := nI a0) rfl rfl rfl (evs (ev_bin (c1 := nI a0) (c2 := nI 1) rfl rfl rfl (?_))))))
    obtain ⟨g5, h⟩ := chk_some h
    refine evs (ev_sls rfl rfl rfl rfl g5 (evs (ev_as (c := .str (subl [88, 89, 90, 85, 86] a0 (IntKind.i64.wrap (a0 + 1)))) rfl rfl rfl (evn ?_))))
    refine ls_keep [(2, .str (subl [88, 89, 90, 85, 86] a0 (IntKind.i64.wrap (a0 + 1))))] ⟨kr, trivial⟩ rfl ?_
    refine ls_ret ?_
    have hr := Option.some.inj h
    rw [← hr]
    exact ⟨.inl rfl, rfl⟩
def impl_namesOf_B1 (a0 : List Int) (rec : ((List UInt8) × Int) → Option ((List UInt8))) (s : (List UInt8) × Int) : Option ((List UInt8)) := match s with
  | (y1, y2) => cond (decide (y2 < (List.length a0 : Int))) (obind (geti a0 y2) fun e6 => obind (impl_VariableName e6) fun v8 => chk (List.length y1 + List.length v8 ≤ lim) (rec ((y1 ++ v8), (IntKind.i64.wrap (y2 + 1))))) (some y1)
def impl_namesOf (a0 : List Int) : Option ((List UInt8)) := obind (loopF (impl_namesOf_B1 a0) fz ([], 0)) fun z2 => some z2
theorem impl_namesOf_s {a0 : List Int} {r : (List UInt8)} (h : impl_namesOf a0 = some r) : SoundAt Try.prog 147 [dL ci64 a0] (.str r) := by
  unfold impl_namesOf at h
  refine sound_lit tbOk lit147 (nb rfl) rfl ?_
  unfold c147
  refine ls_keep [(0, dL ci64 a0)] ⟨kr, trivial⟩ rfl ?_
  refine ls_rs tbOk ?_
  refine evs (ev_ac rfl nofun rfl (evn ?_))
  refine ls_keep [(0, dL ci64 a0)] ⟨kr, trivial⟩ rfl ?_
  refine ls_rs tbOk ?_
  refine evs (ev_ac rfl nofun rfl (evn ?_))
  refine ls_keep [(0, dL ci64 a0), (3, .str [])] ⟨kr, kr, trivial⟩ rfl ?_
  refine ls_seq_k fun K1 hK1 => ?_
  refine ls_rs tbOk ?_
  refine evs (ev_mv (c := dL ci64 a0) rfl rfl rfl (evs (ev_len (c1 := dL ci64 a0) rfl rfl rfl (evs (ev_mc rfl rfl (evn ?_))))))
  refine ls_keep [(3, .str []), (6, dL ci64 a0), (7, nI (List.length a0 : Int)), (8, nI 0)] ⟨kr, kr, kr, kr, trivial⟩ rfl ?_
  obtain ⟨o1, hl, hr1⟩ := ob_some h
  clear h
  have kXimpl_namesOf_B1 : ∀ (z2 : List UInt8), (some z2) = some r → ∀ σ' : PS, okK σ' [(3, .str z2)] → K1 σ' := by
    intro z2 h σ' hk
    refine hK1 _ (ls_keep [(3, .str z2)] hk rfl ?_)
    refine ls_rs tbOk ?_
    refine evs (ev_mv (c := .str z2) rfl rfl rfl (evs (ev_as (c := .str z2) rfl rfl rfl (evn ?_))))
    refine ls_keep [(2, .str z2)] ⟨kr, trivial⟩ rfl ?_
    refine ls_ret ?_
    have hr := Option.some.inj h
    rw [← hr]
    exact ⟨.inl rfl, rfl⟩
  refine ls_rec (fun (s : (List UInt8) × Int) => match s with | (y1, y2) => [(3, .str y1), (6, dL ci64 a0), (7, nI (List.length a0 : Int)), (8, nI y2)]) (impl_namesOf_B1 a0) fz ([], 0) o1 hl ⟨kr, kr, kr, kr, trivial⟩ (fun _ => rfl) ?_
  rintro m ⟨y1, y2⟩ N h hN
  unfold impl_namesOf_B1 at h
  dsimp only at h
  refine ls_rs tbOk ?_
  refine evs (ev_bin (c1 := nI y2) (c2 := nI (List.length a0 : Int)) rfl rfl rfl (evn ?_))
  refine ls_keep [(3, .str y1), (6, dL ci64 a0), (7, nI (List.length a0 : Int)), (8, nI y2), (9, .bool (decide (y2 < (List.length a0 : Int))))] ⟨kr, kr, kr, kr, kr, trivial⟩ rfl ?_
  refine ls_seq_k fun K3 hK3 => ?_
  rcases cond_some h with ⟨g4, h⟩ | ⟨g4, h⟩
  · refine ls_cT rfl g4 ?_
    refine ls_skip ?_
    refine hK3 _ (ls_keep [(3, .str y1), (6, dL ci64 a0), (7, nI (List.length a0 : Int)), (8, nI y2)] ⟨kr, kr, kr, kr, trivial⟩ rfl ?_)
    refine ls_seq_k fun K5 hK5 => ?_
    refine ls_blk ?_
    refine ls_rs tbOk ?_
    obtain ⟨e6, g7, h⟩ := ob_some h
    refine evs (ev_ia rfl rfl rfl ⟨(geti_some g7).1, (geti_some g7).2.1⟩ (evs (ev_ldE (i := y2) (n := 1) (off := 0) (v := nI e6) rfl rfl zci64 g7 rfl (nb rfl) rfl (evs (ev_as (c := nI e6) rfl rfl rfl (evn ?_))))))
    refine ls_keep [(3, .str y1), (5, nI e6), (6, dL ci64 a0), (7, nI (List.length a0 : Int)), (8, nI y2)] ⟨kr, kr, kr, kr, kr, trivial⟩ rfl ?_
    refine ls_rgn tbOk ?_
    refine evs (ev_mv (c := .str y1) rfl rfl rfl (evs (ev_mv (c := nI e6) rfl rfl rfl (?_))))
    obtain ⟨v8, g9, h⟩ := ob_some h
    refine evs (ev_call (era rfl rfl eran) (impl_VariableName_s g9) (?_))
    obtain ⟨g10, h⟩ := chk_some h
    refine evs (ev_bin (c1 := .str y1) (c2 := .str v8) rfl rfl g10 (evs (ev_as (c := .str (y1 ++ v8)) rfl rfl rfl (evn ?_))))
    refine hK5 _ (ls_keep [(3, .str (y1 ++ v8)), (6, dL ci64 a0), (7, nI (List.length a0 : Int)), (8, nI y2)] ⟨kr, kr, kr, kr, trivial⟩ rfl ?_)
    refine ls_rgn tbOk ?_
    refine evs (ev_bin (c1 := nI y2) (c2 := nI 1) rfl rfl rfl (evs (ev_mv (c := nI (IntKind.i64.wrap (y2 + 1))) rfl rfl rfl (evn ?_))))
    exact hN _ ((y1 ++ v8), (IntKind.i64.wrap (y2 + 1))) h ⟨kr, kr, kr, kr, trivial⟩
  · refine ls_cF rfl g4 ?_
    refine ls_exit ?_
    have q0 := (Option.some.inj h).symm
    have r0 := hr1
    rw [q0] at r0
    exact kXimpl_namesOf_B1 y1 r0 _ ⟨kr, trivial⟩
def impl_FormatDecomposition_J2 (rec : ((List (List UInt8)) × Int) → Option ((List (List UInt8)))) (y1 : List (List UInt8)) (y2 : Int) (x17 : List UInt8) : Option ((List (List UInt8))) := chk (List.length y1 + List.length [x17] ≤ lim) (rec ((y1 ++ [x17]), (IntKind.i64.wrap (y2 + 1))))
def impl_FormatDecomposition_B1 (a0 : Y83) (rec : ((List (List UInt8)) × Int) → Option ((List (List UInt8)))) (s : (List (List UInt8)) × Int) : Option ((List (List UInt8))) := match s with
  | (y1, y2) => cond (decide (y2 < (List.length a0.1 : Int))) (obind (geti a0.1 y2) fun e8 => obind (impl_namesOf e8) fun v10 => chk (List.length [40] + List.length v10 ≤ lim) (chk (List.length ([40] ++ v10) + List.length [41] ≤ lim) (obind (geti a0.2 y2) fun e15 => cond (decide (0 ≤ e15)) (obind (geti a0.2 y2) fun e20 => obind (impl_FormatInt e20) fun v22 => chk (List.length (([40] ++ v10) ++ [41]) + List.length v22 ≤ lim) (impl_FormatDecomposition_J2 rec y1 y2 ((([40] ++ v10) ++ [41]) ++ v22))) (impl_FormatDecomposition_J2 rec y1 y2 (([40] ++ v10) ++ [41]))))) (some y1)
def impl_FormatDecomposition (a0 : Y83) : Option ((List UInt8)) := cond ((List.length a0.1 : Int) != (List.length a0.2 : Int)) (some []) (obind (loopF (impl_FormatDecomposition_B1 a0) fz (([] : List (List UInt8)), 0)) fun z4 => obind (impl_join z4 [32]) fun v25 => some v25)
theorem impl_FormatDecomposition_s {a0 : Y83} {r : (List UInt8)} (h : impl_FormatDecomposition a0 = some r) : SoundAt Try.prog 146 [.agg (c95_ddd a0)] (.str r) := by
  unfold impl_FormatDecomposition at h
  refine sound_lit tbOk lit146 (nb rfl) rfl ?_
  unfold c146
  refine ls_keep [(0, .agg (c95_ddd a0))] ⟨kr, trivial⟩ rfl ?_
  refine ls_rs tbOk ?_
  refine evs (ev_bx (c1 := .agg (c95_ddd a0)) rfl rfl rfl (evs (ev_ac rfl nofun rfl (evn ?_))))
  refine ls_keep [(1, .box [dL c25_d a0.1, dL ci64 a0.2])] ⟨kr, trivial⟩ rfl ?_
  refine ls_rs tbOk ?_
  refine evs (ev_ldB (off := 0) (v := .agg (c95_ddd a0)) rfl rfl rfl rfl (nb rfl) rfl (evs (ev_al rfl rfl (evs (ev_st (off := 0) (c1 := .agg (c95_ddd a0)) (cs' := [dL c25_d a0.1, dL ci64 a0.2]) rfl rfl rfl rfl rfl rfl (nb rfl) rfl (evn ?_))))))
  refine ls_keep [(3, .box [dL c25_d a0.1, dL ci64 a0.2])] ⟨kr, trivial⟩ rfl ?_
  refine ls_seq_k fun K1 hK1 => ?_
  refine ls_rs tbOk ?_
  refine evs (ev_fa (c1 := .cref 3 0) (v := .cref 3 0) rfl rfl rfl ⟨_, rfl⟩ rfl (evs (ev_ldB (off := 0) (v := dL c25_d a0.1) rfl rfl rfl rfl (nb rfl) rfl (evs (ev_len (c1 := dL c25_d a0.1) rfl rfl rfl (evs (ev_fa (c1 := .cref 3 0) (v := .cref 3 1) rfl rfl rfl ⟨_, rfl⟩ rfl (evs (ev_ldB (off := 1) (v := dL ci64 a0.2) rfl rfl rfl rfl (nb rfl) rfl (evs (ev_len (c1 := dL ci64 a0.2) rfl rfl rfl (evs (ev_bin (c1 := nI (List.length a0.1 : Int)) (c2 := nI (List.length a0.2 : Int)) rfl rfl rfl (evn ?_))))))))))))))
  refine ls_keep [(3, .box [dL c25_d a0.1, dL ci64 a0.2]), (15, .bool ((List.length a0.1 : Int) != (List.length a0.2 : Int)))] ⟨kr, kr, trivial⟩ rfl ?_
  rcases cond_some h with ⟨g2, h⟩ | ⟨g2, h⟩
  · refine ls_cT rfl g2 ?_
    refine ls_rs tbOk ?_
    refine evs (ev_ac rfl nofun rfl (evn ?_))
    refine ls_keep [(2, .str [])] ⟨kr, trivial⟩ rfl ?_
    refine ls_ret ?_
    have hr := Option.some.inj h
    rw [← hr]
    exact ⟨.inl rfl, rfl⟩
  · refine ls_cF rfl g2 ?_
    refine ls_skip ?_
    refine hK1 _ (ls_keep [(3, .box [dL c25_d a0.1, dL ci64 a0.2])] ⟨kr, trivial⟩ rfl ?_)
    refine ls_rs tbOk ?_
    refine evs (ev_an rfl rfl (evn ?_))
    refine ls_keep [(3, .box [dL c25_d a0.1, dL ci64 a0.2]), (4, oL 9 cst [])] ⟨kr, kr, trivial⟩ rfl ?_
    refine ls_seq_k fun K3 hK3 => ?_
    refine ls_rs tbOk ?_
    refine evs (ev_fa (c1 := .cref 3 0) (v := .cref 3 0) rfl rfl rfl ⟨_, rfl⟩ rfl (evs (ev_ldB (off := 0) (v := dL c25_d a0.1) rfl rfl rfl rfl (nb rfl) rfl (evs (ev_len (c1 := dL c25_d a0.1) rfl rfl rfl (evs (ev_mc rfl rfl (evn ?_))))))))
    refine ls_keep [(3, .box [dL c25_d a0.1, dL ci64 a0.2]), (4, oL 9 cst []), (17, dL c25_d a0.1), (18, nI (List.length a0.1 : Int)), (19, nI 0)] ⟨kr, kr, kr, kr, kr, trivial⟩ rfl ?_
    obtain ⟨o1, hl, hr1⟩ := ob_some h
    clear h
    have kXimpl_FormatDecomposition_B1 : ∀ (z4 : List (List UInt8)), (obind (impl_join z4 [32]) fun v25 => some v25) = some r → ∀ σ' : PS, okK σ' [(4, oL 9 cst z4)] → K3 σ' := by
      intro z4 h σ' hk
      refine hK3 _ (ls_keep [(4, oL 9 cst z4)] hk rfl ?_)
      refine ls_rs tbOk ?_
      refine evs (ev_mv (c := oL 9 cst z4) rfl rfl rfl (?_))
      obtain ⟨v25, g26, h⟩ := ob_some h
      refine evs (ev_call (era rfl (erD ecst _) (era rfl rfl eran)) (impl_join_s g26) (evs (ev_as (c := .str v25) rfl rfl rfl (evn ?_))))
      refine ls_keep [(2, .str v25)] ⟨kr, trivial⟩ rfl ?_
      refine ls_ret ?_
      have hr := Option.some.inj h
      rw [← hr]
      exact ⟨.inl rfl, rfl⟩
    refine ls_rec (fun (s : (List (List UInt8)) × Int) => match s with | (y1, y2) => [(3, .box [dL c25_d a0.1, dL ci64 a0.2]), (4, oL 9 cst y1), (17, dL c25_d a0.1), (18, nI (List.length a0.1 : Int)), (19, nI y2)]) (impl_FormatDecomposition_B1 a0) fz (([] : List (List UInt8)), 0) o1 hl ⟨kr, kr, kr, kr, kr, trivial⟩ (fun _ => rfl) ?_
    rintro m ⟨y1, y2⟩ N h hN
    unfold impl_FormatDecomposition_B1 at h
    dsimp only at h
    refine ls_rs tbOk ?_
    refine evs (ev_bin (c1 := nI y2) (c2 := nI (List.length a0.1 : Int)) rfl rfl rfl (evn ?_))
    refine ls_keep [(3, .box [dL c25_d a0.1, dL ci64 a0.2]), (4, oL 9 cst y1), (17, dL c25_d a0.1), (18, nI (List.length a0.1 : Int)), (19, nI y2), (20, .bool (decide (y2 < (List.length a0.1 : Int))))] ⟨kr, kr, kr, kr, kr, kr, trivial⟩ rfl ?_
    refine ls_seq_k fun K5 hK5 => ?_
    rcases cond_some h with ⟨g6, h⟩ | ⟨g6, h⟩
    · refine ls_cT rfl g6 ?_
      refine ls_skip ?_
      refine hK5 _ (ls_keep [(3, .box [dL c25_d a0.1, dL ci64 a0.2]), (4, oL 9 cst y1), (17, dL c25_d a0.1), (18, nI (List.length a0.1 : Int)), (19, nI y2)] ⟨kr, kr, kr, kr, kr, trivial⟩ rfl ?_)
      refine ls_seq_k fun K7 hK7 => ?_
      refine ls_blk ?_
      refine ls_rs tbOk ?_
      refine evs (ev_mv (c := nI y2) rfl rfl rfl (?_))
      obtain ⟨e8, g9, h⟩ := ob_some h
      refine evs (ev_ia rfl rfl rfl ⟨(geti_some g9).1, (geti_some g9).2.1⟩ (evs (ev_ldEt (i := y2) (n := 1) (off := 0) (v := dL ci64 e8) rfl rfl zc25_d g9 rfl (nb rfl) rfl (evs (ev_as (c := nI y2) rfl rfl rfl (evs (ev_as (c := dL ci64 e8) rfl rfl rfl (evn ?_))))))))
      refine ls_keep [(3, .box [dL c25_d a0.1, dL ci64 a0.2]), (4, oL 9 cst y1), (5, nI y2), (6, dL ci64 e8), (17, dL c25_d a0.1), (18, nI (List.length a0.1 : Int)), (19, nI y2)] ⟨kr, kr, kr, kr, kr, kr, kr, trivial⟩ rfl ?_
      refine ls_rs tbOk ?_
      refine evs (ev_mv (c := dL ci64 e8) rfl rfl rfl (?_))
      obtain ⟨v10, g11, h⟩ := ob_some h
      refine evs (ev_call (era rfl (erD eci64 _) eran) (impl_namesOf_s g11) (?_))
      obtain ⟨g12, h⟩ := chk_some h
      refine evs (ev_bin (c1 := .str [40]) (c2 := .str v10) rfl rfl g12 (?_))
      obtain ⟨g13, h⟩ := chk_some h
      refine evs (ev_bin (c1 := .str ([40] ++ v10)) (c2 := .str [41]) rfl rfl g13 (evs (ev_as (c := .str (([40] ++ v10) ++ [41])) rfl rfl rfl (evn ?_))))
      refine ls_keep [(3, .box [dL c25_d a0.1, dL ci64 a0.2]), (4, oL 9 cst y1), (5, nI y2), (7, .str (([40] ++ v10) ++ [41])), (17, dL c25_d a0.1), (18, nI (List.length a0.1 : Int)), (19, nI y2)] ⟨kr, kr, kr, kr, kr, kr, kr, trivial⟩ rfl ?_
      refine ls_seq_k fun K14 hK14 => ?_
      refine ls_rs tbOk ?_
      refine evs (ev_fa (c1 := .cref 3 0) (v := .cref 3 1) rfl rfl rfl ⟨_, rfl⟩ rfl (evs (ev_ldB (off := 1) (v := dL ci64 a0.2) rfl rfl rfl rfl (nb rfl) rfl (evs (ev_mv (c := nI y2) rfl rfl rfl (?_))))))
      obtain ⟨e15, g16, h⟩ := ob_some h
      refine evs (ev_ia rfl rfl rfl ⟨(geti_some g16).1, (geti_some g16).2.1⟩ (evs (ev_ldE (i := y2) (n := 1) (off := 0) (v := nI e15) rfl rfl zci64 g16 rfl (nb rfl) rfl (evs (ev_bin (c1 := nI e15) (c2 := nI 0) rfl rfl rfl (evn ?_))))))
      refine ls_keep [(3, .box [dL c25_d a0.1, dL ci64 a0.2]), (4, oL 9 cst y1), (5, nI y2), (7, .str (([40] ++ v10) ++ [41])), (17, dL c25_d a0.1), (18, nI (List.length a0.1 : Int)), (19, nI y2), (33, .bool (decide (0 ≤ e15)))] ⟨kr, kr, kr, kr, kr, kr, kr, kr, trivial⟩ rfl ?_
      have kimpl_FormatDecomposition_J2 : ∀ (x17 : List UInt8), impl_FormatDecomposition_J2 (loopF (impl_FormatDecomposition_B1 a0) m) y1 y2 x17 = some o1 → ∀ σ' : PS, okK σ' [(3, .box [dL c25_d a0.1, dL ci64 a0.2]), (4, oL 9 cst y1), (7, .str x17), (17, dL c25_d a0.1), (18, nI (List.length a0.1 : Int)), (19, nI y2)] → K14 σ' := by
        intro x17 h σ' hk
        unfold impl_FormatDecomposition_J2 at h
        refine hK14 _ (ls_keep [(3, .box [dL c25_d a0.1, dL ci64 a0.2]), (4, oL 9 cst y1), (7, .str x17), (17, dL c25_d a0.1), (18, nI (List.length a0.1 : Int)), (19, nI y2)] hk rfl ?_)
        refine ls_rgn tbOk ?_
        refine evs (ev_mvt (c := oL 9 cst y1) rfl rfl rfl (evs (ev_mv (c := .str x17) rfl rfl rfl (evs (ev_bs [.str x17] (cs := [.str x17]) rfl ⟨rfl, trivial⟩ rfl (nb rfl) rfl (?_))))))
        obtain ⟨g18, h⟩ := chk_some h
        refine evs (ev_app (f := cst) (l := y1) (m := [x17]) (c2 := oL 9 cst [x17]) rfl rfl rfl (flat_len zcst [x17]) rfl rfl g18 rfl (evs (ev_as (c := oL 9 cst (y1 ++ [x17])) rfl rfl rfl (evn ?_))))
        refine hK7 _ (ls_keep [(3, .box [dL c25_d a0.1, dL ci64 a0.2]), (4, oL 9 cst (y1 ++ [x17])), (17, dL c25_d a0.1), (18, nI (List.length a0.1 : Int)), (19, nI y2)] ⟨kr, kr, kr, kr, kr, trivial⟩ rfl ?_)
        refine ls_rgn tbOk ?_
        refine evs (ev_bin (c1 := nI y2) (c2 := nI 1) rfl rfl rfl (evs (ev_mv (c := nI (IntKind.i64.wrap (y2 + 1))) rfl rfl rfl (evn ?_))))
        exact hN _ ((y1 ++ [x17]), (IntKind.i64.wrap (y2 + 1))) h ⟨kr, kr, kr, kr, kr, trivial⟩
      rcases cond_some h with ⟨g19, h⟩ | ⟨g19, h⟩
      · refine ls_cT rfl g19 ?_
        refine ls_rgn tbOk ?_
        refine evs (ev_mv (c := .str (([40] ++ v10) ++ [41])) rfl rfl rfl (evs (ev_fa (c1 := .cref 3 0) (v := .cref 3 1) rfl rfl rfl ⟨_, rfl⟩ rfl (evs (ev_ldB (off := 1) (v := dL ci64 a0.2) rfl rfl rfl rfl (nb rfl) rfl (evs (ev_mv (c := nI y2) rfl rfl rfl (?_))))))))
        obtain ⟨e20, g21, h⟩ := ob_some h
        refine evs (ev_ia rfl rfl rfl ⟨(geti_some g21).1, (geti_some g21).2.1⟩ (evs (ev_ldE (i := y2) (n := 1) (off := 0) (v := nI e20) rfl rfl zci64 g21 rfl (nb rfl) rfl (?_))))
        obtain ⟨v22, g23, h⟩ := ob_some h
        refine evs (ev_call (era rfl rfl eran) (impl_FormatInt_s g23) (?_))
        obtain ⟨g24, h⟩ := chk_some h
        refine evs (ev_bin (c1 := .str (([40] ++ v10) ++ [41])) (c2 := .str v22) rfl rfl g24 (evs (ev_as (c := .str ((([40] ++ v10) ++ [41]) ++ v22)) rfl rfl rfl (evn ?_))))
        exact kimpl_FormatDecomposition_J2 ((([40] ++ v10) ++ [41]) ++ v22) h _ ⟨kr, kr, kr, kr, kr, kr, trivial⟩
      · refine ls_cF rfl g19 ?_
        refine ls_skip ?_
        exact kimpl_FormatDecomposition_J2 (([40] ++ v10) ++ [41]) h _ ⟨kr, kr, kr, kr, kr, kr, trivial⟩
    · refine ls_cF rfl g6 ?_
      refine ls_exit ?_
      have q0 := (Option.some.inj h).symm
      have r0 := hr1
      rw [q0] at r0
      exact kXimpl_FormatDecomposition_B1 y1 r0 _ ⟨kr, trivial⟩
def impl_ExplainPlan (a0 : Y91) (a1 : Y96) : Option ((List UInt8)) := obind (impl_IsValidPlan a0 a1) fun v2 => cond (!v2) (some []) (obind (impl_FormatPlanKind a1.1) fun v5 => chk (List.length v5 + List.length [32] ≤ lim) (cond (a1.1 == 1) (obind (impl_formatList a1.2.2.1 [32]) fun v10 => chk (List.length (v5 ++ [32]) + List.length v10 ≤ lim) (some ((v5 ++ [32]) ++ v10))) (cond (a1.1 == 2) (obind (impl_FormatDecomposition a1.2.2.2) fun v14 => chk (List.length (v5 ++ [32]) + List.length v14 ≤ lim) (some ((v5 ++ [32]) ++ v14))) (chk (List.length (v5 ++ [32]) + List.length [40] ≤ lim) (obind (impl_namesOf a1.2.1) fun v18 => chk (List.length ((v5 ++ [32]) ++ [40]) + List.length v18 ≤ lim) (chk (List.length (((v5 ++ [32]) ++ [40]) ++ v18) + List.length [41] ≤ lim) (some ((((v5 ++ [32]) ++ [40]) ++ v18) ++ [41]))))))))
theorem impl_ExplainPlan_s {a0 : Y91} {a1 : Y96} {r : (List UInt8)} (h : impl_ExplainPlan a0 a1 = some r) : SoundAt Try.prog 56 [.agg (c92_ddd a0), .agg (c97_ddddd a1)] (.str r) := by
  unfold impl_ExplainPlan at h
  refine sound_lit tbOk lit56 (nb rfl) rfl ?_
  unfold c56
  refine ls_keep [(0, .agg (c92_ddd a0)), (1, .agg (c97_ddddd a1))] ⟨kr, kr, trivial⟩ rfl ?_
  refine ls_rs tbOk ?_
  refine evs (ev_bx (c1 := .agg (c92_ddd a0)) rfl rfl rfl (evs (ev_bx (c1 := .agg (c97_ddddd a1)) rfl rfl rfl (evs (ev_ac rfl nofun rfl (evn ?_))))))
  refine ls_keep [(2, .box [nI a0.1, dL c195_d a0.2.1, dL ci64 a0.2.2]), (3, .box [nI a1.1, dL ci64 a1.2.1, dL ci64 a1.2.2.1, dL c25_d a1.2.2.2.1, dL ci64 a1.2.2.2.2])] ⟨kr, kr, trivial⟩ rfl ?_
  refine ls_seq_k fun K1 hK1 => ?_
  refine ls_rs tbOk ?_
  refine evs (ev_ldB (off := 0) (v := .agg (c92_ddd a0)) rfl rfl rfl rfl (nb rfl) rfl (evs (ev_ldB (off := 0) (v := .agg (c97_ddddd a1)) rfl rfl rfl rfl (nb rfl) rfl (?_))))
  obtain ⟨v2, g3, h⟩ := ob_some h
  refine evs (ev_call (era rfl (erg (erc rfl (erc (erD ec195_d _) (erc (erD eci64 _) rfl)))) (era rfl (erg (erc rfl (erc (erD eci64 _) (erc (erD eci64 _) (erc (erD ec25_d _) (erc (erD eci64 _) rfl)))))) eran)) (impl_IsValidPlan_s g3) (evs (ev_un (c1 := .bool v2) rfl trivial (evn ?_))))
  refine ls_keep [(3, .box [nI a1.1, dL ci64 a1.2.1, dL ci64 a1.2.2.1, dL c25_d a1.2.2.2.1, dL ci64 a1.2.2.2.2]), (9, .bool (!v2))] ⟨kr, kr, trivial⟩ rfl ?_
  rcases cond_some h with ⟨g4, h⟩ | ⟨g4, h⟩
  · refine ls_cT rfl g4 ?_
    refine ls_rs tbOk ?_
    refine evs (ev_ac rfl nofun rfl (evn ?_))
    refine ls_keep [(4, .str [])] ⟨kr, trivial⟩ rfl ?_
    refine ls_ret ?_
    have hr := Option.some.inj h
    rw [← hr]
    exact ⟨.inl rfl, rfl⟩
  · refine ls_cF rfl g4 ?_
    refine ls_skip ?_
    refine hK1 _ (ls_keep [(3, .box [nI a1.1, dL ci64 a1.2.1, dL ci64 a1.2.2.1, dL c25_d a1.2.2.2.1, dL ci64 a1.2.2.2.2])] ⟨kr, trivial⟩ rfl ?_)
    refine ls_rs tbOk ?_
    refine evs (ev_fa (c1 := .cref 3 0) (v := .cref 3 0) rfl rfl rfl ⟨_, rfl⟩ rfl (evs (ev_ldB (off := 0) (v := nI a1.1) rfl rfl rfl rfl (nb rfl) rfl (?_))))
    obtain ⟨v5, g6, h⟩ := ob_some h
    refine evs (ev_call (era rfl rfl eran) (impl_FormatPlanKind_s g6) (?_))
    obtain ⟨g7, h⟩ := chk_some h
    refine evs (ev_bin (c1 := .str v5) (c2 := .str [32]) rfl rfl g7 (evs (ev_as (c := .str (v5 ++ [32])) rfl rfl rfl (evn ?_))))
    refine ls_keep [(3, .box [nI a1.1, dL ci64 a1.2.1, dL ci64 a1.2.2.1, dL c25_d a1.2.2.2.1, dL ci64 a1.2.2.2.2]), (5, .str (v5 ++ [32]))] ⟨kr, kr, trivial⟩ rfl ?_
    refine ls_seq_k fun K8 hK8 => ?_
    refine ls_rs tbOk ?_
    refine evs (ev_fa (c1 := .cref 3 0) (v := .cref 3 0) rfl rfl rfl ⟨_, rfl⟩ rfl (evs (ev_ldB (off := 0) (v := nI a1.1) rfl rfl rfl rfl (nb rfl) rfl (evn ?_))))
    refine ls_keep [(3, .box [nI a1.1, dL ci64 a1.2.1, dL ci64 a1.2.2.1, dL c25_d a1.2.2.2.1, dL ci64 a1.2.2.2.2]), (5, .str (v5 ++ [32])), (15, nI a1.1)] ⟨kr, kr, kr, trivial⟩ rfl ?_
    refine ls_blk ?_
    refine ls_rs tbOk ?_
    refine evs (ev_bin (c1 := nI a1.1) (c2 := nI 1) rfl rfl rfl (evs (ev_as (c := .bool (a1.1 == 1)) rfl rfl rfl (evn ?_))))
    refine ls_keep [(3, .box [nI a1.1, dL ci64 a1.2.1, dL ci64 a1.2.2.1, dL c25_d a1.2.2.2.1, dL ci64 a1.2.2.2.2]), (5, .str (v5 ++ [32])), (15, nI a1.1), (16, .bool (a1.1 == 1))] ⟨kr, kr, kr, kr, trivial⟩ rfl ?_
    rcases cond_some h with ⟨g9, h⟩ | ⟨g9, h⟩
    · refine ls_cT rfl g9 ?_
      refine ls_rs tbOk ?_
      refine evs (ev_mv (c := .str (v5 ++ [32])) rfl rfl rfl (evs (ev_fa (c1 := .cref 3 0) (v := .cref 3 2) rfl rfl rfl ⟨_, rfl⟩ rfl (evs (ev_fa (c1 := .cref 3 2) (v := .cref 3 2) rfl rfl rfl ⟨_, rfl⟩ rfl (evs (ev_ldB (off := 2) (v := dL ci64 a1.2.2.1) rfl rfl rfl rfl (nb rfl) rfl (?_))))))))
      obtain ⟨v10, g11, h⟩ := ob_some h
      refine evs (ev_call (era rfl (erD eci64 _) (era rfl rfl eran)) (impl_formatList_s g11) (?_))
      obtain ⟨g12, h⟩ := chk_some h
      refine evs (ev_bin (c1 := .str (v5 ++ [32])) (c2 := .str v10) rfl rfl g12 (evs (ev_as (c := .str ((v5 ++ [32]) ++ v10)) rfl rfl rfl (evn ?_))))
      refine ls_keep [(4, .str ((v5 ++ [32]) ++ v10))] ⟨kr, trivial⟩ rfl ?_
      refine ls_ret ?_
      have hr := Option.some.inj h
      rw [← hr]
      exact ⟨.inl rfl, rfl⟩
    · refine ls_cF rfl g9 ?_
      refine ls_rs tbOk ?_
      refine evs (ev_bin (c1 := nI a1.1) (c2 := nI 2) rfl rfl rfl (evs (ev_as (c := .bool (a1.1 == 2)) rfl rfl rfl (evn ?_))))
      refine ls_keep [(3, .box [nI a1.1, dL ci64 a1.2.1, dL ci64 a1.2.2.1, dL c25_d a1.2.2.2.1, dL ci64 a1.2.2.2.2]), (5, .str (v5 ++ [32])), (24, .bool (a1.1 == 2))] ⟨kr, kr, kr, trivial⟩ rfl ?_
      rcases cond_some h with ⟨g13, h⟩ | ⟨g13, h⟩
      · refine ls_cT rfl g13 ?_
        refine ls_rs tbOk ?_
        refine evs (ev_mv (c := .str (v5 ++ [32])) rfl rfl rfl (evs (ev_fa (c1 := .cref 3 0) (v := .cref 3 3) rfl rfl rfl ⟨_, rfl⟩ rfl (evs (ev_ldB (off := 3) (v := .agg (c95_ddd a1.2.2.2)) rfl rfl rfl rfl (nb rfl) rfl (?_))))))
        obtain ⟨v14, g15, h⟩ := ob_some h
        refine evs (ev_call (era rfl (erg (erc (erD ec25_d _) (erc (erD eci64 _) rfl))) eran) (impl_FormatDecomposition_s g15) (?_))
        obtain ⟨g16, h⟩ := chk_some h
        refine evs (ev_bin (c1 := .str (v5 ++ [32])) (c2 := .str v14) rfl rfl g16 (evs (ev_as (c := .str ((v5 ++ [32]) ++ v14)) rfl rfl rfl (evn ?_))))
        refine ls_keep [(4, .str ((v5 ++ [32]) ++ v14))] ⟨kr, trivial⟩ rfl ?_
        refine ls_ret ?_
        have hr := Option.some.inj h
        rw [← hr]
        exact ⟨.inl rfl, rfl⟩
      · refine ls_cF rfl g13 ?_
        refine ls_skip ?_
        refine hK8 _ (ls_keep [(3, .box [nI a1.1, dL ci64 a1.2.1, dL ci64 a1.2.2.1, dL c25_d a1.2.2.2.1, dL ci64 a1.2.2.2.2]), (5, .str (v5 ++ [32]))] ⟨kr, kr, trivial⟩ rfl ?_)
        refine ls_rs tbOk ?_
        refine evs (ev_mv (c := .str (v5 ++ [32])) rfl rfl rfl (?_))
        obtain ⟨g17, h⟩ := chk_some h
        refine evs (ev_bin (c1 := .str (v5 ++ [32])) (c2 := .str [40]) rfl rfl g17 (evs (ev_fa (c1 := .cref 3 0) (v := .cref 3 1) rfl rfl rfl ⟨_, rfl⟩ rfl (evs (ev_ldB (off := 1) (v := dL ci64 a1.2.1) rfl rfl rfl rfl (nb rfl) rfl (?_))))))
        obtain ⟨v18, g19, h⟩ := ob_some h
        refine evs (ev_call (era rfl (erD eci64 _) eran) (impl_namesOf_s g19) (?_))
        obtain ⟨g20, h⟩ := chk_some h
        refine evs (ev_bin (c1 := .str ((v5 ++ [32]) ++ [40])) (c2 := .str v18) rfl rfl g20 (?_))
        obtain ⟨g21, h⟩ := chk_some h
        refine evs (ev_bin (c1 := .str (((v5 ++ [32]) ++ [40]) ++ v18)) (c2 := .str [41]) rfl rfl g21 (evs (ev_as (c := .str ((((v5 ++ [32]) ++ [40]) ++ v18) ++ [41])) rfl rfl rfl (evn ?_))))
        refine ls_keep [(4, .str ((((v5 ++ [32]) ++ [40]) ++ v18) ++ [41]))] ⟨kr, trivial⟩ rfl ?_
        refine ls_ret ?_
        have hr := Option.some.inj h
        rw [← hr]
        exact ⟨.inl rfl, rfl⟩
def c92_dod (x : Y91) : List V := [nI x.1, dL c195_o x.2.1, dL ci64 x.2.2]
theorem zc92_dod (x : Y91) : (c92_dod x).length = 3 := rfl
theorem ec92_dod (x : Y91) : erL (c92_dod x) = c92_ddd x := (erc rfl (erc (erD ec195_o _) (erc (erD eci64 _) rfl)))
def c97_dddod (x : Y96) : List V := [nI x.1, dL ci64 x.2.1, dL ci64 x.2.2.1, dL c25_o x.2.2.2.1, dL ci64 x.2.2.2.2]
theorem zc97_dddod (x : Y96) : (c97_dddod x).length = 5 := rfl
theorem ec97_dddod (x : Y96) : erL (c97_dddod x) = c97_ddddd x := (erc rfl (erc (erD eci64 _) (erc (erD eci64 _) (erc (erD ec25_o _) (erc (erD eci64 _) rfl)))))
def laws_FnExactExplainPlan (a0 : Y78) (a1 : Y85) : Option (Bool) := obind (laws_szQuery a0 1048576) fun v1 => cond (decide (v1 < 0)) (some true) (obind (laws_szPlan a1 v1) fun v5 => cond (decide (v5 < 0)) (some true) (obind (laws_toQuery a0) fun v9 => obind (laws_toPlan a1) fun v11 => obind (spec_ExplainPlan v9 v11) fun v13 => obind (laws_toQuery a0) fun v15 => obind (laws_toPlan a1) fun v17 => obind (impl_ExplainPlan v15 v17) fun v19 => cond (!(v19 == v13)) (some false) (obind (laws_toQuery a0) fun v24 => obind (laws_eqQuery v15 v24) fun v26 => cond (!v26) (some false) (obind (laws_toPlan a1) fun v30 => obind (laws_eqPlan v17 v30) fun v32 => cond (!v32) (some false) (some true)))))
theorem laws_FnExactExplainPlan_s {a0 : Y78} {a1 : Y85} {r : Bool} (h : laws_FnExactExplainPlan a0 a1 = some r) : SoundAt Try.prog 9 [.agg (c79_ddd a0), .agg (c86_ddddd a1)] (.bool r) := by
  unfold laws_FnExactExplainPlan at h
  refine sound_lit tbOk lit9 (nb rfl) rfl ?_
  unfold c9
  refine ls_keep [(0, .agg (c79_ddd a0)), (1, .agg (c86_ddddd a1))] ⟨kr, kr, trivial⟩ rfl ?_
  refine ls_rs tbOk ?_
  refine evs (ev_bx (c1 := .agg (c79_ddd a0)) rfl rfl rfl (evs (ev_bx (c1 := .agg (c86_ddddd a1)) rfl rfl rfl (evs (ev_ac rfl nofun rfl (evn ?_))))))
  refine ls_keep [(2, .box [nI a0.1, dL c231_d a0.2.1, dL ci64 a0.2.2]), (3, .box [nI a1.1, dL ci64 a1.2.1, dL ci64 a1.2.2.1, dL c25_d a1.2.2.2.1, dL ci64 a1.2.2.2.2])] ⟨kr, kr, trivial⟩ rfl ?_
  refine ls_rs tbOk ?_
  refine evs (ev_ac rfl nofun rfl (evn ?_))
  refine ls_keep [(2, .box [nI a0.1, dL c231_d a0.2.1, dL ci64 a0.2.2]), (3, .box [nI a1.1, dL ci64 a1.2.1, dL ci64 a1.2.2.1, dL c25_d a1.2.2.2.1, dL ci64 a1.2.2.2.2]), (5, nI 1048576)] ⟨kr, kr, kr, trivial⟩ rfl ?_
  refine ls_rs tbOk ?_
  refine evs (ev_ldB (off := 0) (v := .agg (c79_ddd a0)) rfl rfl rfl rfl (nb rfl) rfl (evs (ev_mv (c := nI 1048576) rfl rfl rfl (?_))))
  obtain ⟨v1, g2, h⟩ := ob_some h
  refine evs (ev_call (era rfl (erg (erc rfl (erc (erD ec231_d _) (erc (erD eci64 _) rfl)))) (era rfl rfl eran)) (laws_szQuery_s g2) (evs (ev_as (c := nI v1) rfl rfl rfl (evn ?_))))
  refine ls_keep [(2, .box [nI a0.1, dL c231_d a0.2.1, dL ci64 a0.2.2]), (3, .box [nI a1.1, dL ci64 a1.2.1, dL ci64 a1.2.2.1, dL c25_d a1.2.2.2.1, dL ci64 a1.2.2.2.2]), (5, nI v1)] ⟨kr, kr, kr, trivial⟩ rfl ?_
  refine ls_seq_k fun K3 hK3 => ?_
  refine ls_rs tbOk ?_
  refine evs (ev_mv (c := nI v1) rfl rfl rfl (evs (ev_bin (c1 := nI v1) (c2 := nI 0) rfl rfl rfl (evn ?_))))
  refine ls_keep [(2, .box [nI a0.1, dL c231_d a0.2.1, dL ci64 a0.2.2]), (3, .box [nI a1.1, dL ci64 a1.2.1, dL ci64 a1.2.2.1, dL c25_d a1.2.2.2.1, dL ci64 a1.2.2.2.2]), (5, nI v1), (14, .bool (decide (v1 < 0)))] ⟨kr, kr, kr, kr, trivial⟩ rfl ?_
  rcases cond_some h with ⟨g4, h⟩ | ⟨g4, h⟩
  · refine ls_cT rfl g4 ?_
    refine ls_rs tbOk ?_
    refine evs (ev_ac rfl nofun rfl (evn ?_))
    refine ls_keep [(4, .bool true)] ⟨kr, trivial⟩ rfl ?_
    refine ls_ret ?_
    have hr := Option.some.inj h
    rw [← hr]
    exact ⟨.inl rfl, rfl⟩
  · refine ls_cF rfl g4 ?_
    refine ls_skip ?_
    refine hK3 _ (ls_keep [(2, .box [nI a0.1, dL c231_d a0.2.1, dL ci64 a0.2.2]), (3, .box [nI a1.1, dL ci64 a1.2.1, dL ci64 a1.2.2.1, dL c25_d a1.2.2.2.1, dL ci64 a1.2.2.2.2]), (5, nI v1)] ⟨kr, kr, kr, trivial⟩ rfl ?_)
    refine ls_rs tbOk ?_
    refine evs (ev_ldB (off := 0) (v := .agg (c86_ddddd a1)) rfl rfl rfl rfl (nb rfl) rfl (evs (ev_mv (c := nI v1) rfl rfl rfl (?_))))
    obtain ⟨v5, g6, h⟩ := ob_some h
    refine evs (ev_call (era rfl (erg (erc rfl (erc (erD eci64 _) (erc (erD eci64 _) (erc (erD ec25_d _) (erc (erD eci64 _) rfl)))))) (era rfl rfl eran)) (laws_szPlan_s g6) (evs (ev_as (c := nI v5) rfl rfl rfl (evn ?_))))
    refine ls_keep [(2, .box [nI a0.1, dL c231_d a0.2.1, dL ci64 a0.2.2]), (3, .box [nI a1.1, dL ci64 a1.2.1, dL ci64 a1.2.2.1, dL c25_d a1.2.2.2.1, dL ci64 a1.2.2.2.2]), (5, nI v5)] ⟨kr, kr, kr, trivial⟩ rfl ?_
    refine ls_seq_k fun K7 hK7 => ?_
    refine ls_rs tbOk ?_
    refine evs (ev_mv (c := nI v5) rfl rfl rfl (evs (ev_bin (c1 := nI v5) (c2 := nI 0) rfl rfl rfl (evn ?_))))
    refine ls_keep [(2, .box [nI a0.1, dL c231_d a0.2.1, dL ci64 a0.2.2]), (3, .box [nI a1.1, dL ci64 a1.2.1, dL ci64 a1.2.2.1, dL c25_d a1.2.2.2.1, dL ci64 a1.2.2.2.2]), (19, .bool (decide (v5 < 0)))] ⟨kr, kr, kr, trivial⟩ rfl ?_
    rcases cond_some h with ⟨g8, h⟩ | ⟨g8, h⟩
    · refine ls_cT rfl g8 ?_
      refine ls_rs tbOk ?_
      refine evs (ev_ac rfl nofun rfl (evn ?_))
      refine ls_keep [(4, .bool true)] ⟨kr, trivial⟩ rfl ?_
      refine ls_ret ?_
      have hr := Option.some.inj h
      rw [← hr]
      exact ⟨.inl rfl, rfl⟩
    · refine ls_cF rfl g8 ?_
      refine ls_skip ?_
      refine hK7 _ (ls_keep [(2, .box [nI a0.1, dL c231_d a0.2.1, dL ci64 a0.2.2]), (3, .box [nI a1.1, dL ci64 a1.2.1, dL ci64 a1.2.2.1, dL c25_d a1.2.2.2.1, dL ci64 a1.2.2.2.2])] ⟨kr, kr, trivial⟩ rfl ?_)
      refine ls_rd tbOk mixed (by kernel_rfl) ?_
      refine evd rfl rfl (ev_ldB (off := 0) (v := .agg (c79_ddd a0)) rfl rfl rfl rfl (nb rfl) rfl (?_))
      obtain ⟨v9, g10, h⟩ := ob_some h
      refine evd rfl rfl (ev_call (era rfl (erg (erc rfl (erc (erD ec231_d _) (erc (erD eci64 _) rfl)))) eran) (laws_toQuery_s g10) (evd rfl rfl (ev_ldB (off := 0) (v := .agg (c86_ddddd a1)) rfl rfl rfl rfl (nb rfl) rfl (?_))))
      obtain ⟨v11, g12, h⟩ := ob_some h
      refine evd rfl rfl (ev_call (era rfl (erg (erc rfl (erc (erD eci64 _) (erc (erD eci64 _) (erc (erD ec25_d _) (erc (erD eci64 _) rfl)))))) eran) (laws_toPlan_s g12) (?_))
      obtain ⟨v13, g14, h⟩ := ob_some h
      refine evd rfl rfl (ev_call (era rfl (erg (erc rfl (erc (erO ec195_o _) (erc (erO eci64 _) rfl)))) (era rfl (erg (erc rfl (erc (erO eci64 _) (erc (erO eci64 _) (erc (erO ec25_o _) (erc (erO eci64 _) rfl)))))) eran)) (spec_ExplainPlan_s g14) (evd rfl rfl (ev_as (c := .str v13) rfl rfl rfl (evdn ?_))))
      refine ls_keep [(2, .box [nI a0.1, dL c231_d a0.2.1, dL ci64 a0.2.2]), (3, .box [nI a1.1, dL ci64 a1.2.1, dL ci64 a1.2.2.1, dL c25_d a1.2.2.2.1, dL ci64 a1.2.2.2.2]), (6, .str v13)] ⟨kr, kr, kr, trivial⟩ rfl ?_
      refine ls_rs tbOk ?_
      refine evs (ev_ldB (off := 0) (v := .agg (c79_ddd a0)) rfl rfl rfl rfl (nb rfl) rfl (?_))
      obtain ⟨v15, g16, h⟩ := ob_some h
      refine evs (ev_call (era rfl (erg (erc rfl (erc (erD ec231_d _) (erc (erD eci64 _) rfl)))) eran) (laws_toQuery_s g16) (evs (ev_al rfl rfl (evs (ev_st (off := 0) (c1 := .agg (c92_ooo v15)) (cs' := [nI v15.1, oL 195 c195_o v15.2.1, oL 3 ci64 v15.2.2]) rfl rfl rfl rfl rfl rfl (nb rfl) rfl (evn ?_))))))
      refine ls_keep [(2, .box [nI a0.1, dL c231_d a0.2.1, dL ci64 a0.2.2]), (3, .box [nI a1.1, dL ci64 a1.2.1, dL ci64 a1.2.2.1, dL c25_d a1.2.2.2.1, dL ci64 a1.2.2.2.2]), (6, .str v13), (7, .box [nI v15.1, oL 195 c195_o v15.2.1, oL 3 ci64 v15.2.2])] ⟨kr, kr, kr, kr, trivial⟩ rfl ?_
      refine ls_rs tbOk ?_
      refine evs (ev_ldB (off := 0) (v := .agg (c86_ddddd a1)) rfl rfl rfl rfl (nb rfl) rfl (?_))
      obtain ⟨v17, g18, h⟩ := ob_some h
      refine evs (ev_call (era rfl (erg (erc rfl (erc (erD eci64 _) (erc (erD eci64 _) (erc (erD ec25_d _) (erc (erD eci64 _) rfl)))))) eran) (laws_toPlan_s g18) (evs (ev_al rfl rfl (evs (ev_st (off := 0) (c1 := .agg (c97_ooooo v17)) (cs' := [nI v17.1, oL 3 ci64 v17.2.1, oL 3 ci64 v17.2.2.1, oL 25 c25_o v17.2.2.2.1, oL 3 ci64 v17.2.2.2.2]) rfl rfl rfl rfl rfl rfl (nb rfl) rfl (evn ?_))))))
      refine ls_keep [(2, .box [nI a0.1, dL c231_d a0.2.1, dL ci64 a0.2.2]), (3, .box [nI a1.1, dL ci64 a1.2.1, dL ci64 a1.2.2.1, dL c25_d a1.2.2.2.1, dL ci64 a1.2.2.2.2]), (6, .str v13), (7, .box [nI v15.1, oL 195 c195_o v15.2.1, oL 3 ci64 v15.2.2]), (8, .box [nI v17.1, oL 3 ci64 v17.2.1, oL 3 ci64 v17.2.2.1, oL 25 c25_o v17.2.2.2.1, oL 3 ci64 v17.2.2.2.2])] ⟨kr, kr, kr, kr, kr, trivial⟩ rfl ?_
      refine ls_rs tbOk ?_
      refine evs (ev_ldB (off := 0) (v := .agg (c92_dod v15)) rfl rfl rfl rfl (nb rfl) rfl (evs (ev_ldB (off := 0) (v := .agg (c97_dddod v17)) rfl rfl rfl rfl (nb rfl) rfl (?_))))
      obtain ⟨v19, g20, h⟩ := ob_some h
      refine evs (ev_call (era rfl (erg (erc rfl (erc (erD ec195_o _) (erc (erD eci64 _) rfl)))) (era rfl (erg (erc rfl (erc (erD eci64 _) (erc (erD eci64 _) (erc (erD ec25_o _) (erc (erD eci64 _) rfl)))))) eran)) (impl_ExplainPlan_s g20) (evs (ev_as (c := .str v19) rfl rfl rfl (evn ?_))))
      refine ls_keep [(2, .box [nI a0.1, dL c231_d a0.2.1, dL ci64 a0.2.2]), (3, .box [nI a1.1, dL ci64 a1.2.1, dL ci64 a1.2.2.1, dL c25_d a1.2.2.2.1, dL ci64 a1.2.2.2.2]), (6, .str v13), (7, .box [nI v15.1, oL 195 c195_o v15.2.1, oL 3 ci64 v15.2.2]), (8, .box [nI v17.1, oL 3 ci64 v17.2.1, oL 3 ci64 v17.2.2.1, oL 25 c25_o v17.2.2.2.1, oL 3 ci64 v17.2.2.2.2]), (9, .str v19)] ⟨kr, kr, kr, kr, kr, kr, trivial⟩ rfl ?_
      refine ls_seq_k fun K21 hK21 => ?_
      refine ls_rs tbOk ?_
      refine evs (ev_mv (c := .str v19) rfl rfl rfl (evs (ev_mv (c := .str v13) rfl rfl rfl (evs (ev_bin (c1 := .str v19) (c2 := .str v13) rfl rfl trivial (evn ?_))))))
      refine ls_keep [(2, .box [nI a0.1, dL c231_d a0.2.1, dL ci64 a0.2.2]), (3, .box [nI a1.1, dL ci64 a1.2.1, dL ci64 a1.2.2.1, dL c25_d a1.2.2.2.1, dL ci64 a1.2.2.2.2]), (7, .box [nI v15.1, oL 195 c195_o v15.2.1, oL 3 ci64 v15.2.2]), (8, .box [nI v17.1, oL 3 ci64 v17.2.1, oL 3 ci64 v17.2.2.1, oL 25 c25_o v17.2.2.2.1, oL 3 ci64 v17.2.2.2.2]), (34, .bool (!(v19 == v13)))] ⟨kr, kr, kr, kr, kr, trivial⟩ rfl ?_
      rcases cond_some h with ⟨g22, h⟩ | ⟨g22, h⟩
      · refine ls_cT rfl g22 ?_
        refine ls_rs tbOk ?_
        refine evs (ev_ac rfl nofun rfl (evn ?_))
        refine ls_keep [(4, .bool false)] ⟨kr, trivial⟩ rfl ?_
        refine ls_ret ?_
        have hr := Option.some.inj h
        rw [← hr]
        exact ⟨.inl rfl, rfl⟩
      · refine ls_cF rfl g22 ?_
        refine ls_skip ?_
        refine hK21 _ (ls_keep [(2, .box [nI a0.1, dL c231_d a0.2.1, dL ci64 a0.2.2]), (3, .box [nI a1.1, dL ci64 a1.2.1, dL ci64 a1.2.2.1, dL c25_d a1.2.2.2.1, dL ci64 a1.2.2.2.2]), (7, .box [nI v15.1, oL 195 c195_o v15.2.1, oL 3 ci64 v15.2.2]), (8, .box [nI v17.1, oL 3 ci64 v17.2.1, oL 3 ci64 v17.2.2.1, oL 25 c25_o v17.2.2.2.1, oL 3 ci64 v17.2.2.2.2])] ⟨kr, kr, kr, kr, trivial⟩ rfl ?_)
        refine ls_seq_k fun K23 hK23 => ?_
        refine ls_rd tbOk mixed (by kernel_rfl) ?_
        refine evd rfl rfl (ev_ldB (off := 0) (v := .agg (c92_dod v15)) rfl rfl rfl rfl (nb rfl) rfl (evd rfl rfl (ev_ldB (off := 0) (v := .agg (c79_ddd a0)) rfl rfl rfl rfl (nb rfl) rfl (?_))))
        obtain ⟨v24, g25, h⟩ := ob_some h
        refine evd rfl rfl (ev_call (era rfl (erg (erc rfl (erc (erD ec231_d _) (erc (erD eci64 _) rfl)))) eran) (laws_toQuery_s g25) (?_))
        obtain ⟨v26, g27, h⟩ := ob_some h
        refine evd rfl rfl (ev_call (era rfl (erg (erc rfl (erc (erD ec195_o _) (erc (erD eci64 _) rfl)))) (era rfl (erg (erc rfl (erc (erO ec195_o _) (erc (erO eci64 _) rfl)))) eran)) (laws_eqQuery_s g27) (evd rfl rfl (ev_un (c1 := .bool v26) rfl trivial (evdn ?_))))
        refine ls_keep [(3, .box [nI a1.1, dL ci64 a1.2.1, dL ci64 a1.2.2.1, dL c25_d a1.2.2.2.1, dL ci64 a1.2.2.2.2]), (8, .box [nI v17.1, oL 3 ci64 v17.2.1, oL 3 ci64 v17.2.2.1, oL 25 c25_o v17.2.2.2.1, oL 3 ci64 v17.2.2.2.2]), (39, .bool (!v26))] ⟨kr, kr, kr, trivial⟩ rfl ?_
        rcases cond_some h with ⟨g28, h⟩ | ⟨g28, h⟩
        · refine ls_cT rfl g28 ?_
          refine ls_rs tbOk ?_
          refine evs (ev_ac rfl nofun rfl (evn ?_))
          refine ls_keep [(4, .bool false)] ⟨kr, trivial⟩ rfl ?_
          refine ls_ret ?_
          have hr := Option.some.inj h
          rw [← hr]
          exact ⟨.inl rfl, rfl⟩
        · refine ls_cF rfl g28 ?_
          refine ls_skip ?_
          refine hK23 _ (ls_keep [(3, .box [nI a1.1, dL ci64 a1.2.1, dL ci64 a1.2.2.1, dL c25_d a1.2.2.2.1, dL ci64 a1.2.2.2.2]), (8, .box [nI v17.1, oL 3 ci64 v17.2.1, oL 3 ci64 v17.2.2.1, oL 25 c25_o v17.2.2.2.1, oL 3 ci64 v17.2.2.2.2])] ⟨kr, kr, trivial⟩ rfl ?_)
          refine ls_seq_k fun K29 hK29 => ?_
          refine ls_rd tbOk mixed (by kernel_rfl) ?_
          refine evd rfl rfl (ev_ldB (off := 0) (v := .agg (c97_dddod v17)) rfl rfl rfl rfl (nb rfl) rfl (evd rfl rfl (ev_ldB (off := 0) (v := .agg (c86_ddddd a1)) rfl rfl rfl rfl (nb rfl) rfl (?_))))
          obtain ⟨v30, g31, h⟩ := ob_some h
          refine evd rfl rfl (ev_call (era rfl (erg (erc rfl (erc (erD eci64 _) (erc (erD eci64 _) (erc (erD ec25_d _) (erc (erD eci64 _) rfl)))))) eran) (laws_toPlan_s g31) (?_))
          obtain ⟨v32, g33, h⟩ := ob_some h
          refine evd rfl rfl (ev_call (era rfl (erg (erc rfl (erc (erD eci64 _) (erc (erD eci64 _) (erc (erD ec25_o _) (erc (erD eci64 _) rfl)))))) (era rfl (erg (erc rfl (erc (erO eci64 _) (erc (erO eci64 _) (erc (erO ec25_o _) (erc (erO eci64 _) rfl)))))) eran)) (laws_eqPlan_s g33) (evd rfl rfl (ev_un (c1 := .bool v32) rfl trivial (evdn ?_))))
          refine ls_keep [(44, .bool (!v32))] ⟨kr, trivial⟩ rfl ?_
          rcases cond_some h with ⟨g34, h⟩ | ⟨g34, h⟩
          · refine ls_cT rfl g34 ?_
            refine ls_rs tbOk ?_
            refine evs (ev_ac rfl nofun rfl (evn ?_))
            refine ls_keep [(4, .bool false)] ⟨kr, trivial⟩ rfl ?_
            refine ls_ret ?_
            have hr := Option.some.inj h
            rw [← hr]
            exact ⟨.inl rfl, rfl⟩
          · refine ls_cF rfl g34 ?_
            refine ls_skip ?_
            refine hK29 _ (ls_keep [] trivial rfl ?_)
            refine ls_rs tbOk ?_
            refine evs (ev_ac rfl nofun rfl (evn ?_))
            refine ls_keep [(4, .bool true)] ⟨kr, trivial⟩ rfl ?_
            refine ls_ret ?_
            have hr := Option.some.inj h
            rw [← hr]
            exact ⟨.inl rfl, rfl⟩
end Go.Proofs.Ytkcfahfladikkaa
