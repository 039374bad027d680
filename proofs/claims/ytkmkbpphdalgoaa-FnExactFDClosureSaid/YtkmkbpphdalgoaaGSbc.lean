/-
  Functions of the program as typed functions, printed by gen.py, and that the program's functions do what they say. No conditions.
-/
import Derived.Test.YtkmkbpphdalgoaaGSc
namespace Go.Proofs.Ytkmkbpphdalgoaa
open Go.RowKit
set_option linter.unusedVariables false
set_option maxRecDepth 100000
set_option maxHeartbeats 1000000
def impl_IsValidQuery_B2 (a0 : Int × (List ((List UInt8) × (List Int))) × (List Int)) (e17 : (List UInt8) × (List Int)) (rec : ((List Bool) × Int) → Option (Sum ((List Bool)) (Bool))) (s : (List Bool) × Int) : Option (Sum ((List Bool)) (Bool)) := match s with
  | (y7, y8) => cond (decide (y8 < (List.length e17.2 : Int))) (obind (geti e17.2 y8) fun e30 => obind (impl_within e30 0 (IntKind.i64.wrap (a0.1 - 1))) fun v33 => cond (!v33) (some (.inr false)) (obind (geti y7 e30) fun e36 => rec ((seti y7 e30 true), (IntKind.i64.wrap (y8 + 1))))) (some (.inl y7))
def impl_IsValidQuery_B1 (a0 : Int × (List ((List UInt8) × (List Int))) × (List Int)) (rec : ((List Bool) × Int) → Option (Sum ((List Bool)) (Bool))) (s : (List Bool) × Int) : Option (Sum ((List Bool)) (Bool)) := match s with
  | (y3, y4) => cond (decide (y4 < (List.length a0.2.1 : Int))) (obind (geti a0.2.1 y4) fun e17 => obind (impl_IsValidName e17.1) fun v20 => cond (!v20) (some (.inr false)) (obind (impl_within (List.length e17.2 : Int) 1 5) fun v23 => cond (!v23) (some (.inr false)) (obind (loopF (impl_IsValidQuery_B2 a0 e17) fz (y3, 0)) fun o2 => (match o2 with
  | .inl z26 => (rec (z26, (IntKind.i64.wrap (y4 + 1))))
  | .inr r => some (.inr r))))) (some (.inl y3))
def impl_IsValidQuery_B3 (z13 : List Bool) (rec : Int → Option (Sum (Unit) (Bool))) (y9 : Int) : Option (Sum (Unit) (Bool)) := cond (decide (y9 < (List.length z13 : Int))) (obind (geti z13 y9) fun e42 => cond (!e42) (some (.inr false)) (rec (IntKind.i64.wrap (y9 + 1)))) (some (.inl ()))
def impl_IsValidQuery (a0 : Int × (List ((List UInt8) × (List Int))) × (List Int)) : Option (Bool) := obind (impl_within a0.1 1 5) fun v2 => cond (!v2) (some false) (obind (impl_within (List.length a0.2.1 : Int) 1 4) fun v5 => cond (!v5) (some false) (obind (impl_isSetOf a0.2.2 a0.1) fun v8 => cond (!v8) (some false) (chk ((0 : Int) ≤ a0.1 ∧ Int.toNat a0.1 ≤ lim) (obind (loopF (impl_IsValidQuery_B1 a0) fz ((List.replicate (Int.toNat a0.1) (false : Bool)), 0)) fun o1 => (match o1 with
  | .inl z13 => (obind (loopF (impl_IsValidQuery_B3 z13) fz 0) fun o3 => (match o3 with
  | .inl _ => (some true)
  | .inr r => some r))
  | .inr r => some r)))))
theorem impl_IsValidQuery_s {a0 : Int × (List ((List UInt8) × (List Int))) × (List Int)} {r : Bool} (h : impl_IsValidQuery a0 = some r) : SoundAt Try.prog 125 [.agg [.int .i64 a0.1, .dat a0.2.1.length (a0.2.1.flatMap c150_d), .dat a0.2.2.length (a0.2.2.flatMap ci64)]] (.bool r) := by
  unfold impl_IsValidQuery at h
  refine sound_lit tbOk lit125 (Nat.le_of_ble_eq_true rfl) rfl ?_
  unfold c125
  refine ls_keep [(0, .agg [.int .i64 a0.1, .dat a0.2.1.length (a0.2.1.flatMap c150_d), .dat a0.2.2.length (a0.2.2.flatMap ci64)])] ⟨kr, trivial⟩ rfl ?_
  refine ls_rs tbOk ?_
  refine evs (ev_bx (c1 := .agg [.int .i64 a0.1, .dat a0.2.1.length (a0.2.1.flatMap c150_d), .dat a0.2.2.length (a0.2.2.flatMap ci64)]) rfl rfl rfl (evs (ev_ac rfl nofun rfl (evn ?_))))
  refine ls_keep [(1, .box [.int .i64 a0.1, .dat a0.2.1.length (a0.2.1.flatMap c150_d), .dat a0.2.2.length (a0.2.2.flatMap ci64)])] ⟨kr, trivial⟩ rfl ?_
  refine ls_rs tbOk ?_
  refine evs (ev_fa (c1 := .cref 1 0) (v := .cref 1 0) rfl rfl rfl ⟨_, rfl⟩ rfl (evs (ev_ldB (off := 0) (v := .int .i64 a0.1) rfl rfl rfl rfl (Nat.le_of_ble_eq_true rfl) rfl (evs (ev_as (c := .int .i64 a0.1) rfl rfl rfl (evn ?_))))))
  refine ls_keep [(1, .box [.int .i64 a0.1, .dat a0.2.1.length (a0.2.1.flatMap c150_d), .dat a0.2.2.length (a0.2.2.flatMap ci64)]), (3, .int .i64 a0.1)] ⟨kr, kr, trivial⟩ rfl ?_
  refine ls_seq_k fun K1 hK1 => ?_
  refine ls_rs tbOk ?_
  refine evs (ev_mv (c := .int .i64 a0.1) rfl rfl rfl (?_))
  obtain ⟨v2, g3, h⟩ := ob_some h
  refine evs (ev_call (era rfl rfl (era rfl rfl (era rfl rfl eran))) (impl_within_s g3) (evs (ev_un (c1 := .bool v2) rfl trivial (evs (ev_mv (c := .bool (!v2)) rfl rfl rfl (?_))))))
  rcases cond_some h with ⟨g4, h⟩ | ⟨g4, h⟩
  · refine evs (ev_gs rfl rfl (isb_T g4) (evs (ev_gs rfl rfl (isb_T g4) (evs (ev_gs rfl rfl (isb_T g4) (evs (ev_gs rfl rfl (isb_T g4) (evs (ev_gs rfl rfl (isb_T g4) (evs (ev_pkT (c1 := .bool true) rfl g4 rfl rfl (evs (ev_mv (c := .bool true) rfl rfl rfl (evs (ev_gs rfl rfl rfl (evs (ev_gs rfl rfl rfl (evs (ev_gs rfl rfl rfl (evs (ev_gs rfl rfl rfl (evs (ev_gs rfl rfl rfl (evs (ev_pkT (c1 := .bool true) rfl rfl rfl rfl (evn ?_))))))))))))))))))))))))))
    refine ls_keep [(1, .box [.int .i64 a0.1, .dat a0.2.1.length (a0.2.1.flatMap c150_d), .dat a0.2.2.length (a0.2.2.flatMap ci64)]), (3, .int .i64 a0.1), (29, .bool true)] ⟨kr, kr, kr, trivial⟩ rfl ?_
    refine ls_cT rfl rfl ?_
    refine ls_rs tbOk ?_
    refine evs (ev_ac rfl nofun rfl (evn ?_))
    refine ls_keep [(2, .bool false)] ⟨kr, trivial⟩ rfl ?_
    refine ls_ret ?_
    have hr := Option.some.inj h
    rw [← hr]
    exact ⟨.inl rfl, rfl⟩
  · refine evs (ev_gr rfl (congrArg V.bool g4) (ev_fa (c1 := .cref 1 0) (v := .cref 1 1) rfl rfl rfl ⟨_, rfl⟩ rfl (evs (ev_gr rfl (congrArg V.bool g4) (ev_ldB (off := 1) (v := .dat a0.2.1.length (a0.2.1.flatMap c150_d)) rfl rfl rfl rfl (Nat.le_of_ble_eq_true rfl) rfl (evs (ev_gr rfl (congrArg V.bool g4) (ev_len (c1 := .dat a0.2.1.length (a0.2.1.flatMap c150_d)) rfl rfl rfl (?_)))))))))
    obtain ⟨v5, g6, h⟩ := ob_some h
    refine evs (ev_gr rfl (congrArg V.bool g4) (ev_call (era rfl rfl (era rfl rfl (era rfl rfl eran))) (impl_within_s g6) (evs (ev_gr rfl (congrArg V.bool g4) (ev_un (c1 := .bool v5) rfl trivial (evs (ev_pkF (c1 := .bool (!v5)) rfl g4 rfl rfl (evs (ev_mv (c := .bool (!v5)) rfl rfl rfl (?_))))))))))
    rcases cond_some h with ⟨g7, h⟩ | ⟨g7, h⟩
    · refine evs (ev_gs rfl rfl (isb_T g7) (evs (ev_gs rfl rfl (isb_T g7) (evs (ev_gs rfl rfl (isb_T g7) (evs (ev_gs rfl rfl (isb_T g7) (evs (ev_gs rfl rfl (isb_T g7) (evs (ev_pkT (c1 := .bool true) rfl g7 rfl rfl (evn ?_))))))))))))
      refine ls_keep [(1, .box [.int .i64 a0.1, .dat a0.2.1.length (a0.2.1.flatMap c150_d), .dat a0.2.2.length (a0.2.2.flatMap ci64)]), (3, .int .i64 a0.1), (29, .bool true)] ⟨kr, kr, kr, trivial⟩ rfl ?_
      refine ls_cT rfl rfl ?_
      refine ls_rs tbOk ?_
      refine evs (ev_ac rfl nofun rfl (evn ?_))
      refine ls_keep [(2, .bool false)] ⟨kr, trivial⟩ rfl ?_
      refine ls_ret ?_
      have hr := Option.some.inj h
      rw [← hr]
      exact ⟨.inl rfl, rfl⟩
    · refine evs (ev_gr rfl (congrArg V.bool g7) (ev_fa (c1 := .cref 1 0) (v := .cref 1 2) rfl rfl rfl ⟨_, rfl⟩ rfl (evs (ev_gr rfl (congrArg V.bool g7) (ev_ldB (off := 2) (v := .dat a0.2.2.length (a0.2.2.flatMap ci64)) rfl rfl rfl rfl (Nat.le_of_ble_eq_true rfl) rfl (evs (ev_gr rfl (congrArg V.bool g7) (ev_mv (c := .int .i64 a0.1) rfl rfl rfl (?_)))))))))
      obtain ⟨v8, g9, h⟩ := ob_some h
      refine evs (ev_gr rfl (congrArg V.bool g7) (ev_call (era rfl (erD eci64 _) (era rfl rfl eran)) (impl_isSetOf_s g9) (evs (ev_gr rfl (congrArg V.bool g7) (ev_un (c1 := .bool v8) rfl trivial (evs (ev_pkF (c1 := .bool (!v8)) rfl g7 rfl rfl (evn ?_))))))))
      refine ls_keep [(1, .box [.int .i64 a0.1, .dat a0.2.1.length (a0.2.1.flatMap c150_d), .dat a0.2.2.length (a0.2.2.flatMap ci64)]), (3, .int .i64 a0.1), (29, .bool (!v8))] ⟨kr, kr, kr, trivial⟩ rfl ?_
      rcases cond_some h with ⟨g10, h⟩ | ⟨g10, h⟩
      · refine ls_cT rfl g10 ?_
        refine ls_rs tbOk ?_
        refine evs (ev_ac rfl nofun rfl (evn ?_))
        refine ls_keep [(2, .bool false)] ⟨kr, trivial⟩ rfl ?_
        refine ls_ret ?_
        have hr := Option.some.inj h
        rw [← hr]
        exact ⟨.inl rfl, rfl⟩
      · refine ls_cF rfl g10 ?_
        refine ls_skip ?_
        refine hK1 _ (ls_keep [(1, .box [.int .i64 a0.1, .dat a0.2.1.length (a0.2.1.flatMap c150_d), .dat a0.2.2.length (a0.2.2.flatMap ci64)]), (3, .int .i64 a0.1)] ⟨kr, kr, trivial⟩ rfl ?_)
        refine ls_rs tbOk ?_
        refine evs (ev_mv (c := .int .i64 a0.1) rfl rfl rfl (?_))
        obtain ⟨g11, h⟩ := chk_some h
        refine evs (ev_mku (f := cbl) (z := (false : Bool)) rfl rfl rfl rfl rfl rfl g11 rfl (evs (ev_asu rfl rfl rfl (evn ?_))))
        refine ls_keep [(1, .box [.int .i64 a0.1, .dat a0.2.1.length (a0.2.1.flatMap c150_d), .dat a0.2.2.length (a0.2.2.flatMap ci64)]), (3, .int .i64 a0.1), (4, .uni 4 (List.replicate (Int.toNat a0.1) (false : Bool)).length ((List.replicate (Int.toNat a0.1) (false : Bool)).flatMap cbl))] ⟨kr, kr, kr, trivial⟩ rfl ?_
        refine ls_seq_k fun K12 hK12 => ?_
        refine ls_rs tbOk ?_
        refine evs (ev_fa (c1 := .cref 1 0) (v := .cref 1 1) rfl rfl rfl ⟨_, rfl⟩ rfl (evs (ev_ldB (off := 1) (v := .dat a0.2.1.length (a0.2.1.flatMap c150_d)) rfl rfl rfl rfl (Nat.le_of_ble_eq_true rfl) rfl (evs (ev_len (c1 := .dat a0.2.1.length (a0.2.1.flatMap c150_d)) rfl rfl rfl (evs (ev_mc rfl rfl (evn ?_))))))))
        refine ls_keep [(3, .int .i64 a0.1), (4, .uni 4 (List.replicate (Int.toNat a0.1) (false : Bool)).length ((List.replicate (Int.toNat a0.1) (false : Bool)).flatMap cbl)), (33, .dat a0.2.1.length (a0.2.1.flatMap c150_d)), (34, .int .i64 (List.length a0.2.1 : Int)), (35, .int .i64 0)] ⟨kr, kr, kr, kr, kr, trivial⟩ rfl ?_
        obtain ⟨o1, hl, hr1⟩ := ob_some h
        clear h
        have kXimpl_IsValidQuery_B1 : ∀ (z13 : List Bool), (obind (loopF (impl_IsValidQuery_B3 z13) fz 0) fun o3 => (match o3 with
  | .inl _ => (some true)
  | .inr r => some r)) = some r → ∀ σ' : PS, okK σ' [(4, .uni 4 z13.length (z13.flatMap cbl))] → K12 σ' := by
          intro z13 h σ' hk
          refine hK12 _ (ls_keep [(4, .uni 4 z13.length (z13.flatMap cbl))] hk rfl ?_)
          refine ls_seq_k fun K38 hK38 => ?_
          refine ls_rs tbOk ?_
          refine evs (ev_mvu rfl rfl (evs (ev_lenu rfl rfl rfl (evs (ev_mc rfl rfl (evn ?_))))))
          refine ls_keep [(4, .uni 4 z13.length (z13.flatMap cbl)), (67, .same 4), (68, .int .i64 (List.length z13 : Int)), (69, .int .i64 0)] ⟨kr, kr, kr, kr, trivial⟩ rfl ?_
          obtain ⟨o3, hl, hr3⟩ := ob_some h
          clear h
          have kXimpl_IsValidQuery_B3 : ∀ (_ : Unit), (some true) = some r → ∀ σ' : PS, okK σ' [] → K38 σ' := by
            intro _ h σ' hk
            refine hK38 _ (ls_keep [] hk rfl ?_)
            refine ls_rs tbOk ?_
            refine evs (ev_ac rfl nofun rfl (evn ?_))
            refine ls_keep [(2, .bool true)] ⟨kr, trivial⟩ rfl ?_
            refine ls_ret ?_
            have hr := Option.some.inj h
            rw [← hr]
            exact ⟨.inl rfl, rfl⟩
          refine ls_rec (fun (y9 : Int) => [(4, .uni 4 z13.length (z13.flatMap cbl)), (67, .same 4), (68, .int .i64 (List.length z13 : Int)), (69, .int .i64 y9)]) (impl_IsValidQuery_B3 z13) fz 0 o3 hl ⟨kr, kr, kr, kr, trivial⟩ (fun _ => rfl) ?_
          rintro m y9 N h hN
          unfold impl_IsValidQuery_B3 at h
          refine ls_rs tbOk ?_
          refine evs (ev_bin (c1 := .int .i64 y9) (c2 := .int .i64 (List.length z13 : Int)) rfl rfl rfl (evn ?_))
          refine ls_keep [(4, .uni 4 z13.length (z13.flatMap cbl)), (67, .same 4), (68, .int .i64 (List.length z13 : Int)), (69, .int .i64 y9), (70, .bool (decide (y9 < (List.length z13 : Int))))] ⟨kr, kr, kr, kr, kr, trivial⟩ rfl ?_
          refine ls_seq_k fun K39 hK39 => ?_
          rcases cond_some h with ⟨g40, h⟩ | ⟨g40, h⟩
          · refine ls_cT rfl g40 ?_
            refine ls_skip ?_
            refine hK39 _ (ls_keep [(4, .uni 4 z13.length (z13.flatMap cbl)), (67, .same 4), (68, .int .i64 (List.length z13 : Int)), (69, .int .i64 y9)] ⟨kr, kr, kr, kr, trivial⟩ rfl ?_)
            refine ls_seq_k fun K41 hK41 => ?_
            refine ls_blk ?_
            refine ls_rs tbOk ?_
            obtain ⟨e42, g43, h⟩ := ob_some h
            refine evs (ev_iau rfl rfl rfl rfl ⟨(geti_some g43).1, (geti_some g43).2.1⟩ (evs (ev_ldU (off := 0) (v := .bool e42) rfl rfl rfl zcbl g43 rfl (Nat.le_of_ble_eq_true rfl) rfl (evs (ev_as (c := .bool e42) rfl rfl rfl (evn ?_))))))
            refine ls_keep [(4, .uni 4 z13.length (z13.flatMap cbl)), (10, .bool e42), (67, .same 4), (68, .int .i64 (List.length z13 : Int)), (69, .int .i64 y9)] ⟨kr, kr, kr, kr, kr, trivial⟩ rfl ?_
            refine ls_rs tbOk ?_
            refine evs (ev_mv (c := .bool e42) rfl rfl rfl (evs (ev_un (c1 := .bool e42) rfl trivial (evn ?_))))
            refine ls_keep [(4, .uni 4 z13.length (z13.flatMap cbl)), (67, .same 4), (68, .int .i64 (List.length z13 : Int)), (69, .int .i64 y9), (74, .bool (!e42))] ⟨kr, kr, kr, kr, kr, trivial⟩ rfl ?_
            rcases cond_some h with ⟨g44, h⟩ | ⟨g44, h⟩
            · refine ls_cT rfl g44 ?_
              refine ls_rs tbOk ?_
              refine evs (ev_ac rfl nofun rfl (evn ?_))
              refine ls_keep [(2, .bool false)] ⟨kr, trivial⟩ rfl ?_
              refine ls_ret ?_
              have q0 := (Option.some.inj h).symm
              have r0 := hr3
              rw [q0] at r0
              have hr := Option.some.inj r0
              rw [← hr]
              exact ⟨.inl rfl, rfl⟩
            · refine ls_cF rfl g44 ?_
              refine ls_skip ?_
              refine hK41 _ (ls_keep [(4, .uni 4 z13.length (z13.flatMap cbl)), (67, .same 4), (68, .int .i64 (List.length z13 : Int)), (69, .int .i64 y9)] ⟨kr, kr, kr, kr, trivial⟩ rfl ?_)
              refine ls_rgn tbOk ?_
              refine evs (ev_bin (c1 := .int .i64 y9) (c2 := .int .i64 1) rfl rfl rfl (evs (ev_mv (c := .int .i64 (IntKind.i64.wrap (y9 + 1))) rfl rfl rfl (evn ?_))))
              exact hN _ (IntKind.i64.wrap (y9 + 1)) h ⟨kr, kr, kr, kr, trivial⟩
          · refine ls_cF rfl g40 ?_
            refine ls_exit ?_
            have q0 := (Option.some.inj h).symm
            have r0 := hr3
            rw [q0] at r0
            exact kXimpl_IsValidQuery_B3 () r0 _ trivial
        refine ls_rec (fun (s : (List Bool) × Int) => match s with | (y3, y4) => [(3, .int .i64 a0.1), (4, .uni 4 y3.length (y3.flatMap cbl)), (33, .dat a0.2.1.length (a0.2.1.flatMap c150_d)), (34, .int .i64 (List.length a0.2.1 : Int)), (35, .int .i64 y4)]) (impl_IsValidQuery_B1 a0) fz ((List.replicate (Int.toNat a0.1) (false : Bool)), 0) o1 hl ⟨kr, kr, kr, kr, kr, trivial⟩ (fun _ => rfl) ?_
        rintro m ⟨y3, y4⟩ N h hN
        unfold impl_IsValidQuery_B1 at h
        dsimp only at h
        refine ls_rs tbOk ?_
        refine evs (ev_bin (c1 := .int .i64 y4) (c2 := .int .i64 (List.length a0.2.1 : Int)) rfl rfl rfl (evn ?_))
        refine ls_keep [(3, .int .i64 a0.1), (4, .uni 4 y3.length (y3.flatMap cbl)), (33, .dat a0.2.1.length (a0.2.1.flatMap c150_d)), (34, .int .i64 (List.length a0.2.1 : Int)), (35, .int .i64 y4), (36, .bool (decide (y4 < (List.length a0.2.1 : Int))))] ⟨kr, kr, kr, kr, kr, kr, trivial⟩ rfl ?_
        refine ls_seq_k fun K14 hK14 => ?_
        rcases cond_some h with ⟨g15, h⟩ | ⟨g15, h⟩
        · refine ls_cT rfl g15 ?_
          refine ls_skip ?_
          refine hK14 _ (ls_keep [(3, .int .i64 a0.1), (4, .uni 4 y3.length (y3.flatMap cbl)), (33, .dat a0.2.1.length (a0.2.1.flatMap c150_d)), (34, .int .i64 (List.length a0.2.1 : Int)), (35, .int .i64 y4)] ⟨kr, kr, kr, kr, kr, trivial⟩ rfl ?_)
          refine ls_seq_k fun K16 hK16 => ?_
          refine ls_blk ?_
          refine ls_rs tbOk ?_
          obtain ⟨e17, g18, h⟩ := ob_some h
          refine evs (ev_ia rfl rfl rfl ⟨(geti_some g18).1, (geti_some g18).2.1⟩ (evs (ev_ldEt (off := 0) (v := .agg [.str e17.1, .dat e17.2.length (e17.2.flatMap ci64)]) rfl rfl zc150_d g18 rfl (Nat.le_of_ble_eq_true rfl) rfl (evs (ev_al rfl rfl (evs (ev_st (off := 0) (c1 := .agg [.str e17.1, .dat e17.2.length (e17.2.flatMap ci64)]) (cs' := [.str e17.1, .dat e17.2.length (e17.2.flatMap ci64)]) rfl rfl rfl rfl rfl rfl (Nat.le_of_ble_eq_true rfl) rfl (evn ?_))))))))
          refine ls_keep [(3, .int .i64 a0.1), (4, .uni 4 y3.length (y3.flatMap cbl)), (6, .box [.str e17.1, .dat e17.2.length (e17.2.flatMap ci64)]), (33, .dat a0.2.1.length (a0.2.1.flatMap c150_d)), (34, .int .i64 (List.length a0.2.1 : Int)), (35, .int .i64 y4)] ⟨kr, kr, kr, kr, kr, kr, trivial⟩ rfl ?_
          refine ls_seq_k fun K19 hK19 => ?_
          refine ls_rs tbOk ?_
          refine evs (ev_fa (c1 := .cref 6 0) (v := .cref 6 0) rfl rfl rfl ⟨_, rfl⟩ rfl (evs (ev_ldB (off := 0) (v := .str e17.1) rfl rfl rfl rfl (Nat.le_of_ble_eq_true rfl) rfl (?_))))
          obtain ⟨v20, g21, h⟩ := ob_some h
          refine evs (ev_call (era rfl rfl eran) (impl_IsValidName_s g21) (evs (ev_un (c1 := .bool v20) rfl trivial (evs (ev_mv (c := .bool (!v20)) rfl rfl rfl (?_))))))
          rcases cond_some h with ⟨g22, h⟩ | ⟨g22, h⟩
          · refine evs (ev_gs rfl rfl (isb_T g22) (evs (ev_gs rfl rfl (isb_T g22) (evs (ev_gs rfl rfl (isb_T g22) (evs (ev_gs rfl rfl (isb_T g22) (evs (ev_gs rfl rfl (isb_T g22) (evs (ev_pkT (c1 := .bool true) rfl g22 rfl rfl (evn ?_))))))))))))
            refine ls_keep [(3, .int .i64 a0.1), (4, .uni 4 y3.length (y3.flatMap cbl)), (6, .box [.str e17.1, .dat e17.2.length (e17.2.flatMap ci64)]), (33, .dat a0.2.1.length (a0.2.1.flatMap c150_d)), (34, .int .i64 (List.length a0.2.1 : Int)), (35, .int .i64 y4), (49, .bool true)] ⟨kr, kr, kr, kr, kr, kr, kr, trivial⟩ rfl ?_
            refine ls_cT rfl rfl ?_
            refine ls_rs tbOk ?_
            refine evs (ev_ac rfl nofun rfl (evn ?_))
            refine ls_keep [(2, .bool false)] ⟨kr, trivial⟩ rfl ?_
            refine ls_ret ?_
            have q0 := (Option.some.inj h).symm
            have r0 := hr1
            rw [q0] at r0
            have hr := Option.some.inj r0
            rw [← hr]
            exact ⟨.inl rfl, rfl⟩
          · refine evs (ev_gr rfl (congrArg V.bool g22) (ev_fa (c1 := .cref 6 0) (v := .cref 6 1) rfl rfl rfl ⟨_, rfl⟩ rfl (evs (ev_gr rfl (congrArg V.bool g22) (ev_ldB (off := 1) (v := .dat e17.2.length (e17.2.flatMap ci64)) rfl rfl rfl rfl (Nat.le_of_ble_eq_true rfl) rfl (evs (ev_gr rfl (congrArg V.bool g22) (ev_len (c1 := .dat e17.2.length (e17.2.flatMap ci64)) rfl rfl rfl (?_)))))))))
            obtain ⟨v23, g24, h⟩ := ob_some h
            refine evs (ev_gr rfl (congrArg V.bool g22) (ev_call (era rfl rfl (era rfl rfl (era rfl rfl eran))) (impl_within_s g24) (evs (ev_gr rfl (congrArg V.bool g22) (ev_un (c1 := .bool v23) rfl trivial (evs (ev_pkF (c1 := .bool (!v23)) rfl g22 rfl rfl (evn ?_))))))))
            refine ls_keep [(3, .int .i64 a0.1), (4, .uni 4 y3.length (y3.flatMap cbl)), (6, .box [.str e17.1, .dat e17.2.length (e17.2.flatMap ci64)]), (33, .dat a0.2.1.length (a0.2.1.flatMap c150_d)), (34, .int .i64 (List.length a0.2.1 : Int)), (35, .int .i64 y4), (49, .bool (!v23))] ⟨kr, kr, kr, kr, kr, kr, kr, trivial⟩ rfl ?_
            rcases cond_some h with ⟨g25, h⟩ | ⟨g25, h⟩
            · refine ls_cT rfl g25 ?_
              refine ls_rs tbOk ?_
              refine evs (ev_ac rfl nofun rfl (evn ?_))
              refine ls_keep [(2, .bool false)] ⟨kr, trivial⟩ rfl ?_
              refine ls_ret ?_
              have q0 := (Option.some.inj h).symm
              have r0 := hr1
              rw [q0] at r0
              have hr := Option.some.inj r0
              rw [← hr]
              exact ⟨.inl rfl, rfl⟩
            · refine ls_cF rfl g25 ?_
              refine ls_skip ?_
              refine hK19 _ (ls_keep [(3, .int .i64 a0.1), (4, .uni 4 y3.length (y3.flatMap cbl)), (6, .box [.str e17.1, .dat e17.2.length (e17.2.flatMap ci64)]), (33, .dat a0.2.1.length (a0.2.1.flatMap c150_d)), (34, .int .i64 (List.length a0.2.1 : Int)), (35, .int .i64 y4)] ⟨kr, kr, kr, kr, kr, kr, trivial⟩ rfl ?_)
              refine ls_rs tbOk ?_
              refine evs (ev_fa (c1 := .cref 6 0) (v := .cref 6 1) rfl rfl rfl ⟨_, rfl⟩ rfl (evs (ev_ldB (off := 1) (v := .dat e17.2.length (e17.2.flatMap ci64)) rfl rfl rfl rfl (Nat.le_of_ble_eq_true rfl) rfl (evs (ev_len (c1 := .dat e17.2.length (e17.2.flatMap ci64)) rfl rfl rfl (evs (ev_mc rfl rfl (evn ?_))))))))
              refine ls_keep [(3, .int .i64 a0.1), (4, .uni 4 y3.length (y3.flatMap cbl)), (33, .dat a0.2.1.length (a0.2.1.flatMap c150_d)), (34, .int .i64 (List.length a0.2.1 : Int)), (35, .int .i64 y4), (51, .dat e17.2.length (e17.2.flatMap ci64)), (52, .int .i64 (List.length e17.2 : Int)), (53, .int .i64 0)] ⟨kr, kr, kr, kr, kr, kr, kr, kr, trivial⟩ rfl ?_
              obtain ⟨o2, hl, hr2⟩ := ob_some h
              clear h
              have kXimpl_IsValidQuery_B2 : ∀ (z26 : List Bool), ((loopF (impl_IsValidQuery_B1 a0) m) (z26, (IntKind.i64.wrap (y4 + 1)))) = some o1 → ∀ σ' : PS, okK σ' [(3, .int .i64 a0.1), (4, .uni 4 z26.length (z26.flatMap cbl)), (33, .dat a0.2.1.length (a0.2.1.flatMap c150_d)), (34, .int .i64 (List.length a0.2.1 : Int)), (35, .int .i64 y4)] → K16 σ' := by
                intro z26 h σ' hk
                refine hK16 _ (ls_keep [(3, .int .i64 a0.1), (4, .uni 4 z26.length (z26.flatMap cbl)), (33, .dat a0.2.1.length (a0.2.1.flatMap c150_d)), (34, .int .i64 (List.length a0.2.1 : Int)), (35, .int .i64 y4)] hk rfl ?_)
                refine ls_rgn tbOk ?_
                refine evs (ev_bin (c1 := .int .i64 y4) (c2 := .int .i64 1) rfl rfl rfl (evs (ev_mv (c := .int .i64 (IntKind.i64.wrap (y4 + 1))) rfl rfl rfl (evn ?_))))
                exact hN _ (z26, (IntKind.i64.wrap (y4 + 1))) h ⟨kr, kr, kr, kr, kr, trivial⟩
              refine ls_rec (fun (s : (List Bool) × Int) => match s with | (y7, y8) => [(3, .int .i64 a0.1), (4, .uni 4 y7.length (y7.flatMap cbl)), (33, .dat a0.2.1.length (a0.2.1.flatMap c150_d)), (34, .int .i64 (List.length a0.2.1 : Int)), (35, .int .i64 y4), (51, .dat e17.2.length (e17.2.flatMap ci64)), (52, .int .i64 (List.length e17.2 : Int)), (53, .int .i64 y8)]) (impl_IsValidQuery_B2 a0 e17) fz (y3, 0) o2 hl ⟨kr, kr, kr, kr, kr, kr, kr, kr, trivial⟩ (fun _ => rfl) ?_
              rintro m ⟨y7, y8⟩ N h hN
              unfold impl_IsValidQuery_B2 at h
              dsimp only at h
              refine ls_rs tbOk ?_
              refine evs (ev_bin (c1 := .int .i64 y8) (c2 := .int .i64 (List.length e17.2 : Int)) rfl rfl rfl (evn ?_))
              refine ls_keep [(3, .int .i64 a0.1), (4, .uni 4 y7.length (y7.flatMap cbl)), (33, .dat a0.2.1.length (a0.2.1.flatMap c150_d)), (34, .int .i64 (List.length a0.2.1 : Int)), (35, .int .i64 y4), (51, .dat e17.2.length (e17.2.flatMap ci64)), (52, .int .i64 (List.length e17.2 : Int)), (53, .int .i64 y8), (54, .bool (decide (y8 < (List.length e17.2 : Int))))] ⟨kr, kr, kr, kr, kr, kr, kr, kr, kr, trivial⟩ rfl ?_
              refine ls_seq_k fun K27 hK27 => ?_
              rcases cond_some h with ⟨g28, h⟩ | ⟨g28, h⟩
              · refine ls_cT rfl g28 ?_
                refine ls_skip ?_
                refine hK27 _ (ls_keep [(3, .int .i64 a0.1), (4, .uni 4 y7.length (y7.flatMap cbl)), (33, .dat a0.2.1.length (a0.2.1.flatMap c150_d)), (34, .int .i64 (List.length a0.2.1 : Int)), (35, .int .i64 y4), (51, .dat e17.2.length (e17.2.flatMap ci64)), (52, .int .i64 (List.length e17.2 : Int)), (53, .int .i64 y8)] ⟨kr, kr, kr, kr, kr, kr, kr, kr, trivial⟩ rfl ?_)
                refine ls_seq_k fun K29 hK29 => ?_
                refine ls_blk ?_
                refine ls_rs tbOk ?_
                obtain ⟨e30, g31, h⟩ := ob_some h
                refine evs (ev_ia rfl rfl rfl ⟨(geti_some g31).1, (geti_some g31).2.1⟩ (evs (ev_ldE (off := 0) (v := .int .i64 e30) rfl rfl zci64 g31 rfl (Nat.le_of_ble_eq_true rfl) rfl (evs (ev_as (c := .int .i64 e30) rfl rfl rfl (evn ?_))))))
                refine ls_keep [(3, .int .i64 a0.1), (4, .uni 4 y7.length (y7.flatMap cbl)), (8, .int .i64 e30), (33, .dat a0.2.1.length (a0.2.1.flatMap c150_d)), (34, .int .i64 (List.length a0.2.1 : Int)), (35, .int .i64 y4), (51, .dat e17.2.length (e17.2.flatMap ci64)), (52, .int .i64 (List.length e17.2 : Int)), (53, .int .i64 y8)] ⟨kr, kr, kr, kr, kr, kr, kr, kr, kr, trivial⟩ rfl ?_
                refine ls_seq_k fun K32 hK32 => ?_
                refine ls_rs tbOk ?_
                refine evs (ev_mv (c := .int .i64 e30) rfl rfl rfl (evs (ev_mv (c := .int .i64 a0.1) rfl rfl rfl (evs (ev_bin (c1 := .int .i64 a0.1) (c2 := .int .i64 1) rfl rfl rfl (?_))))))
                obtain ⟨v33, g34, h⟩ := ob_some h
                refine evs (ev_call (era rfl rfl (era rfl rfl (era rfl rfl eran))) (impl_within_s g34) (evs (ev_un (c1 := .bool v33) rfl trivial (evn ?_))))
                refine ls_keep [(3, .int .i64 a0.1), (4, .uni 4 y7.length (y7.flatMap cbl)), (8, .int .i64 e30), (33, .dat a0.2.1.length (a0.2.1.flatMap c150_d)), (34, .int .i64 (List.length a0.2.1 : Int)), (35, .int .i64 y4), (51, .dat e17.2.length (e17.2.flatMap ci64)), (52, .int .i64 (List.length e17.2 : Int)), (53, .int .i64 y8), (61, .bool (!v33))] ⟨kr, kr, kr, kr, kr, kr, kr, kr, kr, kr, trivial⟩ rfl ?_
                rcases cond_some h with ⟨g35, h⟩ | ⟨g35, h⟩
                · refine ls_cT rfl g35 ?_
                  refine ls_rs tbOk ?_
                  refine evs (ev_ac rfl nofun rfl (evn ?_))
                  refine ls_keep [(2, .bool false)] ⟨kr, trivial⟩ rfl ?_
                  refine ls_ret ?_
                  have q0 := (Option.some.inj h).symm
                  have r0 := hr2
                  rw [q0] at r0
                  have q1 := (Option.some.inj r0).symm
                  have r1 := hr1
                  rw [q1] at r1
                  have hr := Option.some.inj r1
                  rw [← hr]
                  exact ⟨.inl rfl, rfl⟩
                · refine ls_cF rfl g35 ?_
                  refine ls_skip ?_
                  refine hK32 _ (ls_keep [(3, .int .i64 a0.1), (4, .uni 4 y7.length (y7.flatMap cbl)), (8, .int .i64 e30), (33, .dat a0.2.1.length (a0.2.1.flatMap c150_d)), (34, .int .i64 (List.length a0.2.1 : Int)), (35, .int .i64 y4), (51, .dat e17.2.length (e17.2.flatMap ci64)), (52, .int .i64 (List.length e17.2 : Int)), (53, .int .i64 y8)] ⟨kr, kr, kr, kr, kr, kr, kr, kr, kr, trivial⟩ rfl ?_)
                  refine ls_rgn tbOk ?_
                  refine evs (ev_mvu rfl rfl (evs (ev_mv (c := .int .i64 e30) rfl rfl rfl (?_))))
                  obtain ⟨e36, g37, h⟩ := ob_some h
                  refine evs (ev_iau rfl rfl rfl rfl ⟨(geti_some g37).1, (geti_some g37).2.1⟩ (evs (ev_stu (e := true) (c1 := .bool true) rfl rfl zcbl ⟨(geti_some g37).1, (geti_some g37).2.1⟩ rfl rfl rfl rfl rfl (evn ?_))))
                  refine hK29 _ (ls_keep [(3, .int .i64 a0.1), (4, .uni 4 (seti y7 e30 true).length ((seti y7 e30 true).flatMap cbl)), (33, .dat a0.2.1.length (a0.2.1.flatMap c150_d)), (34, .int .i64 (List.length a0.2.1 : Int)), (35, .int .i64 y4), (51, .dat e17.2.length (e17.2.flatMap ci64)), (52, .int .i64 (List.length e17.2 : Int)), (53, .int .i64 y8)] ⟨kr, kr, kr, kr, kr, kr, kr, kr, trivial⟩ rfl ?_)
                  refine ls_rgn tbOk ?_
                  refine evs (ev_bin (c1 := .int .i64 y8) (c2 := .int .i64 1) rfl rfl rfl (evs (ev_mv (c := .int .i64 (IntKind.i64.wrap (y8 + 1))) rfl rfl rfl (evn ?_))))
                  exact hN _ ((seti y7 e30 true), (IntKind.i64.wrap (y8 + 1))) h ⟨kr, kr, kr, kr, kr, kr, kr, kr, trivial⟩
              · refine ls_cF rfl g28 ?_
                refine ls_exit ?_
                have q0 := (Option.some.inj h).symm
                have r0 := hr2
                rw [q0] at r0
                exact kXimpl_IsValidQuery_B2 y7 r0 _ ⟨kr, kr, kr, kr, kr, trivial⟩
        · refine ls_cF rfl g15 ?_
          refine ls_exit ?_
          have q0 := (Option.some.inj h).symm
          have r0 := hr1
          rw [q0] at r0
          exact kXimpl_IsValidQuery_B1 y3 r0 _ ⟨kr, trivial⟩
def impl_FDVariables_J4 (rec : (Bool × Int × Int) → Option (Bool × Int)) (y12 : Int) (x25 : Bool) (x26 : Int) : Option (Bool × Int) := rec (x25, x26, (IntKind.i64.wrap (y12 + 1)))
def impl_FDVariables_B3 (a1 : (List UInt8) × (List Int) × Int) (e11 : (List UInt8) × (List Int)) (rec : (Bool × Int × Int) → Option (Bool × Int)) (s : Bool × Int × Int) : Option (Bool × Int) := match s with
  | (y10, y11, y12) => cond (decide (y12 < (List.length a1.2.1 : Int))) (obind (geti a1.2.1 y12) fun e21 => obind (impl_within e21 0 (IntKind.i64.wrap ((List.length e11.2 : Int) - 1))) fun v23 => cond (!v23) (impl_FDVariables_J4 rec y12 false y11) (obind (geti e11.2 e21) fun e28 => chk ((0 : Int) ≤ IntKind.u64.wrap e28) (impl_FDVariables_J4 rec y12 y10 (orI y11 (shlI 1 (IntKind.u64.wrap e28)))))) (some (y10, y11))
def impl_FDVariables_J5 (rec : ((List Int) × (List Int) × Int) → Option ((List Int) × (List Int))) (y6 : Int) (x31 : List Int) (x32 : List Int) : Option ((List Int) × (List Int)) := rec (x31, x32, (IntKind.i64.wrap (y6 + 1)))
def impl_FDVariables_J2 (rec : ((List Int) × (List Int) × Int) → Option ((List Int) × (List Int))) (a1 : (List UInt8) × (List Int) × Int) (y4 : List Int) (y5 : List Int) (y6 : Int) (e11 : (List UInt8) × (List Int)) (x14 : Bool) : Option ((List Int) × (List Int)) := obind (loopF (impl_FDVariables_B3 a1 e11) fz (x14, 0, 0)) fun o3 => (match o3 with
  | (z16, z17) => (cond z16 (chk (List.length y4 + List.length [z17] ≤ lim) (obind (geti e11.2 a1.2.2) fun e35 => chk (List.length y5 + List.length [e35] ≤ lim) (impl_FDVariables_J5 rec y6 (y4 ++ [z17]) (y5 ++ [e35])))) (chk (List.length y4 + List.length [0] ≤ lim) (chk (List.length y5 + List.length [-1] ≤ lim) (impl_FDVariables_J5 rec y6 (y4 ++ [0]) (y5 ++ [-1]))))))
def impl_FDVariables_B1 (a0 : Int × (List ((List UInt8) × (List Int))) × (List Int)) (a1 : (List UInt8) × (List Int) × Int) (rec : ((List Int) × (List Int) × Int) → Option ((List Int) × (List Int))) (s : (List Int) × (List Int) × Int) : Option ((List Int) × (List Int)) := match s with
  | (y4, y5, y6) => cond (decide (y6 < (List.length a0.2.1 : Int))) (obind (geti a0.2.1 y6) fun e11 => cond (e11.1 == a1.1) (obind (impl_within a1.2.2 0 (IntKind.i64.wrap ((List.length e11.2 : Int) - 1))) fun v41 => impl_FDVariables_J2 rec a1 y4 y5 y6 e11 v41) (impl_FDVariables_J2 rec a1 y4 y5 y6 e11 false)) (some (y4, y5))
def impl_FDVariables (a0 : Int × (List ((List UInt8) × (List Int))) × (List Int)) (a1 : (List UInt8) × (List Int) × Int) : Option ((List Int) × (List Int)) := obind (impl_IsValidQuery a0) fun v2 => cond (!v2) (some (([] : List Int), ([] : List Int))) (obind (loopF (impl_FDVariables_B1 a0 a1) fz (([] : List Int), ([] : List Int), 0)) fun o1 => (match o1 with
  | (z6, z7) => (some (z6, z7))))
theorem impl_FDVariables_s {a0 : Int × (List ((List UInt8) × (List Int))) × (List Int)} {a1 : (List UInt8) × (List Int) × Int} {r : (List Int) × (List Int)} (h : impl_FDVariables a0 a1 = some r) : SoundAt Try.prog 53 [.agg [.int .i64 a0.1, .dat a0.2.1.length (a0.2.1.flatMap c150_d), .dat a0.2.2.length (a0.2.2.flatMap ci64)], .agg [.str a1.1, .dat a1.2.1.length (a1.2.1.flatMap ci64), .int .i64 a1.2.2]] (.tup [.own 3 r.1.length (r.1.flatMap ci64), .own 3 r.2.length (r.2.flatMap ci64)]) := by
  unfold impl_FDVariables at h
  refine sound_lit tbOk lit53 (Nat.le_of_ble_eq_true rfl) rfl ?_
  unfold c53
  refine ls_keep [(0, .agg [.int .i64 a0.1, .dat a0.2.1.length (a0.2.1.flatMap c150_d), .dat a0.2.2.length (a0.2.2.flatMap ci64)]), (1, .agg [.str a1.1, .dat a1.2.1.length (a1.2.1.flatMap ci64), .int .i64 a1.2.2])] ⟨kr, kr, trivial⟩ rfl ?_
  refine ls_rs tbOk ?_
  refine evs (ev_bx (c1 := .agg [.int .i64 a0.1, .dat a0.2.1.length (a0.2.1.flatMap c150_d), .dat a0.2.2.length (a0.2.2.flatMap ci64)]) rfl rfl rfl (evs (ev_bx (c1 := .agg [.str a1.1, .dat a1.2.1.length (a1.2.1.flatMap ci64), .int .i64 a1.2.2]) rfl rfl rfl (evs (ev_an rfl rfl (evs (ev_an rfl rfl (evn ?_))))))))
  refine ls_keep [(2, .box [.int .i64 a0.1, .dat a0.2.1.length (a0.2.1.flatMap c150_d), .dat a0.2.2.length (a0.2.2.flatMap ci64)]), (3, .box [.str a1.1, .dat a1.2.1.length (a1.2.1.flatMap ci64), .int .i64 a1.2.2])] ⟨kr, kr, trivial⟩ rfl ?_
  refine ls_seq_k fun K1 hK1 => ?_
  refine ls_rs tbOk ?_
  refine evs (ev_ldB (off := 0) (v := .agg [.int .i64 a0.1, .dat a0.2.1.length (a0.2.1.flatMap c150_d), .dat a0.2.2.length (a0.2.2.flatMap ci64)]) rfl rfl rfl rfl (Nat.le_of_ble_eq_true rfl) rfl (?_))
  obtain ⟨v2, g3, h⟩ := ob_some h
  refine evs (ev_call (era rfl (erg (erc rfl (erc (erD ec150_d _) (erc (erD eci64 _) rfl)))) eran) (impl_IsValidQuery_s g3) (evs (ev_un (c1 := .bool v2) rfl trivial (evn ?_))))
  refine ls_keep [(2, .box [.int .i64 a0.1, .dat a0.2.1.length (a0.2.1.flatMap c150_d), .dat a0.2.2.length (a0.2.2.flatMap ci64)]), (3, .box [.str a1.1, .dat a1.2.1.length (a1.2.1.flatMap ci64), .int .i64 a1.2.2]), (16, .bool (!v2))] ⟨kr, kr, kr, trivial⟩ rfl ?_
  rcases cond_some h with ⟨g4, h⟩ | ⟨g4, h⟩
  · refine ls_cT rfl g4 ?_
    refine ls_rs tbOk ?_
    refine evs (ev_an rfl rfl (evs (ev_an rfl rfl (evn ?_))))
    refine ls_keep [(4, .own 3 ([] : List Int).length (([] : List Int).flatMap ci64)), (5, .own 3 ([] : List Int).length (([] : List Int).flatMap ci64))] ⟨kr, kr, trivial⟩ rfl ?_
    refine ls_ret ?_
    have hr := Option.some.inj h
    rw [← hr]
    exact ⟨.inl rfl, rfl⟩
  · refine ls_cF rfl g4 ?_
    refine ls_skip ?_
    refine hK1 _ (ls_keep [(2, .box [.int .i64 a0.1, .dat a0.2.1.length (a0.2.1.flatMap c150_d), .dat a0.2.2.length (a0.2.2.flatMap ci64)]), (3, .box [.str a1.1, .dat a1.2.1.length (a1.2.1.flatMap ci64), .int .i64 a1.2.2])] ⟨kr, kr, trivial⟩ rfl ?_)
    refine ls_rs tbOk ?_
    refine evs (ev_an rfl rfl (evs (ev_an rfl rfl (evn ?_))))
    refine ls_keep [(2, .box [.int .i64 a0.1, .dat a0.2.1.length (a0.2.1.flatMap c150_d), .dat a0.2.2.length (a0.2.2.flatMap ci64)]), (3, .box [.str a1.1, .dat a1.2.1.length (a1.2.1.flatMap ci64), .int .i64 a1.2.2]), (6, .own 3 ([] : List Int).length (([] : List Int).flatMap ci64)), (7, .own 3 ([] : List Int).length (([] : List Int).flatMap ci64))] ⟨kr, kr, kr, kr, trivial⟩ rfl ?_
    refine ls_seq_k fun K5 hK5 => ?_
    refine ls_rs tbOk ?_
    refine evs (ev_fa (c1 := .cref 2 0) (v := .cref 2 1) rfl rfl rfl ⟨_, rfl⟩ rfl (evs (ev_ldB (off := 1) (v := .dat a0.2.1.length (a0.2.1.flatMap c150_d)) rfl rfl rfl rfl (Nat.le_of_ble_eq_true rfl) rfl (evs (ev_len (c1 := .dat a0.2.1.length (a0.2.1.flatMap c150_d)) rfl rfl rfl (evs (ev_mc rfl rfl (evn ?_))))))))
    refine ls_keep [(3, .box [.str a1.1, .dat a1.2.1.length (a1.2.1.flatMap ci64), .int .i64 a1.2.2]), (6, .own 3 ([] : List Int).length (([] : List Int).flatMap ci64)), (7, .own 3 ([] : List Int).length (([] : List Int).flatMap ci64)), (18, .dat a0.2.1.length (a0.2.1.flatMap c150_d)), (19, .int .i64 (List.length a0.2.1 : Int)), (20, .int .i64 0)] ⟨kr, kr, kr, kr, kr, kr, trivial⟩ rfl ?_
    obtain ⟨o1, hl, hr1⟩ := ob_some h
    clear h
    have kXimpl_FDVariables_B1 : ∀ (z6 : List Int) (z7 : List Int), (some (z6, z7)) = some r → ∀ σ' : PS, okK σ' [(6, .own 3 z6.length (z6.flatMap ci64)), (7, .own 3 z7.length (z7.flatMap ci64))] → K5 σ' := by
      intro z6 z7 h σ' hk
      refine hK5 _ (ls_keep [(6, .own 3 z6.length (z6.flatMap ci64)), (7, .own 3 z7.length (z7.flatMap ci64))] hk rfl ?_)
      refine ls_rs tbOk ?_
      refine evs (ev_mvt (c := .own 3 z6.length (z6.flatMap ci64)) rfl rfl rfl (evs (ev_mvt (c := .own 3 z7.length (z7.flatMap ci64)) rfl rfl rfl (evs (ev_as (c := .own 3 z6.length (z6.flatMap ci64)) rfl rfl rfl (evs (ev_as (c := .own 3 z7.length (z7.flatMap ci64)) rfl rfl rfl (evn ?_))))))))
      refine ls_keep [(4, .own 3 z6.length (z6.flatMap ci64)), (5, .own 3 z7.length (z7.flatMap ci64))] ⟨kr, kr, trivial⟩ rfl ?_
      refine ls_ret ?_
      have hr := Option.some.inj h
      rw [← hr]
      exact ⟨.inl rfl, rfl⟩
    refine ls_rec (fun (s : (List Int) × (List Int) × Int) => match s with | (y4, y5, y6) => [(3, .box [.str a1.1, .dat a1.2.1.length (a1.2.1.flatMap ci64), .int .i64 a1.2.2]), (6, .own 3 y4.length (y4.flatMap ci64)), (7, .own 3 y5.length (y5.flatMap ci64)), (18, .dat a0.2.1.length (a0.2.1.flatMap c150_d)), (19, .int .i64 (List.length a0.2.1 : Int)), (20, .int .i64 y6)]) (impl_FDVariables_B1 a0 a1) fz (([] : List Int), ([] : List Int), 0) o1 hl ⟨kr, kr, kr, kr, kr, kr, trivial⟩ (fun _ => rfl) ?_
    rintro m ⟨y4, y5, y6⟩ N h hN
    unfold impl_FDVariables_B1 at h
    dsimp only at h
    refine ls_rs tbOk ?_
    refine evs (ev_bin (c1 := .int .i64 y6) (c2 := .int .i64 (List.length a0.2.1 : Int)) rfl rfl rfl (evn ?_))
    refine ls_keep [(3, .box [.str a1.1, .dat a1.2.1.length (a1.2.1.flatMap ci64), .int .i64 a1.2.2]), (6, .own 3 y4.length (y4.flatMap ci64)), (7, .own 3 y5.length (y5.flatMap ci64)), (18, .dat a0.2.1.length (a0.2.1.flatMap c150_d)), (19, .int .i64 (List.length a0.2.1 : Int)), (20, .int .i64 y6), (21, .bool (decide (y6 < (List.length a0.2.1 : Int))))] ⟨kr, kr, kr, kr, kr, kr, kr, trivial⟩ rfl ?_
    refine ls_seq_k fun K8 hK8 => ?_
    rcases cond_some h with ⟨g9, h⟩ | ⟨g9, h⟩
    · refine ls_cT rfl g9 ?_
      refine ls_skip ?_
      refine hK8 _ (ls_keep [(3, .box [.str a1.1, .dat a1.2.1.length (a1.2.1.flatMap ci64), .int .i64 a1.2.2]), (6, .own 3 y4.length (y4.flatMap ci64)), (7, .own 3 y5.length (y5.flatMap ci64)), (18, .dat a0.2.1.length (a0.2.1.flatMap c150_d)), (19, .int .i64 (List.length a0.2.1 : Int)), (20, .int .i64 y6)] ⟨kr, kr, kr, kr, kr, kr, trivial⟩ rfl ?_)
      refine ls_seq_k fun K10 hK10 => ?_
      refine ls_blk ?_
      refine ls_rs tbOk ?_
      obtain ⟨e11, g12, h⟩ := ob_some h
      refine evs (ev_ia rfl rfl rfl ⟨(geti_some g12).1, (geti_some g12).2.1⟩ (evs (ev_ldEt (off := 0) (v := .agg [.str e11.1, .dat e11.2.length (e11.2.flatMap ci64)]) rfl rfl zc150_d g12 rfl (Nat.le_of_ble_eq_true rfl) rfl (evs (ev_al rfl rfl (evs (ev_st (off := 0) (c1 := .agg [.str e11.1, .dat e11.2.length (e11.2.flatMap ci64)]) (cs' := [.str e11.1, .dat e11.2.length (e11.2.flatMap ci64)]) rfl rfl rfl rfl rfl rfl (Nat.le_of_ble_eq_true rfl) rfl (evn ?_))))))))
      refine ls_keep [(3, .box [.str a1.1, .dat a1.2.1.length (a1.2.1.flatMap ci64), .int .i64 a1.2.2]), (6, .own 3 y4.length (y4.flatMap ci64)), (7, .own 3 y5.length (y5.flatMap ci64)), (9, .box [.str e11.1, .dat e11.2.length (e11.2.flatMap ci64)]), (18, .dat a0.2.1.length (a0.2.1.flatMap c150_d)), (19, .int .i64 (List.length a0.2.1 : Int)), (20, .int .i64 y6)] ⟨kr, kr, kr, kr, kr, kr, kr, trivial⟩ rfl ?_
      refine ls_rs_k tbOk fun K13 hK13 => ?_
      have kimpl_FDVariables_J2 : ∀ (x14 : Bool), impl_FDVariables_J2 (loopF (impl_FDVariables_B1 a0 a1) m) a1 y4 y5 y6 e11 x14 = some o1 → ∀ σ' : PS, okK σ' [(3, .box [.str a1.1, .dat a1.2.1.length (a1.2.1.flatMap ci64), .int .i64 a1.2.2]), (6, .own 3 y4.length (y4.flatMap ci64)), (7, .own 3 y5.length (y5.flatMap ci64)), (9, .box [.str e11.1, .dat e11.2.length (e11.2.flatMap ci64)]), (10, .bool x14), (18, .dat a0.2.1.length (a0.2.1.flatMap c150_d)), (19, .int .i64 (List.length a0.2.1 : Int)), (20, .int .i64 y6)] → K13 σ' := by
        intro x14 h σ' hk
        unfold impl_FDVariables_J2 at h
        refine hK13 _ (ls_keep [(3, .box [.str a1.1, .dat a1.2.1.length (a1.2.1.flatMap ci64), .int .i64 a1.2.2]), (6, .own 3 y4.length (y4.flatMap ci64)), (7, .own 3 y5.length (y5.flatMap ci64)), (9, .box [.str e11.1, .dat e11.2.length (e11.2.flatMap ci64)]), (10, .bool x14), (18, .dat a0.2.1.length (a0.2.1.flatMap c150_d)), (19, .int .i64 (List.length a0.2.1 : Int)), (20, .int .i64 y6)] hk rfl ?_)
        refine ls_rs tbOk ?_
        refine evs (ev_ac rfl nofun rfl (evn ?_))
        refine ls_keep [(3, .box [.str a1.1, .dat a1.2.1.length (a1.2.1.flatMap ci64), .int .i64 a1.2.2]), (6, .own 3 y4.length (y4.flatMap ci64)), (7, .own 3 y5.length (y5.flatMap ci64)), (9, .box [.str e11.1, .dat e11.2.length (e11.2.flatMap ci64)]), (10, .bool x14), (11, .int .i64 0), (18, .dat a0.2.1.length (a0.2.1.flatMap c150_d)), (19, .int .i64 (List.length a0.2.1 : Int)), (20, .int .i64 y6)] ⟨kr, kr, kr, kr, kr, kr, kr, kr, kr, trivial⟩ rfl ?_
        refine ls_seq_k fun K15 hK15 => ?_
        refine ls_rs tbOk ?_
        refine evs (ev_fa (c1 := .cref 3 0) (v := .cref 3 1) rfl rfl rfl ⟨_, rfl⟩ rfl (evs (ev_ldB (off := 1) (v := .dat a1.2.1.length (a1.2.1.flatMap ci64)) rfl rfl rfl rfl (Nat.le_of_ble_eq_true rfl) rfl (evs (ev_len (c1 := .dat a1.2.1.length (a1.2.1.flatMap ci64)) rfl rfl rfl (evs (ev_mc rfl rfl (evn ?_))))))))
        refine ls_keep [(3, .box [.str a1.1, .dat a1.2.1.length (a1.2.1.flatMap ci64), .int .i64 a1.2.2]), (6, .own 3 y4.length (y4.flatMap ci64)), (7, .own 3 y5.length (y5.flatMap ci64)), (9, .box [.str e11.1, .dat e11.2.length (e11.2.flatMap ci64)]), (10, .bool x14), (11, .int .i64 0), (18, .dat a0.2.1.length (a0.2.1.flatMap c150_d)), (19, .int .i64 (List.length a0.2.1 : Int)), (20, .int .i64 y6), (39, .dat a1.2.1.length (a1.2.1.flatMap ci64)), (40, .int .i64 (List.length a1.2.1 : Int)), (41, .int .i64 0)] ⟨kr, kr, kr, kr, kr, kr, kr, kr, kr, kr, kr, kr, trivial⟩ rfl ?_
        obtain ⟨o3, hl, hr3⟩ := ob_some h
        clear h
        have kXimpl_FDVariables_B3 : ∀ (z16 : Bool) (z17 : Int), (cond z16 (chk (List.length y4 + List.length [z17] ≤ lim) (obind (geti e11.2 a1.2.2) fun e35 => chk (List.length y5 + List.length [e35] ≤ lim) (impl_FDVariables_J5 (loopF (impl_FDVariables_B1 a0 a1) m) y6 (y4 ++ [z17]) (y5 ++ [e35])))) (chk (List.length y4 + List.length [0] ≤ lim) (chk (List.length y5 + List.length [-1] ≤ lim) (impl_FDVariables_J5 (loopF (impl_FDVariables_B1 a0 a1) m) y6 (y4 ++ [0]) (y5 ++ [-1]))))) = some o1 → ∀ σ' : PS, okK σ' [(3, .box [.str a1.1, .dat a1.2.1.length (a1.2.1.flatMap ci64), .int .i64 a1.2.2]), (6, .own 3 y4.length (y4.flatMap ci64)), (7, .own 3 y5.length (y5.flatMap ci64)), (9, .box [.str e11.1, .dat e11.2.length (e11.2.flatMap ci64)]), (10, .bool z16), (11, .int .i64 z17), (18, .dat a0.2.1.length (a0.2.1.flatMap c150_d)), (19, .int .i64 (List.length a0.2.1 : Int)), (20, .int .i64 y6)] → K15 σ' := by
          intro z16 z17 h σ' hk
          refine hK15 _ (ls_keep [(3, .box [.str a1.1, .dat a1.2.1.length (a1.2.1.flatMap ci64), .int .i64 a1.2.2]), (6, .own 3 y4.length (y4.flatMap ci64)), (7, .own 3 y5.length (y5.flatMap ci64)), (9, .box [.str e11.1, .dat e11.2.length (e11.2.flatMap ci64)]), (10, .bool z16), (11, .int .i64 z17), (18, .dat a0.2.1.length (a0.2.1.flatMap c150_d)), (19, .int .i64 (List.length a0.2.1 : Int)), (20, .int .i64 y6)] hk rfl ?_)
          refine ls_rs tbOk ?_
          refine evs (ev_mv (c := .bool z16) rfl rfl rfl (evn ?_))
          refine ls_keep [(3, .box [.str a1.1, .dat a1.2.1.length (a1.2.1.flatMap ci64), .int .i64 a1.2.2]), (6, .own 3 y4.length (y4.flatMap ci64)), (7, .own 3 y5.length (y5.flatMap ci64)), (9, .box [.str e11.1, .dat e11.2.length (e11.2.flatMap ci64)]), (11, .int .i64 z17), (18, .dat a0.2.1.length (a0.2.1.flatMap c150_d)), (19, .int .i64 (List.length a0.2.1 : Int)), (20, .int .i64 y6), (62, .bool z16)] ⟨kr, kr, kr, kr, kr, kr, kr, kr, kr, trivial⟩ rfl ?_
          have kimpl_FDVariables_J5 : ∀ (x31 : List Int) (x32 : List Int), impl_FDVariables_J5 (loopF (impl_FDVariables_B1 a0 a1) m) y6 x31 x32 = some o1 → ∀ σ' : PS, okK σ' [(3, .box [.str a1.1, .dat a1.2.1.length (a1.2.1.flatMap ci64), .int .i64 a1.2.2]), (6, .own 3 x31.length (x31.flatMap ci64)), (7, .own 3 x32.length (x32.flatMap ci64)), (18, .dat a0.2.1.length (a0.2.1.flatMap c150_d)), (19, .int .i64 (List.length a0.2.1 : Int)), (20, .int .i64 y6)] → K10 σ' := by
            intro x31 x32 h σ' hk
            unfold impl_FDVariables_J5 at h
            refine hK10 _ (ls_keep [(3, .box [.str a1.1, .dat a1.2.1.length (a1.2.1.flatMap ci64), .int .i64 a1.2.2]), (6, .own 3 x31.length (x31.flatMap ci64)), (7, .own 3 x32.length (x32.flatMap ci64)), (18, .dat a0.2.1.length (a0.2.1.flatMap c150_d)), (19, .int .i64 (List.length a0.2.1 : Int)), (20, .int .i64 y6)] hk rfl ?_)
            refine ls_rgn tbOk ?_
            refine evs (ev_bin (c1 := .int .i64 y6) (c2 := .int .i64 1) rfl rfl rfl (evs (ev_mv (c := .int .i64 (IntKind.i64.wrap (y6 + 1))) rfl rfl rfl (evn ?_))))
            exact hN _ (x31, x32, (IntKind.i64.wrap (y6 + 1))) h ⟨kr, kr, kr, kr, kr, kr, trivial⟩
          rcases cond_some h with ⟨g33, h⟩ | ⟨g33, h⟩
          · refine ls_cT rfl g33 ?_
            refine ls_rs tbOk ?_
            refine evs (ev_mvt (c := .own 3 y4.length (y4.flatMap ci64)) rfl rfl rfl (evs (ev_mv (c := .int .i64 z17) rfl rfl rfl (evs (ev_bs [.int .i64 z17] (cs := [.int .i64 z17]) rfl ⟨rfl, trivial⟩ rfl (Nat.le_of_ble_eq_true rfl) rfl (?_))))))
            obtain ⟨g34, h⟩ := chk_some h
            refine evs (ev_app (f := ci64) (l := y4) (m := [z17]) (c2 := .own 3 [z17].length ([z17].flatMap ci64)) rfl rfl rfl (flat_len zci64 [z17]) rfl rfl g34 rfl (evs (ev_as (c := .own 3 (y4 ++ [z17]).length ((y4 ++ [z17]).flatMap ci64)) rfl rfl rfl (evn ?_))))
            refine ls_keep [(3, .box [.str a1.1, .dat a1.2.1.length (a1.2.1.flatMap ci64), .int .i64 a1.2.2]), (6, .own 3 (y4 ++ [z17]).length ((y4 ++ [z17]).flatMap ci64)), (7, .own 3 y5.length (y5.flatMap ci64)), (9, .box [.str e11.1, .dat e11.2.length (e11.2.flatMap ci64)]), (18, .dat a0.2.1.length (a0.2.1.flatMap c150_d)), (19, .int .i64 (List.length a0.2.1 : Int)), (20, .int .i64 y6)] ⟨kr, kr, kr, kr, kr, kr, kr, trivial⟩ rfl ?_
            refine ls_rgn tbOk ?_
            refine evs (ev_mvt (c := .own 3 y5.length (y5.flatMap ci64)) rfl rfl rfl (evs (ev_fa (c1 := .cref 9 0) (v := .cref 9 1) rfl rfl rfl ⟨_, rfl⟩ rfl (evs (ev_ldB (off := 1) (v := .dat e11.2.length (e11.2.flatMap ci64)) rfl rfl rfl rfl (Nat.le_of_ble_eq_true rfl) rfl (evs (ev_fa (c1 := .cref 3 0) (v := .cref 3 2) rfl rfl rfl ⟨_, rfl⟩ rfl (evs (ev_ldB (off := 2) (v := .int .i64 a1.2.2) rfl rfl rfl rfl (Nat.le_of_ble_eq_true rfl) rfl (?_))))))))))
            obtain ⟨e35, g36, h⟩ := ob_some h
            refine evs (ev_ia rfl rfl rfl ⟨(geti_some g36).1, (geti_some g36).2.1⟩ (evs (ev_ldE (off := 0) (v := .int .i64 e35) rfl rfl zci64 g36 rfl (Nat.le_of_ble_eq_true rfl) rfl (evs (ev_bs [.int .i64 e35] (cs := [.int .i64 e35]) rfl ⟨rfl, trivial⟩ rfl (Nat.le_of_ble_eq_true rfl) rfl (?_))))))
            obtain ⟨g37, h⟩ := chk_some h
            refine evs (ev_app (f := ci64) (l := y5) (m := [e35]) (c2 := .own 3 [e35].length ([e35].flatMap ci64)) rfl rfl rfl (flat_len zci64 [e35]) rfl rfl g37 rfl (evs (ev_as (c := .own 3 (y5 ++ [e35]).length ((y5 ++ [e35]).flatMap ci64)) rfl rfl rfl (evn ?_))))
            exact kimpl_FDVariables_J5 (y4 ++ [z17]) (y5 ++ [e35]) h _ ⟨kr, kr, kr, kr, kr, kr, trivial⟩
          · refine ls_cF rfl g33 ?_
            refine ls_rs tbOk ?_
            refine evs (ev_mvt (c := .own 3 y4.length (y4.flatMap ci64)) rfl rfl rfl (evs (ev_bs [.int .i64 0] (cs := [.int .i64 0]) rfl ⟨rfl, trivial⟩ rfl (Nat.le_of_ble_eq_true rfl) rfl (?_))))
            obtain ⟨g38, h⟩ := chk_some h
            refine evs (ev_app (f := ci64) (l := y4) (m := [0]) (c2 := .own 3 [0].length ([0].flatMap ci64)) rfl rfl rfl (flat_len zci64 [0]) rfl rfl g38 rfl (evs (ev_as (c := .own 3 (y4 ++ [0]).length ((y4 ++ [0]).flatMap ci64)) rfl rfl rfl (evn ?_))))
            refine ls_keep [(3, .box [.str a1.1, .dat a1.2.1.length (a1.2.1.flatMap ci64), .int .i64 a1.2.2]), (6, .own 3 (y4 ++ [0]).length ((y4 ++ [0]).flatMap ci64)), (7, .own 3 y5.length (y5.flatMap ci64)), (18, .dat a0.2.1.length (a0.2.1.flatMap c150_d)), (19, .int .i64 (List.length a0.2.1 : Int)), (20, .int .i64 y6)] ⟨kr, kr, kr, kr, kr, kr, trivial⟩ rfl ?_
            refine ls_rgn tbOk ?_
            refine evs (ev_mvt (c := .own 3 y5.length (y5.flatMap ci64)) rfl rfl rfl (evs (ev_bs [.int .i64 (-1)] (cs := [.int .i64 (-1)]) rfl ⟨rfl, trivial⟩ rfl (Nat.le_of_ble_eq_true rfl) rfl (?_))))
            obtain ⟨g39, h⟩ := chk_some h
            refine evs (ev_app (f := ci64) (l := y5) (m := [-1]) (c2 := .own 3 [-1].length ([-1].flatMap ci64)) rfl rfl rfl (flat_len zci64 [-1]) rfl rfl g39 rfl (evs (ev_as (c := .own 3 (y5 ++ [-1]).length ((y5 ++ [-1]).flatMap ci64)) rfl rfl rfl (evn ?_))))
            exact kimpl_FDVariables_J5 (y4 ++ [0]) (y5 ++ [-1]) h _ ⟨kr, kr, kr, kr, kr, kr, trivial⟩
        refine ls_rec (fun (s : Bool × Int × Int) => match s with | (y10, y11, y12) => [(3, .box [.str a1.1, .dat a1.2.1.length (a1.2.1.flatMap ci64), .int .i64 a1.2.2]), (6, .own 3 y4.length (y4.flatMap ci64)), (7, .own 3 y5.length (y5.flatMap ci64)), (9, .box [.str e11.1, .dat e11.2.length (e11.2.flatMap ci64)]), (10, .bool y10), (11, .int .i64 y11), (18, .dat a0.2.1.length (a0.2.1.flatMap c150_d)), (19, .int .i64 (List.length a0.2.1 : Int)), (20, .int .i64 y6), (39, .dat a1.2.1.length (a1.2.1.flatMap ci64)), (40, .int .i64 (List.length a1.2.1 : Int)), (41, .int .i64 y12)]) (impl_FDVariables_B3 a1 e11) fz (x14, 0, 0) o3 hl ⟨kr, kr, kr, kr, kr, kr, kr, kr, kr, kr, kr, kr, trivial⟩ (fun _ => rfl) ?_
        rintro m ⟨y10, y11, y12⟩ N h hN
        unfold impl_FDVariables_B3 at h
        dsimp only at h
        refine ls_rs tbOk ?_
        refine evs (ev_bin (c1 := .int .i64 y12) (c2 := .int .i64 (List.length a1.2.1 : Int)) rfl rfl rfl (evn ?_))
        refine ls_keep [(3, .box [.str a1.1, .dat a1.2.1.length (a1.2.1.flatMap ci64), .int .i64 a1.2.2]), (6, .own 3 y4.length (y4.flatMap ci64)), (7, .own 3 y5.length (y5.flatMap ci64)), (9, .box [.str e11.1, .dat e11.2.length (e11.2.flatMap ci64)]), (10, .bool y10), (11, .int .i64 y11), (18, .dat a0.2.1.length (a0.2.1.flatMap c150_d)), (19, .int .i64 (List.length a0.2.1 : Int)), (20, .int .i64 y6), (39, .dat a1.2.1.length (a1.2.1.flatMap ci64)), (40, .int .i64 (List.length a1.2.1 : Int)), (41, .int .i64 y12), (42, .bool (decide (y12 < (List.length a1.2.1 : Int))))] ⟨kr, kr, kr, kr, kr, kr, kr, kr, kr, kr, kr, kr, kr, trivial⟩ rfl ?_
        refine ls_seq_k fun K18 hK18 => ?_
        rcases cond_some h with ⟨g19, h⟩ | ⟨g19, h⟩
        · refine ls_cT rfl g19 ?_
          refine ls_skip ?_
          refine hK18 _ (ls_keep [(3, .box [.str a1.1, .dat a1.2.1.length (a1.2.1.flatMap ci64), .int .i64 a1.2.2]), (6, .own 3 y4.length (y4.flatMap ci64)), (7, .own 3 y5.length (y5.flatMap ci64)), (9, .box [.str e11.1, .dat e11.2.length (e11.2.flatMap ci64)]), (10, .bool y10), (11, .int .i64 y11), (18, .dat a0.2.1.length (a0.2.1.flatMap c150_d)), (19, .int .i64 (List.length a0.2.1 : Int)), (20, .int .i64 y6), (39, .dat a1.2.1.length (a1.2.1.flatMap ci64)), (40, .int .i64 (List.length a1.2.1 : Int)), (41, .int .i64 y12)] ⟨kr, kr, kr, kr, kr, kr, kr, kr, kr, kr, kr, kr, trivial⟩ rfl ?_)
          refine ls_seq_k fun K20 hK20 => ?_
          refine ls_blk ?_
          refine ls_rs tbOk ?_
          obtain ⟨e21, g22, h⟩ := ob_some h
          refine evs (ev_ia rfl rfl rfl ⟨(geti_some g22).1, (geti_some g22).2.1⟩ (evs (ev_ldE (off := 0) (v := .int .i64 e21) rfl rfl zci64 g22 rfl (Nat.le_of_ble_eq_true rfl) rfl (evs (ev_as (c := .int .i64 e21) rfl rfl rfl (evn ?_))))))
          refine ls_keep [(3, .box [.str a1.1, .dat a1.2.1.length (a1.2.1.flatMap ci64), .int .i64 a1.2.2]), (6, .own 3 y4.length (y4.flatMap ci64)), (7, .own 3 y5.length (y5.flatMap ci64)), (9, .box [.str e11.1, .dat e11.2.length (e11.2.flatMap ci64)]), (10, .bool y10), (11, .int .i64 y11), (13, .int .i64 e21), (18, .dat a0.2.1.length (a0.2.1.flatMap c150_d)), (19, .int .i64 (List.length a0.2.1 : Int)), (20, .int .i64 y6), (39, .dat a1.2.1.length (a1.2.1.flatMap ci64)), (40, .int .i64 (List.length a1.2.1 : Int)), (41, .int .i64 y12)] ⟨kr, kr, kr, kr, kr, kr, kr, kr, kr, kr, kr, kr, kr, trivial⟩ rfl ?_
          refine ls_rs tbOk ?_
          refine evs (ev_mv (c := .int .i64 e21) rfl rfl rfl (evs (ev_fa (c1 := .cref 9 0) (v := .cref 9 1) rfl rfl rfl ⟨_, rfl⟩ rfl (evs (ev_ldB (off := 1) (v := .dat e11.2.length (e11.2.flatMap ci64)) rfl rfl rfl rfl (Nat.le_of_ble_eq_true rfl) rfl (evs (ev_len (c1 := .dat e11.2.length (e11.2.flatMap ci64)) rfl rfl rfl (evs (ev_bin (c1 := .int .i64 (List.length e11.2 : Int)) (c2 := .int .i64 1) rfl rfl rfl (?_))))))))))
          obtain ⟨v23, g24, h⟩ := ob_some h
          refine evs (ev_call (era rfl rfl (era rfl rfl (era rfl rfl eran))) (impl_within_s g24) (evs (ev_un (c1 := .bool v23) rfl trivial (evn ?_))))
          refine ls_keep [(3, .box [.str a1.1, .dat a1.2.1.length (a1.2.1.flatMap ci64), .int .i64 a1.2.2]), (6, .own 3 y4.length (y4.flatMap ci64)), (7, .own 3 y5.length (y5.flatMap ci64)), (9, .box [.str e11.1, .dat e11.2.length (e11.2.flatMap ci64)]), (10, .bool y10), (11, .int .i64 y11), (13, .int .i64 e21), (18, .dat a0.2.1.length (a0.2.1.flatMap c150_d)), (19, .int .i64 (List.length a0.2.1 : Int)), (20, .int .i64 y6), (39, .dat a1.2.1.length (a1.2.1.flatMap ci64)), (40, .int .i64 (List.length a1.2.1 : Int)), (41, .int .i64 y12), (51, .bool (!v23))] ⟨kr, kr, kr, kr, kr, kr, kr, kr, kr, kr, kr, kr, kr, kr, trivial⟩ rfl ?_
          have kimpl_FDVariables_J4 : ∀ (x25 : Bool) (x26 : Int), impl_FDVariables_J4 (loopF (impl_FDVariables_B3 a1 e11) m) y12 x25 x26 = some o3 → ∀ σ' : PS, okK σ' [(3, .box [.str a1.1, .dat a1.2.1.length (a1.2.1.flatMap ci64), .int .i64 a1.2.2]), (6, .own 3 y4.length (y4.flatMap ci64)), (7, .own 3 y5.length (y5.flatMap ci64)), (9, .box [.str e11.1, .dat e11.2.length (e11.2.flatMap ci64)]), (10, .bool x25), (11, .int .i64 x26), (18, .dat a0.2.1.length (a0.2.1.flatMap c150_d)), (19, .int .i64 (List.length a0.2.1 : Int)), (20, .int .i64 y6), (39, .dat a1.2.1.length (a1.2.1.flatMap ci64)), (40, .int .i64 (List.length a1.2.1 : Int)), (41, .int .i64 y12)] → K20 σ' := by
            intro x25 x26 h σ' hk
            unfold impl_FDVariables_J4 at h
            refine hK20 _ (ls_keep [(3, .box [.str a1.1, .dat a1.2.1.length (a1.2.1.flatMap ci64), .int .i64 a1.2.2]), (6, .own 3 y4.length (y4.flatMap ci64)), (7, .own 3 y5.length (y5.flatMap ci64)), (9, .box [.str e11.1, .dat e11.2.length (e11.2.flatMap ci64)]), (10, .bool x25), (11, .int .i64 x26), (18, .dat a0.2.1.length (a0.2.1.flatMap c150_d)), (19, .int .i64 (List.length a0.2.1 : Int)), (20, .int .i64 y6), (39, .dat a1.2.1.length (a1.2.1.flatMap ci64)), (40, .int .i64 (List.length a1.2.1 : Int)), (41, .int .i64 y12)] hk rfl ?_)
            refine ls_rgn tbOk ?_
            refine evs (ev_bin (c1 := .int .i64 y12) (c2 := .int .i64 1) rfl rfl rfl (evs (ev_mv (c := .int .i64 (IntKind.i64.wrap (y12 + 1))) rfl rfl rfl (evn ?_))))
            exact hN _ (x25, x26, (IntKind.i64.wrap (y12 + 1))) h ⟨kr, kr, kr, kr, kr, kr, kr, kr, kr, kr, kr, kr, trivial⟩
          rcases cond_some h with ⟨g27, h⟩ | ⟨g27, h⟩
          · refine ls_cT rfl g27 ?_
            refine ls_rgn tbOk ?_
            refine evs (ev_ac rfl nofun rfl (evn ?_))
            exact kimpl_FDVariables_J4 false y11 h _ ⟨kr, kr, kr, kr, kr, kr, kr, kr, kr, kr, kr, kr, trivial⟩
          · refine ls_cF rfl g27 ?_
            refine ls_rgn tbOk ?_
            refine evs (ev_mv (c := .int .i64 y11) rfl rfl rfl (evs (ev_fa (c1 := .cref 9 0) (v := .cref 9 1) rfl rfl rfl ⟨_, rfl⟩ rfl (evs (ev_ldB (off := 1) (v := .dat e11.2.length (e11.2.flatMap ci64)) rfl rfl rfl rfl (Nat.le_of_ble_eq_true rfl) rfl (evs (ev_mv (c := .int .i64 e21) rfl rfl rfl (?_))))))))
            obtain ⟨e28, g29, h⟩ := ob_some h
            refine evs (ev_ia rfl rfl rfl ⟨(geti_some g29).1, (geti_some g29).2.1⟩ (evs (ev_ldE (off := 0) (v := .int .i64 e28) rfl rfl zci64 g29 rfl (Nat.le_of_ble_eq_true rfl) rfl (evs (ev_cvi rfl rfl rfl (?_))))))
            obtain ⟨g30, h⟩ := chk_some h
            refine evs (ev_bin (c1 := .int .i64 1) (c2 := .int .u64 (IntKind.u64.wrap e28)) rfl rfl g30 (evs (ev_bin (c1 := .int .i64 y11) (c2 := .int .i64 (shlI 1 (IntKind.u64.wrap e28))) rfl rfl rfl (evs (ev_as (c := .int .i64 (orI y11 (shlI 1 (IntKind.u64.wrap e28)))) rfl rfl rfl (evn ?_))))))
            exact kimpl_FDVariables_J4 y10 (orI y11 (shlI 1 (IntKind.u64.wrap e28))) h _ ⟨kr, kr, kr, kr, kr, kr, kr, kr, kr, kr, kr, kr, trivial⟩
        · refine ls_cF rfl g19 ?_
          refine ls_exit ?_
          have q0 := (Option.some.inj h).symm
          have r0 := hr3
          rw [q0] at r0
          exact kXimpl_FDVariables_B3 y10 y11 r0 _ ⟨kr, kr, kr, kr, kr, kr, kr, kr, kr, trivial⟩
      refine evs (ev_fa (c1 := .cref 9 0) (v := .cref 9 0) rfl rfl rfl ⟨_, rfl⟩ rfl (evs (ev_ldB (off := 0) (v := .str e11.1) rfl rfl rfl rfl (Nat.le_of_ble_eq_true rfl) rfl (evs (ev_fa (c1 := .cref 3 0) (v := .cref 3 0) rfl rfl rfl ⟨_, rfl⟩ rfl (evs (ev_ldB (off := 0) (v := .str a1.1) rfl rfl rfl rfl (Nat.le_of_ble_eq_true rfl) rfl (evs (ev_bin (c1 := .str e11.1) (c2 := .str a1.1) rfl rfl trivial (evs (ev_mv (c := .bool (e11.1 == a1.1)) rfl rfl rfl (?_))))))))))))
      rcases cond_some h with ⟨g40, h⟩ | ⟨g40, h⟩
      · refine evs (ev_gr rfl (congrArg V.bool g40) (ev_fa (c1 := .cref 3 0) (v := .cref 3 2) rfl rfl rfl ⟨_, rfl⟩ rfl (evs (ev_gr rfl (congrArg V.bool g40) (ev_ldB (off := 2) (v := .int .i64 a1.2.2) rfl rfl rfl rfl (Nat.le_of_ble_eq_true rfl) rfl (evs (ev_gr rfl (congrArg V.bool g40) (ev_fa (c1 := .cref 9 0) (v := .cref 9 1) rfl rfl rfl ⟨_, rfl⟩ rfl (evs (ev_gr rfl (congrArg V.bool g40) (ev_ldB (off := 1) (v := .dat e11.2.length (e11.2.flatMap ci64)) rfl rfl rfl rfl (Nat.le_of_ble_eq_true rfl) rfl (evs (ev_gr rfl (congrArg V.bool g40) (ev_len (c1 := .dat e11.2.length (e11.2.flatMap ci64)) rfl rfl rfl (evs (ev_gr rfl (congrArg V.bool g40) (ev_bin (c1 := .int .i64 (List.length e11.2 : Int)) (c2 := .int .i64 1) rfl rfl rfl (?_))))))))))))))))))
        obtain ⟨v41, g42, h⟩ := ob_some h
        refine evs (ev_gr rfl (congrArg V.bool g40) (ev_call (era rfl rfl (era rfl rfl (era rfl rfl eran))) (impl_within_s g42) (evs (ev_pkT (c1 := .bool v41) rfl g40 rfl rfl (evs (ev_as (c := .bool v41) rfl rfl rfl (evn ?_)))))))
        exact kimpl_FDVariables_J2 v41 h _ ⟨kr, kr, kr, kr, kr, kr, kr, kr, trivial⟩
      · refine evs (ev_gs rfl rfl (isb_F g40) (evs (ev_gs rfl rfl (isb_F g40) (evs (ev_gs rfl rfl (isb_F g40) (evs (ev_gs rfl rfl (isb_F g40) (evs (ev_gs rfl rfl (isb_F g40) (evs (ev_gs rfl rfl (isb_F g40) (evs (ev_gs rfl rfl (isb_F g40) (evs (ev_pkF (c1 := .bool false) rfl g40 rfl rfl (evs (ev_as (c := .bool false) rfl rfl rfl (evn ?_))))))))))))))))))
        exact kimpl_FDVariables_J2 false h _ ⟨kr, kr, kr, kr, kr, kr, kr, kr, trivial⟩
    · refine ls_cF rfl g9 ?_
      refine ls_exit ?_
      have q0 := (Option.some.inj h).symm
      have r0 := hr1
      rw [q0] at r0
      exact kXimpl_FDVariables_B1 y4 y5 r0 _ ⟨kr, kr, trivial⟩
def impl_FDClosure_J2 (rec : (Int × Int) → Option (Int)) (y2 : Int) (x14 : Int) : Option (Int) := rec (x14, (IntKind.i64.wrap (y2 + 1)))
def impl_FDClosure_B1 (a0 : Int × (List ((List UInt8) × (List Int))) × (List Int)) (a2 : List Int) (rec : (Int × Int) → Option (Int)) (s : Int × Int) : Option (Int) := match s with
  | (y1, y2) => cond (decide (y2 < (List.length a2 : Int))) (obind (geti a2 y2) fun e10 => obind (impl_within e10 0 (IntKind.i64.wrap (a0.1 - 1))) fun v12 => cond v12 (chk ((0 : Int) ≤ IntKind.u64.wrap e10) (impl_FDClosure_J2 rec y2 (orI y1 (shlI 1 (IntKind.u64.wrap e10))))) (impl_FDClosure_J2 rec y2 y1)) (some y1)
def impl_FDClosure_J7 (rec : (Int × Int) → Option (Int)) (y28 : Int) (x38 : Int) : Option (Int) := rec (x38, (IntKind.i64.wrap (y28 + 1)))
def impl_FDClosure_J6 (rec : (Int × Int) → Option (Int)) (v28 : (List Int) × (List Int)) (y27 : Int) (y28 : Int) (x37 : Bool) : Option (Int) := cond x37 (obind (geti v28.2 y28) fun e40 => chk ((0 : Int) ≤ IntKind.u64.wrap e40) (impl_FDClosure_J7 rec y28 (orI y27 (shlI 1 (IntKind.u64.wrap e40))))) (impl_FDClosure_J7 rec y28 y27)
def impl_FDClosure_B5 (v28 : (List Int) × (List Int)) (rec : (Int × Int) → Option (Int)) (s : Int × Int) : Option (Int) := match s with
  | (y27, y28) => cond (decide (y28 < (List.length v28.1 : Int))) (obind (geti v28.1 y28) fun e34 => obind (geti v28.2 y28) fun e43 => cond (decide (0 ≤ e43)) (impl_FDClosure_J6 rec v28 y27 y28 ((andNotI e34 y27) == 0)) (impl_FDClosure_J6 rec v28 y27 y28 false)) (some y27)
def impl_FDClosure_B4 (a0 : Int × (List ((List UInt8) × (List Int))) × (List Int)) (a1 : List ((List UInt8) × (List Int) × Int)) (rec : (Int × Int) → Option (Int)) (s : Int × Int) : Option (Int) := match s with
  | (y23, y24) => cond (decide (y24 < (List.length a1 : Int))) (obind (geti a1 y24) fun e26 => obind (impl_FDVariables a0 e26) fun v28 => obind (loopF (impl_FDClosure_B5 v28) fz (y23, 0)) fun z30 => rec (z30, (IntKind.i64.wrap (y24 + 1)))) (some y23)
def impl_FDClosure_B3 (a0 : Int × (List ((List UInt8) × (List Int))) × (List Int)) (a1 : List ((List UInt8) × (List Int) × Int)) (rec : (Int × Int) → Option (Int)) (s : Int × Int) : Option (Int) := match s with
  | (y11, y12) => cond (decide (y12 < a0.1)) (obind (loopF (impl_FDClosure_B4 a0 a1) fz (y11, 0)) fun z22 => rec (z22, (IntKind.i64.wrap (y12 + 1)))) (some y11)
def impl_FDClosure_J9 (rec : ((List Int) × Int) → Option ((List Int))) (y30 : Int) (x52 : List Int) : Option ((List Int)) := rec (x52, (IntKind.i64.wrap (y30 + 1)))
def impl_FDClosure_B8 (a0 : Int × (List ((List UInt8) × (List Int))) × (List Int)) (z18 : Int) (rec : ((List Int) × Int) → Option ((List Int))) (s : (List Int) × Int) : Option ((List Int)) := match s with
  | (y29, y30) => cond (decide (y30 < a0.1)) (chk ((0 : Int) ≤ IntKind.u64.wrap y30) (cond ((andI (shrI z18 (IntKind.u64.wrap y30)) 1) == 1) (chk (List.length y29 + List.length [y30] ≤ lim) (impl_FDClosure_J9 rec y30 (y29 ++ [y30]))) (impl_FDClosure_J9 rec y30 y29))) (some y29)
def impl_FDClosure (a0 : Int × (List ((List UInt8) × (List Int))) × (List Int)) (a1 : List ((List UInt8) × (List Int) × Int)) (a2 : List Int) : Option ((List Int)) := obind (impl_IsValidQuery a0) fun v2 => cond (!v2) (some ([] : List Int)) (obind (loopF (impl_FDClosure_B1 a0 a2) fz (0, 0)) fun z6 => obind (loopF (impl_FDClosure_B3 a0 a1) fz (z6, 0)) fun z18 => obind (loopF (impl_FDClosure_B8 a0 z18) fz (([] : List Int), 0)) fun z47 => some z47)
theorem impl_FDClosure_s {a0 : Int × (List ((List UInt8) × (List Int))) × (List Int)} {a1 : List ((List UInt8) × (List Int) × Int)} {a2 : List Int} {r : (List Int)} (h : impl_FDClosure a0 a1 a2 = some r) : SoundAt Try.prog 77 [.agg [.int .i64 a0.1, .dat a0.2.1.length (a0.2.1.flatMap c150_d), .dat a0.2.2.length (a0.2.2.flatMap ci64)], .dat a1.length (a1.flatMap c86_d), .dat a2.length (a2.flatMap ci64)] (.own 3 r.length (r.flatMap ci64)) := by
  unfold impl_FDClosure at h
  refine sound_lit tbOk lit77 (Nat.le_of_ble_eq_true rfl) rfl ?_
  unfold c77
  refine ls_keep [(0, .agg [.int .i64 a0.1, .dat a0.2.1.length (a0.2.1.flatMap c150_d), .dat a0.2.2.length (a0.2.2.flatMap ci64)]), (1, .dat a1.length (a1.flatMap c86_d)), (2, .dat a2.length (a2.flatMap ci64))] ⟨kr, kr, kr, trivial⟩ rfl ?_
  refine ls_rs tbOk ?_
  refine evs (ev_bx (c1 := .agg [.int .i64 a0.1, .dat a0.2.1.length (a0.2.1.flatMap c150_d), .dat a0.2.2.length (a0.2.2.flatMap ci64)]) rfl rfl rfl (evs (ev_an rfl rfl (evn ?_))))
  refine ls_keep [(1, .dat a1.length (a1.flatMap c86_d)), (2, .dat a2.length (a2.flatMap ci64)), (3, .box [.int .i64 a0.1, .dat a0.2.1.length (a0.2.1.flatMap c150_d), .dat a0.2.2.length (a0.2.2.flatMap ci64)])] ⟨kr, kr, kr, trivial⟩ rfl ?_
  refine ls_seq_k fun K1 hK1 => ?_
  refine ls_rs tbOk ?_
  refine evs (ev_ldB (off := 0) (v := .agg [.int .i64 a0.1, .dat a0.2.1.length (a0.2.1.flatMap c150_d), .dat a0.2.2.length (a0.2.2.flatMap ci64)]) rfl rfl rfl rfl (Nat.le_of_ble_eq_true rfl) rfl (?_))
  obtain ⟨v2, g3, h⟩ := ob_some h
  refine evs (ev_call (era rfl (erg (erc rfl (erc (erD ec150_d _) (erc (erD eci64 _) rfl)))) eran) (impl_IsValidQuery_s g3) (evs (ev_un (c1 := .bool v2) rfl trivial (evn ?_))))
  refine ls_keep [(1, .dat a1.length (a1.flatMap c86_d)), (2, .dat a2.length (a2.flatMap ci64)), (3, .box [.int .i64 a0.1, .dat a0.2.1.length (a0.2.1.flatMap c150_d), .dat a0.2.2.length (a0.2.2.flatMap ci64)]), (21, .bool (!v2))] ⟨kr, kr, kr, kr, trivial⟩ rfl ?_
  rcases cond_some h with ⟨g4, h⟩ | ⟨g4, h⟩
  · refine ls_cT rfl g4 ?_
    refine ls_rs tbOk ?_
    refine evs (ev_an rfl rfl (evn ?_))
    refine ls_keep [(6, .own 3 ([] : List Int).length (([] : List Int).flatMap ci64))] ⟨kr, trivial⟩ rfl ?_
    refine ls_ret ?_
    have hr := Option.some.inj h
    rw [← hr]
    exact ⟨.inl rfl, rfl⟩
  · refine ls_cF rfl g4 ?_
    refine ls_skip ?_
    refine hK1 _ (ls_keep [(1, .dat a1.length (a1.flatMap c86_d)), (2, .dat a2.length (a2.flatMap ci64)), (3, .box [.int .i64 a0.1, .dat a0.2.1.length (a0.2.1.flatMap c150_d), .dat a0.2.2.length (a0.2.2.flatMap ci64)])] ⟨kr, kr, kr, trivial⟩ rfl ?_)
    refine ls_rs tbOk ?_
    refine evs (ev_ac rfl nofun rfl (evn ?_))
    refine ls_keep [(1, .dat a1.length (a1.flatMap c86_d)), (2, .dat a2.length (a2.flatMap ci64)), (3, .box [.int .i64 a0.1, .dat a0.2.1.length (a0.2.1.flatMap c150_d), .dat a0.2.2.length (a0.2.2.flatMap ci64)]), (7, .int .i64 0)] ⟨kr, kr, kr, kr, trivial⟩ rfl ?_
    refine ls_seq_k fun K5 hK5 => ?_
    refine ls_rs tbOk ?_
    refine evs (ev_mv (c := .dat a2.length (a2.flatMap ci64)) rfl rfl rfl (evs (ev_len (c1 := .dat a2.length (a2.flatMap ci64)) rfl rfl rfl (evs (ev_mc rfl rfl (evn ?_))))))
    refine ls_keep [(1, .dat a1.length (a1.flatMap c86_d)), (3, .box [.int .i64 a0.1, .dat a0.2.1.length (a0.2.1.flatMap c150_d), .dat a0.2.2.length (a0.2.2.flatMap ci64)]), (7, .int .i64 0), (22, .dat a2.length (a2.flatMap ci64)), (23, .int .i64 (List.length a2 : Int)), (24, .int .i64 0)] ⟨kr, kr, kr, kr, kr, kr, trivial⟩ rfl ?_
    obtain ⟨o1, hl, hr1⟩ := ob_some h
    clear h
    have kXimpl_FDClosure_B1 : ∀ (z6 : Int), (obind (loopF (impl_FDClosure_B3 a0 a1) fz (z6, 0)) fun z18 => obind (loopF (impl_FDClosure_B8 a0 z18) fz (([] : List Int), 0)) fun z47 => some z47) = some r → ∀ σ' : PS, okK σ' [(1, .dat a1.length (a1.flatMap c86_d)), (3, .box [.int .i64 a0.1, .dat a0.2.1.length (a0.2.1.flatMap c150_d), .dat a0.2.2.length (a0.2.2.flatMap ci64)]), (7, .int .i64 z6)] → K5 σ' := by
      intro z6 h σ' hk
      refine hK5 _ (ls_keep [(1, .dat a1.length (a1.flatMap c86_d)), (3, .box [.int .i64 a0.1, .dat a0.2.1.length (a0.2.1.flatMap c150_d), .dat a0.2.2.length (a0.2.2.flatMap ci64)]), (7, .int .i64 z6)] hk rfl ?_)
      refine ls_seq_k fun K17 hK17 => ?_
      refine ls_rs tbOk ?_
      refine evs (ev_ac rfl nofun rfl (evn ?_))
      refine ls_keep [(1, .dat a1.length (a1.flatMap c86_d)), (3, .box [.int .i64 a0.1, .dat a0.2.1.length (a0.2.1.flatMap c150_d), .dat a0.2.2.length (a0.2.2.flatMap ci64)]), (7, .int .i64 z6), (10, .int .i64 0)] ⟨kr, kr, kr, kr, trivial⟩ rfl ?_
      obtain ⟨o3, hl, hr3⟩ := ob_some h
      clear h
      have kXimpl_FDClosure_B3 : ∀ (z18 : Int), (obind (loopF (impl_FDClosure_B8 a0 z18) fz (([] : List Int), 0)) fun z47 => some z47) = some r → ∀ σ' : PS, okK σ' [(3, .box [.int .i64 a0.1, .dat a0.2.1.length (a0.2.1.flatMap c150_d), .dat a0.2.2.length (a0.2.2.flatMap ci64)]), (7, .int .i64 z18)] → K17 σ' := by
        intro z18 h σ' hk
        refine hK17 _ (ls_keep [(3, .box [.int .i64 a0.1, .dat a0.2.1.length (a0.2.1.flatMap c150_d), .dat a0.2.2.length (a0.2.2.flatMap ci64)]), (7, .int .i64 z18)] hk rfl ?_)
        refine ls_rs tbOk ?_
        refine evs (ev_an rfl rfl (evn ?_))
        refine ls_keep [(3, .box [.int .i64 a0.1, .dat a0.2.1.length (a0.2.1.flatMap c150_d), .dat a0.2.2.length (a0.2.2.flatMap ci64)]), (7, .int .i64 z18), (17, .own 3 ([] : List Int).length (([] : List Int).flatMap ci64))] ⟨kr, kr, kr, trivial⟩ rfl ?_
        refine ls_seq_k fun K46 hK46 => ?_
        refine ls_rs tbOk ?_
        refine evs (ev_ac rfl nofun rfl (evn ?_))
        refine ls_keep [(3, .box [.int .i64 a0.1, .dat a0.2.1.length (a0.2.1.flatMap c150_d), .dat a0.2.2.length (a0.2.2.flatMap ci64)]), (7, .int .i64 z18), (17, .own 3 ([] : List Int).length (([] : List Int).flatMap ci64)), (18, .int .i64 0)] ⟨kr, kr, kr, kr, trivial⟩ rfl ?_
        obtain ⟨o8, hl, hr8⟩ := ob_some h
        clear h
        have kXimpl_FDClosure_B8 : ∀ (z47 : List Int), (some z47) = some r → ∀ σ' : PS, okK σ' [(17, .own 3 z47.length (z47.flatMap ci64))] → K46 σ' := by
          intro z47 h σ' hk
          refine hK46 _ (ls_keep [(17, .own 3 z47.length (z47.flatMap ci64))] hk rfl ?_)
          refine ls_rs tbOk ?_
          refine evs (ev_mvt (c := .own 3 z47.length (z47.flatMap ci64)) rfl rfl rfl (evs (ev_as (c := .own 3 z47.length (z47.flatMap ci64)) rfl rfl rfl (evn ?_))))
          refine ls_keep [(6, .own 3 z47.length (z47.flatMap ci64))] ⟨kr, trivial⟩ rfl ?_
          refine ls_ret ?_
          have hr := Option.some.inj h
          rw [← hr]
          exact ⟨.inl rfl, rfl⟩
        refine ls_rec (fun (s : (List Int) × Int) => match s with | (y29, y30) => [(3, .box [.int .i64 a0.1, .dat a0.2.1.length (a0.2.1.flatMap c150_d), .dat a0.2.2.length (a0.2.2.flatMap ci64)]), (7, .int .i64 z18), (17, .own 3 y29.length (y29.flatMap ci64)), (18, .int .i64 y30)]) (impl_FDClosure_B8 a0 z18) fz (([] : List Int), 0) o8 hl ⟨kr, kr, kr, kr, trivial⟩ (fun _ => rfl) ?_
        rintro m ⟨y29, y30⟩ N h hN
        unfold impl_FDClosure_B8 at h
        dsimp only at h
        refine ls_seq_k fun K48 hK48 => ?_
        refine ls_rs tbOk ?_
        refine evs (ev_mv (c := .int .i64 y30) rfl rfl rfl (evs (ev_fa (c1 := .cref 3 0) (v := .cref 3 0) rfl rfl rfl ⟨_, rfl⟩ rfl (evs (ev_ldB (off := 0) (v := .int .i64 a0.1) rfl rfl rfl rfl (Nat.le_of_ble_eq_true rfl) rfl (evs (ev_bin (c1 := .int .i64 y30) (c2 := .int .i64 a0.1) rfl rfl rfl (evn ?_))))))))
        refine ls_keep [(3, .box [.int .i64 a0.1, .dat a0.2.1.length (a0.2.1.flatMap c150_d), .dat a0.2.2.length (a0.2.2.flatMap ci64)]), (7, .int .i64 z18), (17, .own 3 y29.length (y29.flatMap ci64)), (18, .int .i64 y30), (88, .bool (decide (y30 < a0.1)))] ⟨kr, kr, kr, kr, kr, trivial⟩ rfl ?_
        rcases cond_some h with ⟨g49, h⟩ | ⟨g49, h⟩
        · refine ls_cT rfl g49 ?_
          refine ls_skip ?_
          refine hK48 _ (ls_keep [(3, .box [.int .i64 a0.1, .dat a0.2.1.length (a0.2.1.flatMap c150_d), .dat a0.2.2.length (a0.2.2.flatMap ci64)]), (7, .int .i64 z18), (17, .own 3 y29.length (y29.flatMap ci64)), (18, .int .i64 y30)] ⟨kr, kr, kr, kr, trivial⟩ rfl ?_)
          refine ls_seq_k fun K50 hK50 => ?_
          refine ls_blk ?_
          refine ls_rs tbOk ?_
          refine evs (ev_mv (c := .int .i64 z18) rfl rfl rfl (evs (ev_mv (c := .int .i64 y30) rfl rfl rfl (evs (ev_cvi rfl rfl rfl (?_))))))
          obtain ⟨g51, h⟩ := chk_some h
          refine evs (ev_bin (c1 := .int .i64 z18) (c2 := .int .u64 (IntKind.u64.wrap y30)) rfl rfl g51 (evs (ev_bin (c1 := .int .i64 (shrI z18 (IntKind.u64.wrap y30))) (c2 := .int .i64 1) rfl rfl rfl (evs (ev_bin (c1 := .int .i64 (andI (shrI z18 (IntKind.u64.wrap y30)) 1)) (c2 := .int .i64 1) rfl rfl rfl (evn ?_))))))
          refine ls_keep [(3, .box [.int .i64 a0.1, .dat a0.2.1.length (a0.2.1.flatMap c150_d), .dat a0.2.2.length (a0.2.2.flatMap ci64)]), (7, .int .i64 z18), (17, .own 3 y29.length (y29.flatMap ci64)), (18, .int .i64 y30), (96, .bool ((andI (shrI z18 (IntKind.u64.wrap y30)) 1) == 1))] ⟨kr, kr, kr, kr, kr, trivial⟩ rfl ?_
          have kimpl_FDClosure_J9 : ∀ (x52 : List Int), impl_FDClosure_J9 (loopF (impl_FDClosure_B8 a0 z18) m) y30 x52 = some o8 → ∀ σ' : PS, okK σ' [(3, .box [.int .i64 a0.1, .dat a0.2.1.length (a0.2.1.flatMap c150_d), .dat a0.2.2.length (a0.2.2.flatMap ci64)]), (7, .int .i64 z18), (17, .own 3 x52.length (x52.flatMap ci64)), (18, .int .i64 y30)] → K50 σ' := by
            intro x52 h σ' hk
            unfold impl_FDClosure_J9 at h
            refine hK50 _ (ls_keep [(3, .box [.int .i64 a0.1, .dat a0.2.1.length (a0.2.1.flatMap c150_d), .dat a0.2.2.length (a0.2.2.flatMap ci64)]), (7, .int .i64 z18), (17, .own 3 x52.length (x52.flatMap ci64)), (18, .int .i64 y30)] hk rfl ?_)
            refine ls_rgn tbOk ?_
            refine evs (ev_mv (c := .int .i64 y30) rfl rfl rfl (evs (ev_bin (c1 := .int .i64 y30) (c2 := .int .i64 1) rfl rfl rfl (evs (ev_as (c := .int .i64 (IntKind.i64.wrap (y30 + 1))) rfl rfl rfl (evn ?_))))))
            exact hN _ (x52, (IntKind.i64.wrap (y30 + 1))) h ⟨kr, kr, kr, kr, trivial⟩
          rcases cond_some h with ⟨g53, h⟩ | ⟨g53, h⟩
          · refine ls_cT rfl g53 ?_
            refine ls_rgn tbOk ?_
            refine evs (ev_mvt (c := .own 3 y29.length (y29.flatMap ci64)) rfl rfl rfl (evs (ev_mv (c := .int .i64 y30) rfl rfl rfl (evs (ev_bs [.int .i64 y30] (cs := [.int .i64 y30]) rfl ⟨rfl, trivial⟩ rfl (Nat.le_of_ble_eq_true rfl) rfl (?_))))))
            obtain ⟨g54, h⟩ := chk_some h
            refine evs (ev_app (f := ci64) (l := y29) (m := [y30]) (c2 := .own 3 [y30].length ([y30].flatMap ci64)) rfl rfl rfl (flat_len zci64 [y30]) rfl rfl g54 rfl (evs (ev_as (c := .own 3 (y29 ++ [y30]).length ((y29 ++ [y30]).flatMap ci64)) rfl rfl rfl (evn ?_))))
            exact kimpl_FDClosure_J9 (y29 ++ [y30]) h _ ⟨kr, kr, kr, kr, trivial⟩
          · refine ls_cF rfl g53 ?_
            refine ls_skip ?_
            exact kimpl_FDClosure_J9 y29 h _ ⟨kr, kr, kr, kr, trivial⟩
        · refine ls_cF rfl g49 ?_
          refine ls_exit ?_
          have q0 := (Option.some.inj h).symm
          have r0 := hr8
          rw [q0] at r0
          exact kXimpl_FDClosure_B8 y29 r0 _ ⟨kr, trivial⟩
      refine ls_rec (fun (s : Int × Int) => match s with | (y11, y12) => [(1, .dat a1.length (a1.flatMap c86_d)), (3, .box [.int .i64 a0.1, .dat a0.2.1.length (a0.2.1.flatMap c150_d), .dat a0.2.2.length (a0.2.2.flatMap ci64)]), (7, .int .i64 y11), (10, .int .i64 y12)]) (impl_FDClosure_B3 a0 a1) fz (z6, 0) o3 hl ⟨kr, kr, kr, kr, trivial⟩ (fun _ => rfl) ?_
      rintro m ⟨y11, y12⟩ N h hN
      unfold impl_FDClosure_B3 at h
      dsimp only at h
      refine ls_seq_k fun K19 hK19 => ?_
      refine ls_rs tbOk ?_
      refine evs (ev_mv (c := .int .i64 y12) rfl rfl rfl (evs (ev_fa (c1 := .cref 3 0) (v := .cref 3 0) rfl rfl rfl ⟨_, rfl⟩ rfl (evs (ev_ldB (off := 0) (v := .int .i64 a0.1) rfl rfl rfl rfl (Nat.le_of_ble_eq_true rfl) rfl (evs (ev_bin (c1 := .int .i64 y12) (c2 := .int .i64 a0.1) rfl rfl rfl (evn ?_))))))))
      refine ls_keep [(1, .dat a1.length (a1.flatMap c86_d)), (3, .box [.int .i64 a0.1, .dat a0.2.1.length (a0.2.1.flatMap c150_d), .dat a0.2.2.length (a0.2.2.flatMap ci64)]), (7, .int .i64 y11), (10, .int .i64 y12), (42, .bool (decide (y12 < a0.1)))] ⟨kr, kr, kr, kr, kr, trivial⟩ rfl ?_
      rcases cond_some h with ⟨g20, h⟩ | ⟨g20, h⟩
      · refine ls_cT rfl g20 ?_
        refine ls_skip ?_
        refine hK19 _ (ls_keep [(1, .dat a1.length (a1.flatMap c86_d)), (3, .box [.int .i64 a0.1, .dat a0.2.1.length (a0.2.1.flatMap c150_d), .dat a0.2.2.length (a0.2.2.flatMap ci64)]), (7, .int .i64 y11), (10, .int .i64 y12)] ⟨kr, kr, kr, kr, trivial⟩ rfl ?_)
        refine ls_seq_k fun K21 hK21 => ?_
        refine ls_blk ?_
        refine ls_rs tbOk ?_
        refine evs (ev_mv (c := .dat a1.length (a1.flatMap c86_d)) rfl rfl rfl (evs (ev_len (c1 := .dat a1.length (a1.flatMap c86_d)) rfl rfl rfl (evs (ev_mc rfl rfl (evn ?_))))))
        refine ls_keep [(1, .dat a1.length (a1.flatMap c86_d)), (3, .box [.int .i64 a0.1, .dat a0.2.1.length (a0.2.1.flatMap c150_d), .dat a0.2.2.length (a0.2.2.flatMap ci64)]), (7, .int .i64 y11), (10, .int .i64 y12), (45, .dat a1.length (a1.flatMap c86_d)), (46, .int .i64 (List.length a1 : Int)), (47, .int .i64 0)] ⟨kr, kr, kr, kr, kr, kr, kr, trivial⟩ rfl ?_
        obtain ⟨o4, hl, hr4⟩ := ob_some h
        clear h
        have kXimpl_FDClosure_B4 : ∀ (z22 : Int), ((loopF (impl_FDClosure_B3 a0 a1) m) (z22, (IntKind.i64.wrap (y12 + 1)))) = some o3 → ∀ σ' : PS, okK σ' [(1, .dat a1.length (a1.flatMap c86_d)), (3, .box [.int .i64 a0.1, .dat a0.2.1.length (a0.2.1.flatMap c150_d), .dat a0.2.2.length (a0.2.2.flatMap ci64)]), (7, .int .i64 z22), (10, .int .i64 y12)] → K21 σ' := by
          intro z22 h σ' hk
          refine hK21 _ (ls_keep [(1, .dat a1.length (a1.flatMap c86_d)), (3, .box [.int .i64 a0.1, .dat a0.2.1.length (a0.2.1.flatMap c150_d), .dat a0.2.2.length (a0.2.2.flatMap ci64)]), (7, .int .i64 z22), (10, .int .i64 y12)] hk rfl ?_)
          refine ls_rgn tbOk ?_
          refine evs (ev_mv (c := .int .i64 y12) rfl rfl rfl (evs (ev_bin (c1 := .int .i64 y12) (c2 := .int .i64 1) rfl rfl rfl (evs (ev_as (c := .int .i64 (IntKind.i64.wrap (y12 + 1))) rfl rfl rfl (evn ?_))))))
          exact hN _ (z22, (IntKind.i64.wrap (y12 + 1))) h ⟨kr, kr, kr, kr, trivial⟩
        refine ls_rec (fun (s : Int × Int) => match s with | (y23, y24) => [(1, .dat a1.length (a1.flatMap c86_d)), (3, .box [.int .i64 a0.1, .dat a0.2.1.length (a0.2.1.flatMap c150_d), .dat a0.2.2.length (a0.2.2.flatMap ci64)]), (7, .int .i64 y23), (10, .int .i64 y12), (45, .dat a1.length (a1.flatMap c86_d)), (46, .int .i64 (List.length a1 : Int)), (47, .int .i64 y24)]) (impl_FDClosure_B4 a0 a1) fz (y11, 0) o4 hl ⟨kr, kr, kr, kr, kr, kr, kr, trivial⟩ (fun _ => rfl) ?_
        rintro m ⟨y23, y24⟩ N h hN
        unfold impl_FDClosure_B4 at h
        dsimp only at h
        refine ls_rs tbOk ?_
        refine evs (ev_bin (c1 := .int .i64 y24) (c2 := .int .i64 (List.length a1 : Int)) rfl rfl rfl (evn ?_))
        refine ls_keep [(1, .dat a1.length (a1.flatMap c86_d)), (3, .box [.int .i64 a0.1, .dat a0.2.1.length (a0.2.1.flatMap c150_d), .dat a0.2.2.length (a0.2.2.flatMap ci64)]), (7, .int .i64 y23), (10, .int .i64 y12), (45, .dat a1.length (a1.flatMap c86_d)), (46, .int .i64 (List.length a1 : Int)), (47, .int .i64 y24), (48, .bool (decide (y24 < (List.length a1 : Int))))] ⟨kr, kr, kr, kr, kr, kr, kr, kr, trivial⟩ rfl ?_
        refine ls_seq_k fun K23 hK23 => ?_
        rcases cond_some h with ⟨g24, h⟩ | ⟨g24, h⟩
        · refine ls_cT rfl g24 ?_
          refine ls_skip ?_
          refine hK23 _ (ls_keep [(1, .dat a1.length (a1.flatMap c86_d)), (3, .box [.int .i64 a0.1, .dat a0.2.1.length (a0.2.1.flatMap c150_d), .dat a0.2.2.length (a0.2.2.flatMap ci64)]), (7, .int .i64 y23), (10, .int .i64 y12), (45, .dat a1.length (a1.flatMap c86_d)), (46, .int .i64 (List.length a1 : Int)), (47, .int .i64 y24)] ⟨kr, kr, kr, kr, kr, kr, kr, trivial⟩ rfl ?_)
          refine ls_seq_k fun K25 hK25 => ?_
          refine ls_blk ?_
          refine ls_rs tbOk ?_
          obtain ⟨e26, g27, h⟩ := ob_some h
          refine evs (ev_ia rfl rfl rfl ⟨(geti_some g27).1, (geti_some g27).2.1⟩ (evs (ev_ldEt (off := 0) (v := .agg [.str e26.1, .dat e26.2.1.length (e26.2.1.flatMap ci64), .int .i64 e26.2.2]) rfl rfl zc86_d g27 rfl (Nat.le_of_ble_eq_true rfl) rfl (evs (ev_al rfl rfl (evs (ev_st (off := 0) (c1 := .agg [.str e26.1, .dat e26.2.1.length (e26.2.1.flatMap ci64), .int .i64 e26.2.2]) (cs' := [.str e26.1, .dat e26.2.1.length (e26.2.1.flatMap ci64), .int .i64 e26.2.2]) rfl rfl rfl rfl rfl rfl (Nat.le_of_ble_eq_true rfl) rfl (evn ?_))))))))
          refine ls_keep [(1, .dat a1.length (a1.flatMap c86_d)), (3, .box [.int .i64 a0.1, .dat a0.2.1.length (a0.2.1.flatMap c150_d), .dat a0.2.2.length (a0.2.2.flatMap ci64)]), (7, .int .i64 y23), (10, .int .i64 y12), (12, .box [.str e26.1, .dat e26.2.1.length (e26.2.1.flatMap ci64), .int .i64 e26.2.2]), (45, .dat a1.length (a1.flatMap c86_d)), (46, .int .i64 (List.length a1 : Int)), (47, .int .i64 y24)] ⟨kr, kr, kr, kr, kr, kr, kr, kr, trivial⟩ rfl ?_
          refine ls_rs tbOk ?_
          refine evs (ev_ldB (off := 0) (v := .agg [.int .i64 a0.1, .dat a0.2.1.length (a0.2.1.flatMap c150_d), .dat a0.2.2.length (a0.2.2.flatMap ci64)]) rfl rfl rfl rfl (Nat.le_of_ble_eq_true rfl) rfl (evs (ev_ldB (off := 0) (v := .agg [.str e26.1, .dat e26.2.1.length (e26.2.1.flatMap ci64), .int .i64 e26.2.2]) rfl rfl rfl rfl (Nat.le_of_ble_eq_true rfl) rfl (?_))))
          obtain ⟨v28, g29, h⟩ := ob_some h
          refine evs (ev_call (era rfl (erg (erc rfl (erc (erD ec150_d _) (erc (erD eci64 _) rfl)))) (era rfl (erg (erc rfl (erc (erD eci64 _) (erc rfl rfl)))) eran)) (impl_FDVariables_s g29) (evs (ev_mvt (c := .tup [.own 3 v28.1.length (v28.1.flatMap ci64), .own 3 v28.2.length (v28.2.flatMap ci64)]) rfl rfl rfl (evs (ev_ext rfl rfl rfl rfl (evs (ev_ext rfl rfl rfl rfl (evs (ev_as (c := .own 3 v28.1.length (v28.1.flatMap ci64)) rfl rfl rfl (evs (ev_as (c := .own 3 v28.2.length (v28.2.flatMap ci64)) rfl rfl rfl (evn ?_))))))))))))
          refine ls_keep [(1, .dat a1.length (a1.flatMap c86_d)), (3, .box [.int .i64 a0.1, .dat a0.2.1.length (a0.2.1.flatMap c150_d), .dat a0.2.2.length (a0.2.2.flatMap ci64)]), (7, .int .i64 y23), (10, .int .i64 y12), (13, .own 3 v28.1.length (v28.1.flatMap ci64)), (14, .own 3 v28.2.length (v28.2.flatMap ci64)), (45, .dat a1.length (a1.flatMap c86_d)), (46, .int .i64 (List.length a1 : Int)), (47, .int .i64 y24)] ⟨kr, kr, kr, kr, kr, kr, kr, kr, kr, trivial⟩ rfl ?_
          refine ls_rs tbOk ?_
          refine evs (ev_mv (c := .own 3 v28.1.length (v28.1.flatMap ci64)) rfl rfl rfl (evs (ev_len (c1 := .dat v28.1.length (v28.1.flatMap ci64)) rfl rfl rfl (evs (ev_mc rfl rfl (evn ?_))))))
          refine ls_keep [(1, .dat a1.length (a1.flatMap c86_d)), (3, .box [.int .i64 a0.1, .dat a0.2.1.length (a0.2.1.flatMap c150_d), .dat a0.2.2.length (a0.2.2.flatMap ci64)]), (7, .int .i64 y23), (10, .int .i64 y12), (14, .own 3 v28.2.length (v28.2.flatMap ci64)), (45, .dat a1.length (a1.flatMap c86_d)), (46, .int .i64 (List.length a1 : Int)), (47, .int .i64 y24), (57, .dat v28.1.length (v28.1.flatMap ci64)), (58, .int .i64 (List.length v28.1 : Int)), (59, .int .i64 0)] ⟨kr, kr, kr, kr, kr, kr, kr, kr, kr, kr, kr, trivial⟩ rfl ?_
          obtain ⟨o5, hl, hr5⟩ := ob_some h
          clear h
          have kXimpl_FDClosure_B5 : ∀ (z30 : Int), ((loopF (impl_FDClosure_B4 a0 a1) m) (z30, (IntKind.i64.wrap (y24 + 1)))) = some o4 → ∀ σ' : PS, okK σ' [(1, .dat a1.length (a1.flatMap c86_d)), (3, .box [.int .i64 a0.1, .dat a0.2.1.length (a0.2.1.flatMap c150_d), .dat a0.2.2.length (a0.2.2.flatMap ci64)]), (7, .int .i64 z30), (10, .int .i64 y12), (45, .dat a1.length (a1.flatMap c86_d)), (46, .int .i64 (List.length a1 : Int)), (47, .int .i64 y24)] → K25 σ' := by
            intro z30 h σ' hk
            refine hK25 _ (ls_keep [(1, .dat a1.length (a1.flatMap c86_d)), (3, .box [.int .i64 a0.1, .dat a0.2.1.length (a0.2.1.flatMap c150_d), .dat a0.2.2.length (a0.2.2.flatMap ci64)]), (7, .int .i64 z30), (10, .int .i64 y12), (45, .dat a1.length (a1.flatMap c86_d)), (46, .int .i64 (List.length a1 : Int)), (47, .int .i64 y24)] hk rfl ?_)
            refine ls_rgn tbOk ?_
            refine evs (ev_bin (c1 := .int .i64 y24) (c2 := .int .i64 1) rfl rfl rfl (evs (ev_mv (c := .int .i64 (IntKind.i64.wrap (y24 + 1))) rfl rfl rfl (evn ?_))))
            exact hN _ (z30, (IntKind.i64.wrap (y24 + 1))) h ⟨kr, kr, kr, kr, kr, kr, kr, trivial⟩
          refine ls_rec (fun (s : Int × Int) => match s with | (y27, y28) => [(1, .dat a1.length (a1.flatMap c86_d)), (3, .box [.int .i64 a0.1, .dat a0.2.1.length (a0.2.1.flatMap c150_d), .dat a0.2.2.length (a0.2.2.flatMap ci64)]), (7, .int .i64 y27), (10, .int .i64 y12), (14, .own 3 v28.2.length (v28.2.flatMap ci64)), (45, .dat a1.length (a1.flatMap c86_d)), (46, .int .i64 (List.length a1 : Int)), (47, .int .i64 y24), (57, .dat v28.1.length (v28.1.flatMap ci64)), (58, .int .i64 (List.length v28.1 : Int)), (59, .int .i64 y28)]) (impl_FDClosure_B5 v28) fz (y23, 0) o5 hl ⟨kr, kr, kr, kr, kr, kr, kr, kr, kr, kr, kr, trivial⟩ (fun _ => rfl) ?_
          rintro m ⟨y27, y28⟩ N h hN
          unfold impl_FDClosure_B5 at h
          dsimp only at h
          refine ls_rs tbOk ?_
          refine evs (ev_bin (c1 := .int .i64 y28) (c2 := .int .i64 (List.length v28.1 : Int)) rfl rfl rfl (evn ?_))
          refine ls_keep [(1, .dat a1.length (a1.flatMap c86_d)), (3, .box [.int .i64 a0.1, .dat a0.2.1.length (a0.2.1.flatMap c150_d), .dat a0.2.2.length (a0.2.2.flatMap ci64)]), (7, .int .i64 y27), (10, .int .i64 y12), (14, .own 3 v28.2.length (v28.2.flatMap ci64)), (45, .dat a1.length (a1.flatMap c86_d)), (46, .int .i64 (List.length a1 : Int)), (47, .int .i64 y24), (57, .dat v28.1.length (v28.1.flatMap ci64)), (58, .int .i64 (List.length v28.1 : Int)), (59, .int .i64 y28), (60, .bool (decide (y28 < (List.length v28.1 : Int))))] ⟨kr, kr, kr, kr, kr, kr, kr, kr, kr, kr, kr, kr, trivial⟩ rfl ?_
          refine ls_seq_k fun K31 hK31 => ?_
          rcases cond_some h with ⟨g32, h⟩ | ⟨g32, h⟩
          · refine ls_cT rfl g32 ?_
            refine ls_skip ?_
            refine hK31 _ (ls_keep [(1, .dat a1.length (a1.flatMap c86_d)), (3, .box [.int .i64 a0.1, .dat a0.2.1.length (a0.2.1.flatMap c150_d), .dat a0.2.2.length (a0.2.2.flatMap ci64)]), (7, .int .i64 y27), (10, .int .i64 y12), (14, .own 3 v28.2.length (v28.2.flatMap ci64)), (45, .dat a1.length (a1.flatMap c86_d)), (46, .int .i64 (List.length a1 : Int)), (47, .int .i64 y24), (57, .dat v28.1.length (v28.1.flatMap ci64)), (58, .int .i64 (List.length v28.1 : Int)), (59, .int .i64 y28)] ⟨kr, kr, kr, kr, kr, kr, kr, kr, kr, kr, kr, trivial⟩ rfl ?_)
            refine ls_seq_k fun K33 hK33 => ?_
            refine ls_blk ?_
            refine ls_rs tbOk ?_
            refine evs (ev_mv (c := .int .i64 y28) rfl rfl rfl (?_))
            obtain ⟨e34, g35, h⟩ := ob_some h
            refine evs (ev_ia rfl rfl rfl ⟨(geti_some g35).1, (geti_some g35).2.1⟩ (evs (ev_ldE (off := 0) (v := .int .i64 e34) rfl rfl zci64 g35 rfl (Nat.le_of_ble_eq_true rfl) rfl (evs (ev_as (c := .int .i64 y28) rfl rfl rfl (evs (ev_as (c := .int .i64 e34) rfl rfl rfl (evn ?_))))))))
            refine ls_keep [(1, .dat a1.length (a1.flatMap c86_d)), (3, .box [.int .i64 a0.1, .dat a0.2.1.length (a0.2.1.flatMap c150_d), .dat a0.2.2.length (a0.2.2.flatMap ci64)]), (7, .int .i64 y27), (10, .int .i64 y12), (14, .own 3 v28.2.length (v28.2.flatMap ci64)), (15, .int .i64 y28), (16, .int .i64 e34), (45, .dat a1.length (a1.flatMap c86_d)), (46, .int .i64 (List.length a1 : Int)), (47, .int .i64 y24), (57, .dat v28.1.length (v28.1.flatMap ci64)), (58, .int .i64 (List.length v28.1 : Int)), (59, .int .i64 y28)] ⟨kr, kr, kr, kr, kr, kr, kr, kr, kr, kr, kr, kr, kr, trivial⟩ rfl ?_
            refine ls_rs_k tbOk fun K36 hK36 => ?_
            have kimpl_FDClosure_J6 : ∀ (x37 : Bool), impl_FDClosure_J6 (loopF (impl_FDClosure_B5 v28) m) v28 y27 y28 x37 = some o5 → ∀ σ' : PS, okK σ' [(1, .dat a1.length (a1.flatMap c86_d)), (3, .box [.int .i64 a0.1, .dat a0.2.1.length (a0.2.1.flatMap c150_d), .dat a0.2.2.length (a0.2.2.flatMap ci64)]), (7, .int .i64 y27), (10, .int .i64 y12), (14, .own 3 v28.2.length (v28.2.flatMap ci64)), (15, .int .i64 y28), (45, .dat a1.length (a1.flatMap c86_d)), (46, .int .i64 (List.length a1 : Int)), (47, .int .i64 y24), (57, .dat v28.1.length (v28.1.flatMap ci64)), (58, .int .i64 (List.length v28.1 : Int)), (59, .int .i64 y28), (74, .bool x37)] → K36 σ' := by
              intro x37 h σ' hk
              unfold impl_FDClosure_J6 at h
              refine hK36 _ (ls_keep [(1, .dat a1.length (a1.flatMap c86_d)), (3, .box [.int .i64 a0.1, .dat a0.2.1.length (a0.2.1.flatMap c150_d), .dat a0.2.2.length (a0.2.2.flatMap ci64)]), (7, .int .i64 y27), (10, .int .i64 y12), (14, .own 3 v28.2.length (v28.2.flatMap ci64)), (15, .int .i64 y28), (45, .dat a1.length (a1.flatMap c86_d)), (46, .int .i64 (List.length a1 : Int)), (47, .int .i64 y24), (57, .dat v28.1.length (v28.1.flatMap ci64)), (58, .int .i64 (List.length v28.1 : Int)), (59, .int .i64 y28), (74, .bool x37)] hk rfl ?_)
              have kimpl_FDClosure_J7 : ∀ (x38 : Int), impl_FDClosure_J7 (loopF (impl_FDClosure_B5 v28) m) y28 x38 = some o5 → ∀ σ' : PS, okK σ' [(1, .dat a1.length (a1.flatMap c86_d)), (3, .box [.int .i64 a0.1, .dat a0.2.1.length (a0.2.1.flatMap c150_d), .dat a0.2.2.length (a0.2.2.flatMap ci64)]), (7, .int .i64 x38), (10, .int .i64 y12), (14, .own 3 v28.2.length (v28.2.flatMap ci64)), (45, .dat a1.length (a1.flatMap c86_d)), (46, .int .i64 (List.length a1 : Int)), (47, .int .i64 y24), (57, .dat v28.1.length (v28.1.flatMap ci64)), (58, .int .i64 (List.length v28.1 : Int)), (59, .int .i64 y28)] → K33 σ' := by
                intro x38 h σ' hk
                unfold impl_FDClosure_J7 at h
                refine hK33 _ (ls_keep [(1, .dat a1.length (a1.flatMap c86_d)), (3, .box [.int .i64 a0.1, .dat a0.2.1.length (a0.2.1.flatMap c150_d), .dat a0.2.2.length (a0.2.2.flatMap ci64)]), (7, .int .i64 x38), (10, .int .i64 y12), (14, .own 3 v28.2.length (v28.2.flatMap ci64)), (45, .dat a1.length (a1.flatMap c86_d)), (46, .int .i64 (List.length a1 : Int)), (47, .int .i64 y24), (57, .dat v28.1.length (v28.1.flatMap ci64)), (58, .int .i64 (List.length v28.1 : Int)), (59, .int .i64 y28)] hk rfl ?_)
                refine ls_rgn tbOk ?_
                refine evs (ev_bin (c1 := .int .i64 y28) (c2 := .int .i64 1) rfl rfl rfl (evs (ev_mv (c := .int .i64 (IntKind.i64.wrap (y28 + 1))) rfl rfl rfl (evn ?_))))
                exact hN _ (x38, (IntKind.i64.wrap (y28 + 1))) h ⟨kr, kr, kr, kr, kr, kr, kr, kr, kr, kr, kr, trivial⟩
              rcases cond_some h with ⟨g39, h⟩ | ⟨g39, h⟩
              · refine ls_cT rfl g39 ?_
                refine ls_rgn tbOk ?_
                refine evs (ev_mv (c := .int .i64 y27) rfl rfl rfl (evs (ev_mv (c := .own 3 v28.2.length (v28.2.flatMap ci64)) rfl rfl rfl (evs (ev_mv (c := .int .i64 y28) rfl rfl rfl (?_))))))
                obtain ⟨e40, g41, h⟩ := ob_some h
                refine evs (ev_ia rfl rfl rfl ⟨(geti_some g41).1, (geti_some g41).2.1⟩ (evs (ev_ldE (off := 0) (v := .int .i64 e40) rfl rfl zci64 g41 rfl (Nat.le_of_ble_eq_true rfl) rfl (evs (ev_cvi rfl rfl rfl (?_))))))
                obtain ⟨g42, h⟩ := chk_some h
                refine evs (ev_bin (c1 := .int .i64 1) (c2 := .int .u64 (IntKind.u64.wrap e40)) rfl rfl g42 (evs (ev_bin (c1 := .int .i64 y27) (c2 := .int .i64 (shlI 1 (IntKind.u64.wrap e40))) rfl rfl rfl (evs (ev_as (c := .int .i64 (orI y27 (shlI 1 (IntKind.u64.wrap e40)))) rfl rfl rfl (evn ?_))))))
                exact kimpl_FDClosure_J7 (orI y27 (shlI 1 (IntKind.u64.wrap e40))) h _ ⟨kr, kr, kr, kr, kr, kr, kr, kr, kr, kr, kr, trivial⟩
              · refine ls_cF rfl g39 ?_
                refine ls_skip ?_
                exact kimpl_FDClosure_J7 y27 h _ ⟨kr, kr, kr, kr, kr, kr, kr, kr, kr, kr, kr, trivial⟩
            refine evs (ev_mv (c := .own 3 v28.2.length (v28.2.flatMap ci64)) rfl rfl rfl (evs (ev_mv (c := .int .i64 y28) rfl rfl rfl (?_))))
            obtain ⟨e43, g44, h⟩ := ob_some h
            refine evs (ev_ia rfl rfl rfl ⟨(geti_some g44).1, (geti_some g44).2.1⟩ (evs (ev_ldE (off := 0) (v := .int .i64 e43) rfl rfl zci64 g44 rfl (Nat.le_of_ble_eq_true rfl) rfl (evs (ev_bin (c1 := .int .i64 e43) (c2 := .int .i64 0) rfl rfl rfl (evs (ev_mv (c := .bool (decide (0 ≤ e43))) rfl rfl rfl (?_))))))))
            rcases cond_some h with ⟨g45, h⟩ | ⟨g45, h⟩
            · refine evs (ev_gr rfl (congrArg V.bool g45) (ev_mv (c := .int .i64 e34) rfl rfl rfl (evs (ev_gr rfl (congrArg V.bool g45) (ev_mv (c := .int .i64 y27) rfl rfl rfl (evs (ev_gr rfl (congrArg V.bool g45) (ev_bin (c1 := .int .i64 e34) (c2 := .int .i64 y27) rfl rfl rfl (evs (ev_gr rfl (congrArg V.bool g45) (ev_bin (c1 := .int .i64 (andNotI e34 y27)) (c2 := .int .i64 0) rfl rfl rfl (evs (ev_pkT (c1 := .bool ((andNotI e34 y27) == 0)) rfl g45 rfl rfl (evn ?_))))))))))))))
              exact kimpl_FDClosure_J6 ((andNotI e34 y27) == 0) h _ ⟨kr, kr, kr, kr, kr, kr, kr, kr, kr, kr, kr, kr, kr, trivial⟩
            · refine evs (ev_gs rfl rfl (isb_F g45) (evs (ev_gs rfl rfl (isb_F g45) (evs (ev_gs rfl rfl (isb_F g45) (evs (ev_gs rfl rfl (isb_F g45) (evs (ev_pkF (c1 := .bool false) rfl g45 rfl rfl (evn ?_))))))))))
              exact kimpl_FDClosure_J6 false h _ ⟨kr, kr, kr, kr, kr, kr, kr, kr, kr, kr, kr, kr, kr, trivial⟩
          · refine ls_cF rfl g32 ?_
            refine ls_exit ?_
            have q0 := (Option.some.inj h).symm
            have r0 := hr5
            rw [q0] at r0
            exact kXimpl_FDClosure_B5 y27 r0 _ ⟨kr, kr, kr, kr, kr, kr, kr, trivial⟩
        · refine ls_cF rfl g24 ?_
          refine ls_exit ?_
          have q0 := (Option.some.inj h).symm
          have r0 := hr4
          rw [q0] at r0
          exact kXimpl_FDClosure_B4 y23 r0 _ ⟨kr, kr, kr, kr, trivial⟩
      · refine ls_cF rfl g20 ?_
        refine ls_exit ?_
        have q0 := (Option.some.inj h).symm
        have r0 := hr3
        rw [q0] at r0
        exact kXimpl_FDClosure_B3 y11 r0 _ ⟨kr, kr, trivial⟩
    refine ls_rec (fun (s : Int × Int) => match s with | (y1, y2) => [(1, .dat a1.length (a1.flatMap c86_d)), (3, .box [.int .i64 a0.1, .dat a0.2.1.length (a0.2.1.flatMap c150_d), .dat a0.2.2.length (a0.2.2.flatMap ci64)]), (7, .int .i64 y1), (22, .dat a2.length (a2.flatMap ci64)), (23, .int .i64 (List.length a2 : Int)), (24, .int .i64 y2)]) (impl_FDClosure_B1 a0 a2) fz (0, 0) o1 hl ⟨kr, kr, kr, kr, kr, kr, trivial⟩ (fun _ => rfl) ?_
    rintro m ⟨y1, y2⟩ N h hN
    unfold impl_FDClosure_B1 at h
    dsimp only at h
    refine ls_rs tbOk ?_
    refine evs (ev_bin (c1 := .int .i64 y2) (c2 := .int .i64 (List.length a2 : Int)) rfl rfl rfl (evn ?_))
    refine ls_keep [(1, .dat a1.length (a1.flatMap c86_d)), (3, .box [.int .i64 a0.1, .dat a0.2.1.length (a0.2.1.flatMap c150_d), .dat a0.2.2.length (a0.2.2.flatMap ci64)]), (7, .int .i64 y1), (22, .dat a2.length (a2.flatMap ci64)), (23, .int .i64 (List.length a2 : Int)), (24, .int .i64 y2), (25, .bool (decide (y2 < (List.length a2 : Int))))] ⟨kr, kr, kr, kr, kr, kr, kr, trivial⟩ rfl ?_
    refine ls_seq_k fun K7 hK7 => ?_
    rcases cond_some h with ⟨g8, h⟩ | ⟨g8, h⟩
    · refine ls_cT rfl g8 ?_
      refine ls_skip ?_
      refine hK7 _ (ls_keep [(1, .dat a1.length (a1.flatMap c86_d)), (3, .box [.int .i64 a0.1, .dat a0.2.1.length (a0.2.1.flatMap c150_d), .dat a0.2.2.length (a0.2.2.flatMap ci64)]), (7, .int .i64 y1), (22, .dat a2.length (a2.flatMap ci64)), (23, .int .i64 (List.length a2 : Int)), (24, .int .i64 y2)] ⟨kr, kr, kr, kr, kr, kr, trivial⟩ rfl ?_)
      refine ls_seq_k fun K9 hK9 => ?_
      refine ls_blk ?_
      refine ls_rs tbOk ?_
      obtain ⟨e10, g11, h⟩ := ob_some h
      refine evs (ev_ia rfl rfl rfl ⟨(geti_some g11).1, (geti_some g11).2.1⟩ (evs (ev_ldE (off := 0) (v := .int .i64 e10) rfl rfl zci64 g11 rfl (Nat.le_of_ble_eq_true rfl) rfl (evs (ev_as (c := .int .i64 e10) rfl rfl rfl (evn ?_))))))
      refine ls_keep [(1, .dat a1.length (a1.flatMap c86_d)), (3, .box [.int .i64 a0.1, .dat a0.2.1.length (a0.2.1.flatMap c150_d), .dat a0.2.2.length (a0.2.2.flatMap ci64)]), (7, .int .i64 y1), (9, .int .i64 e10), (22, .dat a2.length (a2.flatMap ci64)), (23, .int .i64 (List.length a2 : Int)), (24, .int .i64 y2)] ⟨kr, kr, kr, kr, kr, kr, kr, trivial⟩ rfl ?_
      refine ls_rs tbOk ?_
      refine evs (ev_mv (c := .int .i64 e10) rfl rfl rfl (evs (ev_fa (c1 := .cref 3 0) (v := .cref 3 0) rfl rfl rfl ⟨_, rfl⟩ rfl (evs (ev_ldB (off := 0) (v := .int .i64 a0.1) rfl rfl rfl rfl (Nat.le_of_ble_eq_true rfl) rfl (evs (ev_bin (c1 := .int .i64 a0.1) (c2 := .int .i64 1) rfl rfl rfl (?_))))))))
      obtain ⟨v12, g13, h⟩ := ob_some h
      refine evs (ev_call (era rfl rfl (era rfl rfl (era rfl rfl eran))) (impl_within_s g13) (evn ?_))
      refine ls_keep [(1, .dat a1.length (a1.flatMap c86_d)), (3, .box [.int .i64 a0.1, .dat a0.2.1.length (a0.2.1.flatMap c150_d), .dat a0.2.2.length (a0.2.2.flatMap ci64)]), (7, .int .i64 y1), (9, .int .i64 e10), (22, .dat a2.length (a2.flatMap ci64)), (23, .int .i64 (List.length a2 : Int)), (24, .int .i64 y2), (32, .bool v12)] ⟨kr, kr, kr, kr, kr, kr, kr, kr, trivial⟩ rfl ?_
      have kimpl_FDClosure_J2 : ∀ (x14 : Int), impl_FDClosure_J2 (loopF (impl_FDClosure_B1 a0 a2) m) y2 x14 = some o1 → ∀ σ' : PS, okK σ' [(1, .dat a1.length (a1.flatMap c86_d)), (3, .box [.int .i64 a0.1, .dat a0.2.1.length (a0.2.1.flatMap c150_d), .dat a0.2.2.length (a0.2.2.flatMap ci64)]), (7, .int .i64 x14), (22, .dat a2.length (a2.flatMap ci64)), (23, .int .i64 (List.length a2 : Int)), (24, .int .i64 y2)] → K9 σ' := by
        intro x14 h σ' hk
        unfold impl_FDClosure_J2 at h
        refine hK9 _ (ls_keep [(1, .dat a1.length (a1.flatMap c86_d)), (3, .box [.int .i64 a0.1, .dat a0.2.1.length (a0.2.1.flatMap c150_d), .dat a0.2.2.length (a0.2.2.flatMap ci64)]), (7, .int .i64 x14), (22, .dat a2.length (a2.flatMap ci64)), (23, .int .i64 (List.length a2 : Int)), (24, .int .i64 y2)] hk rfl ?_)
        refine ls_rgn tbOk ?_
        refine evs (ev_bin (c1 := .int .i64 y2) (c2 := .int .i64 1) rfl rfl rfl (evs (ev_mv (c := .int .i64 (IntKind.i64.wrap (y2 + 1))) rfl rfl rfl (evn ?_))))
        exact hN _ (x14, (IntKind.i64.wrap (y2 + 1))) h ⟨kr, kr, kr, kr, kr, kr, trivial⟩
      rcases cond_some h with ⟨g15, h⟩ | ⟨g15, h⟩
      · refine ls_cT rfl g15 ?_
        refine ls_rgn tbOk ?_
        refine evs (ev_mv (c := .int .i64 y1) rfl rfl rfl (evs (ev_mv (c := .int .i64 e10) rfl rfl rfl (evs (ev_cvi rfl rfl rfl (?_))))))
        obtain ⟨g16, h⟩ := chk_some h
        refine evs (ev_bin (c1 := .int .i64 1) (c2 := .int .u64 (IntKind.u64.wrap e10)) rfl rfl g16 (evs (ev_bin (c1 := .int .i64 y1) (c2 := .int .i64 (shlI 1 (IntKind.u64.wrap e10))) rfl rfl rfl (evs (ev_as (c := .int .i64 (orI y1 (shlI 1 (IntKind.u64.wrap e10)))) rfl rfl rfl (evn ?_))))))
        exact kimpl_FDClosure_J2 (orI y1 (shlI 1 (IntKind.u64.wrap e10))) h _ ⟨kr, kr, kr, kr, kr, kr, trivial⟩
      · refine ls_cF rfl g15 ?_
        refine ls_skip ?_
        exact kimpl_FDClosure_J2 y1 h _ ⟨kr, kr, kr, kr, kr, kr, trivial⟩
    · refine ls_cF rfl g8 ?_
      refine ls_exit ?_
      have q0 := (Option.some.inj h).symm
      have r0 := hr1
      rw [q0] at r0
      exact kXimpl_FDClosure_B1 y1 r0 _ ⟨kr, kr, kr, trivial⟩
def laws_eqFunctionalDependency (a0 : (List UInt8) × (List Int) × Int) (a1 : (List UInt8) × (List Int) × Int) : Option (Bool) := cond (!(a0.1 == a1.1)) (some false) (obind (laws_eqIntS a0.2.1 a1.2.1) fun v4 => cond (!v4) (some false) (cond (a0.2.2 != a1.2.2) (some false) (some true)))
theorem laws_eqFunctionalDependency_s {a0 : (List UInt8) × (List Int) × Int} {a1 : (List UInt8) × (List Int) × Int} {r : Bool} (h : laws_eqFunctionalDependency a0 a1 = some r) : SoundAt Try.prog 54 [.agg [.str a0.1, .dat a0.2.1.length (a0.2.1.flatMap ci64), .int .i64 a0.2.2], .agg [.str a1.1, .dat a1.2.1.length (a1.2.1.flatMap ci64), .int .i64 a1.2.2]] (.bool r) := by
  unfold laws_eqFunctionalDependency at h
  refine sound_lit tbOk lit54 (Nat.le_of_ble_eq_true rfl) rfl ?_
  unfold c54
  refine ls_keep [(0, .agg [.str a0.1, .dat a0.2.1.length (a0.2.1.flatMap ci64), .int .i64 a0.2.2]), (1, .agg [.str a1.1, .dat a1.2.1.length (a1.2.1.flatMap ci64), .int .i64 a1.2.2])] ⟨kr, kr, trivial⟩ rfl ?_
  refine ls_rs tbOk ?_
  refine evs (ev_bx (c1 := .agg [.str a0.1, .dat a0.2.1.length (a0.2.1.flatMap ci64), .int .i64 a0.2.2]) rfl rfl rfl (evs (ev_bx (c1 := .agg [.str a1.1, .dat a1.2.1.length (a1.2.1.flatMap ci64), .int .i64 a1.2.2]) rfl rfl rfl (evs (ev_ac rfl nofun rfl (evn ?_))))))
  refine ls_keep [(2, .box [.str a0.1, .dat a0.2.1.length (a0.2.1.flatMap ci64), .int .i64 a0.2.2]), (3, .box [.str a1.1, .dat a1.2.1.length (a1.2.1.flatMap ci64), .int .i64 a1.2.2])] ⟨kr, kr, trivial⟩ rfl ?_
  refine ls_seq_k fun K1 hK1 => ?_
  refine ls_rs tbOk ?_
  refine evs (ev_fa (c1 := .cref 2 0) (v := .cref 2 0) rfl rfl rfl ⟨_, rfl⟩ rfl (evs (ev_ldB (off := 0) (v := .str a0.1) rfl rfl rfl rfl (Nat.le_of_ble_eq_true rfl) rfl (evs (ev_fa (c1 := .cref 3 0) (v := .cref 3 0) rfl rfl rfl ⟨_, rfl⟩ rfl (evs (ev_ldB (off := 0) (v := .str a1.1) rfl rfl rfl rfl (Nat.le_of_ble_eq_true rfl) rfl (evs (ev_bin (c1 := .str a0.1) (c2 := .str a1.1) rfl rfl trivial (evn ?_))))))))))
  refine ls_keep [(2, .box [.str a0.1, .dat a0.2.1.length (a0.2.1.flatMap ci64), .int .i64 a0.2.2]), (3, .box [.str a1.1, .dat a1.2.1.length (a1.2.1.flatMap ci64), .int .i64 a1.2.2]), (9, .bool (!(a0.1 == a1.1)))] ⟨kr, kr, kr, trivial⟩ rfl ?_
  rcases cond_some h with ⟨g2, h⟩ | ⟨g2, h⟩
  · refine ls_cT rfl g2 ?_
    refine ls_rs tbOk ?_
    refine evs (ev_ac rfl nofun rfl (evn ?_))
    refine ls_keep [(4, .bool false)] ⟨kr, trivial⟩ rfl ?_
    refine ls_ret ?_
    have hr := Option.some.inj h
    rw [← hr]
    exact ⟨.inl rfl, rfl⟩
  · refine ls_cF rfl g2 ?_
    refine ls_skip ?_
    refine hK1 _ (ls_keep [(2, .box [.str a0.1, .dat a0.2.1.length (a0.2.1.flatMap ci64), .int .i64 a0.2.2]), (3, .box [.str a1.1, .dat a1.2.1.length (a1.2.1.flatMap ci64), .int .i64 a1.2.2])] ⟨kr, kr, trivial⟩ rfl ?_)
    refine ls_seq_k fun K3 hK3 => ?_
    refine ls_rs tbOk ?_
    refine evs (ev_fa (c1 := .cref 2 0) (v := .cref 2 1) rfl rfl rfl ⟨_, rfl⟩ rfl (evs (ev_ldB (off := 1) (v := .dat a0.2.1.length (a0.2.1.flatMap ci64)) rfl rfl rfl rfl (Nat.le_of_ble_eq_true rfl) rfl (evs (ev_fa (c1 := .cref 3 0) (v := .cref 3 1) rfl rfl rfl ⟨_, rfl⟩ rfl (evs (ev_ldB (off := 1) (v := .dat a1.2.1.length (a1.2.1.flatMap ci64)) rfl rfl rfl rfl (Nat.le_of_ble_eq_true rfl) rfl (?_))))))))
    obtain ⟨v4, g5, h⟩ := ob_some h
    refine evs (ev_call (era rfl (erD eci64 _) (era rfl (erD eci64 _) eran)) (laws_eqIntS_s g5) (evs (ev_un (c1 := .bool v4) rfl trivial (evn ?_))))
    refine ls_keep [(2, .box [.str a0.1, .dat a0.2.1.length (a0.2.1.flatMap ci64), .int .i64 a0.2.2]), (3, .box [.str a1.1, .dat a1.2.1.length (a1.2.1.flatMap ci64), .int .i64 a1.2.2]), (15, .bool (!v4))] ⟨kr, kr, kr, trivial⟩ rfl ?_
    rcases cond_some h with ⟨g6, h⟩ | ⟨g6, h⟩
    · refine ls_cT rfl g6 ?_
      refine ls_rs tbOk ?_
      refine evs (ev_ac rfl nofun rfl (evn ?_))
      refine ls_keep [(4, .bool false)] ⟨kr, trivial⟩ rfl ?_
      refine ls_ret ?_
      have hr := Option.some.inj h
      rw [← hr]
      exact ⟨.inl rfl, rfl⟩
    · refine ls_cF rfl g6 ?_
      refine ls_skip ?_
      refine hK3 _ (ls_keep [(2, .box [.str a0.1, .dat a0.2.1.length (a0.2.1.flatMap ci64), .int .i64 a0.2.2]), (3, .box [.str a1.1, .dat a1.2.1.length (a1.2.1.flatMap ci64), .int .i64 a1.2.2])] ⟨kr, kr, trivial⟩ rfl ?_)
      refine ls_seq_k fun K7 hK7 => ?_
      refine ls_rs tbOk ?_
      refine evs (ev_fa (c1 := .cref 2 0) (v := .cref 2 2) rfl rfl rfl ⟨_, rfl⟩ rfl (evs (ev_ldB (off := 2) (v := .int .i64 a0.2.2) rfl rfl rfl rfl (Nat.le_of_ble_eq_true rfl) rfl (evs (ev_fa (c1 := .cref 3 0) (v := .cref 3 2) rfl rfl rfl ⟨_, rfl⟩ rfl (evs (ev_ldB (off := 2) (v := .int .i64 a1.2.2) rfl rfl rfl rfl (Nat.le_of_ble_eq_true rfl) rfl (evs (ev_bin (c1 := .int .i64 a0.2.2) (c2 := .int .i64 a1.2.2) rfl rfl rfl (evn ?_))))))))))
      refine ls_keep [(20, .bool (a0.2.2 != a1.2.2))] ⟨kr, trivial⟩ rfl ?_
      rcases cond_some h with ⟨g8, h⟩ | ⟨g8, h⟩
      · refine ls_cT rfl g8 ?_
        refine ls_rs tbOk ?_
        refine evs (ev_ac rfl nofun rfl (evn ?_))
        refine ls_keep [(4, .bool false)] ⟨kr, trivial⟩ rfl ?_
        refine ls_ret ?_
        have hr := Option.some.inj h
        rw [← hr]
        exact ⟨.inl rfl, rfl⟩
      · refine ls_cF rfl g8 ?_
        refine ls_skip ?_
        refine hK7 _ (ls_keep [] trivial rfl ?_)
        refine ls_rs tbOk ?_
        refine evs (ev_ac rfl nofun rfl (evn ?_))
        refine ls_keep [(4, .bool true)] ⟨kr, trivial⟩ rfl ?_
        refine ls_ret ?_
        have hr := Option.some.inj h
        rw [← hr]
        exact ⟨.inl rfl, rfl⟩
def laws_eqFunctionalDependencyS_B1 (a0 : List ((List UInt8) × (List Int) × Int)) (a1 : List ((List UInt8) × (List Int) × Int)) (rec : Int → Option (Sum (Unit) (Bool))) (y1 : Int) : Option (Sum (Unit) (Bool)) := cond (decide (y1 < (List.length a0 : Int))) (obind (geti a0 y1) fun e7 => obind (geti a1 y1) fun e9 => obind (laws_eqFunctionalDependency e7 e9) fun v11 => cond (!v11) (some (.inr false)) (rec (IntKind.i64.wrap (y1 + 1)))) (some (.inl ()))
def laws_eqFunctionalDependencyS (a0 : List ((List UInt8) × (List Int) × Int)) (a1 : List ((List UInt8) × (List Int) × Int)) : Option (Bool) := cond ((List.length a0 : Int) != (List.length a1 : Int)) (some false) (obind (loopF (laws_eqFunctionalDependencyS_B1 a0 a1) fz 0) fun o1 => (match o1 with
  | .inl _ => (some true)
  | .inr r => some r))
theorem laws_eqFunctionalDependencyS_s {a0 : List ((List UInt8) × (List Int) × Int)} {a1 : List ((List UInt8) × (List Int) × Int)} {r : Bool} (h : laws_eqFunctionalDependencyS a0 a1 = some r) : SoundAt Try.prog 78 [.dat a0.length (a0.flatMap c86_d), .dat a1.length (a1.flatMap c86_d)] (.bool r) := by
  unfold laws_eqFunctionalDependencyS at h
  refine sound_lit tbOk lit78 (Nat.le_of_ble_eq_true rfl) rfl ?_
  unfold c78
  refine ls_keep [(0, .dat a0.length (a0.flatMap c86_d)), (1, .dat a1.length (a1.flatMap c86_d))] ⟨kr, kr, trivial⟩ rfl ?_
  refine ls_rs tbOk ?_
  refine evs (ev_ac rfl nofun rfl (evn ?_))
  refine ls_keep [(0, .dat a0.length (a0.flatMap c86_d)), (1, .dat a1.length (a1.flatMap c86_d))] ⟨kr, kr, trivial⟩ rfl ?_
  refine ls_seq_k fun K1 hK1 => ?_
  refine ls_rs tbOk ?_
  refine evs (ev_mv (c := .dat a0.length (a0.flatMap c86_d)) rfl rfl rfl (evs (ev_len (c1 := .dat a0.length (a0.flatMap c86_d)) rfl rfl rfl (evs (ev_mv (c := .dat a1.length (a1.flatMap c86_d)) rfl rfl rfl (evs (ev_len (c1 := .dat a1.length (a1.flatMap c86_d)) rfl rfl rfl (evs (ev_bin (c1 := .int .i64 (List.length a0 : Int)) (c2 := .int .i64 (List.length a1 : Int)) rfl rfl rfl (evn ?_))))))))))
  refine ls_keep [(0, .dat a0.length (a0.flatMap c86_d)), (1, .dat a1.length (a1.flatMap c86_d)), (10, .bool ((List.length a0 : Int) != (List.length a1 : Int)))] ⟨kr, kr, kr, trivial⟩ rfl ?_
  rcases cond_some h with ⟨g2, h⟩ | ⟨g2, h⟩
  · refine ls_cT rfl g2 ?_
    refine ls_rs tbOk ?_
    refine evs (ev_ac rfl nofun rfl (evn ?_))
    refine ls_keep [(4, .bool false)] ⟨kr, trivial⟩ rfl ?_
    refine ls_ret ?_
    have hr := Option.some.inj h
    rw [← hr]
    exact ⟨.inl rfl, rfl⟩
  · refine ls_cF rfl g2 ?_
    refine ls_skip ?_
    refine hK1 _ (ls_keep [(0, .dat a0.length (a0.flatMap c86_d)), (1, .dat a1.length (a1.flatMap c86_d))] ⟨kr, kr, trivial⟩ rfl ?_)
    refine ls_seq_k fun K3 hK3 => ?_
    refine ls_rs tbOk ?_
    refine evs (ev_ac rfl nofun rfl (evn ?_))
    refine ls_keep [(0, .dat a0.length (a0.flatMap c86_d)), (1, .dat a1.length (a1.flatMap c86_d)), (5, .int .i64 0)] ⟨kr, kr, kr, trivial⟩ rfl ?_
    obtain ⟨o1, hl, hr1⟩ := ob_some h
    clear h
    have kXlaws_eqFunctionalDependencyS_B1 : ∀ (_ : Unit), (some true) = some r → ∀ σ' : PS, okK σ' [] → K3 σ' := by
      intro _ h σ' hk
      refine hK3 _ (ls_keep [] hk rfl ?_)
      refine ls_rs tbOk ?_
      refine evs (ev_ac rfl nofun rfl (evn ?_))
      refine ls_keep [(4, .bool true)] ⟨kr, trivial⟩ rfl ?_
      refine ls_ret ?_
      have hr := Option.some.inj h
      rw [← hr]
      exact ⟨.inl rfl, rfl⟩
    refine ls_rec (fun (y1 : Int) => [(0, .dat a0.length (a0.flatMap c86_d)), (1, .dat a1.length (a1.flatMap c86_d)), (5, .int .i64 y1)]) (laws_eqFunctionalDependencyS_B1 a0 a1) fz 0 o1 hl ⟨kr, kr, kr, trivial⟩ (fun _ => rfl) ?_
    rintro m y1 N h hN
    unfold laws_eqFunctionalDependencyS_B1 at h
    refine ls_seq_k fun K4 hK4 => ?_
    refine ls_rs tbOk ?_
    refine evs (ev_mv (c := .int .i64 y1) rfl rfl rfl (evs (ev_mv (c := .dat a0.length (a0.flatMap c86_d)) rfl rfl rfl (evs (ev_len (c1 := .dat a0.length (a0.flatMap c86_d)) rfl rfl rfl (evs (ev_bin (c1 := .int .i64 y1) (c2 := .int .i64 (List.length a0 : Int)) rfl rfl rfl (evn ?_))))))))
    refine ls_keep [(0, .dat a0.length (a0.flatMap c86_d)), (1, .dat a1.length (a1.flatMap c86_d)), (5, .int .i64 y1), (14, .bool (decide (y1 < (List.length a0 : Int))))] ⟨kr, kr, kr, kr, trivial⟩ rfl ?_
    rcases cond_some h with ⟨g5, h⟩ | ⟨g5, h⟩
    · refine ls_cT rfl g5 ?_
      refine ls_skip ?_
      refine hK4 _ (ls_keep [(0, .dat a0.length (a0.flatMap c86_d)), (1, .dat a1.length (a1.flatMap c86_d)), (5, .int .i64 y1)] ⟨kr, kr, kr, trivial⟩ rfl ?_)
      refine ls_seq_k fun K6 hK6 => ?_
      refine ls_blk ?_
      refine ls_rd tbOk mixed (by kernel_rfl) ?_
      refine evd rfl rfl (ev_mv (c := .dat a0.length (a0.flatMap c86_d)) rfl rfl rfl (evd rfl rfl (ev_mv (c := .int .i64 y1) rfl rfl rfl (?_))))
      obtain ⟨e7, g8, h⟩ := ob_some h
      refine evd rfl rfl (ev_ia rfl rfl rfl ⟨(geti_some g8).1, (geti_some g8).2.1⟩ (evd rfl rfl (ev_ldE (off := 0) (v := .agg [.str e7.1, .dat e7.2.1.length (e7.2.1.flatMap ci64), .int .i64 e7.2.2]) rfl rfl zc86_d g8 rfl (Nat.le_of_ble_eq_true rfl) rfl (evd rfl rfl (ev_mv (c := .dat a1.length (a1.flatMap c86_d)) rfl rfl rfl (evd rfl rfl (ev_mv (c := .int .i64 y1) rfl rfl rfl (?_))))))))
      obtain ⟨e9, g10, h⟩ := ob_some h
      refine evd rfl rfl (ev_ia rfl rfl rfl ⟨(geti_some g10).1, (geti_some g10).2.1⟩ (evd rfl rfl (ev_ldE (off := 0) (v := .agg [.str e9.1, .dat e9.2.1.length (e9.2.1.flatMap ci64), .int .i64 e9.2.2]) rfl rfl zc86_d g10 rfl (Nat.le_of_ble_eq_true rfl) rfl (?_))))
      obtain ⟨v11, g12, h⟩ := ob_some h
      refine evd rfl rfl (ev_call (era rfl (erg (erc rfl (erc (erD eci64 _) (erc rfl rfl)))) (era rfl (erg (erc rfl (erc (erD eci64 _) (erc rfl rfl)))) eran)) (laws_eqFunctionalDependency_s g12) (evd rfl rfl (ev_un (c1 := .bool v11) rfl trivial (evdn ?_))))
      refine ls_keep [(0, .dat a0.length (a0.flatMap c86_d)), (1, .dat a1.length (a1.flatMap c86_d)), (5, .int .i64 y1), (26, .bool (!v11))] ⟨kr, kr, kr, kr, trivial⟩ rfl ?_
      rcases cond_some h with ⟨g13, h⟩ | ⟨g13, h⟩
      · refine ls_cT rfl g13 ?_
        refine ls_rs tbOk ?_
        refine evs (ev_ac rfl nofun rfl (evn ?_))
        refine ls_keep [(4, .bool false)] ⟨kr, trivial⟩ rfl ?_
        refine ls_ret ?_
        have q0 := (Option.some.inj h).symm
        have r0 := hr1
        rw [q0] at r0
        have hr := Option.some.inj r0
        rw [← hr]
        exact ⟨.inl rfl, rfl⟩
      · refine ls_cF rfl g13 ?_
        refine ls_skip ?_
        refine hK6 _ (ls_keep [(0, .dat a0.length (a0.flatMap c86_d)), (1, .dat a1.length (a1.flatMap c86_d)), (5, .int .i64 y1)] ⟨kr, kr, kr, trivial⟩ rfl ?_)
        refine ls_rgn tbOk ?_
        refine evs (ev_mv (c := .int .i64 y1) rfl rfl rfl (evs (ev_bin (c1 := .int .i64 y1) (c2 := .int .i64 1) rfl rfl rfl (evs (ev_as (c := .int .i64 (IntKind.i64.wrap (y1 + 1))) rfl rfl rfl (evn ?_))))))
        exact hN _ (IntKind.i64.wrap (y1 + 1)) h ⟨kr, kr, kr, trivial⟩
    · refine ls_cF rfl g5 ?_
      refine ls_exit ?_
      have q0 := (Option.some.inj h).symm
      have r0 := hr1
      rw [q0] at r0
      exact kXlaws_eqFunctionalDependencyS_B1 () r0 _ trivial
def laws_FnExactFDClosure (a0 : Int × (List ((List UInt8) × (List Int))) × (List Int)) (a1 : List ((List UInt8) × (List Int) × Int)) (a2 : List Int) : Option (Bool) := cond (decide (1048576 < (List.length a2 : Int))) (some true) (obind (laws_szQuery a0 1048576) fun v3 => cond (decide (v3 < 0)) (some true) (obind (laws_szFunctionalDependencyS a1 v3) fun v7 => cond (decide (v7 < 0)) (some true) (obind (laws_toQuery a0) fun v11 => obind (laws_toFunctionalDependencyS a1) fun v13 => obind (laws_toIntS a2) fun v15 => obind (spec_FDClosure v11 v13 v15) fun v17 => obind (laws_toQuery a0) fun v19 => obind (laws_toFunctionalDependencyS a1) fun v21 => obind (laws_toIntS a2) fun v23 => obind (impl_FDClosure v19 v21 v23) fun v25 => obind (laws_eqIntS v25 v17) fun v28 => cond (!v28) (some false) (obind (laws_toQuery a0) fun v32 => obind (laws_eqQuery v19 v32) fun v34 => cond (!v34) (some false) (obind (laws_toFunctionalDependencyS a1) fun v38 => obind (laws_eqFunctionalDependencyS v21 v38) fun v40 => cond (!v40) (some false) (obind (laws_toIntS a2) fun v44 => obind (laws_eqIntS v23 v44) fun v46 => cond (!v46) (some false) (obind (laws_markQuery v19 1) fun v49 => obind (laws_markFunctionalDependencyS v21 v49.2) fun v51 => obind (laws_markIntS v23 v51.2) fun v53 => cond (decide (v53.2 < 0)) (some false) (obind (laws_eqIntS v25 v17) fun v57 => cond (!v57) (some false) (obind (laws_markIntS v25 1) fun v60 => obind (laws_heldIntS v60.1 1) fun v62 => cond (decide (v62 < 0)) (some false) (cond (v62 != v60.2) (some false) (obind (laws_toQuery a0) fun v68 => obind (laws_toFunctionalDependencyS a1) fun v70 => obind (laws_toIntS a2) fun v72 => obind (impl_FDClosure v68 v70 v72) fun v74 => obind (laws_eqIntS v74 v17) fun v77 => cond (!v77) (some false) (obind (laws_heldIntS v60.1 1) fun v80 => cond (decide (v80 < 0)) (some false) (cond (v80 != v60.2) (some false) (some true))))))))))))))
theorem laws_FnExactFDClosure_s {a0 : Int × (List ((List UInt8) × (List Int))) × (List Int)} {a1 : List ((List UInt8) × (List Int) × Int)} {a2 : List Int} {r : Bool} (h : laws_FnExactFDClosure a0 a1 a2 = some r) : SoundAt Try.prog 14 [.agg [.int .i64 a0.1, .arg a0.2.1.length (a0.2.1.flatMap c171_a), .arg a0.2.2.length (a0.2.2.flatMap ci64)], .arg a1.length (a1.flatMap c83_a), .arg a2.length (a2.flatMap ci64)] (.bool r) := by
  unfold laws_FnExactFDClosure at h
  refine sound_lit tbOk lit14 (Nat.le_of_ble_eq_true rfl) rfl ?_
  unfold c14
  refine ls_keep [(0, .agg [.int .i64 a0.1, .arg a0.2.1.length (a0.2.1.flatMap c171_a), .arg a0.2.2.length (a0.2.2.flatMap ci64)]), (1, .arg a1.length (a1.flatMap c83_a)), (2, .arg a2.length (a2.flatMap ci64))] ⟨kr, kr, kr, trivial⟩ rfl ?_
  refine ls_rs tbOk ?_
  refine evs (ev_bx (c1 := .agg [.int .i64 a0.1, .arg a0.2.1.length (a0.2.1.flatMap c171_a), .arg a0.2.2.length (a0.2.2.flatMap ci64)]) rfl rfl rfl (evs (ev_ac rfl nofun rfl (evn ?_))))
  refine ls_keep [(1, .arg a1.length (a1.flatMap c83_a)), (2, .arg a2.length (a2.flatMap ci64)), (3, .box [.int .i64 a0.1, .arg a0.2.1.length (a0.2.1.flatMap c171_a), .arg a0.2.2.length (a0.2.2.flatMap ci64)])] ⟨kr, kr, kr, trivial⟩ rfl ?_
  refine ls_seq_k fun K1 hK1 => ?_
  refine ls_rs tbOk ?_
  refine evs (ev_mv (c := .arg a2.length (a2.flatMap ci64)) rfl rfl rfl (evs (ev_len (c1 := .arg a2.length (a2.flatMap ci64)) rfl rfl rfl (evs (ev_bin (c1 := .int .i64 (List.length a2 : Int)) (c2 := .int .i64 1048576) rfl rfl rfl (evn ?_))))))
  refine ls_keep [(1, .arg a1.length (a1.flatMap c83_a)), (2, .arg a2.length (a2.flatMap ci64)), (3, .box [.int .i64 a0.1, .arg a0.2.1.length (a0.2.1.flatMap c171_a), .arg a0.2.2.length (a0.2.2.flatMap ci64)]), (19, .bool (decide (1048576 < (List.length a2 : Int))))] ⟨kr, kr, kr, kr, trivial⟩ rfl ?_
  rcases cond_some h with ⟨g2, h⟩ | ⟨g2, h⟩
  · refine ls_cT rfl g2 ?_
    refine ls_rs tbOk ?_
    refine evs (ev_ac rfl nofun rfl (evn ?_))
    refine ls_keep [(6, .bool true)] ⟨kr, trivial⟩ rfl ?_
    refine ls_ret ?_
    have hr := Option.some.inj h
    rw [← hr]
    exact ⟨.inl rfl, rfl⟩
  · refine ls_cF rfl g2 ?_
    refine ls_skip ?_
    refine hK1 _ (ls_keep [(1, .arg a1.length (a1.flatMap c83_a)), (2, .arg a2.length (a2.flatMap ci64)), (3, .box [.int .i64 a0.1, .arg a0.2.1.length (a0.2.1.flatMap c171_a), .arg a0.2.2.length (a0.2.2.flatMap ci64)])] ⟨kr, kr, kr, trivial⟩ rfl ?_)
    refine ls_rs tbOk ?_
    refine evs (ev_ac rfl nofun rfl (evn ?_))
    refine ls_keep [(1, .arg a1.length (a1.flatMap c83_a)), (2, .arg a2.length (a2.flatMap ci64)), (3, .box [.int .i64 a0.1, .arg a0.2.1.length (a0.2.1.flatMap c171_a), .arg a0.2.2.length (a0.2.2.flatMap ci64)]), (7, .int .i64 1048576)] ⟨kr, kr, kr, kr, trivial⟩ rfl ?_
    refine ls_rs tbOk ?_
    refine evs (ev_ldB (off := 0) (v := .agg [.int .i64 a0.1, .arg a0.2.1.length (a0.2.1.flatMap c171_a), .arg a0.2.2.length (a0.2.2.flatMap ci64)]) rfl rfl rfl rfl (Nat.le_of_ble_eq_true rfl) rfl (evs (ev_mv (c := .int .i64 1048576) rfl rfl rfl (?_))))
    obtain ⟨v3, g4, h⟩ := ob_some h
    refine evs (ev_call (era rfl (erg (erc rfl (erc (erG ec171_a _) (erc (erG eci64 _) rfl)))) (era rfl rfl eran)) (laws_szQuery_s g4) (evs (ev_as (c := .int .i64 v3) rfl rfl rfl (evn ?_))))
    refine ls_keep [(1, .arg a1.length (a1.flatMap c83_a)), (2, .arg a2.length (a2.flatMap ci64)), (3, .box [.int .i64 a0.1, .arg a0.2.1.length (a0.2.1.flatMap c171_a), .arg a0.2.2.length (a0.2.2.flatMap ci64)]), (7, .int .i64 v3)] ⟨kr, kr, kr, kr, trivial⟩ rfl ?_
    refine ls_seq_k fun K5 hK5 => ?_
    refine ls_rs tbOk ?_
    refine evs (ev_mv (c := .int .i64 v3) rfl rfl rfl (evs (ev_bin (c1 := .int .i64 v3) (c2 := .int .i64 0) rfl rfl rfl (evn ?_))))
    refine ls_keep [(1, .arg a1.length (a1.flatMap c83_a)), (2, .arg a2.length (a2.flatMap ci64)), (3, .box [.int .i64 a0.1, .arg a0.2.1.length (a0.2.1.flatMap c171_a), .arg a0.2.2.length (a0.2.2.flatMap ci64)]), (7, .int .i64 v3), (24, .bool (decide (v3 < 0)))] ⟨kr, kr, kr, kr, kr, trivial⟩ rfl ?_
    rcases cond_some h with ⟨g6, h⟩ | ⟨g6, h⟩
    · refine ls_cT rfl g6 ?_
      refine ls_rs tbOk ?_
      refine evs (ev_ac rfl nofun rfl (evn ?_))
      refine ls_keep [(6, .bool true)] ⟨kr, trivial⟩ rfl ?_
      refine ls_ret ?_
      have hr := Option.some.inj h
      rw [← hr]
      exact ⟨.inl rfl, rfl⟩
    · refine ls_cF rfl g6 ?_
      refine ls_skip ?_
      refine hK5 _ (ls_keep [(1, .arg a1.length (a1.flatMap c83_a)), (2, .arg a2.length (a2.flatMap ci64)), (3, .box [.int .i64 a0.1, .arg a0.2.1.length (a0.2.1.flatMap c171_a), .arg a0.2.2.length (a0.2.2.flatMap ci64)]), (7, .int .i64 v3)] ⟨kr, kr, kr, kr, trivial⟩ rfl ?_)
      refine ls_rs tbOk ?_
      refine evs (ev_mv (c := .arg a1.length (a1.flatMap c83_a)) rfl rfl rfl (evs (ev_mv (c := .int .i64 v3) rfl rfl rfl (?_))))
      obtain ⟨v7, g8, h⟩ := ob_some h
      refine evs (ev_call (era rfl (erG ec83_a _) (era rfl rfl eran)) (laws_szFunctionalDependencyS_s g8) (evs (ev_as (c := .int .i64 v7) rfl rfl rfl (evn ?_))))
      refine ls_keep [(1, .arg a1.length (a1.flatMap c83_a)), (2, .arg a2.length (a2.flatMap ci64)), (3, .box [.int .i64 a0.1, .arg a0.2.1.length (a0.2.1.flatMap c171_a), .arg a0.2.2.length (a0.2.2.flatMap ci64)]), (7, .int .i64 v7)] ⟨kr, kr, kr, kr, trivial⟩ rfl ?_
      refine ls_seq_k fun K9 hK9 => ?_
      refine ls_rs tbOk ?_
      refine evs (ev_mv (c := .int .i64 v7) rfl rfl rfl (evs (ev_bin (c1 := .int .i64 v7) (c2 := .int .i64 0) rfl rfl rfl (evn ?_))))
      refine ls_keep [(1, .arg a1.length (a1.flatMap c83_a)), (2, .arg a2.length (a2.flatMap ci64)), (3, .box [.int .i64 a0.1, .arg a0.2.1.length (a0.2.1.flatMap c171_a), .arg a0.2.2.length (a0.2.2.flatMap ci64)]), (29, .bool (decide (v7 < 0)))] ⟨kr, kr, kr, kr, trivial⟩ rfl ?_
      rcases cond_some h with ⟨g10, h⟩ | ⟨g10, h⟩
      · refine ls_cT rfl g10 ?_
        refine ls_rs tbOk ?_
        refine evs (ev_ac rfl nofun rfl (evn ?_))
        refine ls_keep [(6, .bool true)] ⟨kr, trivial⟩ rfl ?_
        refine ls_ret ?_
        have hr := Option.some.inj h
        rw [← hr]
        exact ⟨.inl rfl, rfl⟩
      · refine ls_cF rfl g10 ?_
        refine ls_skip ?_
        refine hK9 _ (ls_keep [(1, .arg a1.length (a1.flatMap c83_a)), (2, .arg a2.length (a2.flatMap ci64)), (3, .box [.int .i64 a0.1, .arg a0.2.1.length (a0.2.1.flatMap c171_a), .arg a0.2.2.length (a0.2.2.flatMap ci64)])] ⟨kr, kr, kr, trivial⟩ rfl ?_)
        refine ls_rs tbOk ?_
        refine evs (ev_ldB (off := 0) (v := .agg [.int .i64 a0.1, .arg a0.2.1.length (a0.2.1.flatMap c171_a), .arg a0.2.2.length (a0.2.2.flatMap ci64)]) rfl rfl rfl rfl (Nat.le_of_ble_eq_true rfl) rfl (?_))
        obtain ⟨v11, g12, h⟩ := ob_some h
        refine evs (ev_call (era rfl (erg (erc rfl (erc (erG ec171_a _) (erc (erG eci64 _) rfl)))) eran) (laws_toQuery_s g12) (evs (ev_mv (c := .arg a1.length (a1.flatMap c83_a)) rfl rfl rfl (?_))))
        obtain ⟨v13, g14, h⟩ := ob_some h
        refine evs (ev_call (era rfl (erG ec83_a _) eran) (laws_toFunctionalDependencyS_s g14) (evs (ev_mv (c := .arg a2.length (a2.flatMap ci64)) rfl rfl rfl (?_))))
        obtain ⟨v15, g16, h⟩ := ob_some h
        refine evs (ev_call (era rfl (erG eci64 _) eran) (laws_toIntS_s g16) (?_))
        obtain ⟨v17, g18, h⟩ := ob_some h
        refine evs (ev_call (era rfl (erg (erc rfl (erc (erO ec150_o _) (erc (erO eci64 _) rfl)))) (era rfl (erO ec86_o _) (era rfl (erO eci64 _) eran))) (spec_FDClosure_s g18) (evs (ev_as (c := .own 3 v17.length (v17.flatMap ci64)) rfl rfl rfl (evn ?_))))
        refine ls_keep [(1, .arg a1.length (a1.flatMap c83_a)), (2, .arg a2.length (a2.flatMap ci64)), (3, .box [.int .i64 a0.1, .arg a0.2.1.length (a0.2.1.flatMap c171_a), .arg a0.2.2.length (a0.2.2.flatMap ci64)]), (8, .own 3 v17.length (v17.flatMap ci64))] ⟨kr, kr, kr, kr, trivial⟩ rfl ?_
        refine ls_rs tbOk ?_
        refine evs (ev_ldB (off := 0) (v := .agg [.int .i64 a0.1, .arg a0.2.1.length (a0.2.1.flatMap c171_a), .arg a0.2.2.length (a0.2.2.flatMap ci64)]) rfl rfl rfl rfl (Nat.le_of_ble_eq_true rfl) rfl (?_))
        obtain ⟨v19, g20, h⟩ := ob_some h
        refine evs (ev_call (era rfl (erg (erc rfl (erc (erG ec171_a _) (erc (erG eci64 _) rfl)))) eran) (laws_toQuery_s g20) (evs (ev_al rfl rfl (evs (ev_st (off := 0) (c1 := .agg [.int .i64 v19.1, .own 150 v19.2.1.length (v19.2.1.flatMap c150_o), .own 3 v19.2.2.length (v19.2.2.flatMap ci64)]) (cs' := [.int .i64 v19.1, .own 150 v19.2.1.length (v19.2.1.flatMap c150_o), .own 3 v19.2.2.length (v19.2.2.flatMap ci64)]) rfl rfl rfl rfl rfl rfl (Nat.le_of_ble_eq_true rfl) rfl (evn ?_))))))
        refine ls_keep [(1, .arg a1.length (a1.flatMap c83_a)), (2, .arg a2.length (a2.flatMap ci64)), (3, .box [.int .i64 a0.1, .arg a0.2.1.length (a0.2.1.flatMap c171_a), .arg a0.2.2.length (a0.2.2.flatMap ci64)]), (8, .own 3 v17.length (v17.flatMap ci64)), (9, .box [.int .i64 v19.1, .own 150 v19.2.1.length (v19.2.1.flatMap c150_o), .own 3 v19.2.2.length (v19.2.2.flatMap ci64)])] ⟨kr, kr, kr, kr, kr, trivial⟩ rfl ?_
        refine ls_rs tbOk ?_
        refine evs (ev_mv (c := .arg a1.length (a1.flatMap c83_a)) rfl rfl rfl (?_))
        obtain ⟨v21, g22, h⟩ := ob_some h
        refine evs (ev_call (era rfl (erG ec83_a _) eran) (laws_toFunctionalDependencyS_s g22) (evs (ev_as (c := .own 86 v21.length (v21.flatMap c86_o)) rfl rfl rfl (evn ?_))))
        refine ls_keep [(1, .arg a1.length (a1.flatMap c83_a)), (2, .arg a2.length (a2.flatMap ci64)), (3, .box [.int .i64 a0.1, .arg a0.2.1.length (a0.2.1.flatMap c171_a), .arg a0.2.2.length (a0.2.2.flatMap ci64)]), (8, .own 3 v17.length (v17.flatMap ci64)), (9, .box [.int .i64 v19.1, .own 150 v19.2.1.length (v19.2.1.flatMap c150_o), .own 3 v19.2.2.length (v19.2.2.flatMap ci64)]), (10, .own 86 v21.length (v21.flatMap c86_o))] ⟨kr, kr, kr, kr, kr, kr, trivial⟩ rfl ?_
        refine ls_rs tbOk ?_
        refine evs (ev_mv (c := .arg a2.length (a2.flatMap ci64)) rfl rfl rfl (?_))
        obtain ⟨v23, g24, h⟩ := ob_some h
        refine evs (ev_call (era rfl (erG eci64 _) eran) (laws_toIntS_s g24) (evs (ev_as (c := .own 3 v23.length (v23.flatMap ci64)) rfl rfl rfl (evn ?_))))
        refine ls_keep [(1, .arg a1.length (a1.flatMap c83_a)), (2, .arg a2.length (a2.flatMap ci64)), (3, .box [.int .i64 a0.1, .arg a0.2.1.length (a0.2.1.flatMap c171_a), .arg a0.2.2.length (a0.2.2.flatMap ci64)]), (8, .own 3 v17.length (v17.flatMap ci64)), (9, .box [.int .i64 v19.1, .own 150 v19.2.1.length (v19.2.1.flatMap c150_o), .own 3 v19.2.2.length (v19.2.2.flatMap ci64)]), (10, .own 86 v21.length (v21.flatMap c86_o)), (11, .own 3 v23.length (v23.flatMap ci64))] ⟨kr, kr, kr, kr, kr, kr, kr, trivial⟩ rfl ?_
        refine ls_rs tbOk ?_
        refine evs (ev_ldB (off := 0) (v := .agg [.int .i64 v19.1, .dat v19.2.1.length (v19.2.1.flatMap c150_o), .dat v19.2.2.length (v19.2.2.flatMap ci64)]) rfl rfl rfl rfl (Nat.le_of_ble_eq_true rfl) rfl (evs (ev_mv (c := .own 86 v21.length (v21.flatMap c86_o)) rfl rfl rfl (evs (ev_mv (c := .own 3 v23.length (v23.flatMap ci64)) rfl rfl rfl (?_))))))
        obtain ⟨v25, g26, h⟩ := ob_some h
        refine evs (ev_call (era rfl (erg (erc rfl (erc (erD ec150_o _) (erc (erD eci64 _) rfl)))) (era rfl (erD ec86_o _) (era rfl (erD eci64 _) eran))) (impl_FDClosure_s g26) (evs (ev_as (c := .own 3 v25.length (v25.flatMap ci64)) rfl rfl rfl (evn ?_))))
        refine ls_keep [(1, .arg a1.length (a1.flatMap c83_a)), (2, .arg a2.length (a2.flatMap ci64)), (3, .box [.int .i64 a0.1, .arg a0.2.1.length (a0.2.1.flatMap c171_a), .arg a0.2.2.length (a0.2.2.flatMap ci64)]), (8, .own 3 v17.length (v17.flatMap ci64)), (9, .box [.int .i64 v19.1, .own 150 v19.2.1.length (v19.2.1.flatMap c150_o), .own 3 v19.2.2.length (v19.2.2.flatMap ci64)]), (10, .own 86 v21.length (v21.flatMap c86_o)), (11, .own 3 v23.length (v23.flatMap ci64)), (12, .own 3 v25.length (v25.flatMap ci64))] ⟨kr, kr, kr, kr, kr, kr, kr, kr, trivial⟩ rfl ?_
        refine ls_seq_k fun K27 hK27 => ?_
        refine ls_rs tbOk ?_
        refine evs (ev_mv (c := .own 3 v25.length (v25.flatMap ci64)) rfl rfl rfl (evs (ev_mv (c := .own 3 v17.length (v17.flatMap ci64)) rfl rfl rfl (?_))))
        obtain ⟨v28, g29, h⟩ := ob_some h
        refine evs (ev_call (era rfl (erD eci64 _) (era rfl (erD eci64 _) eran)) (laws_eqIntS_s g29) (evs (ev_un (c1 := .bool v28) rfl trivial (evn ?_))))
        refine ls_keep [(1, .arg a1.length (a1.flatMap c83_a)), (2, .arg a2.length (a2.flatMap ci64)), (3, .box [.int .i64 a0.1, .arg a0.2.1.length (a0.2.1.flatMap c171_a), .arg a0.2.2.length (a0.2.2.flatMap ci64)]), (8, .own 3 v17.length (v17.flatMap ci64)), (9, .box [.int .i64 v19.1, .own 150 v19.2.1.length (v19.2.1.flatMap c150_o), .own 3 v19.2.2.length (v19.2.2.flatMap ci64)]), (10, .own 86 v21.length (v21.flatMap c86_o)), (11, .own 3 v23.length (v23.flatMap ci64)), (12, .own 3 v25.length (v25.flatMap ci64)), (50, .bool (!v28))] ⟨kr, kr, kr, kr, kr, kr, kr, kr, kr, trivial⟩ rfl ?_
        rcases cond_some h with ⟨g30, h⟩ | ⟨g30, h⟩
        · refine ls_cT rfl g30 ?_
          refine ls_rs tbOk ?_
          refine evs (ev_ac rfl nofun rfl (evn ?_))
          refine ls_keep [(6, .bool false)] ⟨kr, trivial⟩ rfl ?_
          refine ls_ret ?_
          have hr := Option.some.inj h
          rw [← hr]
          exact ⟨.inl rfl, rfl⟩
        · refine ls_cF rfl g30 ?_
          refine ls_skip ?_
          refine hK27 _ (ls_keep [(1, .arg a1.length (a1.flatMap c83_a)), (2, .arg a2.length (a2.flatMap ci64)), (3, .box [.int .i64 a0.1, .arg a0.2.1.length (a0.2.1.flatMap c171_a), .arg a0.2.2.length (a0.2.2.flatMap ci64)]), (8, .own 3 v17.length (v17.flatMap ci64)), (9, .box [.int .i64 v19.1, .own 150 v19.2.1.length (v19.2.1.flatMap c150_o), .own 3 v19.2.2.length (v19.2.2.flatMap ci64)]), (10, .own 86 v21.length (v21.flatMap c86_o)), (11, .own 3 v23.length (v23.flatMap ci64)), (12, .own 3 v25.length (v25.flatMap ci64))] ⟨kr, kr, kr, kr, kr, kr, kr, kr, trivial⟩ rfl ?_)
          refine ls_seq_k fun K31 hK31 => ?_
          refine ls_rd tbOk mixed (by kernel_rfl) ?_
          refine evd rfl rfl (ev_ldB (off := 0) (v := .agg [.int .i64 v19.1, .dat v19.2.1.length (v19.2.1.flatMap c150_o), .dat v19.2.2.length (v19.2.2.flatMap ci64)]) rfl rfl rfl rfl (Nat.le_of_ble_eq_true rfl) rfl (evd rfl rfl (ev_ldB (off := 0) (v := .agg [.int .i64 a0.1, .arg a0.2.1.length (a0.2.1.flatMap c171_a), .arg a0.2.2.length (a0.2.2.flatMap ci64)]) rfl rfl rfl rfl (Nat.le_of_ble_eq_true rfl) rfl (?_))))
          obtain ⟨v32, g33, h⟩ := ob_some h
          refine evd rfl rfl (ev_call (era rfl (erg (erc rfl (erc (erG ec171_a _) (erc (erG eci64 _) rfl)))) eran) (laws_toQuery_s g33) (?_))
          obtain ⟨v34, g35, h⟩ := ob_some h
          refine evd rfl rfl (ev_call (era rfl (erg (erc rfl (erc (erD ec150_o _) (erc (erD eci64 _) rfl)))) (era rfl (erg (erc rfl (erc (erO ec150_o _) (erc (erO eci64 _) rfl)))) eran)) (laws_eqQuery_s g35) (evd rfl rfl (ev_un (c1 := .bool v34) rfl trivial (evdn ?_))))
          refine ls_keep [(1, .arg a1.length (a1.flatMap c83_a)), (2, .arg a2.length (a2.flatMap ci64)), (3, .box [.int .i64 a0.1, .arg a0.2.1.length (a0.2.1.flatMap c171_a), .arg a0.2.2.length (a0.2.2.flatMap ci64)]), (8, .own 3 v17.length (v17.flatMap ci64)), (9, .box [.int .i64 v19.1, .own 150 v19.2.1.length (v19.2.1.flatMap c150_o), .own 3 v19.2.2.length (v19.2.2.flatMap ci64)]), (10, .own 86 v21.length (v21.flatMap c86_o)), (11, .own 3 v23.length (v23.flatMap ci64)), (12, .own 3 v25.length (v25.flatMap ci64)), (55, .bool (!v34))] ⟨kr, kr, kr, kr, kr, kr, kr, kr, kr, trivial⟩ rfl ?_
          rcases cond_some h with ⟨g36, h⟩ | ⟨g36, h⟩
          · refine ls_cT rfl g36 ?_
            refine ls_rs tbOk ?_
            refine evs (ev_ac rfl nofun rfl (evn ?_))
            refine ls_keep [(6, .bool false)] ⟨kr, trivial⟩ rfl ?_
            refine ls_ret ?_
            have hr := Option.some.inj h
            rw [← hr]
            exact ⟨.inl rfl, rfl⟩
          · refine ls_cF rfl g36 ?_
            refine ls_skip ?_
            refine hK31 _ (ls_keep [(1, .arg a1.length (a1.flatMap c83_a)), (2, .arg a2.length (a2.flatMap ci64)), (3, .box [.int .i64 a0.1, .arg a0.2.1.length (a0.2.1.flatMap c171_a), .arg a0.2.2.length (a0.2.2.flatMap ci64)]), (8, .own 3 v17.length (v17.flatMap ci64)), (9, .box [.int .i64 v19.1, .own 150 v19.2.1.length (v19.2.1.flatMap c150_o), .own 3 v19.2.2.length (v19.2.2.flatMap ci64)]), (10, .own 86 v21.length (v21.flatMap c86_o)), (11, .own 3 v23.length (v23.flatMap ci64)), (12, .own 3 v25.length (v25.flatMap ci64))] ⟨kr, kr, kr, kr, kr, kr, kr, kr, trivial⟩ rfl ?_)
            refine ls_seq_k fun K37 hK37 => ?_
            refine ls_rs tbOk ?_
            refine evs (ev_mv (c := .own 86 v21.length (v21.flatMap c86_o)) rfl rfl rfl (evs (ev_mv (c := .arg a1.length (a1.flatMap c83_a)) rfl rfl rfl (?_))))
            obtain ⟨v38, g39, h⟩ := ob_some h
            refine evs (ev_call (era rfl (erG ec83_a _) eran) (laws_toFunctionalDependencyS_s g39) (?_))
            obtain ⟨v40, g41, h⟩ := ob_some h
            refine evs (ev_call (era rfl (erD ec86_o _) (era rfl (erO ec86_o _) eran)) (laws_eqFunctionalDependencyS_s g41) (evs (ev_un (c1 := .bool v40) rfl trivial (evn ?_))))
            refine ls_keep [(1, .arg a1.length (a1.flatMap c83_a)), (2, .arg a2.length (a2.flatMap ci64)), (3, .box [.int .i64 a0.1, .arg a0.2.1.length (a0.2.1.flatMap c171_a), .arg a0.2.2.length (a0.2.2.flatMap ci64)]), (8, .own 3 v17.length (v17.flatMap ci64)), (9, .box [.int .i64 v19.1, .own 150 v19.2.1.length (v19.2.1.flatMap c150_o), .own 3 v19.2.2.length (v19.2.2.flatMap ci64)]), (10, .own 86 v21.length (v21.flatMap c86_o)), (11, .own 3 v23.length (v23.flatMap ci64)), (12, .own 3 v25.length (v25.flatMap ci64)), (60, .bool (!v40))] ⟨kr, kr, kr, kr, kr, kr, kr, kr, kr, trivial⟩ rfl ?_
            rcases cond_some h with ⟨g42, h⟩ | ⟨g42, h⟩
            · refine ls_cT rfl g42 ?_
              refine ls_rs tbOk ?_
              refine evs (ev_ac rfl nofun rfl (evn ?_))
              refine ls_keep [(6, .bool false)] ⟨kr, trivial⟩ rfl ?_
              refine ls_ret ?_
              have hr := Option.some.inj h
              rw [← hr]
              exact ⟨.inl rfl, rfl⟩
            · refine ls_cF rfl g42 ?_
              refine ls_skip ?_
              refine hK37 _ (ls_keep [(1, .arg a1.length (a1.flatMap c83_a)), (2, .arg a2.length (a2.flatMap ci64)), (3, .box [.int .i64 a0.1, .arg a0.2.1.length (a0.2.1.flatMap c171_a), .arg a0.2.2.length (a0.2.2.flatMap ci64)]), (8, .own 3 v17.length (v17.flatMap ci64)), (9, .box [.int .i64 v19.1, .own 150 v19.2.1.length (v19.2.1.flatMap c150_o), .own 3 v19.2.2.length (v19.2.2.flatMap ci64)]), (10, .own 86 v21.length (v21.flatMap c86_o)), (11, .own 3 v23.length (v23.flatMap ci64)), (12, .own 3 v25.length (v25.flatMap ci64))] ⟨kr, kr, kr, kr, kr, kr, kr, kr, trivial⟩ rfl ?_)
              refine ls_seq_k fun K43 hK43 => ?_
              refine ls_rs tbOk ?_
              refine evs (ev_mv (c := .own 3 v23.length (v23.flatMap ci64)) rfl rfl rfl (evs (ev_mv (c := .arg a2.length (a2.flatMap ci64)) rfl rfl rfl (?_))))
              obtain ⟨v44, g45, h⟩ := ob_some h
              refine evs (ev_call (era rfl (erG eci64 _) eran) (laws_toIntS_s g45) (?_))
              obtain ⟨v46, g47, h⟩ := ob_some h
              refine evs (ev_call (era rfl (erD eci64 _) (era rfl (erO eci64 _) eran)) (laws_eqIntS_s g47) (evs (ev_un (c1 := .bool v46) rfl trivial (evn ?_))))
              refine ls_keep [(1, .arg a1.length (a1.flatMap c83_a)), (2, .arg a2.length (a2.flatMap ci64)), (3, .box [.int .i64 a0.1, .arg a0.2.1.length (a0.2.1.flatMap c171_a), .arg a0.2.2.length (a0.2.2.flatMap ci64)]), (8, .own 3 v17.length (v17.flatMap ci64)), (9, .box [.int .i64 v19.1, .own 150 v19.2.1.length (v19.2.1.flatMap c150_o), .own 3 v19.2.2.length (v19.2.2.flatMap ci64)]), (10, .own 86 v21.length (v21.flatMap c86_o)), (11, .own 3 v23.length (v23.flatMap ci64)), (12, .own 3 v25.length (v25.flatMap ci64)), (65, .bool (!v46))] ⟨kr, kr, kr, kr, kr, kr, kr, kr, kr, trivial⟩ rfl ?_
              rcases cond_some h with ⟨g48, h⟩ | ⟨g48, h⟩
              · refine ls_cT rfl g48 ?_
                refine ls_rs tbOk ?_
                refine evs (ev_ac rfl nofun rfl (evn ?_))
                refine ls_keep [(6, .bool false)] ⟨kr, trivial⟩ rfl ?_
                refine ls_ret ?_
                have hr := Option.some.inj h
                rw [← hr]
                exact ⟨.inl rfl, rfl⟩
              · refine ls_cF rfl g48 ?_
                refine ls_skip ?_
                refine hK43 _ (ls_keep [(1, .arg a1.length (a1.flatMap c83_a)), (2, .arg a2.length (a2.flatMap ci64)), (3, .box [.int .i64 a0.1, .arg a0.2.1.length (a0.2.1.flatMap c171_a), .arg a0.2.2.length (a0.2.2.flatMap ci64)]), (8, .own 3 v17.length (v17.flatMap ci64)), (9, .box [.int .i64 v19.1, .own 150 v19.2.1.length (v19.2.1.flatMap c150_o), .own 3 v19.2.2.length (v19.2.2.flatMap ci64)]), (10, .own 86 v21.length (v21.flatMap c86_o)), (11, .own 3 v23.length (v23.flatMap ci64)), (12, .own 3 v25.length (v25.flatMap ci64))] ⟨kr, kr, kr, kr, kr, kr, kr, kr, trivial⟩ rfl ?_)
                refine ls_rs tbOk ?_
                refine evs (ev_ac rfl nofun rfl (evn ?_))
                refine ls_keep [(1, .arg a1.length (a1.flatMap c83_a)), (2, .arg a2.length (a2.flatMap ci64)), (3, .box [.int .i64 a0.1, .arg a0.2.1.length (a0.2.1.flatMap c171_a), .arg a0.2.2.length (a0.2.2.flatMap ci64)]), (8, .own 3 v17.length (v17.flatMap ci64)), (9, .box [.int .i64 v19.1, .own 150 v19.2.1.length (v19.2.1.flatMap c150_o), .own 3 v19.2.2.length (v19.2.2.flatMap ci64)]), (10, .own 86 v21.length (v21.flatMap c86_o)), (11, .own 3 v23.length (v23.flatMap ci64)), (12, .own 3 v25.length (v25.flatMap ci64)), (13, .int .i64 1)] ⟨kr, kr, kr, kr, kr, kr, kr, kr, kr, trivial⟩ rfl ?_
                refine ls_keep [(1, .arg a1.length (a1.flatMap c83_a)), (2, .arg a2.length (a2.flatMap ci64)), (3, .box [.int .i64 a0.1, .arg a0.2.1.length (a0.2.1.flatMap c171_a), .arg a0.2.2.length (a0.2.2.flatMap ci64)]), (8, .own 3 v17.length (v17.flatMap ci64)), (9, .box [.int .i64 v19.1, .own 150 v19.2.1.length (v19.2.1.flatMap c150_o), .own 3 v19.2.2.length (v19.2.2.flatMap ci64)]), (10, .own 86 v21.length (v21.flatMap c86_o)), (11, .own 3 v23.length (v23.flatMap ci64)), (12, .own 3 v25.length (v25.flatMap ci64)), (13, .int .i64 1)] ⟨kr, kr, kr, kr, kr, kr, kr, kr, kr, trivial⟩ rfl ?_
                obtain ⟨v49, g50, h⟩ := ob_some h
                refine ls_mark (src_box tbOk rfl rfl rfl) rfl rfl (laws_markQuery_m g50) (dp56 _) (sf_of (sfc (argd_flat ad83 _) (sfc (argd_flat (fun _ => rfl) _) (sfc (scc rfl (scc (sca ad171 _) (scc (sca (fun _ => rfl) _) scn))) (sfc (deep_flat (fun _ => rfl) _) (sfs (sfc (deep_flat dp86 _) (sfc (deep_flat (fun _ => rfl) _) (sfc (deep_flat (fun _ => rfl) _) (sfc rfl sfn)))))))))) rfl rfl ⟨by decide, by decide⟩ rfl ?_
                refine ls_keep [(1, .arg a1.length (a1.flatMap c83_a)), (2, .arg a2.length (a2.flatMap ci64)), (3, .box [.int .i64 a0.1, .arg a0.2.1.length (a0.2.1.flatMap c171_a), .arg a0.2.2.length (a0.2.2.flatMap ci64)]), (8, .own 3 v17.length (v17.flatMap ci64)), (10, .own 86 v21.length (v21.flatMap c86_o)), (11, .own 3 v23.length (v23.flatMap ci64)), (12, .own 3 v25.length (v25.flatMap ci64)), (13, .int .i64 v49.2)] ⟨kr, kr, kr, kr, kr, kr, kr, kr, trivial⟩ rfl ?_
                refine ls_keep [(1, .arg a1.length (a1.flatMap c83_a)), (2, .arg a2.length (a2.flatMap ci64)), (3, .box [.int .i64 a0.1, .arg a0.2.1.length (a0.2.1.flatMap c171_a), .arg a0.2.2.length (a0.2.2.flatMap ci64)]), (8, .own 3 v17.length (v17.flatMap ci64)), (10, .own 86 v21.length (v21.flatMap c86_o)), (11, .own 3 v23.length (v23.flatMap ci64)), (12, .own 3 v25.length (v25.flatMap ci64)), (13, .int .i64 v49.2)] ⟨kr, kr, kr, kr, kr, kr, kr, kr, trivial⟩ rfl ?_
                obtain ⟨v51, g52, h⟩ := ob_some h
                refine ls_mark (src_own rfl) rfl rfl (laws_markFunctionalDependencyS_m g52) (deep_flat dp86 _) (sf_of (sfc (argd_flat ad83 _) (sfc (argd_flat (fun _ => rfl) _) (sfc (scc rfl (scc (sca ad171 _) (scc (sca (fun _ => rfl) _) scn))) (sfc (deep_flat (fun _ => rfl) _) (sfs (sfc (deep_flat (fun _ => rfl) _) (sfc (deep_flat (fun _ => rfl) _) (sfc rfl sfn))))))))) rfl rfl ⟨by decide, by decide⟩ rfl ?_
                refine ls_keep [(1, .arg a1.length (a1.flatMap c83_a)), (2, .arg a2.length (a2.flatMap ci64)), (3, .box [.int .i64 a0.1, .arg a0.2.1.length (a0.2.1.flatMap c171_a), .arg a0.2.2.length (a0.2.2.flatMap ci64)]), (8, .own 3 v17.length (v17.flatMap ci64)), (11, .own 3 v23.length (v23.flatMap ci64)), (12, .own 3 v25.length (v25.flatMap ci64)), (13, .int .i64 v51.2)] ⟨kr, kr, kr, kr, kr, kr, kr, trivial⟩ rfl ?_
                refine ls_keep [(1, .arg a1.length (a1.flatMap c83_a)), (2, .arg a2.length (a2.flatMap ci64)), (3, .box [.int .i64 a0.1, .arg a0.2.1.length (a0.2.1.flatMap c171_a), .arg a0.2.2.length (a0.2.2.flatMap ci64)]), (8, .own 3 v17.length (v17.flatMap ci64)), (11, .own 3 v23.length (v23.flatMap ci64)), (12, .own 3 v25.length (v25.flatMap ci64)), (13, .int .i64 v51.2)] ⟨kr, kr, kr, kr, kr, kr, kr, trivial⟩ rfl ?_
                obtain ⟨v53, g54, h⟩ := ob_some h
                refine ls_mark (src_own rfl) rfl rfl (laws_markIntS_m g54) (deep_flat (fun _ => rfl) _) (sf_of (sfc (argd_flat ad83 _) (sfc (argd_flat (fun _ => rfl) _) (sfc (scc rfl (scc (sca ad171 _) (scc (sca (fun _ => rfl) _) scn))) (sfc (deep_flat (fun _ => rfl) _) (sfs (sfc (deep_flat (fun _ => rfl) _) (sfc rfl sfn)))))))) rfl rfl ⟨by decide, by decide⟩ rfl ?_
                refine ls_keep [(1, .arg a1.length (a1.flatMap c83_a)), (2, .arg a2.length (a2.flatMap ci64)), (3, .box [.int .i64 a0.1, .arg a0.2.1.length (a0.2.1.flatMap c171_a), .arg a0.2.2.length (a0.2.2.flatMap ci64)]), (8, .own 3 v17.length (v17.flatMap ci64)), (12, .own 3 v25.length (v25.flatMap ci64)), (13, .int .i64 v53.2)] ⟨kr, kr, kr, kr, kr, kr, trivial⟩ rfl ?_
                refine ls_seq_k fun K55 hK55 => ?_
                refine ls_rs tbOk ?_
                refine evs (ev_mv (c := .int .i64 v53.2) rfl rfl rfl (evs (ev_bin (c1 := .int .i64 v53.2) (c2 := .int .i64 0) rfl rfl rfl (evs (ev_mv (c := .bool (decide (v53.2 < 0))) rfl rfl rfl (?_))))))
                rcases cond_some h with ⟨g56, h⟩ | ⟨g56, h⟩
                · refine evs (ev_gs rfl rfl (isb_T g56) (evs (ev_gs rfl rfl (isb_T g56) (evs (ev_gs rfl rfl (isb_T g56) (evs (ev_gs rfl rfl (isb_T g56) (evs (ev_pkT (c1 := .bool true) rfl g56 rfl rfl (evn ?_))))))))))
                  refine ls_keep [(1, .arg a1.length (a1.flatMap c83_a)), (2, .arg a2.length (a2.flatMap ci64)), (3, .box [.int .i64 a0.1, .arg a0.2.1.length (a0.2.1.flatMap c171_a), .arg a0.2.2.length (a0.2.2.flatMap ci64)]), (8, .own 3 v17.length (v17.flatMap ci64)), (12, .own 3 v25.length (v25.flatMap ci64)), (82, .bool true)] ⟨kr, kr, kr, kr, kr, kr, trivial⟩ rfl ?_
                  refine ls_cT rfl rfl ?_
                  refine ls_rs tbOk ?_
                  refine evs (ev_ac rfl nofun rfl (evn ?_))
                  refine ls_keep [(6, .bool false)] ⟨kr, trivial⟩ rfl ?_
                  refine ls_ret ?_
                  have hr := Option.some.inj h
                  rw [← hr]
                  exact ⟨.inl rfl, rfl⟩
                · refine evs (ev_gr rfl (congrArg V.bool g56) (ev_mv (c := .own 3 v25.length (v25.flatMap ci64)) rfl rfl rfl (evs (ev_gr rfl (congrArg V.bool g56) (ev_mv (c := .own 3 v17.length (v17.flatMap ci64)) rfl rfl rfl (?_))))))
                  obtain ⟨v57, g58, h⟩ := ob_some h
                  refine evs (ev_gr rfl (congrArg V.bool g56) (ev_call (era rfl (erD eci64 _) (era rfl (erD eci64 _) eran)) (laws_eqIntS_s g58) (evs (ev_gr rfl (congrArg V.bool g56) (ev_un (c1 := .bool v57) rfl trivial (evs (ev_pkF (c1 := .bool (!v57)) rfl g56 rfl rfl (evn ?_))))))))
                  refine ls_keep [(1, .arg a1.length (a1.flatMap c83_a)), (2, .arg a2.length (a2.flatMap ci64)), (3, .box [.int .i64 a0.1, .arg a0.2.1.length (a0.2.1.flatMap c171_a), .arg a0.2.2.length (a0.2.2.flatMap ci64)]), (8, .own 3 v17.length (v17.flatMap ci64)), (12, .own 3 v25.length (v25.flatMap ci64)), (82, .bool (!v57))] ⟨kr, kr, kr, kr, kr, kr, trivial⟩ rfl ?_
                  rcases cond_some h with ⟨g59, h⟩ | ⟨g59, h⟩
                  · refine ls_cT rfl g59 ?_
                    refine ls_rs tbOk ?_
                    refine evs (ev_ac rfl nofun rfl (evn ?_))
                    refine ls_keep [(6, .bool false)] ⟨kr, trivial⟩ rfl ?_
                    refine ls_ret ?_
                    have hr := Option.some.inj h
                    rw [← hr]
                    exact ⟨.inl rfl, rfl⟩
                  · refine ls_cF rfl g59 ?_
                    refine ls_skip ?_
                    refine hK55 _ (ls_keep [(1, .arg a1.length (a1.flatMap c83_a)), (2, .arg a2.length (a2.flatMap ci64)), (3, .box [.int .i64 a0.1, .arg a0.2.1.length (a0.2.1.flatMap c171_a), .arg a0.2.2.length (a0.2.2.flatMap ci64)]), (8, .own 3 v17.length (v17.flatMap ci64)), (12, .own 3 v25.length (v25.flatMap ci64))] ⟨kr, kr, kr, kr, kr, trivial⟩ rfl ?_)
                    refine ls_rs tbOk ?_
                    refine evs (ev_ac rfl nofun rfl (evn ?_))
                    refine ls_keep [(1, .arg a1.length (a1.flatMap c83_a)), (2, .arg a2.length (a2.flatMap ci64)), (3, .box [.int .i64 a0.1, .arg a0.2.1.length (a0.2.1.flatMap c171_a), .arg a0.2.2.length (a0.2.2.flatMap ci64)]), (8, .own 3 v17.length (v17.flatMap ci64)), (12, .own 3 v25.length (v25.flatMap ci64)), (14, .int .i64 1)] ⟨kr, kr, kr, kr, kr, kr, trivial⟩ rfl ?_
                    refine ls_keep [(1, .arg a1.length (a1.flatMap c83_a)), (2, .arg a2.length (a2.flatMap ci64)), (3, .box [.int .i64 a0.1, .arg a0.2.1.length (a0.2.1.flatMap c171_a), .arg a0.2.2.length (a0.2.2.flatMap ci64)]), (8, .own 3 v17.length (v17.flatMap ci64)), (12, .own 3 v25.length (v25.flatMap ci64)), (14, .int .i64 1)] ⟨kr, kr, kr, kr, kr, kr, trivial⟩ rfl ?_
                    obtain ⟨v60, g61, h⟩ := ob_some h
                    refine ls_mark (src_own rfl) rfl rfl (laws_markIntS_m g61) (deep_flat (fun _ => rfl) _) (sf_of (sfc (argd_flat ad83 _) (sfc (argd_flat (fun _ => rfl) _) (sfc (scc rfl (scc (sca ad171 _) (scc (sca (fun _ => rfl) _) scn))) (sfc (deep_flat (fun _ => rfl) _) (sfs (sfc rfl sfn))))))) rfl rfl ⟨by decide, by decide⟩ rfl ?_
                    refine ls_keep [(1, .arg a1.length (a1.flatMap c83_a)), (2, .arg a2.length (a2.flatMap ci64)), (3, .box [.int .i64 a0.1, .arg a0.2.1.length (a0.2.1.flatMap c171_a), .arg a0.2.2.length (a0.2.2.flatMap ci64)]), (8, .own 3 v17.length (v17.flatMap ci64)), (12, .own 3 v60.1.length (v60.1.flatMap ci64)), (14, .int .i64 v60.2)] ⟨kr, kr, kr, kr, kr, kr, trivial⟩ rfl ?_
                    refine ls_rs tbOk ?_
                    refine evs (ev_ac rfl nofun rfl (evn ?_))
                    refine ls_keep [(1, .arg a1.length (a1.flatMap c83_a)), (2, .arg a2.length (a2.flatMap ci64)), (3, .box [.int .i64 a0.1, .arg a0.2.1.length (a0.2.1.flatMap c171_a), .arg a0.2.2.length (a0.2.2.flatMap ci64)]), (8, .own 3 v17.length (v17.flatMap ci64)), (12, .own 3 v60.1.length (v60.1.flatMap ci64)), (14, .int .i64 v60.2), (15, .int .i64 1)] ⟨kr, kr, kr, kr, kr, kr, kr, trivial⟩ rfl ?_
                    refine ls_rs tbOk ?_
                    refine evs (ev_mv (c := .own 3 v60.1.length (v60.1.flatMap ci64)) rfl rfl rfl (evs (ev_mv (c := .int .i64 1) rfl rfl rfl (?_))))
                    obtain ⟨v62, g63, h⟩ := ob_some h
                    refine evs (ev_call (era rfl (erD eci64 _) (era rfl rfl eran)) (laws_heldIntS_s g63) (evs (ev_as (c := .int .i64 v62) rfl rfl rfl (evn ?_))))
                    refine ls_keep [(1, .arg a1.length (a1.flatMap c83_a)), (2, .arg a2.length (a2.flatMap ci64)), (3, .box [.int .i64 a0.1, .arg a0.2.1.length (a0.2.1.flatMap c171_a), .arg a0.2.2.length (a0.2.2.flatMap ci64)]), (8, .own 3 v17.length (v17.flatMap ci64)), (12, .own 3 v60.1.length (v60.1.flatMap ci64)), (14, .int .i64 v60.2), (15, .int .i64 v62)] ⟨kr, kr, kr, kr, kr, kr, kr, trivial⟩ rfl ?_
                    refine ls_seq_k fun K64 hK64 => ?_
                    refine ls_rs tbOk ?_
                    refine evs (ev_mv (c := .int .i64 v62) rfl rfl rfl (evs (ev_bin (c1 := .int .i64 v62) (c2 := .int .i64 0) rfl rfl rfl (evn ?_))))
                    refine ls_keep [(1, .arg a1.length (a1.flatMap c83_a)), (2, .arg a2.length (a2.flatMap ci64)), (3, .box [.int .i64 a0.1, .arg a0.2.1.length (a0.2.1.flatMap c171_a), .arg a0.2.2.length (a0.2.2.flatMap ci64)]), (8, .own 3 v17.length (v17.flatMap ci64)), (12, .own 3 v60.1.length (v60.1.flatMap ci64)), (14, .int .i64 v60.2), (15, .int .i64 v62), (90, .bool (decide (v62 < 0)))] ⟨kr, kr, kr, kr, kr, kr, kr, kr, trivial⟩ rfl ?_
                    rcases cond_some h with ⟨g65, h⟩ | ⟨g65, h⟩
                    · refine ls_cT rfl g65 ?_
                      refine ls_rs tbOk ?_
                      refine evs (ev_ac rfl nofun rfl (evn ?_))
                      refine ls_keep [(6, .bool false)] ⟨kr, trivial⟩ rfl ?_
                      refine ls_ret ?_
                      have hr := Option.some.inj h
                      rw [← hr]
                      exact ⟨.inl rfl, rfl⟩
                    · refine ls_cF rfl g65 ?_
                      refine ls_skip ?_
                      refine hK64 _ (ls_keep [(1, .arg a1.length (a1.flatMap c83_a)), (2, .arg a2.length (a2.flatMap ci64)), (3, .box [.int .i64 a0.1, .arg a0.2.1.length (a0.2.1.flatMap c171_a), .arg a0.2.2.length (a0.2.2.flatMap ci64)]), (8, .own 3 v17.length (v17.flatMap ci64)), (12, .own 3 v60.1.length (v60.1.flatMap ci64)), (14, .int .i64 v60.2), (15, .int .i64 v62)] ⟨kr, kr, kr, kr, kr, kr, kr, trivial⟩ rfl ?_)
                      refine ls_seq_k fun K66 hK66 => ?_
                      refine ls_rs tbOk ?_
                      refine evs (ev_mv (c := .int .i64 v62) rfl rfl rfl (evs (ev_mv (c := .int .i64 v60.2) rfl rfl rfl (evs (ev_bin (c1 := .int .i64 v62) (c2 := .int .i64 v60.2) rfl rfl rfl (evn ?_))))))
                      refine ls_keep [(1, .arg a1.length (a1.flatMap c83_a)), (2, .arg a2.length (a2.flatMap ci64)), (3, .box [.int .i64 a0.1, .arg a0.2.1.length (a0.2.1.flatMap c171_a), .arg a0.2.2.length (a0.2.2.flatMap ci64)]), (8, .own 3 v17.length (v17.flatMap ci64)), (12, .own 3 v60.1.length (v60.1.flatMap ci64)), (14, .int .i64 v60.2), (93, .bool (v62 != v60.2))] ⟨kr, kr, kr, kr, kr, kr, kr, trivial⟩ rfl ?_
                      rcases cond_some h with ⟨g67, h⟩ | ⟨g67, h⟩
                      · refine ls_cT rfl g67 ?_
                        refine ls_rs tbOk ?_
                        refine evs (ev_ac rfl nofun rfl (evn ?_))
                        refine ls_keep [(6, .bool false)] ⟨kr, trivial⟩ rfl ?_
                        refine ls_ret ?_
                        have hr := Option.some.inj h
                        rw [← hr]
                        exact ⟨.inl rfl, rfl⟩
                      · refine ls_cF rfl g67 ?_
                        refine ls_skip ?_
                        refine hK66 _ (ls_keep [(1, .arg a1.length (a1.flatMap c83_a)), (2, .arg a2.length (a2.flatMap ci64)), (3, .box [.int .i64 a0.1, .arg a0.2.1.length (a0.2.1.flatMap c171_a), .arg a0.2.2.length (a0.2.2.flatMap ci64)]), (8, .own 3 v17.length (v17.flatMap ci64)), (12, .own 3 v60.1.length (v60.1.flatMap ci64)), (14, .int .i64 v60.2)] ⟨kr, kr, kr, kr, kr, kr, trivial⟩ rfl ?_)
                        refine ls_rs tbOk ?_
                        refine evs (ev_ldB (off := 0) (v := .agg [.int .i64 a0.1, .arg a0.2.1.length (a0.2.1.flatMap c171_a), .arg a0.2.2.length (a0.2.2.flatMap ci64)]) rfl rfl rfl rfl (Nat.le_of_ble_eq_true rfl) rfl (?_))
                        obtain ⟨v68, g69, h⟩ := ob_some h
                        refine evs (ev_call (era rfl (erg (erc rfl (erc (erG ec171_a _) (erc (erG eci64 _) rfl)))) eran) (laws_toQuery_s g69) (evs (ev_mv (c := .arg a1.length (a1.flatMap c83_a)) rfl rfl rfl (?_))))
                        obtain ⟨v70, g71, h⟩ := ob_some h
                        refine evs (ev_call (era rfl (erG ec83_a _) eran) (laws_toFunctionalDependencyS_s g71) (evs (ev_mv (c := .arg a2.length (a2.flatMap ci64)) rfl rfl rfl (?_))))
                        obtain ⟨v72, g73, h⟩ := ob_some h
                        refine evs (ev_call (era rfl (erG eci64 _) eran) (laws_toIntS_s g73) (?_))
                        obtain ⟨v74, g75, h⟩ := ob_some h
                        refine evs (ev_call (era rfl (erg (erc rfl (erc (erO ec150_o _) (erc (erO eci64 _) rfl)))) (era rfl (erO ec86_o _) (era rfl (erO eci64 _) eran))) (impl_FDClosure_s g75) (evs (ev_as (c := .own 3 v74.length (v74.flatMap ci64)) rfl rfl rfl (evn ?_))))
                        refine ls_keep [(8, .own 3 v17.length (v17.flatMap ci64)), (12, .own 3 v60.1.length (v60.1.flatMap ci64)), (14, .int .i64 v60.2), (16, .own 3 v74.length (v74.flatMap ci64))] ⟨kr, kr, kr, kr, trivial⟩ rfl ?_
                        refine ls_seq_k fun K76 hK76 => ?_
                        refine ls_rs tbOk ?_
                        refine evs (ev_mv (c := .own 3 v74.length (v74.flatMap ci64)) rfl rfl rfl (evs (ev_mv (c := .own 3 v17.length (v17.flatMap ci64)) rfl rfl rfl (?_))))
                        obtain ⟨v77, g78, h⟩ := ob_some h
                        refine evs (ev_call (era rfl (erD eci64 _) (era rfl (erD eci64 _) eran)) (laws_eqIntS_s g78) (evs (ev_un (c1 := .bool v77) rfl trivial (evn ?_))))
                        refine ls_keep [(12, .own 3 v60.1.length (v60.1.flatMap ci64)), (14, .int .i64 v60.2), (104, .bool (!v77))] ⟨kr, kr, kr, trivial⟩ rfl ?_
                        rcases cond_some h with ⟨g79, h⟩ | ⟨g79, h⟩
                        · refine ls_cT rfl g79 ?_
                          refine ls_rs tbOk ?_
                          refine evs (ev_ac rfl nofun rfl (evn ?_))
                          refine ls_keep [(6, .bool false)] ⟨kr, trivial⟩ rfl ?_
                          refine ls_ret ?_
                          have hr := Option.some.inj h
                          rw [← hr]
                          exact ⟨.inl rfl, rfl⟩
                        · refine ls_cF rfl g79 ?_
                          refine ls_skip ?_
                          refine hK76 _ (ls_keep [(12, .own 3 v60.1.length (v60.1.flatMap ci64)), (14, .int .i64 v60.2)] ⟨kr, kr, trivial⟩ rfl ?_)
                          refine ls_rs tbOk ?_
                          refine evs (ev_ac rfl nofun rfl (evn ?_))
                          refine ls_keep [(12, .own 3 v60.1.length (v60.1.flatMap ci64)), (14, .int .i64 v60.2), (15, .int .i64 1)] ⟨kr, kr, kr, trivial⟩ rfl ?_
                          refine ls_rs tbOk ?_
                          refine evs (ev_mv (c := .own 3 v60.1.length (v60.1.flatMap ci64)) rfl rfl rfl (evs (ev_mv (c := .int .i64 1) rfl rfl rfl (?_))))
                          obtain ⟨v80, g81, h⟩ := ob_some h
                          refine evs (ev_call (era rfl (erD eci64 _) (era rfl rfl eran)) (laws_heldIntS_s g81) (evs (ev_as (c := .int .i64 v80) rfl rfl rfl (evn ?_))))
                          refine ls_keep [(14, .int .i64 v60.2), (15, .int .i64 v80)] ⟨kr, kr, trivial⟩ rfl ?_
                          refine ls_seq_k fun K82 hK82 => ?_
                          refine ls_rs tbOk ?_
                          refine evs (ev_mv (c := .int .i64 v80) rfl rfl rfl (evs (ev_bin (c1 := .int .i64 v80) (c2 := .int .i64 0) rfl rfl rfl (evn ?_))))
                          refine ls_keep [(14, .int .i64 v60.2), (15, .int .i64 v80), (109, .bool (decide (v80 < 0)))] ⟨kr, kr, kr, trivial⟩ rfl ?_
                          rcases cond_some h with ⟨g83, h⟩ | ⟨g83, h⟩
                          · refine ls_cT rfl g83 ?_
                            refine ls_rs tbOk ?_
                            refine evs (ev_ac rfl nofun rfl (evn ?_))
                            refine ls_keep [(6, .bool false)] ⟨kr, trivial⟩ rfl ?_
                            refine ls_ret ?_
                            have hr := Option.some.inj h
                            rw [← hr]
                            exact ⟨.inl rfl, rfl⟩
                          · refine ls_cF rfl g83 ?_
                            refine ls_skip ?_
                            refine hK82 _ (ls_keep [(14, .int .i64 v60.2), (15, .int .i64 v80)] ⟨kr, kr, trivial⟩ rfl ?_)
                            refine ls_seq_k fun K84 hK84 => ?_
                            refine ls_rs tbOk ?_
                            refine evs (ev_mv (c := .int .i64 v80) rfl rfl rfl (evs (ev_mv (c := .int .i64 v60.2) rfl rfl rfl (evs (ev_bin (c1 := .int .i64 v80) (c2 := .int .i64 v60.2) rfl rfl rfl (evn ?_))))))
                            refine ls_keep [(112, .bool (v80 != v60.2))] ⟨kr, trivial⟩ rfl ?_
                            rcases cond_some h with ⟨g85, h⟩ | ⟨g85, h⟩
                            · refine ls_cT rfl g85 ?_
                              refine ls_rs tbOk ?_
                              refine evs (ev_ac rfl nofun rfl (evn ?_))
                              refine ls_keep [(6, .bool false)] ⟨kr, trivial⟩ rfl ?_
                              refine ls_ret ?_
                              have hr := Option.some.inj h
                              rw [← hr]
                              exact ⟨.inl rfl, rfl⟩
                            · refine ls_cF rfl g85 ?_
                              refine ls_skip ?_
                              refine hK84 _ (ls_keep [] trivial rfl ?_)
                              refine ls_rs tbOk ?_
                              refine evs (ev_ac rfl nofun rfl (evn ?_))
                              refine ls_keep [(6, .bool true)] ⟨kr, trivial⟩ rfl ?_
                              refine ls_ret ?_
                              have hr := Option.some.inj h
                              rw [← hr]
                              exact ⟨.inl rfl, rfl⟩
end Go.Proofs.Ytkmkbpphdalgoaa
