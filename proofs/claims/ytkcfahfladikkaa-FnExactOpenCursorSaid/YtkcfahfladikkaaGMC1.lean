/-
  Functions of the program as typed functions, printed by gen.py, and that the program's functions do what they say. No conditions.
-/
import Derived.Test.YtkcfahfladikkaaKb
import Derived.Test.YtkcfahfladikkaaLit2C1
namespace Go.Proofs.Ytkcfahfladikkaa
open Go.RowKit
set_option linter.unusedVariables false
set_option maxRecDepth 100000
set_option maxHeartbeats 1000000
def laws_markText_B1  (rec : (Int × (List UInt8)) → Option ((List UInt8))) (s : Int × (List UInt8)) : Option ((List UInt8)) := match s with
  | (y1, y2) => cond (decide (0 < y1)) (chk (List.length (bytesOf [IntKind.u8.wrap (IntKind.i64.wrap (48 + (Int.tmod y1 10)))]) + List.length y2 ≤ lim) (rec ((IntKind.i64.wrap (Int.tdiv y1 10)), ((bytesOf [IntKind.u8.wrap (IntKind.i64.wrap (48 + (Int.tmod y1 10)))]) ++ y2)))) (some y2)
def laws_markText (a0 : Int) : Option ((List UInt8)) := cond (decide (a0 ≤ 0)) (some [109, 48]) (obind (loopF laws_markText_B1 fz (a0, [])) fun z4 => chk (List.length [109] + List.length z4 ≤ lim) (some ([109] ++ z4)))
theorem laws_markText_s {a0 : Int} {r : (List UInt8)} (h : laws_markText a0 = some r) : SoundAt Try.prog 177 [nI a0] (.str r) := by
  unfold laws_markText at h
  refine sound_lit tbOk lit177 (nb rfl) rfl ?_
  unfold c177
  refine ls_keep [(0, nI a0)] ⟨kr, trivial⟩ rfl ?_
  refine ls_rs tbOk ?_
  refine evs (ev_ac rfl nofun rfl (evn ?_))
  refine ls_keep [(0, nI a0)] ⟨kr, trivial⟩ rfl ?_
  refine ls_seq_k fun K1 hK1 => ?_
  refine ls_rs tbOk ?_
  refine evs (ev_mv (c := nI a0) rfl rfl rfl (evs (ev_bin (c1 := nI a0) (c2 := nI 0) rfl rfl rfl (evn ?_))))
  refine ls_keep [(0, nI a0), (5, .bool (decide (a0 ≤ 0)))] ⟨kr, kr, trivial⟩ rfl ?_
  rcases cond_some h with ⟨g2, h⟩ | ⟨g2, h⟩
  · refine ls_cT rfl g2 ?_
    refine ls_rs tbOk ?_
    refine evs (ev_ac rfl nofun rfl (evn ?_))
    refine ls_keep [(2, .str [109, 48])] ⟨kr, trivial⟩ rfl ?_
    refine ls_ret ?_
    have hr := Option.some.inj h
    rw [← hr]
    exact ⟨.inl rfl, rfl⟩
  · refine ls_cF rfl g2 ?_
    refine ls_skip ?_
    refine hK1 _ (ls_keep [(0, nI a0)] ⟨kr, trivial⟩ rfl ?_)
    refine ls_rs tbOk ?_
    refine evs (ev_ac rfl nofun rfl (evn ?_))
    refine ls_keep [(0, nI a0), (3, .str [])] ⟨kr, kr, trivial⟩ rfl ?_
    refine ls_seq_k fun K3 hK3 => ?_
    obtain ⟨o1, hl, hr1⟩ := ob_some h
    clear h
    have kXlaws_markText_B1 : ∀ (z4 : List UInt8), (chk (List.length [109] + List.length z4 ≤ lim) (some ([109] ++ z4))) = some r → ∀ σ' : PS, okK σ' [(3, .str z4)] → K3 σ' := by
      intro z4 h σ' hk
      refine hK3 _ (ls_keep [(3, .str z4)] hk rfl ?_)
      refine ls_rs tbOk ?_
      refine evs (ev_mv (c := .str z4) rfl rfl rfl (?_))
      obtain ⟨g8, h⟩ := chk_some h
      refine evs (ev_bin (c1 := .str [109]) (c2 := .str z4) rfl rfl g8 (evs (ev_as (c := .str ([109] ++ z4)) rfl rfl rfl (evn ?_))))
      refine ls_keep [(2, .str ([109] ++ z4))] ⟨kr, trivial⟩ rfl ?_
      refine ls_ret ?_
      have hr := Option.some.inj h
      rw [← hr]
      exact ⟨.inl rfl, rfl⟩
    refine ls_rec (fun (s : Int × (List UInt8)) => match s with | (y1, y2) => [(0, nI y1), (3, .str y2)]) laws_markText_B1 fz (a0, []) o1 hl ⟨kr, kr, trivial⟩ (fun _ => rfl) ?_
    rintro m ⟨y1, y2⟩ N h hN
    unfold laws_markText_B1 at h
    dsimp only at h
    refine ls_seq_k fun K5 hK5 => ?_
    refine ls_rs tbOk ?_
    refine evs (ev_mv (c := nI y1) rfl rfl rfl (evs (ev_bin (c1 := nI y1) (c2 := nI 0) rfl rfl rfl (evn ?_))))
    refine ls_keep [(0, nI y1), (3, .str y2), (7, .bool (decide (0 < y1)))] ⟨kr, kr, kr, trivial⟩ rfl ?_
    rcases cond_some h with ⟨g6, h⟩ | ⟨g6, h⟩
    · refine ls_cT rfl g6 ?_
      refine ls_skip ?_
      refine hK5 _ (ls_keep [(0, nI y1), (3, .str y2)] ⟨kr, kr, trivial⟩ rfl ?_)
      refine ls_blk ?_
      refine ls_rs tbOk ?_
      refine evs (ev_mv (c := nI y1) rfl rfl rfl (evs (ev_bin (c1 := nI y1) (c2 := nI 10) rfl rfl ⟨rfl, by decide⟩ (evs (ev_bin (c1 := nI 48) (c2 := nI (Int.tmod y1 10)) rfl rfl rfl (evs (ev_cvi rfl rfl rfl (evs (ev_bs [.int .u8 (IntKind.u8.wrap (IntKind.i64.wrap (48 + (Int.tmod y1 10))))] (cs := [.int .u8 (IntKind.u8.wrap (IntKind.i64.wrap (48 + (Int.tmod y1 10))))]) rfl ⟨rfl, trivial⟩ rfl (nb rfl) rfl (evs (ev_cvs (l := [IntKind.u8.wrap (IntKind.i64.wrap (48 + (Int.tmod y1 10)))]) rfl rfl rfl rfl (evs (ev_mv (c := .str y2) rfl rfl rfl (?_))))))))))))))
      obtain ⟨g7, h⟩ := chk_some h
      refine evs (ev_bin (c1 := .str (bytesOf [IntKind.u8.wrap (IntKind.i64.wrap (48 + (Int.tmod y1 10)))])) (c2 := .str y2) rfl rfl g7 (evs (ev_as (c := .str ((bytesOf [IntKind.u8.wrap (IntKind.i64.wrap (48 + (Int.tmod y1 10)))]) ++ y2)) rfl rfl rfl (evn ?_))))
      refine ls_keep [(0, nI y1), (3, .str ((bytesOf [IntKind.u8.wrap (IntKind.i64.wrap (48 + (Int.tmod y1 10)))]) ++ y2))] ⟨kr, kr, trivial⟩ rfl ?_
      refine ls_rgn tbOk ?_
      refine evs (ev_mv (c := nI y1) rfl rfl rfl (evs (ev_bin (c1 := nI y1) (c2 := nI 10) rfl rfl ⟨rfl, by decide⟩ (evs (ev_as (c := nI (IntKind.i64.wrap (Int.tdiv y1 10))) rfl rfl rfl (evn ?_))))))
      exact hN _ ((IntKind.i64.wrap (Int.tdiv y1 10)), ((bytesOf [IntKind.u8.wrap (IntKind.i64.wrap (48 + (Int.tmod y1 10)))]) ++ y2)) h ⟨kr, kr, trivial⟩
    · refine ls_cF rfl g6 ?_
      refine ls_exit ?_
      have q0 := (Option.some.inj h).symm
      have r0 := hr1
      rw [q0] at r0
      exact kXlaws_markText_B1 y2 r0 _ ⟨kr, trivial⟩
end Go.Proofs.Ytkcfahfladikkaa
