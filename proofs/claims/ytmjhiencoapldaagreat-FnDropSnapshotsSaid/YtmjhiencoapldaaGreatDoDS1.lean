/-
  DropSnapshots holds. Conditions: none.
-/
import Derived.Test.YtmjhiencoapldaaGreatDhDS1
import Derived.Test.YtmjhiencoapldaaGreatDlDS1
import Derived.Test.YtmjhiencoapldaaGreatSpDS1
import Derived.Test.YtmjhiencoapldaaGreatHpDS1
-- pure
namespace Go.Proofs.YtmjhiencoapldaaGreat
open Go.RowKit
set_option linter.unusedVariables false
set_option linter.unusedSimpArgs false
theorem s_deo {q : Qry} (hv : qryB q = true) : ∃ o, spec_DefaultOrder q = some o ∧ o.length ≤ lim := by
  have hq := qry_sm hv
  have hn := qry_n hv
  obtain ⟨n, e⟩ : ∃ n : Nat, q.1 = (n : Int) := ⟨q.1.toNat, by omega⟩
  refine ⟨(List.range n).map fun (i : Nat) => (i : Int), ?_, by rw [List.length_map, List.length_range]; unfold lim; omega⟩
  unfold spec_DefaultOrder
  have := loop_to (body := spec_DefaultOrder_B1 q) (out := (List.range n).map fun (i : Nat) => (i : Int)) (fun k => ((List.range k).map fun (i : Nat) => (i : Int), (k : Int))) n (fun k hk rec => by
    unfold spec_DefaultOrder_B1
    simp only
    rw [e, lt_dec hk]
    simp only [cond_true, s_query hq, obind, hv]
    rw [chk_pos (by rw [List.length_map, List.length_range, List.length_singleton]; unfold lim; omega), wrap_in (by omega), List.range_succ, List.map_append]
    rfl) (fun rec => by unfold spec_DefaultOrder_B1; simp only; rw [e, nlt_dec]; rfl) fz (by unfold fz; omega)
  have h2 : loopF (spec_DefaultOrder_B1 q) fz (([] : List Int), 0) = some ((List.range n).map fun (i : Nat) => (i : Int)) := this
  rw [h2]; rfl
theorem open_ok {c : Cur} (hc : CurOk c) {h : Hst} (hs : smHist h) : Dr (spec_l33Open c h) fun x => smC x := by
  unfold spec_l33Open
  obtain ⟨q, c1, e1, hq, hc1⟩ := qry_ok hc
  obtain ⟨o, eo, ho⟩ := s_deo hq
  have hqs := qry_sm hq
  have ho2 := oc_sm (h := h) hqs ho
  obtain ⟨n, c2, e2, hn, hc2⟩ := below_ok hc1 (n := 3) (by omega) (by omega)
  rw [e1]
  simp only [obind, eo, s_oc hs hqs ho, e2]
  obtain ⟨x, ex, hx⟩ := loop_wh (B := spec_l33Open_B1 h) (fun s => smC (s.1, s.2.1, s.2.2.1, s.2.2.2.1, s.2.2.2.2.1, s.2.2.2.2.2.1) ∧ 0 ≤ s.2.2.2.2.2.2 ∧ s.2.2.2.2.2.2 ≤ 3) (fun s => s.2.2.2.2.2.2.toNat) (fun o => smC o) (by
    rintro ⟨y1, y2, y3, y4, y5, y6, y7⟩ ⟨h1, h2, h3⟩
    simp only at h1 h2 h3
    by_cases h0 : 0 < y7
    · right
      have hsm := ad_sm (h := h) h1
      refine ⟨((cadB h (y1, y2, y3, y4, y5, y6)).1.1, (cadB h (y1, y2, y3, y4, y5, y6)).1.2.1, (cadB h (y1, y2, y3, y4, y5, y6)).1.2.2.1, (cadB h (y1, y2, y3, y4, y5, y6)).1.2.2.2.1, (cadB h (y1, y2, y3, y4, y5, y6)).1.2.2.2.2.1, (cadB h (y1, y2, y3, y4, y5, y6)).1.2.2.2.2.2, y7 - 1), ⟨hsm, by simp only; omega, by simp only; omega⟩, by simp only; omega, fun rec => ?_⟩
      unfold spec_l33Open_B1
      simp only
      rw [decide_eq_true h0, s_adv hs h1, wrap_in (by omega)]
      rfl
    · left
      refine ⟨(y1, y2, y3, y4, y5, y6), h1, fun rec => ?_⟩
      unfold spec_l33Open_B1
      simp only
      rw [decide_eq_false h0]
      rfl) fz ((ocB h q o).1.1, (ocB h q o).1.2.1, (ocB h q o).1.2.2.1, (ocB h q o).1.2.2.2.1, (ocB h q o).1.2.2.2.2.1, (ocB h q o).1.2.2.2.2.2, n) ⟨ho2, by simp only; omega, by simp only; omega⟩ (by simp only; unfold fz; omega)
  rw [ex]
  obtain ⟨z1, z2, z3, z4, z5, z6⟩ := x
  simp only
  obtain ⟨b, c3, e3, _, hc3⟩ := once_ok hc2 (n := 4) (by omega) (by omega)
  rw [e3]
  simp only
  cases b with
  | true =>
    obtain ⟨m, c4, e4, hm, hc4⟩ := below_ok hc3 (n := 3) (by omega) (by omega)
    simp only [cond_true, e4, spec_l33Open_J2]
    exact ⟨_, _, rfl, ⟨hx.1, hx.2.1, hx.2.2⟩, hc4⟩
  | false =>
    simp only [cond_false, spec_l33Open_J2]
    exact ⟨_, _, rfl, ⟨hx.1, hx.2.1, hx.2.2⟩, hc3⟩
theorem draw_du {b : List Int} (h : b.length ≤ 1048576) : ∃ g l, spec_DrawDropUnusedSnapshots b = some (g, l) ∧ HsD g ∧ l.length ≤ lim := by
  unfold spec_DrawDropUnusedSnapshots
  obtain ⟨c, e, hc⟩ := new_ok h
  rw [e]
  simp only [obind]
  obtain ⟨g, c1, e1, hg, hc1⟩ := hist_ok hc
  rw [e1]
  obtain ⟨n, c2, e2, hn, hc2⟩ := below_ok hc1 (n := 3) (by omega) (by omega)
  simp only [e2]
  obtain ⟨x, ex, hx⟩ := loop_wh (B := spec_DrawDropUnusedSnapshots_B1 (g, c1)) (fun s => CurOk (s.2.2.1, s.2.2.2.1, s.2.2.2.2) ∧ 0 ≤ s.2.1 ∧ (s.1.length : Int) + s.2.1 ≤ 3) (fun s => s.2.1.toNat) (fun o => o.length ≤ 3) (by
    rintro ⟨y1, y2, y3, y4, y5⟩ ⟨h1, h2, h3⟩
    simp only at h1 h2 h3
    by_cases h0 : 0 < y2
    · right
      obtain ⟨v, c4, e4, hv, hc4⟩ := open_ok h1 hg.sm
      refine ⟨(y1 ++ [v], y2 - 1, c4.1, c4.2.1, c4.2.2), ⟨hc4, by simp only; omega, by simp only [List.length_append, List.length_singleton]; omega⟩, by simp only; omega, fun rec => ?_⟩
      unfold spec_DrawDropUnusedSnapshots_B1
      simp only
      rw [decide_eq_true h0, e4]
      simp only [cond_true, obind]
      rw [chk_pos (by simp only [List.length_singleton]; unfold lim; omega), wrap_in (by omega)]
    · left
      refine ⟨y1, by omega, fun rec => ?_⟩
      unfold spec_DrawDropUnusedSnapshots_B1
      simp only
      rw [decide_eq_false h0]
      rfl) fz (([] : List Csr), n, c2.1, c2.2.1, c2.2.2) ⟨hc2, by simp only; omega, by simp only [List.length_nil]; omega⟩ (by simp only; unfold fz; omega)
  have ex2 : loopF (spec_DrawDropUnusedSnapshots_B1 (g, c1)) fz (([] : List Csr), n, c2.1, c2.2.1, c2.2.2) = some x := ex
  rw [ex2]
  exact ⟨g, x, rfl, hg, by unfold lim; omega⟩
theorem draw_io {b : List Int} (h : b.length ≤ 1048576) : ∃ q o, spec_DrawIsValidOrder b = some (q, o) ∧ smQ q ∧ o.length ≤ lim := by
  unfold spec_DrawIsValidOrder
  obtain ⟨c, e, hc⟩ := new_ok h
  rw [e]
  simp only [obind]
  obtain ⟨q, c1, e1, hq, hc1⟩ := qany_ok hc
  rw [e1]
  simp only
  obtain ⟨o, c2, e2, ho, hc2⟩ := ord_ok hc1 q
  rw [e2]
  exact ⟨q, o, rfl, hq.sm, by unfold lim; omega⟩
theorem law_FnDropSnapshots {b : List Int} (k : ok22 b) : laws_FnDropSnapshots b = some true := by
  by_cases hb : 1048576 < b.length
  · unfold laws_FnDropSnapshots laws_big
    rw [decide_eq_true (by omega : (1048576 : Int) < (b.length : Int))]
    rfl
  unfold laws_FnDropSnapshots laws_big
  rw [decide_eq_false (by omega : ¬ (1048576 : Int) < (b.length : Int))]
  simp only [obind, cond_false]
  obtain ⟨h, l, e, hh, hl⟩ := draw_du (b := b) (by omega)
  obtain ⟨q, o, e2, hq, ho⟩ := draw_io (b := b) (by omega)
  have hg := du_sm (l := l) hh.sm
  rw [e]
  simp only [i_du hh.sm hl, s_du hh.sm hl, s_hist hh.sm]
  cases hv : histB h with
  | false =>
    have e3 : duB h l = h := by unfold duB; rw [hv]; rfl
    simp only [Bool.not_false, cond_true, e3, s_histEq hh.sm]
  | true =>
    obtain ⟨f1, f2, f3, f4⟩ := du_facts (l := l) hv
    have hi := hist_in hv
    have hi2 := hist_in f1
    simp only [Bool.not_true, cond_false]
    have hloop : loopF (laws_FnDropSnapshots_B1 (h, l) (duB h l)) fz 0 = some (.inl ()) := by
      have := loop_to (body := laws_FnDropSnapshots_B1 (h, l) (duB h l)) (out := (.inl () : Sum Unit Bool)) (fun k => (k : Int)) l.length (fun k hk rec => by
        unfold laws_FnDropSnapshots_B1
        simp only
        rw [lt_dec hk, geti_at hk]
        simp only [cond_true, obind, (sn_both hh.sm _).1, (sn_both hg _).2, f4 _ (List.getElem_mem hk), BEq.rfl, Bool.not_true, cond_false, laws_FnDropSnapshots_J2, wrap_s hk (lim_max hl), s_dbEq (sn_sm hh.sm _), dbEq_self]
        cases (snB h l[k].1).2 <;> rfl) (fun rec => by unfold laws_FnDropSnapshots_B1; simp only; rw [nlt_dec]; rfl) fz (lt_fz hl)
      exact this
    rw [hloop]
    have eN : IntKind.i64.wrap ((IntKind.i64.wrap (h.1 + (h.2.length : Int))) - 1) = h.1 + (h.2.length : Int) - 1 := by
      rw [wrap_in (n := h.1 + (h.2.length : Int)) (by omega), wrap_in (by omega)]
    simp only [e2, i_oc hh.sm hq ho, eN, (sn_both hh.sm _).1, s_histEq hg, cond_true, decide_eq_true (show (1 : Int) ≤ ((duB h l).2.length : Int) by omega), f3, BEq.rfl]
    have hsmall : laws_small (snB h (h.1 + (h.2.length : Int) - 1)).1 q o = some (qforB (snB h (h.1 + (h.2.length : Int) - 1)).1 q && ordB q o) := by
      unfold laws_small laws_small_J1
      simp only [s_qfor (sn_sm hh.sm _) hq, s_order hq ho, obind]
      cases qforB (snB h (h.1 + (h.2.length : Int) - 1)).1 q <;> rfl
    rw [hsmall]
    unfold ocB
    rw [hv]
    simp only [Bool.true_and, obind]
    cases (qforB (snB h (h.1 + (h.2.length : Int) - 1)).1 q && ordB q o) with
    | false => rfl
    | true =>
      simp only [cond_true, BEq.rfl, Bool.not_true, cond_false, laws_FnDropSnapshots_J3, List.length_nil]
      rfl
end Go.Proofs.YtmjhiencoapldaaGreat
