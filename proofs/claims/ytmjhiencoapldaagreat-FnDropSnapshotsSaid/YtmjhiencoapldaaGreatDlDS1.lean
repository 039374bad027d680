/-
  What is drawn: databases and queries that may fail, orders. On the printed functions; conditions: the code's length.
-/
import Derived.Test.YtmjhiencoapldaaGreatDsDS1
import Derived.Test.YtmjhiencoapldaaGreatDqDS1
import Derived.Test.YtmjhiencoapldaaGreatTtDS1
-- pure
namespace Go.Proofs.YtmjhiencoapldaaGreat
open Go.RowKit
set_option linter.unusedVariables false
set_option linter.unusedSimpArgs false
/-- any database that is drawn -/
def AnyDb (d : List Tbl) : Prop := d.length ≤ 6 ∧ ∀ t ∈ d, t.1.length ≤ 10 ∧ smRows t.2.2
theorem AnyDb.sm {d : List Tbl} (h : AnyDb d) : smDb d := ⟨by have := h.1; unfold lim; omega, fun t ht => ⟨by have := (h.2 t ht).1; unfold lim; omega, (h.2 t ht).2⟩⟩
theorem DbD.any {d : List Tbl} (h : DbD d) : AnyDb d := ⟨by have := h.1; omega, fun t ht => by
  obtain ⟨h1, k, h2, h3, h4⟩ := h.2 t ht
  exact ⟨h1, rows_smD h4 h3⟩⟩
section
variable {c : Cur}
theorem dany_ok (h : CurOk c) : Dr (spec_l6Any c) fun d => AnyDb d := by
  unfold spec_l6Any
  obtain ⟨d, c1, e1, ⟨hl, hd⟩, hc1⟩ := db_ok h
  have ha := hd.any
  rw [e1]
  simp only [obind]
  obtain ⟨k, c2, e2, hk, hc2⟩ := below_ok hc1 (n := 5) (by omega) (by omega)
  rw [e2]
  simp only
  obtain ⟨w, c3, e3, _, hc3⟩ := below_ok hc2 (n := 14) (by omega) (by omega)
  rw [e3]
  simp only
  have hg : geti d k = some (d[k.toNat]'(by omega)) := by unfold geti; rw [if_pos hk.1, List.getElem?_eq_getElem]
  have hm := ha.2 _ (List.getElem_mem (by omega : k.toNat < d.length))
  have hset : ∀ t : Tbl, t.1.length ≤ 10 → smRows t.2.2 → AnyDb (seti d k t) := fun t h1 h2 => by
    refine ⟨by unfold seti; rw [List.length_set]; exact ha.1, fun x hx => ?_⟩
    unfold seti at hx
    rcases List.mem_or_eq_of_mem_set hx with h3 | rfl
    · exact ha.2 x h3
    · exact ⟨h1, h2⟩
  cases (w == 0) with
  | true =>
    simp only [cond_true]
    rw [chk_pos (by omega)]
    obtain ⟨s, c4, e4, hs, hc4⟩ := pick_ok hc3 (l := [[], [82], [97, 98, 99, 100, 101], [97], [122]]) (by simp) (by simp)
    have hs' : s.length ≤ 10 := by simp at hs; rcases hs with rfl | rfl | rfl | rfl | rfl <;> simp
    rw [e4]
    simp only [hg]
    exact ⟨_, _, rfl, hset _ hs' hm.2, hc4⟩
  | false =>
    simp only [cond_false]
    cases (w == 1) with
    | true =>
      simp only [cond_true]
      rw [chk_pos (by omega)]
      obtain ⟨r, c4, e4, hr, hc4⟩ := any_ok hc3
      rw [e4]
      simp only [hg]
      exact ⟨_, _, rfl, hset _ hm.1 hr.sm, hc4⟩
    | false =>
      simp only [cond_false]
      cases (w == 2) with
      | true =>
        simp only [cond_true, hg]
        rw [chk_pos (by omega), chk_pos (by unfold lim; simp only [List.length_singleton]; omega)]
        refine ⟨_, _, rfl, ⟨by simp only [List.length_append, List.length_singleton]; omega, fun x hx => ?_⟩, hc3⟩
        rcases List.mem_append.1 hx with h3 | h3
        · exact ha.2 x h3
        · rw [List.mem_singleton] at h3; subst h3; exact hm
      | false =>
        simp only [cond_false]
        cases (w == 3) with
        | true =>
          simp only [cond_true]
          rw [chk_pos (by omega)]
          refine ⟨_, _, rfl, ⟨?_, fun x hx => ?_⟩, hc3⟩
          · unfold subl
            rw [List.length_drop, List.length_take]; omega
          · unfold subl at hx
            exact ha.2 x (List.mem_of_mem_take (List.mem_of_mem_drop hx))
        | false => exact ⟨_, _, rfl, ha, hc3⟩
/-- a number that is not yet there -/
theorem free_ok {n : Int} {l : List Int} (h : (l.length : Int) < n) : ∃ v : Int, 0 ≤ v ∧ v < n ∧ v ∉ l := by
  apply Classical.byContradiction
  intro hc
  have hall : ∀ v : Int, 0 ≤ v → v < n → v ∈ l := fun v h0 h1 => by
    apply Classical.byContradiction
    intro h2
    exact hc ⟨v, h0, h1, h2⟩
  have := nd_len (l := (List.range n.toNat).map fun (k : Nat) => (k : Int)) (m := l) (by
    rw [List.nodup_iff_pairwise_ne, List.pairwise_map]
    exact (List.nodup_iff_pairwise_ne.1 List.nodup_range).imp fun h e => h (Int.ofNat.inj e)) (fun x hx => by
    obtain ⟨k, hk, rfl⟩ := List.mem_map.1 hx
    have := List.mem_range.1 hk
    exact hall _ (by omega) (by omega))
  rw [List.length_map, List.length_range] at this
  omega
theorem step_ok {n y f : Int} {l : List Int} (hn : n ≤ 256) (hl : l.length ≤ lim) (hf : 0 ≤ f ∧ f < n ∧ f ∉ l) (hy : 0 ≤ y ∧ y < n) : ∃ z, loopF (spec_l16Cols_B2 n l) fz y = some z ∧ 0 ≤ z ∧ z < n ∧ z ∉ l := by
  exact loop_wh (B := spec_l16Cols_B2 n l) (fun y => 0 ≤ y ∧ y < n) (fun y => (if y ≤ f then f - y else f - y + n).toNat) (fun z => 0 ≤ z ∧ z < n ∧ z ∉ l) (fun y hy => by
    have e : ∀ rec, spec_l16Cols_B2 n l rec y = cond (l.contains y) (rec (Int.tmod (y + 1) n)) (some y) := fun rec => by
      unfold spec_l16Cols_B2
      rw [s_find hl]
      simp only [obind]
      rw [place_has, chk_pos (by omega), wrap_in ⟨by omega, by omega⟩]
    cases hc : l.contains y with
    | false => exact .inl ⟨y, ⟨hy.1, hy.2, fun hm => by rw [List.contains_iff_mem.2 hm] at hc; cases hc⟩, fun rec => by rw [e, hc]; rfl⟩
    | true =>
      have hne : y ≠ f := fun h => hf.2.2 (by rw [← h]; exact List.contains_iff_mem.1 hc)
      have ht : Int.tmod (y + 1) n = if y + 1 < n then y + 1 else 0 := by
        rw [Int.tmod_eq_emod_of_nonneg (by omega)]
        split
        · exact Int.emod_eq_of_lt (by omega) (by omega)
        · rw [show y + 1 = n by omega]; exact Int.emod_self
      refine .inr ⟨Int.tmod (y + 1) n, ?_, ?_, fun rec => by rw [e, hc]; rfl⟩
      · rw [ht]; split <;> omega
      · rw [ht]
        by_cases h1 : y + 1 < n
        · rw [if_pos h1]
          by_cases h2 : y ≤ f
          · rw [if_pos h2, if_pos (by omega)]; omega
          · rw [if_neg h2, if_neg (by omega)]; omega
        · rw [if_neg h1, if_pos hf.1, if_neg (by omega)]; omega) fz y hy (by unfold fz; split <;> omega)
theorem cols_ok (h : CurOk c) {n : Int} (h0 : 0 ≤ n) (hn : n ≤ 256) : Dr (spec_l16Cols c n) fun l => (l.length : Int) = n := by
  unfold spec_l16Cols
  obtain ⟨o, e, k1, k2⟩ := loop_wh (B := spec_l16Cols_B1 n) (fun s => CurOk (s.1, s.2.1, s.2.2.1) ∧ (s.2.2.2.length : Int) ≤ n) (fun s => (n - s.2.2.2.length).toNat) (fun o => CurOk (o.1, o.2.1, o.2.2.1) ∧ (o.2.2.2.length : Int) = n) (fun s hs => by
    obtain ⟨b, i, hh, l⟩ := s
    obtain ⟨i1, i2⟩ := hs
    simp only at i1 i2
    by_cases h2 : (l.length : Int) < n
    · right
      obtain ⟨v, c', e, hv, hc⟩ := below_ok i1 (n := n) (by omega) hn
      obtain ⟨f, hf⟩ := free_ok h2
      obtain ⟨z, e2, hz⟩ := step_ok (l := l) hn (by unfold lim; omega) hf hv
      refine ⟨(c'.1, c'.2.1, c'.2.2, l ++ [z]), ⟨hc, ?_⟩, ?_, fun rec => ?_⟩
      · simp only [List.length_append, List.length_singleton]; omega
      · simp only [List.length_append, List.length_singleton]; omega
      · simp only [spec_l16Cols_B1]
        rw [decide_eq_true h2, e]
        simp only [cond_true, obind, e2]
        rw [chk_pos (by unfold lim; simp only [List.length_singleton]; omega)]
    · left
      refine ⟨(b, i, hh, l), ⟨i1, by simp only; omega⟩, fun rec => ?_⟩
      simp only [spec_l16Cols_B1]
      rw [decide_eq_false h2]; rfl) fz (c.1, c.2.1, c.2.2, []) ⟨h, by simp only [List.length_nil]; omega⟩ (by unfold fz; simp only [List.length_nil]; omega)
  rw [e]
  exact ⟨_, _, rfl, k2, k1⟩
theorem ord_ok (h : CurOk c) (q : Qry) : Dr (spec_l19Order c q) fun l => l.length ≤ 5 := by
  unfold spec_l19Order
  have hb : 0 ≤ (if 0 < (if q.1 < 5 then q.1 else 5) then (if q.1 < 5 then q.1 else 5) else 0) ∧ (if 0 < (if q.1 < 5 then q.1 else 5) then (if q.1 < 5 then q.1 else 5) else 0) ≤ 5 := by
    split
    · rename_i h1; refine ⟨by omega, ?_⟩; split <;> omega
    · omega
  generalize (if 0 < (if q.1 < 5 then q.1 else 5) then (if q.1 < 5 then q.1 else 5) else 0) = n at hb ⊢
  obtain ⟨l, c1, e1, hl, hc1⟩ := cols_ok h hb.1 (by omega)
  rw [e1]
  simp only [obind]
  cases hp : decide (0 < (l.length : Int)) with
  | false => exact ⟨_, _, rfl, (by show l.length ≤ 5; omega), hc1⟩
  | true =>
    have hp := of_decide_eq_true hp
    simp only [cond_true]
    obtain ⟨w, c2, e2, _, hc2⟩ := once_ok hc1 (n := 14) (by omega) (by omega)
    rw [e2]
    cases w with
    | false => exact ⟨_, _, rfl, (by show l.length ≤ 5; omega), hc2⟩
    | true =>
      simp only [spec_l19Order_J1, cond_true]
      obtain ⟨v, c3, e3, _, hc3⟩ := below_ok hc2 (n := 6) (by omega) (by omega)
      rw [chk_pos (by omega), e3]
      have g0 : geti l 0 = some (l[0]'(by omega)) := geti_at (k := 0) (by omega)
      simp only [obind, g0]
      exact ⟨_, _, rfl, (by show (seti l 0 v).length ≤ 5; unfold seti; rw [List.length_set]; omega), hc3⟩
end
end Go.Proofs.YtmjhiencoapldaaGreat
