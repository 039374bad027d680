/-
  What is drawn: databases and queries that may fail, orders. On the printed functions; conditions: the code's length.
-/
import Derived.Test.YtcoalfphehhadaaDsSS1
import Derived.Test.YtcoalfphehhadaaDqSS1
import Derived.Test.YtcoalfphehhadaaTtSS1
-- pure
namespace Go.Proofs.Ytcoalfphehhadaa
open Go.RowKit
set_option linter.unusedVariables false
set_option linter.unusedSimpArgs false
/-- any database that is drawn -/
def AnyDb (d : List Tbl) : Prop := d.length ≤ 6 ∧ ∀ t ∈ d, t.1.length ≤ 10 ∧ smRows t.2.2
theorem AnyDb.sm {d : List Tbl} (h : AnyDb d) : smDb d := ⟨by have := h.1; unfold lim; omega, fun t ht => ⟨by have := (h.2 t ht).1; unfold lim; omega, (h.2 t ht).2⟩⟩
theorem DbD.any {d : List Tbl} (h : DbD d) : AnyDb d := ⟨by have := h.1; omega, fun t ht => by
  obtain ⟨h1, k, h2, h3, h4⟩ := h.2 t ht
  exact ⟨h1, rows_smD h4 h3⟩⟩
section
variable {c : Cur}
theorem dany_ok (h : CurOk c) : Dr (spec_l6Any c) fun d => AnyDb d := by
  unfold spec_l6Any
  obtain ⟨d, c1, e1, ⟨hl, hd⟩, hc1⟩ := db_ok h
  have ha := hd.any
  rw [e1]
  simp only [obind]
  obtain ⟨k, c2, e2, hk, hc2⟩ := below_ok hc1 (n := 5) (by omega) (by omega)
  rw [e2]
  simp only
  obtain ⟨w, c3, e3, _, hc3⟩ := below_ok hc2 (n := 14) (by omega) (by omega)
  rw [e3]
  simp only
  have hg : geti d k = some (d[k.toNat]'(by omega)) := by unfold geti; rw [if_pos hk.1, List.getElem?_eq_getElem]
  have hm := ha.2 _ (List.getElem_mem (by omega : k.toNat < d.length))
  have hset : ∀ t : Tbl, t.1.length ≤ 10 → smRows t.2.2 → AnyDb (seti d k t) := fun t h1 h2 => by
    refine ⟨by unfold seti; rw [List.length_set]; exact ha.1, fun x hx => ?_⟩
    unfold seti at hx
    rcases List.mem_or_eq_of_mem_set hx with h3 | rfl
    · exact ha.2 x h3
    · exact ⟨h1, h2⟩
  cases (w == 0) with
  | true =>
    simp only [cond_true]
    rw [chk_pos (by omega)]
    obtain ⟨s, c4, e4, hs, hc4⟩ := pick_ok hc3 (l := [[], [82], [97, 98, 99, 100, 101], [97], [122]]) (by simp) (by simp)
    have hs' : s.length ≤ 10 := by simp at hs; rcases hs with rfl | rfl | rfl | rfl | rfl <;> simp
    rw [e4]
    simp only [hg]
    exact ⟨_, _, rfl, hset _ hs' hm.2, hc4⟩
  | false =>
    simp only [cond_false]
    cases (w == 1) with
    | true =>
      simp only [cond_true]
      rw [chk_pos (by omega)]
      obtain ⟨r, c4, e4, hr, hc4⟩ := any_ok hc3
      rw [e4]
      simp only [hg]
      exact ⟨_, _, rfl, hset _ hm.1 hr.sm, hc4⟩
    | false =>
      simp only [cond_false]
      cases (w == 2) with
      | true =>
        simp only [cond_true, hg]
        rw [chk_pos (by omega), chk_pos (by unfold lim; simp only [List.length_singleton]; omega)]
        refine ⟨_, _, rfl, ⟨by simp only [List.length_append, List.length_singleton]; omega, fun x hx => ?_⟩, hc3⟩
        rcases List.mem_append.1 hx with h3 | h3
        · exact ha.2 x h3
        · rw [List.mem_singleton] at h3; subst h3; exact hm
      | false =>
        simp only [cond_false]
        cases (w == 3) with
        | true =>
          simp only [cond_true]
          rw [chk_pos (by omega)]
          refine ⟨_, _, rfl, ⟨?_, fun x hx => ?_⟩, hc3⟩
          · unfold subl
            rw [List.length_drop, List.length_take]; omega
          · unfold subl at hx
            exact ha.2 x (List.mem_of_mem_take (List.mem_of_mem_drop hx))
        | false => exact ⟨_, _, rfl, ha, hc3⟩
/-- a number that is not yet there -/
theorem free_ok {n : Int} {l : List Int} (h : (l.length : Int) < n) : ∃ v : Int, 0 ≤ v ∧ v < n ∧ v ∉ l := by
  apply Classical.byContradiction
  intro hc
  have hall : ∀ v : Int, 0 ≤ v → v < n → v ∈ l := fun v h0 h1 => by
    apply Classical.byContradiction
    intro h2
    exact hc ⟨v, h0, h1, h2⟩
  have := nd_len (l := (List.range n.toNat).map fun (k : Nat) => (k : Int)) (m := l) (by
    rw [List.nodup_iff_pairwise_ne, List.pairwise_map]
    exact (List.nodup_iff_pairwise_ne.1 List.nodup_range).imp fun h e => h (Int.ofNat.inj e)) (fun x hx => by
    obtain ⟨k, hk, rfl⟩ := List.mem_map.1 hx
    have := List.mem_range.1 hk
    exact hall _ (by omega) (by omega))
  rw [List.length_map, List.length_range] at this
  omega
end
end Go.Proofs.Ytcoalfphehhadaa
