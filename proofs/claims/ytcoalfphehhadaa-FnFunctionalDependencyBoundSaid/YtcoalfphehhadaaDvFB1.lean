/-
  DependencyViolation holds. Conditions: none.
-/
import Derived.Test.YtcoalfphehhadaaDrFB1
import Derived.Test.YtcoalfphehhadaaHpFB1
-- pure
namespace Go.Proofs.Ytcoalfphehhadaa
open Go.RowKit
set_option linter.unusedVariables false
set_option linter.unusedSimpArgs false
section
variable {c : Cur}
theorem fdb_inner {d : List Tbl} {i : Int} {t : Tbl} (hg : geti d i = some t) (ht : TblD t) : ∃ l k, loopF (spec_l37Db_B3 d i) fz ([], 0) = some l ∧ 2 ≤ k ∧ k ≤ 1000 ∧ RowsD k l := by
  obtain ⟨h1, k, h2, h3, h4⟩ := ht
  obtain ⟨o, e, r1, r2⟩ := loop_wh (B := spec_l37Db_B3 d i) (fun s => 0 ≤ s.2 ∧ s.2 ≤ (t.2.2.length : Int) ∧ (s.1.length : Int) = s.2 ∧ ∀ r ∈ s.1, (r.length : Int) = k) (fun s => ((t.2.2.length : Int) - s.2).toNat) (fun o => (o.length : Int) ≤ 1000 ∧ ∀ r ∈ o, (r.length : Int) = k) (fun s hs => by
    obtain ⟨y, j⟩ := s
    obtain ⟨i1, i2, i3, i4⟩ := hs
    simp only at i1 i2 i3 i4
    have hl := h4.1
    by_cases h5 : j < (t.2.2.length : Int)
    · right
      have hg2 : geti t.2.2 j = some (t.2.2[j.toNat]'(by omega)) := by unfold geti; rw [if_pos i1, List.getElem?_eq_getElem]
      have hlen := h4.2 _ (List.getElem_mem (by omega : j.toNat < t.2.2.length))
      generalize t.2.2[j.toNat]'(by omega) = r at hg2 hlen
      have g0 : geti r 0 = some (r[0]'(by omega)) := geti_at (k := 0) (by omega)
      have g1 : geti r 1 = some (r[1]'(by omega)) := geti_at (k := 1) (by omega)
      refine ⟨(y ++ [seti r 1 (Int.tmod (IntKind.i64.wrap ((IntKind.i64.wrap (r[0]'(by omega) * 2)) + i)) 4)], j + 1), ⟨by simp only; omega, by simp only; omega, by simp only [List.length_append, List.length_singleton]; omega, ?_⟩, by simp only; omega, fun rec => ?_⟩
      · intro x hx
        rcases List.mem_append.1 hx with hx | hx
        · exact i4 x hx
        · rw [List.mem_singleton] at hx; subst hx; unfold seti; rw [List.length_set]; exact hlen
      · simp only [spec_l37Db_B3, hg, obind]
        rw [decide_eq_true h5, hg2]
        simp only [cond_true, List.nil_append]
        rw [chk_pos (by unfold lim; simp only [List.length_nil]; omega), chk_pos (by omega), g0]
        simp only
        rw [g1]
        simp only
        rw [chk_pos (by unfold lim; simp only [List.length_singleton]; omega), wrap_in (n := j + 1) ⟨by omega, by omega⟩]
    · left
      refine ⟨y, ⟨by omega, i4⟩, fun rec => ?_⟩
      simp only [spec_l37Db_B3, hg, obind]
      rw [decide_eq_false h5]; rfl) fz ([], 0) ⟨by simp, by simp, by simp, fun r hr => by cases hr⟩ (by have := h4.1; unfold fz; simp only; omega)
  exact ⟨o, k, e, h2, h3, by omega, r2⟩
theorem fdb_ok (h : CurOk c) : Dr (spec_l37Db c) fun d => DbD d := by
  unfold spec_l37Db
  obtain ⟨d0, c1, e1, hd, hc1⟩ := db_ok h
  rw [e1]
  simp only [obind]
  obtain ⟨o, e, k1, k2⟩ := loop_wh (B := spec_l37Db_B1) (fun s => CurOk (s.1, s.2.1, s.2.2.1) ∧ 0 ≤ s.2.2.2.2 ∧ s.2.2.2.2 ≤ 5 ∧ s.2.2.2.1.length = 5 ∧ ∀ t ∈ s.2.2.2.1, TblD t) (fun s => (5 - s.2.2.2.2).toNat) (fun o => CurOk (o.1, o.2.1, o.2.2.1) ∧ DbD o.2.2.2) (fun s hs => by
    obtain ⟨b, i, hh, d, k⟩ := s
    obtain ⟨i1, i2, i3, i4, i5⟩ := hs
    simp only at i1 i2 i3 i4 i5
    by_cases h2 : k < (d.length : Int)
    · right
      obtain ⟨w, c2, e2, _, hc2⟩ := once_ok i1 (n := 2) (by omega) (by omega)
      cases w with
      | false =>
        refine ⟨(c2.1, c2.2.1, c2.2.2, d, k + 1), ⟨hc2, by simp only; omega, by simp only; omega, i4, i5⟩, by simp only; omega, fun rec => ?_⟩
        simp only [spec_l37Db_B1]
        rw [decide_eq_true h2, e2]
        simp only [cond_true, obind, cond_false, spec_l37Db_J2]
        rw [wrap_in ⟨by omega, by omega⟩]
      | true =>
        have hg : geti d k = some (d[k.toNat]'(by omega)) := by unfold geti; rw [if_pos i2, List.getElem?_eq_getElem]
        have ht := i5 _ (List.getElem_mem (by omega : k.toNat < d.length))
        generalize d[k.toNat]'(by omega) = t at hg ht
        obtain ⟨l, q, e3, q1, q2, q3⟩ := fdb_inner hg ht
        refine ⟨(c2.1, c2.2.1, c2.2.2, seti d k (t.1, (nrB t.2.1 l).1), k + 1), ⟨hc2, by simp only; omega, by simp only; omega, by unfold seti; rw [List.length_set]; exact i4, ?_⟩, by simp only; omega, fun rec => ?_⟩
        · intro x hx
          unfold seti at hx
          rcases List.mem_or_eq_of_mem_set hx with h1 | rfl
          · exact i5 x h1
          · exact ⟨ht.1, q, q1, q2, nr_rows q3⟩
        · simp only [spec_l37Db_B1]
          rw [decide_eq_true h2, e2]
          simp only [cond_true, obind]
          rw [e3]
          simp only
          rw [chk_pos (by omega), hg]
          simp only
          rw [s_nr (rows_smD q3 q2)]
          simp only [spec_l37Db_J2]
          rw [wrap_in ⟨by omega, by omega⟩]
    · left
      refine ⟨(b, i, hh, d), ⟨i1, by simp only; omega, i5⟩, fun rec => ?_⟩
      simp only [spec_l37Db_B1]
      rw [decide_eq_false h2]; rfl) fz (c1.1, c1.2.1, c1.2.2, d0, 0) ⟨hc1, by simp, by simp, hd.1, hd.2.2⟩ (by unfold fz; simp)
  rw [e]
  exact ⟨_, _, rfl, k2, k1⟩
theorem fd_ok (h : CurOk c) : Dr (spec_l37Fd c) fun f => f.2.1.length ≤ 2 := by
  unfold spec_l37Fd
  obtain ⟨n, c1, e1, _, hc1⟩ := pick_ok h (l := [[114], [115], [116], [117], [118]]) (by simp) (by simp)
  rw [e1]
  simp only [obind]
  obtain ⟨x, c2, e2, _, hc2⟩ := below_ok hc1 (n := 2) (by omega) (by omega)
  rw [e2]
  simp only
  obtain ⟨y, c3, e3, _, hc3⟩ := below_ok hc2 (n := 2) (by omega) (by omega)
  rw [e3]
  simp only
  obtain ⟨z, c4, e4, _, hc4⟩ := below_ok hc3 (n := 12) (by omega) (by omega)
  rw [e4]
  simp only
  cases (z == 0) with
  | true => exact ⟨_, _, rfl, by simp, hc4⟩
  | false =>
    cases (z == 1) with
    | true =>
      simp only [cond_true, cond_false]
      obtain ⟨w, c5, e5, _, hc5⟩ := pickI_ok hc4 (l := [-1, 2, 3]) (by simp) (by simp)
      rw [e5]
      exact ⟨_, _, rfl, by simp, hc5⟩
    | false =>
      simp only [cond_false]
      cases (z == 2) with
      | true => exact ⟨_, _, rfl, by simp, hc4⟩
      | false =>
        cases (z == 3) with
        | true => exact ⟨_, _, rfl, by simp, hc4⟩
        | false =>
          cases (z == 4) with
          | true => exact ⟨_, _, rfl, by simp, hc4⟩
          | false => exact ⟨_, _, rfl, by simp, hc4⟩
end
theorem same_self {a : List Int} (h : a.length ≤ lim) : laws_sameInts a a = some true := by
  unfold laws_sameInts
  have e : ((a.length : Int) != (a.length : Int)) = false := by simp
  rw [e]
  simp only [cond_false]
  have := loop_to (body := laws_sameInts_B1 a a) (out := (.inl () : Sum Unit Bool)) (fun k => (k : Int)) a.length (fun k hk rec => by
    unfold laws_sameInts_B1
    rw [lt_dec hk, geti_at hk, wrap_s hk (lim_max h)]
    simp only [cond_true, obind]
    have : (a[k] != a[k]) = false := by simp
    rw [this]; rfl) (fun rec => by unfold laws_sameInts_B1; rw [nlt_dec]; rfl) fz (lt_fz h)
  have h2 : loopF (laws_sameInts_B1 a a) fz 0 = some (.inl ()) := by simpa using this
  rw [h2]; rfl
theorem viol_cases (rows : List (List Int)) (fr : List Int) (to : Int) : violB rows fr to = [] ∨ ∃ i k : Nat, violB rows fr to = [(i : Int), (k : Int)] ∧ i < k ∧ k < rows.length ∧ clashB rows fr to k i = true := by
  unfold violB
  cases h : (List.range rows.length).findSome? fun k => (List.range k).findSome? fun i => if clashB rows fr to k i = true then some [(i : Int), (k : Int)] else none with
  | none => exact .inl rfl
  | some x =>
    right
    obtain ⟨k, hk, h⟩ := List.exists_of_findSome?_eq_some h
    obtain ⟨i, hi, h⟩ := List.exists_of_findSome?_eq_some h
    split at h
    · rename_i hc
      cases h
      exact ⟨i, k, rfl, List.mem_range.1 hi, List.mem_range.1 hk, hc⟩
    · cases h
theorem s_violN {d : List Tbl} {f : List UInt8 × List Int × Int} (h : smDb d) (hl : f.2.1.length ≤ lim) (hf : fdB d f = false) : spec_FDViolation d f = some [] := by
  unfold spec_FDViolation
  simp only [s_look h, obind]
  have : loopF (spec_FDViolation_B1 d f (lookB d f.1)) fz 0 = some (.inl ()) := loop_to (body := spec_FDViolation_B1 d f (lookB d f.1)) (fun _ => 0) 0 (fun k hk => absurd hk (by omega)) (fun rec => by
    unfold spec_FDViolation_B1
    rw [s_fd h hl, hf]
    cases decide ((0 : Int) < ((lookB d f.1).1.2.length : Int)) <;> rfl) fz (by unfold fz; omega)
  rw [this]
end Go.Proofs.Ytcoalfphehhadaa
