/-
  The values of a database: the reference and the program agree. On the printed functions; conditions: lengths.
-/
import Derived.Test.YtmjhiencoapldaaGreatUnDG1
-- pure
namespace Go.Proofs.YtmjhiencoapldaaGreat
open Go.RowKit
set_option linter.unusedSimpArgs false
set_option linter.unusedVariables false
section
variable {d : List Tbl}
def rowsHave (rows : List (List Int)) (v : Nat) : Bool := rows.any fun r => r.contains (v : Int)
def dbHas (d : List Tbl) (v : Nat) : Bool := d.any fun t => rowsHave t.2.2 v
theorem db_facts (h : dbB d = true) : d.length ≤ 6 ∧ ∀ t ∈ d, ∀ r ∈ t.2.2, ∀ x ∈ r, 0 ≤ x ∧ x ≤ 99 := by
  unfold dbB at h
  simp only [Bool.and_eq_true, Bool.not_eq_true', decide_eq_true_eq] at h
  refine ⟨by omega, fun t ht r hr x hx => ?_⟩
  obtain ⟨k, hk, rfl⟩ := List.mem_iff_getElem.1 ht
  have h1 := badAny_f h.2 hk
  unfold tblBad at h1
  simp only [Bool.or_eq_false_iff, Bool.not_eq_false'] at h1
  have h2 := h1.1.1.2
  unfold relB at h2
  simp only [Bool.and_eq_true, Bool.not_eq_true'] at h2
  obtain ⟨j, hj, rfl⟩ := List.mem_iff_getElem.1 hr
  have h3 := badAny_f h2.2.2 hj
  unfold rowBad at h3
  simp only [Bool.or_eq_false_iff, Bool.not_eq_false'] at h3
  have h4 := h3.1.2
  unfold avvB at h4
  simp only [Bool.not_eq_true'] at h4
  obtain ⟨i, hi, rfl⟩ := List.mem_iff_getElem.1 hx
  have h5 := badAny_f h4 hi
  simp only [Bool.not_eq_false'] at h5
  unfold btw at h5
  simpa using h5
theorem s_ad3 (h : smDb d) (v : Nat) {k : Nat} (hk : k < d.length) (b : Bool) : loopF (spec_ActiveDomain_B3 d (v : Int) (k : Int)) fz (b, 0) = some (b || rowsHave d[k].2.2 v) := by
  have hr := (h.2 _ (List.getElem_mem hk)).2
  have := loop_to (body := spec_ActiveDomain_B3 d (v : Int) (k : Int)) (out := (b || rowsHave d[k].2.2 v)) (fun j => (b || rowsHave (d[k].2.2.take j) v, (j : Int))) d[k].2.2.length (fun j hj rec => ?_) (fun rec => ?_) fz (lt_fz hr.1)
  · simpa [rowsHave] using this
  · simp only [spec_ActiveDomain_B3, geti_at hk, obind, lt_dec hj, cond_true, geti_at hj, s_find (hr.2 _ (List.getElem_mem hj)), place_has, spec_ActiveDomain_J4, wrap_s hj (lim_max hr.1)]
    have e1 : rowsHave (d[k].2.2.take (j + 1)) v = (rowsHave (d[k].2.2.take j) v || d[k].2.2[j].contains (v : Int)) := by
      unfold rowsHave
      rw [List.take_succ_eq_append_getElem hj, List.any_append]; simp
    rw [e1, ← Bool.or_assoc]
    cases (b || rowsHave (d[k].2.2.take j) v) <;> simp
  · simp only [spec_ActiveDomain_B3, geti_at hk, obind, nlt_dec, cond_false, List.take_length]
theorem s_ad2 (h : smDb d) (v : Nat) : loopF (spec_ActiveDomain_B2 d (v : Int)) fz (false, 0) = some (dbHas d v) := by
  have := loop_to (body := spec_ActiveDomain_B2 d (v : Int)) (out := dbHas d v) (fun k => (dbHas (d.take k) v, (k : Int))) d.length (fun k hk rec => ?_) (fun rec => ?_) fz (lt_fz h.1)
  · simpa [dbHas] using this
  · simp only [spec_ActiveDomain_B2, lt_dec hk, cond_true, s_ad3 h v hk, obind, wrap_s hk (lim_max h.1)]
    have e1 : dbHas (d.take (k + 1)) v = (dbHas (d.take k) v || rowsHave d[k].2.2 v) := by
      unfold dbHas
      rw [List.take_succ_eq_append_getElem hk, List.any_append]; simp
    rw [e1]
  · simp only [spec_ActiveDomain_B2, nlt_dec, cond_false, List.take_length]
def adB (d : List Tbl) : List Int := if dbB d = true then ascN 100 (dbHas d) else []
theorem s_ad (h : smDb d) : spec_ActiveDomain d = some (adB d) := by
  unfold spec_ActiveDomain adB
  by_cases hd : dbB d = true
  · have := loop_to (body := spec_ActiveDomain_B1 d) (out := ascN 100 (dbHas d)) (fun k => (ascN k (dbHas d), (k : Int))) 100 (fun k hk rec => ?_) (fun rec => ?_) fz (by unfold fz; omega)
    · rw [if_pos hd]
      have e0 : ascN 0 (dbHas d) = [] := rfl
      rw [e0, show ((0 : Nat) : Int) = 0 from rfl] at this
      rw [this]; rfl
    · have hl := ascN_len k (dbHas d)
      simp only [spec_ActiveDomain_B1, s_db h, hd, s_ad2 h k, obind, cond_true]
      rw [decide_eq_true (by omega : (k : Int) ≤ 99), cond_true, ascN_s]
      have hw : IntKind.i64.wrap ((k : Int) + 1) = ((k + 1 : Nat) : Int) := wrap_s (n := 100) hk (by decide)
      cases dbHas d k with
      | true => rw [cond_true, chk_pos (by simp; unfold lim; omega)]; simp only [spec_ActiveDomain_J5, hw, if_true]
      | false => simp only [cond_false, spec_ActiveDomain_J5, hw, Bool.false_eq_true, if_false, List.append_nil]
    · simp only [spec_ActiveDomain_B1]
      rw [decide_eq_false (by omega), cond_false]
  · rw [if_neg hd]
    have hfz : fz = (fz - 1) + 1 := rfl
    rw [hfz, loopF_succ]
    simp only [spec_ActiveDomain_B1, s_db h, obind]
    rw [show dbB d = false by simpa using hd]
    rfl
theorem i_ad2 {t : Tbl} (hr : smRows t.2.2) (hv : ∀ r ∈ t.2.2, ∀ x ∈ r, 0 ≤ x ∧ x ≤ 99) (S : Nat → Bool) : loopF (impl_ActiveDomain_B2 t) fz (ascN 100 S, 0) = some (ascN 100 fun v => S v || rowsHave t.2.2 v) := by
  have := loop_to (body := impl_ActiveDomain_B2 t) (out := ascN 100 fun v => S v || rowsHave t.2.2 v) (fun j => (ascN 100 fun v => S v || rowsHave (t.2.2.take j) v, (j : Int))) t.2.2.length (fun j hj rec => ?_) (fun rec => ?_) fz (lt_fz hr.1)
  · simpa [rowsHave] using this
  · simp only [impl_ActiveDomain_B2, lt_dec hj, cond_true, geti_at hj, obind, i_unite (hr.2 _ (List.getElem_mem hj)) (hv _ (List.getElem_mem hj)), wrap_s hj (lim_max hr.1)]
    have e1 : addL (fun v => S v || rowsHave (t.2.2.take j) v) t.2.2[j] = fun v => S v || rowsHave (t.2.2.take (j + 1)) v := by
      funext v
      unfold addL rowsHave
      rw [List.take_succ_eq_append_getElem hj, List.any_append, Bool.or_assoc]; simp
    rw [e1]
  · simp only [impl_ActiveDomain_B2, nlt_dec, cond_false, List.take_length]
theorem i_ad (h : smDb d) : impl_ActiveDomain d = some (adB d) := by
  unfold impl_ActiveDomain adB
  rw [i_db h]
  by_cases hd : dbB d = true
  · have hf := (db_facts hd).2
    have := loop_to (body := impl_ActiveDomain_B1 d) (out := ascN 100 (dbHas d)) (fun k => (ascN 100 (dbHas (d.take k)), (k : Int))) d.length (fun k hk rec => ?_) (fun rec => ?_) fz (lt_fz h.1)
    · rw [if_pos hd]
      have e0 : ascN 100 (dbHas (d.take 0)) = [] := by unfold ascN dbHas; simp
      rw [e0, show ((0 : Nat) : Int) = 0 from rfl] at this
      simp only [obind, hd, Bool.not_true, cond_false, this]
    · simp only [impl_ActiveDomain_B1, lt_dec hk, cond_true, geti_at hk, obind, i_ad2 (h.2 _ (List.getElem_mem hk)).2 (hf _ (List.getElem_mem hk)), wrap_s hk (lim_max h.1)]
      have e1 : (fun v => dbHas (d.take k) v || rowsHave d[k].2.2 v) = dbHas (d.take (k + 1)) := by
        funext v
        unfold dbHas
        rw [List.take_succ_eq_append_getElem hk, List.any_append]; simp
      rw [e1]
    · simp only [impl_ActiveDomain_B1, nlt_dec, cond_false, List.take_length]
  · rw [if_neg hd]
    simp only [obind]
    rw [show dbB d = false by simpa using hd]; rfl
theorem ad_len : (adB d).length ≤ 100 := by
  unfold adB
  split
  · exact ascN_len _ _
  · simp
end
end Go.Proofs.YtmjhiencoapldaaGreat
