/-
  FullRelation: the reference and the program give the same. On the printed functions; conditions: lengths.
-/
import Derived.Test.YtmioifafgbjjhaaTiT1
import Derived.Test.YtmioifafgbjjhaaNrT1
-- pure
namespace Go.Proofs.Ytmioifafgbjjhaa
open Go.RowKit
set_option linter.unusedVariables false
set_option linter.unusedSimpArgs false
/-- each row with each number behind it -/
def rowE (c : Int) (r : List Int) : List (List Int) := (List.range c.toNat).map fun (v : Nat) => r ++ [(v : Int)]
def extR (rows : List (List Int)) (c : Int) : List (List Int) := rows.flatMap (rowE c)
def rowsK (cs : List Int) (k : Nat) : List (List Int) := (cs.take k).foldl extR [[]]
theorem rowsK_s {cs : List Int} {k : Nat} (hk : k < cs.length) : rowsK cs (k + 1) = extR (rowsK cs k) cs[k] := by
  unfold rowsK; rw [List.take_succ_eq_append_getElem hk, List.foldl_append]; rfl
theorem rowE_len (c : Int) (r : List Int) : (rowE c r).length = c.toNat := by simp [rowE]
theorem extR_len (rows : List (List Int)) (c : Int) : (extR rows c).length = rows.length * c.toNat := by
  unfold extR
  induction rows with
  | nil => simp
  | cons r rows ih => rw [List.flatMap_cons, List.length_append, ih, rowE_len, List.length_cons, Nat.add_mul, Nat.one_mul, Nat.add_comm]
theorem rowsK_row (cs : List Int) : ∀ k, k ≤ cs.length → ∀ r ∈ rowsK cs k, r.length = k
  | 0, _, r, h => by simp [rowsK] at h; subst h; rfl
  | k + 1, hk, r, h => by
    rw [rowsK_s (by omega)] at h
    obtain ⟨q, hq, h⟩ := List.mem_flatMap.1 h
    obtain ⟨v, _, rfl⟩ := List.mem_map.1 h
    rw [List.length_append, rowsK_row cs k (by omega) q hq]; rfl
def fBad (cs : List Int) (k : Nat) : Bool := atB cs k fun c => !btw c 0 100 || decide (4000 < ((rowsK cs k).length : Int) * c)
def fullB (cs : List Int) : (Int × List (List Int)) × Bool := cond (decide ((5 : Int) < (cs.length : Int)) || (List.range cs.length).any (fBad cs)) ((0, []), false) (((cs.length : Int), rowsK cs cs.length), true)
theorem fBad_no {cs : List Int} {k : Nat} (hk : k < cs.length) (h : fBad cs k = false) : 0 ≤ cs[k] ∧ cs[k] ≤ 100 ∧ ((rowsK cs k).length : Int) * cs[k] ≤ 4000 := by
  unfold fBad at h
  rw [atB_lt hk, Bool.or_eq_false_iff] at h
  have h1 := h.1
  simp only [btw, Bool.not_eq_false', Bool.and_eq_true, decide_eq_true_eq] at h1
  have h2 := of_decide_eq_false h.2
  exact ⟨h1.1, h1.2, by omega⟩
theorem rowsK_few {cs : List Int} {k : Nat} (hk : k ≤ cs.length) (hb : ∀ j, j < k → fBad cs j = false) : (rowsK cs k).length ≤ 4000 := by
  cases k with
  | zero => simp [rowsK]
  | succ k =>
    obtain ⟨h1, h2, h3⟩ := fBad_no (by omega) (hb k (by omega))
    rw [rowsK_s (by omega), extR_len]
    have : (((rowsK cs k).length * cs[k].toNat : Nat) : Int) = ((rowsK cs k).length : Int) * cs[k] := by rw [Int.natCast_mul, Int.toNat_of_nonneg h1]
    omega
section
variable {c : Int} {rows : List (List Int)}
theorem s_row {a0 : List Int} {y10 : Int} {k : Nat} (hc : geti a0 y10 = some c) (h0 : 0 ≤ c) (h1 : c ≤ 100) (hk : k < rows.length) (hr : rows[k].length ≤ 1000) {y : List (List Int)} (hy : y.length ≤ 1000000) : loopF (spec_FullRelation_B3 a0 rows y10 (k : Int)) fz (y, 0) = some (y ++ rowE c rows[k]) := by
  have hcn : ((c.toNat : Nat) : Int) = c := Int.toNat_of_nonneg h0
  have := loop_to (body := spec_FullRelation_B3 a0 rows y10 (k : Int)) (out := y ++ rowE c rows[k]) (fun v => (y ++ (List.range v).map (fun (v : Nat) => rows[k] ++ [(v : Int)]), (v : Int))) c.toNat (fun v hv rec => by
    simp only [spec_FullRelation_B3, hc, obind]
    rw [decide_eq_true (by omega), geti_at hk]
    simp only [cond_true, obind, List.nil_append]
    rw [chk_pos (by unfold lim; simp; omega), chk_pos (by unfold lim; simp; omega), chk_pos (by unfold lim; simp; omega), List.range_succ, List.map_append, wrap_in (by omega)]
    simp) (fun rec => by
    simp only [spec_FullRelation_B3, hc, obind]
    rw [decide_eq_false (by omega)]; rfl) fz (by unfold fz; omega)
  simpa using this
theorem s_ext {a0 : List Int} {y10 : Int} (hc : geti a0 y10 = some c) (h0 : 0 ≤ c) (h1 : c ≤ 100) (hl : rows.length ≤ 4000) (hr : ∀ r ∈ rows, r.length ≤ 1000) : loopF (spec_FullRelation_B2 a0 rows y10) fz ([], 0) = some (extR rows c) := by
  have := loop_to (body := spec_FullRelation_B2 a0 rows y10) (out := extR rows c) (fun k => ((rows.take k).flatMap (rowE c), (k : Int))) rows.length (fun k hk rec => by
    have hlen : ((rows.take k).flatMap (rowE c)).length ≤ 1000000 := by
      have := extR_len (rows.take k) c
      unfold extR at this
      rw [this, List.length_take, Nat.min_eq_left (by omega)]
      have : k * c.toNat ≤ 4000 * 100 := Nat.mul_le_mul (by omega) (by omega)
      omega
    simp only [spec_FullRelation_B2]
    rw [lt_dec hk, s_row hc h0 h1 hk (hr _ (List.getElem_mem hk)) hlen]
    simp only [cond_true, obind]
    rw [List.take_succ_eq_append_getElem hk, List.flatMap_append, wrap_in (by omega)]
    simp) (fun rec => by
    simp only [spec_FullRelation_B2, List.take_length]
    rw [nlt_dec]; rfl) fz (by unfold fz; omega)
  simpa using this
theorem s_full {cs : List Int} (h : cs.length ≤ lim) : spec_FullRelation cs = some (fullB cs) := by
  unfold spec_FullRelation
  have hl := all_stR (B := spec_FullRelation_B1 cs) (n := cs.length) (fun k => rowsK cs k) (fun k => decide ((5 : Int) < (cs.length : Int)) || fBad cs k) (((0, []), false) : (Int × List (List Int)) × Bool) h (fun k hk hb rec => by
    simp only [spec_FullRelation_B1]
    rw [lt_dec hk, geti_at hk]
    simp only [cond_true, obind, s_l1In]
    by_cases h5 : (5 : Int) < (cs.length : Int)
    · rw [decide_eq_true h5]
      simp only [Bool.true_or, cond_true]
      cases btw cs[k] 0 100 <;> rfl
    · rw [decide_eq_false h5]
      simp only [Bool.false_or, cond_false]
      have hb' : ∀ j, j < k → fBad cs j = false := fun j hj => by
        have := hb j hj
        rw [Bool.or_eq_false_iff] at this
        exact this.2
      have hfew := rowsK_few (Nat.le_of_lt hk) hb'
      unfold fBad
      rw [atB_lt hk]
      cases hbt : btw cs[k] 0 100 with
      | false => rfl
      | true =>
        simp only [Bool.not_true, cond_false, Bool.false_or]
        have hbt' : 0 ≤ cs[k] ∧ cs[k] ≤ 100 := by simpa [btw] using hbt
        have hm1 : 0 ≤ ((rowsK cs k).length : Int) * cs[k] := Int.mul_nonneg (by omega) hbt'.1
        have hm2 : ((rowsK cs k).length : Int) * cs[k] ≤ 4000 * 100 := Int.mul_le_mul (by omega) hbt'.2 hbt'.1 (by omega)
        rw [wrap_in (by omega)]
        cases hd : decide (4000 < ((rowsK cs k).length : Int) * cs[k]) with
        | true => rfl
        | false =>
          simp only [cond_false]
          rw [s_ext (geti_at hk) hbt'.1 hbt'.2 hfew (fun r hr => by rw [rowsK_row cs k (by omega) r hr]; omega)]
          simp only
          rw [rowsK_s hk, wrap_in (by omega)]
          simp) (fun rec => by simp only [spec_FullRelation_B1]; rw [nlt_dec]; rfl)
  have hl' : loopF (spec_FullRelation_B1 cs) fz ([[]], 0) = _ := hl
  rw [hl']
  unfold fullB
  have e : ((List.range cs.length).any fun k => decide ((5 : Int) < (cs.length : Int)) || fBad cs k) = (decide ((5 : Int) < (cs.length : Int)) || (List.range cs.length).any (fBad cs)) := by
    by_cases h5 : (5 : Int) < (cs.length : Int)
    · rw [decide_eq_true h5, Bool.true_or, List.any_eq_true]
      exact ⟨0, List.mem_range.2 (by omega), by rw [Bool.true_or]⟩
    · rw [decide_eq_false h5]; simp
  rw [e]
  cases (decide ((5 : Int) < (cs.length : Int)) || (List.range cs.length).any (fBad cs)) <;> rfl
theorem i_row {r : List Int} (h0 : 0 ≤ c) (h1 : c ≤ 100) (hr : r.length ≤ 1000) {y : List (List Int)} (hy : y.length ≤ 1000000) : loopF (impl_FullRelation_B4 c r) fz (y, 0) = some (y ++ rowE c r) := by
  have hcn : ((c.toNat : Nat) : Int) = c := Int.toNat_of_nonneg h0
  have := loop_to (body := impl_FullRelation_B4 c r) (out := y ++ rowE c r) (fun v => (y ++ (List.range v).map (fun (v : Nat) => r ++ [(v : Int)]), (v : Int))) c.toNat (fun v hv rec => by
    simp only [impl_FullRelation_B4]
    rw [decide_eq_true (by omega), i_copyI (by unfold lim; omega)]
    simp only [cond_true, obind]
    rw [chk_pos (by unfold lim; simp; omega), chk_pos (by unfold lim; simp; omega), List.range_succ, List.map_append, wrap_in (by omega)]
    simp) (fun rec => by
    simp only [impl_FullRelation_B4]
    rw [decide_eq_false (by omega)]; rfl) fz (by unfold fz; omega)
  simpa using this
theorem i_ext (h0 : 0 ≤ c) (h1 : c ≤ 100) (hl : rows.length ≤ 4000) (hr : ∀ r ∈ rows, r.length ≤ 1000) : loopF (impl_FullRelation_B3 rows c) fz ([], 0) = some (extR rows c) := by
  have := loop_to (body := impl_FullRelation_B3 rows c) (out := extR rows c) (fun k => ((rows.take k).flatMap (rowE c), (k : Int))) rows.length (fun k hk rec => by
    have hlen : ((rows.take k).flatMap (rowE c)).length ≤ 1000000 := by
      have := extR_len (rows.take k) c
      unfold extR at this
      rw [this, List.length_take, Nat.min_eq_left (by omega)]
      have : k * c.toNat ≤ 4000 * 100 := Nat.mul_le_mul (by omega) (by omega)
      omega
    simp only [impl_FullRelation_B3]
    rw [lt_dec hk, geti_at hk]
    simp only [cond_true, obind]
    rw [i_row h0 h1 (hr _ (List.getElem_mem hk)) hlen]
    simp only
    rw [List.take_succ_eq_append_getElem hk, List.flatMap_append, wrap_in (by omega)]
    simp) (fun rec => by
    simp only [impl_FullRelation_B3, List.take_length]
    rw [nlt_dec]; rfl) fz (by unfold fz; omega)
  simpa using this
theorem i_full {cs : List Int} (h : cs.length ≤ lim) : impl_FullRelation cs = some (fullB cs) := by
  unfold impl_FullRelation fullB
  by_cases h5 : (5 : Int) < (cs.length : Int)
  · rw [decide_eq_true h5]; rfl
  · rw [decide_eq_false h5]
    simp only [cond_false, Bool.false_or]
    have step : ∀ k (hk : k < cs.length), (∀ j, j < k → fBad cs j = false) → ∀ rec, impl_FullRelation_B1 cs rec (((rowsK cs k).length : Int), (k : Int)) = cond (fBad cs k) (some (.inr ((0, []), false))) (rec (((rowsK cs (k + 1)).length : Int), ((k + 1 : Nat) : Int))) := by
      intro k hk hb rec
      have hfew := rowsK_few (Nat.le_of_lt hk) hb
      simp only [impl_FullRelation_B1]
      rw [lt_dec hk, geti_at hk]
      simp only [cond_true, obind, i_within]
      unfold fBad
      rw [atB_lt hk]
      cases hbt : btw cs[k] 0 100 with
      | false => rfl
      | true =>
        simp only [Bool.not_true, cond_false, Bool.false_or]
        have hbt' : 0 ≤ cs[k] ∧ cs[k] ≤ 100 := by simpa [btw] using hbt
        have hm1 : 0 ≤ ((rowsK cs k).length : Int) * cs[k] := Int.mul_nonneg (by omega) hbt'.1
        have hm2 : ((rowsK cs k).length : Int) * cs[k] ≤ 4000 * 100 := Int.mul_le_mul (by omega) hbt'.2 hbt'.1 (by omega)
        rw [wrap_in (by omega), rowsK_s hk, extR_len, Int.natCast_mul, Int.toNat_of_nonneg hbt'.1, wrap_s hk (lim_max h)]
    have hl : loopF (impl_FullRelation_B1 cs) fz (1, 0) = some (cond ((List.range cs.length).any (fBad cs)) (.inr ((0, []), false)) (.inl ())) := by
      have key : ∀ d k, k + d = cs.length → (∀ j, j < k → fBad cs j = false) → ∀ m, d < m → loopF (impl_FullRelation_B1 cs) m (((rowsK cs k).length : Int), (k : Int)) = some (cond ((List.range cs.length).any (fBad cs)) (.inr ((0, []), false)) (.inl ())) := by
        intro d
        induction d with
        | zero =>
          intro k hk hb m hm
          cases m with
          | zero => omega
          | succ m =>
            have hkn : k = cs.length := by omega
            have : (List.range cs.length).any (fBad cs) = false := by
              rw [List.any_eq_false]
              intro x hx
              rw [hb x (by have := List.mem_range.1 hx; omega)]; simp
            subst hkn
            show impl_FullRelation_B1 cs _ _ = _
            simp only [impl_FullRelation_B1]
            rw [nlt_dec, this]; rfl
        | succ d ih =>
          intro k hk hb m hm
          cases m with
          | zero => omega
          | succ m =>
            show impl_FullRelation_B1 cs (loopF (impl_FullRelation_B1 cs) m) _ = _
            rw [step k (by omega) hb]
            cases hbk : fBad cs k with
            | true =>
              have : (List.range cs.length).any (fBad cs) = true := by rw [List.any_eq_true]; exact ⟨k, List.mem_range.2 (by omega), hbk⟩
              rw [this]; rfl
            | false =>
              exact ih (k + 1) (by omega) (fun j hj => by
                rcases Nat.lt_or_ge j k with h | h
                · exact hb j h
                · rw [show j = k by omega]; exact hbk) m (by omega)
      have := key cs.length 0 (by omega) (fun j hj => absurd hj (by omega)) fz (lt_fz h)
      simpa [rowsK] using this
    rw [hl]
    cases hany : (List.range cs.length).any (fBad cs) with
    | true => rfl
    | false =>
      simp only [cond_false, obind]
      have hb : ∀ j, j < cs.length → fBad cs j = false := fun j hj => by
        have := List.any_eq_false.1 hany j (List.mem_range.2 hj)
        simpa using this
      have h2 := loop_to (body := impl_FullRelation_B2 cs) (out := rowsK cs cs.length) (fun k => (rowsK cs k, (k : Int))) cs.length (fun k hk rec => by
        obtain ⟨b1, b2, b3⟩ := fBad_no hk (hb k hk)
        simp only [impl_FullRelation_B2]
        rw [lt_dec hk, geti_at hk]
        simp only [cond_true, obind]
        rw [i_ext b1 b2 (rowsK_few (Nat.le_of_lt hk) (fun j hj => hb j (by omega))) (fun r hr => by rw [rowsK_row cs k (by omega) r hr]; omega)]
        simp only
        rw [rowsK_s hk, wrap_s hk (lim_max h)]) (fun rec => by simp only [impl_FullRelation_B2]; rw [nlt_dec]; rfl) fz (lt_fz h)
      have h2' : loopF (impl_FullRelation_B2 cs) fz ([[]], 0) = some (rowsK cs cs.length) := by simpa [rowsK] using h2
      rw [h2']
end
theorem full_sm (cs : List Int) : smRows (fullB cs).1.2 ∧ ((fullB cs).2 = true → cs.length ≤ 5) := by
  unfold fullB
  cases h : decide ((5 : Int) < (cs.length : Int)) || (List.range cs.length).any (fBad cs) with
  | true => exact ⟨⟨by simp [lim], fun r hr => by cases hr⟩, fun h => by cases h⟩
  | false =>
    rw [Bool.or_eq_false_iff] at h
    have h5 := of_decide_eq_false h.1
    have hb : ∀ j, j < cs.length → fBad cs j = false := fun j hj => by
      have := List.any_eq_false.1 h.2 j (List.mem_range.2 hj)
      simpa using this
    have h1 := rowsK_few (Nat.le_refl _) hb
    exact ⟨⟨by show (rowsK cs cs.length).length ≤ lim; unfold lim; omega, fun r hr => by rw [rowsK_row cs _ (Nat.le_refl _) r hr]; unfold lim; omega⟩, fun _ => by omega⟩
end Go.Proofs.Ytmioifafgbjjhaa
