/-
  Contracts of the two IsValidRelation: each returns whether the arity is from 0 to 5, there are at most 4000 rows, and the rows are valid and strictly ascending. Condition: the argument reads as a relation.
-/
import Derived.Test.YtnijkpbecgifjaaRelS
namespace Go.Proofs.Ytnijkpbecgifjaa
open Go.RowKit

/-- row i is valid and behind row i - 1 -/
def okAt (ar : Int) (rows : List (List Int)) (i : Nat) : Bool :=
  decide (((rows[i]?.getD []).length : Int) = ar) && vals (rows[i]?.getD []) && (i == 0 || decide (cmpL (rows[i - 1]?.getD []) (rows[i]?.getD []) < 0))
/-- the relation is valid -/
def validRel (ar : Int) (rows : List (List Int)) : Bool := inB ar 0 5 && decide (rows.length ≤ 4000) && (List.range rows.length).all (okAt ar rows)

theorem validRel_iff {ar : Int} {rows : List (List Int)} : validRel ar rows = true ↔ (0 ≤ ar ∧ ar ≤ 5) ∧ rows.length ≤ 4000 ∧ ∀ i, i < rows.length → okAt ar rows i = true := by
  simp only [validRel, Bool.and_eq_true, inB_iff, decide_eq_true_eq, List.all_eq_true, List.mem_range, and_assoc]
theorem validRel_ar {ar : Int} {rows : List (List Int)} (h : inB ar 0 5 = false) : validRel ar rows = false := by simp [validRel, h]
theorem validRel_len {ar : Int} {rows : List (List Int)} (h : ¬ rows.length ≤ 4000) : validRel ar rows = false := by simp [validRel, h]
theorem validRel_at {ar : Int} {rows : List (List Int)} {k : Nat} (hk : k < rows.length) (h : okAt ar rows k = false) : validRel ar rows = false := by
  cases hv : validRel ar rows with
  | false => rfl
  | true => rw [(validRel_iff.1 hv).2.2 k hk] at h; cases h
theorem validRel_yes {ar : Int} {rows : List (List Int)} (ha : inB ar 0 5 = true) (hl : rows.length ≤ 4000) (h : ∀ i, i < rows.length → okAt ar rows i = true) : validRel ar rows = true :=
  validRel_iff.2 ⟨inB_iff.1 ha, hl, h⟩
theorem okAt_len {ar : Int} {rows : List (List Int)} {k : Nat} (hk : k < rows.length) (h : ¬ (rows[k].length : Int) = ar) : okAt ar rows k = false := by
  simp [okAt, hk, h]
theorem okAt_vals {ar : Int} {rows : List (List Int)} {k : Nat} (hk : k < rows.length) (h : vals rows[k] = false) : okAt ar rows k = false := by
  simp [okAt, hk, h]
theorem okAt_cmp {ar : Int} {rows : List (List Int)} {k : Nat} (h0 : 0 < k) (hk : k < rows.length) (h : ¬ cmpL rows[k - 1] rows[k] < 0) : okAt ar rows k = false := by
  obtain ⟨k, rfl⟩ : ∃ j, k = j + 1 := ⟨k - 1, by omega⟩
  have h1 : k < rows.length := by omega
  simp only [Nat.add_sub_cancel] at h
  simp [okAt, hk, h1]
  intro _ _; omega
theorem okAt_zero {ar : Int} {rows : List (List Int)} {k : Nat} (h0 : k = 0) (hk : k < rows.length) (h : (rows[k].length : Int) = ar) (hv : vals rows[k] = true) : okAt ar rows k = true := by
  subst h0
  simp [okAt, hk, h, hv]
theorem okAt_succ {ar : Int} {rows : List (List Int)} {k : Nat} (h0 : 0 < k) (hk : k < rows.length) (h : (rows[k].length : Int) = ar) (hv : vals rows[k] = true) (hc : cmpL rows[k - 1] rows[k] < 0) : okAt ar rows k = true := by
  obtain ⟨k, rfl⟩ : ∃ j, k = j + 1 := ⟨k - 1, by omega⟩
  have h1 : k < rows.length := by omega
  simp only [Nat.add_sub_cancel] at hc
  simp [okAt, hk, h1, h, hv, hc]
theorem all_succ {p : Nat → Bool} {k : Nat} (h : ∀ i, i < k → p i = true) (hk : p k = true) : ∀ i, i < k + 1 → p i = true := by
  intro i hi
  by_cases e : i = k
  · rw [e]; exact hk
  · exact h i (by omega)

set_option maxHeartbeats 1000000 in
theorem rowsValid_c (va : Value) (ar : Int) (a : List (List Int)) (w : World) (ha : Rows2 w va a) :
    Calls Try.prog 54 #[.int .i64 ar, va] w fun e w' => e = .returned (.bool (validRel ar a)) ∧ Same w w' := by
  obtain ⟨A, ca, rfl, hca, hat⟩ := ha.at_
  clear ha
  cases hin : inB ar 0 5 with
  | false =>
    have E := Lib.hid (validRel_ar (rows := a) hin)
    go_enter Try.func54, Try.ntmps54
    go_wp2_with (go_at_call 34; refine (within_c _ _ _ _).mono ?_; rintro e w' ⟨rfl, rfl⟩)
    go_ret
    exact ⟨ret_bool E.out.symm, Same.refl _⟩
  | true =>
    by_cases hlen : a.length ≤ 4000
    · have hgt : decide ((4000 : Int) < a.length) = false := by simp; omega
      have hgt' : ¬ (4000 < a.length) := by omega
      have HI := Lib.hid hin
      go_enter Try.func54, Try.ntmps54
      go_wp2_with (go_at_call 34; refine (within_c _ _ _ _).mono ?_; rintro e w' ⟨rfl, rfl⟩)
      clear hin
      go_loopw [5, 6, 17] (fun _ _ i wr => ∃ k : Nat, k ≤ a.length ∧ i = .int .i64 k ∧ (∀ i, i < k → okAt ar a i = true) ∧ Same w wr) (fun _ _ i _ => a.length - (intOf i).toNat)
      case atStart => exact ⟨0, by omega, rfl, by simp, Same.refl _⟩
      case round =>
        obtain ⟨k, hk, rfl, hall, hsm⟩ := hrel
        have HA := Lib.hid hall; clear hall
        by_cases hlt : k < a.length
        · obtain ⟨ba, oa, rfl, hA⟩ := hat (by omega)
          obtain ⟨A1, c1, ga0, ra0⟩ := hA k (by omega)
          have ga := (hsm.cell _).trans ga0
          have RA := Lib.hid (ra0.same hsm)
          by_cases h1 : (a[k].length : Int) = ar
          · have b1 : ((a[k].length : Int) != ar) = false := by simpa using h1
            have H1 := Lib.hid h1
            clear ga0 ra0 h1
            cases hv : vals a[k] with
            | false =>
              have E := Lib.hid (validRel_at (ar := ar) hlt (okAt_vals hlt hv))
              clear hA
              go_wp2_with (go_at_call 55; refine (implAreValidValues_c _ _ _ RA.out).mono ?_; rintro e w' ⟨rfl, rfl⟩)
              go_ret
              exact ⟨ret_bool E.out.symm, hsm⟩
            | true =>
              by_cases hk0 : k = 0
              · have b2 : decide ((0 : Int) < (k : Int)) = false := by simp [hk0]
                have b2' : ¬ (0 < k) := by omega
                have E := Lib.hid (okAt_zero hk0 hlt H1.out hv)
                clear hA hk0
                go_wp2_with (go_at_call 55; refine (implAreValidValues_c _ _ _ RA.out).mono ?_; rintro e w' ⟨rfl, rfl⟩)
                refine ⟨⟨k + 1, by omega, by go_num, all_succ HA.out E.out, hsm⟩, by simp [intOf]; omega⟩
              · have hk1 : 0 < k := by omega
                obtain ⟨A0, c0, gp0, rp0⟩ := hA (k - 1) (by omega)
                have gp := (hsm.cell _).trans gp0
                have RP := Lib.hid (rp0.same hsm)
                have b2 : decide ((0 : Int) < (k : Int)) = true := by simp; omega
                clear hA gp0 rp0
                by_cases hc : cmpL a[k - 1] a[k] < 0
                · have E := Lib.hid (okAt_succ hk1 hlt H1.out hv hc)
                  have b3 : decide (0 ≤ cmpL a[k - 1] a[k]) = false := by simpa using hc
                  go_wp2_with (first | (go_at_call 55; refine (implAreValidValues_c _ _ _ RA.out).mono ?_; rintro e w' ⟨rfl, rfl⟩) | (go_at_call 56; refine (implCompareRows_c _ _ _ _ _ RP.out RA.out).mono ?_; rintro e w2 ⟨rfl, hs2⟩))
                  refine ⟨⟨k + 1, by omega, by go_num, all_succ HA.out E.out, hsm.trans hs2⟩, by simp [intOf]; omega⟩
                · have E := Lib.hid (validRel_at (ar := ar) hlt (okAt_cmp hk1 hlt hc))
                  have b3 : decide (0 ≤ cmpL a[k - 1] a[k]) = true := by simp; omega
                  go_wp2_with (first | (go_at_call 55; refine (implAreValidValues_c _ _ _ RA.out).mono ?_; rintro e w' ⟨rfl, rfl⟩) | (go_at_call 56; refine (implCompareRows_c _ _ _ _ _ RP.out RA.out).mono ?_; rintro e w2 ⟨rfl, hs2⟩))
                  go_ret
                  exact ⟨ret_bool E.out.symm, hsm.trans hs2⟩
          · have b1 : ((a[k].length : Int) != ar) = true := by simpa using h1
            have E := Lib.hid (validRel_at hlt (okAt_len hlt h1))
            clear hA ga0 ra0 h1
            go_wp2
            go_ret
            exact ⟨ret_bool E.out.symm, hsm⟩
        · have e : k = a.length := by omega
          go_wp2
          go_ret
          exact ⟨ret_bool (validRel_yes HI.out hlen (by have := HA.out; rw [e] at this; exact this)).symm, hsm⟩
    · have hgt : decide ((4000 : Int) < a.length) = true := by simp; omega
      have hgt' : 4000 < a.length := by omega
      have E := Lib.hid (validRel_len (ar := ar) hlen)
      go_enter Try.func54, Try.ntmps54
      go_wp2_with (go_at_call 34; refine (within_c _ _ _ _).mono ?_; rintro e w' ⟨rfl, rfl⟩)
      go_ret
      exact ⟨ret_bool E.out.symm, Same.refl _⟩

theorem implIsValidRelation_c (va : Value) (ar : Int) (a : List (List Int)) (w : World) (ha : Rows2 w va a) :
    Calls Try.prog 50 #[.agg #[.int .i64 ar, va]] w fun e w' => e = .returned (.bool (validRel ar a)) ∧ Below w.heap.size w w' := by
  have HA := Lib.hid ha
  obtain ⟨A, ca, rfl, _, _⟩ := ha.at_
  clear ha
  go_enter Try.func50, Try.ntmps50
  go_wp2_with fail
  refine (rowsValid_c _ ar a _ (HA.out.keep (below1 _ _))).mono ?_
  rintro e w1 ⟨rfl, hs⟩
  have HS := Lib.hid ((below1 w (.cells #[.int .i64 ar, .slice A a.length ca] 27)).trans (hs.below _)); clear hs
  go_wp2
  go_ret
  exact ⟨rfl, HS.out⟩

set_option maxHeartbeats 1000000 in
theorem specIsValidRelation_c (va : Value) (ar : Int) (a : List (List Int)) (w : World) (ha : Rows2 w va a) :
    Calls Try.prog 49 #[.agg #[.int .i64 ar, va]] w fun e w' => e = .returned (.bool (validRel ar a)) ∧ Below w.heap.size w w' := by
  have HR := Lib.hid ha
  obtain ⟨A, ca, rfl, hca, _⟩ := ha.at_
  clear ha
  cases hin : inB ar 0 5 with
  | false =>
    have E := Lib.hid (validRel_ar (rows := a) hin)
    go_enter Try.func49, Try.ntmps49
    go_wp2_with (go_at_call 33; refine (l1In_c _ _ _ _).mono ?_; rintro e w' ⟨rfl, rfl⟩)
    go_ret
    exact ⟨ret_bool E.out.symm, below1 _ _⟩
  | true =>
    by_cases hlen : a.length ≤ 4000
    · have hgt : decide ((4000 : Int) < a.length) = false := by simp; omega
      have hgt' : ¬ (4000 < a.length) := by omega
      have HI := Lib.hid hin
      go_enter Try.func49, Try.ntmps49
      go_wp2_with (go_at_call 33; refine (l1In_c _ _ _ _).mono ?_; rintro e w' ⟨rfl, rfl⟩)
      clear hin
      have c0 : (w.alloc (.cells #[.int .i64 ar, .slice A a.length ca] 27)).cell? ⟨w.heap.size, 0, none⟩ = some (.int .i64 ar) := by rw [cell_of_row _ _ _ _ _ _ (heap_alloc_new w _)]; rfl
      have c1 : (w.alloc (.cells #[.int .i64 ar, .slice A a.length ca] 27)).cell? ⟨w.heap.size, 1, none⟩ = some (.slice A a.length ca) := by rw [cell_of_row _ _ _ _ _ _ (heap_alloc_new w _)]; rfl
      have hB0 := below1 w (.cells #[.int .i64 ar, .slice A a.length ca] 27)
      obtain ⟨_, _, _, _, hat⟩ := (HR.out.keep hB0).at_
      rename_i hsl _
      injection hsl with hsl1 _ hsl2
      subst hsl1 hsl2
      generalize w.alloc (.cells #[.int .i64 ar, .slice A a.length ca] 27) = W at c0 c1 hB0 hat ⊢
      have HB0 := Lib.hid hB0; clear hB0
      have HC0 := Lib.hid c0; have HC1 := Lib.hid c1; clear c0 c1
      go_loopw [3] (fun i wr => ∃ k : Nat, k ≤ a.length ∧ i = .int .i64 k ∧ (∀ i, i < k → okAt ar a i = true) ∧ Same W wr) (fun i _ => a.length - (intOf i).toNat)
      case atStart => exact ⟨0, by omega, rfl, by simp, Same.refl _⟩
      case round =>
        obtain ⟨k, hk, rfl, hall, hsm⟩ := hrel
        have HA := Lib.hid hall; clear hall
        have c0 := (hsm.cell _).trans HC0.out
        have c1 := (hsm.cell _).trans HC1.out
        by_cases hlt : k < a.length
        · obtain ⟨ba, oa, rfl, hA⟩ := hat (by omega)
          obtain ⟨A1, c1', ga0, ra0⟩ := hA k (by omega)
          have ga := (hsm.cell _).trans ga0
          have RA := Lib.hid (ra0.same hsm)
          by_cases h1 : (a[k].length : Int) = ar
          · have b1 : ((a[k].length : Int) != ar) = false := by simpa using h1
            have H1 := Lib.hid h1
            clear ga0 ra0 h1
            cases hv : vals a[k] with
            | false =>
              have E := Lib.hid (validRel_at (ar := ar) hlt (okAt_vals hlt hv))
              clear hA
              go_wp2
              go_quiet ((go_at_call 53; exact quiet_eq (specAreValidValues_c _ _ _ (RA.out.drewN _))))
              go_wp2
              go_ret
              exact ⟨ret_bool E.out.symm, HB0.out.trans ((hsm.drewN _).below _)⟩
            | true =>
              by_cases hk0 : k = 0
              · have b2 : decide ((0 : Int) < (k : Int)) = false := by simp [hk0]
                have b2' : ¬ (0 < k) := by omega
                have E := Lib.hid (okAt_zero hk0 hlt H1.out hv)
                clear hA hk0
                go_wp2
                go_quiet ((go_at_call 53; exact quiet_eq (specAreValidValues_c _ _ _ (RA.out.drewN _))))
                go_wp2
                refine ⟨⟨k + 1, by omega, by go_num, all_succ HA.out E.out, hsm.drewN _⟩, by simp [intOf]; omega⟩
              · have hk1 : 0 < k := by omega
                obtain ⟨A0, c0', gp0, rp0⟩ := hA (k - 1) (by omega)
                have gp := (hsm.cell _).trans gp0
                have RP := Lib.hid (rp0.same hsm)
                have b2 : decide ((0 : Int) < (k : Int)) = true := by simp; omega
                clear hA gp0 rp0
                by_cases hc : cmpL a[k - 1] a[k] < 0
                · have E := Lib.hid (okAt_succ hk1 hlt H1.out hv hc)
                  have b3 : decide (0 ≤ cmpL a[k - 1] a[k]) = false := by simpa using hc
                  go_wp2
                  go_quiet ((first | (go_at_call 53; exact quiet_eq (specAreValidValues_c _ _ _ (RA.out.drewN _))) | (go_at_call 41; exact quiet_same (specCompareRows_c _ _ _ _ _ (RP.out.drewN _) (RA.out.drewN _)))))
                  go_wp2
                  refine ⟨⟨k + 1, by omega, by go_num, all_succ HA.out E.out, hsm.drewN _⟩, by simp [intOf]; omega⟩
                · have E := Lib.hid (validRel_at (ar := ar) hlt (okAt_cmp hk1 hlt hc))
                  have b3 : decide (0 ≤ cmpL a[k - 1] a[k]) = true := by simp; omega
                  go_wp2
                  go_quiet ((first | (go_at_call 53; exact quiet_eq (specAreValidValues_c _ _ _ (RA.out.drewN _))) | (go_at_call 41; exact quiet_same (specCompareRows_c _ _ _ _ _ (RP.out.drewN _) (RA.out.drewN _)))))
                  go_wp2
                  go_ret
                  exact ⟨ret_bool E.out.symm, HB0.out.trans ((hsm.drewN _).below _)⟩
          · have b1 : ((a[k].length : Int) != ar) = true := by simpa using h1
            have E := Lib.hid (validRel_at hlt (okAt_len hlt h1))
            clear hA ga0 ra0 h1
            go_wp2
            go_quiet (fail)
            go_wp2
            go_ret
            exact ⟨ret_bool E.out.symm, HB0.out.trans ((hsm.drewN _).below _)⟩
        · have e : k = a.length := by omega
          go_wp2
          go_ret
          exact ⟨ret_bool (validRel_yes HI.out hlen (by have := HA.out; rw [e] at this; exact this)).symm, HB0.out.trans (hsm.below _)⟩
    · have hgt : decide ((4000 : Int) < a.length) = true := by simp; omega
      have hgt' : 4000 < a.length := by omega
      have E := Lib.hid (validRel_len (ar := ar) hlen)
      go_enter Try.func49, Try.ntmps49
      go_wp2_with (go_at_call 33; refine (l1In_c _ _ _ _).mono ?_; rintro e w' ⟨rfl, rfl⟩)
      go_ret
      exact ⟨ret_bool E.out.symm, below1 _ _⟩

end Go.Proofs.Ytnijkpbecgifjaa
