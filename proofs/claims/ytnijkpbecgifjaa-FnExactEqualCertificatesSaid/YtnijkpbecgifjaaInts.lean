/-
  Contracts of the small functions over ints and lists of ints: each returns what the Lean function of the same meaning gives; memory that was there is as it was. Conditions: the arguments read as lists of ints.
-/
import Derived.Test.YtnijkpbecgifjaaWords
import Derived.Test.YtnijkpbecgifjaaProg
import Derived.WalkKit
import Derived.Deep.LoopGhost
import Derived.Deep.OwnRows
import Derived.Deep.QuietTactic
import Derived.BigQuiet
import Derived.Lib.Hide
namespace Go.Proofs.Ytnijkpbecgifjaa
open Go.RowKit

theorem l1In_c (n low high : Int) (w : World) : Calls Try.prog 33 #[.int .i64 n, .int .i64 low, .int .i64 high] w fun e w' => e = .returned (.bool (inB n low high)) ∧ w = w' := by
  by_cases h : low ≤ n
  · have hd : decide (low ≤ n) = true := by simpa using h
    go_enter Try.func33, Try.ntmps33
    go_wp2
    go_ret
    exact ⟨ret_bool (by simp [inB, hd]), rfl⟩
  · have hd : decide (low ≤ n) = false := by simpa using h
    go_enter Try.func33, Try.ntmps33
    go_wp2
    go_ret
    exact ⟨ret_bool (by simp [inB, hd]), rfl⟩

theorem within_c (n low high : Int) (w : World) : Calls Try.prog 34 #[.int .i64 n, .int .i64 low, .int .i64 high] w fun e w' => e = .returned (.bool (inB n low high)) ∧ w = w' := by
  by_cases h : low ≤ n
  · have hd : decide (low ≤ n) = true := by simpa using h
    go_enter Try.func34, Try.ntmps34
    go_wp2
    go_ret
    exact ⟨ret_bool (by simp [inB, hd]), rfl⟩
  · have hd : decide (low ≤ n) = false := by simpa using h
    go_enter Try.func34, Try.ntmps34
    go_wp2
    go_ret
    exact ⟨ret_bool (by simp [inB, hd]), rfl⟩

theorem compareInts_c (a b : Int) (w : World) : Calls Try.prog 57 #[.int .i64 a, .int .i64 b] w fun e w' => e = .returned (.int .i64 (cmpI a b)) ∧ w = w' := by
  by_cases h : a < b
  · go_enter Try.func57, Try.ntmps57
    go_wp2
    go_ret
    exact ⟨ret_int (by rw [cmpI, if_pos (by omega)]), rfl⟩
  · by_cases h' : b < a
    · go_enter Try.func57, Try.ntmps57
      go_wp2
      go_ret
      exact ⟨ret_int (by rw [cmpI, if_neg (by omega), if_pos (by omega)]), rfl⟩
    · go_enter Try.func57, Try.ntmps57
      go_wp2
      go_ret
      exact ⟨ret_int (by rw [cmpI, if_neg (by omega), if_neg (by omega)]), rfl⟩

set_option maxHeartbeats 400000 in
theorem eqIntS_c (va vb : Value) (a b : List Int) (w : World) (ha : Ints w va a) (hb : Ints w vb b) :
    Calls Try.prog 15 #[va, vb] w fun e w' => e = .returned (.bool (a == b)) ∧ Same w w' := by
  obtain ⟨A, ca, rfl, hca, ha⟩ := ha.at_
  obtain ⟨B, cb, rfl, hcb, hb⟩ := hb.at_
  by_cases hlen : a.length = b.length
  · have hne : ((a.length : Int) != (b.length : Int)) = false := by simp [hlen]
    have hle : a.length ≤ b.length := by omega
    have HL := Lib.hid hlen; clear hlen
    go_enter Try.func15, Try.ntmps15
    go_wp2
    go_loopw [5] (fun i wr => ∃ k : Nat, k ≤ a.length ∧ i = .int .i64 k ∧ a.take k = b.take k ∧ Same w wr) (fun i _ => a.length - (intOf i).toNat)
    case atStart => exact ⟨0, by omega, rfl, by simp, Same.refl _⟩
    case round =>
      obtain ⟨k, hk, rfl, htk, hsm⟩ := hrel
      have HT := Lib.hid htk; clear htk
      by_cases hlt : k < a.length
      · obtain ⟨ba, oa, rfl, hA⟩ := ha (by omega)
        obtain ⟨bb, ob, rfl, hB⟩ := hb (by omega)
        have ga := (hsm.cell _).trans (hA k (by omega))
        have gb := (hsm.cell _).trans (hB k (by omega))
        have hlt' : k < b.length := by omega
        clear hA hB
        go_wp2
        go_quiet (fail)
        go_wp2
        · have hd : (a[k] != b[k]) = true := by assumption
          go_ret
          exact ⟨ret_bool (ne_of_getElem hlt hlt' (by simpa using hd)).symm, hsm.drewN _⟩
        · have hd : (a[k] != b[k]) = false := by assumption
          refine ⟨⟨k + 1, by omega, by go_num, take_snoc_eq hlt hlt' HT.out (by simpa using hd), hsm.drewN _⟩, by simp [intOf]; omega⟩
      · go_wp2
        go_ret
        have e : k = a.length := by omega
        subst e
        exact ⟨ret_bool (eq_of_take HL.out HT.out).symm, hsm⟩
  · have hne : ((a.length : Int) != (b.length : Int)) = true := by rw [bne_iff_ne]; omega
    have HL := Lib.hid hlen; clear hlen
    go_enter Try.func15, Try.ntmps15
    go_wp2
    go_ret
    exact ⟨ret_bool (ne_of_length HL.out).symm, Same.refl _⟩

set_option maxHeartbeats 400000 in
theorem sameInts_c (va vb : Value) (a b : List Int) (w : World) (ha : Ints w va a) (hb : Ints w vb b) :
    Calls Try.prog 44 #[va, vb] w fun e w' => e = .returned (.bool (a == b)) ∧ Same w w' := by
  obtain ⟨A, ca, rfl, hca, ha⟩ := ha.at_
  obtain ⟨B, cb, rfl, hcb, hb⟩ := hb.at_
  by_cases hlen : a.length = b.length
  · have hne : ((a.length : Int) != (b.length : Int)) = false := by simp [hlen]
    have hle : a.length ≤ b.length := by omega
    have HL := Lib.hid hlen; clear hlen
    go_enter Try.func44, Try.ntmps44
    go_wp2
    go_loopw [5, 13] (fun _ i wr => ∃ k : Nat, k ≤ a.length ∧ i = .int .i64 k ∧ a.take k = b.take k ∧ Same w wr) (fun _ i _ => a.length - (intOf i).toNat)
    case atStart => exact ⟨0, by omega, rfl, by simp, Same.refl _⟩
    case round =>
      obtain ⟨k, hk, rfl, htk, hsm⟩ := hrel
      have HT := Lib.hid htk; clear htk
      by_cases hlt : k < a.length
      · obtain ⟨ba, oa, rfl, hA⟩ := ha (by omega)
        obtain ⟨bb, ob, rfl, hB⟩ := hb (by omega)
        have ga := (hsm.cell _).trans (hA k (by omega))
        have gb := (hsm.cell _).trans (hB k (by omega))
        have hlt' : k < b.length := by omega
        clear hA hB
        go_wp2
        go_quiet (fail)
        go_wp2
        · have hd : (a[k] != b[k]) = true := by assumption
          go_ret
          exact ⟨ret_bool (ne_of_getElem hlt hlt' (by simpa using hd)).symm, hsm.drewN _⟩
        · have hd : (a[k] != b[k]) = false := by assumption
          refine ⟨⟨k + 1, by omega, by go_num, take_snoc_eq hlt hlt' HT.out (by simpa using hd), hsm.drewN _⟩, by simp [intOf]; omega⟩
      · go_wp2
        go_ret
        have e : k = a.length := by omega
        subst e
        exact ⟨ret_bool (eq_of_take HL.out HT.out).symm, hsm⟩
  · have hne : ((a.length : Int) != (b.length : Int)) = true := by rw [bne_iff_ne]; omega
    have HL := Lib.hid hlen; clear hlen
    go_enter Try.func44, Try.ntmps44
    go_wp2
    go_ret
    exact ⟨ret_bool (ne_of_length HL.out).symm, Same.refl _⟩

set_option maxHeartbeats 400000 in
theorem specCompareRows_c (va vb : Value) (a b : List Int) (w : World) (ha : Ints w va a) (hb : Ints w vb b) :
    Calls Try.prog 41 #[va, vb] w fun e w' => e = .returned (.int .i64 (cmpL a b)) ∧ Same w w' := by
  obtain ⟨A, ca, rfl, hca, ha⟩ := ha.at_
  obtain ⟨B, cb, rfl, hcb, hb⟩ := hb.at_
  go_enter Try.func41, Try.ntmps41
  go_wp2
  go_loopw [5] (fun i wr => ∃ k : Nat, k ≤ a.length ∧ k ≤ b.length ∧ i = .int .i64 k ∧ a.take k = b.take k ∧ Same w wr) (fun i _ => a.length - (intOf i).toNat)
  case atStart => exact ⟨0, by omega, by omega, rfl, by simp, Same.refl _⟩
  case round =>
    obtain ⟨k, hk, hk', rfl, htk, hsm⟩ := hrel
    have HT := Lib.hid htk; clear htk
    by_cases hlt : k < a.length
    · by_cases hlt' : k < b.length
      · obtain ⟨ba, oa, rfl, hA⟩ := ha (by omega)
        obtain ⟨bb, ob, rfl, hB⟩ := hb (by omega)
        have ga := (hsm.cell _).trans (hA k (by omega))
        have gb := (hsm.cell _).trans (hB k (by omega))
        have da : decide (k < a.length) = true := by simpa using hlt
        have db : decide (k < b.length) = true := by simpa using hlt'
        clear hA hB
        go_wp2
        go_quiet (fail)
        by_cases h1 : a[k] < b[k]
        · have d1 : decide (a[k] < b[k]) = true := by simpa using h1
          go_wp2
          go_ret
          exact ⟨ret_int (by rw [cmpL_at HT.out hlt hlt' (by omega), cmpI, if_pos h1]), hsm.drewN _⟩
        · have d1 : decide (a[k] < b[k]) = false := by simpa using h1
          go_wp2
          go_quiet (fail)
          by_cases h2 : b[k] < a[k]
          · have d2 : decide (b[k] < a[k]) = true := by simpa using h2
            go_wp2
            go_ret
            exact ⟨ret_int (by rw [cmpL_at HT.out hlt hlt' (by omega), cmpI, if_neg (by omega), if_pos h2]), by first | exact hsm.drewN _ | exact (hsm.drewN _).drewN _⟩
          · have d2 : decide (b[k] < a[k]) = false := by simpa using h2
            go_wp2
            refine ⟨⟨k + 1, by omega, by omega, by go_num, take_snoc_eq hlt hlt' HT.out (by omega), by first | exact hsm.drewN _ | exact (hsm.drewN _).drewN _⟩, by simp [intOf]; omega⟩
      · have da : decide (k < a.length) = true := by simpa using hlt
        have db : decide (k < b.length) = false := by simpa using hlt'
        have h1 : ¬ (a.length < b.length) := by omega
        have h2 : b.length < a.length := by omega
        go_wp2
        go_ret
        exact ⟨ret_int (by rw [cmpL_end HT.out hk hk' (by omega), cmpI, if_neg (by omega), if_pos (by omega)]), hsm⟩
    · have da : decide (k < a.length) = false := by simpa using hlt
      by_cases h1 : a.length < b.length
      · go_wp2
        go_ret
        exact ⟨ret_int (by rw [cmpL_end HT.out hk hk' (by omega), cmpI, if_pos (by omega)]), hsm⟩
      · have h2 : ¬ (b.length < a.length) := by omega
        go_wp2
        go_ret
        exact ⟨ret_int (by rw [cmpL_end HT.out hk hk' (by omega), cmpI, if_neg (by omega), if_neg (by omega)]), hsm⟩

set_option maxHeartbeats 400000 in
theorem implCompareRows_c (va vb : Value) (a b : List Int) (w : World) (ha : Ints w va a) (hb : Ints w vb b) :
    Calls Try.prog 56 #[va, vb] w fun e w' => e = .returned (.int .i64 (cmpL a b)) ∧ Same w w' := by
  obtain ⟨A, ca, rfl, hca, ha⟩ := ha.at_
  obtain ⟨B, cb, rfl, hcb, hb⟩ := hb.at_
  go_enter Try.func56, Try.ntmps56
  go_wp2
  go_loopw [5] (fun i wr => ∃ k : Nat, k ≤ a.length ∧ k ≤ b.length ∧ i = .int .i64 k ∧ a.take k = b.take k ∧ Same w wr) (fun i _ => a.length - (intOf i).toNat)
  case atStart => exact ⟨0, by omega, by omega, rfl, by simp, Same.refl _⟩
  case round =>
    obtain ⟨k, hk, hk', rfl, htk, hsm⟩ := hrel
    have HT := Lib.hid htk; clear htk
    by_cases hlt : k < a.length
    · by_cases hlt' : k < b.length
      · obtain ⟨ba, oa, rfl, hA⟩ := ha (by omega)
        obtain ⟨bb, ob, rfl, hB⟩ := hb (by omega)
        have ga := (hsm.cell _).trans (hA k (by omega))
        have gb := (hsm.cell _).trans (hB k (by omega))
        have da : decide (k < a.length) = true := by simpa using hlt
        have db : decide (k < b.length) = true := by simpa using hlt'
        clear hA hB
        go_wp2
        go_quiet (fail)
        by_cases h1 : a[k] = b[k]
        · have d1 : (a[k] != b[k]) = false := by simpa using h1
          have H1 := Lib.hid h1; clear h1
          go_wp2
          refine ⟨⟨k + 1, by omega, by omega, by go_num, take_snoc_eq hlt hlt' HT.out H1.out, by first | exact hsm.drewN _ | exact (hsm.drewN _).drewN _⟩, by simp [intOf]; omega⟩
        · have d1 : (a[k] != b[k]) = true := by simpa using h1
          have H1 := Lib.hid h1; clear h1
          go_wp2
          obtain ⟨w2, hw2⟩ : ∃ w2, w2 = wr.drewN nq := ⟨_, rfl⟩
          have hsm2 : Same w w2 := hw2 ▸ hsm.drewN _
          have ga2 : w2.cell? ⟨ba, oa + k, none⟩ = some (.int .i64 a[k]) := hw2 ▸ ga
          have gb2 : w2.cell? ⟨bb, ob + k, none⟩ = some (.int .i64 b[k]) := hw2 ▸ gb
          rw [← hw2]
          clear hw2 ga gb hsm
          go_quiet ((go_at_call 57; exact quiet_eq (compareInts_c _ _ _)))
          go_wp2
          go_ret
          exact ⟨ret_int (cmpL_at HT.out hlt hlt' H1.out).symm, hsm2.drewN _⟩
      · have da : decide (k < a.length) = true := by simpa using hlt
        have db : decide (k < b.length) = false := by simpa using hlt'
        go_wp2_with (go_at_call 57; refine (compareInts_c _ _ _).mono ?_; rintro e w' ⟨rfl, rfl⟩)
        go_ret
        exact ⟨ret_int (cmpL_end HT.out hk hk' (by omega)).symm, hsm⟩
    · have da : decide (k < a.length) = false := by simpa using hlt
      go_wp2_with (go_at_call 57; refine (compareInts_c _ _ _).mono ?_; rintro e w' ⟨rfl, rfl⟩)
      go_ret
      exact ⟨ret_int (cmpL_end HT.out hk hk' (by omega)).symm, hsm⟩

set_option maxHeartbeats 400000 in
theorem specAreValidValues_c (va : Value) (a : List Int) (w : World) (ha : Ints w va a) :
    Calls Try.prog 53 #[va] w fun e w' => e = .returned (.bool (vals a)) ∧ w = w' := by
  obtain ⟨A, ca, rfl, hca, ha⟩ := ha.at_
  go_enter Try.func53, Try.ntmps53
  go_wp2
  go_loop [3] (fun i => ∃ k : Nat, k ≤ a.length ∧ i = .int .i64 k ∧ vals (a.take k) = true) (fun i => a.length - (intOf i).toNat)
  case atStart => exact ⟨0, by omega, rfl, by simp [vals]⟩
  case round =>
    obtain ⟨k, hk, rfl, htk⟩ := hrel
    have HT := Lib.hid htk; clear htk
    by_cases hlt : k < a.length
    · obtain ⟨ba, oa, rfl, hA⟩ := ha (by omega)
      have ga := hA k (by omega)
      clear hA
      go_wp2_with (go_at_call 33; refine (l1In_c _ _ _ _).mono ?_; rintro e w' ⟨rfl, rfl⟩)
      · have hd : (!inB a[k] 0 99) = true := by assumption
        go_ret
        exact ⟨ret_bool (vals_no hlt (by simpa using hd)).symm, rfl⟩
      · have hd : (!inB a[k] 0 99) = false := by assumption
        refine ⟨⟨k + 1, by omega, by go_num, vals_snoc hlt HT.out (by simpa using hd)⟩, by simp [intOf]; omega⟩
    · go_wp2
      go_ret
      have e : k = a.length := by omega
      subst e
      exact ⟨ret_bool (by have := HT.out; rw [List.take_length] at this; exact this.symm), rfl⟩

set_option maxHeartbeats 400000 in
theorem implAreValidValues_c (va : Value) (a : List Int) (w : World) (ha : Ints w va a) :
    Calls Try.prog 55 #[va] w fun e w' => e = .returned (.bool (vals a)) ∧ w = w' := by
  obtain ⟨A, ca, rfl, hca, ha⟩ := ha.at_
  go_enter Try.func55, Try.ntmps55
  go_wp2
  go_loop [4, 7] (fun _ i => ∃ k : Nat, k ≤ a.length ∧ i = .int .i64 k ∧ vals (a.take k) = true) (fun _ i => a.length - (intOf i).toNat)
  case atStart => exact ⟨0, by omega, rfl, by simp [vals]⟩
  case round =>
    obtain ⟨k, hk, rfl, htk⟩ := hrel
    have HT := Lib.hid htk; clear htk
    by_cases hlt : k < a.length
    · obtain ⟨ba, oa, rfl, hA⟩ := ha (by omega)
      have ga := hA k (by omega)
      clear hA
      go_wp2_with (go_at_call 34; refine (within_c _ _ _ _).mono ?_; rintro e w' ⟨rfl, rfl⟩)
      · have hd : (!inB a[k] 0 99) = true := by assumption
        go_ret
        exact ⟨ret_bool (vals_no hlt (by simpa using hd)).symm, rfl⟩
      · have hd : (!inB a[k] 0 99) = false := by assumption
        refine ⟨⟨k + 1, by omega, by go_num, vals_snoc hlt HT.out (by simpa using hd)⟩, by simp [intOf]; omega⟩
    · go_wp2
      go_ret
      have e : k = a.length := by omega
      subst e
      exact ⟨ret_bool (by have := HT.out; rw [List.take_length] at this; exact this.symm), rfl⟩

end Go.Proofs.Ytnijkpbecgifjaa
