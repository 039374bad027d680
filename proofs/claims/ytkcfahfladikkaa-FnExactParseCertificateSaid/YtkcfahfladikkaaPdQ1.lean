/-
  Certificates read from text: the printed functions on numbers and rationals. On the printed functions; conditions: lengths and ranges.
-/
import Derived.Test.YtkcfahfladikkaaPcQ1
-- pure
namespace Go.Proofs.Ytkcfahfladikkaa
open Go.RowKit
set_option linter.unusedVariables false
set_option linter.unusedSimpArgs false
theorem nil_beq (x : List UInt8) : (x == []) = decide (x = []) := by cases x <;> rfl
theorem dig_add (b : UInt8) (h : 48 ≤ b.toNat) : IntKind.i64.wrap (IntKind.u8.wrap ((b.toNat : Int) - 48)) = ((b.toNat - 48 : Nat) : Int) := by
  have := b.toNat_lt
  rw [wrap_u (by omega), wrap_in (by omega)]; omega
theorem i_wide2 (x : List UInt8) (sg : Int) (hs : sg = 1 ∨ sg = -1) : impl_readWide_J2 sg x = some (if x = [] ∨ 11 < x.length ∨ digB x = false then (0, false) else (sg * (valB x : Nat), true)) := by
  unfold impl_readWide_J2
  rw [nil_beq]
  by_cases h0 : x = []
  · rw [decide_eq_true h0, cond_true, if_pos (.inl h0)]
  by_cases hl : 11 < x.length
  · rw [decide_eq_false h0, cond_false, decide_eq_true (by omega), cond_true, if_pos (.inr (.inl hl))]
  · rw [decide_eq_false h0, cond_false, decide_eq_false (by omega), cond_false]
    rw [dig_loop (x := x) ((0 : Int), false) (by omega) (fun k hk n rec hn => by
      have hb := x[k].toNat_lt
      rw [impl_readWide_B3]
      rw [lt_dec hk, geti_at hk]
      simp only [cond_true, obs]
      by_cases h1 : 48 ≤ x[k].toNat
      · by_cases h2 : x[k].toNat ≤ 57
        · rw [decide_eq_false (by omega : ¬ (x[k].toNat : Int) < 48), decide_eq_false (by omega : ¬ 57 < (x[k].toNat : Int)), decide_eq_true h1, decide_eq_true h2, dig_add _ h1, wrap_in (n := 10 * (n : Int)) (by omega), wrap_in (n := 10 * (n : Int) + _) (by omega), wrap_in (by omega)]
          simp only [cond_false, Bool.and_true, cond_true]
          congr 2
        · rw [decide_eq_false (by omega : ¬ (x[k].toNat : Int) < 48), decide_eq_true (by omega : 57 < (x[k].toNat : Int)), decide_eq_false h2]; simp
      · rw [decide_eq_true (by omega : (x[k].toNat : Int) < 48), decide_eq_false h1]; simp) (fun n rec => by rw [impl_readWide_B3]; rw [nlt_dec]; rfl), obs]
    cases hd : digB x with
    | false => simp
    | true =>
      have hv := val_rng hd (show x.length ≤ 11 by omega)
      have e : (10 : Nat) ^ 11 = 100000000000 := by decide
      rw [if_neg (by simp; exact ⟨h0, by omega⟩)]
      simp only [cond_true]
      rw [wrap_in (by rcases hs with rfl | rfl <;> omega)]
theorem i_long2 (x : List UInt8) (ng : Bool) : impl_readLong_J2 ng x = some (if x = [] ∨ 10 < x.length ∨ digB x = false then (0, false) else (if ng = true then -((valB x : Nat) : Int) else ((valB x : Nat) : Int), true)) := by
  unfold impl_readLong_J2
  rw [nil_beq]
  by_cases h0 : x = []
  · rw [decide_eq_true h0, cond_true, if_pos (.inl h0)]
  by_cases hl : 10 < x.length
  · rw [decide_eq_false h0, cond_false, decide_eq_true (by omega), cond_true, if_pos (.inr (.inl hl))]
  · rw [decide_eq_false h0, cond_false, decide_eq_false (by omega), cond_false]
    rw [dig_loop (x := x) ((0 : Int), false) (by omega) (fun k hk n rec hn => by
      have hb := x[k].toNat_lt
      rw [impl_readLong_B3]
      rw [lt_dec hk, geti_at hk]
      simp only [cond_true, obs]
      by_cases h1 : 48 ≤ x[k].toNat
      · by_cases h2 : x[k].toNat ≤ 57
        · rw [decide_eq_false (by omega : ¬ (x[k].toNat : Int) < 48), decide_eq_false (by omega : ¬ 57 < (x[k].toNat : Int)), decide_eq_true h1, decide_eq_true h2, dig_add _ h1, wrap_in (n := 10 * (n : Int)) (by omega), wrap_in (n := 10 * (n : Int) + _) (by omega), wrap_in (by omega)]
          simp only [cond_false, Bool.and_true, cond_true]
          congr 2
        · rw [decide_eq_false (by omega : ¬ (x[k].toNat : Int) < 48), decide_eq_true (by omega : 57 < (x[k].toNat : Int)), decide_eq_false h2]; simp
      · rw [decide_eq_true (by omega : (x[k].toNat : Int) < 48), decide_eq_false h1]; simp) (fun n rec => by rw [impl_readLong_B3]; rw [nlt_dec]; rfl), obs]
    cases hd : digB x with
    | false => simp
    | true =>
      have hv := val_rng hd (show x.length ≤ 11 by omega)
      have e : (10 : Nat) ^ 11 = 100000000000 := by decide
      rw [if_neg (by simp; exact ⟨h0, by omega⟩)]
      simp only [cond_true]
      cases ng
      · rfl
      · simp only [cond_true, if_true]
        unfold impl_readLong_J4
        rw [wrap_in (by omega), Int.zero_sub]
/-- a number and whether it was read -/
def okN : Option Int → Int × Bool
  | some v => (v, true)
  | none => (0, false)
theorem neg_beq (b : UInt8) (l : List UInt8) : ((b.toNat : Int) == 45) = negB (b :: l) := by
  unfold negB; rw [Bool.eq_iff_iff]; simp only [beq_iff_eq]; omega
theorem i_wide (s : List UInt8) : impl_readWide s = some (okN (rdB 11 s)) := by
  unfold impl_readWide rdB magB sgB
  cases s with
  | nil =>
    show impl_readWide_J1 [] false = _
    unfold impl_readWide_J1
    rw [cond_false, i_wide2 [] 1 (.inl rfl)]; rfl
  | cons b l =>
    rw [nil_beq, decide_eq_false (by simp), Bool.not_false, cond_true, show geti (b :: l) 0 = some b from rfl, obs, neg_beq b l]
    unfold impl_readWide_J1
    cases hn : negB (b :: l) with
    | true =>
      rw [cond_true, chk_pos (by simp only [List.length_cons]; omega), sub_one, i_wide2 _ _ (.inr rfl)]
      simp only [if_true, List.tail_cons]
      split <;> simp [okN]
    | false =>
      rw [cond_false, i_wide2 _ _ (.inl rfl)]
      simp only [Bool.false_eq_true, if_false]
      split <;> simp [okN]
theorem i_long (s : List UInt8) : impl_readLong s = some (okN (rdB 10 s)) := by
  unfold impl_readLong rdB magB sgB
  cases s with
  | nil =>
    show impl_readLong_J1 [] false = _
    unfold impl_readLong_J1
    rw [cond_false, i_long2 [] false]; rfl
  | cons b l =>
    rw [nil_beq, decide_eq_false (by simp), Bool.not_false, cond_true, show geti (b :: l) 0 = some b from rfl, obs, neg_beq b l]
    unfold impl_readLong_J1
    cases hn : negB (b :: l) with
    | true =>
      rw [cond_true, chk_pos (by simp only [List.length_cons]; omega), sub_one, i_long2 _ _]
      simp only [if_true, List.tail_cons]
      split <;> simp [okN]
    | false =>
      rw [cond_false, i_long2 _ _]
      simp only [Bool.false_eq_true, if_false]
      split <;> simp [okN]
/-! ### rationals -/
theorem gcd_loop : ∀ (f : Nat) (a b : Int), 0 ≤ a → 0 ≤ b → b.toNat < f → ∃ g, loopF spec_l2Gcd_B1 f (a, b) = some g ∧ loopF impl_gcd_B1 f (a, b) = some g
  | 0, a, b, _, _, h => absurd h (by omega)
  | f + 1, a, b, ha, hb, h => by
    rw [loopF_succ, loopF_succ, spec_l2Gcd_B1, impl_gcd_B1]
    by_cases h0 : b = 0
    · rw [show (b != 0) = false by simp [h0]]; exact ⟨a, rfl, rfl⟩
    · have h1 : 0 ≤ a.tmod b := Int.tmod_nonneg _ ha
      have h2 : a.tmod b < b := Int.tmod_lt_of_pos a (by omega)
      rw [show (b != 0) = true by simp [h0], cond_true, cond_true, chk_pos h0, chk_pos h0]
      exact gcd_loop f b (a.tmod b) hb h1 (by omega)
theorem gcd_ok {a b : Int} (ha : 0 ≤ a) (hb : 0 ≤ b) (hl : b ≤ 1000000000) : ∃ g, spec_l2Gcd a b = some g ∧ impl_gcd a b = some g := by
  obtain ⟨g, h1, h2⟩ := gcd_loop fz a b ha hb (by unfold fz; omega)
  exact ⟨g, by unfold spec_l2Gcd; rw [h1]; rfl, by unfold impl_gcd; rw [h2]; rfl⟩
def vRat (r : Int × Int) : Bool := (spec_IsValidRational r).getD false
theorem rat_ok {r : Int × Int} : spec_IsValidRational r = some (vRat r) ∧ impl_IsValidRational r = some (vRat r) ∧ (vRat r = true → r.1.natAbs ≤ 1000000000 ∧ r.2.natAbs ≤ 1000000000) := by
  have key : ∃ v, spec_IsValidRational r = some v ∧ impl_IsValidRational r = some v ∧ (v = true → r.1.natAbs ≤ 1000000000 ∧ r.2.natAbs ≤ 1000000000) := by
    unfold spec_IsValidRational impl_IsValidRational
    rw [s_l1In, i_within, obs, obs]
    cases h2 : btw r.2 1 1000000000 with
    | false => exact ⟨false, rfl, rfl, fun h => by cases h⟩
    | true =>
      rw [cond_true, cond_true, s_l1In, i_within, obs, obs]
      cases h1 : btw r.1 (-1000000000) 1000000000 with
      | false => exact ⟨false, rfl, rfl, fun h => by cases h⟩
      | true =>
        unfold btw at h1 h2
        simp only [Bool.and_eq_true, decide_eq_true_eq] at h1 h2
        unfold impl_abs
        rw [wrap_in (n := 0 - r.1) (by omega), cond_true, cond_true, obs]
        obtain ⟨g, e1, e2⟩ := gcd_ok (a := if r.1 < 0 - r.1 then 0 - r.1 else r.1) (b := r.2) (by split <;> omega) (by omega) (by omega)
        rw [e1, e2]
        exact ⟨g == 1, rfl, rfl, fun _ => ⟨by omega, by omega⟩⟩
  obtain ⟨v, h1, h2, h3⟩ := key
  have e : vRat r = v := by unfold vRat; rw [h1]; rfl
  rw [e]
  exact ⟨h1, h2, h3⟩
theorem rat_bd (r : Int × Int) (h : vRat r = true) : r.1.natAbs ≤ 1000000000 ∧ r.2.natAbs ≤ 1000000000 := rat_ok.2.2 h
theorem s_frat (r : Int × Int) : spec_FormatRational r = some (frB vRat r) := by
  unfold spec_FormatRational frB
  rw [rat_ok.1, obs]
  cases h : vRat r with
  | false => rfl
  | true =>
    obtain ⟨h1, h2⟩ := rat_bd r h
    have i1 : InI r.1 := by unfold InI; omega
    have i2 : InI r.2 := by unfold InI; omega
    have l1 := decI_len i1
    have l2 := decI_len i2
    rw [Bool.not_true, cond_false, if_pos rfl, s_dec10 i1, s_dec10 i2, obs, obs, obs]
    by_cases hd : r.2 = 1
    · rw [if_pos hd, show (r.2 == 1) = true by simp [hd], cond_true]
    · rw [if_neg hd, show (r.2 == 1) = false by simp [hd], cond_false, chk_pos (by simp only [List.length_singleton]; unfold lim; omega), chk_pos (by simp only [List.length_append, List.length_singleton]; unfold lim; omega)]
      simp
theorem i_frat (r : Int × Int) : impl_FormatRational r = some (frB vRat r) := by
  unfold impl_FormatRational frB
  rw [rat_ok.2.1, obs]
  cases h : vRat r with
  | false => rfl
  | true =>
    obtain ⟨h1, h2⟩ := rat_bd r h
    have i1 : InI r.1 := by unfold InI; omega
    have i2 : InI r.2 := by unfold InI; omega
    have l1 := decI_len i1
    have l2 := decI_len i2
    rw [Bool.not_true, cond_false, if_pos rfl, i_fmt i1, i_fmt i2, obs, obs, obs]
    by_cases hd : r.2 = 1
    · rw [if_pos hd, show (r.2 == 1) = true by simp [hd], cond_true]
    · rw [if_neg hd, show (r.2 == 1) = false by simp [hd], cond_false, chk_pos (by simp only [List.length_singleton]; unfold lim; omega), chk_pos (by simp only [List.length_append, List.length_singleton]; unfold lim; omega)]
      simp
theorem fr_len (r : Int × Int) : (frB vRat r).length ≤ 41 := by
  unfold frB
  split
  · rename_i h
    obtain ⟨h1, h2⟩ := rat_bd r h
    have l1 := decI_len (n := r.1) (by unfold InI; omega)
    have l2 := decI_len (n := r.2) (by unfold InI; omega)
    split
    · omega
    · simp only [List.length_append, List.length_cons]; omega
  · simp
/-- a rational and whether it was read -/
def okQ : Option (Int × Int) → (Int × Int) × Bool
  | some v => (v, true)
  | none => ((0, 0), false)
theorem at_loop {s : List UInt8} (hl : s.length ≤ 1048576) : ∀ (d k f : Nat), k + d = s.length → d < f → loopF (spec_ParseRational_B1 s) f (k : Int) = some ((k + (befB 47 (s.drop k)).length : Nat) : Int)
  | d, k, 0, _, hf => absurd hf (by omega)
  | 0, k, f + 1, hk, hf => by
    obtain rfl : k = s.length := by omega
    rw [loopF_succ, spec_ParseRational_B1, nlt_dec, List.drop_length]; rfl
  | d + 1, k, f + 1, hk, hf => by
    have hk' : k < s.length := by omega
    rw [loopF_succ, spec_ParseRational_B1, lt_dec hk', cond_true, geti_at hk', obs, List.drop_eq_getElem_cons hk', befB]
    have hb : (((s[k]).toNat : Int) != 47) = !decide (s[k] = 47) := by rw [bne, byte_eq (c := 47) (a := 47) rfl]
    rw [hb]
    by_cases h : s[k] = 47
    · rw [decide_eq_true h, if_pos h]; rfl
    · rw [decide_eq_false h, if_neg h, Bool.not_false, cond_true, wrap_in (by omega), show ((k : Int) + 1) = ((k + 1 : Nat) : Int) by simp, at_loop hl d (k + 1) f (by omega) (by omega), List.length_cons]
      congr 2; omega
theorem s_prat2 {s : List UInt8} {a b : Int} : spec_ParseRational_J2 s a b = some (okQ (if frB vRat (a, b) = s ∧ s ≠ [] then some (a, b) else none)) := by
  unfold spec_ParseRational_J2
  rw [s_frat, obs, nil_beq]
  by_cases h1 : frB vRat (a, b) = s
  · rw [h1, beq_self_eq_true, Bool.not_true, cond_false]
    by_cases h2 : s = []
    · rw [decide_eq_true h2, cond_true, if_neg (fun h => h.2 h2)]; rfl
    · rw [decide_eq_false h2, cond_false, if_pos ⟨rfl, h2⟩]; rfl
  · rw [show (frB vRat (a, b) == s) = false by simp [h1], Bool.not_false, cond_true, if_neg (fun h => h1 h.1)]; rfl
theorem s_prat {s : List UInt8} (hl : s.length ≤ 1048576) : spec_ParseRational s = some (okQ (rtB vRat s)) := by
  unfold spec_ParseRational rtB rtC
  have hb := bef_aft 47 s
  rw [show (0 : Int) = ((0 : Nat) : Int) from rfl, at_loop hl s.length 0 fz (by omega) (by unfold fz; omega), obs, List.drop_zero, Nat.zero_add]
  cases ha : aftB 47 s with
  | none =>
    rw [ha] at hb
    simp only at hb ⊢
    rw [hb, chk_pos (by omega), sub_nat, List.take_length, List.drop_zero, s_num, obs, nlt_dec, cond_false, s_prat2]
  | some t =>
    rw [ha] at hb
    simp only at hb ⊢
    have hlen : s.length = (befB 47 s).length + (t.length + 1) := by
      have := congrArg List.length hb
      simpa using this
    have h1 : s.take (befB 47 s).length = befB 47 s := by
      have := congrArg (List.take (befB 47 s).length) hb
      rw [this, List.take_left]
    have h2 : s.drop ((befB 47 s).length + 1) = t := by
      have := congrArg (List.drop ((befB 47 s).length + 1)) hb
      rw [this, List.drop_append]
      simp
    rw [chk_pos (by omega), sub_nat, h1, List.drop_zero, s_num, obs, lt_dec (by omega), cond_true, wrap_in (by omega), show (((befB 47 s).length : Int) + 1) = (((befB 47 s).length + 1 : Nat) : Int) by simp, chk_pos (by omega), sub_end, h2, s_num, obs, s_prat2]
theorem i_prat2 {s : List UInt8} {ws : List (List UInt8)} {v : Int × Bool} {b : Int} (hn : ws.length ≤ 2) : impl_ParseRational_J2 s ws v b true = some (okQ (if frB vRat (v.1, b) = s ∧ s ≠ [] then some (v.1, b) else none)) := by
  unfold impl_ParseRational_J2
  rw [Bool.not_true, cond_false, decide_eq_false (by omega), cond_false, i_frat, nil_beq, obs]
  by_cases h2 : s = []
  · rw [decide_eq_true h2, cond_true, if_neg (fun h => h.2 h2)]; rfl
  · rw [decide_eq_false h2, cond_false]
    by_cases h1 : frB vRat (v.1, b) = s
    · rw [h1, beq_self_eq_true, Bool.not_true, cond_false, if_pos ⟨rfl, h2⟩]; rfl
    · rw [show (frB vRat (v.1, b) == s) = false by simp [h1], Bool.not_false, cond_true, if_neg (fun h => h1 h.1)]; rfl
theorem i_prat3 {s : List UInt8} {ws : List (List UInt8)} {v : Int × Bool} {b : Int} {ok : Bool} (h : ok = false ∨ 2 < ws.length) : impl_ParseRational_J2 s ws v b ok = some (okQ none) := by
  unfold impl_ParseRational_J2
  cases ok with
  | false => rfl
  | true =>
    rcases h with h | h
    · cases h
    · rw [Bool.not_true, cond_false, decide_eq_true (by omega), cond_true]; rfl
theorem i_prat {s : List UInt8} (hl : s.length ≤ 1048576) : impl_ParseRational s = some (okQ (riB vRat s)) := by
  unfold impl_ParseRational riB
  rw [i_cut 47 (a := 47) rfl hl, obs]
  cases hc : cutB 47 s with
  | nil => exact absurd hc (cut_ne 47 s)
  | cons w ws =>
    rw [show geti (w :: ws) 0 = some w from rfl, obs, i_long, obs]
    cases hr : rdB 10 w with
    | none =>
      show impl_ParseRational_J1 s (w :: ws) (0, false) false = _
      unfold impl_ParseRational_J1
      rw [cond_false, i_prat3 (.inl rfl)]
      cases ws with
      | nil => simp only [hr]
      | cons t ts => cases ts with
        | nil => simp only [hr]
        | cons _ _ => rfl
    | some n =>
      show cond true (impl_ParseRational_J1 s (w :: ws) (n, true) _) _ = _
      rw [cond_true]
      unfold impl_ParseRational_J1
      cases ws with
      | nil =>
        rw [show (((List.length [w] : Nat) : Int) == 2) = false from rfl, cond_false, i_prat2 (by simp)]
        simp only [hr]
      | cons t ts =>
        cases ts with
        | nil =>
          rw [show (((List.length [w, t] : Nat) : Int) == 2) = true from rfl, cond_true, show geti [w, t] 1 = some t from rfl, obs, i_long, obs]
          cases hr2 : rdB 10 t with
          | none => rw [show okN none = (0, false) from rfl, i_prat3 (.inl rfl)]; simp only [hr, hr2]
          | some d => rw [show okN (some d) = (d, true) from rfl, i_prat2 (by simp)]; simp only [hr, hr2]
        | cons t2 ts =>
          have e : (((List.length (w :: t :: t2 :: ts) : Nat) : Int) == 2) = false := by simp only [List.length_cons]; rw [beq_eq_false_iff_ne]; omega
          rw [e, cond_false, i_prat3 (.inr (by simp only [List.length_cons]; omega))]
theorem prat_same {s : List UInt8} (hl : s.length ≤ 1048576) : impl_ParseRational s = some (okQ (rtB vRat s)) := by rw [i_prat hl, rt_same vRat rat_bd]
end Go.Proofs.Ytkcfahfladikkaa
