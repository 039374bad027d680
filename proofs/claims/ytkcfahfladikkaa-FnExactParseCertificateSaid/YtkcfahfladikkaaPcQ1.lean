/-
  Certificates read from text: the printed functions compute the plain ones. On the printed functions; conditions: the text's length.
-/
import Derived.Test.YtkcfahfladikkaaPbQ1
-- pure
namespace Go.Proofs.Ytkcfahfladikkaa
open Go.RowKit
set_option linter.unusedVariables false
set_option linter.unusedSimpArgs false
theorem sub_end (s : List UInt8) (k : Nat) : subl s (k : Int) (List.length s : Int) = s.drop k := by
  unfold subl; rw [Int.toNat_natCast, Int.toNat_natCast, List.take_length]
theorem sub_nat (s : List UInt8) (j k : Nat) : subl s (j : Int) (k : Int) = (s.take k).drop j := by
  unfold subl; rw [Int.toNat_natCast, Int.toNat_natCast]
theorem take_more {s : List UInt8} {j k : Nat} (hj : j ≤ k) (hk : k < s.length) : (s.take (k + 1)).drop j = (s.take k).drop j ++ [s[k]] := by
  rw [List.take_succ_eq_append_getElem hk, List.drop_append_of_le_length (by rw [List.length_take]; omega)]
theorem self_nil (s : List UInt8) (k : Nat) : (s.take k).drop k = [] := List.drop_eq_nil_of_le (by rw [List.length_take]; omega)
theorem byte_eq {b c : UInt8} {a : Int} (ha : (c.toNat : Int) = a) : ((b.toNat : Int) == a) = decide (b = c) := by
  subst ha
  by_cases h : b = c
  · subst h; simp
  · have : ¬ b.toNat = c.toNat := fun e => h (UInt8.toNat_inj.1 e)
    simp [h]; omega
theorem s_cut_loop {s : List UInt8} {c : UInt8} {a : Int} (ha : (c.toNat : Int) = a) (hl : s.length ≤ 1048576) : ∀ (d i j : Nat) (out : List (List UInt8)) (f : Nat), i + d = s.length → j ≤ i → out.length ≤ i → d < f →
    ∃ out' j', loopF (spec_l5Cut_B1 s a) f (out, (j : Int), (i : Int)) = some (out', ((j' : Nat) : Int)) ∧ j' ≤ s.length ∧ out'.length ≤ s.length ∧ out' ++ [s.drop j'] = out ++ preB ((s.take i).drop j) (cutB c (s.drop i))
  | d, i, j, out, 0, _, _, _, hf => absurd hf (by omega)
  | 0, i, j, out, f + 1, hi, hj, ho, hf => by
    obtain rfl : i = s.length := by omega
    refine ⟨out, j, ?_, hj, ho, ?_⟩
    · rw [loopF_succ, spec_l5Cut_B1]; rw [nlt_dec]; rfl
    · rw [List.drop_length, List.take_length]; simp [cutB, preB]
  | d + 1, i, j, out, f + 1, hi, hj, ho, hf => by
    have hk : i < s.length := by omega
    have hw : IntKind.i64.wrap ((i : Int) + 1) = ((i + 1 : Nat) : Int) := by rw [wrap_in (by omega)]; simp
    rw [loopF_succ, spec_l5Cut_B1]
    rw [lt_dec hk, cond_true, geti_at hk, obs, byte_eq ha, List.drop_eq_getElem_cons hk, cutB]
    by_cases h : s[i] = c
    · rw [decide_eq_true h, cond_true, if_pos h, chk_pos (by omega), chk_pos (by simp only [List.length_singleton]; unfold lim; omega), spec_l5Cut_J2, hw, sub_nat]
      obtain ⟨out', j', h1, h2, h3, h4⟩ := s_cut_loop ha hl d (i + 1) (i + 1) (out ++ [(s.take i).drop j]) f (by omega) (by omega) (by simp; omega) (by omega)
      refine ⟨out', j', h1, h2, h3, ?_⟩
      rw [h4, self_nil, pre_cut]
      simp [preB]
    · rw [decide_eq_false h, cond_false, if_neg h, spec_l5Cut_J2, hw]
      obtain ⟨out', j', h1, h2, h3, h4⟩ := s_cut_loop ha hl d (i + 1) j out f (by omega) (by omega) (by omega) (by omega)
      refine ⟨out', j', h1, h2, h3, ?_⟩
      rw [h4, pre_pre, take_more hj hk]
theorem s_cut {s : List UInt8} (c : UInt8) {a : Int} (ha : (c.toNat : Int) = a) (hl : s.length ≤ 1048576) : spec_l5Cut s a = some (cutB c s) := by
  unfold spec_l5Cut
  obtain ⟨out', j', h1, h2, h3, h4⟩ := s_cut_loop ha hl s.length 0 0 [] fz (by omega) (by omega) (by simp) (lt_fz (by unfold lim; omega))
  rw [show ((([] : List (List UInt8)), (0 : Int), (0 : Int))) = ([], ((0 : Nat) : Int), ((0 : Nat) : Int)) from rfl, h1, obs]
  simp only
  rw [chk_pos (by omega), chk_pos (by simp only [List.length_singleton]; unfold lim; omega), sub_end, h4]
  simp only [List.nil_append, List.take_zero, List.drop_zero, List.drop_nil, pre_cut]
theorem i_cut_loop {s : List UInt8} {c : UInt8} {a : Int} (ha : (c.toNat : Int) = a) (hl : s.length ≤ 1048576) : ∀ (d i j : Nat) (out : List (List UInt8)) (f : Nat), i + d = s.length → j ≤ i → out.length ≤ i → d + 1 < f →
    loopF (impl_split_B1 s a) f (out, (j : Int), (i : Int)) = some (out ++ preB ((s.take i).drop j) (cutB c (s.drop i)))
  | d, i, j, out, 0, _, _, _, hf => absurd hf (by omega)
  | d, i, j, out, 1, _, _, _, hf => absurd hf (by omega)
  | 0, i, j, out, f + 2, hi, hj, ho, hf => by
    obtain rfl : i = s.length := by omega
    have hw : IntKind.i64.wrap ((s.length : Int) + 1) = ((s.length + 1 : Nat) : Int) := by rw [wrap_in (by omega)]; simp
    rw [loopF_succ, impl_split_B1]
    rw [decide_eq_true (by omega), cond_true, beq_self_eq_true, cond_true, impl_split_J2, cond_true, chk_pos (by omega), chk_pos (by simp only [List.length_singleton]; unfold lim; omega), impl_split_J3, hw, loopF_succ, impl_split_B1]
    rw [decide_eq_false (by omega), cond_false, sub_end, List.drop_length, List.take_length]; simp [cutB, preB]
  | d + 1, i, j, out, f + 2, hi, hj, ho, hf => by
    have hk : i < s.length := by omega
    have hw : IntKind.i64.wrap ((i : Int) + 1) = ((i + 1 : Nat) : Int) := by rw [wrap_in (by omega)]; simp
    rw [loopF_succ, impl_split_B1]
    have hne : ((i : Int) == (s.length : Int)) = false := by simp; omega
    rw [decide_eq_true (by omega), cond_true, hne, cond_false, geti_at hk, obs, byte_eq ha, List.drop_eq_getElem_cons hk, cutB, impl_split_J2]
    by_cases h : s[i] = c
    · rw [decide_eq_true h, cond_true, if_pos h, chk_pos (by omega), chk_pos (by simp only [List.length_singleton]; unfold lim; omega), impl_split_J3, hw, sub_nat]
      rw [i_cut_loop ha hl d (i + 1) (i + 1) (out ++ [(s.take i).drop j]) (f + 1) (by omega) (by omega) (by simp; omega) (by omega), self_nil, pre_cut]
      simp [preB]
    · rw [decide_eq_false h, cond_false, if_neg h, impl_split_J3, hw]
      rw [i_cut_loop ha hl d (i + 1) j out (f + 1) (by omega) (by omega) (by omega) (by omega), pre_pre, take_more hj hk]
theorem i_cut {s : List UInt8} (c : UInt8) {a : Int} (ha : (c.toNat : Int) = a) (hl : s.length ≤ 1048576) : impl_split s a = some (cutB c s) := by
  unfold impl_split
  rw [show ((([] : List (List UInt8)), (0 : Int), (0 : Int))) = ([], ((0 : Nat) : Int), ((0 : Nat) : Int)) from rfl, i_cut_loop ha hl s.length 0 0 [] fz (by omega) (by omega) (by simp) (by unfold fz; omega), obs]
  simp only [List.nil_append, List.take_zero, List.drop_zero, List.drop_nil, pre_cut]
/-! ### digits -/
theorem dig_loop {O : Type} {B : (Int × Int → Option (Sum Int O)) → Int × Int → Option (Sum Int O)} {x : List UInt8} (bad : O) (hx : x.length ≤ 11)
    (h1 : ∀ k (hk : k < x.length) (n : Nat) rec, n < 100000000000 → B rec ((n : Int), (k : Int)) = cond (decide (48 ≤ x[k].toNat) && decide (x[k].toNat ≤ 57)) (rec (((10 * n + (x[k].toNat - 48) : Nat) : Int), ((k + 1 : Nat) : Int))) (some (.inr bad)))
    (h2 : ∀ (n : Nat) rec, B rec ((n : Int), (x.length : Int)) = some (.inl (n : Int))) : loopF B fz (0, 0) = some (cond (digB x) (.inl ((valB x : Nat) : Int)) (.inr bad)) := by
  have key : ∀ (d k n f : Nat), k + d = x.length → n < 10 ^ k → d < f → loopF B f ((n : Int), (k : Int)) = some (cond (digB (x.drop k)) (.inl ((((x.drop k).foldl (fun n b => 10 * n + (b.toNat - 48)) n : Nat)) : Int)) (.inr bad)) := by
    intro d
    induction d with
    | zero =>
      intro k n f hk hn hf
      obtain rfl : k = x.length := by omega
      cases f with
      | zero => omega
      | succ f => rw [loopF_succ, h2, List.drop_length]; rfl
    | succ d ih =>
      intro k n f hk hn hf
      have hk' : k < x.length := by omega
      cases f with
      | zero => omega
      | succ f =>
        have hb : (10 : Nat) ^ k ≤ 10 ^ 10 := Nat.pow_le_pow_right (by omega) (by omega)
        have e10 : (10 : Nat) ^ 10 = 10000000000 := by decide
        rw [loopF_succ, h1 k hk' n _ (by omega), List.drop_eq_getElem_cons hk']
        unfold digB
        rw [List.all_cons, List.foldl_cons]
        cases hd : decide (48 ≤ x[k].toNat) && decide (x[k].toNat ≤ 57) with
        | false => rfl
        | true =>
          simp only [Bool.and_eq_true, decide_eq_true_eq] at hd
          rw [cond_true, ih (k + 1) _ f (by omega) (by rw [Nat.pow_succ]; omega) (by omega), Bool.true_and]
          rfl
  have := key x.length 0 0 fz (by omega) (by simp) (by unfold fz; omega)
  rw [List.drop_zero] at this
  exact this
theorem wrap_b (b : UInt8) : IntKind.i64.wrap (b.toNat : Int) = (b.toNat : Int) := wrap_in (by have := b.toNat_lt; omega)
theorem wrap_u {n : Int} (h : 0 ≤ n ∧ n < 256) : IntKind.u8.wrap n = n := by
  unfold IntKind.wrap
  simp [IntKind.signed, IntKind.bits] <;> omega
theorem s_num2 (x : List UInt8) (sg : Int) (hs : sg = 1 ∨ sg = -1) : spec_l2Num_J2 x sg = some (if x.length < 12 ∧ digB x = true then sg * (valB x : Nat) else 0) := by
  unfold spec_l2Num_J2
  by_cases hl : x.length < 12
  · rw [dig_loop (x := x) (0 : Int) (by omega) (fun k hk n rec hn => by
      have hb := x[k].toNat_lt
      rw [spec_l2Num_B3]
      rw [lt_dec hk, decide_eq_true (by omega : (x.length : Int) < 12), geti_at hk]
      simp only [cond_true, obs]
      by_cases h1 : 48 ≤ x[k].toNat
      · by_cases h2 : x[k].toNat ≤ 57
        · rw [decide_eq_false (by omega : ¬ (x[k].toNat : Int) < 48), decide_eq_false (by omega : ¬ 57 < (x[k].toNat : Int)), decide_eq_true h1, decide_eq_true h2, wrap_b, wrap_in (n := (n : Int) * 10) (by omega), wrap_in (n := (n : Int) * 10 + _) (by omega), wrap_in (by omega), wrap_in (by omega)]
          simp only [cond_false, Bool.and_true, cond_true]
          congr 2
          omega
        · rw [decide_eq_false (by omega : ¬ (x[k].toNat : Int) < 48), decide_eq_true (by omega : 57 < (x[k].toNat : Int)), decide_eq_false h2]; simp
      · rw [decide_eq_true (by omega : (x[k].toNat : Int) < 48), decide_eq_false h1]; simp) (fun n rec => by rw [spec_l2Num_B3]; rw [nlt_dec]; rfl), obs]
    cases hd : digB x with
    | false => simp
    | true =>
      have hv := val_rng hd (show x.length ≤ 11 by omega)
      have e : (10 : Nat) ^ 11 = 100000000000 := by decide
      rw [if_pos ⟨hl, rfl⟩]
      simp only [cond_true]
      rw [wrap_in (by rcases hs with rfl | rfl <;> omega)]
  · have hne : (0 : Nat) < x.length := by omega
    have hfz : fz = (fz - 1) + 1 := by unfold fz; rfl
    rw [hfz, loopF_succ, spec_l2Num_B3]
    rw [decide_eq_true (by omega : (0 : Int) < (x.length : Int)), decide_eq_false (by omega : ¬ (x.length : Int) < 12), cond_true, cond_false, obs, if_neg (fun h => hl h.1)]
    simp only [Int.mul_zero]
    rw [wrap_in (by omega)]
theorem sub_one (b : UInt8) (l : List UInt8) : subl (b :: l) 1 (List.length (b :: l) : Int) = l := by
  have := sub_end (b :: l) 1
  simpa using this
theorem s_num (s : List UInt8) : spec_l2Num s = some (l2B s) := by
  unfold spec_l2Num l2B magB sgB
  cases s with
  | nil =>
    show spec_l2Num_J1 [] false = _
    unfold spec_l2Num_J1
    rw [cond_false, s_num2 [] 1 (.inl rfl)]; rfl
  | cons b l =>
    rw [decide_eq_true (by simp only [List.length_cons]; omega), cond_true, show geti (b :: l) 0 = some b from rfl, obs]
    have hb : ((b.toNat : Int) == 45) = negB (b :: l) := by
      unfold negB; rw [Bool.eq_iff_iff]; simp only [beq_iff_eq]; omega
    rw [hb]
    unfold spec_l2Num_J1
    cases hn : negB (b :: l) with
    | true =>
      rw [cond_true, chk_pos (by simp only [List.length_cons]; omega), sub_one, s_num2 _ _ (.inr rfl)]
      simp
    | false =>
      rw [cond_false, s_num2 _ _ (.inl rfl)]
      simp
end Go.Proofs.Ytkcfahfladikkaa
