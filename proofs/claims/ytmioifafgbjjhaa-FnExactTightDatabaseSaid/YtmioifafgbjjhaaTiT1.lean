/-
  The number of rows of a tight instance: the reference and the program agree. On the printed functions; conditions: lengths.
-/
import Derived.Test.YtmioifafgbjjhaaQuT1
namespace Go.Proofs.Ytmioifafgbjjhaa
open Go.RowKit
set_option linter.unusedSimpArgs false
theorem pow_le {b : Nat} (hb : 1 ≤ b) : ∀ {k e : Nat}, k ≤ e → b ^ k ≤ b ^ e := fun h => Nat.pow_le_pow_right hb h
theorem pow_step {b k : Nat} (hb : b ≤ 10) (hk : b ^ k ≤ 100) : b ^ (k + 1) ≤ 1000 := by
  rw [Nat.pow_succ]
  exact Nat.le_trans (Nat.mul_le_mul hk hb) (by omega)
theorem s_pow {b e : Nat} (hb : 1 ≤ b ∧ b ≤ 10) (he : e ≤ 6) : spec_l38Pow (b : Int) (e : Int) = some (if 100 < b ^ e then -1 else ((b ^ e : Nat) : Int)) := by
  have key : ∀ d k, k + d = e → b ^ k ≤ 100 → ∀ m, d < m → ∃ o, loopF (spec_l38Pow_B1 (b : Int) (e : Int)) m (((b ^ k : Nat) : Int), (k : Int)) = some o ∧ ((o = .inl ((b ^ e : Nat) : Int) ∧ ¬ 100 < b ^ e) ∨ (o = .inr (-1) ∧ 100 < b ^ e)) := by
    intro d
    induction d with
    | zero =>
      intro k hk h1 m hm
      cases m with
      | zero => omega
      | succ m =>
        have : k = e := by omega
        subst this
        refine ⟨_, ?_, .inl ⟨rfl, by omega⟩⟩
        show spec_l38Pow_B1 _ _ _ (_, _) = _
        unfold spec_l38Pow_B1
        simp only
        rw [nlt_dec]; rfl
    | succ d ih =>
      intro k hk h1 m hm
      cases m with
      | zero => omega
      | succ m =>
        have hlt : k < e := by omega
        have hs := pow_step hb.2 h1
        have hw : IntKind.i64.wrap (((b ^ k : Nat) : Int) * (b : Int)) = ((b ^ (k + 1) : Nat) : Int) := by
          have e1 : ((b ^ k : Nat) : Int) * (b : Int) = ((b ^ (k + 1) : Nat) : Int) := by rw [Nat.pow_succ, Int.natCast_mul]
          rw [e1, wrap_in (by omega)]
        have hst : loopF (spec_l38Pow_B1 (b : Int) (e : Int)) (m + 1) (((b ^ k : Nat) : Int), (k : Int)) = cond (decide ((100 : Int) < ((b ^ (k + 1) : Nat) : Int))) (some (.inr (-1))) (loopF (spec_l38Pow_B1 (b : Int) (e : Int)) m (((b ^ (k + 1) : Nat) : Int), ((k + 1 : Nat) : Int))) := by
          show spec_l38Pow_B1 _ _ _ (_, _) = _
          unfold spec_l38Pow_B1
          simp only
          rw [lt_dec hlt, hw, wrap_in (by omega)]
          rfl
        rw [hst]
        by_cases hq : 100 < b ^ (k + 1)
        · rw [decide_eq_true (by omega : (100 : Int) < ((b ^ (k + 1) : Nat) : Int))]
          exact ⟨_, rfl, .inr ⟨rfl, Nat.lt_of_lt_of_le hq (pow_le hb.1 (by omega))⟩⟩
        · rw [decide_eq_false (by omega : ¬ (100 : Int) < ((b ^ (k + 1) : Nat) : Int))]
          exact ih (k + 1) (by omega) (by omega) m (by omega)
  unfold spec_l38Pow
  obtain ⟨o, e1, p⟩ := key e 0 (by omega) (by simp) fz (by unfold fz; omega)
  have e2 : loopF (spec_l38Pow_B1 (b : Int) (e : Int)) fz (1, 0) = some o := by simpa using e1
  rw [e2]
  rcases p with ⟨rfl, h⟩ | ⟨rfl, h⟩
  · rw [if_neg h]; rfl
  · rw [if_pos h]; rfl
theorem i_pow {b e : Nat} (hb : 1 ≤ b ∧ b ≤ 10) (he : e ≤ 6) : loopF (impl_powers_B2 (b : Int) (e : Int)) fz (1, 0) = some ((b ^ e : Nat) : Int) := by
  have := loop_to (body := impl_powers_B2 (b : Int) (e : Int)) (out := ((b ^ e : Nat) : Int)) (fun k => (((b ^ k : Nat) : Int), (k : Int))) e (fun k hk rec => by
    have h6 : b ^ (k + 1) ≤ 10 ^ 6 := Nat.le_trans (Nat.pow_le_pow_left hb.2 _) (Nat.pow_le_pow_right (by omega) (by omega))
    have e1 : ((b ^ k : Nat) : Int) * (b : Int) = ((b ^ (k + 1) : Nat) : Int) := by rw [Nat.pow_succ, Int.natCast_mul]
    unfold impl_powers_B2
    simp only
    rw [lt_dec hk, e1, wrap_in (by omega), wrap_in (by omega)]
    rfl) (fun rec => by unfold impl_powers_B2; simp only; rw [nlt_dec]; rfl) fz (by unfold fz; omega)
  simpa using this
/-- a loop with a state that may end early -/
theorem all_stR {S R : Type} {B : (S × Int → Option (Sum S R)) → S × Int → Option (Sum S R)} {n : Nat} (s : Nat → S) (bad : Nat → Bool) (r0 : R) (hn : n ≤ lim) (h1 : ∀ k, k < n → (∀ j, j < k → bad j = false) → ∀ rec, B rec (s k, (k : Int)) = cond (bad k) (some (.inr r0)) (rec (s (k + 1), ((k + 1 : Nat) : Int)))) (h2 : ∀ rec, B rec (s n, (n : Int)) = some (.inl (s n))) :
    loopF B fz (s 0, 0) = some (cond ((List.range n).any bad) (.inr r0) (.inl (s n))) := by
  have key : ∀ d k, k + d = n → (∀ j, j < k → bad j = false) → ∀ m, d < m → loopF B m (s k, (k : Int)) = some (cond ((List.range n).any bad) (.inr r0) (.inl (s n))) := by
    intro d
    induction d with
    | zero =>
      intro k hk hb m hm
      cases m with
      | zero => omega
      | succ m =>
        have hkn : k = n := by omega
        have : (List.range n).any bad = false := by
          rw [List.any_eq_false]
          intro x hx
          rw [hb x (by have := List.mem_range.1 hx; omega)]; simp
        show B (loopF B m) (s k, (k : Int)) = _
        rw [hkn, h2, this]; rfl
    | succ d ih =>
      intro k hk hb m hm
      cases m with
      | zero => omega
      | succ m =>
        show B (loopF B m) (s k, (k : Int)) = _
        rw [h1 k (by omega) hb]
        cases hbk : bad k with
        | true =>
          have : (List.range n).any bad = true := by rw [List.any_eq_true]; exact ⟨k, List.mem_range.2 (by omega), hbk⟩
          rw [this]; rfl
        | false =>
          exact ih (k + 1) (by omega) (fun j hj => by
            rcases Nat.lt_or_ge j k with h | h
            · exact hb j h
            · rw [show j = k by omega]; exact hbk) m (by omega)
  have := key n 0 (by omega) (fun j hj => absurd hj (by omega)) fz (lt_fz hn)
  simpa using this
def pw (b e : Int) : Int := ((b.toNat ^ e.toNat : Nat) : Int)
theorem pw_nn (b e : Int) : 0 ≤ pw b e := by unfold pw; omega
theorem s_pw {b e : Int} (hb : btw b 1 10 = true) (he : btw e 0 6 = true) : spec_l38Pow b e = some (if 100 < pw b e then -1 else pw b e) := by
  unfold btw at hb he
  simp only [Bool.and_eq_true, decide_eq_true_eq] at hb he
  have := s_pow (b := b.toNat) (e := e.toNat) (by omega) (by omega)
  rw [Int.toNat_of_nonneg (by omega), Int.toNat_of_nonneg (by omega)] at this
  rw [this]
  unfold pw
  by_cases h : 100 < b.toNat ^ e.toNat
  · rw [if_pos h, if_pos (by omega)]
  · rw [if_neg h, if_neg (by omega)]
theorem i_pw {b e : Int} (hb : btw b 1 10 = true) (he : btw e 0 6 = true) : loopF (impl_powers_B2 b e) fz (1, 0) = some (pw b e) := by
  unfold btw at hb he
  simp only [Bool.and_eq_true, decide_eq_true_eq] at hb he
  have := i_pow (b := b.toNat) (e := e.toNat) (by omega) (by omega)
  rw [Int.toNat_of_nonneg (by omega), Int.toNat_of_nonneg (by omega)] at this
  exact this
def numBad (_ : Nat) (e : Int) : Bool := !btw e 0 6
def bigBad (b : Int) (_ : Nat) (e : Int) : Bool := decide (100 < pw b e)
/-- the arguments fit -/
def tightOk (q : Qry) (nums : List Int) (b : Int) : Bool := !badAny nums numBad && (qryB q && (((nums.length : Int) == q.1) && btw b 1 10))
theorem s_ok {q : Qry} (h : smQ q) {nums : List Int} (hn : nums.length ≤ lim) (b : Int) : spec_l38Ok q nums b = some (tightOk q nums b) := by
  unfold spec_l38Ok spec_l38Ok_J2 tightOk badAny
  rw [all_loop (fun k => atB nums k (numBad k)) hn (fun k hk rec => by
    unfold spec_l38Ok_B1
    rw [lt_dec hk, geti_at hk, wrap_s hk (lim_max hn), atB_lt hk]
    simp only [cond_true, obind, s_l1In, numBad]) (fun rec => by unfold spec_l38Ok_B1; rw [nlt_dec]; rfl)]
  simp only [s_query h, s_l1In, obind]
  cases (List.range nums.length).any fun k => atB nums k (numBad k) <;> cases qryB q <;> cases ((nums.length : Int) == q.1) <;> rfl
theorem i_powers {q : Qry} (h : smQ q) {nums : List Int} (hn : nums.length ≤ lim) (b : Int) : impl_powers q nums b = some (cond (tightOk q nums b && !badAny nums (bigBad b)) (nums.map (pw b), true) ([], false)) := by
  unfold impl_powers tightOk
  simp only [i_query h, i_within, obind, bne]
  cases qryB q with
  | false => simp
  | true =>
    cases ((nums.length : Int) == q.1) with
    | false => simp
    | true =>
      cases hb : btw b 1 10 with
      | false => simp
      | true =>
        simp only [Bool.not_true, cond_false, Bool.and_true]
        have hl := all_stR (B := impl_powers_B1 nums b) (n := nums.length) (fun k => (nums.take k).map (pw b)) (fun k => atB nums k fun e => numBad k e || bigBad b k e) (([], false) : List Int × Bool) hn (fun k hk _ rec => by
          unfold impl_powers_B1
          simp only
          rw [lt_dec hk, geti_at hk, wrap_s hk (lim_max hn), atB_lt hk]
          simp only [cond_true, obind, i_within, numBad, bigBad]
          cases he : btw nums[k] 0 6 with
          | false => rfl
          | true =>
            simp only [Bool.not_true, cond_false, Bool.false_or]
            rw [i_pw hb he]
            simp only
            rw [chk_pos (by simp only [List.length_map, List.length_take, List.length_singleton]; unfold lim at *; omega), List.take_succ_eq_append_getElem hk, List.map_append]
            rfl) (fun rec => by unfold impl_powers_B1; simp only; rw [nlt_dec]; rfl)
        have hl' : loopF (impl_powers_B1 nums b) fz ([], 0) = _ := hl
        have eo : ((List.range nums.length).any fun k => atB nums k fun e => numBad k e || bigBad b k e) = (badAny nums numBad || badAny nums (bigBad b)) := any_or nums numBad (bigBad b)
        rw [hl', eo, List.take_length]
        cases badAny nums numBad <;> cases badAny nums (bigBad b) <;> rfl
def prodK (l : List Int) (k : Nat) : Int := (l.take k).foldl (fun a e => a * e) 1
theorem prodK_s {l : List Int} {k : Nat} (hk : k < l.length) : prodK l (k + 1) = prodK l k * l[k] := by
  unfold prodK; rw [List.take_succ_eq_append_getElem hk, List.foldl_append]; rfl
def prodBad (l : List Int) (k : Nat) : Bool := decide (4000 < prodK l (k + 1))
theorem prod_in {l : List Int} (h : ∀ e ∈ l, 0 ≤ e ∧ e ≤ 100) {k : Nat} (hk : k < l.length) (hb : ∀ j, j < k → prodBad l j = false) : 0 ≤ prodK l k ∧ prodK l k ≤ 4000 ∧ 0 ≤ prodK l k * l[k] ∧ prodK l k * l[k] ≤ 400000 := by
  have h0 : ∀ j, j ≤ k → 0 ≤ prodK l j := by
    intro j
    induction j with
    | zero => intro _; simp [prodK]
    | succ j ih => intro hj; rw [prodK_s (by omega)]; exact Int.mul_nonneg (ih (by omega)) (h _ (List.getElem_mem (by omega))).1
  have h1 : prodK l k ≤ 4000 := by
    cases k with
    | zero => simp [prodK]
    | succ k => have := hb k (by omega); unfold prodBad at this; simpa using this
  have h2 := h _ (List.getElem_mem hk)
  refine ⟨h0 k (by omega), h1, Int.mul_nonneg (h0 k (by omega)) h2.1, ?_⟩
  calc prodK l k * l[k] ≤ 4000 * l[k] := Int.mul_le_mul_of_nonneg_right h1 h2.1
    _ ≤ 4000 * 100 := by omega
    _ = 400000 := by omega
/-- the number of rows, if it is in range -/
def tightB (q : Qry) (nums : List Int) (b : Int) : Int × Bool := cond (tightOk q nums b && !badAny nums (bigBad b)) (cond ((List.range nums.length).any (prodBad (nums.map (pw b)))) (0, false) (prodK (nums.map (pw b)) nums.length, true)) (0, false)
end Go.Proofs.Ytmioifafgbjjhaa
