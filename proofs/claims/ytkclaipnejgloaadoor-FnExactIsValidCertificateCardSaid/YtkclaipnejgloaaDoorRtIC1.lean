/-
  Rational numbers: the reference and the program reckon the same. On the printed functions; no conditions.
-/
import Derived.Test.YtkclaipnejgloaaDoorTwIC1
-- pure
namespace Go.Proofs.YtkclaipnejgloaaDoor
open Go.RowKit
set_option linter.unusedVariables false
set_option linter.unusedSimpArgs false
abbrev Rt := Int × Int
theorem gcdB {B : (Int × Int → Option Int) → Int × Int → Option Int} (hB : ∀ rec a b, B rec (a, b) = cond (b != 0) (chk (b ≠ 0) (rec (b, Int.tmod a b))) (some a)) :
    ∀ (k f m n : Nat), n < 2 ^ k → 2 * k < f → loopF B f ((m : Int), (n : Int)) = some ((Nat.gcd m n : Nat) : Int) := by
  have hz : ∀ (f m : Nat), 0 < f → loopF B f ((m : Int), ((0 : Nat) : Int)) = some ((Nat.gcd m 0 : Nat) : Int) := fun f m hf => by
    cases f with
    | zero => omega
    | succ f => rw [loopF_succ, hB, Nat.gcd_zero_right]; rfl
  have hs : ∀ (f m n : Nat), 0 < n → loopF B (f + 1) ((m : Int), (n : Int)) = loopF B f ((n : Int), ((m % n : Nat) : Int)) := fun f m n hn => by
    rw [loopF_succ, hB, show ((n : Int) != 0) = true by rw [bne_iff_ne]; omega, cond_true, chk_pos (by omega)]
    rfl
  have hg : ∀ m n : Nat, Nat.gcd m n = Nat.gcd n (m % n) := fun m n => by rw [Nat.gcd_comm m n, Nat.gcd_rec n m, Nat.gcd_comm]
  intro k
  induction k with
  | zero => intro f m n hn hf; obtain rfl : n = 0 := by omega
            exact hz f m (by omega)
  | succ k ih =>
    intro f m n hn hf
    rcases Nat.eq_zero_or_pos n with rfl | h0
    · exact hz f m (by omega)
    · obtain ⟨f, rfl⟩ : ∃ g, f = g + 2 := ⟨f - 2, by omega⟩
      rw [hs (f + 1) m n h0, hg m n]
      rcases Nat.eq_zero_or_pos (m % n) with h1 | h1
      · rw [h1]; exact hz _ n (by omega)
      · rw [hs f n (m % n) h1, hg n (m % n)]
        refine ih f _ _ ?_ (by omega)
        have h2 : m % n < n := Nat.mod_lt _ h0
        have h3 : n % (m % n) < m % n := Nat.mod_lt _ h1
        rw [Nat.pow_succ] at hn
        rcases Nat.lt_or_ge n (2 * (m % n)) with h4 | h4
        · have h5 : n % (m % n) = n - m % n := by
            rw [Nat.mod_eq_sub_mod (by omega), Nat.mod_eq_of_lt (by omega)]
          omega
        · omega
theorem s_gcd (m n : Nat) (hn : n < 2 ^ 62) : spec_l2Gcd (m : Int) (n : Int) = some ((Nat.gcd m n : Nat) : Int) := by
  unfold spec_l2Gcd
  rw [gcdB (fun rec a b => by simp only [spec_l2Gcd_B1]) 62 fz m n hn (by unfold fz; omega), ob_s]
theorem i_gcd (m n : Nat) (hn : n < 2 ^ 62) : impl_gcd (m : Int) (n : Int) = some ((Nat.gcd m n : Nat) : Int) := by
  unfold impl_gcd
  rw [gcdB (fun rec a b => by simp only [impl_gcd_B1]) 62 fz m n hn (by unfold fz; omega), ob_s]
def rOk (r : Rt) : Bool := btw r.2 1 1000000000 && (btw r.1 (-1000000000) 1000000000 && (((Nat.gcd r.1.natAbs r.2.natAbs : Nat) : Int) == 1))
theorem abs_if {a : Int} (h : a.natAbs ≤ 4000000000000000000) : (if a < IntKind.i64.wrap (0 - a) then IntKind.i64.wrap (0 - a) else a) = (a.natAbs : Int) := by
  rw [wrap_in (by omega)]
  split <;> omega
theorem btw_iff {x lo hi : Int} : btw x lo hi = true ↔ lo ≤ x ∧ x ≤ hi := by unfold btw; simp
theorem s_rok (r : Rt) : spec_IsValidRational r = some (rOk r) := by
  unfold spec_IsValidRational rOk
  rw [s_l1In, ob_s]
  cases h2 : btw r.2 1 1000000000 with
  | false => rfl
  | true =>
    rw [cond_true, s_l1In, ob_s]
    cases h1 : btw r.1 (-1000000000) 1000000000 with
    | false => rfl
    | true =>
      rw [btw_iff] at h1 h2
      rw [cond_true, abs_if (by omega)]
      have e : r.2 = (r.2.natAbs : Int) := by omega
      have hg := s_gcd r.1.natAbs r.2.natAbs (by omega)
      rw [← e] at hg
      rw [hg]; rfl
theorem i_rok (r : Rt) : impl_IsValidRational r = some (rOk r) := by
  unfold impl_IsValidRational rOk
  rw [i_within, ob_s]
  cases h2 : btw r.2 1 1000000000 with
  | false => rfl
  | true =>
    rw [cond_true, i_within, ob_s]
    cases h1 : btw r.1 (-1000000000) 1000000000 with
    | false => rfl
    | true =>
      rw [btw_iff] at h1 h2
      rw [cond_true]
      unfold impl_abs
      rw [abs_if (by omega), ob_s]
      have e : r.2 = (r.2.natAbs : Int) := by omega
      have hg := i_gcd r.1.natAbs r.2.natAbs (by omega)
      rw [← e] at hg
      rw [hg]; rfl
theorem rok_facts {r : Rt} (h : rOk r = true) : 1 ≤ r.2 ∧ r.2 ≤ 1000000000 ∧ r.1.natAbs ≤ 1000000000 ∧ Nat.gcd r.1.natAbs r.2.natAbs = 1 := by
  unfold rOk at h
  simp only [Bool.and_eq_true, btw_iff, beq_iff_eq] at h
  exact ⟨h.1.1, h.1.2, by omega, by omega⟩
/-- what dividing gives when the divisor is positive -/
def rRed (n d : Int) : Rt × Bool :=
  cond (rOk (n.tdiv (Nat.gcd n.natAbs d.natAbs : Nat), d.tdiv (Nat.gcd n.natAbs d.natAbs : Nat))) ((n.tdiv (Nat.gcd n.natAbs d.natAbs : Nat), d.tdiv (Nat.gcd n.natAbs d.natAbs : Nat)), true) ((0, 0), false)
def rNew (n d : Int) : Rt × Bool :=
  cond (d == 0) ((0, 0), false) (cond (btw n (-4000000000000000000) 4000000000000000000) (cond (btw d (-4000000000000000000) 4000000000000000000) (cond (decide (d < 0)) (rRed (-n) (-d)) (rRed n d)) ((0, 0), false)) ((0, 0), false))
theorem tdiv_in {n : Int} {g : Nat} (h : n.natAbs ≤ 4000000000000000000) : IntKind.i64.wrap (n.tdiv (g : Int)) = n.tdiv (g : Int) := by
  have := show (n.tdiv (g : Int)).natAbs = n.natAbs / (g : Int).natAbs from Int.natAbs_tdiv n (g : Int)
  have h2 : n.natAbs / (g : Int).natAbs ≤ n.natAbs := Nat.div_le_self _ _
  rw [← this] at h2
  exact wrap_in (by omega)
theorem s_red {n d : Int} (hn : n.natAbs ≤ 4000000000000000000) (hd : 0 < d ∧ d ≤ 4000000000000000000) : spec_NewRational_J1 n d = some (rRed n d) := by
  unfold spec_NewRational_J1 rRed
  have e : d = (d.natAbs : Int) := by omega
  have hg := s_gcd n.natAbs d.natAbs (by omega)
  rw [← e] at hg
  have hp : 0 < Nat.gcd n.natAbs d.natAbs := Nat.gcd_pos_of_pos_right _ (by omega)
  rw [abs_if hn, hg, ob_s, chk_pos (by omega), chk_pos (by omega), tdiv_in hn, tdiv_in (by omega), s_rok, ob_s]
  cases rOk (n.tdiv (Nat.gcd n.natAbs d.natAbs : Nat), d.tdiv (Nat.gcd n.natAbs d.natAbs : Nat)) <;> rfl
theorem i_red {n d : Int} (hn : n.natAbs ≤ 4000000000000000000) (hd : 0 < d ∧ d ≤ 4000000000000000000) : impl_NewRational_J1 n d = some (rRed n d) := by
  unfold impl_NewRational_J1 rRed
  have e : d = (d.natAbs : Int) := by omega
  have hg := i_gcd n.natAbs d.natAbs (by omega)
  rw [← e] at hg
  have hp : 0 < Nat.gcd n.natAbs d.natAbs := Nat.gcd_pos_of_pos_right _ (by omega)
  unfold impl_abs
  rw [abs_if hn, ob_s, hg, ob_s, chk_pos (by omega), chk_pos (by omega), tdiv_in hn, tdiv_in (by omega), i_rok, ob_s]
  cases rOk (n.tdiv (Nat.gcd n.natAbs d.natAbs : Nat), d.tdiv (Nat.gcd n.natAbs d.natAbs : Nat)) <;> rfl
theorem s_rnew (n d : Int) : spec_NewRational n d = some (rNew n d) := by
  unfold spec_NewRational rNew
  have e4 : IntKind.i64.wrap (0 - 4000000000000000000) = -4000000000000000000 := by decide
  cases h0 : d == 0 with
  | true => rfl
  | false =>
    rw [beq_eq_false_iff_ne] at h0
    rw [cond_false, cond_false, e4, s_l1In, ob_s]
    cases h1 : btw n (-4000000000000000000) 4000000000000000000 with
    | false => rfl
    | true =>
      rw [Bool.not_true, cond_false, cond_true, s_l1In, ob_s]
      cases h2 : btw d (-4000000000000000000) 4000000000000000000 with
      | false => rfl
      | true =>
        rw [btw_iff] at h1 h2
        rw [Bool.not_true, cond_false, cond_true]
        by_cases h : d < 0
        · rw [decide_eq_true h, cond_true, cond_true, wrap_in (by omega), wrap_in (by omega), Int.zero_sub, Int.zero_sub]
          exact s_red (by omega) (by omega)
        · rw [decide_eq_false h, cond_false, cond_false]
          exact s_red (by omega) (by omega)
theorem i_rnew (n d : Int) : impl_NewRational n d = some (rNew n d) := by
  unfold impl_NewRational rNew
  cases h0 : d == 0 with
  | true => rfl
  | false =>
    rw [beq_eq_false_iff_ne] at h0
    rw [cond_false, cond_false, i_within, ob_s]
    cases h1 : btw n (-4000000000000000000) 4000000000000000000 with
    | false => rfl
    | true =>
      rw [Bool.not_true, cond_false, cond_true, i_within, ob_s]
      cases h2 : btw d (-4000000000000000000) 4000000000000000000 with
      | false => rfl
      | true =>
        rw [btw_iff] at h1 h2
        rw [Bool.not_true, cond_false, cond_true]
        by_cases h : d < 0
        · rw [decide_eq_true h, cond_true, cond_true, wrap_in (by omega), wrap_in (by omega), Int.zero_sub, Int.zero_sub]
          exact i_red (by omega) (by omega)
        · rw [decide_eq_false h, cond_false, cond_false]
          exact i_red (by omega) (by omega)
theorem wmul {x y : Int} (hx : x.natAbs ≤ 1000000000) (hy : y.natAbs ≤ 1000000000) : IntKind.i64.wrap (x * y) = x * y ∧ (x * y).natAbs ≤ 1000000000000000000 := by
  have h : (x * y).natAbs ≤ 1000000000 * 1000000000 := by rw [Int.natAbs_mul]; exact Nat.mul_le_mul hx hy
  exact ⟨wrap_in (by omega), by omega⟩
def rAdd (a b : Rt) : Rt × Bool := cond (rOk a) (cond (rOk b) (rNew (a.1 * b.2 + b.1 * a.2) (a.2 * b.2)) ((0, 0), false)) ((0, 0), false)
def rMul (a b : Rt) : Rt × Bool := cond (rOk a) (cond (rOk b) (rNew (a.1 * b.1) (a.2 * b.2)) ((0, 0), false)) ((0, 0), false)
def rDiv (a b : Rt) : Rt × Bool := cond (rOk a) (cond (rOk b) (rNew (a.1 * b.2) (a.2 * b.1)) ((0, 0), false)) ((0, 0), false)
def rSub (a b : Rt) : Rt × Bool := cond (rOk b) (rAdd a (-b.1, b.2)) ((0, 0), false)
def rCmp (a b : Rt) : Int := cond (rOk a) (cond (rOk b) (cond (decide (a.1 * b.2 < b.1 * a.2)) (-1) (cond (decide (b.1 * a.2 < a.1 * b.2)) 1 0)) 0) 0
theorem rok_w {a b : Rt} (ha : rOk a = true) (hb : rOk b = true) : IntKind.i64.wrap (a.1 * b.2) = a.1 * b.2 ∧ IntKind.i64.wrap (b.1 * a.2) = b.1 * a.2 ∧ IntKind.i64.wrap (a.2 * b.2) = a.2 * b.2 ∧ IntKind.i64.wrap (a.1 * b.2 + b.1 * a.2) = a.1 * b.2 + b.1 * a.2 ∧ IntKind.i64.wrap (a.1 * b.1) = a.1 * b.1 ∧ IntKind.i64.wrap (a.2 * b.1) = a.2 * b.1 := by
  have fa := rok_facts ha
  have fb := rok_facts hb
  have h1 := wmul (x := a.1) (y := b.2) (by omega) (by omega)
  have h2 := wmul (x := b.1) (y := a.2) (by omega) (by omega)
  exact ⟨h1.1, h2.1, (wmul (by omega) (by omega)).1, wrap_in (by omega), (wmul (by omega) (by omega)).1, (wmul (by omega) (by omega)).1⟩
theorem i_both (a b : Rt) : impl_bothValid a b = some (rOk a && rOk b) := by
  unfold impl_bothValid
  rw [i_rok, ob_s]
  cases rOk a with
  | false => rfl
  | true => rw [cond_true, i_rok, ob_s]; rfl
theorem s_radd (a b : Rt) : spec_AddRational a b = some (rAdd a b) := by
  unfold spec_AddRational rAdd
  rw [s_rok, ob_s]
  cases ha : rOk a with
  | false => rfl
  | true =>
    rw [Bool.not_true, cond_false, cond_true, s_rok, ob_s]
    cases hb : rOk b with
    | false => rfl
    | true =>
      obtain ⟨e1, e2, e3, e4, e5, e6⟩ := rok_w ha hb
      rw [Bool.not_true, cond_false, cond_true, e1, e2, e3, e4, s_rnew]; rfl
theorem i_radd (a b : Rt) : impl_AddRational a b = some (rAdd a b) := by
  unfold impl_AddRational rAdd
  rw [i_both, ob_s]
  cases ha : rOk a with
  | false => rfl
  | true =>
    cases hb : rOk b with
    | false => rfl
    | true =>
      obtain ⟨e1, e2, e3, e4, e5, e6⟩ := rok_w ha hb
      rw [Bool.and_self, Bool.not_true, cond_false, cond_true, cond_true, e1, e2, e3, e4, i_rnew]; rfl
theorem rnew_zero (n : Int) : rNew n 0 = ((0, 0), false) := rfl
theorem rok_neg {b : Rt} (hb : b.1.natAbs ≤ 4000000000000000000) : rOk (-b.1, b.2) = rOk b := by
  unfold rOk
  have e : btw (-b.1) (-1000000000) 1000000000 = btw b.1 (-1000000000) 1000000000 := by
    rw [Bool.eq_iff_iff, btw_iff, btw_iff]; omega
  simp only [Int.natAbs_neg, e]
theorem s_rcmp (a b : Rt) : spec_CompareRationals a b = some (rCmp a b) := by
  unfold spec_CompareRationals rCmp
  rw [s_rok, ob_s]
  cases ha : rOk a with
  | false => rfl
  | true =>
    rw [Bool.not_true, cond_false, cond_true, s_rok, ob_s]
    cases hb : rOk b with
    | false => rfl
    | true =>
      obtain ⟨e1, e2, e3, e4, e5, e6⟩ := rok_w ha hb
      rw [Bool.not_true, cond_false, cond_true, e1, e2]
      cases decide (a.1 * b.2 < b.1 * a.2) <;> cases decide (b.1 * a.2 < a.1 * b.2) <;> rfl
theorem i_rcmp (a b : Rt) : impl_CompareRationals a b = some (rCmp a b) := by
  unfold impl_CompareRationals rCmp
  rw [i_both, ob_s]
  cases ha : rOk a with
  | false => rfl
  | true =>
    cases hb : rOk b with
    | false => rfl
    | true =>
      obtain ⟨e1, e2, e3, e4, e5, e6⟩ := rok_w ha hb
      rw [Bool.and_self, Bool.not_true, cond_false, cond_true, cond_true, e1, e2, i_cmpI, ob_s]
      by_cases h1 : a.1 * b.2 < b.1 * a.2
      · rw [if_pos h1, decide_eq_true h1]; rfl
      · rw [if_neg h1, decide_eq_false h1]
        by_cases h2 : b.1 * a.2 < a.1 * b.2
        · rw [if_pos h2, decide_eq_true h2]; rfl
        · rw [if_neg h2, decide_eq_false h2]; rfl
end Go.Proofs.YtkclaipnejgloaaDoor
