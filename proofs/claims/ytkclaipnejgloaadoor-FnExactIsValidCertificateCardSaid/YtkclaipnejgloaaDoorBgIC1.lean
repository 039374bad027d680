/-
  Great numbers: the reference and the program reckon the same, and it is the numbers' own arithmetic. On the printed functions; conditions: lengths.
-/
import Derived.Test.YtkclaipnejgloaaDoorRtIC1
-- pure
namespace Go.Proofs.YtkclaipnejgloaaDoor
open Go.RowKit
set_option linter.unusedVariables false
set_option linter.unusedSimpArgs false
/-- the decimal digits of a number, the least first -/
def gDig (n : Nat) : List Int := if h : n = 0 then [] else ((n % 10 : Nat) : Int) :: gDig (n / 10)
termination_by n
decreasing_by exact Nat.div_lt_self (by omega) (by omega)
theorem gDig_0 : gDig 0 = [] := by rw [gDig]; rfl
theorem gDig_p {n : Nat} (h : 0 < n) : gDig n = ((n % 10 : Nat) : Int) :: gDig (n / 10) := by rw [gDig, dif_neg (by omega)]
def gVal : List Int → Nat
  | [] => 0
  | d :: l => d.toNat + 10 * gVal l
theorem gVal_dig : ∀ n, gVal (gDig n) = n := by
  intro n
  induction n using Nat.strongRecOn with
  | _ n ih =>
    rcases Nat.eq_zero_or_pos n with rfl | h
    · rw [gDig_0]; rfl
    · rw [gDig_p h, gVal, ih (n / 10) (Nat.div_lt_self h (by omega))]; omega
theorem gDig_nil {n : Nat} (h : gDig n = []) : n = 0 := by
  rcases Nat.eq_zero_or_pos n with h0 | h0
  · exact h0
  · rw [gDig_p h0] at h; cases h
theorem gDig_len : ∀ (k n : Nat), (gDig n).length ≤ k ↔ n < 10 ^ k := by
  intro k
  induction k with
  | zero =>
    intro n
    rw [Nat.pow_zero]
    constructor
    · intro h
      have := gDig_nil (List.eq_nil_of_length_eq_zero (by omega : (gDig n).length = 0)); omega
    · intro h; obtain rfl : n = 0 := by omega
      rw [gDig_0]; simp
  | succ k ih =>
    intro n
    rcases Nat.eq_zero_or_pos n with rfl | h
    · rw [gDig_0]; exact ⟨fun _ => Nat.pow_pos (by omega), fun _ => by simp⟩
    · rw [gDig_p h, List.length_cons, Nat.pow_succ, ← Nat.div_lt_iff_lt_mul (by omega), ← ih]; omega
theorem gDig_in : ∀ n, ∀ e ∈ gDig n, 0 ≤ e ∧ e ≤ 9 := by
  intro n
  induction n using Nat.strongRecOn with
  | _ n ih =>
    intro e he
    rcases Nat.eq_zero_or_pos n with rfl | h
    · rw [gDig_0] at he; cases he
    · rw [gDig_p h] at he
      rcases List.mem_cons.1 he with rfl | he
      · omega
      · exact ih (n / 10) (Nat.div_lt_self h (by omega)) e he
theorem gDig_last : ∀ n, 0 < n → ∃ l d, gDig n = l ++ [d] ∧ d ≠ 0 := by
  intro n
  induction n using Nat.strongRecOn with
  | _ n ih =>
    intro h
    rw [gDig_p h]
    rcases Nat.eq_zero_or_pos (n / 10) with h0 | h0
    · rw [h0, gDig_0]; exact ⟨[], _, rfl, by omega⟩
    · obtain ⟨l, d, e, hd⟩ := ih (n / 10) (Nat.div_lt_self h (by omega)) h0
      rw [e]; exact ⟨_ :: l, d, rfl, hd⟩
theorem gDig_of : ∀ (l : List Int), (∀ e ∈ l, 0 ≤ e ∧ e ≤ 9) → (∀ x, l.getLast? = some x → x ≠ 0) → l = gDig (gVal l)
  | [], _, _ => by rw [gVal, gDig_0]
  | d :: l, h1, h2 => by
    have hd := h1 d (List.mem_cons_self ..)
    cases l with
    | nil =>
      have : d ≠ 0 := h2 d rfl
      rw [gVal, gVal, gDig_p (by omega), show (d.toNat + 10 * 0) / 10 = 0 by omega, gDig_0]
      congr 1; omega
    | cons e l =>
      have ih := gDig_of (e :: l) (fun x hx => h1 x (List.mem_cons_of_mem _ hx)) (fun x hx => h2 x (by rw [List.getLast?_cons_cons]; exact hx))
      have hp : 0 < gVal (e :: l) := by
        rcases Nat.eq_zero_or_pos (gVal (e :: l)) with h | h
        · rw [h, gDig_0] at ih; cases ih
        · exact h
      rw [gVal, gDig_p (by omega), show (d.toNat + 10 * gVal (e :: l)) / 10 = gVal (e :: l) by omega, ← ih]
      congr 1; omega
/-! ### validity -/
def gOk (l : List Int) : Bool := !badAny l (fun _ e => !btw e 0 9) && (decide ((l.length : Int) ≤ 60) && ((l.length : Int) == 0 || l.getLast? != some 0))
theorem gOk_iff {l : List Int} : gOk l = true ↔ ∃ n, n < 10 ^ 60 ∧ l = gDig n := by
  unfold gOk
  simp only [Bool.and_eq_true, Bool.not_eq_true', decide_eq_true_eq, Bool.or_eq_true, beq_iff_eq, bne_iff_ne, ne_eq]
  constructor
  · rintro ⟨h1, h2, h3⟩
    have e := gDig_of l (fun e he => by have := badAny_mem h1 he; simpa [btw_iff] using this) (fun x hx hx0 => by
      subst hx0
      rcases h3 with h3 | h3
      · have hn : l = [] := List.eq_nil_of_length_eq_zero (by omega)
        rw [hn] at hx; cases hx
      · exact h3 hx)
    refine ⟨gVal l, ?_, e⟩
    rw [← gDig_len, ← e]; omega
  · rintro ⟨n, hn, rfl⟩
    rw [← gDig_len] at hn
    refine ⟨badAny_of fun i hi => ?_, by omega, ?_⟩
    · have := gDig_in n _ (List.getElem_mem hi)
      rw [Bool.not_eq_false', btw_iff]; exact this
    · rcases Nat.eq_zero_or_pos n with rfl | h
      · left; rw [gDig_0]; rfl
      · right
        obtain ⟨l, d, e, hd⟩ := gDig_last n h
        rw [e, List.getLast?_append]
        simpa using hd
theorem gOk_dig {n : Nat} (h : n < 10 ^ 60) : gOk (gDig n) = true := gOk_iff.2 ⟨n, h, rfl⟩
theorem last_geti {l : List Int} (h : 0 < l.length) (hl : l.length ≤ lim) : ∃ x, geti l (IntKind.i64.wrap ((l.length : Int) - 1)) = some x ∧ l.getLast? = some x := by
  have := hl
  unfold lim at this
  rw [wrap_in (by omega), show (l.length : Int) - 1 = ((l.length - 1 : Nat) : Int) by omega, geti_at (by omega)]
  exact ⟨_, rfl, by rw [List.getLast?_eq_getElem?, List.getElem?_eq_getElem (by omega)]⟩
theorem s_gok {l : List Int} (h : l.length ≤ lim) : spec_IsValidBigInt l = some (gOk l) := by
  unfold spec_IsValidBigInt gOk
  rw [all_loop (fun k => atB l k fun e => !btw e 0 9) h (fun k hk rec => by
    unfold spec_IsValidBigInt_B1
    rw [lt_dec hk, cond_true, geti_at hk, ob_s, s_l1In, ob_s, wrap_s hk (lim_max h), atB_lt hk]) (fun rec => by unfold spec_IsValidBigInt_B1; rw [nlt_dec, cond_false]), ob_s]
  show (match cond (badAny l fun _ e => !btw e 0 9) (Sum.inr false) (Sum.inl ()) with | .inl _ => _ | .inr r => some r) = _
  cases badAny l fun _ e => !btw e 0 9 with
  | true => rfl
  | false =>
    simp only [cond_false, Bool.not_false, Bool.true_and]
    cases decide ((l.length : Int) ≤ 60) with
    | false => rfl
    | true =>
      rw [cond_true, Bool.true_and]
      by_cases h0 : l.length = 0
      · rw [show ((l.length : Int) == 0) = true by rw [beq_iff_eq]; omega]; rfl
      · obtain ⟨x, e1, e2⟩ := last_geti (l := l) (by omega) h
        rw [show ((l.length : Int) == 0) = false by rw [beq_eq_false_iff_ne]; omega, cond_false, e1, ob_s, e2]
        show some (x != 0) = some (false || some x != some 0)
        rw [Bool.false_or]
        rfl
theorem i_gok {l : List Int} (h : l.length ≤ lim) : impl_IsValidBigInt l = some (gOk l) := by
  unfold impl_IsValidBigInt gOk
  rw [all_loop (fun k => atB l k fun e => !btw e 0 9) h (fun k hk rec => by
    unfold impl_IsValidBigInt_B1
    rw [lt_dec hk, cond_true, geti_at hk, ob_s, i_within, ob_s, wrap_s hk (lim_max h), atB_lt hk]) (fun rec => by unfold impl_IsValidBigInt_B1; rw [nlt_dec, cond_false]), ob_s]
  show (match cond (badAny l fun _ e => !btw e 0 9) (Sum.inr false) (Sum.inl ()) with | .inl _ => _ | .inr r => some r) = _
  cases badAny l fun _ e => !btw e 0 9 with
  | true => rfl
  | false =>
    simp only [cond_false, Bool.not_false, Bool.true_and]
    cases decide ((l.length : Int) ≤ 60) with
    | false => rfl
    | true =>
      rw [cond_true, Bool.true_and]
      by_cases h0 : l.length = 0
      · rw [show ((l.length : Int) == 0) = true by rw [beq_iff_eq]; omega]; rfl
      · obtain ⟨x, e1, e2⟩ := last_geti (l := l) (by omega) h
        rw [show ((l.length : Int) == 0) = false by rw [beq_eq_false_iff_ne]; omega, cond_false, e1, ob_s, e2]
        show some (x != 0) = some (false || some x != some 0)
        rw [Bool.false_or]
        rfl
theorem gDig_lim {n : Nat} (h : n < 10 ^ 60) : (gDig n).length ≤ 60 := (gDig_len 60 n).2 h
theorem lim60 {k : Nat} (h : k ≤ 60) : k ≤ lim := by unfold lim; omega
/-! ### out of an integer -/
theorem big_int {B : (Int × List Int → Option (List Int)) → Int × List Int → Option (List Int)} (hB : ∀ rec n l, B rec (n, l) = cond (decide (0 < n)) (chk (l.length + [Int.tmod n 10].length ≤ lim) (rec (IntKind.i64.wrap (Int.tdiv n 10), l ++ [Int.tmod n 10]))) (some l)) :
    ∀ (k n : Nat) (l : List Int) (f : Nat), n ≤ 9223372036854775807 → n < 10 ^ k → k < f → l.length + k ≤ lim → loopF B f ((n : Int), l) = some (l ++ gDig n)
  | 0, n, l, f, _, h, hf, _ => by
    obtain rfl : n = 0 := by omega
    obtain ⟨f, rfl⟩ : ∃ g, f = g + 1 := ⟨f - 1, by omega⟩
    rw [loopF_succ, hB, gDig_0, List.append_nil]; rfl
  | k + 1, n, l, f, h1, h2, hf, h3 => by
    obtain ⟨f, rfl⟩ : ∃ g, f = g + 1 := ⟨f - 1, by omega⟩
    rw [loopF_succ, hB]
    rcases Nat.eq_zero_or_pos n with rfl | hp
    · rw [gDig_0, List.append_nil]; rfl
    · have e1 : Int.tdiv (n : Int) 10 = ((n / 10 : Nat) : Int) := rfl
      have e2 : Int.tmod (n : Int) 10 = ((n % 10 : Nat) : Int) := rfl
      rw [decide_eq_true (by omega), cond_true, e1, e2, chk_pos (by rw [List.length_singleton]; omega), wrap_in (by omega), big_int hB k (n / 10) _ f (by omega) (by rw [Nat.pow_succ] at h2; omega) (by omega) (by rw [List.length_append, List.length_singleton]; omega), gDig_p hp, List.append_assoc]
      rfl
theorem big_intZ {B : (Int × List Int → Option (List Int)) → Int × List Int → Option (List Int)} (hB : ∀ rec n l, B rec (n, l) = cond (decide (0 < n)) (chk (l.length + [Int.tmod n 10].length ≤ lim) (rec (IntKind.i64.wrap (Int.tdiv n 10), l ++ [Int.tmod n 10]))) (some l)) {n : Int} (h : n ≤ 9223372036854775807) :
    loopF B fz (n, []) = some (gDig n.toNat) := by
  by_cases h0 : 0 ≤ n
  · have := big_int hB 19 n.toNat [] fz (by omega) (by omega) (by unfold fz; omega) (by unfold lim; simp)
    rw [show ((n.toNat : Nat) : Int) = n by omega] at this
    exact this
  · rw [show n.toNat = 0 by omega, gDig_0, show fz = (fz - 1) + 1 from rfl, loopF_succ, hB, decide_eq_false (by omega)]; rfl
theorem s_bigI {n : Int} (h : n ≤ 9223372036854775807) : spec_BigIntFromInt n = some (gDig n.toNat) := by
  unfold spec_BigIntFromInt
  rw [big_intZ (fun rec n l => by simp only [spec_BigIntFromInt_B1]) h, ob_s]
theorem i_bigI {n : Int} (h : n ≤ 9223372036854775807) : impl_BigIntFromInt n = some (gDig n.toNat) := by
  unfold impl_BigIntFromInt
  rw [big_intZ (fun rec n l => by simp only [impl_BigIntFromInt_B1]) h, ob_s]
/-! ### carrying -/
def gEm : Nat → Nat → List Int
  | 0, v => gDig v
  | n + 1, v => ((v % 10 : Nat) : Int) :: gEm n (v / 10)
theorem gEm_eq : ∀ n v, ∃ z, gEm n v = gDig v ++ List.replicate z 0
  | 0, v => ⟨0, by rw [gEm, List.replicate_zero, List.append_nil]⟩
  | n + 1, v => by
    obtain ⟨z, e⟩ := gEm_eq n (v / 10)
    rw [gEm, e]
    rcases Nat.eq_zero_or_pos v with rfl | h
    · exact ⟨z + 1, by rw [Nat.zero_div, gDig_0]; rfl⟩
    · exact ⟨z, by rw [gDig_p h]; rfl⟩
abbrev CBd := (List Int × Int × Int → Option (List Int)) → List Int × Int × Int → Option (List Int)
/-- a round of carrying -/
def CRnd (B : CBd) (d : List Int) : Prop := ∀ rec (out : List Int) (c : Int) (k : Nat),
  (∀ hk : k < d.length, B rec (out, c, (k : Int)) = chk (out.length + [Int.tmod (IntKind.i64.wrap (c + d[k])) 10].length ≤ lim) (rec (out ++ [Int.tmod (IntKind.i64.wrap (c + d[k])) 10], IntKind.i64.wrap (Int.tdiv (IntKind.i64.wrap (c + d[k])) 10), IntKind.i64.wrap ((k : Int) + 1)))) ∧
  (d.length ≤ k → B rec (out, c, (k : Int)) = cond (decide (0 < c)) (chk (out.length + [Int.tmod c 10].length ≤ lim) (rec (out ++ [Int.tmod c 10], IntKind.i64.wrap (Int.tdiv c 10), IntKind.i64.wrap ((k : Int) + 1)))) (some out))
theorem carry2 {B : CBd} {d : List Int} (hB : CRnd B d) : ∀ (j c k : Nat) (out : List Int) (f : Nat), c < 10 ^ j → c ≤ 1000000000 → d.length ≤ k → j < f → out.length + j ≤ lim → k + j ≤ lim → loopF B f (out, (c : Int), (k : Int)) = some (out ++ gDig c)
  | 0, c, k, out, f, h, _, hk, hf, _, _ => by
    obtain rfl : c = 0 := by omega
    obtain ⟨f, rfl⟩ : ∃ g, f = g + 1 := ⟨f - 1, by omega⟩
    rw [loopF_succ, (hB _ _ _ _).2 hk, gDig_0, List.append_nil]; rfl
  | j + 1, c, k, out, f, h, hc, hk, hf, ho, hkl => by
    obtain ⟨f, rfl⟩ : ∃ g, f = g + 1 := ⟨f - 1, by omega⟩
    rw [loopF_succ, (hB _ _ _ _).2 hk]
    rcases Nat.eq_zero_or_pos c with rfl | hp
    · rw [gDig_0, List.append_nil]; rfl
    · have e1 : Int.tdiv (c : Int) 10 = ((c / 10 : Nat) : Int) := rfl
      have e2 : Int.tmod (c : Int) 10 = ((c % 10 : Nat) : Int) := rfl
      have hl : lim = 1099511627776 := rfl
      rw [decide_eq_true (by omega), cond_true, e1, e2, chk_pos (by rw [List.length_singleton]; omega), wrap_in (by omega), wrap_in (by omega), show ((k : Int) + 1) = ((k + 1 : Nat) : Int) by omega,
        carry2 hB j (c / 10) (k + 1) _ f (by rw [Nat.pow_succ] at h; omega) (by omega) (by omega) (by omega) (by rw [List.length_append, List.length_singleton]; omega) (by omega), gDig_p hp, List.append_assoc]
      rfl
theorem carry1 {B : CBd} {d : List Int} (hB : CRnd B d) (hd : ∀ e ∈ d, 0 ≤ e ∧ e ≤ 1000000000) : ∀ (j c k : Nat) (out : List Int) (f : Nat), k + j = d.length → c ≤ 1000000000 → j + 11 < f → out.length + j + 11 ≤ lim → k + j + 11 ≤ lim → loopF B f (out, (c : Int), (k : Int)) = some (out ++ gEm j (gVal (d.drop k) + c))
  | 0, c, k, out, f, hk, hc, hf, ho, hkl => by
    rw [carry2 hB 10 c k out f (by omega) hc (by omega) (by omega) (by omega) (by omega), List.drop_of_length_le (by omega), gVal, Nat.zero_add, gEm]
  | j + 1, c, k, out, f, hk, hc, hf, ho, hkl => by
    obtain ⟨f, rfl⟩ : ∃ g, f = g + 1 := ⟨f - 1, by omega⟩
    have hlt : k < d.length := by omega
    have he := hd _ (List.getElem_mem hlt)
    have hl : lim = 1099511627776 := rfl
    obtain ⟨e, hee⟩ : ∃ e : Nat, d[k] = (e : Int) := ⟨d[k].toNat, by omega⟩
    rw [hee] at he
    have e0 : IntKind.i64.wrap ((c : Int) + (e : Int)) = ((c + e : Nat) : Int) := by rw [wrap_in (by omega)]; omega
    have e1 : Int.tdiv ((c + e : Nat) : Int) 10 = (((c + e) / 10 : Nat) : Int) := rfl
    have e2 : Int.tmod ((c + e : Nat) : Int) 10 = (((c + e) % 10 : Nat) : Int) := rfl
    rw [loopF_succ, (hB _ _ _ _).1 hlt, hee, e0, e1, e2, chk_pos (by rw [List.length_singleton]; omega), wrap_in (by omega), wrap_in (by omega), show ((k : Int) + 1) = ((k + 1 : Nat) : Int) by omega,
      carry1 hB hd j ((c + e) / 10) (k + 1) _ f (by omega) (by omega) (by omega) (by rw [List.length_append, List.length_singleton]; omega) (by omega), List.drop_eq_getElem_cons hlt, hee, gVal, gEm, List.append_assoc,
      show (((e : Int).toNat + 10 * gVal (d.drop (k + 1)) + c) % 10) = (c + e) % 10 by omega, show (((e : Int).toNat + 10 * gVal (d.drop (k + 1)) + c) / 10) = gVal (d.drop (k + 1)) + (c + e) / 10 by omega]
    rfl
/-- the zeros at the end -/
theorem last_not {v z : Nat} (hz : z = 0) (h : 0 < (gDig v ++ List.replicate z (0 : Int)).length) : ∃ x, x ≠ 0 ∧ ∃ hx, (gDig v ++ List.replicate z (0 : Int))[(gDig v ++ List.replicate z (0 : Int)).length - 1]'hx = x := by
  subst hz
  rw [List.replicate_zero, List.append_nil] at h ⊢
  have hv : 0 < v := by
    rcases Nat.eq_zero_or_pos v with rfl | hv
    · rw [gDig_0] at h; exact absurd h (by simp)
    · exact hv
  obtain ⟨l, d, e, hd⟩ := gDig_last v hv
  refine ⟨d, hd, by omega, ?_⟩
  simp [e]
/-- a number's digits with the bound of 60 -/
def gR (v : Nat) : List Int × Bool := cond (decide (v < 10 ^ 60)) (gDig v, true) ([], false)
theorem strip_s : ∀ (z v f : Nat), (gDig v).length + z ≤ lim → z < f → loopF spec_l3Carry_B4 f (gDig v ++ List.replicate z 0) = some (gDig v)
  | 0, v, f, hl, hf => by
    obtain ⟨f, rfl⟩ : ∃ g, f = g + 1 := ⟨f - 1, by omega⟩
    rw [loopF_succ, List.replicate_zero, List.append_nil, spec_l3Carry_B4]
    have h9 : lim = 1099511627776 := rfl
    rcases Nat.eq_zero_or_pos v with rfl | hv
    · rw [gDig_0]; rfl
    · obtain ⟨l, d, e, hd⟩ := gDig_last v hv
      have hlen : (gDig v).length = l.length + 1 := by rw [e]; simp
      rw [decide_eq_true (by omega), cond_true, wrap_in (by omega), show ((gDig v).length : Int) - 1 = ((l.length : Nat) : Int) by omega, geti_at (by omega), ob_s]
      have : (gDig v)[l.length]'(by omega) = d := by simp [e]
      rw [this, show (d == 0) = false by rw [beq_eq_false_iff_ne]; exact hd, cond_false]
  | z + 1, v, f, hl, hf => by
    obtain ⟨f, rfl⟩ : ∃ g, f = g + 1 := ⟨f - 1, by omega⟩
    have h9 : lim = 1099511627776 := rfl
    have hlen : (gDig v ++ List.replicate (z + 1) (0 : Int)).length = (gDig v).length + z + 1 := by rw [List.length_append, List.length_replicate]; omega
    rw [loopF_succ, spec_l3Carry_B4, decide_eq_true (by omega), cond_true, wrap_in (by omega), hlen, show (((gDig v).length + z + 1 : Nat) : Int) - 1 = (((gDig v).length + z : Nat) : Int) by omega, geti_at (by omega), ob_s]
    have h0 : (gDig v ++ List.replicate (z + 1) (0 : Int))[(gDig v).length + z]'(by omega) = 0 := by
      rw [List.getElem_append_right (by omega), List.getElem_replicate]
    rw [h0, show ((0 : Int) == 0) = true from rfl, cond_true, chk_pos (by omega)]
    have : subl (gDig v ++ List.replicate (z + 1) (0 : Int)) 0 (((gDig v).length + z : Nat) : Int) = gDig v ++ List.replicate z 0 := by
      unfold subl
      rw [Int.toNat_natCast, show (0 : Int).toNat = 0 from rfl, List.drop_zero, List.take_append, List.take_of_length_le (by omega), Nat.add_sub_cancel_left, List.take_replicate, Nat.min_eq_left (by omega)]
    rw [this]
    exact strip_s z v f (by omega) (by omega)
theorem strip_i {v z : Nat} (hl : (gDig v).length + z ≤ lim) : ∀ (j f : Nat), j ≤ z → j < f → loopF (impl_carried_B4 (gDig v ++ List.replicate z 0)) f (((gDig v).length + j : Nat) : Int) = some ((gDig v).length : Int)
  | 0, f, hj, hf => by
    obtain ⟨f, rfl⟩ : ∃ g, f = g + 1 := ⟨f - 1, by omega⟩
    have h9 : lim = 1099511627776 := rfl
    rw [loopF_succ, impl_carried_B4, Nat.add_zero]
    rcases Nat.eq_zero_or_pos v with rfl | hv
    · rw [gDig_0]; rfl
    · obtain ⟨l, d, e, hd⟩ := gDig_last v hv
      have hlen : (gDig v).length = l.length + 1 := by rw [e]; simp
      rw [decide_eq_true (by omega), cond_true, wrap_in (by omega), show ((gDig v).length : Int) - 1 = ((l.length : Nat) : Int) by omega, geti_at (by rw [List.length_append]; omega), ob_s]
      have : (gDig v ++ List.replicate z (0 : Int))[l.length]'(by rw [List.length_append]; omega) = d := by rw [List.getElem_append_left (by omega)]; simp [e]
      rw [this, show (d == 0) = false by rw [beq_eq_false_iff_ne]; exact hd, cond_false]
  | j + 1, f, hj, hf => by
    obtain ⟨f, rfl⟩ : ∃ g, f = g + 1 := ⟨f - 1, by omega⟩
    have h9 : lim = 1099511627776 := rfl
    rw [loopF_succ, impl_carried_B4, decide_eq_true (by omega), cond_true, wrap_in (by omega), show (((gDig v).length + (j + 1) : Nat) : Int) - 1 = (((gDig v).length + j : Nat) : Int) by omega, geti_at (by rw [List.length_append, List.length_replicate]; omega), ob_s]
    have h0 : (gDig v ++ List.replicate z (0 : Int))[(gDig v).length + j]'(by rw [List.length_append, List.length_replicate]; omega) = 0 := by
      rw [List.getElem_append_right (by omega), List.getElem_replicate]
    rw [h0, show ((0 : Int) == 0) = true from rfl, cond_true]
    exact strip_i hl j f (by omega) (by omega)
theorem gEm_len : ∀ n v, (gEm n v).length ≤ n + (gDig v).length
  | 0, v => by rw [gEm]; omega
  | n + 1, v => by
    have := gEm_len n (v / 10)
    rw [gEm, List.length_cons]
    have h2 : (gDig (v / 10)).length ≤ (gDig v).length := by
      rcases Nat.eq_zero_or_pos v with rfl | h
      · rw [Nat.zero_div]; exact Nat.le_refl _
      · rw [gDig_p h, List.length_cons]; omega
    omega
theorem gVal_le : ∀ (l : List Int), (∀ e ∈ l, 0 ≤ e ∧ e ≤ 1000000000) → gVal l * 9 + 1000000000 ≤ 1000000000 * 10 ^ l.length
  | [], _ => by rw [gVal, List.length_nil, Nat.pow_zero]; omega
  | d :: l, h => by
    have h1 := h d (List.mem_cons_self ..)
    have h2 := gVal_le l fun e he => h e (List.mem_cons_of_mem _ he)
    rw [gVal, List.length_cons, Nat.pow_succ]
    omega
theorem gVal_lt (l : List Int) (h : ∀ e ∈ l, 0 ≤ e ∧ e ≤ 1000000000) : gVal l < 10 ^ (l.length + 10) := by
  have h1 := gVal_le l h
  rw [Nat.pow_add]
  have : 0 < 10 ^ l.length := Nat.pow_pos (by omega)
  omega
theorem s_carry {d : List Int} (hd : ∀ e ∈ d, 0 ≤ e ∧ e ≤ 1000000000) (hl : d.length ≤ 1000000) : spec_l3Carry d = some (gR (gVal d)) := by
  have h9 : lim = 1099511627776 := rfl
  have hB : CRnd (spec_l3Carry_B1 d) d := fun rec out c k => ⟨fun hk => by
    simp only [spec_l3Carry_B1, spec_l3Carry_J2, spec_l3Carry_J3]
    rw [lt_dec hk, cond_true, cond_true, cond_true, geti_at hk, ob_s], fun hk => by
    simp only [spec_l3Carry_B1, spec_l3Carry_J2, spec_l3Carry_J3]
    rw [decide_eq_false (by omega), cond_false, cond_false]⟩
  have h1 := carry1 hB hd d.length 0 0 [] fz (by omega) (by omega) (by unfold fz; omega) (by simp; omega) (by omega)
  have hlen := (gDig_len _ _).2 (gVal_lt d hd)
  unfold spec_l3Carry
  rw [show ((0 : Nat) : Int) = 0 from rfl] at h1
  rw [h1, ob_s, List.nil_append, List.drop_zero, Nat.add_zero]
  obtain ⟨z, e⟩ := gEm_eq d.length (gVal d)
  have hz := gEm_len d.length (gVal d)
  rw [e, List.length_append, List.length_replicate] at hz
  rw [e, strip_s z _ fz (by omega) (by unfold fz; omega), ob_s]
  unfold gR
  by_cases h : gVal d < 10 ^ 60
  · have := gDig_lim h
    rw [decide_eq_true h, decide_eq_false (by omega)]; rfl
  · have : ¬ (gDig (gVal d)).length ≤ 60 := fun hh => h ((gDig_len _ _).1 hh)
    rw [decide_eq_false h, decide_eq_true (by omega)]; rfl
theorem i_carry {d : List Int} (hd : ∀ e ∈ d, 0 ≤ e ∧ e ≤ 1000000000) (hl : d.length ≤ 1000000) : impl_carried d = some (gR (gVal d)) := by
  have h9 : lim = 1099511627776 := rfl
  have hB : CRnd (impl_carried_B1 d) d := fun rec out c k => ⟨fun hk => by
    simp only [impl_carried_B1, impl_carried_J2, impl_carried_J3]
    rw [lt_dec hk, cond_true, cond_true, cond_true, geti_at hk, ob_s], fun hk => by
    simp only [impl_carried_B1, impl_carried_J2, impl_carried_J3]
    rw [decide_eq_false (by omega), cond_false, cond_false]⟩
  have h1 := carry1 hB hd d.length 0 0 [] fz (by omega) (by omega) (by unfold fz; omega) (by simp; omega) (by omega)
  have hlen := (gDig_len _ _).2 (gVal_lt d hd)
  unfold impl_carried
  rw [show ((0 : Nat) : Int) = 0 from rfl] at h1
  rw [h1, ob_s, List.nil_append, List.drop_zero, Nat.add_zero]
  obtain ⟨z, e⟩ := gEm_eq d.length (gVal d)
  have hz := gEm_len d.length (gVal d)
  rw [e, List.length_append, List.length_replicate] at hz
  have h2 := strip_i (v := gVal d) (z := z) (by omega) z fz (Nat.le_refl _) (by unfold fz; omega)
  rw [e, List.length_append, List.length_replicate, h2, ob_s, chk_pos (by omega)]
  have h3 : subl (gDig (gVal d) ++ List.replicate z (0 : Int)) 0 ((gDig (gVal d)).length : Int) = gDig (gVal d) := by
    unfold subl
    rw [Int.toNat_natCast, show (0 : Int).toNat = 0 from rfl, List.drop_zero, List.take_left']; rfl
  rw [h3]
  unfold gR
  by_cases h : gVal d < 10 ^ 60
  · have := gDig_lim h
    rw [decide_eq_true h, decide_eq_false (by omega)]; rfl
  · have : ¬ (gDig (gVal d)).length ≤ 60 := fun hh => h ((gDig_len _ _).1 hh)
    rw [decide_eq_false h, decide_eq_true (by omega)]; rfl
/-! ### products -/
theorem gVal_set : ∀ (l : List Int) (j : Nat) (t : Int) (hj : j < l.length), 0 ≤ l[j] → 0 ≤ t → gVal (l.set j (l[j] + t)) = gVal l + t.toNat * 10 ^ j
  | [], j, t, hj, _, _ => by simp at hj
  | d :: l, 0, t, hj, h0, ht => by
    simp only [List.getElem_cons_zero] at h0
    simp only [List.getElem_cons_zero, List.set_cons_zero, gVal, Nat.pow_zero]; omega
  | d :: l, j + 1, t, hj, h0, ht => by
    simp only [List.getElem_cons_succ] at h0
    simp only [List.getElem_cons_succ, List.set_cons_succ, gVal]
    rw [gVal_set l j t (by simpa using hj) h0 ht, Nat.pow_succ, Nat.mul_add, ← Nat.mul_assoc]
    rw [Nat.mul_comm (t.toNat) (10 ^ j * 10), Nat.mul_comm 10 t.toNat, Nat.mul_assoc t.toNat 10, Nat.mul_comm (10 ^ j) 10, Nat.mul_comm t.toNat (10 * 10 ^ j)]
    omega
theorem gVal_zero : ∀ n, gVal (List.replicate n 0) = 0
  | 0 => rfl
  | n + 1 => by rw [List.replicate_succ, gVal, gVal_zero n]; rfl
/-- between 0 and a bound -/
def gBd (c : Int) (l : List Int) : Prop := ∀ e ∈ l, 0 ≤ e ∧ e ≤ c
theorem gBd_set {c : Int} {l : List Int} (h : gBd c l) {j : Nat} {t : Int} (hj : j < l.length) (ht : 0 ≤ t ∧ t ≤ 81) : gBd (c + 81) (l.set j (l[j] + t)) := fun e he => by
  rcases List.mem_or_eq_of_mem_set he with he | rfl
  · have := h e he; omega
  · have := h _ (List.getElem_mem hj); omega
abbrev MBd := (List Int × Int → Option (List Int)) → List Int × Int → Option (List Int)
theorem dig_mul {x y : Int} (hx : 0 ≤ x ∧ x ≤ 9) (hy : 0 ≤ y ∧ y ≤ 9) : 0 ≤ x * y ∧ x * y ≤ 81 ∧ (x * y).toNat = x.toNat * y.toNat := by
  obtain ⟨a, rfl⟩ : ∃ a : Nat, x = (a : Int) := ⟨x.toNat, by omega⟩
  obtain ⟨b, rfl⟩ : ∃ b : Nat, y = (b : Int) := ⟨y.toNat, by omega⟩
  have h1 : a * b ≤ 9 * 9 := Nat.mul_le_mul (by omega) (by omega)
  have e : (a : Int) * (b : Int) = ((a * b : Nat) : Int) := by simp
  rw [e]
  exact ⟨by omega, by omega, by rw [Int.toNat_natCast, Int.toNat_natCast, Int.toNat_natCast]⟩
/-- the inner loop of a product -/
theorem mul_in {B : MBd} {b : List Int} {x : Int} {i : Nat} (hx : 0 ≤ x ∧ x ≤ 9) (hb : ∀ e ∈ b, 0 ≤ e ∧ e ≤ 9) (hl : i + b.length ≤ 1000)
    (hB : ∀ rec (y : List Int) (k : Nat), y.length ≤ 1000 → (∀ (hk : k < b.length) (hy : i + k < y.length), B rec (y, (k : Int)) = rec (seti y ((i + k : Nat) : Int) (IntKind.i64.wrap (y[i + k] + IntKind.i64.wrap (x * b[k]))), ((k + 1 : Nat) : Int))) ∧ (b.length ≤ k → B rec (y, (k : Int)) = some y)) :
    ∀ (j k : Nat) (y : List Int) (c : Int) (f : Nat), k + j = b.length → i + b.length ≤ y.length → y.length ≤ 1000 → gBd c y → 0 ≤ c → c + 81 * j ≤ 1000000000 → j < f → ∃ y', loopF B f (y, (k : Int)) = some y' ∧ y'.length = y.length ∧ gBd (c + 81 * j) y' ∧ gVal y' = gVal y + x.toNat * gVal (b.drop k) * 10 ^ (i + k)
  | 0, k, y, c, f, hk, hy, hy2, hc, _, _, hf => by
    obtain ⟨f, rfl⟩ : ∃ g, f = g + 1 := ⟨f - 1, by omega⟩
    refine ⟨y, ?_, rfl, by simpa using hc, ?_⟩
    · rw [loopF_succ, (hB _ _ _ hy2).2 (by omega)]
    · rw [List.drop_of_length_le (by omega), gVal]; simp
  | j + 1, k, y, c, f, hk, hy, hy2, hc, h0, h1, hf => by
    obtain ⟨f, rfl⟩ : ∃ g, f = g + 1 := ⟨f - 1, by omega⟩
    have hkl : k < b.length := by omega
    have hyl : i + k < y.length := by omega
    have hd := dig_mul hx (hb _ (List.getElem_mem hkl))
    have hyb := hc _ (List.getElem_mem hyl)
    have e1 : seti y ((i + k : Nat) : Int) (IntKind.i64.wrap (y[i + k] + IntKind.i64.wrap (x * b[k]))) = y.set (i + k) (y[i + k] + x * b[k]) := by
      unfold seti
      rw [Int.toNat_natCast, wrap_in (n := x * b[k]) (by omega), wrap_in (by omega)]
    obtain ⟨y', q1, q2, q3, q4⟩ := mul_in hx hb hl hB j (k + 1) (y.set (i + k) (y[i + k] + x * b[k])) (c + 81) f (by omega) (by rw [List.length_set]; exact hy) (by rw [List.length_set]; exact hy2) (gBd_set hc hyl ⟨hd.1, hd.2.1⟩) (by omega) (by omega) (by omega)
    refine ⟨y', ?_, by rw [q2, List.length_set], ?_, ?_⟩
    · rw [loopF_succ, (hB _ _ _ hy2).1 hkl hyl, e1]; exact q1
    · have : c + 81 + 81 * (j : Int) = c + 81 * ((j + 1 : Nat) : Int) := by omega
      rw [← this]; exact q3
    · rw [q4, gVal_set y (i + k) _ hyl hyb.1 hd.1, hd.2.2, List.drop_eq_getElem_cons hkl, gVal, show i + (k + 1) = i + k + 1 by omega, Nat.pow_succ]
      generalize x.toNat = X
      generalize (b[k]).toNat = Y
      generalize gVal (b.drop (k + 1)) = Z
      generalize 10 ^ (i + k) = P
      rw [Nat.mul_add, Nat.add_mul, Nat.add_assoc]
      congr 2
      rw [Nat.mul_comm P 10, ← Nat.mul_assoc, Nat.mul_assoc X Z 10, Nat.mul_comm Z 10]
/-- the outer loop of a product -/
theorem mul_out {B : MBd} {a b : List Int} (ha : ∀ e ∈ a, 0 ≤ e ∧ e ≤ 9) (hl : a.length ≤ 60) (hlb : b.length ≤ 60)
    (hB : ∀ rec (y : List Int) (i : Nat), (∀ (hi : i < a.length) (c : Int), y.length = a.length + b.length → gBd c y → 0 ≤ c → c + 81 * 60 ≤ 1000000000 → ∃ y', B rec (y, (i : Int)) = rec (y', ((i + 1 : Nat) : Int)) ∧ y'.length = y.length ∧ gBd (c + 81 * 60) y' ∧ gVal y' = gVal y + (a[i]).toNat * gVal b * 10 ^ i) ∧ (a.length ≤ i → B rec (y, (i : Int)) = some y)) :
    ∀ (j i : Nat) (y : List Int) (c : Int) (f : Nat), i + j = a.length → y.length = a.length + b.length → gBd c y → 0 ≤ c → c + 81 * 60 * j ≤ 1000000000 → j < f → ∃ y', loopF B f (y, (i : Int)) = some y' ∧ y'.length = y.length ∧ gBd (c + 81 * 60 * j) y' ∧ gVal y' = gVal y + gVal (a.drop i) * gVal b * 10 ^ i
  | 0, i, y, c, f, hi, hy, hc, _, _, hf => by
    obtain ⟨f, rfl⟩ : ∃ g, f = g + 1 := ⟨f - 1, by omega⟩
    refine ⟨y, ?_, rfl, by simpa using hc, ?_⟩
    · rw [loopF_succ, (hB _ _ _).2 (by omega)]
    · rw [List.drop_of_length_le (by omega), gVal]; simp
  | j + 1, i, y, c, f, hi, hy, hc, h0, h1, hf => by
    obtain ⟨f, rfl⟩ : ∃ g, f = g + 1 := ⟨f - 1, by omega⟩
    have hil : i < a.length := by omega
    obtain ⟨y1, q1, q2, q3, q4⟩ := (hB (loopF B f) y i).1 hil c hy hc h0 (by omega)
    obtain ⟨y', r1, r2, r3, r4⟩ := mul_out ha hl hlb hB j (i + 1) y1 (c + 81 * 60) f (by omega) (by omega) q3 (by omega) (by omega) (by omega)
    refine ⟨y', ?_, by omega, ?_, ?_⟩
    · rw [loopF_succ, q1]; exact r1
    · have : c + 81 * 60 + 81 * 60 * (j : Int) = c + 81 * 60 * ((j + 1 : Nat) : Int) := by omega
      rw [← this]; exact r3
    · rw [r4, q4, List.drop_eq_getElem_cons hil, gVal, Nat.pow_succ]
      generalize (a[i]).toNat = X
      generalize gVal b = Y
      generalize gVal (a.drop (i + 1)) = Z
      generalize 10 ^ i = P
      rw [Nat.add_mul, Nat.add_mul, Nat.add_assoc]
      congr 2
      rw [Nat.mul_comm P 10, ← Nat.mul_assoc, Nat.mul_right_comm Z Y 10, Nat.mul_comm Z 10]
/-- a product with the bound -/
def gMul (a b : List Int) : List Int × Bool := cond (gOk a) (cond (gOk b) (gR (gVal a * gVal b)) ([], false)) ([], false)
theorem gok_facts {l : List Int} (h : gOk l = true) : l.length ≤ 60 ∧ ∀ e ∈ l, 0 ≤ e ∧ e ≤ 9 := by
  obtain ⟨n, hn, rfl⟩ := gOk_iff.1 h
  exact ⟨gDig_lim hn, gDig_in n⟩
theorem s_gmul {a b : List Int} (ha : a.length ≤ lim) (hb : b.length ≤ lim) : spec_MulBigInt a b = some (gMul a b) := by
  unfold spec_MulBigInt gMul
  rw [s_gok ha, ob_s]
  cases h1 : gOk a with
  | false => rfl
  | true =>
    rw [Bool.not_true, cond_false, cond_true, s_gok hb, ob_s]
    cases h2 : gOk b with
    | false => rfl
    | true =>
      obtain ⟨l1, d1⟩ := gok_facts h1
      obtain ⟨l2, d2⟩ := gok_facts h2
      have hw : IntKind.i64.wrap ((a.length : Int) + (b.length : Int)) = ((a.length + b.length : Nat) : Int) := by rw [wrap_in (by omega)]; omega
      rw [Bool.not_true, cond_false, cond_true, hw, chk_pos (by unfold lim; omega), Int.toNat_natCast]
      obtain ⟨y, q1, q2, q3, q4⟩ := mul_out (B := spec_MulBigInt_B1 a b) d1 l1 l2 (fun rec y i => ⟨fun hi c hy hc h0 h9 => by
        obtain ⟨y', p1, p2, p3, p4⟩ := mul_in (B := spec_MulBigInt_B2 a b (i : Int)) (i := i) (d1 _ (List.getElem_mem hi)) d2 (by omega) (fun rec y k hy2 => ⟨fun hk hyk => by
          simp only [spec_MulBigInt_B2]
          rw [lt_dec hk, cond_true, wrap_in (n := (i : Int) + (k : Int)) (by omega), show (i : Int) + (k : Int) = ((i + k : Nat) : Int) by omega, geti_at hyk, ob_s, geti_at hi, ob_s, geti_at hk, ob_s, ob_s, wrap_in (n := (k : Int) + 1) (by omega)]
          rfl, fun hk => by
          simp only [spec_MulBigInt_B2]
          rw [decide_eq_false (by omega), cond_false]⟩) b.length 0 y c fz (by omega) (by omega) (by omega) hc h0 (by omega) (by unfold fz; omega)
        refine ⟨y', ?_, p2, fun e he => ?_, by rw [p4, List.drop_zero]; simp⟩
        · simp only [spec_MulBigInt_B1]
          have p1' : loopF (spec_MulBigInt_B2 a b (i : Int)) fz (y, 0) = some y' := p1
          rw [lt_dec hi, cond_true, p1', ob_s, wrap_in (by omega)]; rfl
        · have := p3 e he; omega, fun hi => by
        simp only [spec_MulBigInt_B1]
        rw [decide_eq_false (by omega), cond_false]⟩) a.length 0 (List.replicate (a.length + b.length) 0) 0 fz (by omega) (by simp) (fun e he => by rw [(List.mem_replicate.1 he).2]; omega) (by omega) (by omega) (by unfold fz; omega)
      have q1' : loopF (spec_MulBigInt_B1 a b) fz (List.replicate (a.length + b.length) 0, 0) = some y := q1
      rw [q1', ob_s, s_carry (fun e he => by have := q3 e he; omega) (by rw [q2, List.length_replicate]; omega), ob_s, q4, gVal_zero, List.drop_zero, Nat.pow_zero, Nat.mul_one, Nat.zero_add]
theorem i_gmul {a b : List Int} (ha : a.length ≤ lim) (hb : b.length ≤ lim) : impl_MulBigInt a b = some (gMul a b) := by
  unfold impl_MulBigInt gMul
  rw [i_gok ha, ob_s]
  cases h1 : gOk a with
  | false => rfl
  | true =>
    rw [Bool.not_true, cond_false, cond_true, i_gok hb, ob_s]
    cases h2 : gOk b with
    | false => rfl
    | true =>
      obtain ⟨l1, d1⟩ := gok_facts h1
      obtain ⟨l2, d2⟩ := gok_facts h2
      have hw : IntKind.i64.wrap ((a.length : Int) + (b.length : Int)) = ((a.length + b.length : Nat) : Int) := by rw [wrap_in (by omega)]; omega
      rw [Bool.not_true, cond_false, cond_true, hw, chk_pos (by unfold lim; omega), Int.toNat_natCast]
      obtain ⟨y, q1, q2, q3, q4⟩ := mul_out (B := impl_MulBigInt_B1 a b) d1 l1 l2 (fun rec y i => ⟨fun hi c hy hc h0 h9 => by
        obtain ⟨y', p1, p2, p3, p4⟩ := mul_in (B := impl_MulBigInt_B2 b (i : Int) a[i]) (i := i) (d1 _ (List.getElem_mem hi)) d2 (by omega) (fun rec y k hy2 => ⟨fun hk hyk => by
          simp only [impl_MulBigInt_B2]
          rw [lt_dec hk, cond_true, wrap_in (n := (i : Int) + (k : Int)) (by omega), show (i : Int) + (k : Int) = ((i + k : Nat) : Int) by omega, geti_at hk, ob_s, geti_at hyk, ob_s, ob_s, wrap_in (n := (k : Int) + 1) (by omega)]
          rfl, fun hk => by
          simp only [impl_MulBigInt_B2]
          rw [decide_eq_false (by omega), cond_false]⟩) b.length 0 y c fz (by omega) (by omega) (by omega) hc h0 (by omega) (by unfold fz; omega)
        refine ⟨y', ?_, p2, fun e he => ?_, by rw [p4, List.drop_zero]; simp⟩
        · simp only [impl_MulBigInt_B1]
          have p1' : loopF (impl_MulBigInt_B2 b (i : Int) a[i]) fz (y, 0) = some y' := p1
          rw [lt_dec hi, cond_true, geti_at hi, ob_s, p1', ob_s, wrap_in (by omega)]; rfl
        · have := p3 e he; omega, fun hi => by
        simp only [impl_MulBigInt_B1]
        rw [decide_eq_false (by omega), cond_false]⟩) a.length 0 (List.replicate (a.length + b.length) 0) 0 fz (by omega) (by simp) (fun e he => by rw [(List.mem_replicate.1 he).2]; omega) (by omega) (by omega) (by unfold fz; omega)
      have q1' : loopF (impl_MulBigInt_B1 a b) fz (List.replicate (a.length + b.length) 0, 0) = some y := q1
      rw [q1', ob_s, i_carry (fun e he => by have := q3 e he; omega) (by rw [q2, List.length_replicate]; omega), ob_s, q4, gVal_zero, List.drop_zero, Nat.pow_zero, Nat.mul_one, Nat.zero_add]
/-! ### comparison -/
def gCmp (m n : Nat) : Int := cond (decide (m < n)) (-1) (cond (decide (n < m)) 1 0)
theorem gVal_take : ∀ (l : List Int) (i : Nat) (hi : i < l.length), gVal (l.take (i + 1)) = gVal (l.take i) + (l[i]).toNat * 10 ^ i
  | [], i, hi => by simp at hi
  | d :: l, 0, hi => by simp [gVal]
  | d :: l, i + 1, hi => by
    simp only [List.take_succ_cons, gVal, List.getElem_cons_succ]
    rw [gVal_take l i (by simpa using hi), Nat.pow_succ, Nat.mul_add, Nat.add_assoc]
    congr 2
    rw [Nat.mul_comm (10 ^ i) 10, ← Nat.mul_assoc, ← Nat.mul_assoc, Nat.mul_comm 10]
theorem gVal_small : ∀ (l : List Int) (i : Nat), (∀ e ∈ l, 0 ≤ e ∧ e ≤ 9) → gVal (l.take i) < 10 ^ i
  | l, 0, _ => by rw [List.take_zero, gVal, Nat.pow_zero]; omega
  | [], i + 1, _ => by rw [List.take_nil, gVal]; exact Nat.pow_pos (by omega)
  | d :: l, i + 1, h => by
    have h1 := h d (List.mem_cons_self ..)
    have h2 := gVal_small l i fun e he => h e (List.mem_cons_of_mem _ he)
    rw [List.take_succ_cons, gVal, Nat.pow_succ]; omega
theorem cmp_down {B : (Int → Option (Sum Unit Int)) → Int → Option (Sum Unit Int)} {a b : List Int} (ha : ∀ e ∈ a, 0 ≤ e ∧ e ≤ 9) (hb : ∀ e ∈ b, 0 ≤ e ∧ e ≤ 9) (hl : a.length = b.length) (hl2 : a.length ≤ 60)
    (hB : ∀ rec (i : Nat) (h1 : i < a.length) (h2 : i < b.length), B rec (i : Int) = cond (decide (a[i] < b[i])) (some (.inr (-1))) (cond (decide (b[i] < a[i])) (some (.inr 1)) (rec ((i : Int) - 1)))) (h0 : ∀ rec, B rec (-1) = some (.inl ())) :
    ∀ (j f : Nat), j ≤ a.length → j < f → loopF B f ((j : Int) - 1) = some (cond (decide (gVal (a.take j) < gVal (b.take j))) (.inr (-1)) (cond (decide (gVal (b.take j) < gVal (a.take j))) (.inr 1) (.inl ())))
  | 0, f, _, hf => by
    obtain ⟨f, rfl⟩ : ∃ g, f = g + 1 := ⟨f - 1, by omega⟩
    rw [loopF_succ, show ((0 : Nat) : Int) - 1 = -1 from rfl, h0]; rfl
  | j + 1, f, hj, hf => by
    obtain ⟨f, rfl⟩ : ∃ g, f = g + 1 := ⟨f - 1, by omega⟩
    have hja : j < a.length := by omega
    have hjb : j < b.length := by omega
    have d1 := ha _ (List.getElem_mem hja)
    have d2 := hb _ (List.getElem_mem hjb)
    have v1 := gVal_small a j ha
    have v2 := gVal_small b j hb
    rw [loopF_succ, show ((j + 1 : Nat) : Int) - 1 = (j : Int) by omega, hB _ j hja hjb, gVal_take a j hja, gVal_take b j hjb]
    generalize hx : a[j] = x at d1
    generalize hy : b[j] = y at d2
    obtain ⟨x, rfl⟩ : ∃ n : Nat, x = (n : Int) := ⟨x.toNat, by omega⟩
    obtain ⟨y, rfl⟩ : ∃ n : Nat, y = (n : Int) := ⟨y.toNat, by omega⟩
    rw [Int.toNat_natCast, Int.toNat_natCast]
    rcases Nat.lt_trichotomy x y with h | h | h
    · have : (x + 1) * 10 ^ j ≤ y * 10 ^ j := Nat.mul_le_mul_right _ h
      rw [Nat.add_mul, Nat.one_mul] at this
      rw [decide_eq_true (show (x : Int) < (y : Int) by omega), decide_eq_true (show gVal (a.take j) + x * 10 ^ j < gVal (b.take j) + y * 10 ^ j by omega)]; rfl
    · subst h
      rw [decide_eq_false (show ¬ (x : Int) < (x : Int) by omega), cond_false, cond_false, cmp_down ha hb hl hl2 hB h0 j f (by omega) (by omega)]
      have e1 : decide (gVal (a.take j) + x * 10 ^ j < gVal (b.take j) + x * 10 ^ j) = decide (gVal (a.take j) < gVal (b.take j)) := by rw [decide_eq_decide]; omega
      have e2 : decide (gVal (b.take j) + x * 10 ^ j < gVal (a.take j) + x * 10 ^ j) = decide (gVal (b.take j) < gVal (a.take j)) := by rw [decide_eq_decide]; omega
      rw [e1, e2]
    · have : (y + 1) * 10 ^ j ≤ x * 10 ^ j := Nat.mul_le_mul_right _ h
      rw [Nat.add_mul, Nat.one_mul] at this
      rw [decide_eq_false (show ¬ (x : Int) < (y : Int) by omega), decide_eq_true (show (y : Int) < (x : Int) by omega), decide_eq_false (show ¬ gVal (a.take j) + x * 10 ^ j < gVal (b.take j) + y * 10 ^ j by omega), decide_eq_true (show gVal (b.take j) + y * 10 ^ j < gVal (a.take j) + x * 10 ^ j by omega)]; rfl
theorem len_lt {m n : Nat} (h : (gDig m).length < (gDig n).length) : m < n := by
  have h1 := (gDig_len (gDig m).length m).1 (Nat.le_refl _)
  have h2 : ¬ n < 10 ^ (gDig m).length := fun hh => by have := (gDig_len _ n).2 hh; omega
  omega
theorem s_gcmp {m n : Nat} (hm : m < 10 ^ 60) (hn : n < 10 ^ 60) : spec_CompareBigInts (gDig m) (gDig n) = some (gCmp m n) := by
  have l1 := gDig_lim hm
  have l2 := gDig_lim hn
  unfold spec_CompareBigInts gCmp
  rw [s_gok (lim60 l1), ob_s, gOk_dig hm, Bool.not_true, cond_false, s_gok (lim60 l2), ob_s, gOk_dig hn, Bool.not_true, cond_false]
  rcases Nat.lt_trichotomy (gDig m).length (gDig n).length with h | h | h
  · rw [show (((gDig m).length : Int) != ((gDig n).length : Int)) = true by rw [bne_iff_ne]; omega, cond_true, decide_eq_true (by omega), decide_eq_true (len_lt h)]; rfl
  · have key := cmp_down (B := spec_CompareBigInts_B1 (gDig m) (gDig n)) (gDig_in m) (gDig_in n) h l1 (fun rec i h1 h2 => by
      simp only [spec_CompareBigInts_B1]
      rw [decide_eq_true (by omega : (0 : Int) ≤ (i : Int)), cond_true, geti_at h1, ob_s, geti_at h2, ob_s, ob_s, ob_s, wrap_in (by omega)]) (fun rec => by simp only [spec_CompareBigInts_B1]; rfl) (gDig m).length fz (Nat.le_refl _) (by unfold fz; omega)
    rw [List.take_length, h, List.take_length, gVal_dig, gVal_dig] at key
    rw [show (((gDig m).length : Int) != ((gDig n).length : Int)) = false by rw [bne_eq_false_iff_eq]; omega, cond_false, wrap_in (by omega), h, key, ob_s]
    cases decide (m < n) <;> cases decide (n < m) <;> rfl
  · have := len_lt h
    rw [show (((gDig m).length : Int) != ((gDig n).length : Int)) = true by rw [bne_iff_ne]; omega, cond_true, decide_eq_false (by omega), decide_eq_false (by omega), decide_eq_true this]; rfl
theorem i_gcmp {m n : Nat} (hm : m < 10 ^ 60) (hn : n < 10 ^ 60) : impl_CompareBigInts (gDig m) (gDig n) = some (gCmp m n) := by
  have l1 := gDig_lim hm
  have l2 := gDig_lim hn
  unfold impl_CompareBigInts gCmp
  rw [i_gok (lim60 l1), ob_s, gOk_dig hm, Bool.not_true, cond_false, i_gok (lim60 l2), ob_s, gOk_dig hn, Bool.not_true, cond_false]
  rcases Nat.lt_trichotomy (gDig m).length (gDig n).length with h | h | h
  · rw [show (((gDig m).length : Int) != ((gDig n).length : Int)) = true by rw [bne_iff_ne]; omega, cond_true, i_cmpI, ob_s, if_pos (by omega), decide_eq_true (len_lt h)]; rfl
  · have key := cmp_down (B := impl_CompareBigInts_B1 (gDig m) (gDig n)) (gDig_in m) (gDig_in n) h l1 (fun rec i h1 h2 => by
      simp only [impl_CompareBigInts_B1]
      rw [decide_eq_true (by omega : (0 : Int) ≤ (i : Int)), cond_true, geti_at h1, ob_s, geti_at h2, ob_s, ob_s, ob_s, i_cmpI, ob_s, wrap_in (by omega)]
      rcases Int.lt_trichotomy (gDig m)[i] (gDig n)[i] with q | q | q
      · rw [show ((gDig m)[i] != (gDig n)[i]) = true by rw [bne_iff_ne]; omega, decide_eq_true q, if_pos q]; rfl
      · rw [show ((gDig m)[i] != (gDig n)[i]) = false by rw [bne_eq_false_iff_eq]; omega, decide_eq_false (by omega), decide_eq_false (by omega)]; rfl
      · rw [show ((gDig m)[i] != (gDig n)[i]) = true by rw [bne_iff_ne]; omega, decide_eq_false (by omega), decide_eq_true q, if_neg (by omega), if_pos q]; rfl) (fun rec => by simp only [impl_CompareBigInts_B1]; rfl) (gDig m).length fz (Nat.le_refl _) (by unfold fz; omega)
    rw [List.take_length, h, List.take_length, gVal_dig, gVal_dig] at key
    rw [show (((gDig m).length : Int) != ((gDig n).length : Int)) = false by rw [bne_eq_false_iff_eq]; omega, cond_false, wrap_in (by omega), h, key, ob_s]
    cases decide (m < n) <;> cases decide (n < m) <;> rfl
  · have := len_lt h
    rw [show (((gDig m).length : Int) != ((gDig n).length : Int)) = true by rw [bne_iff_ne]; omega, cond_true, i_cmpI, ob_s, if_neg (by omega), if_pos (by omega), decide_eq_false (by omega), decide_eq_true this]; rfl
end Go.Proofs.YtkclaipnejgloaaDoor
