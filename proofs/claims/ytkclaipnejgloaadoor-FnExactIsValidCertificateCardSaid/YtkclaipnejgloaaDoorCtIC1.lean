/-
  Covers, powers and the bounds of a certificate: the reference and the program agree. On the printed functions; conditions: lengths, numbers in range.
-/
import Derived.Test.YtkclaipnejgloaaDoorBgIC1
import Derived.Test.YtkclaipnejgloaaDoorQfIC1
-- pure
namespace Go.Proofs.YtkclaipnejgloaaDoor
open Go.RowKit
set_option linter.unusedVariables false
set_option linter.unusedSimpArgs false
/-- a loop that ends at a bad element -/
theorem exit_loop {O : Type} {B : (Int → Option (Sum Unit O)) → Int → Option (Sum Unit O)} {n : Nat} (bad : Nat → Bool) (o : O) (hn : n ≤ lim) (h1 : ∀ k, k < n → ∀ rec, B rec (k : Int) = cond (bad k) (some (.inr o)) (rec ((k + 1 : Nat) : Int))) (h2 : ∀ rec, B rec (n : Int) = some (.inl ())) :
    loopF B fz 0 = some (cond ((List.range n).any bad) (.inr o) (.inl ())) := by
  have key : ∀ d k, k + d = n → (∀ j, j < k → bad j = false) → ∀ m, d < m → loopF B m (k : Int) = some (cond ((List.range n).any bad) (.inr o) (.inl ())) := by
    intro d
    induction d with
    | zero =>
      intro k hk hb m hm
      obtain ⟨m, rfl⟩ : ∃ g, m = g + 1 := ⟨m - 1, by omega⟩
      have : (List.range n).any bad = false := by
        rw [List.any_eq_false]
        intro x hx
        rw [hb x (by have := List.mem_range.1 hx; omega)]; simp
      rw [loopF_succ, show k = n by omega, h2, this]; rfl
    | succ d ih =>
      intro k hk hb m hm
      obtain ⟨m, rfl⟩ : ∃ g, m = g + 1 := ⟨m - 1, by omega⟩
      rw [loopF_succ, h1 k (by omega)]
      cases hbk : bad k with
      | true =>
        have : (List.range n).any bad = true := by rw [List.any_eq_true]; exact ⟨k, List.mem_range.2 (by omega), hbk⟩
        rw [this]; rfl
      | false =>
        exact ih (k + 1) (by omega) (fun j hj => by
          rcases Nat.lt_or_ge j k with h | h
          · exact hb j h
          · rw [show j = k by omega]; exact hbk) m (by omega)
  have := key n 0 (by omega) (fun j hj => absurd hj (by omega)) fz (lt_fz hn)
  simpa using this
/-! ### weights -/
def wOk (r : Rt) : Bool := rOk r && (decide (0 ≤ r.1) && (decide (r.1 ≤ 1000) && decide (r.2 ≤ 1000)))
theorem s_small {w : List Rt} (h : w.length ≤ lim) (n : Int) : spec_l12Small w n = some (!badAny w (fun _ r => !wOk r) && ((w.length : Int) == n)) := by
  unfold spec_l12Small
  rw [all_loop (fun k => atB w k fun r => !wOk r) h (fun k hk rec => by
    unfold spec_l12Small_B1
    simp only [geti_at hk, ob_s, s_rok]
    rw [lt_dec hk, cond_true, wrap_s hk (lim_max h), atB_lt hk]
    unfold wOk
    cases rOk w[k] with
    | false => rfl
    | true =>
      by_cases h1 : 0 ≤ w[k].1
      · rw [decide_eq_true h1, decide_eq_false (by omega : ¬ w[k].1 < 0)]
        by_cases h2 : w[k].1 ≤ 1000
        · rw [decide_eq_true h2, decide_eq_false (by omega : ¬ 1000 < w[k].1)]
          by_cases h3 : w[k].2 ≤ 1000
          · rw [decide_eq_true h3, decide_eq_false (by omega : ¬ 1000 < w[k].2)]; rfl
          · rw [decide_eq_false h3, decide_eq_true (by omega : 1000 < w[k].2)]; rfl
        · rw [decide_eq_false h2, decide_eq_true (by omega : 1000 < w[k].1)]; rfl
      · rw [decide_eq_false h1, decide_eq_true (by omega : w[k].1 < 0)]; rfl) (fun rec => by unfold spec_l12Small_B1; rw [nlt_dec, cond_false]), ob_s]
  show (match cond (badAny w fun _ r => !wOk r) (Sum.inr false) (Sum.inl ()) with | .inl _ => _ | .inr r => some r) = _
  cases badAny w fun _ r => !wOk r <;> rfl
theorem i_adm {w : List Rt} (h : w.length ≤ lim) : impl_admissible w = some (!badAny w (fun _ r => !wOk r)) := by
  unfold impl_admissible
  rw [all_loop (fun k => atB w k fun r => !wOk r) h (fun k hk rec => by
    unfold impl_admissible_B1
    simp only [geti_at hk, ob_s, i_rok, i_within]
    rw [lt_dec hk, cond_true, wrap_s hk (lim_max h), atB_lt hk]
    unfold wOk btw
    cases rOk w[k] with
    | false => rfl
    | true =>
      by_cases h1 : 0 ≤ w[k].1
      · rw [decide_eq_true h1]
        by_cases h2 : w[k].1 ≤ 1000
        · rw [decide_eq_true h2]
          by_cases h3 : w[k].2 ≤ 1000
          · rw [decide_eq_true h3, decide_eq_false (by omega : ¬ 1000 < w[k].2)]; rfl
          · rw [decide_eq_false h3, decide_eq_true (by omega : 1000 < w[k].2)]; rfl
        · rw [decide_eq_false h2]; rfl
      · rw [decide_eq_false h1]; rfl) (fun rec => by unfold impl_admissible_B1; rw [nlt_dec, cond_false]), ob_s]
  show (match cond (badAny w fun _ r => !wOk r) (Sum.inr false) (Sum.inl ()) with | .inl _ => _ | .inr r => some r) = _
  cases badAny w fun _ r => !wOk r <;> rfl
/-! ### sums -/
def rSumF : Rt → List Rt → Rt × Bool
  | x, [] => (x, true)
  | x, r :: l => cond (rAdd x r).2 (rSumF (rAdd x r).1 l) ((0, 0), false)
abbrev SmB := ((Int × Int × Int) → Option (Sum (Int × Int) (Rt × Bool))) → (Int × Int × Int) → Option (Sum (Int × Int) (Rt × Bool))
theorem sum_loop {B : SmB} {l : List Rt} (h1 : ∀ rec (x : Rt) k (hk : k < l.length), B rec (x.1, x.2, (k : Int)) = cond (!(rAdd x l[k]).2) (some (.inr ((0, 0), false))) (rec ((rAdd x l[k]).1.1, (rAdd x l[k]).1.2, ((k + 1 : Nat) : Int)))) (h2 : ∀ rec (x : Rt), B rec (x.1, x.2, (l.length : Int)) = some (.inl (x.1, x.2))) :
    ∀ (j k : Nat) (x : Rt) (f : Nat), k + j = l.length → j < f → loopF B f (x.1, x.2, (k : Int)) = some (cond (rSumF x (l.drop k)).2 (.inl (rSumF x (l.drop k)).1) (.inr ((0, 0), false)))
  | 0, k, x, f, hk, hf => by
    obtain ⟨f, rfl⟩ : ∃ g, f = g + 1 := ⟨f - 1, by omega⟩
    obtain rfl : k = l.length := by omega
    rw [loopF_succ, h2, List.drop_length]; rfl
  | j + 1, k, x, f, hk, hf => by
    obtain ⟨f, rfl⟩ : ∃ g, f = g + 1 := ⟨f - 1, by omega⟩
    have hlt : k < l.length := by omega
    rw [loopF_succ, h1 _ x k hlt, List.drop_eq_getElem_cons hlt, rSumF]
    cases hb : (rAdd x l[k]).2 with
    | false => rfl
    | true =>
      rw [Bool.not_true, cond_false, cond_true]
      exact sum_loop h1 h2 j (k + 1) (rAdd x l[k]).1 f (by omega) (by omega)
def rSum (l : List Rt) : Rt × Bool := rSumF (0, 1) l
theorem rSumF_no : ∀ (l : List Rt) (x : Rt), (rSumF x l).2 = false → rSumF x l = ((0, 0), false)
  | [], x, h => by rw [rSumF] at h; cases h
  | r :: l, x, h => by
    rw [rSumF] at h ⊢
    cases hb : (rAdd x r).2 with
    | false => rfl
    | true => rw [hb, cond_true] at h; rw [cond_true]; exact rSumF_no l _ h
theorem s_sum {l : List Rt} (h : l.length ≤ lim) : spec_SumRationals l = some (rSum l) := by
  unfold spec_SumRationals rSum
  have key := sum_loop (B := spec_SumRationals_B1 l) (l := l) (fun rec x k hk => by
    simp only [spec_SumRationals_B1]
    rw [lt_dec hk, cond_true, geti_at hk, ob_s, s_radd, ob_s, wrap_s hk (lim_max h)]) (fun rec x => by simp only [spec_SumRationals_B1]; rw [nlt_dec, cond_false]) l.length 0 (0, 1) fz (by omega) (lt_fz h)
  have key' : loopF (spec_SumRationals_B1 l) fz (0, 1, 0) = _ := key
  rw [key', ob_s, List.drop_zero]
  cases hb : (rSumF (0, 1) l).2 with
  | true => exact congrArg some (Prod.ext rfl hb.symm)
  | false => rw [rSumF_no _ _ hb]; rfl
theorem i_sum {l : List Rt} (h : l.length ≤ lim) : impl_SumRationals l = some (rSum l) := by
  unfold impl_SumRationals rSum
  have key := sum_loop (B := impl_SumRationals_B1 l) (l := l) (fun rec x k hk => by
    simp only [impl_SumRationals_B1]
    rw [lt_dec hk, cond_true, geti_at hk, ob_s, i_radd, ob_s, wrap_s hk (lim_max h)]) (fun rec x => by simp only [impl_SumRationals_B1]; rw [nlt_dec, cond_false]) l.length 0 (0, 1) fz (by omega) (lt_fz h)
  have key' : loopF (impl_SumRationals_B1 l) fz (0, 1, 0) = _ := key
  rw [key', ob_s, List.drop_zero]
  cases hb : (rSumF (0, 1) l).2 with
  | true => exact congrArg some (Prod.ext rfl hb.symm)
  | false => rw [rSumF_no _ _ hb]; rfl
/-! ### covers -/
def covL (p : List (Atm × Rt)) (v : Int) : List Rt := (p.filter fun x => x.1.2.contains v).map (·.2)
theorem covL_snoc (p : List (Atm × Rt)) (x : Atm × Rt) (v : Int) : covL (p ++ [x]) v = cond (x.1.2.contains v) (covL p v ++ [x.2]) (covL p v) := by
  unfold covL
  rw [List.filter_append, List.map_append]
  cases h : x.1.2.contains v with
  | true => rw [List.filter_cons, if_pos h]; rfl
  | false => rw [List.filter_cons, if_neg (by rw [h]; simp)]; simp
theorem covL_len (p : List (Atm × Rt)) (v : Int) : (covL p v).length ≤ p.length := by
  unfold covL; rw [List.length_map]; exact List.length_filter_le ..
theorem cov_loop {B : (List Rt × Int → Option (List Rt)) → List Rt × Int → Option (List Rt)} {p : List (Atm × Rt)} {v : Int} (hl : p.length ≤ lim)
    (h1 : ∀ rec (y : List Rt) k (hk : k < p.length), y.length + 1 ≤ lim → B rec (y, (k : Int)) = cond (p[k].1.2.contains v) (rec (y ++ [p[k].2], ((k + 1 : Nat) : Int))) (rec (y, ((k + 1 : Nat) : Int)))) (h2 : ∀ rec (y : List Rt), B rec (y, (p.length : Int)) = some y) : loopF B fz ([], 0) = some (covL p v) := by
  have := loop_to (body := B) (out := covL p v) (fun k => (covL (p.take k) v, (k : Int))) p.length (fun k hk rec => by
    have hc := covL_len (p.take k) v
    rw [List.length_take] at hc
    rw [h1 rec _ k hk (by omega), List.take_succ_eq_append_getElem hk, covL_snoc]
    cases p[k].1.2.contains v <;> rfl) (fun rec => by rw [h2, List.take_length]) fz (lt_fz hl)
  simpa [covL] using this
def covBad (p : List (Atm × Rt)) (v : Int) : Bool := !(rSum (covL p v)).2 || decide (rCmp (rSum (covL p v)).1 (1, 1) < 0)
def coverB (q : Qry) (w : List Rt) : Bool := qryB q && (((w.length : Int) == (q.2.1.length : Int)) && (!badAny w (fun _ r => !wOk r) && !((List.range q.1.toNat).any fun v => covBad (q.2.1.zip w) (v : Int))))
theorem s_coverB {q : Qry} {w : List Rt} (hq : smQ q) (h : w.length ≤ lim) (hcv : ∀ a : Atm, a.2.length ≤ lim → ∀ v, spec_ContainsVariable a v = some (a.2.contains v)) : spec_IsFractionalCover q w = some (coverB q w) := by
  unfold spec_IsFractionalCover coverB
  rw [s_query hq, ob_s]
  cases hv : qryB q with
  | false => rfl
  | true =>
    have hn := qry_n hv
    rw [Bool.not_true, cond_false, s_small h, ob_s, Bool.true_and]
    cases hl : ((w.length : Int) == (q.2.1.length : Int)) with
    | false => rw [Bool.and_false]; rfl
    | true =>
      rw [beq_iff_eq] at hl
      cases hb : badAny w fun _ r => !wOk r with
      | true => rfl
      | false =>
        simp only [Bool.not_false, Bool.and_true, Bool.true_and, Bool.not_true, cond_false]
        have hz : (q.2.1.zip w).length = q.2.1.length := by rw [List.length_zip]; omega
        rw [all_loop (n := q.1.toNat) (fun v => covBad (q.2.1.zip w) (v : Int)) (by unfold lim; omega) (fun v hvl rec => by
          unfold spec_IsFractionalCover_B1
          rw [decide_eq_true (by omega), cond_true, cov_loop (p := q.2.1.zip w) (v := (v : Int)) (by rw [hz]; exact hq.1) (fun rec y k hk hy => by
            have hk1 : k < q.2.1.length := by omega
            have hk2 : k < w.length := by omega
            simp only [spec_IsFractionalCover_B2, spec_IsFractionalCover_J3]
            rw [lt_dec hk2, cond_true, geti_at hk1, ob_s, hcv _ (hq.2.1 _ (List.getElem_mem hk1)).2, ob_s, geti_at hk2, ob_s, chk_pos (by rw [List.length_singleton]; exact hy), wrap_s hk2 (lim_max h), List.getElem_zip]) (fun rec y => by
            simp only [spec_IsFractionalCover_B2]
            rw [hz, show (q.2.1.length : Int) = (w.length : Int) by omega, nlt_dec, cond_false]), ob_s, s_sum (Nat.le_trans (covL_len _ _) (by rw [hz]; exact hq.1)), ob_s, s_rcmp, ob_s, wrap_in (by omega)]
          unfold covBad
          cases (rSum (covL (q.2.1.zip w) (v : Int))).2 with
          | false => rfl
          | true => simp only [Bool.not_true, cond_false, Bool.false_or]; rfl) (fun rec => by
          unfold spec_IsFractionalCover_B1
          rw [decide_eq_false (by omega), cond_false]), ob_s]
        cases (List.range q.1.toNat).any fun v => covBad (q.2.1.zip w) (v : Int) <;> rfl
theorem i_coverB {q : Qry} {w : List Rt} (hq : smQ q) (h : w.length ≤ lim) (hcv : ∀ a : Atm, a.2.length ≤ lim → ∀ v, impl_ContainsVariable a v = some (a.2.contains v)) : impl_IsFractionalCover q w = some (coverB q w) := by
  unfold impl_IsFractionalCover coverB
  rw [i_query hq, ob_s]
  cases hv : qryB q with
  | false => rfl
  | true =>
    have hn := qry_n hv
    rw [Bool.not_true, cond_false, Bool.true_and, bne]
    cases hl : ((w.length : Int) == (q.2.1.length : Int)) with
    | false => rfl
    | true =>
      rw [beq_iff_eq] at hl
      rw [Bool.not_true, cond_false, i_adm h, ob_s]
      cases hb : badAny w fun _ r => !wOk r with
      | true => rfl
      | false =>
        simp only [Bool.not_false, Bool.and_true, Bool.true_and, Bool.not_true, cond_false]
        have hz : (q.2.1.zip w).length = q.2.1.length := by rw [List.length_zip]; omega
        rw [all_loop (n := q.1.toNat) (fun v => covBad (q.2.1.zip w) (v : Int)) (by unfold lim; omega) (fun v hvl rec => by
          unfold impl_IsFractionalCover_B1
          rw [decide_eq_true (by omega), cond_true, cov_loop (p := q.2.1.zip w) (v := (v : Int)) (by rw [hz]; exact hq.1) (fun rec y k hk hy => by
            have hk1 : k < q.2.1.length := by omega
            have hk2 : k < w.length := by omega
            simp only [impl_IsFractionalCover_B2, impl_IsFractionalCover_J3]
            rw [lt_dec hk1, cond_true, geti_at hk1, ob_s, hcv _ (hq.2.1 _ (List.getElem_mem hk1)).2, ob_s, geti_at hk2, ob_s, chk_pos (by rw [List.length_singleton]; exact hy), wrap_s hk1 (lim_max hq.1), List.getElem_zip]) (fun rec y => by
            simp only [impl_IsFractionalCover_B2]
            rw [hz, nlt_dec, cond_false]), ob_s, i_sum (Nat.le_trans (covL_len _ _) (by rw [hz]; exact hq.1)), ob_s, i_rcmp, ob_s, wrap_in (by omega)]
          unfold covBad
          cases (rSum (covL (q.2.1.zip w) (v : Int))).2 with
          | false => rfl
          | true => simp only [Bool.not_true, cond_false, Bool.false_or]; rfl) (fun rec => by
          unfold impl_IsFractionalCover_B1
          rw [decide_eq_false (by omega), cond_false]), ob_s]
        cases (List.range q.1.toNat).any fun v => covBad (q.2.1.zip w) (v : Int) <;> rfl
/-! ### the common denominator -/
def scOk (r : Rt) : Bool := rOk r && decide (0 ≤ r.1)
/-- the next common denominator -/
def scN (d : Int) (r : Rt) : Int := d.tdiv (Nat.gcd d.natAbs r.2.natAbs : Nat) * r.2
def scD : Int → List Rt → Option Int
  | d, [] => some d
  | d, r :: l => cond (decide (1000 < scN d r)) none (scD (scN d r) l)
theorem scN_in {d : Int} {r : Rt} (hd : 1 ≤ d ∧ d ≤ 1000) (hr : rOk r = true) : IntKind.i64.wrap (d.tdiv (Nat.gcd d.natAbs r.2.natAbs : Nat)) = d.tdiv (Nat.gcd d.natAbs r.2.natAbs : Nat) ∧ IntKind.i64.wrap (scN d r) = scN d r ∧ 1 ≤ scN d r := by
  have f := rok_facts hr
  obtain ⟨n, rfl⟩ : ∃ n : Nat, d = (n : Int) := ⟨d.toNat, by omega⟩
  obtain ⟨m, hm⟩ : ∃ m : Nat, r.2 = (m : Int) := ⟨r.2.toNat, by omega⟩
  unfold scN
  rw [hm, Int.natAbs_natCast, Int.natAbs_natCast]
  have hg : 0 < Nat.gcd n m := Nat.gcd_pos_of_pos_left _ (by omega)
  have e1 : Int.tdiv (n : Int) ((Nat.gcd n m : Nat) : Int) = ((n / Nat.gcd n m : Nat) : Int) := rfl
  have h1 : n / Nat.gcd n m ≤ n := Nat.div_le_self _ _
  have h2 : 1 ≤ n / Nat.gcd n m := Nat.div_pos (Nat.le_of_dvd (by omega) (Nat.gcd_dvd_left n m)) hg
  have h3 : n / Nat.gcd n m * m ≤ 1000 * 1000000000 := Nat.mul_le_mul (by omega) (by omega)
  have h4 : 1 * 1 ≤ n / Nat.gcd n m * m := Nat.mul_le_mul h2 (by omega)
  have e2 : ((n / Nat.gcd n m : Nat) : Int) * (m : Int) = ((n / Nat.gcd n m * m : Nat) : Int) := by simp
  rw [e1, e2]
  exact ⟨wrap_in (by omega), wrap_in (by omega), by omega⟩
def scOut (d : Int) (l : List Rt) : Sum Int (List Int × Int) := cond (badAny l fun _ r => !scOk r) (.inr ([], 0)) (match scD d l with | none => .inr ([], 0) | some d => .inl d)
theorem badAny_cons {α : Type} (x : α) (l : List α) (f : α → Bool) : badAny (x :: l) (fun _ e => f e) = (f x || badAny l fun _ e => f e) := by
  unfold badAny
  rw [List.length_cons, List.range_succ_eq_map, List.any_cons, List.any_map]
  congr 1
theorem badAny_nil {α : Type} (f : α → Bool) : badAny [] (fun _ e => f e) = false := rfl
theorem s_sc1 {w : List Rt} (h : w.length ≤ lim) : ∀ (j k : Nat) (d : Int) (f : Nat), k + j = w.length → 1 ≤ d ∧ d ≤ 1000 → j < f → loopF (spec_ScaleToIntegers_B1 w) f (d, (k : Int)) = some (scOut d (w.drop k))
  | 0, k, d, f, hk, hd, hf => by
    obtain ⟨f, rfl⟩ : ∃ g, f = g + 1 := ⟨f - 1, by omega⟩
    rw [loopF_succ, List.drop_of_length_le (by omega), spec_ScaleToIntegers_B1, decide_eq_false (by omega), cond_false]; rfl
  | j + 1, k, d, f, hk, hd, hf => by
    obtain ⟨f, rfl⟩ : ∃ g, f = g + 1 := ⟨f - 1, by omega⟩
    have hlt : k < w.length := by omega
    rw [loopF_succ, List.drop_eq_getElem_cons hlt, scOut, badAny_cons]
    simp only [spec_ScaleToIntegers_B1, geti_at hlt, ob_s, s_rok]
    rw [lt_dec hlt, cond_true, wrap_s hlt (lim_max h)]
    unfold scOk
    cases hr : rOk w[k] with
    | false => rfl
    | true =>
      by_cases h0 : 0 ≤ w[k].1
      · have f0 := rok_facts hr
        obtain ⟨e1, e2, e3⟩ := scN_in hd hr
        have hg := s_gcd d.natAbs w[k].2.natAbs (by omega)
        rw [show ((d.natAbs : Nat) : Int) = d by omega, show ((w[k].2.natAbs : Nat) : Int) = w[k].2 by omega] at hg
        have hp : 0 < Nat.gcd d.natAbs w[k].2.natAbs := Nat.gcd_pos_of_pos_left _ (by omega)
        have e2' : IntKind.i64.wrap (d.tdiv ((Nat.gcd d.natAbs w[k].2.natAbs : Nat) : Int) * w[k].2) = scN d w[k] := e2
        rw [decide_eq_true h0, decide_eq_false (by omega : ¬ w[k].1 < 0), Bool.not_true, cond_false, cond_false, hg, ob_s, chk_pos (by omega), e1, e2', scD]
        by_cases hb : 1000 < scN d w[k]
        · rw [decide_eq_true hb]
          simp only [cond_true, Bool.true_and, Bool.not_true, Bool.false_or]
          cases badAny (w.drop (k + 1)) fun _ e => !(rOk e && decide (0 ≤ e.1)) <;> rfl
        · rw [decide_eq_false hb, cond_false, cond_false, s_sc1 h j (k + 1) (scN d w[k]) f (by omega) ⟨e3, by omega⟩ (by omega)]
          simp only [Bool.true_and, Bool.not_true, Bool.false_or]
          rfl
      · rw [decide_eq_false h0, decide_eq_true (by omega : w[k].1 < 0)]; rfl
theorem i_sc2 {w : List Rt} (h : w.length ≤ lim) (hv : ∀ r ∈ w, scOk r = true) : ∀ (j k : Nat) (d : Int) (f : Nat), k + j = w.length → 1 ≤ d ∧ d ≤ 1000 → j < f → loopF (impl_ScaleToIntegers_B2 w) f (d, (k : Int)) = some (match scD d (w.drop k) with | none => .inr ([], 0) | some d => .inl d)
  | 0, k, d, f, hk, hd, hf => by
    obtain ⟨f, rfl⟩ : ∃ g, f = g + 1 := ⟨f - 1, by omega⟩
    rw [loopF_succ, List.drop_of_length_le (by omega), impl_ScaleToIntegers_B2, decide_eq_false (by omega), cond_false]; rfl
  | j + 1, k, d, f, hk, hd, hf => by
    obtain ⟨f, rfl⟩ : ∃ g, f = g + 1 := ⟨f - 1, by omega⟩
    have hlt : k < w.length := by omega
    have hr : rOk w[k] = true := by
      have := hv _ (List.getElem_mem hlt)
      unfold scOk at this
      rw [Bool.and_eq_true] at this; exact this.1
    have f0 := rok_facts hr
    obtain ⟨e1, e2, e3⟩ := scN_in hd hr
    have hg := i_gcd d.natAbs w[k].2.natAbs (by omega)
    rw [show ((d.natAbs : Nat) : Int) = d by omega, show ((w[k].2.natAbs : Nat) : Int) = w[k].2 by omega] at hg
    have hp : 0 < Nat.gcd d.natAbs w[k].2.natAbs := Nat.gcd_pos_of_pos_left _ (by omega)
    have e2' : IntKind.i64.wrap (d.tdiv ((Nat.gcd d.natAbs w[k].2.natAbs : Nat) : Int) * w[k].2) = scN d w[k] := e2
    rw [loopF_succ, List.drop_eq_getElem_cons hlt]
    simp only [impl_ScaleToIntegers_B2, geti_at hlt, ob_s]
    rw [lt_dec hlt, cond_true, wrap_s hlt (lim_max h), hg, ob_s, chk_pos (by omega), e1, e2', scD]
    by_cases hb : 1000 < scN d w[k]
    · rw [decide_eq_true hb]; rfl
    · rw [decide_eq_false hb, cond_false, cond_false]
      exact i_sc2 h hv j (k + 1) (scN d w[k]) f (by omega) ⟨e3, by omega⟩ (by omega)
/-- a weight as a whole number -/
def scI (d : Int) (r : Rt) : Int := IntKind.i64.wrap (r.1 * IntKind.i64.wrap (Int.tdiv d r.2))
def scR (w : List Rt) : List Int × Int := match scOut 1 w with
  | .inl d => (w.map (scI d), d)
  | .inr r => r
theorem scOut_ok {w : List Rt} {d : Int} (h : scOut 1 w = .inl d) : ∀ r ∈ w, scOk r = true := fun r hr => by
  unfold scOut at h
  cases hb : badAny w fun _ r => !scOk r with
  | true => rw [hb] at h; cases h
  | false => simpa using badAny_mem hb hr
theorem s_scale {w : List Rt} (h : w.length ≤ lim) : spec_ScaleToIntegers w = some (scR w) := by
  unfold spec_ScaleToIntegers scR
  have key := s_sc1 h w.length 0 1 fz (by omega) (by omega) (lt_fz h)
  have key' : loopF (spec_ScaleToIntegers_B1 w) fz (1, 0) = some (scOut 1 w) := key
  rw [key', ob_s]
  cases hs : scOut 1 w with
  | inr r => rfl
  | inl d =>
    have hv := scOut_ok hs
    simp only
    rw [map_loop (a := w) (h := scI d) h (fun k hk rec => by
      have hr : rOk w[k] = true := by
        have := hv _ (List.getElem_mem hk)
        unfold scOk at this
        rw [Bool.and_eq_true] at this; exact this.1
      have f0 := rok_facts hr
      simp only [spec_ScaleToIntegers_B2]
      rw [lt_dec hk, cond_true, geti_at hk, ob_s, ob_s, chk_pos (by omega), chk_pos (by simp only [List.length_map, List.length_take, List.length_singleton]; omega), wrap_s hk (lim_max h)]
      rfl) (fun rec y => by simp only [spec_ScaleToIntegers_B2]; rw [nlt_dec, cond_false]), ob_s]
theorem i_scale {w : List Rt} (h : w.length ≤ lim) : impl_ScaleToIntegers w = some (scR w) := by
  unfold impl_ScaleToIntegers scR
  rw [exit_loop (n := w.length) (fun k => atB w k fun r => !scOk r) (([] : List Int), (0 : Int)) h (fun k hk rec => by
    unfold impl_ScaleToIntegers_B1
    rw [lt_dec hk, cond_true, geti_at hk, ob_s, i_rok, ob_s, wrap_s hk (lim_max h), atB_lt hk]
    unfold scOk
    cases rOk w[k] with
    | false => rfl
    | true =>
      by_cases h0 : 0 ≤ w[k].1
      · rw [decide_eq_true h0, decide_eq_false (by omega : ¬ w[k].1 < 0)]; rfl
      · rw [decide_eq_false h0, decide_eq_true (by omega : w[k].1 < 0)]; rfl) (fun rec => by unfold impl_ScaleToIntegers_B1; rw [nlt_dec, cond_false]), ob_s]
  have e : ((List.range w.length).any fun k => atB w k fun r => !scOk r) = badAny w fun _ r => !scOk r := rfl
  rw [e]
  unfold scOut
  cases hb : badAny w fun _ r => !scOk r with
  | true => rfl
  | false =>
    have hv : ∀ r ∈ w, scOk r = true := fun r hr => by simpa using badAny_mem hb hr
    have key := i_sc2 h hv w.length 0 1 fz (by omega) (by omega) (lt_fz h)
    have key' : loopF (impl_ScaleToIntegers_B2 w) fz (1, 0) = some (match scD 1 w with | none => .inr ([], 0) | some d => .inl d) := key
    simp only [cond_false]
    rw [key', ob_s]
    cases scD 1 w with
    | none => rfl
    | some d =>
      simp only
      rw [map_loop (a := w) (h := scI d) h (fun k hk rec => by
        have hr : rOk w[k] = true := by
          have := hv _ (List.getElem_mem hk)
          unfold scOk at this
          rw [Bool.and_eq_true] at this; exact this.1
        have f0 := rok_facts hr
        simp only [impl_ScaleToIntegers_B3]
        rw [lt_dec hk, cond_true, geti_at hk, ob_s, chk_pos (by omega), chk_pos (by simp only [List.length_map, List.length_take, List.length_singleton]; omega), wrap_s hk (lim_max h)]
        rfl) (fun rec y => by simp only [impl_ScaleToIntegers_B3]; rw [nlt_dec, cond_false]), ob_s]
/-! ### powers -/
def toR : Option Nat → List Int × Bool
  | some v => (gDig v, true)
  | none => ([], false)
/-- a number if it has at most 60 digits -/
def cap (v : Nat) : Option Nat := if v < 10 ^ 60 then some v else none
theorem gR_cap (v : Nat) : gR v = toR (cap v) := by
  unfold gR cap
  by_cases h : v < 10 ^ 60
  · rw [decide_eq_true h, if_pos h]; rfl
  · rw [decide_eq_false h, if_neg h]; rfl
theorem cap_lt {v x : Nat} (h : cap v = some x) : x = v ∧ v < 10 ^ 60 := by
  unfold cap at h
  split at h
  · cases h; exact ⟨rfl, by assumption⟩
  · cases h
theorem gMul_dig {m n : Nat} (hm : m < 10 ^ 60) (hn : n < 10 ^ 60) : gMul (gDig m) (gDig n) = toR (cap (m * n)) := by
  unfold gMul
  rw [gOk_dig hm, gOk_dig hn, gVal_dig, gVal_dig, gR_cap]; rfl
def pwA (n : Nat) : Nat → Nat → Option Nat
  | acc, 0 => some acc
  | acc, k + 1 => match cap (acc * n) with
    | some x => pwA n x k
    | none => none
theorem pwA_lt {n : Nat} : ∀ (k acc x : Nat), acc < 10 ^ 60 → pwA n acc k = some x → x < 10 ^ 60
  | 0, acc, x, h, e => by rw [pwA] at e; cases e; exact h
  | k + 1, acc, x, h, e => by
    rw [pwA] at e
    cases hc : cap (acc * n) with
    | none => rw [hc] at e; cases e
    | some y => rw [hc] at e; obtain ⟨rfl, hy⟩ := cap_lt hc; exact pwA_lt k _ x hy e
def toS : Option Nat → Sum (List Int) (List Int × Bool)
  | some v => .inl (gDig v)
  | none => .inr ([], false)
abbrev PwB := (List Int × Int → Option (Sum (List Int) (List Int × Bool))) → List Int × Int → Option (Sum (List Int) (List Int × Bool))
theorem pow_loop {B : PwB} {n : Nat} {e : Nat} (hn : n < 10 ^ 60) (h1 : ∀ rec acc k, acc < 10 ^ 60 → k < e → B rec (gDig acc, (k : Int)) = cond (!(gMul (gDig acc) (gDig n)).2) (some (.inr ([], false))) (rec ((gMul (gDig acc) (gDig n)).1, ((k + 1 : Nat) : Int)))) (h2 : ∀ rec y, B rec (y, (e : Int)) = some (.inl y)) :
    ∀ (j k acc f : Nat), k + j = e → acc < 10 ^ 60 → j < f → loopF B f (gDig acc, (k : Int)) = some (toS (pwA n acc j))
  | 0, k, acc, f, hk, ha, hf => by
    obtain ⟨f, rfl⟩ : ∃ g, f = g + 1 := ⟨f - 1, by omega⟩
    obtain rfl : k = e := by omega
    rw [loopF_succ, h2]; rfl
  | j + 1, k, acc, f, hk, ha, hf => by
    obtain ⟨f, rfl⟩ : ∃ g, f = g + 1 := ⟨f - 1, by omega⟩
    rw [loopF_succ, h1 _ acc k ha (by omega), gMul_dig ha hn, pwA]
    cases hc : cap (acc * n) with
    | none => rfl
    | some x =>
      obtain ⟨rfl, hx⟩ := cap_lt hc
      exact pow_loop hn h1 h2 j (k + 1) (acc * n) f (by omega) hx (by omega)
def powO (n k : Int) : Option Nat := cond (decide (n < 0)) none (cond (btw k 0 100) (pwA n.toNat 1 k.toNat) none)
theorem powO_lt {n k : Int} {x : Nat} (h : powO n k = some x) : x < 10 ^ 60 := by
  unfold powO at h
  cases h1 : decide (n < 0) with
  | true => rw [h1] at h; cases h
  | false =>
    cases h2 : btw k 0 100 with
    | false => rw [h1, h2] at h; cases h
    | true => rw [h1, h2] at h; exact pwA_lt _ _ _ (by decide) h
theorem dig_len {n : Nat} (h : n < 10 ^ 60) : (gDig n).length ≤ lim := lim60 (gDig_lim h)
theorem s_pow {n k : Int} (hn : n ≤ 9223372036854775807) : spec_PowBigInt n k = some (toR (powO n k)) := by
  unfold spec_PowBigInt powO
  by_cases h0 : n < 0
  · rw [decide_eq_true h0]; rfl
  · rw [decide_eq_false h0, cond_false, cond_false, s_l1In, ob_s]
    cases hk : btw k 0 100 with
    | false => rfl
    | true =>
      rw [btw_iff] at hk
      have hb : n.toNat < 10 ^ 60 := by omega
      rw [Bool.not_true, cond_false, cond_true, s_bigI (by omega), ob_s]
      have key := pow_loop (B := spec_PowBigInt_B1 n k) (n := n.toNat) (e := k.toNat) hb (fun rec acc i ha hi => by
        simp only [spec_PowBigInt_B1]
        rw [decide_eq_true (by omega), cond_true, s_bigI hn, ob_s, s_gmul (dig_len ha) (dig_len hb), ob_s, wrap_in (by omega)]
        rfl) (fun rec y => by simp only [spec_PowBigInt_B1]; rw [decide_eq_false (by omega), cond_false]) k.toNat 0 1 fz (by omega) (by decide) (by unfold fz; omega)
      have key' : loopF (spec_PowBigInt_B1 n k) fz (gDig (Int.toNat 1), 0) = some (toS (pwA n.toNat 1 k.toNat)) := key
      rw [key', ob_s]
      cases pwA n.toNat 1 k.toNat <;> rfl
theorem i_pow {n k : Int} (hn : n ≤ 9223372036854775807) : impl_PowBigInt n k = some (toR (powO n k)) := by
  unfold impl_PowBigInt powO
  by_cases h0 : n < 0
  · rw [decide_eq_true h0]; rfl
  · rw [decide_eq_false h0, cond_false, cond_false, i_within, ob_s]
    cases hk : btw k 0 100 with
    | false => rfl
    | true =>
      rw [btw_iff] at hk
      have hb : n.toNat < 10 ^ 60 := by omega
      rw [Bool.not_true, cond_false, cond_true, i_bigI (by omega), ob_s]
      have key := pow_loop (B := impl_PowBigInt_B1 n k) (n := n.toNat) (e := k.toNat) hb (fun rec acc i ha hi => by
        simp only [impl_PowBigInt_B1]
        rw [decide_eq_true (by omega), cond_true, i_bigI hn, ob_s, i_gmul (dig_len ha) (dig_len hb), ob_s, wrap_in (by omega)]
        rfl) (fun rec y => by simp only [impl_PowBigInt_B1]; rw [decide_eq_false (by omega), cond_false]) k.toNat 0 1 fz (by omega) (by decide) (by unfold fz; omega)
      have key' : loopF (impl_PowBigInt_B1 n k) fz (gDig (Int.toNat 1), 0) = some (toS (pwA n.toNat 1 k.toNat)) := key
      rw [key', ob_s]
      cases pwA n.toNat 1 k.toNat <;> rfl
/-- products of powers -/
def prO : Nat → List (Int × Int) → Option Nat
  | v, [] => some v
  | v, p :: l => match powO p.1 p.2 with
    | none => none
    | some x => match cap (v * x) with
      | some y => prO y l
      | none => none
theorem prO_lt : ∀ (l : List (Int × Int)) (v x : Nat), v < 10 ^ 60 → prO v l = some x → x < 10 ^ 60
  | [], v, x, h, e => by rw [prO] at e; cases e; exact h
  | p :: l, v, x, h, e => by
    rw [prO] at e
    cases hp : powO p.1 p.2 with
    | none => rw [hp] at e; cases e
    | some y =>
      rw [hp] at e
      simp only at e
      cases hc : cap (v * y) with
      | none => rw [hc] at e; cases e
      | some z => rw [hc] at e; obtain ⟨rfl, hz⟩ := cap_lt hc; exact prO_lt l _ x hz e
theorem toR_ok {o : Option Nat} (h : ∀ x, o = some x → x < 10 ^ 60) : ∃ m, m < 10 ^ 60 ∧ (toR o).1 = gDig m := by
  cases o with
  | none => exact ⟨0, by decide, by rw [gDig_0]; rfl⟩
  | some x => exact ⟨x, h x rfl, rfl⟩
theorem prod_loop {B : PwB} {l : List (Int × Int)} (h1 : ∀ rec v k (hk : k < l.length), v < 10 ^ 60 → B rec (gDig v, (k : Int)) = cond (!(toR (powO l[k].1 l[k].2)).2) (some (.inr ([], false))) (cond (!(gMul (gDig v) (toR (powO l[k].1 l[k].2)).1).2) (some (.inr ([], false))) (rec ((gMul (gDig v) (toR (powO l[k].1 l[k].2)).1).1, ((k + 1 : Nat) : Int))))) (h2 : ∀ rec y, B rec (y, (l.length : Int)) = some (.inl y)) :
    ∀ (j k v f : Nat), k + j = l.length → v < 10 ^ 60 → j < f → loopF B f (gDig v, (k : Int)) = some (toS (prO v (l.drop k)))
  | 0, k, v, f, hk, hv, hf => by
    obtain ⟨f, rfl⟩ : ∃ g, f = g + 1 := ⟨f - 1, by omega⟩
    obtain rfl : k = l.length := by omega
    rw [loopF_succ, h2, List.drop_length]; rfl
  | j + 1, k, v, f, hk, hv, hf => by
    obtain ⟨f, rfl⟩ : ∃ g, f = g + 1 := ⟨f - 1, by omega⟩
    have hlt : k < l.length := by omega
    rw [loopF_succ, h1 _ v k hlt hv, List.drop_eq_getElem_cons hlt, prO]
    cases hp : powO l[k].1 l[k].2 with
    | none => rfl
    | some x =>
      have e : (toR (some x)).1 = gDig x := rfl
      rw [e, gMul_dig hv (powO_lt hp)]
      simp only
      cases hc : cap (v * x) with
      | none => rfl
      | some y =>
        obtain ⟨rfl, hy⟩ := cap_lt hc
        exact prod_loop h1 h2 j (k + 1) (v * x) f (by omega) hy (by omega)
def popO (a b : List Int) : Option Nat := cond ((a.length : Int) != (b.length : Int)) none (prO 1 (a.zip b))
theorem popO_lt {a b : List Int} {x : Nat} (h : popO a b = some x) : x < 10 ^ 60 := by
  unfold popO at h
  cases hl : ((a.length : Int) != (b.length : Int)) with
  | true => rw [hl] at h; cases h
  | false => rw [hl] at h; exact prO_lt _ _ _ (by decide) h
theorem s_pop {a b : List Int} (h : a.length ≤ lim) (hI : ∀ e ∈ a, e ≤ 9223372036854775807) : spec_ProductOfPowers a b = some (toR (popO a b)) := by
  unfold spec_ProductOfPowers popO
  cases hl : ((a.length : Int) != (b.length : Int)) with
  | true => rfl
  | false =>
    rw [bne_eq_false_iff_eq] at hl
    have hz : (a.zip b).length = a.length := by rw [List.length_zip]; omega
    rw [cond_false, cond_false, s_bigI (by omega), ob_s]
    have key := prod_loop (B := spec_ProductOfPowers_B1 a b) (l := a.zip b) (fun rec v k hk hv => by
      have hk1 : k < a.length := by omega
      have hk2 : k < b.length := by omega
      obtain ⟨m, hm, em⟩ := toR_ok (o := powO a[k] b[k]) fun x hx => powO_lt hx
      simp only [spec_ProductOfPowers_B1, List.getElem_zip]
      rw [lt_dec hk1, cond_true, geti_at hk1, ob_s, geti_at hk2, ob_s, s_pow (hI _ (List.getElem_mem hk1)), ob_s, s_gmul (dig_len hv) (by rw [em]; exact dig_len hm), ob_s, wrap_s hk1 (lim_max h)]) (fun rec y => by
      simp only [spec_ProductOfPowers_B1]
      rw [hz, nlt_dec, cond_false]) (a.zip b).length 0 1 fz (by omega) (by decide) (by rw [hz]; exact lt_fz h)
    have key' : loopF (spec_ProductOfPowers_B1 a b) fz (gDig (Int.toNat 1), 0) = some (toS (prO 1 (a.zip b))) := key
    rw [key', ob_s]
    cases prO 1 (a.zip b) <;> rfl
theorem i_pop {a b : List Int} (h : a.length ≤ lim) (hI : ∀ e ∈ a, e ≤ 9223372036854775807) : impl_ProductOfPowers a b = some (toR (popO a b)) := by
  unfold impl_ProductOfPowers popO
  cases hl : ((a.length : Int) != (b.length : Int)) with
  | true => rfl
  | false =>
    rw [bne_eq_false_iff_eq] at hl
    have hz : (a.zip b).length = a.length := by rw [List.length_zip]; omega
    rw [cond_false, cond_false, i_bigI (by omega), ob_s]
    have key := prod_loop (B := impl_ProductOfPowers_B1 a b) (l := a.zip b) (fun rec v k hk hv => by
      have hk1 : k < a.length := by omega
      have hk2 : k < b.length := by omega
      obtain ⟨m, hm, em⟩ := toR_ok (o := powO a[k] b[k]) fun x hx => powO_lt hx
      simp only [impl_ProductOfPowers_B1, List.getElem_zip]
      rw [lt_dec hk1, cond_true, geti_at hk1, ob_s, geti_at hk2, ob_s, i_pow (hI _ (List.getElem_mem hk1)), ob_s, i_gmul (dig_len hv) (by rw [em]; exact dig_len hm), ob_s, wrap_s hk1 (lim_max h)]) (fun rec y => by
      simp only [impl_ProductOfPowers_B1]
      rw [hz, nlt_dec, cond_false]) (a.zip b).length 0 1 fz (by omega) (by decide) (by rw [hz]; exact lt_fz h)
    have key' : loopF (impl_ProductOfPowers_B1 a b) fz (gDig (Int.toNat 1), 0) = some (toS (prO 1 (a.zip b))) := key
    rw [key', ob_s]
    cases prO 1 (a.zip b) <;> rfl
theorem prO_neg : ∀ (l : List (Int × Int)) (v : Nat), (∃ p ∈ l, p.1 < 0) → prO v l = none
  | [], _, ⟨p, hp, _⟩ => by cases hp
  | q :: l, v, ⟨p, hp, hn⟩ => by
    rw [prO]
    rcases List.mem_cons.1 hp with rfl | hp
    · have : powO p.1 p.2 = none := by unfold powO; rw [decide_eq_true hn]; rfl
      rw [this]
    · cases powO q.1 q.2 with
      | none => rfl
      | some x =>
        simp only
        cases cap (v * x) with
        | none => rfl
        | some y => exact prO_neg l y ⟨p, hp, hn⟩
/-! ### the bounds -/
/-- is n to a power at most a product of powers times a factor to that power? -/
def wpB (a : List Int) (w : List Rt) (n fac : Int) : Bool := decide (0 < (scR w).2) && (match popO a (scR w).1, powO n (scR w).2, powO fac (scR w).2 with
  | some x, some y, some z => decide (x * z < 10 ^ 60) && decide (y ≤ x * z)
  | _, _, _ => false)
theorem gCmp_le (m n : Nat) : decide (gCmp m n ≤ 0) = decide (m ≤ n) := by
  unfold gCmp
  rcases Nat.lt_trichotomy m n with h | h | h
  · rw [decide_eq_true h, decide_eq_true (by omega : m ≤ n)]; rfl
  · subst h; rw [decide_eq_false (by omega : ¬ m < m), decide_eq_true (by omega : m ≤ m)]; rfl
  · rw [decide_eq_false (by omega : ¬ m < n), decide_eq_true h, decide_eq_false (by omega : ¬ m ≤ n)]; rfl
theorem pwA_one : ∀ k, pwA 1 1 k = some 1
  | 0 => rfl
  | k + 1 => by
    rw [pwA]
    have : cap (1 * 1) = some 1 := by unfold cap; rw [if_pos (by decide)]
    rw [this]; exact pwA_one k
theorem pow_one {k : Int} (h : 0 ≤ k ∧ k ≤ 100) : powO 1 k = some 1 := by
  unfold powO
  rw [(btw_iff (x := k) (lo := 0) (hi := 100)).2 h]
  exact pwA_one _
theorem pow_big {n k : Int} (h : ¬ (0 ≤ k ∧ k ≤ 100)) : powO n k = none := by
  unfold powO
  rw [show btw k 0 100 = false by rw [Bool.eq_false_iff]; intro hh; exact h (btw_iff.1 hh)]
  cases decide (n < 0) <;> rfl
theorem s_agm {a : List Int} {w : List Rt} {n : Int} (ha : a.length ≤ lim) (hI : ∀ e ∈ a, e ≤ 9223372036854775807) (hw : w.length ≤ lim) (hn : n ≤ 9223372036854775807) : spec_IsWithinAGMBound a w n = some (wpB a w n 1) := by
  unfold spec_IsWithinAGMBound wpB
  rw [s_scale hw, ob_s, s_pop ha hI, ob_s, s_pow hn, ob_s]
  by_cases hd : 0 < (scR w).2
  · rw [decide_eq_true hd, cond_true, Bool.true_and]
    cases hx : popO a (scR w).1 with
    | none => rfl
    | some x =>
      cases hy : powO n (scR w).2 with
      | none => rfl
      | some y =>
        have hk : 0 ≤ (scR w).2 ∧ (scR w).2 ≤ 100 := Classical.byContradiction fun hh => by rw [pow_big hh] at hy; cases hy
        have lx := popO_lt hx
        rw [pow_one hk]
        simp only [toR, cond_true]
        rw [s_gcmp (powO_lt hy) lx, ob_s, gCmp_le, Nat.mul_one, decide_eq_true lx]; rfl
  · rw [decide_eq_false hd]; rfl
theorem i_wp {a : List Int} {w : List Rt} {n fac : Int} (ha : a.length ≤ lim) (hI : ∀ e ∈ a, e ≤ 9223372036854775807) (hw : w.length ≤ lim) (hn : n ≤ 9223372036854775807) (hf : fac ≤ 9223372036854775807) : impl_withinPowers a w n fac = some (wpB a w n fac) := by
  unfold impl_withinPowers wpB
  rw [i_scale hw, ob_s]
  by_cases h0 : n < 0
  · have : powO n (scR w).2 = none := by unfold powO; rw [decide_eq_true h0]; rfl
    rw [decide_eq_true h0, cond_true, this]
    cases popO a (scR w).1 <;> simp
  · rw [decide_eq_false h0, cond_false]
    by_cases hd : 0 < (scR w).2
    · rw [decide_eq_false (by omega : ¬ (scR w).2 < 1), cond_false, decide_eq_true hd, Bool.true_and]
      by_cases hk : 100 < (scR w).2
      · rw [decide_eq_true hk, cond_true, pow_big (by omega)]
        cases popO a (scR w).1 <;> rfl
      · rw [decide_eq_false hk, cond_false, all_loop (n := a.length) (fun k => atB a k fun e => decide (e < 0)) ha (fun k hk rec => by
          unfold impl_withinPowers_B1
          rw [lt_dec hk, cond_true, geti_at hk, ob_s, wrap_s hk (lim_max ha), atB_lt hk]) (fun rec => by unfold impl_withinPowers_B1; rw [nlt_dec, cond_false]), ob_s]
        have e : ((List.range a.length).any fun k => atB a k fun e => decide (e < 0)) = badAny a fun _ e => decide (e < 0) := rfl
        rw [e]
        cases hb : badAny a fun _ e => decide (e < 0) with
        | true =>
          have : popO a (scR w).1 = none := by
            unfold popO
            cases hl : ((a.length : Int) != ((scR w).1.length : Int)) with
            | true => rfl
            | false =>
              rw [bne_eq_false_iff_eq] at hl
              rw [cond_false]
              unfold badAny at hb
              obtain ⟨k, hk1, hk2⟩ := List.any_eq_true.1 hb
              have hk3 : k < a.length := List.mem_range.1 hk1
              rw [atB_lt hk3, decide_eq_true_eq] at hk2
              exact prO_neg _ _ ⟨(a[k], (scR w).1[k]'(by omega)), by
                have : (a.zip (scR w).1)[k]'(by rw [List.length_zip]; omega) = (a[k], (scR w).1[k]'(by omega)) := List.getElem_zip
                rw [← this]; exact List.getElem_mem _, hk2⟩
          rw [this]; rfl
        | false =>
          simp only [cond_false]
          rw [i_pow hn, ob_s, i_pop ha hI, ob_s, i_pow hf, ob_s]
          obtain ⟨m1, l1, e1⟩ := toR_ok (o := popO a (scR w).1) fun x hx => popO_lt hx
          obtain ⟨m2, l2, e2⟩ := toR_ok (o := powO fac (scR w).2) fun x hx => powO_lt hx
          rw [i_gmul (by rw [e1]; exact dig_len l1) (by rw [e2]; exact dig_len l2), ob_s]
          cases hx : popO a (scR w).1 with
          | none => cases powO n (scR w).2 <;> rfl
          | some x =>
            cases hy : powO n (scR w).2 with
            | none => rfl
            | some y =>
              cases hz : powO fac (scR w).2 with
              | none => rfl
              | some z =>
                simp only [toR, cond_true]
                rw [gMul_dig (popO_lt hx) (powO_lt hz)]
                unfold cap
                by_cases hc : x * z < 10 ^ 60
                · rw [if_pos hc]
                  simp only [toR, cond_true]
                  rw [i_gcmp (powO_lt hy) hc, ob_s, gCmp_le, decide_eq_true hc]; rfl
                · rw [if_neg hc, decide_eq_false hc]; rfl
    · rw [decide_eq_true (by omega : (scR w).2 < 1), decide_eq_false hd]; rfl
theorem i_agm {a : List Int} {w : List Rt} {n : Int} (ha : a.length ≤ lim) (hI : ∀ e ∈ a, e ≤ 9223372036854775807) (hw : w.length ≤ lim) (hn : n ≤ 9223372036854775807) : impl_IsWithinAGMBound a w n = some (wpB a w n 1) := by
  unfold impl_IsWithinAGMBound
  rw [i_wp ha hI hw hn (by omega), ob_s]
def skB (q : Qry) : Int := cond (qryB q) (2 * q.1 * (q.2.1.length : Int)) 0
theorem skB_in {q : Qry} (h : qryB q = true) : IntKind.i64.wrap (IntKind.i64.wrap (IntKind.i64.wrap (2 * q.1) * (q.2.1.length : Int)) * 1) = skB q ∧ skB q ≤ 1000 ∧ 0 ≤ skB q := by
  obtain ⟨h1, h2, h3, -⟩ := qry_facts h
  unfold skB
  rw [h, cond_true]
  have hq : q.1 = 1 ∨ q.1 = 2 ∨ q.1 = 3 ∨ q.1 = 4 ∨ q.1 = 5 := by omega
  have hp : 0 ≤ 2 * q.1 * (q.2.1.length : Int) ∧ 2 * q.1 * (q.2.1.length : Int) ≤ 40 := by
    rcases hq with e | e | e | e | e <;> rw [e] <;> omega
  rw [wrap_in (n := 2 * q.1) (by omega), wrap_in (n := 2 * q.1 * (q.2.1.length : Int)) (by omega), Int.mul_one, wrap_in (by omega)]
  exact ⟨rfl, by omega, hp.1⟩
theorem s_sk {q : Qry} (hq : smQ q) : spec_SeekBound q 1 = some (skB q) := by
  unfold spec_SeekBound
  rw [s_query hq, ob_s]
  cases h : qryB q with
  | false => unfold skB; rw [h]; rfl
  | true =>
    rw [Bool.not_true, cond_false, s_l1In, ob_s, show btw 1 0 1000000 = true from rfl, Bool.not_true, cond_false, (skB_in h).1]
theorem i_sk {q : Qry} (hq : smQ q) : impl_SeekBound q 1 = some (skB q) := by
  unfold impl_SeekBound
  rw [i_query hq, ob_s]
  cases h : qryB q with
  | false => unfold skB; rw [h]; rfl
  | true =>
    rw [Bool.not_true, cond_false, i_within, ob_s, show btw 1 0 1000000 = true from rfl, Bool.not_true, cond_false, (skB_in h).1]
theorem skB_le {q : Qry} : skB q ≤ 9223372036854775807 := by
  cases h : qryB q with
  | true => have := skB_in h; omega
  | false => unfold skB; rw [h]; show (0 : Int) ≤ 9223372036854775807; decide
theorem s_seek {q : Qry} {a : List Int} {w : List Rt} {n : Int} (hq : smQ q) (ha : a.length ≤ lim) (hI : ∀ e ∈ a, e ≤ 9223372036854775807) (hw : w.length ≤ lim) (hn : n ≤ 9223372036854775807) : spec_IsWithinSeekBound q a w n = some (qryB q && wpB a w n (skB q)) := by
  unfold spec_IsWithinSeekBound wpB
  rw [s_scale hw, ob_s, s_pop ha hI, ob_s, s_pow hn, ob_s, s_sk hq, ob_s, s_pow skB_le, ob_s]
  obtain ⟨m1, l1, e1⟩ := toR_ok (o := popO a (scR w).1) fun x hx => popO_lt hx
  obtain ⟨m2, l2, e2⟩ := toR_ok (o := powO (skB q) (scR w).2) fun x hx => powO_lt hx
  rw [s_gmul (by rw [e1]; exact dig_len l1) (by rw [e2]; exact dig_len l2), ob_s]
  by_cases hd : 0 < (scR w).2
  · rw [decide_eq_true hd, cond_true, Bool.true_and]
    cases hx : popO a (scR w).1 with
    | none => rw [Bool.and_false]; rfl
    | some x =>
      cases hy : powO n (scR w).2 with
      | none => rw [Bool.and_false]; rfl
      | some y =>
        cases hz : powO (skB q) (scR w).2 with
        | none => rw [Bool.and_false]; rfl
        | some z =>
          simp only [toR, cond_true]
          rw [gMul_dig (popO_lt hx) (powO_lt hz)]
          unfold cap
          by_cases hc : x * z < 10 ^ 60
          · rw [if_pos hc]
            simp only [toR, cond_true]
            rw [s_query hq, ob_s]
            cases qryB q with
            | false => rfl
            | true => rw [cond_true, s_gcmp (powO_lt hy) hc, ob_s, gCmp_le, decide_eq_true hc]; rfl
          · rw [if_neg hc, decide_eq_false hc, Bool.false_and, Bool.and_false]; rfl
  · rw [decide_eq_false hd, Bool.false_and, Bool.and_false]; rfl
theorem i_seek {q : Qry} {a : List Int} {w : List Rt} {n : Int} (hq : smQ q) (ha : a.length ≤ lim) (hI : ∀ e ∈ a, e ≤ 9223372036854775807) (hw : w.length ≤ lim) (hn : n ≤ 9223372036854775807) : impl_IsWithinSeekBound q a w n = some (qryB q && wpB a w n (skB q)) := by
  unfold impl_IsWithinSeekBound
  rw [i_query hq, ob_s]
  cases qryB q with
  | false => rfl
  | true => rw [cond_true, i_sk hq, ob_s, i_wp ha hI hw hn skB_le, ob_s]; rfl
end Go.Proofs.YtkclaipnejgloaaDoor
