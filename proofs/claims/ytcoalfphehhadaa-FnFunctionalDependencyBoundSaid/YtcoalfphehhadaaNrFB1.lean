/-
  A relation out of rows: the reference and the program agree. On the printed functions; conditions: lengths.
-/
import Derived.Test.YtcoalfphehhadaaSoFB1
-- pure
namespace Go.Proofs.Ytcoalfphehhadaa
open Go.RowKit
set_option linter.unusedSimpArgs false
/-- a loop that leaves the function at the first bad element -/
theorem bad_loop {O : Type} {B : (Int → Option (Sum Unit O)) → Int → Option (Sum Unit O)} {n : Nat} (bad : Nat → Bool) (o : O) (hn : n ≤ lim) (h1 : ∀ k, k < n → ∀ rec, B rec (k : Int) = cond (bad k) (some (.inr o)) (rec ((k + 1 : Nat) : Int))) (h2 : ∀ rec, B rec (n : Int) = some (.inl ())) :
    loopF B fz 0 = some (cond ((List.range n).any bad) (.inr o) (.inl ())) := by
  have key : ∀ d k, k + d = n → (∀ j, j < k → bad j = false) → ∀ m, d < m → loopF B m (k : Int) = some (cond ((List.range n).any bad) (.inr o) (.inl ())) := by
    intro d
    induction d with
    | zero =>
      intro k hk hb m hm
      cases m with
      | zero => omega
      | succ m =>
        have hkn : k = n := by omega
        have : (List.range n).any bad = false := by
          rw [List.any_eq_false]
          intro x hx
          rw [hb x (by have := List.mem_range.1 hx; omega)]; simp
        show B (loopF B m) (k : Int) = _
        rw [hkn, h2, this]; rfl
    | succ d ih =>
      intro k hk hb m hm
      cases m with
      | zero => omega
      | succ m =>
        show B (loopF B m) (k : Int) = _
        rw [h1 k (by omega)]
        cases hbk : bad k with
        | true =>
          have : (List.range n).any bad = true := by rw [List.any_eq_true]; exact ⟨k, List.mem_range.2 (by omega), hbk⟩
          rw [this]; rfl
        | false =>
          exact ih (k + 1) (by omega) (fun j hj => by
            rcases Nat.lt_or_ge j k with h | h
            · exact hb j h
            · rw [show j = k by omega]; exact hbk) m (by omega)
  have := key n 0 (by omega) (fun j hj => absurd hj (by omega)) fz (lt_fz hn)
  simpa using this
theorem sort_sm {l : List Row} (h : smRows l) : smRows (sortB l) := ⟨Nat.le_trans (sort_len l) h.1, fun r hr => h.2 r ((sort_mem l r).1 hr)⟩
def nrBad (a : Int) (x : Row) : Bool := ((List.length x : Int) != a) || !avvB x
def nrB (a : Int) (l : List Row) : (Int × List Row) × Bool := cond (badAny l fun _ x => nrBad a x) ((0, []), false) (cond (!relB (a, sortB l)) ((0, []), false) ((a, sortB l), true))
theorem s_nr {a : Int} {l : List Row} (h : smRows l) : spec_NewRelation a l = some (nrB a l) := by
  unfold spec_NewRelation nrB badAny
  rw [bad_loop (fun k => atB l k fun x => nrBad a x) _ h.1 (fun k hk rec => by
    unfold spec_NewRelation_B1
    rw [lt_dec hk, geti_at hk, wrap_s hk (lim_max h.1), atB_lt hk]
    simp only [cond_true, obind, s_avv (h.2 _ (List.getElem_mem hk)), nrBad]
    cases ((List.length l[k] : Int) != a) <;> cases avvB l[k] <;> rfl) (fun rec => by unfold spec_NewRelation_B1; rw [nlt_dec]; rfl)]
  cases (List.range l.length).any fun k => atB l k fun x => nrBad a x with
  | true => rfl
  | false =>
    simp only [obind, cond_false, s_sort h, s_copy (r := (a, sortB l)) (sort_sm h), s_rel (r := (a, sortB l)) (sort_sm h)]
    cases relB (a, sortB l) <;> rfl
end Go.Proofs.Ytcoalfphehhadaa
