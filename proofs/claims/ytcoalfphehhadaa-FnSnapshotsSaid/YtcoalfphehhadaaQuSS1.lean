/-
  When a query is valid: the reference and the program agree. On the printed functions; conditions: lengths.
-/
import Derived.Test.YtcoalfphehhadaaFhSS1
namespace Go.Proofs.Ytcoalfphehhadaa
open Go.RowKit
set_option linter.unusedSimpArgs false
/-- a loop with a state that looks for a bad element -/
theorem all_st {S : Type} {B : (S × Int → Option (Sum S Bool)) → S × Int → Option (Sum S Bool)} {n : Nat} (s : Nat → S) (bad : Nat → Bool) (hn : n ≤ lim) (h1 : ∀ k, k < n → ∀ rec, B rec (s k, (k : Int)) = cond (bad k) (some (.inr false)) (rec (s (k + 1), ((k + 1 : Nat) : Int)))) (h2 : ∀ rec, B rec (s n, (n : Int)) = some (.inl (s n))) :
    loopF B fz (s 0, 0) = some (cond ((List.range n).any bad) (.inr false) (.inl (s n))) := by
  have key : ∀ d k, k + d = n → (∀ j, j < k → bad j = false) → ∀ m, d < m → loopF B m (s k, (k : Int)) = some (cond ((List.range n).any bad) (.inr false) (.inl (s n))) := by
    intro d
    induction d with
    | zero =>
      intro k hk hb m hm
      cases m with
      | zero => omega
      | succ m =>
        have hkn : k = n := by omega
        have : (List.range n).any bad = false := by
          rw [List.any_eq_false]
          intro x hx
          rw [hb x (by have := List.mem_range.1 hx; omega)]; simp
        show B (loopF B m) (s k, (k : Int)) = _
        rw [hkn, h2, this]; rfl
    | succ d ih =>
      intro k hk hb m hm
      cases m with
      | zero => omega
      | succ m =>
        show B (loopF B m) (s k, (k : Int)) = _
        rw [h1 k (by omega)]
        cases hbk : bad k with
        | true =>
          have : (List.range n).any bad = true := by rw [List.any_eq_true]; exact ⟨k, List.mem_range.2 (by omega), hbk⟩
          rw [this]; rfl
        | false =>
          exact ih (k + 1) (by omega) (fun j hj => by
            rcases Nat.lt_or_ge j k with h | h
            · exact hb j h
            · rw [show j = k by omega]; exact hbk) m (by omega)
  have := key n 0 (by omega) (fun j hj => absurd hj (by omega)) fz (lt_fz hn)
  simpa using this
/-- the place of a number -/
def findI (l : List Int) (v : Int) : Option Nat := (List.range l.length).findSome? fun k => if (atB l k fun e => e == v) = true then some k else none
theorem findI_some (l : List Int) (v : Int) : (findI l v).isSome = l.contains v := by
  unfold findI
  rw [Bool.eq_iff_iff, List.findSome?_isSome_iff, List.contains_iff_mem]
  constructor
  · rintro ⟨k, hk, h⟩
    have hk := List.mem_range.1 hk
    split at h
    · rename_i he; rw [atB_lt hk] at he; have : l[k] = v := by simpa using he
      rw [← this]; exact List.getElem_mem hk
    · cases h
  · intro h
    obtain ⟨k, hk, rfl⟩ := List.mem_iff_getElem.1 h
    exact ⟨k, List.mem_range.2 hk, by rw [atB_lt hk]; simp⟩
def placeI (l : List Int) (v : Int) : Int := match findI l v with
  | some k => (k : Int)
  | none => -1
theorem place_has (l : List Int) (v : Int) : decide (0 ≤ placeI l v) = l.contains v := by
  rw [← findI_some]
  unfold placeI
  cases findI l v with
  | some k => simp
  | none => rfl
abbrev Atm := List UInt8 × List Int
abbrev Qry := Int × List Atm × List Int
/-- a list of different numbers below n -/
def setBad (n : Int) (l : List Int) (k : Nat) (e : Int) : Bool := !btw e 0 (IntKind.i64.wrap (n - 1)) || (l.take k).contains e
theorem sub_take {α : Type} (l : List α) (k : Nat) : subl l 0 (k : Int) = l.take k := by simp [subl]
def atomBad (n : Int) (a : Atm) : Bool := !nmB a.1 || (!btw (a.2.length : Int) 1 5 || badAny a.2 fun _ v => !btw v 0 (IntKind.i64.wrap (n - 1)))
def smQ (q : Qry) : Prop := q.2.1.length ≤ lim ∧ (∀ a ∈ q.2.1, a.1.length ≤ lim ∧ a.2.length ≤ lim) ∧ q.2.2.length ≤ lim
/-- some atom has the variable -/
def usedB (l : List Atm) (v : Int) : Bool := l.any fun a => a.2.contains v
/-- a query -/
def qryB (q : Qry) : Bool := btw q.1 1 5 && (btw (q.2.1.length : Int) 1 4 && (!badAny q.2.2 (setBad q.1 q.2.2) && (!(badAny q.2.1 fun _ a => atomBad q.1 a) && !((List.range q.1.toNat).any fun v => !usedB q.2.1 (v : Int)))))
/-- different numbers below n are at most n -/
theorem few : ∀ (n : Nat) (l : List Int), l.Nodup → (∀ e ∈ l, 0 ≤ e ∧ e < (n : Int)) → l.length ≤ n
  | 0, l, _, h => by
    cases l with
    | nil => simp
    | cons e l => have := h e (by simp); omega
  | n + 1, l, hd, h => by
    have h1 := few n (l.erase (n : Int)) (hd.erase _) (fun e he => by
      have h2 := h e (List.mem_of_mem_erase he)
      have h3 : e ≠ (n : Int) := fun q => by subst q; exact (List.Nodup.not_mem_erase hd) he
      omega)
    have h2 := List.length_erase (a := (n : Int)) (l := l)
    split at h2 <;> omega
theorem set_few {n : Int} (hn : 1 ≤ n ∧ n ≤ 5) {l : List Int} (h : badAny l (setBad n l) = false) : (l.length : Int) ≤ n := by
  have hw : IntKind.i64.wrap (n - 1) = n - 1 := wrap_in (by omega)
  have hin : ∀ e ∈ l, 0 ≤ e ∧ e < (n.toNat : Int) := by
    intro e he
    obtain ⟨k, hk, rfl⟩ := List.mem_iff_getElem.1 he
    have := badAny_f h hk
    unfold setBad btw at this
    simp only [Bool.or_eq_false_iff, Bool.not_eq_false', Bool.and_eq_true, decide_eq_true_eq, hw] at this
    omega
  have hd : l.Nodup := by
    rw [List.nodup_iff_pairwise_ne, List.pairwise_iff_getElem]
    intro i j hi hj hij he
    have := badAny_f h hj
    unfold setBad at this
    simp only [Bool.or_eq_false_iff] at this
    have h2 := this.2
    have : (l.take j).contains l[j] = true := by
      rw [List.contains_iff_mem, List.mem_iff_getElem]
      exact ⟨i, by rw [List.length_take]; omega, by rw [List.getElem_take]; exact he⟩
    rw [this] at h2; cases h2
  have := few n.toNat l hd hin
  omega
/-- which variables are used -/
def uL (m : Nat) (f : Nat → Bool) : List Bool := (List.range m).map f
theorem uL_len (m : Nat) (f : Nat → Bool) : (uL m f).length = m := by simp [uL]
theorem uL_set {m v : Nat} (f : Nat → Bool) : (uL m f).set v true = uL m (fun u => f u || u == v) := by
  apply List.ext_getElem
  · simp [uL]
  · intro i h1 h2
    rw [List.getElem_set]
    simp only [uL, List.getElem_map, List.getElem_range]
    split
    · rename_i e; subst e; simp
    · rename_i e
      have : (i == v) = false := by simp; omega
      rw [this]; simp
theorem badAny_mem {α : Type} {l : List α} {f : α → Bool} (h : badAny l (fun _ e => f e) = false) {a : α} (ha : a ∈ l) : f a = false := by
  obtain ⟨k, hk, rfl⟩ := List.mem_iff_getElem.1 ha
  exact badAny_f h hk
theorem qry_facts {q : Qry} (h : qryB q = true) : 1 ≤ q.1 ∧ q.1 ≤ 5 ∧ q.2.1.length ≤ 4 ∧ ∀ a ∈ q.2.1, 1 ≤ a.2.length ∧ a.2.length ≤ 5 ∧ ∀ v ∈ a.2, 0 ≤ v ∧ v < q.1 := by
  unfold qryB at h
  simp only [Bool.and_eq_true, Bool.not_eq_true'] at h
  obtain ⟨h1, h2, -, h4, -⟩ := h
  have e1 : 1 ≤ q.1 ∧ q.1 ≤ 5 := by unfold btw at h1; simpa using h1
  have e2 : 1 ≤ (q.2.1.length : Int) ∧ (q.2.1.length : Int) ≤ 4 := by unfold btw at h2; simpa using h2
  refine ⟨e1.1, e1.2, by omega, fun a ha => ?_⟩
  have h5 := badAny_mem h4 ha
  unfold atomBad at h5
  simp only [Bool.or_eq_false_iff, Bool.not_eq_false'] at h5
  have e3 : 1 ≤ (a.2.length : Int) ∧ (a.2.length : Int) ≤ 5 := by have := h5.2.1; unfold btw at this; simpa using this
  refine ⟨by omega, by omega, fun v hv => ?_⟩
  have h6 := badAny_mem h5.2.2 hv
  simp only [Bool.not_eq_false'] at h6
  rw [wrap_in (by omega)] at h6
  have : 0 ≤ v ∧ v ≤ q.1 - 1 := by unfold btw at h6; simpa using h6
  omega
end Go.Proofs.Ytcoalfphehhadaa
