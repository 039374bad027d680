/-
  Rows that violate a dependency, and whether it holds: the reference and the program agree. On the printed functions; conditions: lengths.
-/
import Derived.Test.YtkclaipnejgloaaDoorFdIC1
namespace Go.Proofs.YtkclaipnejgloaaDoor
open Go.RowKit
set_option linter.unusedSimpArgs false
/-- a loop that ends with the first thing found -/
theorem some_loop {O : Type} {B : (Int → Option (Sum Unit O)) → Int → Option (Sum Unit O)} {n : Nat} (g : Nat → Option O) (hn : n ≤ lim)
    (h1 : ∀ k, k < n → ∀ rec, B rec (k : Int) = match g k with | some o => some (.inr o) | none => rec ((k + 1 : Nat) : Int)) (h2 : ∀ rec, B rec (n : Int) = some (.inl ())) :
    loopF B fz 0 = some (match (List.range n).findSome? g with | some o => .inr o | none => .inl ()) := by
  have key : ∀ d k, k + d = n → ∀ m, d < m → loopF B m (k : Int) = some (match (List.range' k d).findSome? g with | some o => .inr o | none => .inl ()) := by
    intro d
    induction d with
    | zero =>
      intro k hk m hm
      cases m with
      | zero => omega
      | succ m =>
        show B (loopF B m) (k : Int) = _
        rw [show k = n by omega, h2]; rfl
    | succ d ih =>
      intro k hk m hm
      cases m with
      | zero => omega
      | succ m =>
        show B (loopF B m) (k : Int) = _
        rw [h1 k (by omega), List.range'_succ, List.findSome?_cons]
        cases hg : g k with
        | some o => rfl
        | none => exact ih (k + 1) (by omega) m (by omega)
  have := key n 0 (by omega) fz (lt_fz hn)
  rw [List.range_eq_range']
  simpa using this
theorem badAny_f {α : Type} {l : List α} {f : Nat → α → Bool} (h : badAny l f = false) {k : Nat} (hk : k < l.length) : f k l[k] = false := by
  unfold badAny at h
  rw [List.any_eq_false] at h
  have := h k (List.mem_range.2 hk)
  rw [atB_lt hk] at this
  simpa using this
def atI (row : List Int) (c : Int) : Int := (geti row c).getD 0
def pickB (row cols : List Int) : List Int := cols.map (atI row)
theorem geti_ok {row : List Int} {c : Int} (h : 0 ≤ c ∧ c < row.length) : geti row c = some (atI row c) := by
  unfold atI geti
  rw [if_pos h.1, List.getElem?_eq_getElem (by omega)]; rfl
theorem cmp_eq : ∀ a b : List Int, (cmpB a b == 0) = (a == b)
  | [], [] => rfl
  | [], _ :: _ => rfl
  | _ :: _, [] => rfl
  | x :: xs, y :: ys => by
    rw [cmpB]
    by_cases h1 : x < y
    · rw [if_pos h1]
      have : (x :: xs == y :: ys) = false := by simp; intro h; omega
      rw [this]; rfl
    · rw [if_neg h1]
      by_cases h2 : y < x
      · rw [if_pos h2]
        have : (x :: xs == y :: ys) = false := by simp; intro h; omega
        rw [this]; rfl
      · rw [if_neg h2, cmp_eq xs ys]
        have : x = y := by omega
        subst this
        simp
/-- the rows fit the dependency -/
def RowsFit (rows : List (List Int)) (from_ : List Int) (to : Int) : Prop := ∀ r ∈ rows, (∀ c ∈ from_, 0 ≤ c ∧ c < r.length) ∧ 0 ≤ to ∧ to < r.length
theorem fd_fit {d : List Tbl} {f : List UInt8 × List Int × Int} (h : smDb d) (hf : fdB d f = true) : RowsFit (lookB d f.1).1.2 f.2.1 f.2.2 ∧ smRows (lookB d f.1).1.2 := by
  unfold fdB at hf
  simp only [Bool.and_eq_true, Bool.not_eq_true'] at hf
  obtain ⟨⟨h1, h2⟩, h3⟩ := hf
  unfold lookB at h1 h2 h3 ⊢
  by_cases hd : dbB d = true
  · rw [if_pos hd] at h1 h2 h3 ⊢
    cases ht : d.find? (fun t => t.1 == f.1) with
    | none => rw [ht] at h1; cases h1
    | some t =>
      rw [ht] at h2 h3
      simp only at h2 h3 ⊢
      have hm : t ∈ d := List.mem_of_find?_eq_some ht
      obtain ⟨j, hj, rfl⟩ := List.mem_iff_getElem.1 hm
      unfold dbB at hd
      simp only [Bool.and_eq_true, Bool.not_eq_true'] at hd
      have hb := badAny_f hd.2 hj
      unfold tblBad at hb
      simp only [Bool.or_eq_false_iff, Bool.not_eq_false'] at hb
      have hrel := hb.1.1.2
      unfold relB at hrel
      simp only [Bool.and_eq_true, Bool.not_eq_true'] at hrel
      obtain ⟨ha, _, hrows⟩ := hrel
      unfold btw at ha h2
      simp only [Bool.and_eq_true, decide_eq_true_eq] at ha h2
      have hw : IntKind.i64.wrap (d[j].2.1 - 1) = d[j].2.1 - 1 := wrap_in (by omega)
      rw [hw] at h2 h3
      refine ⟨fun r hr => ?_, (h.2 _ hm).2⟩
      obtain ⟨k, hk, rfl⟩ := List.mem_iff_getElem.1 hr
      have hlen := badAny_f hrows hk
      unfold rowBad at hlen
      simp only [Bool.or_eq_false_iff] at hlen
      have hl : (d[j].2.2[k].length : Int) = d[j].2.1 := by simpa using hlen.1.1
      refine ⟨fun c hc => ?_, by omega, by omega⟩
      obtain ⟨q, hq, rfl⟩ := List.mem_iff_getElem.1 hc
      have := badAny_f h3 hq
      simp only [Bool.or_eq_false_iff, Bool.not_eq_false'] at this
      have h4 := this.1
      unfold btw at h4
      simp only [Bool.and_eq_true, decide_eq_true_eq] at h4
      omega
  · rw [if_neg hd] at h1; cases h1
/-- two rows that violate the dependency -/
def clashB (rows : List (List Int)) (from_ : List Int) (to : Int) (k i : Nat) : Bool := atB rows i fun a => atB rows k fun b => (atI a to != atI b to) && (pickB a from_ == pickB b from_)
def violB (rows : List (List Int)) (from_ : List Int) (to : Int) : List Int := ((List.range rows.length).findSome? fun k => (List.range k).findSome? fun i => if clashB rows from_ to k i = true then some [(i : Int), (k : Int)] else none).getD []
end Go.Proofs.YtkclaipnejgloaaDoor
