/-
  When a join tree, a decomposition and a plan are valid, part 2: the reference and the program agree. On the printed functions; conditions: lengths.
-/
import Derived.Test.YtkclaipnejgloaaDoorTwIC1
-- pure
namespace Go.Proofs.YtkclaipnejgloaaDoor
open Go.RowKit
set_option linter.unusedVariables false
set_option linter.unusedSimpArgs false
theorem qry_in {q : Qry} (h : qryB q = true) : 1 ≤ q.1 ∧ q.1 ≤ 5 ∧ q.2.1.length ≤ 4 ∧ ∀ a ∈ q.2.1, a.2.length ≤ 5 ∧ ∀ v ∈ a.2, 0 ≤ v ∧ v < q.1 := by
  have e1 := qry_n h
  unfold qryB at h
  simp only [Bool.and_eq_true, Bool.not_eq_true'] at h
  obtain ⟨h1, h2, -, h4, -⟩ := h
  have e2 : 1 ≤ (q.2.1.length : Int) ∧ (q.2.1.length : Int) ≤ 4 := by unfold btw at h2; simpa using h2
  refine ⟨e1.1, e1.2, by omega, fun a ha => ?_⟩
  obtain ⟨k, hk, rfl⟩ := List.mem_iff_getElem.1 ha
  have h5 := badAny_f h4 hk
  unfold atomBad at h5
  simp only [Bool.or_eq_false_iff, Bool.not_eq_false'] at h5
  have e3 : 1 ≤ ((q.2.1[k]).2.length : Int) ∧ ((q.2.1[k]).2.length : Int) ≤ 5 := by have := h5.2.1; unfold btw at this; simpa using this
  refine ⟨by omega, fun v hv => ?_⟩
  obtain ⟨j, hj, rfl⟩ := List.mem_iff_getElem.1 hv
  have h6 := badAny_f h5.2.2 hj
  simp only [Bool.not_eq_false'] at h6
  rw [wrap_in (by omega)] at h6
  unfold btw at h6
  simp only [Bool.and_eq_true, decide_eq_true_eq] at h6
  omega
theorem find_neg (l : List Int) (v : Int) : decide (placeI l v < 0) = !l.contains v := by
  rw [← place_has]
  by_cases h : 0 ≤ placeI l v
  · rw [decide_eq_true h, decide_eq_false (by omega)]; rfl
  · rw [decide_eq_false h, decide_eq_true (by omega)]; rfl
theorem topB_map (l : List Atm) (p : List Int) (v : Int) (i : Nat) : topB id (l.map fun a => a.2) p v i = topB (fun a : Atm => a.2) l p v i := by
  unfold topB atB
  simp only [List.getElem?_map, id]
  cases l[i]? with
  | none => rfl
  | some a =>
    simp only [Option.map_some]
    congr 1
    cases p[i]? with
    | none => rfl
    | some x =>
      simp only
      cases l[x.toNat]? <;> rfl
theorem topT_map (l : List Atm) (p : List Int) (v : Int) (k : Nat) : topT id (l.map fun a => a.2) p v k = topT (fun a : Atm => a.2) l p v k := by
  unfold topT
  congr 1
  exact List.filter_congr fun i _ => topB_map l p v i
/-- the places of a variable count one -/
def topsB {α : Type} (g : α → List Int) (l : List α) (p : List Int) (n : Nat) : Bool := (List.range n).any fun v => ((topT g l p (v : Int) p.length : Nat) : Int) != 1
/-- a loop over the variables -/
theorem var_loop {B : (Int → Option (Sum Unit Bool)) → Int → Option (Sum Unit Bool)} {n : Int} (hn : 1 ≤ n ∧ n ≤ 5) (f : Int → Int) (hB : ∀ rec v, B rec v = cond (decide (v < n)) (cond (f v != 1) (some (.inr false)) (rec (IntKind.i64.wrap (v + 1)))) (some (.inl ()))) :
    loopF B fz 0 = some (cond ((List.range n.toNat).any fun v => f (v : Int) != 1) (.inr false) (.inl ())) := by
  refine all_loop (fun v => f (v : Int) != 1) (by unfold lim; omega) (fun k hk rec => ?_) (fun rec => ?_)
  · rw [hB, decide_eq_true (by omega : (k : Int) < n), wrap_in (by omega), cond_true]; rfl
  · rw [hB, decide_eq_false (by omega : ¬ ((n.toNat : Nat) : Int) < n)]; rfl
/-- a join tree -/
def jtB (q : Qry) (p : List Int) : Bool := qryB q && (((p.length : Int) == (q.2.1.length : Int)) && (treeS p && !topsB (fun a : Atm => a.2) q.2.1 p q.1.toNat))
theorem len_eqN {m n : Nat} (h : ((m : Int) == (n : Int)) = true) : m = n := by have h := eq_of_beq h; omega
theorem tree_wide {p : List Int} (h : treeI p = true) : wide p := by
  unfold treeI at h
  simp only [Bool.and_eq_true, Bool.not_eq_true'] at h
  exact wide_of fun i hi => by have := badAny_f h.1 hi; simp at this; exact this.1
theorem any_or2 {α : Type} (l : List α) (f g : Nat → α → Bool) : badAny l (fun k e => f k e || g k e) = (badAny l f || badAny l g) := by
  unfold badAny
  induction List.range l.length with
  | nil => rfl
  | cons k ks ih =>
    rw [List.any_cons, List.any_cons, List.any_cons, ih]
    unfold atB
    cases l[k]? with
    | none => simp
    | some e =>
      simp only
      cases f k e <;> cases g k e <;> simp
theorem badAny_len {α β : Type} {l : List α} {m : List β} (h : l.length = m.length) (f : Nat → Bool) : badAny l (fun k _ => f k) = badAny m fun k _ => f k := by
  unfold badAny
  rw [h]
  rw [Bool.eq_iff_iff, List.any_eq_true, List.any_eq_true]
  constructor
  · rintro ⟨k, hk, hb⟩
    have hk' := List.mem_range.1 hk
    rw [atB_lt (by omega)] at hb
    exact ⟨k, hk, by rw [atB_lt hk']; exact hb⟩
  · rintro ⟨k, hk, hb⟩
    have hk' := List.mem_range.1 hk
    rw [atB_lt hk'] at hb
    exact ⟨k, hk, by rw [atB_lt (by omega)]; exact hb⟩
/-- a bag -/
def outB (n : Int) (e : Int) : Bool := !btw e 0 (IntKind.i64.wrap (n - 1))
def bagB (n : Int) (b : List Int) : Bool := (!badAny b fun k e => outB n e || notUp b k e) && decide (0 < (b.length : Int))
theorem asc_lt {l : List Int} (h : badAny l (notUp l) = false) : ∀ (d j : Nat) (hd : j + 1 + d < l.length), l[j]'(by omega) < l[j + 1 + d]'hd
  | 0, j, hd => by
    have := badAny_f h hd
    unfold notUp at this
    rw [decide_eq_true (by omega), Bool.true_and, atB_lt (by omega : j + 1 + 0 - 1 < l.length)] at this
    simp only [decide_eq_false_iff_not, Int.not_le] at this
    exact this
  | d + 1, j, hd => by
    have h1 := asc_lt h d j (by omega)
    have h2 := badAny_f h hd
    unfold notUp at h2
    rw [decide_eq_true (by omega), Bool.true_and, atB_lt (by omega : j + 1 + (d + 1) - 1 < l.length)] at h2
    simp only [decide_eq_false_iff_not, Int.not_le] at h2
    have e : l[j + 1 + (d + 1) - 1]'(by omega) = l[j + 1 + d]'(by omega) := by congr 1
    rw [e] at h2
    omega
theorem set_out {n : Int} {l : List Int} (h : badAny l (notUp l) = false) : badAny l (setBad n l) = badAny l fun _ e => outB n e := by
  have e : badAny l (setBad n l) = (badAny l (fun _ e => outB n e) || badAny l (fun k e => (l.take k).contains e)) := by
    rw [← any_or2]; rfl
  have e2 : badAny l (fun k e => (l.take k).contains e) = false := badAny_of fun i hi => by
    rw [← Bool.not_eq_true, List.contains_iff_mem]
    intro hm
    obtain ⟨j, hj, he⟩ := List.mem_iff_getElem.1 hm
    rw [List.length_take] at hj
    rw [List.getElem_take] at he
    have := asc_lt h (i - j - 1) j (by omega)
    have e3 : l[j + 1 + (i - j - 1)]'(by omega) = l[i] := by congr 1; omega
    rw [e3] at this
    omega
  rw [e, e2, Bool.or_false]
/-- the variables of an atom, in order -/
def avL (a : Atm) (k : Nat) : List Int := ((List.range k).filter fun (v : Nat) => a.2.contains (v : Int)).map fun (v : Nat) => (v : Int)
theorem avL_s (a : Atm) (k : Nat) : avL a (k + 1) = avL a k ++ cond (a.2.contains (k : Int)) [(k : Int)] [] := by
  unfold avL
  rw [List.range_succ, List.filter_append, List.map_append, List.filter_cons, List.filter_nil]
  cases a.2.contains (k : Int) <;> rfl
theorem avL_len (a : Atm) (k : Nat) : (avL a k).length ≤ k := by
  unfold avL
  rw [List.length_map]
  exact Nat.le_trans (List.length_filter_le _ _) (by simp)
theorem filt_s {α : Type} (f : α → Bool) {l : List α} {k : Nat} (hk : k < l.length) : (l.take (k + 1)).filter f = (l.take k).filter f ++ cond (f l[k]) [l[k]] [] := by
  rw [List.take_succ_eq_append_getElem hk, List.filter_append, List.filter_cons, List.filter_nil]
  cases f l[k] <;> rfl
/-- all the variables of an atom lie in a bag -/
def inB2 (a : Atm) (b : List Int) : Bool := a.2.all b.contains
theorem in_same {a : Atm} (h : ∀ v ∈ a.2, 0 ≤ v ∧ v < 5) (b : List Int) : (((((avL a 5).filter b.contains).length : Nat) : Int) == (((avL a 5).length : Nat) : Int)) = inB2 a b := by
  have e1 : (((((avL a 5).filter b.contains).length : Nat) : Int) == (((avL a 5).length : Nat) : Int)) = true ↔ ((avL a 5).filter b.contains).length = (avL a 5).length := by
    rw [beq_iff_eq]; omega
  rw [Bool.eq_iff_iff, e1, List.length_filter_eq_length_iff]
  unfold inB2
  rw [List.all_eq_true]
  constructor
  · intro hh v hv
    have hb := h v hv
    refine hh v ?_
    unfold avL
    rw [List.mem_map]
    exact ⟨v.toNat, List.mem_filter.2 ⟨List.mem_range.2 (by omega), by rw [show ((v.toNat : Nat) : Int) = v by omega]; simpa using hv⟩, by omega⟩
  · intro hh v hv
    unfold avL at hv
    rw [List.mem_map] at hv
    obtain ⟨n, hn, rfl⟩ := hv
    have := (List.mem_filter.1 hn).2
    exact hh _ (by simpa using this)
theorem any_s {α : Type} (f : α → Bool) {l : List α} {k : Nat} (hk : k < l.length) : (l.take (k + 1)).any f = ((l.take k).any f || f l[k]) := by
  rw [List.take_succ_eq_append_getElem hk, List.any_append]; simp
/-- a decomposition -/
def decB (q : Qry) (x : List (List Int) × List Int) : Bool := qryB q && (((x.2.length : Int) == (x.1.length : Int)) && (treeS x.2 && ((!badAny x.1 fun _ b => !bagB q.1 b) && ((!badAny q.2.1 fun _ a => !x.1.any (inB2 a)) && !topsB id x.1 x.2 q.1.toNat))))
def smDec (x : List (List Int) × List Int) : Prop := x.1.length < lim ∧ (∀ b ∈ x.1, b.length < lim) ∧ x.2.length < lim
theorem i_cv {a : Atm} (h : a.2.length ≤ lim) (v : Int) : impl_ContainsVariable a v = some (a.2.contains v) := by
  unfold impl_ContainsVariable
  simp only [i_has h, ob_s]
/-- a plan -/
abbrev Pln := Int × List Int × List Int × (List (List Int) × List Int)
def smPln (p : Pln) : Prop := p.2.1.length ≤ lim ∧ p.2.2.1.length < lim ∧ smDec p.2.2.2
def plnB (q : Qry) (p : Pln) : Bool := cond (p.1 == 1) (jtB q p.2.2.1) (cond (p.1 == 2) (decB q p.2.2.2) (cond (p.1 == 3) (ordB q p.2.1) false))
end Go.Proofs.YtkclaipnejgloaaDoor
