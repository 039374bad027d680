/-
  When numbers, rows, relations, names, databases and histories are valid: the reference and the program agree. On the printed functions; conditions: lengths.
-/
import Derived.Test.YtkclaipnejgloaaDoorKb
import Derived.Test.YtkclaipnejgloaaDoorGenIC1
namespace Go.Proofs.YtkclaipnejgloaaDoor
open Go.RowKit
set_option linter.unusedSimpArgs false
/-- a loop that looks for a bad element -/
theorem all_loop_m {B : (Int → Option (Sum Unit Bool)) → Int → Option (Sum Unit Bool)} {n : Nat} (bad : Nat → Bool) {M : Nat} (hn : n < M) (h1 : ∀ k, k < n → ∀ rec, B rec (k : Int) = cond (bad k) (some (.inr false)) (rec ((k + 1 : Nat) : Int))) (h2 : ∀ rec, B rec (n : Int) = some (.inl ())) :
    loopF B M 0 = some (cond ((List.range n).any bad) (.inr false) (.inl ())) := by
  have key : ∀ d k, k + d = n → (∀ j, j < k → bad j = false) → ∀ m, d < m → loopF B m (k : Int) = some (cond ((List.range n).any bad) (.inr false) (.inl ())) := by
    intro d
    induction d with
    | zero =>
      intro k hk hb m hm
      cases m with
      | zero => omega
      | succ m =>
        have hkn : k = n := by omega
        have : (List.range n).any bad = false := by
          rw [List.any_eq_false]
          intro x hx
          rw [hb x (by have := List.mem_range.1 hx; omega)]; simp
        show B (loopF B m) (k : Int) = _
        rw [hkn, h2, this]; rfl
    | succ d ih =>
      intro k hk hb m hm
      cases m with
      | zero => omega
      | succ m =>
        show B (loopF B m) (k : Int) = _
        rw [h1 k (by omega)]
        cases hbk : bad k with
        | true =>
          have : (List.range n).any bad = true := by rw [List.any_eq_true]; exact ⟨k, List.mem_range.2 (by omega), hbk⟩
          rw [this]; rfl
        | false =>
          exact ih (k + 1) (by omega) (fun j hj => by
            rcases Nat.lt_or_ge j k with h | h
            · exact hb j h
            · rw [show j = k by omega]; exact hbk) m (by omega)
  have := key n 0 (by omega) (fun j hj => absurd hj (by omega)) M hn
  simpa using this
theorem all_loop {B : (Int → Option (Sum Unit Bool)) → Int → Option (Sum Unit Bool)} {n : Nat} (bad : Nat → Bool) (hn : n ≤ lim) (h1 : ∀ k, k < n → ∀ rec, B rec (k : Int) = cond (bad k) (some (.inr false)) (rec ((k + 1 : Nat) : Int))) (h2 : ∀ rec, B rec (n : Int) = some (.inl ())) :
    loopF B fz 0 = some (cond ((List.range n).any bad) (.inr false) (.inl ())) := all_loop_m bad (lt_fz hn) h1 h2
theorem lt_dec {k n : Nat} (h : k < n) : decide ((k : Int) < (n : Int)) = true := decide_eq_true (by omega)
theorem nlt_dec (n : Nat) : decide ((n : Int) < (n : Int)) = false := decide_eq_false (by omega)
/-- an element, if there is one -/
def atB {α : Type} (l : List α) (k : Nat) (f : α → Bool) : Bool := match l[k]? with
  | some e => f e
  | none => false
theorem atB_lt {α : Type} {l : List α} {k : Nat} (h : k < l.length) (f : α → Bool) : atB l k f = f l[k] := by unfold atB; rw [List.getElem?_eq_getElem h]
def badAny {α : Type} (l : List α) (f : Nat → α → Bool) : Bool := (List.range l.length).any fun k => atB l k (f k)
def btw (x lo hi : Int) : Bool := decide (lo ≤ x) && decide (x ≤ hi)
theorem s_l1In (x lo hi : Int) : spec_l1In x lo hi = some (btw x lo hi) := by
  unfold spec_l1In spec_l1In_J1 btw
  cases decide (lo ≤ x) <;> rfl
theorem i_within (x lo hi : Int) : impl_within x lo hi = some (btw x lo hi) := by
  unfold impl_within impl_within_J1 btw
  cases decide (lo ≤ x) <;> rfl
def avvB (l : List Int) : Bool := !badAny l fun _ e => !btw e 0 99
/-- rows compared -/
def cmpB : List Int → List Int → Int
  | [], [] => 0
  | [], _ :: _ => -1
  | _ :: _, [] => 1
  | x :: xs, y :: ys => if x < y then -1 else if y < x then 1 else cmpB xs ys
theorem cmp_loop {B : (Int → Option (Sum Unit Int)) → Int → Option (Sum Unit Int)} {a b : List Int} (ha : a.length ≤ lim)
    (h1 : ∀ k (hk : k < a.length) (hk' : k < b.length), ∀ rec, B rec (k : Int) = if a[k] < b[k] then some (.inr (-1)) else if b[k] < a[k] then some (.inr 1) else rec ((k + 1 : Nat) : Int))
    (h2 : ∀ k : Nat, ¬ (k < a.length ∧ k < b.length) → ∀ rec, B rec (k : Int) = some (.inl ())) :
    ∃ o, loopF B fz 0 = some o ∧ ((∃ r, o = .inr r ∧ cmpB a b = r) ∨ (o = .inl () ∧ cmpB a b = if a.length < b.length then -1 else if b.length < a.length then 1 else 0)) := by
  have key : ∀ d k, k + d = a.length → k ≤ b.length → cmpB a b = cmpB (a.drop k) (b.drop k) → ∀ m, d < m → ∃ o, loopF B m (k : Int) = some o ∧ ((∃ r, o = .inr r ∧ cmpB a b = r) ∨ (o = .inl () ∧ cmpB a b = if a.length < b.length then -1 else if b.length < a.length then 1 else 0)) := by
    intro d
    induction d with
    | zero =>
      intro k hk hkb hc m hm
      cases m with
      | zero => omega
      | succ m =>
        refine ⟨.inl (), h2 k (by omega) _, .inr ⟨rfl, ?_⟩⟩
        rw [hc, List.drop_of_length_le (by omega : a.length ≤ k)]
        rcases Nat.lt_or_ge k b.length with h | h
        · rw [List.drop_eq_getElem_cons h, if_pos (by omega)]; rfl
        · rw [List.drop_of_length_le h, if_neg (by omega), if_neg (by omega)]; rfl
    | succ d ih =>
      intro k hk hkb hc m hm
      cases m with
      | zero => omega
      | succ m =>
        have hka : k < a.length := by omega
        rcases Nat.lt_or_ge k b.length with h | h
        · have e1 := h1 k hka h (loopF B m)
          rw [List.drop_eq_getElem_cons hka, List.drop_eq_getElem_cons h, cmpB] at hc
          by_cases q1 : a[k] < b[k]
          · rw [if_pos q1] at e1 hc; exact ⟨_, e1, .inl ⟨_, rfl, hc⟩⟩
          · rw [if_neg q1] at e1 hc
            by_cases q2 : b[k] < a[k]
            · rw [if_pos q2] at e1 hc; exact ⟨_, e1, .inl ⟨_, rfl, hc⟩⟩
            · rw [if_neg q2] at e1 hc
              obtain ⟨o, e2, p⟩ := ih (k + 1) (by omega) (by omega) hc m (by omega)
              exact ⟨o, e1.trans e2, p⟩
        · refine ⟨.inl (), h2 k (by omega) _, .inr ⟨rfl, ?_⟩⟩
          rw [hc, List.drop_eq_getElem_cons hka, List.drop_of_length_le h, if_neg (by omega), if_pos (by omega)]; rfl
  exact key a.length 0 (by omega) (by omega) (by simp) fz (lt_fz ha)
theorem i_cmpI (x y : Int) : impl_compareInts x y = some (if x < y then -1 else if y < x then 1 else 0) := by
  unfold impl_compareInts
  by_cases q1 : x < y
  · rw [decide_eq_true q1, if_pos q1]; rfl
  · rw [decide_eq_false q1, if_neg q1]
    by_cases q2 : y < x
    · rw [decide_eq_true q2, if_pos q2]; rfl
    · rw [decide_eq_false q2, if_neg q2]; rfl
/-- a row of a relation that is not in its place -/
def rowBad (arity : Int) (rows : List (List Int)) (k : Nat) (r : List Int) : Bool := ((r.length : Int) != arity) || !avvB r || (decide (0 < k) && atB rows (k - 1) fun q => decide (0 ≤ cmpB q r))
def relB (r : Int × List (List Int)) : Bool := btw r.1 0 5 && (!decide (4000 < (r.2.length : Int)) && !badAny r.2 (rowBad r.1 r.2))
theorem wrap_p {k n : Nat} (h : k < n) (h0 : 0 < k) (hn : n ≤ maxLen) : IntKind.i64.wrap ((k : Int) - 1) = ((k - 1 : Nat) : Int) := by
  rw [wrap_in (by unfold maxLen at hn; omega)]; omega
def smRows (l : List (List Int)) : Prop := l.length ≤ lim ∧ ∀ r ∈ l, r.length ≤ lim
/-- names -/
def nmB (s : List UInt8) : Bool := btw (s.length : Int) 1 4 && !badAny s fun _ b => decide ((UInt8.toNat b : Int) < 97) || decide (122 < (UInt8.toNat b : Int))
theorem s_name {s : List UInt8} (h : s.length ≤ lim) : spec_IsValidName s = some (nmB s) := by
  unfold spec_IsValidName nmB badAny
  rw [all_loop (fun k => atB s k fun b => decide ((UInt8.toNat b : Int) < 97) || decide (122 < (UInt8.toNat b : Int))) h (fun k hk rec => by
    unfold spec_IsValidName_B1
    rw [lt_dec hk, geti_at hk, wrap_s hk (lim_max h), atB_lt hk]
    simp only [cond_true, obind]
    cases decide ((UInt8.toNat s[k] : Int) < 97) <;> rfl) (fun rec => by unfold spec_IsValidName_B1; rw [nlt_dec]; rfl)]
  cases (List.range s.length).any fun k => atB s k fun b => decide ((UInt8.toNat b : Int) < 97) || decide (122 < (UInt8.toNat b : Int)) <;> simp [obind, s_l1In]
theorem i_name {s : List UInt8} (h : s.length ≤ lim) : impl_IsValidName s = some (nmB s) := by
  unfold impl_IsValidName impl_isLetters nmB badAny btw
  by_cases h1 : (s.length : Int) < 1
  · rw [decide_eq_true h1, decide_eq_false (by omega : ¬ (1 : Int) ≤ (s.length : Int))]; rfl
  · rw [decide_eq_false h1, decide_eq_true (by omega : (1 : Int) ≤ (s.length : Int))]
    by_cases h2 : 4 < (s.length : Int)
    · rw [decide_eq_true h2, decide_eq_false (by omega : ¬ (s.length : Int) ≤ 4)]; rfl
    · rw [decide_eq_false h2, decide_eq_true (by omega : (s.length : Int) ≤ 4)]
      simp only [cond_false, Bool.and_self, Bool.true_and]
      rw [all_loop (fun k => atB s k fun b => decide ((UInt8.toNat b : Int) < 97) || decide (122 < (UInt8.toNat b : Int))) h (fun k hk rec => by
        unfold impl_isLetters_B1
        rw [lt_dec hk, geti_at hk, wrap_s hk (lim_max h), atB_lt hk]
        simp only [cond_true, obind]
        cases decide ((UInt8.toNat s[k] : Int) < 97) <;> rfl) (fun rec => by unfold impl_isLetters_B1; rw [nlt_dec]; rfl)]
      cases (List.range s.length).any fun k => atB s k fun b => decide ((UInt8.toNat b : Int) < 97) || decide (122 < (UInt8.toNat b : Int)) <;> rfl
/-- databases -/
abbrev Tbl := List UInt8 × (Int × List (List Int))
def tblBad (d : List Tbl) (k : Nat) (t : Tbl) : Bool := !nmB t.1 || (decide (0 < k) && atB d (k - 1) fun q => !Op.bytesLess q.1 t.1) || !relB t.2 || decide (16 < (t.2.2.length : Int)) || decide (t.2.1 < 1)
def dbB (d : List Tbl) : Bool := decide ((d.length : Int) ≤ 6) && !badAny d (tblBad d)
def smDb (d : List Tbl) : Prop := d.length ≤ lim ∧ ∀ t ∈ d, t.1.length ≤ lim ∧ smRows t.2.2
/-- histories -/
def smHist (x : Int × List (List Tbl)) : Prop := x.2.length ≤ lim ∧ ∀ d ∈ x.2, smDb d
def histB (x : Int × List (List Tbl)) : Bool := !badAny x.2 (fun _ d => !dbB d) && (btw (x.2.length : Int) 1 6 && btw x.1 1 (IntKind.i64.wrap (IntKind.i64.wrap (99 - (x.2.length : Int)) + 1)))
end Go.Proofs.YtkclaipnejgloaaDoor
