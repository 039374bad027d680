/-
  Finding a relation, and when a dependency is valid: the reference and the program agree. On the printed functions; conditions: lengths.
-/
import Derived.Test.YtkclaipnejgloaaDoorVaIC1
namespace Go.Proofs.YtkclaipnejgloaaDoor
open Go.RowKit
set_option linter.unusedSimpArgs false
/-- a list that grows by one each round -/
theorem map_loop {α β : Type} {a : List α} {h : α → β} {B : (List β × Int → Option (List β)) → List β × Int → Option (List β)} (hl : a.length ≤ lim)
    (h1 : ∀ k (hk : k < a.length), ∀ rec, B rec ((a.take k).map h, (k : Int)) = rec ((a.take k).map h ++ [h a[k]], ((k + 1 : Nat) : Int))) (h2 : ∀ rec y, B rec (y, (a.length : Int)) = some y) : loopF B fz ([], 0) = some (a.map h) := by
  have := loop_to (body := B) (out := a.map h) (fun k => ((a.take k).map h, (k : Int))) a.length (fun k hk rec => by
    rw [h1 k hk, List.take_succ_eq_append_getElem hk, List.map_append]; rfl) (fun rec => by rw [h2, List.take_length]) fz (lt_fz hl)
  simpa using this
/-- a search -/
theorem find_loop {α O : Type} {a : List α} {B : (Int → Option (Sum Unit O)) → Int → Option (Sum Unit O)} (p : α → Bool) (g : α → O) (hl : a.length ≤ lim)
    (h1 : ∀ k (hk : k < a.length), ∀ rec, B rec (k : Int) = cond (p a[k]) (some (.inr (g a[k]))) (rec ((k + 1 : Nat) : Int))) (h2 : ∀ rec, B rec (a.length : Int) = some (.inl ())) :
    loopF B fz 0 = some (match a.find? p with | some e => .inr (g e) | none => .inl ()) := by
  have key : ∀ d k, k + d = a.length → ∀ m, d < m → loopF B m (k : Int) = some (match (a.drop k).find? p with | some e => .inr (g e) | none => .inl ()) := by
    intro d
    induction d with
    | zero =>
      intro k hk m hm
      cases m with
      | zero => omega
      | succ m =>
        show B (loopF B m) (k : Int) = _
        rw [show k = a.length by omega, h2, List.drop_length]; rfl
    | succ d ih =>
      intro k hk m hm
      cases m with
      | zero => omega
      | succ m =>
        have hlt : k < a.length := by omega
        show B (loopF B m) (k : Int) = _
        rw [h1 k hlt, List.drop_eq_getElem_cons hlt, List.find?_cons]
        cases hp : p a[k] with
        | true => rfl
        | false => exact ih (k + 1) (by omega) m (by omega)
  have := key a.length 0 (by omega) fz (lt_fz hl)
  simpa using this
/-- a relation by its name -/
def lookB (d : List Tbl) (nm : List UInt8) : (Int × List (List Int)) × Bool := if dbB d = true then (match d.find? (fun t => t.1 == nm) with | some t => (t.2, true) | none => ((0, []), false)) else ((0, []), false)
theorem any_or {α : Type} (l : List α) (f g : Nat → α → Bool) : badAny l (fun k e => f k e || g k e) = (badAny l f || badAny l g) := by
  unfold badAny
  rw [Bool.eq_iff_iff]
  simp only [List.any_eq_true, Bool.or_eq_true, List.mem_range]
  constructor
  · rintro ⟨k, hk, h⟩
    rw [atB_lt hk] at h
    simp only [Bool.or_eq_true] at h
    rcases h with h | h
    · exact .inl ⟨k, hk, by rw [atB_lt hk]; exact h⟩
    · exact .inr ⟨k, hk, by rw [atB_lt hk]; exact h⟩
  · rintro (⟨k, hk, h⟩ | ⟨k, hk, h⟩) <;> rw [atB_lt hk] at h <;> exact ⟨k, hk, by rw [atB_lt hk, h]; simp⟩
/-- a place where a list does not go up -/
def notUp (l : List Int) (k : Nat) (e : Int) : Bool := decide (0 < k) && atB l (k - 1) fun q => decide (e ≤ q)
theorem loopF_succ {S O : Type} (body : (S → Option O) → S → Option O) (n : Nat) (s : S) : loopF body (n + 1) s = body (loopF body n) s := rfl
/-- a dependency -/
def fdB (d : List Tbl) (f : List UInt8 × List Int × Int) : Bool := let v := lookB d f.1; (v.2 && btw f.2.2 0 (IntKind.i64.wrap (v.1.1 - 1))) && !badAny f.2.1 (fun k e => !btw e 0 (IntKind.i64.wrap (v.1.1 - 1)) || notUp f.2.1 k e)
end Go.Proofs.YtkclaipnejgloaaDoor
