/-
  From the reading of an argument to the words of this proof: slices of ints and slices of slices of ints. Over any program; no conditions.
-/
import Derived.Test.YtkmkbpphdalgoaaWords
import Derived.Deep.Slices
import Derived.OpenShut
import Derived.Lib.SmallJoins
namespace Go.Proofs.Ytkmkbpphdalgoaa
open Go.RowKit Go.ChangeShapes Go.WideShapes Go.Deep

theorem list_of_fn {α : Type} [Inhabited α] {n : Nat} {p : Nat → α → Prop} (h : ∀ i, i < n → ∃ x, p i x) : ∃ l : List α, l.length = n ∧ ∀ i (hi : i < l.length), p i l[i] := by
  obtain ⟨f, hf⟩ := choose_lt h
  refine ⟨(List.range n).map f, by simp, fun i hi => ?_⟩
  simp only [List.length_map, List.length_range] at hi
  simpa using hf i hi

theorem flat_get {size : Nat} {f : Nat → List Value} : ∀ (n : Nat), (∀ i, i < n → (f i).length = size) → ((List.range n).flatMap f).length = n * size ∧
    ∀ i j, i < n → j < size → ((List.range n).flatMap f)[i * size + j]? = (f i)[j]? := by
  intro n
  induction n with
  | zero => intro _; exact ⟨by simp, fun i j hi => absurd hi (by omega)⟩
  | succ n ih =>
    intro h
    obtain ⟨h1, h2⟩ := ih (fun i hi => h i (by omega))
    rw [List.range_succ, List.flatMap_append, List.flatMap_singleton]
    refine ⟨by rw [List.length_append, h1, h n (by omega), Nat.succ_mul], fun i j hi hj => ?_⟩
    by_cases e : i = n
    · subst e
      rw [List.getElem?_append_right (by omega), h1, Nat.add_sub_cancel_left]
    · have hlt : i * size + j < n * size := by
        have : (i + 1) * size ≤ n * size := Nat.mul_le_mul_right _ (by omega)
        rw [Nat.succ_mul] at this
        omega
      rw [List.getElem?_append_left (by omega), h2 i j (by omega) hj]

section
variable {H : Type} {enc : TypeId × Value → H} {P : Program} {w : World} {base : Nat} {spare : Nat → Bool} {held : Bool}

theorem addr_plain {a : Addr} {j : Nat} {u : Value} (h0 : ∃ v, w.cell? (a.add 0) = some v) (h : w.cell? (a.add j) = some u) : ∃ b off, a = ⟨b, off, none⟩ ∧ w.cell? ⟨b, off + j, none⟩ = some u := by
  obtain ⟨v, h0⟩ := h0
  obtain ⟨b, off, spot⟩ := a
  have hspot : spot = none := by simpa [Addr.add] using World.cell?_spot h0
  subst hspot
  exact ⟨b, off, rfl, by rw [← Go.WideShapes.add_plain]; exact h⟩

/-- A slice that came in: its cells, and the reading of each element's cells. -/
theorem open_row {t e : TypeId} {size fuel : Nat} {v : Value} {x : DataW H × List MemPlace} (ht : P.underlying t = some (.slice e)) (hC : P.cellsOf e = size) (hs : 0 < size)
    (h : DataW.trod enc P w base spare held fuel t [v] = some x) :
    ∃ (n : Nat) (xs : List Value), RowAt w size v n xs ∧ ∀ i, i < n → ∃ y m, DataW.trod enc P w base spare held m e ((xs.drop (i * size)).take size) = some y := by
  rcases open_slice ht h with ⟨hv, _⟩ | ⟨a, len, cap, m, fl, D, Pl, hv, hb, hl, hm, hmm, hx, hi⟩
  · obtain rfl : v = .slice none 0 0 := by simpa using hv
    exact ⟨0, [], ⟨none, 0, rfl, by omega, by simp, fun h0 => absurd h0 (by omega)⟩, fun i hi => absurd hi (by omega)⟩
  · obtain rfl : v = .slice (some a) len cap := by simpa using hv
    subst hC
    have hlm : len ≤ m := by rw [hmm]; split <;> omega
    obtain ⟨f, hf⟩ := choose_lt (α := List Value) (fun i hlt => hi i (Nat.lt_of_lt_of_le hlt hlm))
    have hfl : ∀ i, i < len → (f i).length = P.cellsOf e := fun i hlt => (World.cells?_some (hf i hlt).1).2.1
    obtain ⟨g1, g2⟩ := flat_get (size := P.cellsOf e) (f := f) len hfl
    have hcell : ∀ j u, ((List.range len).flatMap f)[j]? = some u → w.cell? (a.add j) = some u := by
      intro j u hu
      have hj : j < len * P.cellsOf e := by
        rcases Nat.lt_or_ge j (len * P.cellsOf e) with h1 | h1
        · exact h1
        · rw [List.getElem?_eq_none (by omega)] at hu; cases hu
      have hd : j / P.cellsOf e < len := by
        rw [Nat.div_lt_iff_lt_mul hs]; exact hj
      have hr : j % P.cellsOf e < P.cellsOf e := Nat.mod_lt _ hs
      have he : j / P.cellsOf e * P.cellsOf e + j % P.cellsOf e = j := by rw [Nat.mul_comm]; exact Nat.div_add_mod _ _
      have := g2 _ _ hd hr
      rw [he, hu] at this
      have h3 := (World.cells?_some (hf _ hd).1).2.2 _ hr
      rw [Go.Deep.add_add, he] at h3
      rw [h3]; exact this.symm
    refine ⟨len, (List.range len).flatMap f, ⟨some a, cap, rfl, by unfold maxLen at hm; omega, g1, fun hn => ?_⟩, fun i hlt => ?_⟩
    · have h00 : ∃ v, w.cell? (a.add 0) = some v := by
        have hp : 0 < ((List.range len).flatMap f).length := by rw [g1]; exact Nat.mul_pos hn hs
        exact ⟨_, hcell 0 _ (List.getElem?_eq_getElem hp)⟩
      obtain ⟨v0, h0⟩ := h00
      obtain ⟨b, off, rfl, _⟩ := addr_plain ⟨v0, h0⟩ h0
      refine ⟨b, off, rfl, fun j u hu => ?_⟩
      rw [← Go.WideShapes.add_plain]
      exact hcell j u hu
    · refine ⟨(D i, Pl i), fl, ?_⟩
      rw [← (hf i hlt).2]
      congr 1
      apply List.ext_getElem?
      intro j
      rw [List.getElem?_take, List.getElem?_drop]
      by_cases hj : j < P.cellsOf e
      · rw [if_pos hj, g2 i j hlt hj]
      · rw [if_neg hj, List.getElem?_eq_none (by rw [hfl i hlt]; omega)]

theorem take1 {xs : List Value} {i : Nat} (hi : i < xs.length) : (xs.drop (i * 1)).take 1 = [xs[i]] := by
  rw [Nat.mul_one, List.drop_eq_getElem_cons hi]; rfl

/-- ints that all fit into 64 bits -/
def Fit (l : List Int) : Prop := ∀ n ∈ l, -9223372036854775808 ≤ n ∧ n ≤ 9223372036854775807
theorem wf_fit {n : Int} (h : (Lit.int .i64 n).wf = true) : -9223372036854775808 ≤ n ∧ n ≤ 9223372036854775807 := by
  simpa [Lit.wf, IntKind.min, IntKind.max, IntKind.signed, IntKind.bits] using h

/-- A slice of ints that came in. -/
theorem open_intsL {t e : TypeId} {fuel : Nat} {v : Value} {x : DataW H × List MemPlace} (ht : P.underlying t = some (.slice e)) (he : P.underlying e = some (.int .i64)) (hC : P.cellsOf e = 1)
    (h : DataW.trod enc P w base spare held fuel t [v] = some x) : ∃ l : List Int, Ints w v l ∧ Fit l := by
  obtain ⟨n, xs, hr, hi⟩ := open_row ht hC (by omega) h
  have hxl : xs.length = n := by obtain ⟨_, _, _, _, hl, _⟩ := hr; omega
  obtain ⟨l, hl, hp⟩ := list_of_fn (α := Int) (n := n) (p := fun i z => xs[i]? = some (.int .i64 z) ∧ (Lit.int .i64 z).wf = true) (fun i hlt => by
    obtain ⟨y, m, hy⟩ := hi i hlt
    rw [take1 (by omega)] at hy
    obtain ⟨z, e0, _, wz⟩ := DataW.trod_int he hy
    exact ⟨z, by rw [List.getElem?_eq_getElem (by omega)]; simpa using e0, wz⟩)
  have hx : xs = l.map (Value.int .i64) := by
    apply List.ext_getElem?
    intro i
    by_cases hlt : i < l.length
    · rw [(hp i hlt).1]; simp [hlt]
    · rw [List.getElem?_eq_none (by omega), List.getElem?_eq_none (by simp; omega)]
  subst hx
  refine ⟨l, by unfold Ints; rw [hl]; exact hr, fun n hn => ?_⟩
  obtain ⟨i, hi', rfl⟩ := List.mem_iff_getElem.1 hn
  exact wf_fit (hp i hi').2

/-- A slice of slices of ints that came in. -/
theorem open_rows2L {t e q : TypeId} {fuel : Nat} {v : Value} {x : DataW H × List MemPlace} (ht : P.underlying t = some (.slice e)) (he : P.underlying e = some (.slice q)) (hq : P.underlying q = some (.int .i64)) (hC : P.cellsOf e = 1) (hD : P.cellsOf q = 1)
    (h : DataW.trod enc P w base spare held fuel t [v] = some x) : ∃ ll : List (List Int), Rows2 w v ll ∧ ∀ l ∈ ll, Fit l := by
  obtain ⟨n, xs, hr, hi⟩ := open_row ht hC (by omega) h
  have hxl : xs.length = n := by obtain ⟨_, _, _, _, hl, _⟩ := hr; omega
  obtain ⟨ll, hl, hp⟩ := list_of_fn (α := List Int) (n := n) (p := fun i z => ∃ u, xs[i]? = some u ∧ Ints w u z ∧ Fit z) (fun i hlt => by
    obtain ⟨y, m, hy⟩ := hi i hlt
    rw [take1 (by omega)] at hy
    obtain ⟨l, h1, h2⟩ := open_intsL he hq hD hy
    exact ⟨l, xs[i]'(by omega), List.getElem?_eq_getElem (by omega), h1, h2⟩)
  refine ⟨ll, ⟨xs, by rw [hl]; exact hr, fun i hi' => ?_⟩, fun l hl' => ?_⟩
  · obtain ⟨u, h1, h2, _⟩ := hp i hi'
    exact ⟨u, h1, h2⟩
  · obtain ⟨i, hi', rfl⟩ := List.mem_iff_getElem.1 hl'
    obtain ⟨_, _, _, h3⟩ := hp i hi'
    exact h3
end
end Go.Proofs.Ytkmkbpphdalgoaa
