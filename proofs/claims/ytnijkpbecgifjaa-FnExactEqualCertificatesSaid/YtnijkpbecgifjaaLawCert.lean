/-
  For the laws' rows: the reading of an argument that is a certificate. No conditions.
-/
import Derived.Test.YtnijkpbecgifjaaTyCertificate
import Derived.Test.YtnijkpbecgifjaaLawKit
namespace Go.Proofs.Ytnijkpbecgifjaa
open Go.RowKit Go.ChangeShapes Go.WideShapes Go.Deep

theorem cellsRat : Try.prog.cellsOf 65 = 2 := by kernel_rfl
section
variable {H : Type} {enc : TypeId × Value → H} {w : World} {base : Nat} {spare : Nat → Bool} {held : Bool} {r : Reach} {b0 : Nat} {v : Value} {d : DataW H} {p : List MemPlace}
theorem take2 {xs : List Value} {i : Nat} (hi : i * 2 + 1 < xs.length) : (xs.drop (i * 2)).take 2 = [xs[i * 2], xs[i * 2 + 1]] := by
  rw [List.drop_eq_getElem_cons (by omega), List.drop_eq_getElem_cons (by omega)]; rfl
/-- the cells of a struct of one-cell fields: each reads as its field -/
theorem open_cells {P : Program} {t : TypeId} {fs : Array Field} {cs : List Value} {fuel : Nat} {x : DataW H × List MemPlace} (hs : P.underlying t = some (.struct fs)) (hone : oneCellFields P fs = true)
    (h : DataW.trod enc P w base spare held fuel t cs = some x) {j : Nat} {f : Field} (hj : fs[j]? = some f) {c : Value} (hc : cs[j]? = some c) : ∃ y n, DataW.trod enc P w base spare held n f.type [c] = some y := by
  obtain ⟨ys, n, _, _, _, hlen, hf⟩ := DataW.trod_struct hs h
  obtain ⟨ho, hk⟩ := hone_of hone j f hj
  have hjl : j < fs.size := (Array.getElem?_eq_some_iff.1 hj).1
  have h1 := hf j f hj
  obtain ⟨hcl, hcv⟩ := List.getElem?_eq_some_iff.1 hc
  rw [ho, hk, List.drop_eq_getElem_cons hcl, hcv] at h1
  exact ⟨_, n, h1.trans (List.getElem?_eq_getElem (by omega))⟩
theorem flatR_ext {xs : List Value} {l : List (Int × Int)} (hl : xs.length = l.length * 2) (h : ∀ i (hi : i < l.length), xs[i * 2]? = some (.int .i64 l[i].1) ∧ xs[i * 2 + 1]? = some (.int .i64 l[i].2)) : xs = flatR l := by
  apply List.ext_getElem?
  intro j
  have hL := flatR_length l
  by_cases hj : j < l.length * 2
  · have hi : j / 2 < l.length := by omega
    have h1 := h (j / 2) hi
    have h2 := flatR_get l (j / 2) hi
    rcases Nat.mod_two_eq_zero_or_one j with e | e
    · rw [show j = j / 2 * 2 by omega, h1.1, h2.1]
    · rw [show j = j / 2 * 2 + 1 by omega, h1.2, h2.2]
  · rw [List.getElem?_eq_none (by omega), List.getElem?_eq_none (by omega)]
theorem open_ratsL {fuel : Nat} {x : DataW H × List MemPlace} (h : DataW.trod enc Try.prog w base spare held fuel 36 [v] = some x) : ∃ l : List (Int × Int), Rats w v l := by
  obtain ⟨n, xs, hr, hi⟩ := open_row Try.underlying36 cellsRat (by omega) h
  have hxl : xs.length = n * 2 := by obtain ⟨_, _, _, _, hl, _⟩ := hr; omega
  obtain ⟨l, hl, hp⟩ := list_of_fn (α := Int × Int) (n := n) (p := fun i z => xs[i * 2]? = some (.int .i64 z.1) ∧ xs[i * 2 + 1]? = some (.int .i64 z.2)) (fun i hlt => by
    obtain ⟨y, m, hy⟩ := hi i hlt
    rw [take2 (by omega)] at hy
    obtain ⟨y0, n0, h0⟩ := open_cells Try.underlying65 (by kernel_rfl) hy (j := 0) rfl rfl
    obtain ⟨y1, n1, h1⟩ := open_cells Try.underlying65 (by kernel_rfl) hy (j := 1) rfl rfl
    obtain ⟨z0, e0, _, _⟩ := DataW.trod_int Try.underlying3 h0
    obtain ⟨z1, e1, _, _⟩ := DataW.trod_int Try.underlying3 h1
    exact ⟨(z0, z1), by rw [List.getElem?_eq_getElem (by omega)]; simpa using e0, by rw [List.getElem?_eq_getElem (by omega)]; simpa using e1⟩)
  refine ⟨l, ?_⟩
  unfold Rats
  rw [← flatR_ext (by rw [hl, hxl]) hp, hl]
  exact hr
theorem open_Certificate (hv : Value.okWide Try.prog w r b0 38 v) (h : DataW.Trod enc Try.prog w base spare held 38 v d p) :
    ∃ (u1 : Value) (x1 : List Int) (u2 : Value) (x2 : List (Int × Int)) (u3 : Value) (x3 : List Int) (x4 x5 : Int), v = .agg #[u1, u2, u3, .int .i64 x4, .int .i64 x5] ∧ (-9223372036854775808 ≤ x4 ∧ x4 ≤ 9223372036854775807) ∧ (-9223372036854775808 ≤ x5 ∧ x5 ≤ 9223372036854775807) ∧ Rd_Certificate w u1 x1 u2 x2 u3 x3 := by
  obtain ⟨cs, rfl, hsz⟩ := okWide_struct Try.underlying38 hv
  obtain ⟨l⟩ := cs
  have h5 : Try.prog.cellsOf 38 = 5 := by kernel_rfl
  match l, hsz.trans h5 with
  | [c0, c1, c2, c3, c4], _ =>
    obtain ⟨fuel, hf⟩ := h
    obtain ⟨y0, n0, h0⟩ := open_cells Try.underlying38 (by kernel_rfl) hf (j := 0) rfl rfl
    obtain ⟨y1, n1, h1⟩ := open_cells Try.underlying38 (by kernel_rfl) hf (j := 1) rfl rfl
    obtain ⟨y2, n2, h2⟩ := open_cells Try.underlying38 (by kernel_rfl) hf (j := 2) rfl rfl
    obtain ⟨y3, n3, h3⟩ := open_cells Try.underlying38 (by kernel_rfl) hf (j := 3) rfl rfl
    obtain ⟨y4, n4, h4⟩ := open_cells Try.underlying38 (by kernel_rfl) hf (j := 4) rfl rfl
    obtain ⟨x1, r1, _⟩ := open_intsL Try.underlying24 Try.underlying3 cellsInt h0
    obtain ⟨x2, r2⟩ := open_ratsL h1
    obtain ⟨x3, r3, _⟩ := open_intsL Try.underlying24 Try.underlying3 cellsInt h2
    obtain ⟨x4, e3, _, w3⟩ := DataW.trod_int Try.underlying3 h3
    obtain ⟨x5, e4, _, w4⟩ := DataW.trod_int Try.underlying3 h4
    obtain rfl : c3 = .int .i64 x4 := by simpa using e3
    obtain rfl : c4 = .int .i64 x5 := by simpa using e4
    exact ⟨c0, x1, c1, x2, c2, x3, x4, x5, rfl, wf_fit w3, wf_fit w4, r1, r2, r3⟩
end
end Go.Proofs.Ytnijkpbecgifjaa
