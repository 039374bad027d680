/-
  Rationals (structs of two ints) and lists of them: the words, and the contracts of the functions that compare, copy and measure them. Conditions: the arguments read as such data.
-/
import Derived.Test.YtnijkpbecgifjaaMake
import Derived.Laws.MakeOwn
import Derived.Laws.StructEq
namespace Go.Proofs.Ytnijkpbecgifjaa
open Go.RowKit

/-- the cells of a list of rationals -/
def flatR : List (Int × Int) → List Value
  | [] => []
  | r :: l => .int .i64 r.1 :: .int .i64 r.2 :: flatR l
theorem flatR_length (l : List (Int × Int)) : (flatR l).length = l.length * 2 := by
  induction l with
  | nil => rfl
  | cons r l ih => simp only [flatR, List.length_cons, ih]; omega
theorem flatR_get (l : List (Int × Int)) (j : Nat) (hj : j < l.length) : (flatR l)[j * 2]? = some (.int .i64 l[j].1) ∧ (flatR l)[j * 2 + 1]? = some (.int .i64 l[j].2) := by
  induction l generalizing j with
  | nil => simp at hj
  | cons r l ih =>
    cases j with
    | zero => simp [flatR]
    | succ j =>
      have := ih j (by simpa using hj)
      rw [show (j + 1) * 2 = j * 2 + 1 + 1 by omega]
      simpa [flatR] using this
theorem flatR_append (a b : List (Int × Int)) : flatR (a ++ b) = flatR a ++ flatR b := by
  induction a with
  | nil => rfl
  | cons r a ih => simp [flatR, ih]
/-- v reads as the rationals l. -/
def Rats (w : World) (v : Value) (l : List (Int × Int)) : Prop := RowAt w 2 v l.length (flatR l)
theorem Rats.keep {w w' : World} {v : Value} {l : List (Int × Int)} (h : Rats w v l) (hb : Below w.heap.size w w') : Rats w' v l := RowAt.keep h hb
theorem Rats.at_ {w : World} {v : Value} {l : List (Int × Int)} (h : Rats w v l) : ∃ A c, v = .slice A l.length c ∧ l.length ≤ 9223372036854775807 ∧
    (0 < l.length → ∃ b off, A = some ⟨b, off, none⟩ ∧ ∀ j (hj : j < l.length), w.cell? ⟨b, off + j * 2, none⟩ = some (.int .i64 l[j].1) ∧ w.cell? ⟨b, off + j * 2 + 1, none⟩ = some (.int .i64 l[j].2)) := by
  obtain ⟨A, c, rfl, hc, hx, hi⟩ := h
  refine ⟨A, c, rfl, hc, fun hk => ?_⟩
  obtain ⟨b, off, rfl, hcell⟩ := hi (by omega)
  exact ⟨b, off, rfl, fun j hj => ⟨hcell _ _ (flatR_get l j hj).1, hcell _ _ (flatR_get l j hj).2⟩⟩
theorem Rats.form {w : World} {v : Value} {l : List (Int × Int)} (h : Rats w v l) : ∃ A c, v = .slice A l.length c := by
  obtain ⟨A, c, e, _⟩ := h.at_
  exact ⟨A, c, e⟩

/-- two rationals differ -/
def neR (x y x' y' : Int) : Bool := !((x, y) == (x', y'))
theorem neR_pair (p q : Int × Int) : neR p.1 p.2 q.1 q.2 = !(p == q) := rfl
theorem beq_pair (x y x' y' : Int) : ((x, y) == (x', y')) = (x == x' && y == y') := rfl
theorem neqRat (w : World) (x y x' y' : Int) : (binOp .neq 63 (.agg #[.int .i64 x, .int .i64 y]) (.agg #[.int .i64 x', .int .i64 y'])).run Try.prog w = .ok (.bool (neR x y x' y')) w := by
  unfold neR
  rw [beq_pair]
  simp [go_sem]
  by_cases h : x = x' <;> by_cases h' : y = y' <;> simp [h, h']
section
attribute [-go_sem] run_neq_struct
attribute [local go_sem] neqRat

set_option maxHeartbeats 400000 in
theorem specEqualRationals_c (va vb : Value) (a b : List (Int × Int)) (w : World) (ha : Rats w va a) (hb : Rats w vb b) :
    Calls Try.prog 42 #[va, vb] w fun e w' => e = .returned (.bool (a == b)) ∧ Same w w' := by
  obtain ⟨A, ca, rfl, hca, ha⟩ := ha.at_
  obtain ⟨B, cb, rfl, hcb, hb⟩ := hb.at_
  by_cases hlen : a.length = b.length
  · have hne : ((a.length : Int) != (b.length : Int)) = false := by simp [hlen]
    have hle : a.length ≤ b.length := by omega
    have HL := Lib.hid hlen; clear hlen
    go_enter Try.func42, Try.ntmps42
    go_wp2
    go_loopw [5] (fun i wr => ∃ k : Nat, k ≤ a.length ∧ i = .int .i64 k ∧ a.take k = b.take k ∧ Same w wr) (fun i _ => a.length - (intOf i).toNat)
    case atStart => exact ⟨0, by omega, rfl, by simp, Same.refl _⟩
    case round =>
      obtain ⟨k, hk, rfl, htk, hsm⟩ := hrel
      have HT := Lib.hid htk; clear htk
      by_cases hlt : k < a.length
      · obtain ⟨ba, oa, rfl, hA⟩ := ha (by omega)
        obtain ⟨bb, ob, rfl, hB⟩ := hb (by omega)
        have ga := (hsm.cell _).trans (hA k (by omega)).1
        have gb := (hsm.cell _).trans (hB k (by omega)).1
        have ga' := (hsm.cell _).trans (hA k (by omega)).2
        have gb' := (hsm.cell _).trans (hB k (by omega)).2
        have hlt' : k < b.length := by omega
        clear hA hB
        go_wp2
        go_quiet (fail)
        go_wp2
        · have hd : neR a[k].1 a[k].2 b[k].1 b[k].2 = true := by assumption
          go_ret
          exact ⟨ret_bool (ne_of_getElem hlt hlt' (by rw [neR_pair] at hd; simpa using hd)).symm, hsm.drewN _⟩
        · have hd : neR a[k].1 a[k].2 b[k].1 b[k].2 = false := by assumption
          refine ⟨⟨k + 1, by omega, by go_num, take_snoc_eq hlt hlt' HT.out (by rw [neR_pair] at hd; simpa using hd), hsm.drewN _⟩, by simp [intOf]; omega⟩
      · go_wp2
        go_ret
        have e : k = a.length := by omega
        subst e
        exact ⟨ret_bool (eq_of_take HL.out HT.out).symm, hsm⟩
  · have hne : ((a.length : Int) != (b.length : Int)) = true := by rw [bne_iff_ne]; omega
    have HL := Lib.hid hlen; clear hlen
    go_enter Try.func42, Try.ntmps42
    go_wp2
    go_ret
    exact ⟨ret_bool (ne_of_length HL.out).symm, Same.refl _⟩

set_option maxHeartbeats 400000 in
theorem implEqualRationals_c (va vb : Value) (a b : List (Int × Int)) (w : World) (ha : Rats w va a) (hb : Rats w vb b) :
    Calls Try.prog 45 #[va, vb] w fun e w' => e = .returned (.bool (a == b)) ∧ Same w w' := by
  obtain ⟨A, ca, rfl, hca, ha⟩ := ha.at_
  obtain ⟨B, cb, rfl, hcb, hb⟩ := hb.at_
  by_cases hlen : a.length = b.length
  · have hne : ((a.length : Int) != (b.length : Int)) = false := by simp [hlen]
    have hle : a.length ≤ b.length := by omega
    have HL := Lib.hid hlen; clear hlen
    go_enter Try.func45, Try.ntmps45
    go_wp2
    go_loopw [5, 13] (fun _ i wr => ∃ k : Nat, k ≤ a.length ∧ i = .int .i64 k ∧ a.take k = b.take k ∧ Same w wr) (fun _ i _ => a.length - (intOf i).toNat)
    case atStart => exact ⟨0, by omega, rfl, by simp, Same.refl _⟩
    case round =>
      obtain ⟨k, hk, rfl, htk, hsm⟩ := hrel
      have HT := Lib.hid htk; clear htk
      by_cases hlt : k < a.length
      · obtain ⟨ba, oa, rfl, hA⟩ := ha (by omega)
        obtain ⟨bb, ob, rfl, hB⟩ := hb (by omega)
        have ga := (hsm.cell _).trans (hA k (by omega)).1
        have gb := (hsm.cell _).trans (hB k (by omega)).1
        have ga' := (hsm.cell _).trans (hA k (by omega)).2
        have gb' := (hsm.cell _).trans (hB k (by omega)).2
        have hlt' : k < b.length := by omega
        clear hA hB
        go_wp2
        go_quiet (fail)
        go_wp2
        · have hd : neR a[k].1 a[k].2 b[k].1 b[k].2 = true := by assumption
          go_ret
          exact ⟨ret_bool (ne_of_getElem hlt hlt' (by rw [neR_pair] at hd; simpa using hd)).symm, hsm.drewN _⟩
        · have hd : neR a[k].1 a[k].2 b[k].1 b[k].2 = false := by assumption
          refine ⟨⟨k + 1, by omega, by go_num, take_snoc_eq hlt hlt' HT.out (by rw [neR_pair] at hd; simpa using hd), hsm.drewN _⟩, by simp [intOf]; omega⟩
      · go_wp2
        go_ret
        have e : k = a.length := by omega
        subst e
        exact ⟨ret_bool (eq_of_take HL.out HT.out).symm, hsm⟩
  · have hne : ((a.length : Int) != (b.length : Int)) = true := by rw [bne_iff_ne]; omega
    have HL := Lib.hid hlen; clear hlen
    go_enter Try.func45, Try.ntmps45
    go_wp2
    go_ret
    exact ⟨ret_bool (ne_of_length HL.out).symm, Same.refl _⟩

end

end Go.Proofs.Ytnijkpbecgifjaa
