/-
 When a join tree, a decomposition and a plan are valid, part 2: the reference and the program agree. On the printed functions; conditions: lengths.
-/
import Derived.Test.YtlknpohjnpnodaaGreatTwSC1
namespace Go.Proofs.YtlknpohjnpnodaaGreat
open Go.RowKit
set_option linter.unusedVariables false
set_option linter.unusedSimpArgs false
theorem Od {q : Qry} (h : LD q = true) : 1 <= q.1 ∧ q.1 <= 5 ∧ q.2.1.length <= 4 ∧ ∀ a ∈ q.2.1, a.2.length <= 5 ∧ ∀ v ∈ a.2, 0 <= v ∧ v < q.1 := by
 have e1 := MK h
 unfold LD at h
 simp only [Bool.and_eq_true, Bool.not_eq_true'] at h
 obtain ⟨h1, h2, -, h4, -⟩ := h
 have e2 : 1 <= (q.2.1.length : Int) ∧ (q.2.1.length : Int) <= 4 := by unfold btw at h2; simpa using h2
 refine ⟨e1.1, e1.2, by omega, fun a ha => ?_⟩
 obtain ⟨k, hk, rfl⟩ := List.mem_iff_getElem.1 ha
 have h5 := D6 h4 hk
 unfold Iu at h5
 simp only [Bool.or_eq_false_iff, Bool.not_eq_false'] at h5
 have e3 : 1 <= ((q.2.1[k]).2.length : Int) ∧ ((q.2.1[k]).2.length : Int) <= 5 := by have := h5.2.1; unfold btw at this; simpa using this
 refine ⟨by omega, fun v hv => ?_⟩
 obtain ⟨j, hj, rfl⟩ := List.mem_iff_getElem.1 hv
 have h6 := D6 h5.2.2 hj
 simp only [Bool.not_eq_false'] at h6
 rw [wrap_in (by omega)] at h6
 unfold btw at h6
 simp only [Bool.and_eq_true, decide_eq_true_eq] at h6
 omega
theorem WA (l : List Int) (v : Int) : decide (EP l v < 0) = !l.contains v := by
 rw [<- Ky]
 by_cases h : 0 <= EP l v
 ·rw [decide_eq_true h, decide_eq_false (by omega)]; rfl
 ·rw [decide_eq_false h, decide_eq_true (by omega)]; rfl
def fC (n : Int) (e : Int) : Bool := !btw e 0 (IntKind.i64.wrap (n - 1))
def avL (a : Atm) (k : Nat) : List Int := ((List.range k).filter fun (v : Nat) => a.2.contains (v : Int)).map fun (v : Nat) => (v : Int)
theorem aK (a : Atm) (k : Nat) : avL a (k + 1) = avL a k ++ cond (a.2.contains (k : Int)) [(k : Int)] [] := by
 unfold avL
 rw [List.range_succ, List.filter_append, List.map_append, List.filter_cons, List.filter_nil]
 cases a.2.contains (k : Int) <;> rfl
theorem JS (a : Atm) (k : Nat) : (avL a k).length <= k := by
 unfold avL
 rw [List.length_map]
 exact Nat.le_trans (List.length_filter_le _ _) (by simp)
theorem jV {a : Atm} (h : a.2.length <= lim) (hcv : ∀ v, Bj a v = some (a.2.contains v)) : DM a = some (avL a 5) := by
 unfold DM
 have := BJ (body := Cr a) (out := avL a 5) (fun k => (avL a k, (k : Int))) 5 (fun k hk rec => by
  have hl := JS a k
  unfold Cr DC
  simp only
  rw [decide_eq_true (by omega : (k : Int) < 5), hcv, wrap_in (by omega), aK]
  simp only [cond_true, DK]
  cases a.2.contains (k : Int) with
  | true => rw [cond_true, Am (by unfold lim; simp; omega)]; rfl
  | false => rw [cond_false, cond_false, List.append_nil]; rfl) (fun rec => by unfold Cr; simp only; rfl) fz (by unfold fz; omega)
 rw [show ((([] : List Int), (0 : Int))) = (avL a 0, ((0 : Nat) : Int)) from rfl, this]
 rfl
theorem XL {α : Type} (f : α -> Bool) {l : List α} {k : Nat} (hk : k < l.length) : (l.take (k + 1)).filter f = (l.take k).filter f ++ cond (f l[k]) [l[k]] [] := by
 rw [List.take_succ_eq_append_getElem hk, List.filter_append, List.filter_cons, List.filter_nil]
 cases f l[k] <;> rfl
theorem fA {a : Atm} (h : a.2.length <= lim) (v : Int) : Bj a v = some (a.2.contains v) := by
 unfold Bj
 simp only [YU h, DK]
end Go.Proofs.YtlknpohjnpnodaaGreat
