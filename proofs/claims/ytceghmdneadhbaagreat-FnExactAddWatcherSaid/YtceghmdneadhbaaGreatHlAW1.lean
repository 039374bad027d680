/-
  What is marked is held: lists, relations. No conditions.
-/
import Derived.Test.YtceghmdneadhbaaGreatGenAW1
import Derived.Test.YtceghmdneadhbaaGreatMfAW1
namespace Go.Proofs.YtceghmdneadhbaaGreat
open Go.RowKit
set_option linter.unusedVariables false
set_option linter.unusedSimpArgs false
theorem mkL_get {α : Type} {cnt : α → Nat} {mk : α → Int → α} : ∀ (l : List α) (k : Int) (j : Nat) (hj : j < l.length), (mkL cnt mk l k)[j]? = some (mk l[j] (k + (cntL cnt (l.take j) : Int)))
  | [], _, j, hj => by simp at hj
  | x :: l, k, 0, hj => by simp [mkL, cntL]
  | x :: l, k, j + 1, hj => by
    rw [mkL, List.getElem?_cons_succ, mkL_get l _ j (by simpa using hj)]
    simp only [List.getElem_cons_succ, List.take_succ_cons, cntL]
    congr 2
    omega
theorem cntL_app {α : Type} {cnt : α → Nat} : ∀ (a b : List α), cntL cnt (a ++ b) = cntL cnt a + cntL cnt b
  | [], b => by simp [cntL]
  | x :: a, b => by rw [List.cons_append, cntL, cntL, cntL_app a b]; omega
theorem cntL_take {α : Type} {cnt : α → Nat} (l : List α) (j : Nat) : cntL cnt (l.take j) ≤ cntL cnt l := by
  have := cntL_app (cnt := cnt) (l.take j) (l.drop j)
  rw [List.take_append_drop] at this
  omega
theorem cntL_s {α : Type} {cnt : α → Nat} (l : List α) (j : Nat) (hj : j < l.length) : cntL cnt (l.take (j + 1)) = cntL cnt (l.take j) + cnt l[j] := by
  rw [List.take_succ_eq_append_getElem hj, cntL_app]; simp [cntL]
theorem cntL_tz {α : Type} {cnt tz : α → Nat} {c : Nat} (h : ∀ x, cnt x ≤ 64 * tz x + c) (hc : c ≤ 64) : ∀ (l : List α), cntL cnt l ≤ 64 * (l.length + tzL tz l)
  | [] => by simp [cntL]
  | x :: l => by
    have h1 := h x
    have h2 := cntL_tz h hc l
    rw [cntL, List.length_cons, tzL]; omega
theorem cntL_tz0 {α : Type} {cnt : α → Nat} {c : Nat} (h : ∀ x, cnt x ≤ c) (hc : c ≤ 64) : ∀ (l : List α), cntL cnt l ≤ 64 * l.length
  | [] => by simp [cntL]
  | x :: l => by
    have h1 := h x
    have h2 := cntL_tz0 h hc l
    rw [cntL, List.length_cons]; omega
/-- a list that was marked is held -/
theorem held_loop {α : Type} {cnt : α → Nat} {mk : α → Int → α} {l : List α} {k : Int} {B : (Int × Int → Option (Sum Int Int)) → Int × Int → Option (Sum Int Int)} (hl : l.length ≤ lim) (h0 : 0 ≤ k) (h1 : k + (cntL cnt l : Int) ≤ mB)
    (hB : ∀ rec (x : α) (y i : Int), x ∈ l → 0 ≤ y → y + (cnt x : Int) ≤ mB → i < ((mkL cnt mk l k).length : Int) → geti (mkL cnt mk l k) i = some (mk x y) → B rec (y, i) = rec (y + (cnt x : Int), IntKind.i64.wrap (i + 1)))
    (hE : ∀ rec (y : Int), B rec (y, ((mkL cnt mk l k).length : Int)) = some (.inl y)) : loopF B fz (k, 0) = some (.inl (k + (cntL cnt l : Int))) := by
  have := loop_to (body := B) (out := .inl (k + (cntL cnt l : Int))) (fun j => (k + (cntL cnt (l.take j) : Int), (j : Int))) l.length (fun j hj rec => ?_) (fun rec => ?_) fz (lt_fz hl)
  · simpa [cntL] using this
  · have hs := cntL_s (cnt := cnt) l j hj
    have ht := cntL_take (cnt := cnt) l (j + 1)
    rw [hB rec l[j] _ _ (List.getElem_mem hj) (by omega) (by omega) (by rw [mkL_length]; omega) (by rw [geti_nat]; exact mkL_get l k j hj)]
    rw [wrap_s hj (lim_max hl), hs]
    congr 2
    omega
  · have := hE rec (k + (cntL cnt (l.take l.length) : Int))
    rw [mkL_length] at this
    rw [this, List.take_length]
theorem mk2 {α β : Type} {a a' : α} {b b' : β} (h : a = a') (g : b = b') : (a, b) = (a', b') := by rw [h, g]
end Go.Proofs.YtceghmdneadhbaaGreat
