/-
  Plain laws on the printed functions' loops. Over no program; no conditions.
-/
import Derived.Test.YtkmkbpphdalgoaaGr
namespace Go.Proofs.Ytkmkbpphdalgoaa
open Go.RowKit
/-- a loop that goes on n times and then ends -/
theorem loop_to {S O : Type} {body : (S → Option O) → S → Option O} {out : O} (f : Nat → S) : ∀ (n : Nat), (∀ k, k < n → ∀ rec, body rec (f k) = rec (f (k + 1))) → (∀ rec, body rec (f n) = some out) → ∀ m, n < m → loopF body m (f 0) = some out := by
  have key : ∀ (d n : Nat), (∀ k, k < n → ∀ rec, body rec (f k) = rec (f (k + 1))) → (∀ rec, body rec (f n) = some out) → ∀ k, k + d = n → ∀ m, d < m → loopF body m (f k) = some out := by
    intro d n h1 h2
    induction d with
    | zero =>
      intro k hk m hm
      cases m with
      | zero => omega
      | succ m => rw [show k = n by omega]; exact h2 _
    | succ d ih =>
      intro k hk m hm
      cases m with
      | zero => omega
      | succ m =>
        show body (loopF body m) (f k) = some out
        rw [h1 k (by omega)]
        exact ih (k + 1) (by omega) m (by omega)
  intro n h1 h2 m hm
  exact key n n h1 h2 0 (by omega) m hm
theorem wrap_in {n : Int} (h : -9223372036854775808 ≤ n ∧ n ≤ 9223372036854775807) : IntKind.i64.wrap n = n := by
  unfold IntKind.wrap
  simp [IntKind.signed, IntKind.bits] <;> omega
theorem wrap_s {k n : Nat} (h : k < n) (hn : n ≤ maxLen) : IntKind.i64.wrap ((k : Int) + 1) = ((k + 1 : Nat) : Int) := by
  rw [wrap_in (by unfold maxLen at hn; omega)]; simp
theorem geti_nat {α : Type} (l : List α) (k : Nat) : geti l (k : Int) = l[k]? := by simp [geti]
theorem geti_at {α : Type} {l : List α} {k : Nat} (h : k < l.length) : geti l (k : Int) = some l[k] := by rw [geti_nat, List.getElem?_eq_getElem h]
theorem lt_fz {n : Nat} (h : n ≤ lim) : n < fz := by unfold lim at h; unfold fz; omega
/-- copies -/
theorem to_loop {α β : Type} {a : List α} {g : α → Option β} {h : α → β} {B : (List β × Int → Option (List β)) → List β × Int → Option (List β)} {z : β}
    (hB : ∀ rec y i, B rec (y, i) = cond (decide (i < (List.length a : Int))) (obind (geti a i) fun e => obind (g e) fun v => obind (geti y i) fun _ => rec (seti y i v, IntKind.i64.wrap (i + 1))) (some y))
    (hg : ∀ e ∈ a, g e = some (h e)) (hl : a.length ≤ lim) : loopF B fz (List.replicate (Int.toNat (List.length a : Int)) z, 0) = some (a.map h) := by
  have := loop_to (body := B) (out := a.map h) (fun k => ((a.take k).map h ++ List.replicate (a.length - k) z, (k : Int))) a.length (fun k hk rec => ?_) (fun rec => ?_) fz (lt_fz hl)
  · simpa using this
  · rw [hB]
    have h1 : (decide ((k : Int) < (List.length a : Int))) = true := by simp; omega
    have hlen : ((a.take k).map h ++ List.replicate (a.length - k) z).length = a.length := by simp; omega
    rw [h1, cond_true, geti_at hk]
    simp only [obind]
    rw [hg _ (List.getElem_mem hk)]
    simp only
    rw [geti_at (by rw [hlen]; exact hk)]
    simp only
    congr 1
    rw [wrap_s hk (lim_max hl)]
    congr 1
    unfold seti
    rw [Int.toNat_natCast]
    have h2 : ((a.take k).map h).length = k := by simp; omega
    rw [List.set_append_right _ _ (by omega), h2, Nat.sub_self, List.take_succ_eq_append_getElem hk, List.map_append]
    have h3 : a.length - k = (a.length - (k + 1)) + 1 := by omega
    rw [h3, List.replicate_succ]
    simp
  · rw [hB]
    simp
/-- comparing a list with itself -/
theorem eq_loop {α : Type} {a : List α} {g : α → α → Option Bool} {B : (Int → Option (Sum Unit Bool)) → Int → Option (Sum Unit Bool)}
    (hB : ∀ rec i, B rec i = cond (decide (i < (List.length a : Int))) (obind (geti a i) fun x => obind (geti a i) fun y => obind (g x y) fun v => cond (!v) (some (.inr false)) (rec (IntKind.i64.wrap (i + 1)))) (some (.inl ())))
    (hg : ∀ e ∈ a, g e e = some true) (hl : a.length ≤ lim) : loopF B fz 0 = some (.inl ()) := by
  refine loop_to (body := B) (fun k => (k : Int)) a.length (fun k hk rec => ?_) (fun rec => ?_) fz (lt_fz hl)
  · rw [hB]
    have h1 : (decide ((k : Int) < (List.length a : Int))) = true := by simp; omega
    rw [h1, cond_true, geti_at hk]
    simp only [obind, hg _ (List.getElem_mem hk), Bool.not_true, cond_false]
    rw [wrap_s hk (lim_max hl)]
  · rw [hB]; simp
end Go.Proofs.Ytkmkbpphdalgoaa
