/-
  Plain laws on the printed functions' loops. Over no program; no conditions.
-/
import Derived.Test.YtkmkbpphdalgoaaGr
namespace Go.Proofs.Ytkmkbpphdalgoaa
open Go.RowKit
/-- a loop that goes on n times and then ends -/
theorem loop_to {S O : Type} {body : (S → Option O) → S → Option O} {out : O} (f : Nat → S) : ∀ (n : Nat), (∀ k, k < n → ∀ rec, body rec (f k) = rec (f (k + 1))) → (∀ rec, body rec (f n) = some out) → ∀ m, n < m → loopF body m (f 0) = some out := by
  have key : ∀ (d n : Nat), (∀ k, k < n → ∀ rec, body rec (f k) = rec (f (k + 1))) → (∀ rec, body rec (f n) = some out) → ∀ k, k + d = n → ∀ m, d < m → loopF body m (f k) = some out := by
    intro d n h1 h2
    induction d with
    | zero =>
      intro k hk m hm
      cases m with
      | zero => omega
      | succ m => rw [show k = n by omega]; exact h2 _
    | succ d ih =>
      intro k hk m hm
      cases m with
      | zero => omega
      | succ m =>
        show body (loopF body m) (f k) = some out
        rw [h1 k (by omega)]
        exact ih (k + 1) (by omega) m (by omega)
  intro n h1 h2 m hm
  exact key n n h1 h2 0 (by omega) m hm
theorem wrap_in {n : Int} (h : -9223372036854775808 ≤ n ∧ n ≤ 9223372036854775807) : IntKind.i64.wrap n = n := by
  unfold IntKind.wrap
  simp [IntKind.signed, IntKind.bits] <;> omega
theorem wrap_s {k n : Nat} (h : k < n) (hn : n ≤ maxLen) : IntKind.i64.wrap ((k : Int) + 1) = ((k + 1 : Nat) : Int) := by
  rw [wrap_in (by unfold maxLen at hn; omega)]; simp
theorem geti_nat {α : Type} (l : List α) (k : Nat) : geti l (k : Int) = l[k]? := by simp [geti]
theorem geti_at {α : Type} {l : List α} {k : Nat} (h : k < l.length) : geti l (k : Int) = some l[k] := by rw [geti_nat, List.getElem?_eq_getElem h]
theorem lt_fz {n : Nat} (h : n ≤ lim) : n < fz := by unfold lim at h; unfold fz; omega
/-- copies -/
theorem to_loop {α β : Type} {a : List α} {g : α → Option β} {h : α → β} {B : (List β × Int → Option (List β)) → List β × Int → Option (List β)} {z : β}
    (hB : ∀ rec y i, B rec (y, i) = cond (decide (i < (List.length a : Int))) (obind (geti a i) fun e => obind (g e) fun v => obind (geti y i) fun _ => rec (seti y i v, IntKind.i64.wrap (i + 1))) (some y))
    (hg : ∀ e ∈ a, g e = some (h e)) (hl : a.length ≤ lim) : loopF B fz (List.replicate (Int.toNat (List.length a : Int)) z, 0) = some (a.map h) := by
  have := loop_to (body := B) (out := a.map h) (fun k => ((a.take k).map h ++ List.replicate (a.length - k) z, (k : Int))) a.length (fun k hk rec => ?_) (fun rec => ?_) fz (lt_fz hl)
  · simpa using this
  · rw [hB]
    have h1 : (decide ((k : Int) < (List.length a : Int))) = true := by simp; omega
    have hlen : ((a.take k).map h ++ List.replicate (a.length - k) z).length = a.length := by simp; omega
    rw [h1, cond_true, geti_at hk]
    simp only [obind]
    rw [hg _ (List.getElem_mem hk)]
    simp only
    rw [geti_at (by rw [hlen]; exact hk)]
    simp only
    congr 1
    rw [wrap_s hk (lim_max hl)]
    congr 1
    unfold seti
    rw [Int.toNat_natCast]
    have h2 : ((a.take k).map h).length = k := by simp; omega
    rw [List.set_append_right _ _ (by omega), h2, Nat.sub_self, List.take_succ_eq_append_getElem hk, List.map_append]
    have h3 : a.length - k = (a.length - (k + 1)) + 1 := by omega
    rw [h3, List.replicate_succ]
    simp
  · rw [hB]
    simp
/-- comparing a list with itself -/
theorem eq_loop {α : Type} {a : List α} {g : α → α → Option Bool} {B : (Int → Option (Sum Unit Bool)) → Int → Option (Sum Unit Bool)}
    (hB : ∀ rec i, B rec i = cond (decide (i < (List.length a : Int))) (obind (geti a i) fun x => obind (geti a i) fun y => obind (g x y) fun v => cond (!v) (some (.inr false)) (rec (IntKind.i64.wrap (i + 1)))) (some (.inl ())))
    (hg : ∀ e ∈ a, g e e = some true) (hl : a.length ≤ lim) : loopF B fz 0 = some (.inl ()) := by
  refine loop_to (body := B) (fun k => (k : Int)) a.length (fun k hk rec => ?_) (fun rec => ?_) fz (lt_fz hl)
  · rw [hB]
    have h1 : (decide ((k : Int) < (List.length a : Int))) = true := by simp; omega
    rw [h1, cond_true, geti_at hk]
    simp only [obind, hg _ (List.getElem_mem hk), Bool.not_true, cond_false]
    rw [wrap_s hk (lim_max hl)]
  · rw [hB]; simp
theorem chk_pos {α : Type} {p : Prop} [Decidable p] {x : Option α} (h : p) : chk p x = x := by unfold chk; rw [if_pos h]
theorem make_ok {n : Nat} (h : n ≤ lim) : (0 : Int) ≤ (n : Int) ∧ Int.toNat (n : Int) ≤ lim := by rw [Int.toNat_natCast]; exact ⟨by omega, h⟩
theorem sm_lim {n : Nat} (h : n ≤ 1048576) : n ≤ lim := by unfold lim; omega
/-- what a size check leaves -/
def SzR (left : Int) (s : Option Int) (sm : Prop) : Prop := ∃ v, s = some v ∧ (v < 0 ∨ (v ≤ left ∧ 0 ≤ v ∧ sm))
theorem sz_w {n : Nat} {left : Int} (h : 0 ≤ left ∧ left ≤ 1048576) (hn : n ≤ maxLen) : ∃ v, IntKind.i64.wrap (left - (n : Int)) = v ∧ (v < 0 ∨ (v ≤ left ∧ 0 ≤ v ∧ n ≤ 1048576)) := by
  rw [wrap_in (by unfold maxLen at hn; omega)]
  refine ⟨_, rfl, ?_⟩
  by_cases hl : left - (n : Int) < 0
  · exact .inl hl
  · exact .inr ⟨by omega, by omega, by omega⟩
theorem sz_len {n : Nat} {left : Int} (h : 0 ≤ left ∧ left ≤ 1048576) (hn : n ≤ maxLen) : SzR left (cond (decide ((IntKind.i64.wrap (left - (n : Int))) < 0)) (some (-1)) (some (IntKind.i64.wrap (left - (n : Int))))) (n ≤ 1048576) := by
  obtain ⟨v, e, p⟩ := sz_w h hn
  rw [e]
  rcases p with p | p
  · rw [decide_eq_true p]; exact ⟨-1, rfl, .inl (by omega)⟩
  · rw [decide_eq_false (by omega : ¬ v < 0)]; exact ⟨v, rfl, .inr p⟩
theorem sz_list {α : Type} {a : List α} {g : α → Int → Option Int} {sm : α → Prop} {B : (Int × Int → Option (Sum Int Int)) → Int × Int → Option (Sum Int Int)}
    (hB : ∀ rec l i, B rec (l, i) = cond (decide (i < (List.length a : Int))) (obind (geti a i) fun e => obind (g e l) fun v => cond (decide (v < 0)) (some (.inr (-1))) (rec (v, IntKind.i64.wrap (i + 1)))) (some (.inl l)))
    (hg : ∀ e ∈ a, ∀ left, 0 ≤ left ∧ left ≤ 1048576 → SzR left (g e left) (sm e)) {left : Int} (h : 0 ≤ left ∧ left ≤ 1048576) (hn : a.length ≤ maxLen) :
    SzR left (cond (decide ((IntKind.i64.wrap (left - (List.length a : Int))) < 0)) (some (-1)) (obind (loopF B fz (IntKind.i64.wrap (left - (List.length a : Int)), 0)) fun o => (match o with
      | .inl z => some z
      | .inr r => some r))) (a.length ≤ 1048576 ∧ ∀ e ∈ a, sm e) := by
  obtain ⟨v, e, p⟩ := sz_w h hn
  rw [e]
  rcases p with p | ⟨p1, p2, p3⟩
  · rw [decide_eq_true p]; exact ⟨-1, rfl, .inl (by omega)⟩
  rw [decide_eq_false (by omega : ¬ v < 0), cond_false]
  have key : ∀ d k l, k + d = a.length → 0 ≤ l ∧ l ≤ v → (∀ e ∈ a.take k, sm e) → ∀ m, d < m → ∃ o, loopF B m (l, (k : Int)) = some o ∧ (o = .inr (-1) ∨ ∃ z, o = .inl z ∧ 0 ≤ z ∧ z ≤ v ∧ ∀ e ∈ a, sm e) := by
    intro d
    induction d with
    | zero =>
      intro k l hk hl hs m hm
      cases m with
      | zero => omega
      | succ m =>
        refine ⟨.inl l, ?_, .inr ⟨l, rfl, hl.1, hl.2, ?_⟩⟩
        · show B (loopF B m) (l, (k : Int)) = _
          rw [hB]
          rw [decide_eq_false (by omega : ¬ (k : Int) < (List.length a : Int))]
          rfl
        · rw [List.take_of_length_le (by omega)] at hs; exact hs
    | succ d ih =>
      intro k l hk hl hs m hm
      cases m with
      | zero => omega
      | succ m =>
        have hlt : k < a.length := by omega
        obtain ⟨u, e1, q⟩ := hg a[k] (List.getElem_mem hlt) l (by omega)
        have hstep : loopF B (m + 1) (l, (k : Int)) = cond (decide (u < 0)) (some (.inr (-1))) (loopF B m (u, ((k + 1 : Nat) : Int))) := by
          show B (loopF B m) (l, (k : Int)) = _
          rw [hB, decide_eq_true (by omega : (k : Int) < (List.length a : Int)), cond_true, geti_at hlt]
          simp only [obind, e1, wrap_s hlt hn]
        rcases q with q | ⟨q1, q2, q3⟩
        · exact ⟨.inr (-1), by rw [hstep, decide_eq_true q]; rfl, .inl rfl⟩
        · rw [hstep, decide_eq_false (by omega : ¬ u < 0), cond_false]
          exact ih (k + 1) u (by omega) (by omega) (fun e he => by
            rw [List.take_succ_eq_append_getElem hlt] at he
            rcases List.mem_append.1 he with he | he
            · exact hs e he
            · rw [List.mem_singleton.1 he]; exact q3) m (by omega)
  obtain ⟨o, e2, q⟩ := key a.length 0 v (by omega) (by omega) (by simp) fz (lt_fz (sm_lim p3))
  have e3 : loopF B fz (v, 0) = some o := by simpa using e2
  rw [e3]
  rcases q with rfl | ⟨z, rfl, q1, q2, q3⟩
  · exact ⟨-1, rfl, .inl (by omega)⟩
  · exact ⟨z, rfl, .inr ⟨by omega, q1, p3, q3⟩⟩
end Go.Proofs.Ytkmkbpphdalgoaa
