/-
  The text of a mark. No conditions.
-/
import Derived.Test.YtceghmdneadhbaaGreatKd
import Derived.Test.YtceghmdneadhbaaGreatGMAW1
namespace Go.Proofs.YtceghmdneadhbaaGreat
open Go.RowKit
set_option linter.unusedVariables false
def mtx (k : Int) : List UInt8 := (laws_markText k).getD []
theorem mtx_loop : ∀ (n : Nat) (k : Int) (u : List UInt8), 0 ≤ k → k < 10 ^ n → k ≤ 9223372036854775000 → u.length + n ≤ 100 → ∀ m, n < m → ∃ z, loopF laws_markText_B1 m (k, u) = some z ∧ z.length ≤ u.length + n
  | n, k, u, h0, hk, hkB, hu, m, hm => by
    cases m with
    | zero => omega
    | succ m =>
      show ∃ z, laws_markText_B1 (loopF laws_markText_B1 m) (k, u) = some z ∧ _
      have hE : ∀ rec, laws_markText_B1 rec (k, u) = cond (decide (0 < k)) (chk (List.length (bytesOf [IntKind.u8.wrap (IntKind.i64.wrap (48 + (Int.tmod k 10)))]) + List.length u ≤ lim) (rec ((IntKind.i64.wrap (Int.tdiv k 10)), ((bytesOf [IntKind.u8.wrap (IntKind.i64.wrap (48 + (Int.tmod k 10)))]) ++ u)))) (some u) := fun _ => rfl
      rw [hE]
      by_cases hp : 0 < k
      · cases n with
        | zero => simp at hk; omega
        | succ n =>
          have hd : k.tdiv 10 = k / 10 := Int.tdiv_eq_ediv_of_nonneg h0
          have hb : k / 10 < 10 ^ n := by
            rw [Int.pow_succ] at hk
            omega
          have hw : IntKind.i64.wrap (k.tdiv 10) = k / 10 := by
            rw [hd, wrap_in]
            omega
          rw [decide_eq_true hp, cond_true, chk_pos (by simp [bytesOf]; unfold lim; omega), hw]
          obtain ⟨z, e, hz⟩ := mtx_loop n (k / 10) (bytesOf [IntKind.u8.wrap (IntKind.i64.wrap (48 + k.tmod 10))] ++ u) (by omega) hb (by omega) (by simp [bytesOf]; omega) m (by omega)
          exact ⟨z, e, by simp [bytesOf] at hz; omega⟩
      · rw [decide_eq_false hp]
        exact ⟨u, rfl, by omega⟩
theorem mtx_s {k : Int} (h0 : 0 ≤ k) (h1 : k ≤ mB) : laws_markText k = some (mtx k) ∧ (mtx k).length ≤ 100 := by
  have key : ∃ z, laws_markText k = some z ∧ z.length ≤ 100 := by
    unfold laws_markText
    by_cases hp : k ≤ 0
    · rw [decide_eq_true hp]; exact ⟨_, rfl, by simp⟩
    · rw [decide_eq_false hp, cond_false]
      unfold mB at h1
      obtain ⟨z, e, hz⟩ := mtx_loop 20 k [] (by omega) (by omega) (by omega) (by simp) fz (by unfold fz; omega)
      rw [e]
      simp only [obind]
      simp only [List.length_nil, Nat.zero_add] at hz
      rw [chk_pos (by simp; unfold lim; omega)]
      exact ⟨_, rfl, by simp; omega⟩
  obtain ⟨z, e, hz⟩ := key
  have : mtx k = z := by unfold mtx; rw [e]; rfl
  rw [this]; exact ⟨e, hz⟩
theorem mtx_len {k : Int} (h0 : 0 ≤ k) (h1 : k + 1 ≤ mB) : (mtx k).length ≤ maxLen := by
  have := (mtx_s h0 (by omega)).2
  unfold maxLen; omega
theorem mtx_hb : HasBody Tryz.prog 137 := lit_hb lit137
theorem mtx_calls {k : Int} (h0 : 0 ≤ k) (h1 : k + 1 ≤ mB) (w : World) : Calls Tryz.prog 137 #[.int .i64 k] w (fun e w' => e = .returned (.string ⟨(mtx k).toArray⟩) ∧ Below w.heap.size w w') :=
  txt_calls (laws_markText_s (mtx_s h0 (by omega)).1) w
def oneI (_ : Int) : Nat := 1
def markI (_ : Int) (k : Int) : Int := k
def oneS (_ : List UInt8) : Nat := 1
theorem hmI (x k : Int) : mkVs mtx (ci64 x) k = ci64 (markI x k) := rfl
theorem hcI (x : Int) : cntVs (ci64 x) = oneI x := rfl
theorem hcS (x : List UInt8) : cntVs (cst x) = oneS x := rfl
end Go.Proofs.YtceghmdneadhbaaGreat
