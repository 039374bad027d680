/-
 The text of a mark. No conditions.
-/
import Derived.Test.YtpcbnmcfplioeaaGreatKd
import Derived.Test.YtpcbnmcfplioeaaGreatGMNC1
namespace Go.Proofs.YtpcbnmcfplioeaaGreat
open Go.RowKit
set_option linter.unusedVariables false
def mtx (k : Int) : List UInt8 := (EI k).getD []
theorem Vu : ∀ (n : Nat) (k : Int) (u : List UInt8),0 <= k -> k < 10 ^ n -> k <= 9223372036854775000 -> u.length + n <= 100 -> ∀ m,n < m -> ∃ z,Ao Ew m (k,u) = some z ∧ z.length <= u.length + n
 | n,k,u,h0,hk,hkB,hu,m,hm => by
  cases m with
  | zero => omega
  | succ m =>
   show ∃ z,Ew (Ao Ew m) (k,u) = some z ∧ _
   have hE : ∀ rec,Ew rec (k,u) = cond (decide (0 < k)) (chk (List.length (bytesOf [IntKind.u8.wrap (IntKind.i64.wrap (48 + (Int.tmod k 10)))]) + List.length u <= lim) (rec ((IntKind.i64.wrap (Int.tdiv k 10)),((bytesOf [IntKind.u8.wrap (IntKind.i64.wrap (48 + (Int.tmod k 10)))]) ++ u)))) (some u) := fun _ => rfl
   rw [hE]
   by_cases hp : 0 < k
   ·cases n with
    | zero => simp at hk; omega
    | succ n =>
     have hd : k.tdiv 10 = k / 10 := Int.tdiv_eq_ediv_of_nonneg h0
     have hb : k / 10 < 10 ^ n := by
      rw [Int.pow_succ] at hk
      omega
     have hw : IntKind.i64.wrap (k.tdiv 10) = k / 10 := by
      rw [hd,wrap_in]
      omega
     rw [decide_eq_true hp,cond_true,Ap (by simp [bytesOf]; unfold lim; omega),hw]
     obtain ⟨z,e,hz⟩ := Vu n (k / 10) (bytesOf [IntKind.u8.wrap (IntKind.i64.wrap (48 + k.tmod 10))] ++ u) (by omega) hb (by omega) (by simp [bytesOf]; omega) m (by omega)
     exact ⟨z,e,by simp [bytesOf] at hz; omega⟩
   ·rw [decide_eq_false hp]
    exact ⟨u,rfl,by omega⟩
theorem ae {k : Int} (h0 : 0 <= k) (h1 : k <= mB) : EI k = some (mtx k) ∧ (mtx k).length <= 100 := by
 have key : ∃ z,EI k = some z ∧ z.length <= 100 := by
  unfold EI
  by_cases hp : k <= 0
  ·rw [decide_eq_true hp]; exact ⟨_,rfl,by simp⟩
  ·rw [decide_eq_false hp,cond_false]
   unfold mB at h1
   obtain ⟨z,e,hz⟩ := Vu 20 k [] (by omega) (by omega) (by omega) (by simp) fz (by unfold fz; omega)
   rw [e]
   simp only [Ad]
   simp only [List.length_nil,Nat.zero_add] at hz
   rw [Ap (by simp; unfold lim; omega)]
   exact ⟨_,rfl,by simp; omega⟩
 obtain ⟨z,e,hz⟩ := key
 have : mtx k = z := by unfold mtx; rw [e]; rfl
 rw [this]; exact ⟨e,hz⟩
theorem X1 {k : Int} (h0 : 0 <= k) (h1 : k + 1 <= mB) : (mtx k).length <= maxLen := by
 have := (ae h0 (by omega)).2
 unfold maxLen; omega
theorem bO : Km Tryz.prog 173 := G9 bI
theorem Tl {k : Int} (h0 : 0 <= k) (h1 : k + 1 <= mB) (w : World) : Calls Tryz.prog 173 #[.int .i64 k] w (fun e w' => e = .returned (.string ⟨(mtx k).toArray⟩) ∧ Below w.heap.size w w') :=
 YY (JK (ae h0 (by omega)).1) w
def dX (_ : Int) : Nat := 1
def XX (_ : Int) (k : Int) : Int := k
def pN (_ : List UInt8) : Nat := 1
theorem hmI (x k : Int) : I1 mtx (As x) k = As (XX x k) := rfl
theorem hcI (x : Int) : BA (As x) = dX x := rfl
theorem hcS (x : List UInt8) : BA (cst x) = pN x := rfl
end Go.Proofs.YtpcbnmcfplioeaaGreat
