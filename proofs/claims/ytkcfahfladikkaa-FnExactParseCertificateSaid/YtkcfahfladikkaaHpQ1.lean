/-
  The laws' copies, comparisons and size checks on typed data, printed by genlaw.py. No conditions.
-/
import Derived.Test.YtkcfahfladikkaaHlQ1
import Derived.Test.YtkcfahfladikkaaTyQ1
namespace Go.Proofs.Ytkcfahfladikkaa
open Go.RowKit
set_option linter.unusedVariables false
set_option linter.unusedSimpArgs false
def sm_IntS (a : List Int) : Prop := List.length a ≤ 1048576
def tz_IntS (a : List Int) : Nat := List.length a
theorem eq_IntS {a : List Int} (h : sm_IntS a) : laws_eqIntS a a = some true := by
  unfold laws_eqIntS
  rw [eq_loop (B := laws_eqIntS_B1 a a) (a := a) (g := (fun x y => some (x == y))) (fun _ _ => rfl) (fun _ _ => by simp) (sm_lim (show _ from h))]
  simp [obind]
theorem eq_Rational {a : Y214} : laws_eqRational a a = some true := by
  simp [laws_eqRational, obind]
def sm_RationalS (a : List Y214) : Prop := List.length a ≤ 1048576
def tz_RationalS (a : List Y214) : Nat := List.length a
theorem eq_RationalS {a : List Y214} (h : sm_RationalS a) : laws_eqRationalS a a = some true := by
  unfold laws_eqRationalS
  rw [eq_loop (B := laws_eqRationalS_B1 a a) (a := a) (g := laws_eqRational) (fun _ _ => rfl) (fun e he => eq_Rational) (sm_lim (show _ from h))]
  simp [obind]
def sm_Certificate (a : Y58) : Prop := sm_IntS a.1 ∧ sm_RationalS a.2.1 ∧ sm_IntS a.2.2.1
def tz_Certificate (a : Y58) : Nat := tz_IntS a.1 + tz_RationalS a.2.1 + tz_IntS a.2.2.1
theorem eq_Certificate {a : Y58} (h : sm_Certificate a) : laws_eqCertificate a a = some true := by
  simp [laws_eqCertificate, eq_IntS (h.1), eq_RationalS (h.2.1), eq_IntS (h.2.2), obind]
theorem cb_IntS {a : List Int} (h : sm_IntS a) : ce25 a ≤ 1048576 := Nat.le_trans (cntL_le (C := 1048576) (B := 1) a (show _ from h) (fun x hx => (Nat.le_refl 1))) (by decide)
theorem cb_Rational {a : Y214} : ce215 a ≤ 2 := by
  unfold ce215
  omega
theorem cb_RationalS {a : List Y214} (h : sm_RationalS a) : ce57 a ≤ 2097152 := Nat.le_trans (cntL_le (C := 1048576) (B := 2) a (show _ from h) (fun x hx => (cb_Rational))) (by decide)
theorem cb_Certificate {a : Y58} (h : sm_Certificate a) : ce59 a ≤ 4194306 := by
  have b0 := cb_IntS (a := a.1) h.1
  have b1 := cb_RationalS (a := a.2.1) h.2.1
  have b2 := cb_IntS (a := a.2.2.1) h.2.2
  unfold ce59
  omega
theorem cbs_Certificate {a : Y58} (h : sm_Certificate a) : cs59 a ≤ 4194304 := by
  have b0 := cb_IntS (a := a.1) h.1
  have b1 := cb_RationalS (a := a.2.1) h.2.1
  have b2 := cb_IntS (a := a.2.2.1) h.2.2
  unfold cs59
  omega
theorem hd_IntS {x : List Int} {k : Int} (h : sm_IntS x) (h0 : 0 ≤ k) (h1 : k + (ce25 x : Int) ≤ mB) : laws_heldIntS (me25 x k) k = some (k + (ce25 x : Int)) := by
  have hm : mB ≤ 9223372036854775000 := by unfold mB; omega
  unfold laws_heldIntS me25 ce25
  rw [held_loop (cnt := oneI) (mk := markI) (B := laws_heldIntS_B1 (mkL oneI markI x k)) (sm_lim (show _ from h)) h0 h1 (fun rec x y i hx hy hy2 hi hg => ?_) (fun rec y => ?_)]
  · rfl
  · have c1 : oneI x = 1 := rfl
    have e0 : y = y := by omega
    have em : markI x y = y := e0
    rw [em] at hg
    have w0 : IntKind.i64.wrap (y + 1) = y + 1 := wrap_in (by omega)
    have i0 : IntKind.i64.wrap (y) = y := wrap_in (by omega)
    have eT : y + 1 = y + (oneI x : Int) := by omega
    simp only [laws_heldIntS_B1, decide_eq_true hi, hg, cond_true, obind, beq_self_eq_true, Bool.not_true, cond_false, bne_self_eq_false, w0, i0]
    all_goals rw [eT]
  · simp [laws_heldIntS_B1]
theorem hd_RationalS {x : List Y214} {k : Int} (h : sm_RationalS x) (h0 : 0 ≤ k) (h1 : k + (ce57 x : Int) ≤ mB) : laws_heldRationalS (me57 x k) k = some (k + (ce57 x : Int)) := by
  have hm : mB ≤ 9223372036854775000 := by unfold mB; omega
  unfold laws_heldRationalS me57 ce57
  rw [held_loop (cnt := ce215) (mk := me215) (B := laws_heldRationalS_B1 (mkL ce215 me215 x k)) (sm_lim (show _ from h)) h0 h1 (fun rec x y i hx hy hy2 hi hg => ?_) (fun rec y => ?_)]
  · rfl
  · have c215_0 : ce215 x = 1 + 1 := rfl
    have e0 : y = y := by omega
    have e1 : y + ((1 : Nat) : Int) = y + 1 := by omega
    have em : me215 x y = (y, y + 1) := (mk2 e0 e1)
    rw [em] at hg
    have w0 : IntKind.i64.wrap (y + 1) = y + 1 := wrap_in (by omega)
    have i0 : IntKind.i64.wrap (y) = y := wrap_in (by omega)
    have w1 : IntKind.i64.wrap (y + 1 + 1) = y + 1 + 1 := wrap_in (by omega)
    have i1 : IntKind.i64.wrap (y + 1) = y + 1 := wrap_in (by omega)
    have eT : y + 1 + 1 = y + (ce215 x : Int) := by omega
    simp only [laws_heldRationalS_B1, decide_eq_true hi, hg, cond_true, obind, beq_self_eq_true, Bool.not_true, cond_false, bne_self_eq_false, w0, i0, w1, i1]
    all_goals rw [eT]
  · simp [laws_heldRationalS_B1]
theorem hd_Certificate {x : Y58} {k : Int} (h : sm_Certificate x) (h0 : 0 ≤ k) (h1 : k + (cs59 x : Int) ≤ mB) : laws_heldCertificate (ms59 x k) k = some (k + (cs59 x : Int)) := by
  have hc : cs59 x = ce25 x.1 + ce57 x.2.1 + ce25 x.2.2.1 := rfl
  have r0 := hd_IntS (x := x.1) (k := k) h.1 (by omega) (by omega)
  have u0 : decide (k + ((ce25 x.1 : Nat) : Int) < 0) = false := decide_eq_false (by omega)
  have r1 := hd_RationalS (x := x.2.1) (k := k + ((ce25 x.1 : Nat) : Int)) h.2.1 (by omega) (by omega)
  have u1 : decide (k + ((ce25 x.1 : Nat) : Int) + ((ce57 x.2.1 : Nat) : Int) < 0) = false := decide_eq_false (by omega)
  have r2 := hd_IntS (x := x.2.2.1) (k := k + ((ce25 x.1 : Nat) : Int) + ((ce57 x.2.1 : Nat) : Int)) h.2.2 (by omega) (by omega)
  have u2 : decide (k + ((ce25 x.1 : Nat) : Int) + ((ce57 x.2.1 : Nat) : Int) + ((ce25 x.2.2.1 : Nat) : Int) < 0) = false := decide_eq_false (by omega)
  have eT : k + ((ce25 x.1 : Nat) : Int) + ((ce57 x.2.1 : Nat) : Int) + ((ce25 x.2.2.1 : Nat) : Int) = k + (cs59 x : Int) := by omega
  simp only [laws_heldCertificate, ms59, obind, cond_false, r0, u0, r1, u1, r2, u2]
  all_goals rw [eT]
end Go.Proofs.Ytkcfahfladikkaa
