/-
  The law of FormatCertificate on typed functions. No conditions.
-/
import Derived.Test.YtkmkbpphdalgoaaLb
import Derived.Test.YtkmkbpphdalgoaaG1
import Derived.Test.YtkmkbpphdalgoaaTy1
namespace Go.Proofs.Ytkmkbpphdalgoaa
open Go.RowKit
theorem chk_pos {α : Type} {p : Prop} [Decidable p] {x : Option α} (h : p) : chk p x = x := by unfold chk; rw [if_pos h]
theorem make_ok {n : Nat} (h : n ≤ lim) : (0 : Int) ≤ (n : Int) ∧ Int.toNat (n : Int) ≤ lim := by rw [Int.toNat_natCast]; exact ⟨by omega, h⟩
theorem sm_lim {n : Nat} (h : n ≤ 1048576) : n ≤ lim := by unfold lim; omega
theorem to_IntS {a : List Int} (h : a.length ≤ 1048576) : laws_toIntS a = some a := by
  unfold laws_toIntS
  rw [chk_pos (make_ok (sm_lim h)), to_loop (a := a) (g := some) (h := id) (fun _ _ _ => rfl) (fun _ _ => rfl) (sm_lim h)]
  simp only [obind, List.map_id]
theorem to_RationalS {a : List (Int × Int)} (h : a.length ≤ 1048576) : laws_toRationalS a = some a := by
  unfold laws_toRationalS
  rw [chk_pos (make_ok (sm_lim h)), to_loop (a := a) (g := laws_toRational) (h := id) (fun _ _ _ => rfl) (fun _ _ => rfl) (sm_lim h)]
  simp only [obind, List.map_id]
theorem eq_IntS {a : List Int} (h : a.length ≤ 1048576) : laws_eqIntS a a = some true := by
  unfold laws_eqIntS
  rw [eq_loop (B := laws_eqIntS_B1 a a) (a := a) (g := fun x y => some (x == y)) (fun _ _ => rfl) (fun _ _ => by simp) (sm_lim h)]
  simp [obind]
theorem eq_RationalS {a : List (Int × Int)} (h : a.length ≤ 1048576) : laws_eqRationalS a a = some true := by
  unfold laws_eqRationalS
  rw [eq_loop (B := laws_eqRationalS_B1 a a) (a := a) (g := laws_eqRational) (fun _ _ => rfl) (fun _ _ => by simp [laws_eqRational]) (sm_lim h)]
  simp [obind]
theorem sz_len {n : Nat} {left : Int} (h : 0 ≤ left ∧ left ≤ 1048576) (hn : n ≤ maxLen) {s : Option Int} (hs : s = cond (decide ((IntKind.i64.wrap (left - (n : Int))) < 0)) (some (-1)) (some (IntKind.i64.wrap (left - (n : Int))))) : ∃ v, s = some v ∧ (v < 0 ∨ (v ≤ left ∧ 0 ≤ v ∧ n ≤ 1048576)) := by
  rw [wrap_in (by unfold maxLen at hn; omega)] at hs
  by_cases hl : left - (n : Int) < 0
  · rw [hs, decide_eq_true hl]; exact ⟨-1, rfl, .inl (by omega)⟩
  · rw [hs, decide_eq_false hl]; exact ⟨_, rfl, .inr ⟨by omega, by omega, by omega⟩⟩
theorem sz_IntS {a : List Int} {left : Int} (h : 0 ≤ left ∧ left ≤ 1048576) (hn : a.length ≤ maxLen) : ∃ v, laws_szIntS a left = some v ∧ (v < 0 ∨ (v ≤ left ∧ 0 ≤ v ∧ a.length ≤ 1048576)) := sz_len h hn rfl
theorem sz_RationalS {a : List (Int × Int)} {left : Int} (h : 0 ≤ left ∧ left ≤ 1048576) (hn : a.length ≤ maxLen) : ∃ v, laws_szRationalS a left = some v ∧ (v < 0 ∨ (v ≤ left ∧ 0 ≤ v ∧ a.length ≤ 1048576)) := sz_len h hn rfl
abbrev Cert := List Int × List (Int × Int) × List Int × Int × Int
def smCert (a : Cert) : Prop := a.1.length ≤ 1048576 ∧ a.2.1.length ≤ 1048576 ∧ a.2.2.1.length ≤ 1048576
theorem sz_Certificate {a : Cert} {left : Int} (h : 0 ≤ left ∧ left ≤ 1048576) (h0 : a.1.length ≤ maxLen) (h1 : a.2.1.length ≤ maxLen) (h2 : a.2.2.1.length ≤ maxLen) : ∃ v, laws_szCertificate a left = some v ∧ (v < 0 ∨ (v ≤ left ∧ 0 ≤ v ∧ smCert a)) := by
  unfold laws_szCertificate
  obtain ⟨v0, e0, p0⟩ := sz_IntS h h0
  rw [e0]; simp only [obind]
  rcases p0 with p0 | ⟨p0, q0, s0⟩
  · rw [decide_eq_true p0]; exact ⟨-1, rfl, .inl (by omega)⟩
  rw [decide_eq_false (by omega : ¬ v0 < 0)]
  obtain ⟨v1, e1, p1⟩ := sz_RationalS (a := a.2.1) (left := v0) (by omega) h1
  rw [e1]; simp only [cond_false]
  rcases p1 with p1 | ⟨p1, q1, s1⟩
  · rw [decide_eq_true p1]; exact ⟨-1, rfl, .inl (by omega)⟩
  rw [decide_eq_false (by omega : ¬ v1 < 0)]
  obtain ⟨v2, e2, p2⟩ := sz_IntS (a := a.2.2.1) (left := v1) (by omega) h2
  rw [e2]; simp only [cond_false]
  rcases p2 with p2 | ⟨p2, q2, s2⟩
  · rw [decide_eq_true p2]; exact ⟨-1, rfl, .inl (by omega)⟩
  rw [decide_eq_false (by omega : ¬ v2 < 0)]
  exact ⟨v2, rfl, .inr ⟨by omega, q2, s0, s1, s2⟩⟩
theorem to_Certificate {a : Cert} (h : smCert a) : laws_toCertificate a = some a := by
  unfold laws_toCertificate
  simp only [to_IntS h.1, to_RationalS h.2.1, to_IntS h.2.2, obind]
theorem eq_Certificate {a : Cert} (h : smCert a) : laws_eqCertificate a a = some true := by
  unfold laws_eqCertificate
  simp [eq_IntS h.1, eq_RationalS h.2.1, eq_IntS h.2.2, obind]
theorem law_FormatCertificate {a : Cert} (k : ok33 a) : laws_FnExactFormatCertificate a = some true := by
  obtain ⟨k0, k1, k2, k3, k4⟩ := k
  unfold laws_FnExactFormatCertificate
  obtain ⟨v, e, p⟩ := sz_Certificate (a := a) (left := 1048576) (by omega) k0.1 k1.1 k2.1
  rw [e]; simp only [obind]
  rcases p with p | ⟨_, p, s⟩
  · rw [decide_eq_true p]; rfl
  rw [decide_eq_false (by omega : ¬ v < 0)]
  have hp : certPre a := ⟨s.1, s.2.1, s.2.2, fun x hx => by have := k2.2 x hx; unfold InI at this; unfold InR; omega, by unfold InI at k3; unfold InR; omega, by unfold InI at k4; unfold InR; omega⟩
  simp [to_Certificate s, eq_Certificate s, spec_FormatCertificate, impl_FormatCertificate, hp]
end Go.Proofs.Ytkmkbpphdalgoaa
