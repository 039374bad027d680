/-
 What is drawn: queries. On the printed functions; conditions: the code's length.
-/
import Derived.Test.YtlknpohjnpnodaaGreatDrSC1
import Derived.Test.YtlknpohjnpnodaaGreatQuSC1
namespace Go.Proofs.YtlknpohjnpnodaaGreat
open Go.RowKit
set_option linter.unusedVariables false
set_option linter.unusedSimpArgs false
theorem ZK {q : Qry} (h : LD q = true) : 1 <= q.1 ∧ q.1 <= 5 ∧ 1 <= q.2.1.length ∧ q.2.1.length <= 4 ∧ (∀ a ∈ q.2.1, a.1.length <= 4 ∧ 1 <= a.2.length ∧ a.2.length <= 5) ∧ q.2.2.length <= 5 := by
 obtain ⟨h1, h2, h3, h4⟩ := Vt h
 unfold LD at h
 simp only [Bool.and_eq_true, Bool.not_eq_true'] at h
 obtain ⟨g1, g2, g3, g4, -⟩ := h
 have e2 : 1 <= (q.2.1.length : Int) ∧ (q.2.1.length : Int) <= 4 := by unfold btw at g2; simpa using g2
 have e3 := VJ ⟨h1, h2⟩ g3
 refine ⟨h1, h2, by omega, h3, fun a ha => ⟨?_, (h4 a ha).1, (h4 a ha).2.1⟩, by omega⟩
 have h5 := Mo g4 ha
 unfold Iu at h5
 simp only [Bool.or_eq_false_iff, Bool.not_eq_false'] at h5
 have h6 := h5.1
 unfold nmB at h6
 simp only [Bool.and_eq_true] at h6
 have : 1 <= (a.1.length : Int) ∧ (a.1.length : Int) <= 4 := by have := h6.1; unfold btw at this; simpa using this
 omega
theorem Ya {q : Qry} (h : LD q = true) : smQ q := by
 obtain ⟨h1, h2, h3, h4, h5, h6⟩ := ZK h
 unfold smQ lim
 exact ⟨by omega, fun a ha => by have := h5 a ha; omega, by omega⟩
def OZ : List (List UInt8) := [[40, 88, 89, 90, 41, 61, 114, 40, 88, 89, 41, 44, 115, 40, 89, 90, 41, 44, 116, 40, 90, 88, 41], [40, 88, 89, 90, 85, 41, 61, 114, 40, 88, 89, 41, 44, 115, 40, 89, 90, 41, 44, 116, 40, 90, 85, 41, 44, 117, 40, 85, 88, 41], [40, 88, 89, 90, 41, 61, 114, 40, 88, 89, 41, 44, 115, 40, 89, 90, 41], [40, 88, 41, 61, 114, 40, 88, 89, 41, 44, 115, 40, 89, 90, 41, 44, 116, 40, 90, 85, 41], [40, 88, 89, 90, 41, 61, 118, 40, 88, 89, 90, 41, 44, 114, 40, 88, 89, 41], [40, 88, 89, 41, 61, 114, 40, 88, 89, 41, 44, 114, 40, 89, 88, 41], [40, 88, 89, 90, 85, 41, 61, 118, 40, 88, 89, 90, 41, 44, 115, 40, 90, 85, 41, 44, 116, 40, 85, 88, 41], [40, 88, 41, 61, 114, 40, 88, 88, 41], [40, 88, 89, 41, 61, 114, 40, 88, 90, 41, 44, 115, 40, 90, 89, 41, 44, 114, 40, 88, 85, 41, 44, 115, 40, 85, 89, 41], [40, 41, 61, 114, 40, 88, 89, 41, 44, 115, 40, 89, 88, 41], [40, 88, 89, 90, 85, 86, 41, 61, 114, 40, 88, 89, 41, 44, 115, 40, 89, 90, 41, 44, 116, 40, 90, 85, 41, 44, 117, 40, 85, 86, 41]]
def parsed (s : List UInt8) : Bool := match Fw s with
 | some (q, _) => LD q
 | none => false
theorem WI : OZ.all parsed = true := by kernel_rfl
theorem RJ {s : List UInt8} (h : s ∈ OZ) : ∃ q b, Fw s = some (q, b) ∧ LD q = true := by
 have := List.all_eq_true.1 WI s h
 unfold parsed at this
 cases e : Fw s with
 | none => rw [e] at this; cases this
 | some x => rw [e] at this; exact ⟨x.1, x.2, rfl, this⟩
section
variable {c : Cur}
theorem ac (h : Fd c) (n : Int) (m : Int × Cur) (h0 : 0 <= m.1) (h1 : m.1 <= 100) (hn : n <= 10) : ∃ o, Ai (FE m) fz (c.1, c.2.1, c.2.2, ([] : List Int), n) = some o ∧ Fd (o.1, o.2.1, o.2.2.1) ∧ o.2.2.2.length <= 10 := by
 exact FP (B := FE m) (fun s => Fd (s.1, s.2.1, s.2.2.1) ∧ (s.2.2.2.1.length : Int) + max 0 s.2.2.2.2 <= 10 ∧ s.2.2.2.2 <= 10) (fun s => s.2.2.2.2.toNat) (fun o => Fd (o.1, o.2.1, o.2.2.1) ∧ o.2.2.2.length <= 10) (fun s hs => by
  obtain ⟨b, i, hh, l, k⟩ := s
  obtain ⟨i1, i2, i3⟩ := hs
  simp only at i1 i2 i3
  by_cases h2 : 0 < k
  ·right
   obtain ⟨v, c', e, hv, hc⟩ := Dw i1 (n := 1 + m.1) (by omega) (by omega)
   refine ⟨(c'.1, c'.2.1, c'.2.2, l ++ [v], k - 1), ⟨hc, ?_, ?_⟩, ?_, fun rec => ?_⟩
   ·simp only [List.length_append, List.length_singleton]; omega
   ·simp only; omega
   ·simp only; omega
   ·simp only [FE]
    rw [decide_eq_true h2, wrap_in (n := 1 + m.1) ⟨by omega, by omega⟩, e]
    simp only [cond_true, Ad]
    rw [Am (by unfold lim; simp only [List.length_singleton]; omega), wrap_in ⟨by omega, by omega⟩]
  ·left
   refine ⟨(b, i, hh, l), ⟨i1, by simp only; omega⟩, fun rec => ?_⟩
   simp only [FE]
   rw [decide_eq_false h2]; rfl) fz (c.1, c.2.1, c.2.2, ([] : List Int), n) ⟨h, by simp only [List.length_nil]; omega, hn⟩ (by unfold fz; simp only; omega)
theorem Wc (h : Fd c) (n : Int) (m : Int × Cur) (h0 : 0 <= m.1) (h1 : m.1 <= 100) (hn : n <= 10) : ∃ o, Ai (FD m) fz (c.1, c.2.1, c.2.2, ([] : List Atm), n) = some o ∧ Fd (o.1, o.2.1, o.2.2.1) ∧ o.2.2.2.length <= 10 ∧ ∀ a ∈ o.2.2.2, a.1.length <= 10 ∧ a.2.length <= 10 := by
 exact FP (B := FD m) (fun s => Fd (s.1, s.2.1, s.2.2.1) ∧ (s.2.2.2.1.length : Int) + max 0 s.2.2.2.2 <= 10 ∧ s.2.2.2.2 <= 10 ∧ ∀ a ∈ s.2.2.2.1, a.1.length <= 10 ∧ a.2.length <= 10) (fun s => s.2.2.2.2.toNat) (fun o => Fd (o.1, o.2.1, o.2.2.1) ∧ o.2.2.2.length <= 10 ∧ ∀ a ∈ o.2.2.2, a.1.length <= 10 ∧ a.2.length <= 10) (fun s hs => by
  obtain ⟨b, i, hh, l, k⟩ := s
  obtain ⟨i1, i2, i3, i4⟩ := hs
  simp only at i1 i2 i3 i4
  by_cases h2 : 0 < k
  ·right
   obtain ⟨v, c', e, hv, hc⟩ := Dw i1 (n := 5) (by omega) (by omega)
   obtain ⟨nm, hg, hnm⟩ : ∃ nm, AA ([[114], [115], [116], [117], [118]] : List (List UInt8)) v = some nm ∧ nm.length <= 10 := by
    have : v = 0 ∨ v = 1 ∨ v = 2 ∨ v = 3 ∨ v = 4 := by omega
    rcases this with rfl | rfl | rfl | rfl | rfl <;> exact ⟨_, rfl, by simp⟩
   have hdiv : 0 <= Int.tdiv v 4 ∧ Int.tdiv v 4 <= 1 := by
    rw [Int.tdiv_eq_ediv_of_nonneg hv.1]; omega
   obtain ⟨o, e2, ho, hl⟩ := ac hc (2 + Int.tdiv v 4) m h0 h1 (by omega)
   refine ⟨(o.1, o.2.1, o.2.2.1, l ++ [(nm, o.2.2.2)], k - 1), ⟨ho, ?_, ?_, ?_⟩, ?_, fun rec => ?_⟩
   ·simp only [List.length_append, List.length_singleton]; omega
   ·simp only; omega
   ·intro a ha
    rcases List.mem_append.1 ha with ha | ha
    ·exact i4 a ha
    ·rw [List.mem_singleton] at ha; subst ha; exact ⟨hnm, hl⟩
   ·simp only; omega
   ·simp only [FD]
    rw [decide_eq_true h2, e]
    simp only [cond_true, Ad, hg]
    rw [wrap_in (n := Int.tdiv v 4) ⟨by omega, by omega⟩, wrap_in (n := 2 + Int.tdiv v 4) ⟨by omega, by omega⟩, e2]
    obtain ⟨o1, o2, o3, o4⟩ := o
    simp only
    rw [Am (by unfold lim; simp only [List.length_singleton]; omega), wrap_in (n := k - 1) ⟨by omega, by omega⟩]
  ·left
   refine ⟨(b, i, hh, l), ⟨i1, by simp only; omega, i4⟩, fun rec => ?_⟩
   simp only [FD]
   rw [decide_eq_false h2]; rfl) fz (c.1, c.2.1, c.2.2, ([] : List Atm), n) ⟨h, by simp only [List.length_nil]; omega, hn, fun a ha => by cases ha⟩ (by unfold fz; simp only; omega)
theorem ZC (h : Fd c) (m : Int × Cur) (h0 : 0 <= m.1) (h1 : m.1 <= 9) : ∃ o, Ai (DJ m) fz (c.1, c.2.1, c.2.2, ([] : List Int), 0) = some o ∧ Fd (o.1, o.2.1, o.2.2.1) ∧ o.2.2.2.length <= 10 := by
 exact FP (B := DJ m) (fun s => Fd (s.1, s.2.1, s.2.2.1) ∧ 0 <= s.2.2.2.2 ∧ s.2.2.2.2 <= 1 + m.1 ∧ (s.2.2.2.1.length : Int) <= s.2.2.2.2) (fun s => (1 + m.1 - s.2.2.2.2).toNat) (fun o => Fd (o.1, o.2.1, o.2.2.1) ∧ o.2.2.2.length <= 10) (fun s hs => by
  obtain ⟨b, i, hh, l, k⟩ := s
  obtain ⟨i1, i2, i3, i4⟩ := hs
  simp only at i1 i2 i3 i4
  by_cases h2 : k < 1 + m.1
  ·right
   obtain ⟨w, c', e, _, hc⟩ := Ob i1 (n := 2) (by omega) (by omega)
   cases w with
   | true =>
    refine ⟨(c'.1, c'.2.1, c'.2.2, [k] ++ l, k + 1), ⟨hc, ?_, ?_, ?_⟩, ?_, fun rec => ?_⟩
    ·simp only; omega
    ·simp only; omega
    ·simp only [List.length_append, List.length_singleton]; omega
    ·simp only; omega
    ·simp only [DJ]
     rw [wrap_in (n := 1 + m.1) ⟨by omega, by omega⟩, decide_eq_true h2, e]
     simp only [cond_true, Ad]
     rw [Am (by unfold lim; simp only [List.length_singleton]; omega)]
     unfold FF
     rw [wrap_in (n := k + 1) ⟨by omega, by omega⟩]
   | false =>
    refine ⟨(c'.1, c'.2.1, c'.2.2, l, k + 1), ⟨hc, ?_, ?_, ?_⟩, ?_, fun rec => ?_⟩
    ·simp only; omega
    ·simp only; omega
    ·simp only; omega
    ·simp only; omega
    ·simp only [DJ]
     rw [wrap_in (n := 1 + m.1) ⟨by omega, by omega⟩, decide_eq_true h2, e]
     simp only [cond_true, cond_false, Ad]
     unfold FF
     rw [wrap_in (n := k + 1) ⟨by omega, by omega⟩]
  ·left
   refine ⟨(b, i, hh, l), ⟨i1, by simp only; omega⟩, fun rec => ?_⟩
   simp only [DJ]
   rw [wrap_in (n := 1 + m.1) ⟨by omega, by omega⟩, decide_eq_false h2]; rfl) fz (c.1, c.2.1, c.2.2, ([] : List Int), 0) ⟨h, by simp, by simp only; omega, by simp⟩ (by unfold fz; simp only; omega)
theorem d5 (h : Fd c) : Dr (Iq c) fun q => LD q = true := by
 unfold Iq
 obtain ⟨s, c1, e1, hs, hc1⟩ := RM h (l := OZ) (by simp [OZ]) (by simp [OZ])
 unfold OZ at e1
 rw [e1]
 simp only [Ad]
 obtain ⟨q, b, e2, hq⟩ := RJ hs
 rw [e2]
 simp only
 obtain ⟨w, c2, e3, _, hc2⟩ := Ob hc1 (n := 3) (by omega) (by omega)
 rw [e3]
 simp only
 cases w with
 | false => exact ⟨_, _, rfl, hq, hc2⟩
 | true =>
  simp only [Bool.not_true, cond_false]
  obtain ⟨n, c3, e4, hn, hc3⟩ := Dw hc2 (n := 4) (by omega) (by omega)
  rw [e4]
  simp only
  obtain ⟨m, c4, e5, hm, hc4⟩ := Dw hc3 (n := 4) (by omega) (by omega)
  rw [e5]
  simp only
  rw [wrap_in (n := 1 + m) ⟨by omega, by omega⟩, wrap_in (n := 1 + n) ⟨by omega, by omega⟩]
  obtain ⟨o, e6, ho, hl, ha⟩ := Wc hc4 (1 + m) (n, c3) (by simp only; omega) (by simp only; omega) (by omega)
  rw [e6]
  obtain ⟨o1, o2, o3, o4⟩ := o
  simp only at ho hl ha ⊢
  obtain ⟨p, e7, hp, hl2⟩ := ZC ho (n, c3) (by simp only; omega) (by simp only; omega)
  simp only at e7
  rw [e7]
  obtain ⟨p1, p2, p3, p4⟩ := p
  simp only at hp hl2 ⊢
  rw [Oi (q := (1 + n, o4, p4)) ⟨by unfold lim; simp only; omega, fun a h => by have := ha a h; unfold lim; omega, by unfold lim; simp only; omega⟩]
  simp only
  cases hv : LD (1 + n, o4, p4) with
  | false => exact ⟨_, _, rfl, hq, hp⟩
  | true => exact ⟨_, _, rfl, hv, hp⟩
def AnyQ (q : Qry) : Prop := 0 <= q.1 ∧ q.1 <= 6 ∧ 1 <= q.2.1.length ∧ q.2.1.length <= 5 ∧ (∀ a ∈ q.2.1, a.1.length <= 4 ∧ a.2.length <= 5) ∧ q.2.2.length <= 6
theorem AnyQ.sm {q : Qry} (h : AnyQ q) : smQ q := by
 obtain ⟨h1, h2, h3, h4, h5, h6⟩ := h
 unfold smQ lim
 exact ⟨by omega, fun a ha => by have := h5 a ha; omega, by omega⟩
end
end Go.Proofs.YtlknpohjnpnodaaGreat
