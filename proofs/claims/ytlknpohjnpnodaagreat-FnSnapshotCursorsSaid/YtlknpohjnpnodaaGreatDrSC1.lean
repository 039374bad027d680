/-
 What is drawn: the functions that draw go through. On the printed functions; conditions: the code's length.
-/
import Derived.Test.YtlknpohjnpnodaaGreatNrSC1
import Derived.Test.YtlknpohjnpnodaaGreatFhSC1
namespace Go.Proofs.YtlknpohjnpnodaaGreat
open Go.RowKit
set_option linter.unusedVariables false
set_option linter.unusedSimpArgs false
abbrev Cur := List Int × Int × Int
def Fd (c : Cur) : Prop := c.1.length <= 1048576 ∧ 0 <= c.2.1 ∧ c.2.1 <= c.1.length
def Dr {α : Type} (x : Option (α × Cur)) (Q : α -> Prop) : Prop := ∃ v c', x = some (v, c') ∧ Q v ∧ Fd c'
theorem TS (a : Int) : 0 <= Xu a 255 ∧ Xu a 255 <= 255 := by
 unfold Xu
 have h : (BitVec.ofInt IntKind.i64.bits a &&& BitVec.ofInt IntKind.i64.bits 255).toNat <= 255 := by
  rw [BitVec.toNat_and]
  exact Nat.le_trans Nat.and_le_right (Nat.le_of_eq rfl)
 rw [wrap_in ⟨by omega, by omega⟩]
 omega
theorem dQ {b : List Int} (h : b.length <= 1048576) : ∃ c, IOQ b = some c ∧ Fd c := by
 unfold IOQ
 obtain ⟨o, e, _⟩ := FP (B := GR b) (fun s => 0 <= s.2 ∧ s.2 <= 4000) (fun s => (4000 - s.2).toNat) (fun _ => True) (fun s hs => by
  obtain ⟨y1, y2⟩ := s
  simp only at hs
  by_cases h1 : y2 < (b.length : Int)
  ·by_cases h2 : y2 < 4000
   ·right
    obtain ⟨v, hv⟩ : ∃ v, AA b y2 = some v := ⟨_, by unfold AA; rw [if_pos hs.1, List.getElem?_eq_getElem (by omega)]⟩
    refine ⟨(Xu (IntKind.i64.wrap ((IntKind.i64.wrap ((IntKind.i64.wrap (y1 * 131)) + (IntKind.i64.wrap v))) + 7)) 1073741823, y2 + 1), ⟨by simp only; omega, by simp only; omega⟩, by simp only; omega, fun rec => ?_⟩
    simp only [GR]
    rw [decide_eq_true h1, decide_eq_true h2, hv, wrap_in (n := y2 + 1) ⟨by omega, by omega⟩]
    rfl
   ·left
    refine ⟨y1, trivial, fun rec => ?_⟩
    simp only [GR]
    rw [decide_eq_true h1, decide_eq_false h2]; rfl
  ·left
   refine ⟨y1, trivial, fun rec => ?_⟩
   simp only [GR]
   rw [decide_eq_false h1]; rfl) fz (IntKind.i64.wrap (10101 + (List.length b : Int)), 0) ⟨by simp, by simp⟩ (by unfold fz; simp)
 rw [e]
 exact ⟨_, rfl, h, by simp, by simp⟩
section
variable {c : Cur}
theorem Yy (h : Fd c) : Dr (FT c) fun v => 0 <= v ∧ v <= 255 := by
 obtain ⟨h1, h2, h3⟩ := h
 unfold FT Hf
 by_cases h4 : c.2.1 < (c.1.length : Int)
 ·rw [decide_eq_true h4]
  obtain ⟨v, hv⟩ : ∃ v, AA c.1 c.2.1 = some v := ⟨_, by unfold AA; rw [if_pos h2, List.getElem?_eq_getElem (by omega)]⟩
  simp only [cond_true, hv, Ad]
  refine ⟨_, _, rfl, TS _, h1, ?_, ?_⟩
  ·simp only; rw [wrap_in ⟨by omega, by omega⟩]; omega
  ·simp only; rw [wrap_in ⟨by omega, by omega⟩]; omega
 ·rw [decide_eq_false h4]
  exact ⟨_, _, rfl, TS _, h1, h2, h3⟩
theorem Dw (h : Fd c) {n : Int} (h0 : 0 < n) (h1 : n <= 256) : Dr (AV c n) fun v => 0 <= v ∧ v < n := by
 obtain ⟨v, c', e, hv, hc⟩ := Yy h
 unfold AV
 rw [decide_eq_false (by omega), decide_eq_true h1, e]
 simp only [cond_false, cond_true, Ad]
 rw [Am (by omega)]
 refine ⟨_, _, rfl, ?_, hc⟩
 rw [Int.tmod_eq_emod_of_nonneg hv.1]
 exact ⟨Int.emod_nonneg _ (by omega), Int.emod_lt_of_pos _ h0⟩
theorem Ob (h : Fd c) {n : Int} (h0 : 0 < n) (h1 : n <= 256) : Dr (FU c n) fun _ => True := by
 obtain ⟨v, c', e, hv, hc⟩ := Dw h h0 h1
 unfold FU
 rw [e]
 exact ⟨_, _, rfl, trivial, hc⟩
theorem L7 (h : Fd c) {l : List Int} (h0 : 0 < l.length) (h1 : l.length <= 256) : Dr (DA c l) fun v => v ∈ l := by
 obtain ⟨v, c', e, hv, hc⟩ := Dw h (n := (l.length : Int)) (by omega) (by omega)
 unfold DA
 rw [e]
 simp only [Ad]
 have : AA l v = some (l[v.toNat]'(by omega)) := by unfold AA; rw [if_pos hv.1, List.getElem?_eq_getElem]
 rw [this]
 exact ⟨_, _, rfl, List.getElem_mem _, hc⟩
theorem RM (h : Fd c) {l : List (List UInt8)} (h0 : 0 < l.length) (h1 : l.length <= 256) : Dr (Hs c l) fun v => v ∈ l := by
 obtain ⟨v, c', e, hv, hc⟩ := Dw h (n := (l.length : Int)) (by omega) (by omega)
 unfold Hs
 rw [e]
 simp only [Ad]
 have : AA l v = some (l[v.toNat]'(by omega)) := by unfold AA; rw [if_pos hv.1, List.getElem?_eq_getElem]
 rw [this]
 exact ⟨_, _, rfl, List.getElem_mem _, hc⟩
theorem Uh (h : Fd c) {n m : Int} (hn : n <= 1000) (h0 : 0 < m) (h1 : m <= 256) : Dr (IP c n m) fun r => (r.length : Int) = max 0 n ∧ ∀ e ∈ r, 0 <= e ∧ e < m := by
 unfold IP
 obtain ⟨o, e, k1, k2, k3⟩ := FP (B := HR n m) (fun s => Fd (s.1, s.2.1, s.2.2.1) ∧ (s.2.2.2.length : Int) <= max 0 n ∧ ∀ e ∈ s.2.2.2, 0 <= e ∧ e < m) (fun s => (n - s.2.2.2.length).toNat) (fun o => Fd (o.1, o.2.1, o.2.2.1) ∧ (o.2.2.2.length : Int) = max 0 n ∧ ∀ e ∈ o.2.2.2, 0 <= e ∧ e < m) (fun s hs => by
  obtain ⟨b, i, hh, r⟩ := s
  obtain ⟨i1, i2, i3⟩ := hs
  simp only at i1 i2 i3
  by_cases h2 : (r.length : Int) < n
  ·right
   obtain ⟨v, c', e, hv, hc⟩ := Dw i1 h0 h1
   refine ⟨(c'.1, c'.2.1, c'.2.2, r ++ [v]), ⟨hc, ?_, ?_⟩, ?_, fun rec => ?_⟩
   ·simp only [List.length_append, List.length_singleton]; omega
   ·intro x hx
    rcases List.mem_append.1 hx with hx | hx
    ·exact i3 x hx
    ·rw [List.mem_singleton] at hx; subst hx; exact hv
   ·simp only [List.length_append, List.length_singleton]; omega
   ·simp only [HR]
    rw [decide_eq_true h2, e]
    simp only [cond_true, Ad]
    rw [Am (by unfold lim; simp only [List.length_singleton]; omega)]
  ·left
   refine ⟨(b, i, hh, r), ⟨i1, ?_, i3⟩, fun rec => ?_⟩
   ·simp only; omega
   ·simp only [HR]
    rw [decide_eq_false h2]; rfl) fz (c.1, c.2.1, c.2.2, []) ⟨h, by simp; omega, fun e he => by cases he⟩ (by unfold fz; simp only [List.length_nil]; omega)
 rw [e]
 exact ⟨_, _, rfl, ⟨k2, k3⟩, k1⟩
def Rb (k : Int) (l : List Row) : Prop := l.length <= 1000 ∧ ∀ r ∈ l, (r.length : Int) = k
theorem Zx {a k : Int} {l : List Row} (h : Rb k l) : Rb k (nrB a l).1.2 := by
 unfold nrB
 cases AI l fun _ x => Lu a x with
 | true => exact ⟨by simp, fun r hr => by cases hr⟩
 | false =>
  simp only [cond_false]
  cases G9 (a, sortB l) with
  | false => exact ⟨by simp, fun r hr => by cases hr⟩
  | true => exact ⟨Nat.le_trans (H2 l) h.1, fun r hr => h.2 r ((IK l r).1 hr)⟩
theorem Nx {k : Int} {l : List Row} (h : Rb k l) (hk : k <= 1000) : Bk l := ⟨by have := h.1; unfold lim; omega, fun r hr => by have := h.2 r hr; unfold lim; omega⟩
theorem jv (a : Int) (l : List Row) : (nrB a l).1.1 = a ∨ (nrB a l).1.1 = 0 := by
 unfold nrB
 cases AI l fun _ x => Lu a x with
 | true => exact .inr rfl
 | false =>
  simp only [cond_false]
  cases G9 (a, sortB l) with
  | false => exact .inr rfl
  | true => exact .inl rfl
theorem Vx (h : Fd c) {a m v : Int} (ha : 0 <= a) (ha' : a <= 1000) (hm : 0 <= m) (hm' : m <= 200) (h0 : 0 < v) (h1 : v <= 256) : Dr (GU c a m v) fun r => Rb a r.2 ∧ (r.1 = a ∨ r.1 = 0) := by
 unfold GU
 obtain ⟨n, c1, e1, hn, hc1⟩ := Dw h (n := m + 1) (by omega) (by omega)
 rw [wrap_in ⟨by omega, by omega⟩, e1]
 simp only [Ad]
 obtain ⟨o, e, k1, k2, k3⟩ := FP (B := HT a v) (fun s => Fd (s.1, s.2.1, s.2.2.1) ∧ 0 <= s.2.2.2.2 ∧ s.2.2.2.1.length + s.2.2.2.2 <= m ∧ ∀ r ∈ s.2.2.2.1, (r.length : Int) = a) (fun s => s.2.2.2.2.toNat) (fun o => Fd (o.1, o.2.1, o.2.2.1) ∧ (o.2.2.2.length : Int) <= m ∧ ∀ r ∈ o.2.2.2, (r.length : Int) = a) (fun s hs => by
  obtain ⟨b, i, hh, l, k⟩ := s
  obtain ⟨i1, i2, i3, i4⟩ := hs
  simp only at i1 i2 i3 i4
  by_cases h2 : 0 < k
  ·right
   obtain ⟨r, c', e, hr, hc⟩ := Uh i1 (n := a) (m := v) ha' h0 h1
   refine ⟨(c'.1, c'.2.1, c'.2.2, l ++ [r], k - 1), ⟨hc, ?_, ?_, ?_⟩, ?_, fun rec => ?_⟩
   ·simp only; omega
   ·simp only [List.length_append, List.length_singleton]; omega
   ·intro x hx
    rcases List.mem_append.1 hx with hx | hx
    ·exact i4 x hx
    ·rw [List.mem_singleton] at hx; subst hx; rw [hr.1]; omega
   ·simp only; omega
   ·simp only [HT]
    rw [decide_eq_true h2, e]
    simp only [cond_true, Ad]
    rw [Am (by unfold lim; simp only [List.length_singleton]; omega), wrap_in ⟨by omega, by omega⟩]
  ·left
   refine ⟨(b, i, hh, l), ⟨i1, ?_, i4⟩, fun rec => ?_⟩
   ·simp only; omega
   ·simp only [HT]
    rw [decide_eq_false h2]; rfl) fz (c1.1, c1.2.1, c1.2.2, [], n) ⟨hc1, hn.1, by simp only [List.length_nil]; omega, fun e he => by cases he⟩ (by unfold fz; simp only; omega)
 rw [e]
 have hR : Rb a o.2.2.2 := ⟨by omega, k3⟩
 simp only
 rw [eB (Nx hR ha')]
 exact ⟨_, _, rfl, ⟨Zx hR, jv _ _⟩, k1⟩
theorem Vw (h : Fd c) {a m v : Int} (ha : 0 <= a) (ha' : a <= 1000) (hm : 0 <= m) (hm' : m <= 200) (h0 : 0 < v) (h1 : v <= 256) : Dr (GU c a m v) fun r => Rb a r.2 := by
 obtain ⟨v, c', e, hv, hc⟩ := Vx h ha ha' hm hm' h0 h1
 exact ⟨v, c', e, hv.1, hc⟩
def fk (t : Tbl) : Prop := t.1.length <= 10 ∧ ∃ k : Int, 2 <= k ∧ k <= 1000 ∧ Rb k t.2.2
def DbD (d : List Tbl) : Prop := d.length <= 5 ∧ ∀ t ∈ d, fk t
theorem DbD.sm {d : List Tbl} (h : DbD d) : Kb d := ⟨by have := h.1; unfold lim; omega, fun t ht => by
 obtain ⟨h1, k, h2, h3, h4⟩ := h.2 t ht
 exact ⟨by unfold lim; omega, Nx h4 h3⟩⟩
theorem aS (h : Fd c) : Dr (JN c) fun d => d.length = 5 ∧ DbD d := by
 unfold JN
 obtain ⟨v, c1, e1, hv, hc1⟩ := L7 h (l := [2, 3, 4, 6]) (by simp) (by simp)
 have hv' : 2 <= v ∧ v <= 6 := by simp at hv; omega
 rw [e1]
 simp only [Ad]
 obtain ⟨o, e, k1, k2, k3⟩ := FP (B := GL (v, c1)) (fun s => Fd (s.1, s.2.1, s.2.2.1) ∧ 0 <= s.2.2.2.2 ∧ s.2.2.2.2 <= 5 ∧ (s.2.2.2.1.length : Int) = s.2.2.2.2 ∧ ∀ t ∈ s.2.2.2.1, fk t) (fun s => (5 - s.2.2.2.2).toNat) (fun o => Fd (o.1, o.2.1, o.2.2.1) ∧ o.2.2.2.length = 5 ∧ ∀ t ∈ o.2.2.2, fk t) (fun s hs => by
  obtain ⟨b, i, hh, l, k⟩ := s
  obtain ⟨i1, i2, i3, i4, i5⟩ := hs
  simp only at i1 i2 i3 i4 i5
  by_cases h2 : k < 5
  ·right
   obtain ⟨nm, hg, hnm⟩ : ∃ nm, AA ([[114], [115], [116], [117], [118]] : List (List UInt8)) k = some nm ∧ nm.length <= 10 := by
    have : k = 0 ∨ k = 1 ∨ k = 2 ∨ k = 3 ∨ k = 4 := by omega
    rcases this with rfl | rfl | rfl | rfl | rfl <;> exact ⟨_, rfl, by simp⟩
   obtain ⟨p, c2, e2, hp, hc2⟩ := L7 i1 (l := [3, 6, 9]) (by simp) (by simp)
   have hp' : 0 <= p ∧ p <= 9 := by simp at hp; omega
   have step : ∀ x : Int, 2 <= x -> x <= 3 -> ∃ s', (Fd (s'.1, s'.2.1, s'.2.2.1) ∧ 0 <= s'.2.2.2.2 ∧ s'.2.2.2.2 <= 5 ∧ (s'.2.2.2.1.length : Int) = s'.2.2.2.2 ∧ ∀ t ∈ s'.2.2.2.1, fk t) ∧ (5 - s'.2.2.2.2).toNat < (5 - k).toNat ∧ ∀ rec, Hy rec (v, c1) b i hh l k nm x = rec s' := by
    intro x hx1 hx2
    obtain ⟨r, c3, e3, hr, hc3⟩ := Vw hc2 (a := x) (m := p) (v := v) (by omega) (by omega) hp'.1 (by omega) (by omega) (by omega)
    refine ⟨(c3.1, c3.2.1, c3.2.2, l ++ [(nm, r)], k + 1), ⟨hc3, by simp only; omega, by simp only; omega, by simp only [List.length_append, List.length_singleton]; omega, ?_⟩, by simp only; omega, fun rec => ?_⟩
    ·intro t ht
     rcases List.mem_append.1 ht with ht | ht
     ·exact i5 t ht
     ·rw [List.mem_singleton] at ht; subst ht; exact ⟨hnm, x, hx1, by omega, hr⟩
    ·unfold Hy
     rw [e2]
     simp only [Ad]
     rw [e3]
     simp only
     rw [Am (by unfold lim; simp only [List.length_singleton]; omega), wrap_in ⟨by omega, by omega⟩]
   cases hq : (nm == [118]) with
   | true =>
    obtain ⟨s', q1, q2, q3⟩ := step 3 (by omega) (by omega)
    refine ⟨s', q1, q2, fun rec => ?_⟩
    unfold GL
    dsimp only
    rw [decide_eq_true (p := k < _) (by simp; omega), hg]
    simp only [cond_true, Ad, hq]
    exact q3 rec
   | false =>
    obtain ⟨s', q1, q2, q3⟩ := step 2 (by omega) (by omega)
    refine ⟨s', q1, q2, fun rec => ?_⟩
    unfold GL
    dsimp only
    rw [decide_eq_true (p := k < _) (by simp; omega), hg]
    simp only [cond_true, Ad, hq, cond_false]
    exact q3 rec
  ·left
   refine ⟨(b, i, hh, l), ⟨i1, by simp only; omega, i5⟩, fun rec => ?_⟩
   unfold GL
   dsimp only
   rw [decide_eq_false (p := k < _) (by simp; omega)]
   rfl) fz (c1.1, c1.2.1, c1.2.2, [], 0) ⟨hc1, by simp, by simp, by simp, fun e he => by cases he⟩ (by unfold fz; simp)
 rw [e]
 obtain ⟨b, i, hh, l⟩ := o
 simp only at k1 k2 k3 ⊢
 obtain ⟨w, c4, e4, _, hc4⟩ := Ob k1 (n := 8) (by omega) (by omega)
 rw [e4]
 simp only
 cases w with
 | false => exact ⟨_, _, rfl, ⟨k2, by omega, k3⟩, hc4⟩
 | true =>
  simp only [cond_true]
  obtain ⟨x, c5, e5, hx, hc5⟩ := Dw hc4 (n := 5) (by omega) (by omega)
  rw [Am (by omega), e5]
  simp only [Ip]
  have : AA l x = some (l[x.toNat]'(by omega)) := by unfold AA; rw [if_pos hx.1, List.getElem?_eq_getElem]
  rw [this]
  refine ⟨_, _, rfl, ⟨by unfold It; rw [List.length_set]; exact k2, by unfold It; rw [List.length_set]; omega, fun t ht => ?_⟩, hc5⟩
  unfold It at ht
  rcases List.mem_or_eq_of_mem_set ht with h1 | rfl
  ·exact k3 t h1
  ·obtain ⟨q1, q⟩ := k3 _ (List.getElem_mem (by omega : x.toNat < l.length))
   exact ⟨q1, 2, by omega, by omega, by simp, fun r hr => by cases hr⟩
end
end Go.Proofs.YtlknpohjnpnodaaGreat
