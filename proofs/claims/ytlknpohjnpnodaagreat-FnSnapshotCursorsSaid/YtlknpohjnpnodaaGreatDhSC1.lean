/-
 What is drawn: changes and histories. On the printed functions; conditions: the code's length.
-/
import Derived.Test.YtlknpohjnpnodaaGreatDlSC1
import Derived.Test.YtlknpohjnpnodaaGreatAsSC1
namespace Go.Proofs.YtlknpohjnpnodaaGreat
open Go.RowKit
set_option linter.unusedVariables false
set_option linter.unusedSimpArgs false
theorem Xe {r : Rln} {row : Row} (hs : Srt r.2) (hr : Bk r.2) : ∃ k : Nat, k <= r.2.length ∧ FH r row = some ((k : Int), r.2.contains row) := by
 obtain ⟨k, hk, hl, h1, h2⟩ := N1 (B := DI r row) (row := row) hs hr.1 (fun rec lo hi m h1 h2 h3 hm => by
  have := hr.1
  unfold lim at this
  simp only [DI]
  have hlh : (lo : Int) + (hi : Int) <= 2199023255552 := by omega
  have e1 : IntKind.i64.wrap ((lo : Int) + (hi : Int)) = ((lo + hi : Nat) : Int) := by rw [wrap_in ⟨by omega, by omega⟩]; omega
  have e2 : IntKind.i64.wrap (Int.tdiv ((lo + hi : Nat) : Int) 2) = ((m : Nat) : Int) := by
   have e3 : Int.tdiv ((lo + hi : Nat) : Int) 2 = (((lo + hi) / 2 : Nat) : Int) := by rw [Int.tdiv_eq_ediv_of_nonneg (by omega)]; omega
   rw [e3, <- h3, wrap_in ⟨by omega, by omega⟩]
  rw [decide_eq_true (by omega), e1, e2, Ak hm]
  simp only [cond_true, Ad]
  rw [Ma (hr.2 _ (List.getElem_mem hm))]
  simp only
  rw [wrap_in (by omega)]
  simp) (fun rec lo => by simp only [DI]; rw [Ay]; rfl)
 refine ⟨k, hk, ?_⟩
 unfold FH
 rw [hl]
 simp only [Ad]
 have hp := PR (row := row) hs hk h1 h2
 rcases Nat.lt_or_ge k r.2.length with hlt | hge
 ·rw [AC hlt, Ak hlt]
  simp only [cond_true, Ma (hr.2 _ (List.getElem_mem hlt)), FC]
  rw [AY hlt] at hp
  rw [hp]
 ·rw [decide_eq_false (by omega)]
  have : (atB r.2 k fun x => Ej x row == 0) = false := by unfold atB; rw [List.getElem?_eq_none hge]
  rw [this] at hp
  rw [<- hp]; rfl
def V7 (r : Rln) : Prop := r.2.length <= 4000 ∧ ∀ x ∈ r.2, x.length <= 10
theorem V7.sm {r : Rln} (h : V7 r) : Bk r.2 := ⟨by have := h.1; unfold lim; omega, fun x hx => by have := h.2 x hx; unfold lim; omega⟩
theorem en {r : Rln} {row : Row} (h : V7 r) (hrow : row.length <= lim) : ∃ r' b, Hc r row = some (r', b) ∧ V7 r' := by
 unfold Hc
 rw [ST h.sm]
 simp only [Ad, Oj h.sm]
 cases hv : G9 r with
 | false => exact ⟨_, _, rfl, h⟩
 | true =>
  obtain ⟨v1, v2, v3, v4⟩ := (HK r).1 hv
  simp only [Bool.not_true, cond_false]
  cases ha : (row.length : Int) != r.1 with
  | true => exact ⟨_, _, rfl, h⟩
  | false =>
   have ha : (row.length : Int) = r.1 := by simpa using ha
   simp only [cond_false, ZR hrow]
   cases MQ row with
   | false => exact ⟨_, _, rfl, h⟩
   | true =>
    obtain ⟨k, hk, e⟩ := Xe (row := row) v4 h.sm
    rw [e]
    simp only [Bool.not_true, cond_false]
    cases r.2.contains row with
    | true => exact ⟨_, _, rfl, h⟩
    | false =>
     simp only [cond_false]
     cases h4 : (r.2.length : Int) == 4000 with
     | true => exact ⟨_, _, rfl, h⟩
     | false =>
      have h4 : ¬ (r.2.length : Int) = 4000 := by simpa using h4
      simp only [cond_false, List.nil_append]
      have s1 : (A7 r.2 (k : Int) (r.2.length : Int)).length <= 4000 := by unfold A7; rw [List.length_drop, List.length_take]; omega
      have s2 : (A7 r.2 0 (k : Int)).length <= 4000 := by unfold A7; rw [List.length_drop, List.length_take]; omega
      rw [Am (by simp only [List.length_nil]; omega), Am (by omega), Am (by simp only [List.length_singleton]; unfold lim; omega), Am (by omega), Am (by simp only [List.length_nil]; unfold lim; omega), Am (by simp only [List.length_append, List.length_singleton]; unfold lim; omega)]
      refine ⟨_, _, rfl, ?_, fun x hx => ?_⟩
      ·have : (A7 r.2 0 (k : Int)).length + (A7 r.2 (k : Int) (r.2.length : Int)).length = r.2.length := by
        unfold A7
        rw [List.length_drop, List.length_take, List.length_drop, List.length_take]
        omega
       simp only [List.length_append, List.length_singleton]
       omega
      ·simp only [List.mem_append, List.mem_singleton] at hx
       rcases hx with hx | rfl | hx
       ·exact h.2 x (List.mem_of_mem_take (List.mem_of_mem_drop hx))
       ·omega
       ·exact h.2 x (List.mem_of_mem_take (List.mem_of_mem_drop hx))
section
variable {c : Cur}
theorem XE (h : Fd c) {d : List Tbl} (hd : Kb d) (hl : d.length <= 256) : Dr (GS c d) fun x => smD x := by
 unfold GS
 cases h0 : (d.length : Int) == 0 with
 | true => exact ⟨_, _, rfl, ⟨by simp [lim], ⟨by simp [lim], fun r hr => by cases hr⟩, ⟨by simp [lim], fun r hr => by cases hr⟩⟩, h⟩
 | false =>
  have h0 : ¬ (d.length : Int) = 0 := by simpa using h0
  simp only [cond_false, Ad]
  obtain ⟨k, c1, e1, hk, hc1⟩ := Dw h (n := (d.length : Int)) (by omega) (by omega)
  rw [e1]
  have hg : AA d k = some (d[k.toNat]'(by omega)) := by unfold AA; rw [if_pos hk.1, List.getElem?_eq_getElem]
  have ht := hd.2 _ (List.getElem_mem (by omega : k.toNat < d.length))
  generalize d[k.toNat]'(by omega) = t at hg ht
  simp only [hg]
  have hb : 0 <= (if 0 < (if t.2.1 < 5 then t.2.1 else 5) then (if t.2.1 < 5 then t.2.1 else 5) else 0) ∧ (if 0 < (if t.2.1 < 5 then t.2.1 else 5) then (if t.2.1 < 5 then t.2.1 else 5) else 0) <= 5 := by
   split
   ·rename_i h1; refine ⟨by omega, ?_⟩; split <;> omega
   ·omega
  have hB1 : ∀ n : Int, n = (if 0 < (if t.2.1 < 5 then t.2.1 else 5) then (if t.2.1 < 5 then t.2.1 else 5) else 0) -> ∀ (a : Cur) (r : Rln), Fd a -> V7 r -> ∃ o, Ai (BQ t) fz (a.1, a.2.1, a.2.2, r.1, r.2, 0) = some o ∧ Fd (o.1, o.2.1, o.2.2.1) ∧ V7 (o.2.2.2.1, o.2.2.2.2) := by
   intro n hn a r ha hr
   exact FP (B := BQ t) (fun s => Fd (s.1, s.2.1, s.2.2.1) ∧ V7 (s.2.2.2.1, s.2.2.2.2.1) ∧ 0 <= s.2.2.2.2.2 ∧ s.2.2.2.2.2 <= t.2.2.length) (fun s => ((t.2.2.length : Int) - s.2.2.2.2.2).toNat) (fun o => Fd (o.1, o.2.1, o.2.2.1) ∧ V7 (o.2.2.2.1, o.2.2.2.2)) (fun s hs => by
    obtain ⟨b, i, hh, ar, l, j⟩ := s
    obtain ⟨i1, i2, i3, i4⟩ := hs
    simp only at i1 i2 i3 i4
    have htl := ht.2.1
    unfold lim at htl
    by_cases h2 : j < (t.2.2.length : Int)
    ·right
     obtain ⟨w, c', e, _, hc⟩ := Ob i1 (n := 3) (by omega) (by omega)
     have hg2 : AA t.2.2 j = some (t.2.2[j.toNat]'(by omega)) := by unfold AA; rw [if_pos i3, List.getElem?_eq_getElem]
     have hrow := ht.2.2 _ (List.getElem_mem (by omega : j.toNat < t.2.2.length))
     generalize t.2.2[j.toNat]'(by omega) = row at hg2 hrow
     have hW : IntKind.i64.wrap (j + 1) = j + 1 := wrap_in (by omega)
     have plain : ∃ s' : List Int × Int × Int × Int × List (List Int) × Int, (Fd (s'.1, s'.2.1, s'.2.2.1) ∧ V7 (s'.2.2.2.1, s'.2.2.2.2.1) ∧ 0 <= s'.2.2.2.2.2 ∧ s'.2.2.2.2.2 <= t.2.2.length) ∧ ((t.2.2.length : Int) - s'.2.2.2.2.2).toNat < ((t.2.2.length : Int) - j).toNat ∧ ∀ rec, DW rec t ar l j c'.1 c'.2.1 c'.2.2 false = rec s' :=
      ⟨(c'.1, c'.2.1, c'.2.2, ar, l, j + 1), ⟨hc, i2, by simp only; omega, by simp only; omega⟩, by simp only; omega, fun rec => by unfold DW EY; rw [cond_false, hW]⟩
     cases w with
     | false =>
      obtain ⟨s', q1, q2, q3⟩ := plain
      refine ⟨s', q1, q2, fun rec => ?_⟩
      simp only [BQ]
      rw [decide_eq_true h2, e]
      simp only [cond_true, cond_false, Ad]
      exact q3 rec
     | true =>
      cases hq : ((List.length row : Int) == (if 0 < (if t.2.1 < 5 then t.2.1 else 5) then (if t.2.1 < 5 then t.2.1 else 5) else 0)) with
      | false =>
       obtain ⟨s', q1, q2, q3⟩ := plain
       refine ⟨s', q1, q2, fun rec => ?_⟩
       simp only [BQ]
       rw [decide_eq_true h2, e]
       simp only [cond_true, Ad, hg2, hq]
       exact q3 rec
      | true =>
       obtain ⟨r', b', e4, hr'⟩ := en i2 hrow
       refine ⟨(c'.1, c'.2.1, c'.2.2, r'.1, r'.2, j + 1), ⟨hc, hr', by simp only; omega, by simp only; omega⟩, by simp only; omega, fun rec => ?_⟩
       simp only [BQ]
       rw [decide_eq_true h2, e]
       simp only [cond_true, Ad, hg2, hq]
       unfold DW EY
       simp only [cond_true, hg2, Ad, e4, hW]
    ·left
     refine ⟨(b, i, hh, ar, l), ⟨i1, i2⟩, fun rec => ?_⟩
     simp only [BQ]
     rw [decide_eq_false h2]; rfl) fz (a.1, a.2.1, a.2.2, r.1, r.2, 0) ⟨ha, hr, by simp, by simp⟩ (by have := ht.2.1; unfold lim at this; unfold fz; simp only; omega)
  have hB1 := hB1 _ rfl
  generalize (if 0 < (if t.2.1 < 5 then t.2.1 else 5) then (if t.2.1 < 5 then t.2.1 else 5) else 0) = n at hb ⊢
  obtain ⟨x, c2, e2, hx, hc2⟩ := Vw hc1 (a := n) (m := 3) (v := 4) hb.1 (by omega) (by omega) (by omega) (by omega) (by omega)
  rw [e2]
  simp only
  obtain ⟨y, c3, e3, hy, hc3⟩ := Vw hc2 (a := n) (m := 2) (v := 4) hb.1 (by omega) (by omega) (by omega) (by omega) (by omega)
  rw [e3]
  simp only
  obtain ⟨o, e4, o1, o2⟩ := hB1 c3 y hc3 ⟨by have := hy.1; omega, fun r hr => by have := hy.2 r hr; omega⟩
  rw [e4]
  obtain ⟨p1, p2, p3, p4, p5⟩ := o
  simp only at o1 o2 ⊢
  obtain ⟨w, c4, e5, _, hc4⟩ := Dw o1 (n := 14) (by omega) (by omega)
  rw [e5]
  simp only
  have hxs : Bk x.2 := Nx hx (by omega)
  cases (w == 0) with
  | true =>
   simp only [cond_true]
   obtain ⟨s, c5, e6, hs, hc5⟩ := RM hc4 (l := [[], [119], [115]]) (by simp) (by simp)
   have hs' : s.length <= lim := by simp at hs; rcases hs with rfl | rfl | rfl <;> simp [lim]
   rw [e6]
   exact ⟨_, _, rfl, ⟨hs', hxs, o2.sm⟩, hc5⟩
  | false =>
   simp only [cond_false]
   cases (w == 1) with
   | true =>
    simp only [cond_true]
    obtain ⟨z, c5, e6, hz, hc5⟩ := any_ok hc4
    rw [e6]
    exact ⟨_, _, rfl, ⟨ht.1, hz.sm, o2.sm⟩, hc5⟩
   | false => exact ⟨_, _, rfl, ⟨ht.1, hxs, o2.sm⟩, hc4⟩
def HsD (h : Hst) : Prop := 1 <= h.2.length ∧ h.2.length <= 6 ∧ ∀ d ∈ h.2, Kb d ∧ d.length <= 6
theorem HsD.sm {h : Hst} (k : HsD h) : Hw h := ⟨by have := k.2.1; unfold lim; omega, fun d hd => (k.2.2 d hd).1⟩
theorem aI (h : Hst) (x : Dlt) : (asB h x).1.2.length <= h.2.length + 1 ∧ h.2.length <= (asB h x).1.2.length ∧ ∀ d ∈ (asB h x).1.2, d ∈ h.2 ∨ dbB d = true := by
 unfold asB
 cases (GZ h && (!decide ((6 : Int) <= (h.2.length : Int)) && !decide (99 < IntKind.i64.wrap (h.1 + (h.2.length : Int))))) with
 | false => exact ⟨Nat.le_succ _, Nat.le_refl _, fun d hd => .inl hd⟩
 | true =>
  cases hl : h.2.getLast? with
  | none => exact ⟨Nat.le_succ _, Nat.le_refl _, fun d hd => .inl hd⟩
  | some d =>
   simp only [cond_true]
   cases ha : (Kh d x).2 with
   | false => exact ⟨Nat.le_succ _, Nat.le_refl _, fun d hd => .inl hd⟩
   | true =>
    simp only [cond_true, List.length_append, List.length_singleton]
    refine ⟨by omega, by omega, fun y hy => ?_⟩
    rcases List.mem_append.1 hy with hy | hy
    ·exact .inl hy
    ·rw [List.mem_singleton] at hy; subst hy; exact .inr (Xv ha)
theorem XB {d : List Tbl} (h : dbB d = true) : Kb d ∧ d.length <= 6 := by
 obtain ⟨h1, h2⟩ := Rq h
 exact ⟨⟨by unfold lim; omega, fun t ht => ⟨by have := (h2 t ht).1; unfold lim; omega, by have := (h2 t ht).2.1; unfold lim; omega, fun r hr => Nat.le_trans ((h2 t ht).2.2 r hr) (by unfold lim; omega)⟩⟩, h1⟩
theorem YP (h : Fd c) : Dr (Hx c) fun x => HsD x := by
 unfold Hx
 obtain ⟨a, c1, e1, ha, hc1⟩ := Dw h (n := 3) (by omega) (by omega)
 rw [e1]
 simp only [Ad]
 obtain ⟨d, c2, e2, ⟨hd, hdd⟩, hc2⟩ := aS hc1
 rw [e2]
 simp only
 obtain ⟨n, c3, e3, hn, hc3⟩ := Dw hc2 (n := 4) (by omega) (by omega)
 rw [e3]
 simp only
 obtain ⟨o, e4, o1, o2⟩ := FP (B := GH) (fun s => Fd (s.1, s.2.1, s.2.2.1) ∧ 0 <= s.2.2.2.2.2 ∧ 1 <= s.2.2.2.2.1.length ∧ (s.2.2.2.2.1.length : Int) + s.2.2.2.2.2 <= 4 ∧ ∀ d ∈ s.2.2.2.2.1, Kb d ∧ d.length <= 6) (fun s => s.2.2.2.2.2.toNat) (fun o => Fd (o.1, o.2.1, o.2.2.1) ∧ HsD (o.2.2.2.1, o.2.2.2.2)) (fun s hs => by
  obtain ⟨b, i, hh, f, l, k⟩ := s
  obtain ⟨i1, i2, i3, i4, i5⟩ := hs
  simp only at i1 i2 i3 i4 i5
  by_cases h2 : 0 < k
  ·right
   obtain ⟨d, g1, _, g3⟩ := KR (h := (f, l)) i3 (by simp only; omega)
   have hdd := i5 d g3
   obtain ⟨x, c', e, hx, hc⟩ := XE i1 hdd.1 (by omega)
   have hsm : Hw (f, l) := ⟨by unfold lim; simp only; omega, fun d hd => (i5 d hd).1⟩
   obtain ⟨l1, l2, l3⟩ := aI (f, l) x
   refine ⟨(c'.1, c'.2.1, c'.2.2, (asB (f, l) x).1.1, (asB (f, l) x).1.2, k - 1), ⟨hc, by simp only; omega, by simp only at l2 ⊢; omega, by simp only at l1 ⊢; omega, fun y hy => ?_⟩, by simp only; omega, fun rec => ?_⟩
   ·rcases l3 y hy with h3 | h3
    ·exact i5 y h3
    ·exact XB h3
   ·simp only [GH]
    rw [decide_eq_true h2]
    simp only at g1
    rw [g1]
    simp only [cond_true, Ad, e]
    rw [kW hsm hx]
    simp only
    rw [wrap_in ⟨by omega, by omega⟩]
  ·left
   refine ⟨(b, i, hh, f, l), ⟨i1, i3, by simp only; omega, i5⟩, fun rec => ?_⟩
   simp only [GH]
   rw [decide_eq_false h2]; rfl) fz (c3.1, c3.2.1, c3.2.2, IntKind.i64.wrap (1 + a), [d], n) ⟨hc3, hn.1, by simp, by simp only [List.length_singleton]; omega, fun y hy => by rw [List.mem_singleton] at hy; subst hy; exact ⟨hdd.sm, by omega⟩⟩ (by unfold fz; simp only; omega)
 rw [e4]
 obtain ⟨p1, p2, p3, p4, p5⟩ := o
 simp only at o1 o2 ⊢
 obtain ⟨w, c4, e5, _, hc4⟩ := Dw o1 (n := 16) (by omega) (by omega)
 rw [e5]
 simp only
 cases (w == 0) with
 | true =>
  simp only [cond_true]
  obtain ⟨z, c5, e6, _, hc5⟩ := L7 hc4 (l := [0, 99, 100]) (by simp) (by simp)
  rw [e6]
  exact ⟨_, _, rfl, ⟨o2.1, o2.2.1, o2.2.2⟩, hc5⟩
 | false =>
  simp only [cond_false]
  cases (w == 1) with
  | true =>
   simp only [cond_true]
   rw [Am (by have := o2.1; simp only at this; omega)]
   obtain ⟨z, c5, e6, hz, hc5⟩ := YE hc4
   have g0 : AA p5 0 = some (p5[0]'(by have := o2.1; simp only at this; omega)) := Ak (k := 0) (by have := o2.1; simp only at this; omega)
   rw [e6]
   simp only [g0]
   refine ⟨_, _, rfl, ⟨?_, ?_, fun y hy => ?_⟩, hc5⟩
   ·have := o2.1; unfold It; simp only [List.length_set] at this ⊢; exact this
   ·have := o2.2.1; unfold It; simp only [List.length_set] at this ⊢; exact this
   ·unfold It at hy
    rcases List.mem_or_eq_of_mem_set hy with h3 | rfl
    ·exact o2.2.2 y h3
    ·exact ⟨hz.sm, hz.1⟩
  | false => exact ⟨_, _, rfl, o2, hc4⟩
end
end Go.Proofs.YtlknpohjnpnodaaGreat
