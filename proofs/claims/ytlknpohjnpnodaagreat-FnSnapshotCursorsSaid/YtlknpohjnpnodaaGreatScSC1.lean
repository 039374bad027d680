/-
 SnapshotCursors holds. Conditions: none.
-/
import Derived.Test.YtlknpohjnpnodaaGreatDoSC1
import Derived.Test.YtlknpohjnpnodaaGreatAcSC1
import Derived.Test.YtlknpohjnpnodaaGreatHpSC1
namespace Go.Proofs.YtlknpohjnpnodaaGreat
open Go.RowKit
set_option linter.unusedVariables false
set_option linter.unusedSimpArgs false
theorem YF {b : List Int} (h : b.length <= 1048576) : ∃ g c x, Dd b = some (g, c) ∧ CG b = some (g, x) ∧ HsD g ∧ smC c ∧ smD x := by
 unfold Dd CG
 obtain ⟨c, e, hc⟩ := dQ h
 rw [e]
 simp only [Ad]
 obtain ⟨g, c1, e1, hg, hc1⟩ := YP hc
 rw [e1]
 obtain ⟨cu, c2, e2, hcu, hc2⟩ := ZB hc1 hg.sm
 obtain ⟨d, g1, _, g3⟩ := KR hg.1 hg.2.1
 have hd := hg.2.2 d g3
 obtain ⟨x, c3, e3, hx, hc3⟩ := XE hc1 hd.1 (by omega)
 simp only [e2, g1, e3]
 exact ⟨g, cu, x, rfl, rfl, hg, hcu, hx⟩
theorem Wb {h : Hst} {x : Dlt} (hh : HsD h) (hx : smD x) (hv : GZ h = true) : GZ (asB h x).1 = true ∧ Hw (asB h x).1 ∧ ∀ v, (snB h v).2 = true -> snB (asB h x).1 v = snB h v := by
 have hf := Hu hv
 have hi := PC hv
 have hsame : GZ h = true ∧ Hw h ∧ ∀ v, (snB h v).2 = true -> snB h v = snB h v := ⟨hv, hh.sm, fun v _ => rfl⟩
 by_cases hc : (!decide ((6 : Int) <= (h.2.length : Int)) && !decide (99 < IntKind.i64.wrap (h.1 + (h.2.length : Int)))) = true
 ·have hc0 := hc
  rw [Bool.and_eq_true, Bool.not_eq_true', Bool.not_eq_true', decide_eq_false_iff_not, decide_eq_false_iff_not] at hc
  obtain ⟨c1, c2⟩ := hc
  rw [wrap_in (by omega)] at c2
  obtain ⟨d, g1, g2, g3⟩ := KR hf.1 hf.2.1
  have ea : asB h x = cond (Kh d x).2 ((h.1, h.2 ++ [(Kh d x).1]), true) (h, false) := by
   unfold asB
   rw [hv, hc0, g2]
   rfl
  rw [ea]
  cases hap : (Kh d x).2 with
  | false => exact hsame
  | true =>
   have hok := Xv hap
   simp only [cond_true]
   have hG : GZ (h.1, h.2 ++ [(Kh d x).1]) = true := by
    refine UC ?_ ?_ ?_ ?_ ?_
    ·simp
    ·simp; omega
    ·intro y hy
     rcases List.mem_append.1 hy with hy | hy
     ·exact hf.2.2 y hy
     ·rw [List.mem_singleton] at hy; subst hy; exact hok
    ·simp only; omega
    ·simp only [List.length_append, List.length_singleton]; omega
   refine ⟨hG, ⟨by unfold lim; simp; omega, fun y hy => ?_⟩, fun v hb => ?_⟩
   ·rcases List.mem_append.1 hy with hy | hy
    ·exact (hh.2.2 y hy).1
    ·rw [List.mem_singleton] at hy; subst hy; exact (XB hok).1
   ·unfold snB at hb ⊢
    rw [hG]
    rw [hv] at hb ⊢
    simp only [Bool.true_and] at hb ⊢
    cases hbt : btw v h.1 (h.1 + (h.2.length : Int) - 1) with
    | false => rw [hbt] at hb; cases hb
    | true =>
     have hbt2 := hbt
     unfold btw at hbt2
     rw [Bool.and_eq_true, decide_eq_true_eq, decide_eq_true_eq] at hbt2
     have hb2 : btw v h.1 (h.1 + ((h.2 ++ [(Kh d x).1]).length : Int) - 1) = true := by
      unfold btw
      rw [Bool.and_eq_true, decide_eq_true_eq, decide_eq_true_eq, List.length_append, List.length_singleton]
      omega
     rw [hb2]
     simp only [cond_true]
     rw [List.getElem?_append_left (by omega)]
 ·have ea : asB h x = (h, false) := by
   unfold asB
   rw [hv, show (!decide ((6 : Int) <= (h.2.length : Int)) && !decide (99 < IntKind.i64.wrap (h.1 + (h.2.length : Int)))) = false from by simpa using hc]
   rfl
  rw [ea]
  exact hsame
theorem QV {a : List Int} (h : a.length <= lim) : FO a a = some true := by
 unfold FO
 have e : ((a.length : Int) != (a.length : Int)) = false := by simp
 rw [e]
 simp only [cond_false]
 have := BJ (body := EV a a) (out := (.inl () : Sum Unit Bool)) (fun k => (k : Int)) a.length (fun k hk rec => by
  unfold EV
  rw [AC hk, Ak hk, AH hk (Ax h)]
  simp only [cond_true, Ad]
  have : (a[k] != a[k]) = false := by simp
  rw [this]; rfl) (fun rec => by unfold EV; rw [Ay]; rfl) fz (G0 h)
 have h2 : Ai (EV a a) fz 0 = some (.inl ()) := by simpa using this
 rw [h2]; rfl
theorem YA {h : Hst} {c : Csr} (hc : smC c) : (Mr h c).2.1.length <= lim := by
 unfold Mr
 cases (snB h c.1).2 with
 | false => exact Nat.zero_le _
 | true =>
  simp only [cond_true]
  cases (njB (snB h c.1).1 c.2.2.2 c.2.1 c.2.2.1).2 with
  | false => exact Nat.zero_le _
  | true => exact WU hc.2.2 _
theorem aO {h : Hst} {c : Csr} (hb : (Mr h c).2.2 = false) : (Mr h c).2.1 = [] := by
 unfold Mr at hb ⊢
 cases h1 : (snB h c.1).2 with
 | false => rfl
 | true =>
  rw [h1] at hb
  simp only [cond_true] at hb ⊢
  cases h2 : (njB (snB h c.1).1 c.2.2.2 c.2.1 c.2.2.1).2 with
  | false => rfl
  | true => rw [h2] at hb; cases hb
theorem YB {h : Hst} {c : Csr} (hb : (Mr h c).2.2 = true) : (snB h c.1).2 = true ∧ (Mr h c).1.1 = c.1 ∧ (Mr h c).1.2.2.1 = (Mr h c).2.1 ∧ (((c.2.2.1.length : Int) == 0) = true ∨ 0 < Ej (Mr h c).2.1 c.2.2.1) := by
 unfold Mr at hb ⊢
 cases h1 : (snB h c.1).2 with
 | false => rw [h1] at hb; cases hb
 | true =>
  rw [h1] at hb
  simp only [cond_true] at hb ⊢
  cases h2 : (njB (snB h c.1).1 c.2.2.2 c.2.1 c.2.2.1).2 with
  | false => rw [h2] at hb; cases hb
  | true =>
   simp only [cond_true]
   refine ⟨trivial, trivial, trivial, ?_⟩
   unfold njB at h2 ⊢
   cases hl : (ljB (snB h c.1).1 c.2.2.2 c.2.1).2.2 with
   | false => rw [hl] at h2; cases h2
   | true =>
    rw [hl] at h2
    simp only [cond_true] at h2 ⊢
    cases he : (ljB (snB h c.1).1 c.2.2.2 c.2.1).1.2.find? fun r => ((c.2.2.1.length : Int) == 0) || decide (0 < Ej r c.2.2.1) with
    | none => rw [he] at h2; cases h2
    | some r =>
     have := List.find?_some he
     simp only [Bool.or_eq_true, decide_eq_true_eq] at this
     exact this
theorem Kq {b : List Int} (k : j0 b) : Db b = some true := by
 by_cases hb : 1048576 < b.length
 ·unfold Db LV
  rw [decide_eq_true (by omega : (1048576 : Int) < (b.length : Int))]
  rfl
 unfold Db LV
 rw [decide_eq_false (by omega : ¬ (1048576 : Int) < (b.length : Int))]
 simp only [Ad, cond_false]
 obtain ⟨h, c, x, e1, e2, hh, hc, hx⟩ := YF (b := b) (by omega)
 have hrow := YA (h := h) hc
 rw [e1]
 simp only [bo hh.sm hc, d9 hh.sm hc, BEq.rfl, Bool.not_true, cond_false, QV hrow, Sg hh.sm, SU hh.sm]
 cases hok : (Mr h c).2.2 with
 | false =>
  simp only [Bool.not_false, cond_true, aO hok, List.length_nil]
  rfl
 | true =>
  obtain ⟨y1, y2, y3, y4⟩ := YB hok
  have hv : GZ h = true := by
   cases hv : GZ h with
   | true => rfl
   | false => unfold snB at y1; rw [hv] at y1; cases y1
  obtain ⟨f1, f2, f3⟩ := Wb hh hx hv
  obtain ⟨d1, d2, d3, d4⟩ := Wv (l := [c]) f1
  have hsn : snB (duB (asB h x).1 [c]) c.1 = snB h c.1 := by rw [d4 c (by simp), f3 _ y1]
  have hcad : Mr (duB (asB h x).1 [c]) c = Mr h c := by unfold Mr; rw [hsn]
  simp only [Bool.not_true, cond_false, e2, Xd hh.sm, cond_true, kC hh.sm hx]
  unfold Ch
  rw [kE (h := (asB h x).1) f2 (by simp [lim])]
  simp only [Ad]
  rw [bo (gF f2) hc, hcad]
  simp only [hok, cond_true, QV hrow, y2, y3, BEq.rfl]
  rcases y4 with y4 | y4
  ·rw [y4]; rfl
  ·cases ((c.2.2.1.length : Int) == 0) with
   | true => rfl
   | false =>
    simp only [cond_false]
    rw [OB hrow]
    simp only [AW]
    rw [decide_eq_true y4]
end Go.Proofs.YtlknpohjnpnodaaGreat
