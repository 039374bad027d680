/-
 AppendSnapshot: the reference and the program give the same, and how much. No conditions.
-/
import Derived.Test.YtlknpohjnpnodaaGreatApSC1
import Derived.Test.YtlknpohjnpnodaaGreatSnSC1
import Derived.Test.YtlknpohjnpnodaaGreatSmSC1
namespace Go.Proofs.YtlknpohjnpnodaaGreat
open Go.RowKit
set_option linter.unusedVariables false
set_option linter.unusedSimpArgs false
abbrev Hst := Int × List (List Tbl)
theorem ZT {h : Hst} (hs : Hw h) : In h = some h := by
 unfold In
 rw [Gj (a := h.2) (h := id) hs.1 (fun k hk rec => by
  have hr := hs.2 _ (List.getElem_mem hk)
  unfold HQ
  simp only
  rw [AC hk, Ak hk, AH hk (Ax hs.1)]
  simp only [cond_true, Ad, Oh hr]
  rw [Am (by simp only [List.length_map, List.length_take, List.length_singleton]; have := hs.1; omega)]
  rfl) (fun rec y => by unfold HQ; simp only; rw [Ay]; rfl)]
 simp [Ad]
theorem UE {h : Hst} (hs : Hw h) : EU h = some h := by
 unfold EU
 rw [Gj (a := h.2) (h := id) hs.1 (fun k hk rec => by
  have hr := hs.2 _ (List.getElem_mem hk)
  unfold FM
  simp only
  rw [AC hk, Ak hk, AH hk (Ax hs.1)]
  simp only [cond_true, Ad, Mw hr]
  rw [Am (by simp only [List.length_map, List.length_take, List.length_singleton]; have := hs.1; omega)]
  rfl) (fun rec y => by unfold FM; simp only; rw [Ay]; rfl)]
 simp [Ad]
theorem Rq {d : List Tbl} (h : dbB d = true) : d.length <= 6 ∧ ∀ t ∈ d, t.1.length <= 4 ∧ t.2.2.length <= 4000 ∧ ∀ r ∈ t.2.2, r.length <= 5 := by
 simp only [dbB, Bool.and_eq_true, decide_eq_true_eq, Bool.not_eq_true'] at h
 refine ⟨by omega, fun t ht => ?_⟩
 obtain ⟨k, hk, rfl⟩ := List.mem_iff_getElem.1 ht
 have hb := D6 h.2 hk
 simp only [KJ, Bool.or_eq_false_iff, Bool.not_eq_false'] at hb
 obtain ⟨⟨⟨⟨h1, _⟩, h3⟩, _⟩, _⟩ := hb
 obtain ⟨h4, h5, h6, _⟩ := (HK _).1 h3
 refine ⟨?_, h5, fun r hr => by have := (h6 r hr).1; omega⟩
 simp only [nmB, Bool.and_eq_true, btw, decide_eq_true_eq] at h1
 omega
def asB (h : Hst) (x : Dlt) : Hst × Bool :=
 cond (GZ h && (!decide ((6 : Int) <= (h.2.length : Int)) && !decide (99 < IntKind.i64.wrap (h.1 + (h.2.length : Int))))) (match h.2.getLast? with
  | some d => cond (Kh d x).2 ((h.1, h.2 ++ [(Kh d x).1]), true) (h, false)
  | none => (h, false)) (h, false)
theorem Hu {h : Hst} (hv : GZ h = true) : 1 <= h.2.length ∧ h.2.length <= 6 ∧ ∀ d ∈ h.2, dbB d = true := by
 unfold GZ btw at hv
 simp only [Bool.and_eq_true, Bool.not_eq_true', decide_eq_true_eq] at hv
 refine ⟨by omega, by omega, fun d hd => ?_⟩
 obtain ⟨k, hk, rfl⟩ := List.mem_iff_getElem.1 hd
 have := D6 hv.1 hk
 simpa using this
theorem KR {h : Hst} (h1 : 1 <= h.2.length) (h2 : h.2.length <= 6) : ∃ d, AA h.2 (IntKind.i64.wrap ((h.2.length : Int) - 1)) = some d ∧ h.2.getLast? = some d ∧ d ∈ h.2 := by
 have hlt : h.2.length - 1 < h.2.length := by omega
 refine ⟨h.2[h.2.length - 1], ?_, ?_, List.getElem_mem hlt⟩
 ·rw [wrap_in ⟨by omega, by omega⟩, show (h.2.length : Int) - 1 = ((h.2.length - 1 : Nat) : Int) by omega, Ak hlt]
 ·rw [List.getLast?_eq_getElem?, List.getElem?_eq_getElem hlt]
theorem kW {h : Hst} {x : Dlt} (hs : Hw h) (hx : smD x) : Eu h x = some (asB h x) := by
 unfold Eu asB
 simp only [ZT hs, SU hs, Ad]
 cases hv : GZ h with
 | false => rfl
 | true =>
  obtain ⟨h1, h2, h3⟩ := Hu hv
  obtain ⟨d, e1, e2, e3⟩ := KR h1 h2
  have e6 : ((h.2.length : Int) == 6) = decide ((6 : Int) <= (h.2.length : Int)) := by
   rw [Bool.eq_iff_iff, beq_iff_eq, decide_eq_true_eq]; omega
  simp only [Bool.not_true, cond_false, Bool.true_and, e6, e1, e2]
  cases decide ((6 : Int) <= (h.2.length : Int)) with
  | true => rfl
  | false =>
   cases decide (99 < IntKind.i64.wrap (h.1 + (h.2.length : Int))) with
   | true => rfl
   | false =>
    simp only [cond_false, Bool.not_false, Bool.and_self, cond_true]
    have hd := (Rq (h3 d e3)).1
    rw [jA (hs.2 d e3) (by unfold lim; omega) hx]
    simp only
    rw [Am (by unfold lim; simp; omega)]
    cases (Kh d x).2 <;> rfl
theorem kC {h : Hst} {x : Dlt} (hs : Hw h) (hx : smD x) : El h x = some (asB h x) := by
 unfold El asB
 simp only [UE hs, Sg hs, Ad]
 cases hv : GZ h with
 | false => rfl
 | true =>
  obtain ⟨h1, h2, h3⟩ := Hu hv
  obtain ⟨d, e1, e2, e3⟩ := KR h1 h2
  simp only [Bool.not_true, cond_false, Bool.true_and, e1, e2]
  cases decide ((6 : Int) <= (h.2.length : Int)) with
  | true => rfl
  | false =>
   cases decide (99 < IntKind.i64.wrap (h.1 + (h.2.length : Int))) with
   | true => rfl
   | false =>
    simp only [cond_false, Bool.not_false, Bool.and_self, cond_true]
    have hd := (Rq (h3 d e3)).1
    rw [hZ (hs.2 d e3) (by unfold lim; omega) hx]
    simp only
    rw [Am (by unfold lim; simp; omega)]
    cases (Kh d x).2 <;> rfl
end Go.Proofs.YtlknpohjnpnodaaGreat
