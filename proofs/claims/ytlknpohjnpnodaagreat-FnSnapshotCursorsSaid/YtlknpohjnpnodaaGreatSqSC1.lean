/-
 Cursors: what the reference gives. On the printed functions; conditions: sizes.
-/
import Derived.Test.YtlknpohjnpnodaaGreatLnSC1
import Derived.Test.YtlknpohjnpnodaaGreatAsSC1
import Derived.Test.YtlknpohjnpnodaaGreatSnSC1
namespace Go.Proofs.YtlknpohjnpnodaaGreat
open Go.RowKit
set_option linter.unusedVariables false
set_option linter.unusedSimpArgs false
theorem PC {h : Hst} (hv : GZ h = true) : 1 <= h.1 ∧ h.1 <= 100 - (h.2.length : Int) := by
 have hf := Hu hv
 unfold GZ btw at hv
 simp only [Bool.and_eq_true, Bool.not_eq_true', decide_eq_true_eq] at hv
 have := hv.2.2
 rw [wrap_in (n := 99 - (h.2.length : Int)) (by omega), wrap_in (by omega)] at this
 omega
theorem UC {h : Hst} (h1 : 1 <= h.2.length) (h2 : h.2.length <= 6) (h3 : ∀ d ∈ h.2, dbB d = true) (h4 : 1 <= h.1) (h5 : h.1 <= 100 - (h.2.length : Int)) : GZ h = true := by
 unfold GZ btw
 rw [LG (fun i hi => by rw [h3 _ (List.getElem_mem hi)]; rfl), wrap_in (n := 99 - (h.2.length : Int)) (by omega), wrap_in (by omega)]
 simp only [Bool.not_false, Bool.true_and, Bool.and_eq_true, decide_eq_true_eq]
 omega
def snB (h : Hst) (v : Int) : List Tbl × Bool := cond (GZ h && btw v h.1 (h.1 + (h.2.length : Int) - 1)) ((h.2[(v - h.1).toNat]?).getD [], true) ([], false)
theorem VN {h : Hst} (hs : Hw h) (v : Int) : GG h v = some (snB h v) ∧ Gv h v = some (snB h v) := by
 unfold GG Gv snB
 simp only [SU hs, Sg hs, Ad, Kz, IH]
 cases hv : GZ h with
 | false => exact ⟨rfl, rfl⟩
 | true =>
  have hf := Hu hv
  have hi := PC hv
  rw [wrap_in (n := h.1 + (h.2.length : Int)) (by omega), wrap_in (n := h.1 + (h.2.length : Int) - 1) (by omega)]
  simp only [Bool.not_true, cond_false, Bool.true_and]
  cases hb : btw v h.1 (h.1 + (h.2.length : Int) - 1) with
  | false => exact ⟨rfl, rfl⟩
  | true =>
   unfold btw at hb
   rw [Bool.and_eq_true, decide_eq_true_eq, decide_eq_true_eq] at hb
   have hk : (v - h.1).toNat < h.2.length := by omega
   have hm := hs.2 _ (List.getElem_mem hk)
   have hg : AA h.2 (IntKind.i64.wrap (v - h.1)) = some h.2[(v - h.1).toNat] := by
    rw [wrap_in (by omega)]
    conv => lhs; rw [show v - h.1 = (((v - h.1).toNat : Nat) : Int) by omega]
    exact Ak hk
   simp only [Bool.not_true, cond_false, cond_true, hg, Oh hm, Mw hm, List.getElem?_eq_getElem hk, Option.getD_some]
   exact ⟨trivial, trivial⟩
theorem eL {h : Hst} (hs : Hw h) (v : Int) : Kb (snB h v).1 := by
 unfold snB
 cases (GZ h && btw v h.1 (h.1 + (h.2.length : Int) - 1)) with
 | false => exact ⟨Nat.zero_le _, fun t ht => (by cases ht)⟩
 | true =>
  show Kb ((h.2[(v - h.1).toNat]?).getD [])
  rcases Nat.lt_or_ge (v - h.1).toNat h.2.length with hk | hk
  ·rw [List.getElem?_eq_getElem hk]; exact hs.2 _ (List.getElem_mem hk)
  ·rw [List.getElem?_eq_none hk]; exact ⟨Nat.zero_le _, fun t ht => (by cases ht)⟩
def smC (c : (Int × List Int × List Int × Qry)) : Prop := c.2.1.length <= lim ∧ c.2.2.1.length <= lim ∧ smQ c.2.2.2
def Mr (h : Hst) (c : (Int × List Int × List Int × Qry)) : (Int × List Int × List Int × Qry) × List Int × Bool := cond (snB h c.1).2 (cond (njB (snB h c.1).1 c.2.2.2 c.2.1 c.2.2.1).2 ((c.1, c.2.1, (njB (snB h c.1).1 c.2.2.2 c.2.1 c.2.2.1).1, c.2.2.2), (njB (snB h c.1).1 c.2.2.2 c.2.1 c.2.2.1).1, true) (c, [], false)) (c, [], false)
theorem jC {c : (Int × List Int × List Int × Qry)} (hc : smC c) : Hh c = some c := by
 unfold Hh
 obtain ⟨h1, h2, h3⟩ := hc
 rw [Am (by simp only [List.length_nil]; omega), Am (by simp only [List.length_nil]; omega), VC h3]
 rfl
theorem d9 {h : Hst} {c : (Int × List Int × List Int × Qry)} (hs : Hw h) (hc : smC c) : DQ h c = some (Mr h c) := by
 unfold DQ Mr
 rw [jC hc, (VN hs c.1).1]
 simp only [Ad]
 cases hv : (snB h c.1).2 with
 | false => rfl
 | true =>
  simp only [Bool.not_true, cond_false, cond_true]
  rw [lb (eL hs c.1) hc.2.2 hc.1 c.2.2.1]
  simp only
  cases (njB (snB h c.1).1 c.2.2.2 c.2.1 c.2.2.1).2 with
  | false => rfl
  | true =>
   simp only [Bool.not_true, cond_false, cond_true, List.nil_append]
   rw [Am (by have := WU (d := (snB h c.1).1) (o := c.2.1) hc.2.2 c.2.2.1; simp only [List.length_nil]; omega)]
theorem fP {h : Hst} {c : (Int × List Int × List Int × Qry)} (hc : smC c) : smC (Mr h c).1 := by
 unfold Mr
 cases (snB h c.1).2 with
 | false => exact hc
 | true =>
  simp only [cond_true]
  cases (njB (snB h c.1).1 c.2.2.2 c.2.1 c.2.2.1).2 with
  | false => exact hc
  | true => exact ⟨hc.1, WU hc.2.2 _, hc.2.2⟩
end Go.Proofs.YtlknpohjnpnodaaGreat
