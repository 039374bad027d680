/-
 DropSnapshots holds. Conditions: none.
-/
import Derived.Test.YtlknpohjnpnodaaGreatDhSC1
import Derived.Test.YtlknpohjnpnodaaGreatDlSC1
import Derived.Test.YtlknpohjnpnodaaGreatSpSC1
import Derived.Test.YtlknpohjnpnodaaGreatHpSC1
namespace Go.Proofs.YtlknpohjnpnodaaGreat
open Go.RowKit
set_option linter.unusedVariables false
set_option linter.unusedSimpArgs false
theorem jD {q : Qry} (hv : LD q = true) : ∃ o, Fs q = some o ∧ o.length <= lim := by
 have hq := Ya hv
 have hn := MK hv
 obtain ⟨n, e⟩ : ∃ n : Nat, q.1 = (n : Int) := ⟨q.1.toNat, by omega⟩
 refine ⟨(List.range n).map fun (i : Nat) => (i : Int), ?_, by rw [List.length_map, List.length_range]; unfold lim; omega⟩
 unfold Fs
 have := BJ (body := CS q) (out := (List.range n).map fun (i : Nat) => (i : Int)) (fun k => ((List.range k).map fun (i : Nat) => (i : Int), (k : Int))) n (fun k hk rec => by
  unfold CS
  simp only
  rw [e, AC hk]
  simp only [cond_true, Oi hq, Ad, hv]
  rw [Am (by rw [List.length_map, List.length_range, List.length_singleton]; unfold lim; omega), wrap_in (by omega), List.range_succ, List.map_append]
  rfl) (fun rec => by unfold CS; simp only; rw [e, Ay]; rfl) fz (by unfold fz; omega)
 have h2 : Ai (CS q) fz (([] : List Int), 0) = some ((List.range n).map fun (i : Nat) => (i : Int)) := this
 rw [h2]; rfl
theorem ZB {c : Cur} (hc : Fd c) {h : Hst} (hs : Hw h) : Dr (Io c h) fun x => smC x := by
 unfold Io
 obtain ⟨q, c1, e1, hq, hc1⟩ := d5 hc
 obtain ⟨o, eo, ho⟩ := jD hq
 have hqs := Ya hq
 have ho2 := jy (h := h) hqs ho
 obtain ⟨n, c2, e2, hn, hc2⟩ := Dw hc1 (n := 3) (by omega) (by omega)
 rw [e1]
 simp only [Ad, eo, lc hs hqs ho, e2]
 obtain ⟨x, ex, hx⟩ := FP (B := GJ h) (fun s => smC (s.1, s.2.1, s.2.2.1, s.2.2.2.1, s.2.2.2.2.1, s.2.2.2.2.2.1) ∧ 0 <= s.2.2.2.2.2.2 ∧ s.2.2.2.2.2.2 <= 3) (fun s => s.2.2.2.2.2.2.toNat) (fun o => smC o) (by
  rintro ⟨y1, y2, y3, y4, y5, y6, y7⟩ ⟨h1, h2, h3⟩
  simp only at h1 h2 h3
  by_cases h0 : 0 < y7
  ·right
   have hsm := fP (h := h) h1
   refine ⟨((Mr h (y1, y2, y3, y4, y5, y6)).1.1, (Mr h (y1, y2, y3, y4, y5, y6)).1.2.1, (Mr h (y1, y2, y3, y4, y5, y6)).1.2.2.1, (Mr h (y1, y2, y3, y4, y5, y6)).1.2.2.2.1, (Mr h (y1, y2, y3, y4, y5, y6)).1.2.2.2.2.1, (Mr h (y1, y2, y3, y4, y5, y6)).1.2.2.2.2.2, y7 - 1), ⟨hsm, by simp only; omega, by simp only; omega⟩, by simp only; omega, fun rec => ?_⟩
   unfold GJ
   simp only
   rw [decide_eq_true h0, d9 hs h1, wrap_in (by omega)]
   rfl
  ·left
   refine ⟨(y1, y2, y3, y4, y5, y6), h1, fun rec => ?_⟩
   unfold GJ
   simp only
   rw [decide_eq_false h0]
   rfl) fz ((ocB h q o).1.1, (ocB h q o).1.2.1, (ocB h q o).1.2.2.1, (ocB h q o).1.2.2.2.1, (ocB h q o).1.2.2.2.2.1, (ocB h q o).1.2.2.2.2.2, n) ⟨ho2, by simp only; omega, by simp only; omega⟩ (by simp only; unfold fz; omega)
 rw [ex]
 obtain ⟨z1, z2, z3, z4, z5, z6⟩ := x
 simp only
 obtain ⟨b, c3, e3, _, hc3⟩ := Ob hc2 (n := 4) (by omega) (by omega)
 rw [e3]
 simp only
 cases b with
 | true =>
  obtain ⟨m, c4, e4, hm, hc4⟩ := Dw hc3 (n := 3) (by omega) (by omega)
  simp only [cond_true, e4, FB]
  exact ⟨_, _, rfl, ⟨hx.1, hx.2.1, hx.2.2⟩, hc4⟩
 | false =>
  simp only [cond_false, FB]
  exact ⟨_, _, rfl, ⟨hx.1, hx.2.1, hx.2.2⟩, hc3⟩
end Go.Proofs.YtlknpohjnpnodaaGreat
