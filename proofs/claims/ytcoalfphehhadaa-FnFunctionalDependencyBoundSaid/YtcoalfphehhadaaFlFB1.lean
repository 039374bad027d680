/-
  FunctionalDependencyBound holds. Conditions: none.
-/
import Derived.Test.YtcoalfphehhadaaBbFB1
import Derived.Test.YtcoalfphehhadaaDvFB1
import Derived.Test.YtcoalfphehhadaaDqFB1
import Derived.Test.YtcoalfphehhadaaHpFB1
-- pure
namespace Go.Proofs.Ytcoalfphehhadaa
open Go.RowKit
set_option linter.unusedVariables false
set_option linter.unusedSimpArgs false
section
variable {c : Cur}
theorem fds_ok (h : CurOk c) : Dr (spec_l37Fds c) fun l => l.length ≤ 4 ∧ ∀ f ∈ l, f.2.1.length ≤ 2 := by
  unfold spec_l37Fds
  obtain ⟨n, c1, e1, hn, hc1⟩ := below_ok h (n := 4) (by omega) (by omega)
  rw [e1]
  simp only [obind]
  obtain ⟨o, e, k1, k2⟩ := loop_wh (B := spec_l37Fds_B1) (fun s => CurOk (s.1, s.2.1, s.2.2.1) ∧ 0 ≤ s.2.2.2.2 ∧ (s.2.2.2.1.length : Int) + s.2.2.2.2 ≤ 4 ∧ ∀ f ∈ s.2.2.2.1, f.2.1.length ≤ 2) (fun s => s.2.2.2.2.toNat) (fun o => CurOk (o.1, o.2.1, o.2.2.1) ∧ (o.2.2.2.length ≤ 4 ∧ ∀ f ∈ o.2.2.2, f.2.1.length ≤ 2)) (fun s hs => by
    obtain ⟨b, i, hh, l, k⟩ := s
    obtain ⟨i1, i2, i3, i4⟩ := hs
    simp only at i1 i2 i3 i4
    by_cases h2 : 0 < k
    · right
      obtain ⟨f, c', e, hf, hc⟩ := fd_ok i1
      refine ⟨(c'.1, c'.2.1, c'.2.2, l ++ [f], k - 1), ⟨hc, ?_, ?_, ?_⟩, ?_, fun rec => ?_⟩
      · simp only; omega
      · simp only [List.length_append, List.length_singleton]; omega
      · intro x hx
        rcases List.mem_append.1 hx with hx | hx
        · exact i4 x hx
        · rw [List.mem_singleton] at hx; subst hx; exact hf
      · simp only; omega
      · simp only [spec_l37Fds_B1]
        rw [decide_eq_true h2, e]
        simp only [cond_true, obind]
        rw [chk_pos (by unfold lim; simp only [List.length_singleton]; omega), wrap_in ⟨by omega, by omega⟩]
    · left
      refine ⟨(b, i, hh, l), ⟨i1, by simp only; omega, i4⟩, fun rec => ?_⟩
      simp only [spec_l37Fds_B1]
      rw [decide_eq_false h2]; rfl) fz (c1.1, c1.2.1, c1.2.2, [], n) ⟨hc1, hn.1, by simp only [List.length_nil]; omega, fun f hf => by cases hf⟩ (by unfold fz; simp only; omega)
  rw [e]
  exact ⟨_, _, rfl, k2, k1⟩
end
theorem draw_fc {b : List Int} (h : b.length ≤ 1048576) : ∃ q l vs, spec_DrawFDClosure b = some (q, l, vs) ∧ smQ q ∧ l.length ≤ lim ∧ (∀ f ∈ l, f.2.1.length ≤ lim) ∧ vs.length ≤ 2 := by
  unfold spec_DrawFDClosure
  obtain ⟨c, e, hc⟩ := new_ok h
  rw [e]
  simp only [obind]
  obtain ⟨q, c1, e1, hq, hc1⟩ := qany_ok hc
  rw [e1]
  simp only
  obtain ⟨l, c2, e2, ⟨hl, hf⟩, hc2⟩ := fds_ok hc1
  rw [e2]
  simp only
  obtain ⟨n, c3, e3, hn, hc3⟩ := below_ok hc2 (n := 3) (by omega) (by omega)
  rw [e3]
  simp only
  obtain ⟨vs, c4, e4, ⟨hv, _⟩, hc4⟩ := drow_ok hc3 (n := n) (m := 6) (by omega) (by omega) (by omega)
  rw [e4]
  exact ⟨q, l, vs, rfl, hq.sm, by unfold lim; omega, fun f h => by have := hf f h; unfold lim; omega, by omega⟩
theorem draw_fb {b : List Int} (h : b.length ≤ 1048576) : ∃ d q l, spec_DrawFDBound b = some (d, q, l) ∧ smDb d ∧ smQ q ∧ l.length ≤ lim ∧ ∀ f ∈ l, f.2.1.length ≤ lim := by
  unfold spec_DrawFDBound
  obtain ⟨c, e, hc⟩ := new_ok h
  rw [e]
  simp only [obind]
  obtain ⟨d, c1, e1, hd, hc1⟩ := fdb_ok hc
  rw [e1]
  simp only
  obtain ⟨q, c2, e2, hq, hc2⟩ := qry_ok hc1
  rw [e2]
  simp only
  obtain ⟨l, c3, e3, ⟨hl, hf⟩, hc3⟩ := fds_ok hc2
  rw [e3]
  simp only
  obtain ⟨o, e, k1, k2⟩ := loop_wh (B := spec_DrawFDBound_B1 (d, c1) (l, c3)) (fun (s : List FDep × Int × Cur) => CurOk s.2.2 ∧ 0 ≤ s.2.1 ∧ (s.1.length : Int) ≤ s.2.1 ∧ s.2.1 ≤ l.length ∧ ∀ f ∈ s.1, f ∈ l) (fun s => ((l.length : Int) - s.2.1).toNat) (fun o => o.length ≤ 4 ∧ ∀ f ∈ o, f ∈ l) (fun s hs => by
    obtain ⟨y, k, z⟩ := s
    obtain ⟨i1, i2, i3, i4, i5⟩ := hs
    simp only at i1 i2 i3 i4 i5
    by_cases h2 : k < (l.length : Int)
    · right
      have hg : geti l k = some (l[k.toNat]'(by omega)) := by unfold geti; rw [if_pos i2, List.getElem?_eq_getElem]
      have hm := List.getElem_mem (by omega : k.toNat < l.length)
      generalize l[k.toNat]'(by omega) = f at hg hm
      have hh := (hld_ok hd.sm (f := f) (by have := hf f hm; unfold lim; omega)).1
      have add : ∀ (z' : Cur), CurOk z' → ∃ s' : List FDep × Int × Cur, (CurOk s'.2.2 ∧ 0 ≤ s'.2.1 ∧ (s'.1.length : Int) ≤ s'.2.1 ∧ s'.2.1 ≤ l.length ∧ ∀ f ∈ s'.1, f ∈ l) ∧ ((l.length : Int) - s'.2.1).toNat < ((l.length : Int) - k).toNat ∧ ∀ rec, spec_DrawFDBound_J2 rec (l, c3) y k z'.1 z'.2.1 z'.2.2 true = rec s' := by
        intro z' hz
        refine ⟨(y ++ [f], k + 1, z'), ⟨hz, ?_, ?_, ?_, ?_⟩, ?_, fun rec => ?_⟩
        · simp only; omega
        · simp only [List.length_append, List.length_singleton]; omega
        · simp only; omega
        · intro x hx
          rcases List.mem_append.1 hx with hx | hx
          · exact i5 x hx
          · rw [List.mem_singleton] at hx; subst hx; exact hm
        · simp only; omega
        · unfold spec_DrawFDBound_J2 spec_DrawFDBound_J3
          simp only [cond_true, hg, obind]
          rw [chk_pos (by unfold lim; simp only [List.length_singleton]; omega), wrap_in ⟨by omega, by omega⟩]
      cases hv : hldB d f with
      | true =>
        obtain ⟨s', q1, q2, q3⟩ := add z i1
        refine ⟨s', q1, q2, fun rec => ?_⟩
        simp only [spec_DrawFDBound_B1]
        rw [decide_eq_true h2, hg]
        simp only [cond_true, obind, hh, hv]
        exact q3 rec
      | false =>
        obtain ⟨w, z2, e4, _, hz2⟩ := once_ok i1 (n := 8) (by omega) (by omega)
        cases w with
        | true =>
          obtain ⟨s', q1, q2, q3⟩ := add z2 hz2
          refine ⟨s', q1, q2, fun rec => ?_⟩
          simp only [spec_DrawFDBound_B1]
          rw [decide_eq_true h2, hg]
          simp only [cond_true, cond_false, obind, hh, hv]
          rw [show (z.1, z.2.1, z.2.2) = z from rfl, e4]
          exact q3 rec
        | false =>
          refine ⟨(y, k + 1, z2), ⟨hz2, by simp only; omega, by simp only; omega, by simp only; omega, i5⟩, by simp only; omega, fun rec => ?_⟩
          simp only [spec_DrawFDBound_B1]
          rw [decide_eq_true h2, hg]
          simp only [cond_true, cond_false, obind, hh, hv]
          rw [show (z.1, z.2.1, z.2.2) = z from rfl, e4]
          unfold spec_DrawFDBound_J2 spec_DrawFDBound_J3
          simp only [cond_false]
          rw [wrap_in ⟨by omega, by omega⟩]
    · left
      refine ⟨y, ⟨by omega, i5⟩, fun rec => ?_⟩
      simp only [spec_DrawFDBound_B1]
      rw [decide_eq_false h2]; rfl) fz ([], 0, c3) ⟨hc3, by simp, by simp, by simp, fun f hf => by cases hf⟩ (by unfold fz; simp only; omega)
  rw [e]
  exact ⟨d, q, o, rfl, hd.sm, qry_sm hq, by unfold lim; omega, fun f h => by have := hf f (k2 f h); unfold lim; omega⟩
theorem at_some (b : List Int) : ∃ x, laws_at b 0 = some x := by
  unfold laws_at
  by_cases h : 0 < b.length
  · have g0 : geti b 0 = some (b[0]'h) := geti_at (k := 0) h
    rw [decide_eq_true (by omega : (0 : Int) < (b.length : Int)), g0]
    exact ⟨_, rfl⟩
  · rw [decide_eq_false (by omega : ¬ (0 : Int) < (b.length : Int))]
    exact ⟨_, rfl⟩
theorem has_ok {l : List Int} {x : Int} (h : l.length ≤ lim) (hx : x ∈ l) : laws_has l x = some true := by
  unfold laws_has
  have := find_loop (a := l) (B := laws_has_B1 l x) (fun e => e == x) (fun _ => true) h (fun k hk rec => by
    unfold laws_has_B1
    rw [lt_dec hk, geti_at hk, wrap_s hk (lim_max h)]; rfl) (fun rec => by unfold laws_has_B1; rw [nlt_dec]; rfl)
  rw [this]
  cases hf : l.find? fun e => e == x with
  | some e => rfl
  | none => exact absurd (List.find?_eq_none.1 hf x hx) (by simp)
theorem law_FnFunctionalDependencyBound {b : List Int} (k : ok22 b) : laws_FnFunctionalDependencyBound b = some true := by
  by_cases hb : 1048576 < b.length
  · unfold laws_FnFunctionalDependencyBound laws_big
    rw [decide_eq_true (by omega : (1048576 : Int) < (b.length : Int))]
    rfl
  unfold laws_FnFunctionalDependencyBound laws_big
  rw [decide_eq_false (by omega : ¬ (1048576 : Int) < (b.length : Int))]
  simp only [obind, cond_false]
  obtain ⟨q, l, vs, e, hq, hl, hf, hv⟩ := draw_fc (b := b) (by omega)
  have hv' : vs.length ≤ lim := by unfold lim; omega
  have hlen : ∀ vs, (closB q l vs).length ≤ lim := fun vs => by have := clos_len (q := q) (fs := l) (vs := vs); unfold lim; omega
  rw [e]
  simp only [i_clos hq hl hf hv', s_clos hq hl hf hv', same_self (hlen _), Bool.not_true, cond_false, i_clos hq hl hf (hlen _), clos_idem]
  obtain ⟨x, e0⟩ := at_some b
  rw [chk_pos (by simp only [List.length_nil]; unfold lim; omega), e0]
  simp only [List.nil_append]
  rw [chk_pos (by simp only [List.length_singleton]; unfold lim; omega)]
  have hw : (vs ++ [Int.tmod x 5]).length ≤ lim := by simp only [List.length_append, List.length_singleton]; unfold lim; omega
  rw [i_clos hq hl hf hw]
  simp only
  have hloop : loopF (laws_FnFunctionalDependencyBound_B1 (closB q l vs) (closB q l (vs ++ [Int.tmod x 5]))) fz 0 = some (.inl ()) := by
    have := loop_to (body := laws_FnFunctionalDependencyBound_B1 (closB q l vs) (closB q l (vs ++ [Int.tmod x 5]))) (out := (.inl () : Sum Unit Bool)) (fun k => (k : Int)) (closB q l vs).length (fun k hk rec => by
      unfold laws_FnFunctionalDependencyBound_B1
      rw [lt_dec hk, geti_at hk, wrap_s hk (lim_max (hlen _))]
      simp only [cond_true, obind]
      rw [has_ok (hlen _) (clos_mono (fun y hy => List.mem_append_left _ hy) (List.getElem_mem hk))]
      rfl) (fun rec => by unfold laws_FnFunctionalDependencyBound_B1; rw [nlt_dec]; rfl) fz (lt_fz (hlen _))
    exact this
  rw [hloop]
  simp only
  obtain ⟨d, p, f, e2, hd, hp, hl2, hf2⟩ := draw_fb (b := b) (by omega)
  rw [e2]
  simp only [i_fb hd hp hl2 hf2, s_fb hd hp hl2 hf2, BEq.rfl, cond_true]
  cases hbd : (fbB d p f).2 with
  | false => rfl
  | true =>
    obtain ⟨r, e3, r1, r2, r3⟩ := s_all hd hp
    rw [e3]
    have hq2 : qforB d p = true := by
      cases h : qforB d p with
      | true => rfl
      | false => unfold fbB at hbd; rw [h] at hbd; cases hbd
    obtain ⟨n1, n2⟩ := r3 hq2
    have := bind_bound hd hf2 hbd n1 n2
    simp only [Bool.not_true, cond_false]
    unfold laws_FnFunctionalDependencyBound_J2
    rw [decide_eq_true this]
end Go.Proofs.Ytcoalfphehhadaa
